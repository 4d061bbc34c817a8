/-
  Lemmas on the way, joined: EngA, Ty, EngB, Eng18, Eng20, Eng26, EngC, CmdA, CmdG, CmdB.
-/
import Derived.WalkKit
import Derived.StillTail
import Derived.Deep.Quiet
import Derived.Deep.LoopGhost
import Derived.Deep.AppendLies
import Derived.Maps.AppendAt
import Derived.RangeFuncCalls
import Derived.TacticsIn
import Derived.OrdersIn
import Derived.Sort.LoopGhostIn
import Derived.Laws.OwnMore
import Derived.Laws.Tables
import Derived.Laws.BytesString
import Derived.OrdersHeld
import Derived.ProofKit
import Derived.Deep.Slices
import Derived.Deep.Fields
import Derived.OpenShut
import Derived.ChangeSame
import Derived.ShutString
import Derived.ChangeOld
import Derived.Laws.CopyRow
import Derived.Test.YtjklfpccmaljjaaGreatDoorRows
import Derived.KernelRfl
import Derived.Recover
import Derived.Deep.Strs
import Derived.Laws.IdiomStrings
import Derived.Sort.Walk0
import Derived.Sort.EncStr
import Derived.Maps.Keyed
import Derived.DeepKeys4
import Derived.Carry
import Derived.RangeFuncLeaves
import Derived.RangeFuncSeq
import Derived.RangeFuncOwn
import Derived.Sort.OwnSorted
set_option maxRecDepth 100000
set_option linter.unusedVariables false
set_option linter.unusedSimpArgs false
set_option maxHeartbeats 8000000
namespace Go.Proofs.YtjklfpccmaljjaaGreatDoor
theorem au {p : Prop} (h : p := by first | rfl | assumption | exact decide_eq_true (by assumption) | exact decide_eq_false (by assumption) | decide | (simp; done) | (simp; omega) | (simp [*]; done)) : p := h
theorem jo {p : Prop} (h : p := by omega) : p := h
theorem jp {p : Prop} (h : p := by simp) : p := h
theorem jd {p : Prop} (h : p := by decide) : p := h
section
open Go.RowKit
abbrev Env := List (Nat × Value)
def get? : Env → Nat → Option Value
 | [], _ => none
 | (k, v) :: r, t => bif Nat.beq k t then some v else get? r t
def ev? (Γ : Env) : Operand → Option Value
 | .tmp t => get? Γ t
 | .const v => some v
 | .global g => some (.pointer (some ⟨g, 0, none⟩))
 | .func f => some (.func (.func f) #[] #[])
def gN (ρ : Operand → Value) (Γ : Env) : Prop := ∀ x v, ev? Γ x = some v → ρ x = v
structure NF where
 n : Nat
 D : List Deferred
 ro : Option Nat
structure Sat (n : NF) (Γ : Env) (a : Act) : Prop where
 size : a.tmps.size = n.n
 defers : a.defers = n.D
 at_ : ∀ t v, get? Γ t = some v → a.tmps.getD t undef = v
def Sub (Γ : Env) : Env → Prop
 | [] => True
 | (k, v) :: r => get? Γ k = some v ∧ Sub Γ r
section
variable {n : NF} {Γ Γ' : Env} {a : Act}
theorem Sat.fits (h : Sat n Γ a) : gN a.eval Γ := by
 intro x v hx
 cases x with
 | tmp t => exact h.at_ t v hx
 | const u => simp only [ev?, Option.some.injEq] at hx; subst hx; rfl
 | global g => simp only [ev?, Option.some.injEq] at hx; subst hx; rfl
 | func f => simp only [ev?, Option.some.injEq] at hx; subst hx; rfl
theorem Sat.put (h : Sat n Γ a) {d : Nat} (hd : Nat.blt d n.n = true) (v : Value) : Sat n ((d, v) :: Γ) (a.put (some d) v) := by
 refine ⟨by simpa [Act.put] using h.size, by simpa [Act.put] using h.defers, ?_⟩
 intro t u ht
 have hd' : d < n.n := by simpa [Nat.blt_eq] using hd
 have hs := h.size
 by_cases e : d = t
 ·
  subst e
  simp only [get?, Nat.beq_refl, cond_true, Option.some.injEq] at ht
  subst ht
  simp [Act.put, Array.getD, hs, hd']
 have e' : Nat.beq d t = false := by
  cases hb : Nat.beq d t with
  | false => rfl
  | true => exact absurd (Nat.eq_of_beq_eq_true hb) e
 simp only [get?, e', cond_false] at ht
 have := h.at_ t u ht
 simp only [Act.put, Array.getD_eq_getD_getElem?] at this ⊢
 rw [Array.getElem?_setIfInBounds]
 rw [if_neg e]
 exact this
theorem Sub.get (h : Sub Γ Γ') : ∀ t v, get? Γ' t = some v → get? Γ t = some v := by
 induction Γ' with
 | nil => intro t v ht; simp [get?] at ht
 | cons p r ih =>
  obtain ⟨k, u⟩ := p
  intro t v ht
  simp only [get?] at ht
  cases hb : Nat.beq k t with
  | true =>
   rw [hb] at ht
   simp only [cond_true, Option.some.injEq] at ht
   subst ht
   have := Nat.eq_of_beq_eq_true hb
   subst this
   exact h.1
  | false =>
   rw [hb] at ht
   exact ih h.2 t v ht
theorem Sat.sub (h : Sat n Γ a) (hs : Sub Γ Γ') : Sat n Γ' a := ⟨h.size, h.defers, fun t v ht => h.at_ t v (hs.get t v ht)⟩
end
def dF (n : NF) (Q : Exit → Env → World → Prop) (e : Exit) (a : Act) (w : World) : Prop := ∃ Γ, Sat n Γ a ∧ Q e Γ w
def wd (ro : Option Nat) : Fence := { Fence.wide with round := ro }
theorem eP {ro : Option Nat} {m : Nat} {P : Program} {f : FuncId} {args : Array Value} {w : World} {R : Ending → World → Prop} : CallsIn (wd ro) m P f args w R ↔ Calls P f args w R :=
 (Iff.rfl : CallsIn (wd ro) m P f args w R ↔ CallsIn Fence.wide m P f args w R).trans callsIn_wide
theorem bL {ro : Option Nat} {P : Program} {o : Oper} {w : World} {ρ : Operand → Value} : ∀ f, o.about P w ρ = some f → (wd ro).fn f := fun _ _ => trivial
theorem dP {ro : Option Nat} {P : Program} {o : Oper} {ρ : Operand → Value} {w w' : World} {r : Next} (h : (execOp ρ o).run P w = .ok r w') (hr : ∀ d, r ≠ .defer d) : (o.semAt ro ρ).run P w = .ok r w' := by
 cases ho : o.op with
 | defer c =>
  exfalso
  simp only [execOp, ho, Sem.run_bind] at h
  cases hx : (resolve ρ c o.type).run P w with
  | ok d w1 =>
   rw [hx] at h
   simp at h
   exact hr d h.1.symm
  | halt x w1 => rw [hx] at h; simp at h
 | _ => rw [Oper.semAt_eq]; exact h; intro c; rw [ho]; simp
theorem mO {ro : Option Nat} {P : Program} {o : Oper} {ρ : Operand → Value} {w w' : World} {v : Value} (h : (execOp ρ o).run P w = .halt (.panic v) w') : (o.semAt ro ρ).run P w = .halt (.panic v) w' := by
 cases ho : o.op with
 | defer c =>
  cases ro with
  | none => exact h
  | some l =>
   simp only [execOp, ho, Sem.run_bind] at h
   simp only [Oper.semAt, ho, Sem.run_bind]
   cases hx : (resolve ρ c o.type).run P w with
   | ok d w1 => rw [hx] at h; simp at h
   | halt x w1 => rw [hx] at h; simpa using h
 | _ => rw [Oper.semAt_eq]; exact h; intro c; rw [ho]; simp
def VC (P : Program) (n : NF) (c : Code) (Γ : Env) (w : World) (Q : Exit → Env → World → Prop) : Prop := ∀ a, Sat n Γ a → ∀ m, c.wpIn (wd n.ro) m P (dF n Q) a w
def Ops (P : Program) (n : NF) (ops : Array Oper) (l : List Oper) (Γ : Env) (w : World) (Q : Exit → Env → World → Prop) : Prop :=
 ∀ a, Sat n Γ a → ∀ m, wpListIn (wd n.ro) m P ops (dF n Q) l a w
def dV (K : Env → World → Prop) (Q : Exit → Env → World → Prop) : Exit → Env → World → Prop
 | .normal, Γ, w => K Γ w
 | e, Γ, w => Q e Γ w
def dZ (id : Nat) (Q : Exit → Env → World → Prop) : Exit → Env → World → Prop
 | .exit i, Γ, w => if i = id then Q .normal Γ w else Q (.exit i) Γ w
 | e, Γ, w => Q e Γ w
section
variable {P : Program} {n : NF} {Γ Γ' : Env} {w : World} {Q Q' : Exit → Env → World → Prop}
theorem pP (h : ∀ e Γ w, Q e Γ w → Q' e Γ w) (e : Exit) (a : Act) (w : World) (hq : dF n Q e a w) : dF n Q' e a w :=
 let ⟨Γ, hs, q⟩ := hq; ⟨Γ, hs, h _ _ _ q⟩
theorem VC.mono {c : Code} (h : VC P n c Γ w Q) (hq : ∀ e Γ w, Q e Γ w → Q' e Γ w) : VC P n c Γ w Q' :=
 fun a hs m => wpIn_mono (h a hs m) (pP hq)
theorem VC.sub {c : Code} (Γ' : Env) (hs : Sub Γ Γ') (h : VC P n c Γ' w Q) : VC P n c Γ w Q := fun a ha => h a (ha.sub hs)
theorem VC.seq {x y : Code} (h : VC P n x Γ w (dV (fun Γ' w' => VC P n y Γ' w' Q) Q)) : VC P n (.seq x y) Γ w Q := by
 intro a hs m
 refine wpIn_seq (wpIn_mono (h a hs m) ?_)
 intro e a' w' hq
 obtain ⟨Γ', hs', q⟩ := hq
 cases e with
 | normal => exact q a' hs' m
 | exit id => exact ⟨Γ', hs', q⟩
 | goto l => exact ⟨Γ', hs', q⟩
 | ret => exact ⟨Γ', hs', q⟩
 | panic c => exact ⟨Γ', hs', q⟩
 | outgrown => exact ⟨Γ', hs', q⟩
theorem VC.skip (h : Q .normal Γ w) : VC P n .skip Γ w Q := fun _ hs _ => wpIn_skip ⟨Γ, hs, h⟩
theorem VC.ret (h : Q .ret Γ w) : VC P n .ret Γ w Q := fun _ hs _ => wpIn_ret ⟨Γ, hs, h⟩
theorem VC.exit {id : Nat} (h : Q (.exit id) Γ w) : VC P n (.exit id) Γ w Q := fun _ hs _ => wpIn_exit ⟨Γ, hs, h⟩
theorem VC.condB {c : Operand} {x y : Code} {b : Bool} (hc : ev? Γ c = some (.bool b)) (ht : b = true → VC P n x Γ w Q) (hf : b = false → VC P n y Γ w Q) :
  VC P n (.cond c x y) Γ w Q := by
 intro a hs m
 have e := hs.fits _ _ hc
 exact wpIn_cond_split e (fun h => ht h a hs m) (fun h => hf h a hs m)
theorem VC.condT {c : Operand} {x y : Code} {b : Bool} (hc : ev? Γ c = some (.bool b)) (hb : b = true) (h : VC P n x Γ w Q) : VC P n (.cond c x y) Γ w Q :=
 VC.condB hc (fun _ => h) (fun e => by rw [hb] at e; cases e)
theorem VC.condF {c : Operand} {x y : Code} {b : Bool} (hc : ev? Γ c = some (.bool b)) (hb : b = false) (h : VC P n y Γ w Q) : VC P n (.cond c x y) Γ w Q :=
 VC.condB hc (fun e => by rw [hb] at e; cases e) (fun _ => h)
theorem VC.condD {c : Operand} {x y : Code} {p : Prop} [Decidable p] (hc : ev? Γ c = some (.bool (decide p))) (ht : p → VC P n x Γ w Q) (hf : ¬ p → VC P n y Γ w Q) :
  VC P n (.cond c x y) Γ w Q :=
 VC.condB hc (fun e => ht (of_decide_eq_true e)) (fun e => hf (of_decide_eq_false e))
theorem VC.block {id : Nat} {c : Code} (h : VC P n c Γ w (dZ id Q)) : VC P n (.block id c) Γ w Q := by
 intro a hs m
 refine wpIn_block (wpIn_mono (h a hs m) ?_)
 intro e a' w' hq
 obtain ⟨Γ', hs', q⟩ := hq
 cases e with
 | normal => exact ⟨Γ', hs', q⟩
 | exit i =>
  simp only [dZ] at q
  by_cases hi : i = id
  · rw [if_pos hi] at q; simp only [Exit.inBlock, hi, if_true]; exact ⟨Γ', hs', q⟩
  rw [if_neg hi] at q; simp only [Exit.inBlock, hi, if_false]; exact ⟨Γ', hs', q⟩
 | goto l => exact ⟨Γ', hs', q⟩
 | ret => exact ⟨Γ', hs', q⟩
 | panic c => exact ⟨Γ', hs', q⟩
 | outgrown => exact ⟨Γ', hs', q⟩
theorem VC.loop {σ : Type} {c : Code} (env : σ → Env) (inv : σ → World → Prop) (μ : σ → Nat) (s0 : σ) (hs0 : Sub Γ (env s0)) (h0 : inv s0 w)
  (round : ∀ s w, inv s w → VC P n c (env s) w (dV (fun Γ' w' => ∃ s', Sub Γ' (env s') ∧ inv s' w' ∧ μ s' < μ s) Q)) : VC P n (.loop c) Γ w Q := by
 intro a hs m0
 refine wpIn_loop_ghost (fun m a w => ∃ s, μ s = m ∧ Sat n (env s) a ∧ inv s w) (μ s0) ⟨s0, rfl, hs.sub hs0, h0⟩ ?_
 rintro m a w ⟨s, rfl, hsa, hi⟩
 refine wpIn_mono (round s w hi a hsa m0) ?_
 intro e a' w' hq
 obtain ⟨Γ', hs', q⟩ := hq
 cases e with
 | normal =>
  obtain ⟨s', hsub, hinv, hlt⟩ := q
  exact ⟨μ s', hlt, s', rfl, hs'.sub hsub, hinv⟩
 | exit id => exact ⟨Γ', hs', q⟩
 | goto l => exact ⟨Γ', hs', q⟩
 | ret => exact ⟨Γ', hs', q⟩
 | panic c => exact ⟨Γ', hs', q⟩
 | outgrown => exact ⟨Γ', hs', q⟩
theorem VC.region {id : Nat} {l : List Oper} (h : Ops P n l.toArray l Γ w Q) : VC P n (.region id l.toArray false) Γ w Q := fun a hs m => wpIn_region_lit (h a hs m)
theorem Ops.nil {ops : Array Oper} (h : Q .normal Γ w) : Ops P n ops [] Γ w Q := fun _ hs _ => wpListIn_nil ⟨Γ, hs, h⟩
def Run (P : Program) (o : Oper) (Γ : Env) (w : World) (v : Value) : Prop := ∀ ρ, gN ρ Γ → (execOp ρ o).run P w = .ok (.value v) w
def qV (P : Program) (o : Oper) (Γ : Env) (w : World) (R : Value → World → Prop) : Prop := ∀ ρ, gN ρ Γ → ∃ v w', (execOp ρ o).run P w = .ok (.value v) w' ∧ R v w'
def qZ (P : Program) (o : Oper) (Γ : Env) (w : World) (R : World → Prop) : Prop := ∀ ρ, gN ρ Γ → ∃ w', (execOp ρ o).run P w = .ok .skip w' ∧ R w'
def qD (P : Program) (o : Oper) (Γ : Env) (w : World) (f : FuncId) (args : Array Value) : Prop := ∀ ρ, gN ρ Γ → (execOp ρ o).run P w = .ok (.enter f args) w
def lE (P : Program) (o : Oper) (Γ : Env) (w : World) (v : Value) : Prop := ∀ ρ, gN ρ Γ → (execOp ρ o).run P w = .halt (.panic v) w
def yi (ops : Array Oper) (Γ : Env) (j : Nat) : Option Value := ((ops[j]?).bind (·.dst)).bind (get? Γ)
theorem kL {ops : Array Oper} {j : Nat} {b : Bool} {a : Act} (hs : Sat n Γ a) (h : yi ops Γ j = some (.bool b)) : yielded ops a.tmps j = some b := by
 unfold yi at h
 unfold yielded
 cases hd : (ops[j]?).bind (·.dst) with
 | none => rw [hd] at h; simp at h
 | some t =>
  rw [hd] at h
  simp only [Option.bind_some] at h ⊢
  have := hs.at_ t _ h
  rw [Array.getD_eq_getD_getElem?] at this
  cases hg : a.tmps[t]? with
  | none => rw [hg] at this; simp [undef] at this
  | some u => rw [hg] at this; simp only [Option.getD_some] at this; subst this; rfl
def Up (ops : Array Oper) (Γ : Env) (g : Option (Nat × Bool)) : Prop :=
 match g with
 | none => True
 | some (j, b) => yi ops Γ j = some (.bool b)
theorem Up.wanted {ops : Array Oper} {o : Oper} {a : Act} (hs : Sat n Γ a) (h : Up ops Γ o.guard) : Region.wanted o (yielded ops a.tmps) = true := by
 unfold Region.wanted
 unfold Up at h
 split
 · rfl
 rename_i j b hg
 rw [hg] at h
 simp only at h
 rw [kL hs h]
 simp
section
variable {ops : Array Oper} {rest : List Oper} {o : Oper}
theorem Ops.of_wp (hup : Up ops Γ o.guard) (h : ∀ a, Sat n Γ a → ∀ m, o.wpIn (wd n.ro) m P a w (wpListIn (wd n.ro) m P ops (dF n Q) rest) (dF n Q)) : Ops P n ops (o :: rest) Γ w Q := by
 intro a hs m
 unfold wpListIn
 rw [if_pos (hup.wanted hs)]
 exact h a hs m
theorem Ops.run {v : Value} (h : Run P o Γ w v) {d : Nat} (hup : Up ops Γ o.guard) (hd : o.dst = some d) (hn : Nat.blt d n.n = true)
  (k : Ops P n ops rest ((d, v) :: Γ) w Q) : Ops P n ops (o :: rest) Γ w Q :=
 Ops.of_wp hup fun a hs m => by
  refine ⟨bL, ?_⟩
  rw [dP (h _ hs.fits) jp, Oper.uponIn_value, hd]
  exact k _ (hs.put hn v) m
theorem Ops.does {R : Value → World → Prop} (h : qV P o Γ w R) {d : Nat} (hup : Up ops Γ o.guard) (hd : o.dst = some d) (hn : Nat.blt d n.n = true)
  (k : ∀ v w', R v w' → Ops P n ops rest ((d, v) :: Γ) w' Q) : Ops P n ops (o :: rest) Γ w Q :=
 Ops.of_wp hup fun a hs m => by
  obtain ⟨v, w', hr, hR⟩ := h _ hs.fits
  refine ⟨bL, ?_⟩
  rw [dP hr jp, Oper.uponIn_value, hd]
  exact k v w' hR _ (hs.put hn v) m
theorem Ops.acts {R : World → Prop} (h : qZ P o Γ w R) (hup : Up ops Γ o.guard) (hd : o.dst = none)
  (k : ∀ w', R w' → Ops P n ops rest Γ w' Q) : Ops P n ops (o :: rest) Γ w Q :=
 Ops.of_wp hup fun a hs m => by
  obtain ⟨w', hr, hR⟩ := h _ hs.fits
  refine ⟨bL, ?_⟩
  rw [dP hr jp, Oper.uponIn_skip, hd]
  exact k w' hR _ hs m
theorem Ops.skip {j : Nat} {b c : Bool} (hg : o.guard = some (j, c)) (hy : yi ops Γ j = some (.bool b)) (hbc : b = ! c) {d : Nat} (hd : o.dst = some d) (hn : Nat.blt d n.n = true)
  (k : Ops P n ops rest ((d, undef) :: Γ) w Q) : Ops P n ops (o :: rest) Γ w Q := by
 intro a hs m
 unfold wpListIn
 have hw : Region.wanted o (yielded ops a.tmps) = false := by
  unfold Region.wanted
  rw [hg]
  simp only
  rw [kL hs hy, hbc]
  cases c <;> rfl
 rw [hw, hd]
 simp only [Bool.false_eq_true, if_false]
 exact ⟨bL, k _ (hs.put hn undef) m⟩
theorem Ops.call {f : FuncId} {args : Array Value} {R : Ending → World → Prop} (he : qD P o Γ w f args) (hc : Calls P f args w R) {d : Nat} (hup : Up ops Γ o.guard) (hd : o.dst = some d) (hn : Nat.blt d n.n = true)
  (k : ∀ e w', R e w' → ∃ v, e = .returned v ∧ Ops P n ops rest ((d, v) :: Γ) w' Q) : Ops P n ops (o :: rest) Γ w Q :=
 Ops.of_wp hup fun a hs m => by
  refine ⟨bL, ?_⟩
  rw [dP (he _ hs.fits) jp, Oper.uponIn_enter, hd]
  refine ⟨fun h => by simp [wd, Fence.wide] at h, eP.2 (hc.mono ?_)⟩
  intro e w' hR
  obtain ⟨v, rfl, hk⟩ := k e w' hR
  exact hk _ (hs.put hn v) m
theorem Ops.callP {f : FuncId} {args : Array Value} {R : Ending → World → Prop} (he : qD P o Γ w f args) (hc : Calls P f args w R) {d : Nat} (hup : Up ops Γ o.guard) (hd : o.dst = some d) (hn : Nat.blt d n.n = true)
  (k : ∀ e w', R e w' → (∃ v, e = .returned v ∧ Ops P n ops rest ((d, v) :: Γ) w' Q) ∨ (∃ ch, e = .panicked ch ∧ Q (.panic ch) Γ w')) : Ops P n ops (o :: rest) Γ w Q :=
 Ops.of_wp hup fun a hs m => by
  refine ⟨bL, ?_⟩
  rw [dP (he _ hs.fits) jp, Oper.uponIn_enter, hd]
  refine ⟨fun h => by simp [wd, Fence.wide] at h, eP.2 (hc.mono ?_)⟩
  intro e w' hR
  rcases k e w' hR with ⟨v, rfl, hk⟩ | ⟨ch, rfl, hk⟩
  · exact hk _ (hs.put hn v) m
  exact ⟨Γ, hs, hk⟩
theorem Ops.falls {v : Value} (h : lE P o Γ w v) (hup : Up ops Γ o.guard) (k : Q (.panic [{ v, recovered := false }]) Γ w) : Ops P n ops (o :: rest) Γ w Q :=
 Ops.of_wp hup fun a hs m => by
  refine ⟨bL, ?_⟩
  rw [mO (h _ hs.fits), Oper.uponIn_panic]
  exact ⟨Γ, hs, k⟩
end
def cS (ops : Array Oper) : Bool := ops.all fun o => match o.op with | .defer _ => false | _ => true
theorem oV {ops : Array Oper} (h : cS ops = true) {i : Nat} {o : Oper} (hi : ops[i]? = some o) : ∀ c, o.op ≠ .defer c := by
 intro c hc
 unfold cS at h
 rw [Array.all_eq_true'] at h
 obtain ⟨hlt, rfl⟩ := Array.getElem?_eq_some_iff.1 hi
 have := h ops[i] (Array.getElem_mem hlt)
 rw [hc] at this
 cases this
theorem pR {ro : Option Nat} {m : Nat} {row : String} {args : Array Value} {R : Value → World → Prop} (h : Rows P row args w R) : RowsIn (wd ro) m P row args w R := fun c cs _ =>
 let ⟨v, w', r, s⟩ := h c cs; ⟨v, w', r, stepsIn_wide.2 s⟩
theorem Oper.wp_in {ro : Option Nat} {m : Nat} {o : Oper} {a : Act} {K K' : Act → World → Prop} {QQ : Exit → Act → World → Prop} (hnd : ro = none ∨ ∀ c, o.op ≠ .defer c) (hK : ∀ a w, K a w → K' a w) (h : o.wp P a w K QQ) : o.wpIn (wd ro) m P a w K' QQ := by
 refine ⟨bL, ?_⟩
 have e : o.semAt (wd ro).round a.eval = execOp a.eval o := by
  rcases hnd with h | h
  · subst h; rfl
  exact Oper.semAt_eq _ _ _ h
 rw [e]
 unfold Oper.wp at h
 cases hr : (execOp a.eval o).run P w with
 | ok r w' =>
  rw [hr] at h
  cases r with
  | value v => exact hK _ _ h
  | skip => exact hK _ _ h
  | defer d => exact hK _ _ h
  | enter f args =>
   rw [Oper.uponIn_enter]
   rw [Oper.upon_enter] at h
   refine ⟨fun h => by simp [wd, Fence.wide] at h, eP.2 (h.mono ?_)⟩
   intro e w' he
   cases e with
   | returned v => exact hK _ _ he
   | panicked c => exact he
   | outgrown => exact he
  | row row args =>
   rw [Oper.uponIn_row]
   rw [Oper.upon_row] at h
   exact ⟨fun h => by simp [wd, Fence.wide] at h, pR (h.mono fun v w' he => hK _ _ he)⟩
  | _ => exact h.elim
 | halt x w' =>
  rw [hr] at h
  cases x with
  | panic v => exact h
  | _ => exact h.elim
theorem nS {ro : Option Nat} {m : Nat} {ops : Array Oper} {i : Nat} {a : Act} {K K' : Act → World → Prop} {QQ : Exit → Act → World → Prop} (hnd : ro = none ∨ cS ops = true) (hL : ¬ LetsOut QQ) (hK : ∀ a w, K a w → K' a w) (h : wpOp P ops QQ i K a w) : wpOpIn (wd ro) m P ops QQ i K' a w := by
 unfold wpOp at h
 unfold wpOpIn
 cases ho : ops[i]? with
 | none => rw [ho] at h; exact hK _ _ h
 | some o =>
  rw [ho] at h
  dsimp only at h ⊢
  split
  ·
   rename_i hw
   rw [if_pos hw] at h
   rcases h with h | ⟨_, h⟩
   · exact Oper.wp_in (hnd.imp id fun h => oV h ho) hK h
   exact absurd h hL
  rename_i hw
  rw [if_neg hw] at h
  exact ⟨bL, hK _ _ h⟩
theorem fB {ro : Option Nat} {m : Nat} {ops : Array Oper} {QQ : Exit → Act → World → Prop} (hnd : ro = none ∨ cS ops = true) (hL : ¬ LetsOut QQ) : ∀ (f : Nat) (listed : Array Bool) (a : Act) (w : World), wpAny P .any ops QQ f listed a w → wpAnyIn (wd ro) m P .any ops QQ f listed a w
 | 0, _, _, _, h => h
 | f + 1, listed, a, w, h => ⟨h.1, fun i hi => nS hnd hL (fun a w h => fB hnd hL f _ a w h) (h.2 i hi)⟩
theorem fP {ro : Option Nat} {m : Nat} {ops : Array Oper} {QQ : Exit → Act → World → Prop} : ∀ (l : List Oper) (k : Nat) (listed : Array Bool) (a : Act) (w : World), (∀ j, l[j]? = ops[k + j]?) →
  Region.seqB .any ops l.length k listed = true → wpListIn (wd ro) m P ops QQ l a w → wpAnyIn (wd ro) m P .any ops QQ l.length listed a w
 | [], _, _, _, _, _, hB, h => ⟨by simpa [Region.seqB] using hB, h⟩
 | o :: l, k, listed, a, w, hl, hB, h => by
  have h0 : ops[k]? = some o := by simpa using (hl 0).symm
  simp only [List.length_cons, Region.seqB, Bool.and_eq_true, decide_eq_true_eq] at hB
  refine ⟨fun h1 => (by rw [hB.1] at h1; cases h1), fun i hi => ?_⟩
  rw [hB.1] at hi
  have hik : i = k := by simpa using hi
  subst hik
  have hw : wpOpIn (wd ro) m P ops QQ i (wpListIn (wd ro) m P ops QQ l) a w := by unfold wpOpIn; simp only [h0]; exact h
  exact wpOpIn_mono (fun a' w' h' => fP l (i + 1) _ a' w' (fun j => by have := hl (j + 1); simpa [Nat.add_assoc, Nat.add_comm 1 j] using this) hB.2 h') hw
theorem LetsOut.mono {Q Q' : Exit → Act → World → Prop} (h : ∀ e a w, Q e a w → Q' e a w) (hl : LetsOut Q) : LetsOut Q' := let ⟨a, w, q⟩ := hl; ⟨a, w, h _ _ _ q⟩
theorem nQ {F : Fence} {m : Nat} {ops : Array Oper} {Q Q' : Exit → Act → World → Prop} {i : Nat} {K : Act → World → Prop} {a : Act} {w : World} (h : ∀ e a w, Q e a w → Q' e a w) (hh : wpOpIn F m P ops Q i K a w) : wpOpIn F m P ops Q' i K a w := by
 unfold wpOpIn at *
 split
 · simpa [*] using hh
 rename_i o ho
 simp only [ho] at hh
 split
 ·
  rename_i hw
  simp only [hw, if_true] at hh
  unfold Oper.wpIn at *
  refine ⟨hh.1, ?_⟩
  have hh := hh.2
  generalize (o.semAt F.round a.eval).run P w = r at *
  cases r with
  | ok x w' =>
   cases x <;> simp only [Oper.uponIn] at hh ⊢ <;>
    first
     | exact hh
     | exact ⟨hh.1, CallsIn.mono hh.2 (fun e w'' he => by cases e <;> first | exact he | exact h _ _ _ he | exact LetsOut.mono h he)⟩
     | exact ⟨hh.1, RoundIn.mono hh.2 (fun e w'' he => by cases e <;> first | exact he | exact h _ _ _ he | exact LetsOut.mono h he)⟩
  | halt x w' => cases x <;> simp only [Oper.uponIn] at hh ⊢ <;> first | exact hh | exact h _ _ _ hh
 rename_i hw; simp only [hw] at hh; exact hh
theorem fJ {ro : Option Nat} {m : Nat} {ops : Array Oper} {QQ : Exit → Act → World → Prop} {n g : Nat} {L : Array Bool → Act → Prop} (hnd : ro = none ∨ cS ops = true) (hL : ∀ listed a, L listed a → wpAnyIn (wd ro) m P .any ops QQ g listed a w) :
  ∀ (f : Nat) (listed : Array Bool) (a : Act), wpAnyL P .any ops w n L f listed a → wpAnyIn (wd ro) m P .any ops QQ (f + g) listed a w
 | 0, listed, a, h => by rw [Nat.zero_add]; exact hL _ _ h
 | f + 1, listed, a, h => by
  rw [show f + 1 + g = (f + g) + 1 by omega]
  refine ⟨fun h0 => absurd h0 h.1, fun i hi => ?_⟩
  have h2 := wpOp_of_stOp (Q' := fun _ _ _ => False) (K' := fun a' w' => w' = w ∧ wpAnyL P .any ops w n L f (listed.setIfInBounds i true) a') (fun a' h' => ⟨rfl, h'⟩) (h.2 i hi).2
  have h3 := nS (ro := ro) (m := m) (K' := fun a' w' => wpAnyIn (wd ro) m P .any ops QQ (f + g) (listed.setIfInBounds i true) a' w') hnd (fun ⟨_, _, h⟩ => h) (fun a' w' h' => by rw [h'.1]; exact fJ hnd hL f _ a' h'.2) h2
  exact nQ (fun e a w h => h.elim) h3
def qF (w w' : World) : Prop := ∃ m, w' = w.drewN m
section
variable {ops : Array Oper} {rest : List Oper} {o : Oper} {K : Env → Prop}
end
def qC (P : Program) (n : NF) (ops : Array Oper) (l : List Oper) (Γ : Env) (w : World) (K : Env → Prop) : Prop :=
 ∀ a, Sat n Γ a → wpStill P ops w (fun a' => ∃ Γ', Sat n Γ' a' ∧ K Γ') l a
section
variable {ops : Array Oper} {rest : List Oper} {o : Oper} {K : Env → Prop}
theorem dU {K K' : Act → Prop} (h : ∀ a, K a → K' a) : ∀ (l : List Oper) (a : Act), wpStill P ops w K l a → wpStill P ops w K' l a
 | [], a, hq => h a hq
 | o :: l, a, hq => by
  unfold wpStill at hq ⊢
  split
  · rename_i hw; rw [if_pos hw] at hq; exact Oper.still_mono (fun a => dU h l a) hq
  rename_i hw; rw [if_neg hw] at hq; exact dU h l _ hq
theorem qC.nil (h : K Γ) : qC P n ops [] Γ w K := fun _ hs => wpStill_nil ⟨Γ, hs, h⟩
theorem qC.of_still (hup : Up ops Γ o.guard) (h : ∀ a, Sat n Γ a → o.still P a w (wpStill P ops w (fun a' => ∃ Γ', Sat n Γ' a' ∧ K Γ') rest)) : qC P n ops (o :: rest) Γ w K := by
 intro a hs
 unfold wpStill
 rw [if_pos (hup.wanted hs)]
 exact h a hs
theorem qC.run {v : Value} (h : Run P o Γ w v) {d : Nat} (hup : Up ops Γ o.guard) (hd : o.dst = some d) (hn : Nat.blt d n.n = true)
  (k : qC P n ops rest ((d, v) :: Γ) w K) : qC P n ops (o :: rest) Γ w K :=
 qC.of_still hup fun a hs => by
  unfold Oper.still
  rw [h _ hs.fits, Oper.stillUpon_value, hd]
  exact k _ (hs.put hn v)
end
theorem VC.tail {id : Nat} {l : List Oper} (N : Nat) (hm : P.follows .mixedOrders = true) (hB : Region.lexTailB .any l.toArray N = true)
  (h : qC P n l.toArray (l.take N) Γ w.drew (fun Γ' => Ops P n l.toArray (l.drop N) Γ' w.drew Q)) (hnd : n.ro = none ∨ cS l.toArray = true := by first | exact .inl rfl | exact .inr (by kernel_rfl)) : VC P n (.region id l.toArray true) Γ w Q := by
 intro a hs m
 have h1 := dU (K' := fun a' => wpListIn (wd n.ro) m P l.toArray (dF n Q) (l.drop N) a' w.drew) (fun a' ⟨Γ', hs', hk⟩ => hk a' hs' m) _ a (h a hs)
 simp only [Region.lexTailB, Bool.and_eq_true, decide_eq_true_eq] at hB
 obtain ⟨⟨⟨⟨hsel, hn⟩, hsk⟩, hc⟩, hlex⟩ := hB
 have htl : (l.take N).length = N := by simp; simp at hn; omega
 have hdl : (l.drop N).length = l.toArray.size - N := jp
 have inv0 : HeadInv .any l.toArray N (Array.replicate l.toArray.size false) :=
  ⟨jp, fun j oj _ hl => (by rw [getD_replicate_false] at hl; cases hl), fun t _ ht => getD_in (by simpa using ht) (getD_replicate_false _ _)⟩
 have H := wpAnyL_lex (md := .any) (g := l.toArray.size - N) hsel hsk hc hn (l.take N) 0 _ a (fun j hj => by
  have hj' : j < N := by rw [htl] at hj; exact hj
  simp [hj']) (by simpa using htl) inv0 (by rw [htl]; exact hlex) h1
 refine wpIn_region_any hm ?_
 have := fJ (QQ := dF n Q) (g := l.toArray.size - N) hnd (fun listed a' hL => by
  have := fP (QQ := dF n Q) (l.drop N) N listed a' w.drew (fun j => by simp [List.getElem?_drop]) (by rw [hdl]; exact hL.1) hL.2
  rwa [hdl] at this) _ _ _ H
 rw [htl, show N + (l.toArray.size - N) = l.toArray.size by simp at hn ⊢; omega] at this
 exact this
theorem VC.still {id : Nat} {l : List Oper} (hm : P.follows .mixedOrders = true) (hB : Region.lexB .any l.toArray = true)
  (h : qC P n l.toArray l Γ w.drew (fun Γ' => Q .normal Γ' w.drew)) (hnd : n.ro = none ∨ cS l.toArray = true := by first | exact .inl rfl | exact .inr (by kernel_rfl)) : VC P n (.region id l.toArray true) Γ w Q := by
 intro a hs m
 have h1 := dU (K' := fun a' => dF n Q .normal a' w.drew) (fun a' ⟨Γ', hs', hk⟩ => ⟨Γ', hs', hk⟩) _ a (h a hs)
 simp only [Region.lexB, Bool.and_eq_true] at hB
 refine wpIn_mono (Q := fun e a w => e = .normal ∧ dF n Q .normal a w) (wpIn_region_any hm (fB (QQ := fun e a w => e = .normal ∧ dF n Q .normal a w) hnd (fun ⟨_, _, h⟩ => by cases h.1) _ _ _ _
  (wpAny_of_still (w := w.drew) (Q := fun a' => dF n Q .normal a' w.drew) (fun _ h => ⟨rfl, h⟩) _ _ _ ?_))) (fun e a w h => by rw [h.1]; exact h.2)
 have := wpAnyS_lex (md := .any) hB.1 l.toArray.toList 0 (Array.replicate l.toArray.size false) a jp (by simpa using hB.2) (by simpa using h1)
 simpa using this
def oW (tmps : Array Value) : ResultVar → Sem Value
 | .tmp t => pure (tmps.getD t undef)
 | .cell a t => do loadVar t (← asAddr (tmps.getD a undef))
def oY : List Value → Value
 | [v] => v
 | l => .tuple l.toArray
theorem oG (fn : Func) (tmps : Array Value) : results fn tmps = (do let vs ← fn.results.mapM (oW tmps); pure (if h : vs.size = 1 then vs[0] else .tuple vs)) := by
 unfold results
 congr 1
def dW (P : Program) : List ResultVar → Env → World → (List Value → Prop) → Prop
 | [], _, _, K => K []
 | .tmp t :: r, Γ, w, K => ∃ v, get? Γ t = some v ∧ dW P r Γ w fun vs => K (v :: vs)
 | .cell t T :: r, Γ, w, K => ∃ a v, get? Γ t = some (.pointer (some a)) ∧ (loadVar T a).run P w = .ok v w ∧ dW P r Γ w fun vs => K (v :: vs)
theorem hZ {P : Program} {n : NF} {Γ : Env} {a : Act} {w : World} (hs : Sat n Γ a) : ∀ (l : List ResultVar) (K : List Value → Prop), dW P l Γ w K → ∃ vs, (l.mapM (oW a.tmps)).run P w = .ok vs w ∧ K vs
 | [], K, h => ⟨[], jp, h⟩
 | .tmp t :: r, K, h => by
  obtain ⟨v, h1, h2⟩ := h
  obtain ⟨vs, h3, h4⟩ := hZ hs r _ h2
  have h5 := hs.at_ t v h1
  refine ⟨v :: vs, ?_, h4⟩
  rw [List.mapM_cons]
  simp [oW, h3]
  simpa using h5
 | .cell t T :: r, K, h => by
  obtain ⟨p, v, h1, h2, h3⟩ := h
  obtain ⟨vs, h4, h5⟩ := hZ hs r _ h3
  have h6 := hs.at_ t _ h1
  refine ⟨v :: vs, ?_, h5⟩
  have h7 : (asAddr (.pointer (some p))).run P w = .ok p w := rfl
  rw [List.mapM_cons]
  simp [oW, h4, h6, h2, h7]
theorem cY {P : Program} {n : NF} {Γ : Env} {a : Act} {w : World} (hs : Sat n Γ a) {fn : Func} {res : Array ResultVar} (hr : fn.results = res) {K : List Value → Prop} (h : dW P res.toList Γ w K) : ∃ vs, (results fn a.tmps).run P w = .ok (oY vs) w ∧ K vs := by
 obtain ⟨vs, h1, h2⟩ := hZ hs _ K h
 refine ⟨vs, ?_, h2⟩
 rw [oG, hr, Array.mapM_eq_mapM_toList]
 simp [h1]
 match vs with
 | [] => rfl
 | [v] => rfl
 | v :: u :: r => simp [oY]
def cG (P : Program) (res : Array ResultVar) (R : Ending → World → Prop) : Exit → Env → World → Prop
 | .normal, Γ, w | .ret, Γ, w => dW P res.toList Γ w fun vs => R (.returned (oY vs)) w
 | .panic ch, _, w => R (.panicked ch) w
 | _, _, _ => False
def argEnv : Nat → List Value → Env
 | _, [] => []
 | k, v :: r => (k, v) :: argEnv (k + 1) r
theorem eR (l : List Value) : ∀ (k t : Nat) (v : Value), get? (argEnv k l) t = some v → k ≤ t ∧ l[t - k]? = some v := by
 induction l with
 | nil => intro k t v h; simp [argEnv, get?] at h
 | cons u r ih =>
  intro k t v h
  simp only [argEnv, get?] at h
  cases hb : Nat.beq k t with
  | true =>
   rw [hb] at h
   simp only [cond_true, Option.some.injEq] at h
   have := Nat.eq_of_beq_eq_true hb
   subst this
   subst h
   simp
  | false =>
   rw [hb] at h
   obtain ⟨h1, h2⟩ := ih (k + 1) t v h
   refine ⟨jo, ?_⟩
   have e : t - k = (t - (k + 1)) + 1 := jo
   rw [e, List.getElem?_cons_succ]
   exact h2
theorem VC.calls {f : FuncId} {fn : Func} {c : Code} {args : List Value} {w : World} {R : Ending → World → Prop} {nt : Nat} {res : Array ResultVar}
  (hf : P.funcs[f]? = some fn) (hb : fn.body = some c) (hn : fn.ntmps = nt) (hr : fn.results = res) (hl0 : Nat.ble args.length nt = true)
  (h : VC P ⟨nt, [], none⟩ c (argEnv 0 args) w (cG P res R)) : Calls P f args.toArray w R := by
 have hl : args.length ≤ nt := Nat.le_of_ble_eq_true hl0
 refine calls_of_wp hf hb ?_
 refine wpIn_wide.1 (wpIn_mono (h _ ?_ 0) ?_)
 ·
  refine ⟨?_, rfl, ?_⟩
  ·
   simp only [Array.size_append, List.size_toArray, Array.size_replicate, hn]
   omega
  intro t v ht
  obtain ⟨_, h2⟩ := eR args 0 t v ht
  simp only [Nat.sub_zero] at h2
  have hlt : t < args.length := (List.getElem?_eq_some_iff.1 h2).1
  rw [Array.getD_eq_getD_getElem?, Array.getElem?_append_left (by simpa using hlt)]
  simp [h2]
 intro e a w hq
 obtain ⟨Γ, hs, q⟩ := hq
 have key : ∀ (Γ : Env), Sat ⟨nt, [], none⟩ Γ a → cG P res R .ret Γ w → ∃ v, (results fn a.tmps).run P w = .ok v w ∧ R (.returned v) w := by
  intro Γ hs q
  simp only [cG] at q
  obtain ⟨vs, h1, h2⟩ := cY hs hr q
  exact ⟨_, h1, h2⟩
 cases e with
 | normal => obtain ⟨v, h1, h2⟩ := key Γ hs q; exact ⟨hs.defers, v, h1, h2⟩
 | ret => obtain ⟨v, h1, h2⟩ := key Γ hs q; exact ⟨hs.defers, v, h1, h2⟩
 | panic ch => exact ⟨hs.defers, q⟩
 | exit id => exact q.elim
 | goto l => exact q.elim
 | outgrown => exact q.elim
end
def Bin (op : BinOp) (k : IntKind) (x : Int) (k' : IntKind) (y : Int) (v : Value) : Prop := ∀ (P : Program) (T : TypeId) (w : World), (binOp op T (.int k x) (.int k' y)).run P w = .ok v w
def bmax (k : IntKind) : Nat := match k with | .i8 => 127 | .i16 => 32767 | .i32 => 2147483647 | .i64 => 9223372036854775807 | .u8 => 255 | .u16 => 65535 | .u32 => 4294967295 | .u64 => 18446744073709551615
def oH (k : IntKind) : Int := match k with | .i8 => -128 | .i16 => -32768 | .i32 => -2147483648 | .i64 => -9223372036854775808 | _ => 0
theorem lA (k : IntKind) (x : Int) (h1 : oH k ≤ x) (h2 : x ≤ (bmax k : Int)) : k.wrap x = x := by
 cases k <;> simp only [oH, bmax] at h1 h2
 · exact IntWalk.i8_in _ ⟨h1, jo⟩
 · exact IntWalk.i16_in _ ⟨h1, jo⟩
 · exact IntWalk.i32_in _ ⟨h1, jo⟩
 · exact IntWalk.i64_in _ ⟨h1, jo⟩
 · exact IntWalk.u8_in _ ⟨h1, jo⟩
 · exact IntWalk.u16_in _ ⟨h1, jo⟩
 · exact IntWalk.u32_in _ ⟨h1, jo⟩
 exact IntWalk.u64_in _ ⟨h1, jo⟩
theorem eF (k : IntKind) (x : Nat) (h : x ≤ bmax k) : k.wrap (x : Int) = x := lA k x (by cases k <;> simp only [oH] <;> omega) (by exact_mod_cast h)
section
variable {k : IntKind}
theorem Bin.add (x y : Int) (h1 : oH k ≤ x + y) (h2 : x + y ≤ (bmax k : Int)) : Bin .add k x k y (.int k (x + y)) := fun P T w => by simp [binOp, Op.intArith, lA k _ h1 h2]
theorem Bin.lss (x y : Int) : Bin .lss k x k y (.bool (decide (x < y))) := fun P T w => by simp [binOp, Op.intCmp]
theorem Bin.gtr (x y : Int) : Bin .gtr k x k y (.bool (decide (y < x))) := fun P T w => by simp [binOp, Op.intCmp]
theorem Bin.geq (x y : Int) : Bin .geq k x k y (.bool (decide (y ≤ x))) := fun P T w => by simp [binOp, Op.intCmp]
theorem Bin.eql (x y : Int) : Bin .eql k x k y (.bool (decide (x = y))) := fun P T w => by simp [binOp, Op.intCmp]; rfl
theorem Bin.neq (x y : Int) : Bin .neq k x k y (.bool (decide (x ≠ y))) := fun P T w => by
 simp only [binOp, Op.intCmp, ne_eq, not_true_eq_false, if_false]
 show Result.ok (Value.bool (x != y)) w = _
 congr 2
 rw [Bool.eq_iff_iff]; simp
theorem Bin.addN (x y : Nat) (h : x + y ≤ bmax k) : Bin .add k x k y (.int k ((x + y : Nat) : Int)) := fun P T w => by
 have e : ((x : Int) + (y : Int)) = ((x + y : Nat) : Int) := rfl
 simp only [binOp, Op.intArith, ne_eq, not_true_eq_false, if_false, e, eF k _ h]; rfl
theorem Bin.subN (x y : Nat) (hy : y ≤ x) (h : x - y ≤ bmax k) : Bin .sub k x k y (.int k ((x - y : Nat) : Int)) := fun P T w => by
 have e : ((x : Int) - (y : Int)) = ((x - y : Nat) : Int) := (Int.ofNat_sub hy).symm
 simp only [binOp, Op.intArith, ne_eq, not_true_eq_false, if_false, e, eF k _ h]; rfl
theorem Bin.mulN (x y : Nat) (h : x * y ≤ bmax k) : Bin .mul k x k y (.int k ((x * y : Nat) : Int)) := fun P T w => by
 have e : ((x : Int) * (y : Int)) = ((x * y : Nat) : Int) := rfl
 simp only [binOp, Op.intArith, ne_eq, not_true_eq_false, if_false, e, eF k _ h]; rfl
theorem Bin.lssN (x y : Nat) : Bin .lss k x k y (.bool (decide (x < y))) := fun P T w => by simp [binOp, Op.intCmp]
theorem Bin.leqN (x y : Nat) : Bin .leq k x k y (.bool (decide (x ≤ y))) := fun P T w => by simp [binOp, Op.intCmp]
theorem Bin.gtrN (x y : Nat) : Bin .gtr k x k y (.bool (decide (y < x))) := fun P T w => by simp [binOp, Op.intCmp]
theorem Bin.geqN (x y : Nat) : Bin .geq k x k y (.bool (decide (y ≤ x))) := fun P T w => by simp [binOp, Op.intCmp]
theorem Bin.eqlN (x y : Nat) : Bin .eql k x k y (.bool (decide (x = y))) := fun P T w => by
 have := Bin.eql (k := k) x y P T w
 simpa [Int.natCast_inj] using this
theorem Bin.neqN (x y : Nat) : Bin .neq k x k y (.bool (decide (x ≠ y))) := fun P T w => by
 have := Bin.neq (k := k) x y P T w
 simpa [Int.natCast_inj] using this
theorem Bin.quoN (x y : Nat) (hy : y ≠ 0) (h : x / y ≤ bmax k) : Bin .quo k x k y (.int k ((x / y : Nat) : Int)) := fun P T w => by
 have e : ((x : Int).tdiv (y : Int)) = ((x / y : Nat) : Int) := rfl
 have hy' : ¬ ((y : Int) = 0) := jo
 simp only [binOp, Op.intDiv, ne_eq, not_true_eq_false, hy', if_false, e, eF k _ h]; rfl
theorem Bin.remN (x y : Nat) (hy : y ≠ 0) : Bin .rem k x k y (.int k ((x % y : Nat) : Int)) := fun P T w => by
 have e : ((x : Int).tmod (y : Int)) = ((x % y : Nat) : Int) := rfl
 have hy' : ¬ ((y : Int) = 0) := jo
 simp only [binOp, Op.intDiv, ne_eq, not_true_eq_false, hy', if_false, e]; rfl
end
section
variable {P : Program} {Γ : Env} {w : World} {dst : Option Tmp} {T : TypeId} {pos : String} {after : Array Edge} {g : Option (Nat × Bool)}
theorem Run.mv {x : Operand} {v : Value} (h : ev? Γ x = some v) : Run P ⟨dst, .move x, T, pos, after, g⟩ Γ w v := fun ρ hρ => by
 simp [execOp, hρ _ _ h]
theorem Run.asg {x : Operand} {v : Value} (h : ev? Γ x = some v) : Run P ⟨dst, .assign x, T, pos, after, g⟩ Γ w v := fun ρ hρ => by
 simp [execOp, hρ _ _ h]
theorem Run.pickT {c x y : Operand} {b : Bool} {u : Value} (hc : ev? Γ c = some (.bool b)) (hx : ev? Γ x = some u) (hb : b = true) :
  Run P ⟨dst, .pick c x y, T, pos, after, g⟩ Γ w u := fun ρ hρ => by
 simp [execOp, hρ _ _ hc, hρ _ _ hx, asBool, hb]
theorem Run.pickF {c x y : Operand} {b : Bool} {v : Value} (hc : ev? Γ c = some (.bool b)) (hy : ev? Γ y = some v) (hb : b = false) :
  Run P ⟨dst, .pick c x y, T, pos, after, g⟩ Γ w v := fun ρ hρ => by
 simp [execOp, hρ _ _ hc, hρ _ _ hy, asBool, hb]
theorem Run.bin {op : BinOp} {xT yT : TypeId} {x y : Operand} {k k' : IntKind} {a b : Int} {v : Value} (hx : ev? Γ x = some (.int k a)) (hy : ev? Γ y = some (.int k' b)) (hb : Bin op k a k' b v) :
  Run P ⟨dst, .binOp op xT x y yT, T, pos, after, g⟩ Γ w v := fun ρ hρ => by
 have h0 : (eqGuard op xT x y (.int k a) (.int k' b)).run P w = .ok () w := by
  unfold eqGuard
  split <;> rfl
 have h1 := hb P xT w
 simp only [execOp, hρ _ _ hx, hρ _ _ hy, Sem.run_bind, h0, Result.andThen_ok, h1, Sem.run_pure]
theorem Run.not {xT : TypeId} {x : Operand} {b : Bool} (hx : ev? Γ x = some (.bool b)) : Run P ⟨dst, .unOp .not xT x, T, pos, after, g⟩ Γ w (.bool (! b)) := fun ρ hρ => by
 simp [execOp, hρ _ _ hx, Op.unary]
theorem Run.nilck {x : Operand} {a : Addr} (hx : ev? Γ x = some (.pointer (some a))) : Run P ⟨dst, .nilCheck x, T, pos, after, g⟩ Γ w (.pointer (some a)) := fun ρ hρ => by
 simp [execOp, hρ _ _ hx]
theorem Run.conv {src dstT : TypeId} {x : Operand} {k k' : IntKind} {a : Int} {d : TypeDesc} (hx : ev? Γ x = some (.int k a)) (hs : P.underlying src = some d) (hd : P.underlying dstT = some (.int k')) (r : Int) (hr : k'.wrap a = r) :
  Run P ⟨dst, .convert src dstT x, T, pos, after, g⟩ Γ w (.int k' r) := fun ρ hρ => by
 simp [execOp, hρ _ _ hx, convert, run_underlying hs, run_underlying hd, Conv.intToInt, hr]
theorem Run.convN {src dstT : TypeId} {x : Operand} {k k' : IntKind} {d : TypeDesc} (a : Nat) (hx : ev? Γ x = some (.int k a)) (hs : P.underlying src = some d) (hd : P.underlying dstT = some (.int k')) (hr : a ≤ bmax k') :
  Run P ⟨dst, .convert src dstT x, T, pos, after, g⟩ Γ w (.int k' a) := Run.conv hx hs hd _ (eF k' a hr)
theorem Run.fieldAddr {s : TypeId} {x : Operand} {f : Nat} {a : Addr} {fs : Array Field} {fd : Field} {sz : Nat} (hx : ev? Γ x = some (.pointer (some a))) (hs : P.underlying s = some (.struct fs)) (hf : fs[f]? = some fd)
  (hz : ∀ w, (sizeOf fd.type).run P w = .ok sz w) (hz0 : sz ≠ 0) : Run P ⟨dst, .fieldAddr s x f, T, pos, after, g⟩ Γ w (.pointer (some (a.add fd.offset))) := fun ρ hρ => by
 simp [execOp, hρ _ _ hx, Instr.fieldAt, run_underlying hs, hf, Instr.sureAddr, fieldPlace, hz, hz0]
theorem Run.indexS {t : TypeId} {x i : Operand} {a : Addr} {len cap : Nat} {k : IntKind} {e : TypeId} {sz : Nat} (j : Nat) (hx : ev? Γ x = some (.slice (some a) len cap)) (hi : ev? Γ i = some (.int k j)) (ht : P.underlying t = some (.slice e))
  (hz : ∀ w, (sizeOf e).run P w = .ok sz w) (hj : j < len) : Run P ⟨dst, .indexAddr t x i, T, pos, after, g⟩ Γ w (.pointer (some (a.add (j * sz)))) := fun ρ hρ => by
 have h1 : (j : Int) < (len : Int) := jo
 simp [execOp, hρ _ _ hx, hρ _ _ hi, Instr.indexAt, asIntOf, run_underlying ht, hz, hj]
theorem Run.index1 {t : TypeId} {x i : Operand} {a : Addr} {len cap : Nat} {k : IntKind} {e : TypeId} (j : Nat) (hx : ev? Γ x = some (.slice (some a) len cap)) (hi : ev? Γ i = some (.int k j)) (ht : P.underlying t = some (.slice e))
  (hz : ∀ w, (sizeOf e).run P w = .ok 1 w) (hj : j < len) : Run P ⟨dst, .indexAddr t x i, T, pos, after, g⟩ Γ w (.pointer (some (a.add j))) := by
 have := Run.indexS (P := P) (Γ := Γ) (w := w) (dst := dst) (T := T) (pos := pos) (after := after) (g := g) j hx hi ht hz hj
 rwa [Nat.mul_one] at this
theorem Run.load {t : TypeId} {x : Operand} {a : Addr} {v : Value} (hx : ev? Γ x = some (.pointer (some a))) (ht : ∀ w, (isAgg t).run P w = .ok false w) (hc : w.cell? a = some v) :
  Run P ⟨dst, .load t x, T, pos, after, g⟩ Γ w v := fun ρ hρ => by
 simp [execOp, hρ _ _ hx, Instr.loadAt, Instr.sureAddr, loadVar, ht, hc]
theorem Run.loadA {t : TypeId} {x : Operand} {a : Addr} {cs : List Value} {sz : Nat} (hx : ev? Γ x = some (.pointer (some a))) (ht : ∀ w, (isAgg t).run P w = .ok true w) (hz : ∀ w, (sizeOf t).run P w = .ok sz w)
  (hc : ∀ j v, cs[j]? = some v → w.cell? (a.add j) = some v) (hl : cs.length = sz) : Run P ⟨dst, .load t x, T, pos, after, g⟩ Γ w (.agg cs.toArray) := fun ρ hρ => by
 subst hl
 simp [execOp, hρ _ _ hx, Instr.loadAt, Instr.sureAddr, loadVar, ht, hz, run_loadCells_list w a cs hc]
theorem Run.lenS {t : TypeId} {x : Operand} {a : Option Addr} {len cap : Nat} {e : TypeId} (hx : ev? Γ x = some (.slice a len cap)) (ht : P.underlying t = some (.slice e)) :
  Run P ⟨dst, .call ⟨.builtin .len, #[x], #[t]⟩, T, pos, after, g⟩ Γ w (.int .i64 len) := fun ρ hρ => by
 simp [execOp, resolve, invoke, builtin, Builtin.len_, hρ _ _ hx, run_underlying ht, goInt]
theorem Run.lenStr {t : TypeId} {x : Operand} {s : ByteArray} (hx : ev? Γ x = some (.string s)) (ht : P.underlying t = some .string) :
  Run P ⟨dst, .call ⟨.builtin .len, #[x], #[t]⟩, T, pos, after, g⟩ Γ w (.int .i64 s.size) := fun ρ hρ => by
 simp [execOp, resolve, invoke, builtin, Builtin.len_, hρ _ _ hx, run_underlying ht, goInt]
theorem Run.extract {x : Operand} {ix : Nat} {vs : Array Value} {v : Value} (hx : ev? Γ x = some (.tuple vs)) (hv : vs[ix]? = some v) : Run P ⟨dst, .extract x ix, T, pos, after, g⟩ Γ w v := fun ρ hρ => by
 simp [execOp, hρ _ _ hx, Instr.extract, hv]
theorem Run.eqlB {t yT : TypeId} {x y : Operand} {a b : Bool} (hx : ev? Γ x = some (.bool a)) (hy : ev? Γ y = some (.bool b)) (ht : P.underlying t = some .bool) :
  Run P ⟨dst, .binOp .eql t x y yT, T, pos, after, g⟩ Γ w (.bool (a == b)) := fun ρ hρ => by
 have h0 : ∀ d : Nat, (Op.equalIn (d + 1) t (.bool a) (.bool b)).run P w = .ok (a == b) w := fun d => by simp [Op.equalIn, run_underlying ht]
 have h1 : (Op.equal t (.bool a) (.bool b)).run P w = .ok (a == b) w := h0 9999
 simp [execOp, hρ _ _ hx, hρ _ _ hy, eqGuard, binOp, h1]
theorem Run.neqB {t yT : TypeId} {x y : Operand} {a b : Bool} (hx : ev? Γ x = some (.bool a)) (hy : ev? Γ y = some (.bool b)) (ht : P.underlying t = some .bool) :
  Run P ⟨dst, .binOp .neq t x y yT, T, pos, after, g⟩ Γ w (.bool (a != b)) := fun ρ hρ => by
 have h0 : ∀ d : Nat, (Op.equalIn (d + 1) t (.bool a) (.bool b)).run P w = .ok (a == b) w := fun d => by simp [Op.equalIn, run_underlying ht]
 have h1 : (Op.equal t (.bool a) (.bool b)).run P w = .ok (a == b) w := h0 9999
 simp [execOp, hρ _ _ hx, hρ _ _ hy, eqGuard, binOp, h1, bne]
theorem Run.eqlStr {t yT : TypeId} {x y : Operand} {a b : ByteArray} (hx : ev? Γ x = some (.string a)) (hy : ev? Γ y = some (.string b)) :
  Run P ⟨dst, .binOp .eql t x y yT, T, pos, after, g⟩ Γ w (.bool (decide (a.data.toList = b.data.toList))) := fun ρ hρ => by
 have e : (a.data.toList == b.data.toList) = decide (a.data.toList = b.data.toList) := by rw [Bool.eq_iff_iff]; simp
 simp [execOp, hρ _ _ hx, hρ _ _ hy, eqGuard, binOp, Op.stringOp, ByteArray.toList_eq, e]
theorem Run.neqStr {t yT : TypeId} {x y : Operand} {a b : ByteArray} (hx : ev? Γ x = some (.string a)) (hy : ev? Γ y = some (.string b)) :
  Run P ⟨dst, .binOp .neq t x y yT, T, pos, after, g⟩ Γ w (.bool (decide (a.data.toList ≠ b.data.toList))) := fun ρ hρ => by
 have e : (a.data.toList == b.data.toList) = decide (a.data.toList = b.data.toList) := by rw [Bool.eq_iff_iff]; simp
 simp [execOp, hρ _ _ hx, hρ _ _ hy, eqGuard, binOp, Op.stringOp, ByteArray.toList_eq, e]
theorem Run.addStr {t yT : TypeId} {x y : Operand} {a b : ByteArray} (hx : ev? Γ x = some (.string a)) (hy : ev? Γ y = some (.string b)) (hs : a.size + b.size ≤ 9223372036854775807) :
  Run P ⟨dst, .binOp .add t x y yT, T, pos, after, g⟩ Γ w (.string (a ++ b)) := fun ρ hρ => by
 have h := run_string_add_sum (P := P) w a b hs
 simp [execOp, hρ _ _ hx, hρ _ _ hy, eqGuard, binOp, h]
theorem Run.indexStr {t : TypeId} {x i : Operand} {s : ByteArray} {k : IntKind} (j : Nat) (b : UInt8) (hx : ev? Γ x = some (.string s)) (hi : ev? Γ i = some (.int k j)) (ht : P.underlying t = some .string) (hj : s.data.toList[j]? = some b) :
  Run P ⟨dst, .index t x i, T, pos, after, g⟩ Γ w (.int .u8 b.toNat) := fun ρ hρ => by
 have hlt : j < s.size := by have := (List.getElem?_eq_some_iff.1 hj).1; simpa using this
 have e : s[j]? = some b := by
  rw [ByteArray.getElem?_lt' s j hlt]
  have := (List.getElem?_eq_some_iff.1 hj).2
  rw [← this]; rfl
 simp [execOp, hρ _ _ hx, hρ _ _ hi, Instr.index, asIntOf, run_underlying ht, e]
end
def evB (Γ : Env) (o : Option Operand) (d r : Nat) : Prop := match o with | none => r = d | some x => ∃ k, ev? Γ x = some (.int k (r : Int))
theorem evB.none_ {Γ : Env} {d : Nat} : evB Γ none d d := rfl
theorem evB.some_ {Γ : Env} {d r : Nat} {x : Operand} {k : IntKind} (h : ev? Γ x = some (.int k (r : Int))) : evB Γ (some x) d r := ⟨k, h⟩
def hH (a : Option Addr) (cap l sz : Nat) : Option Addr := if cap = l then a else a.map (·.add (l * sz))
section
variable {P : Program} {Γ : Env} {w : World} {dst : Option Tmp} {T : TypeId} {pos : String} {after : Array Edge} {g : Option (Nat × Bool)}
theorem kK {ρ : Operand → Value} (hρ : gN ρ Γ) (len cap l h : Nat) (lo hi : Option Operand) (hlo : evB Γ lo 0 l) (hhi : evB Γ hi len h) (h1 : l ≤ h) (h2 : h ≤ cap) (isS : Bool) :
  (Instr.sliceBounds isS len cap (lo.map ρ) (hi.map ρ) none).run P w = .ok (l, h, cap) w := by
 have hb : ∀ (k : IntKind) (r y : Nat) (code : BoundsCode), r ≤ y → (Instr.sliceBound (.int k (r : Int)) y code).run P w = .ok r w := by
  intro k r y code hry
  have := run_sliceBound (P := P) w k (r : Int) y code jo jo
  simpa using this
 unfold Instr.sliceBounds
 cases lo with
 | none =>
  cases hi with
  | none => simp only [evB] at hlo hhi; subst hlo hhi; simp
  | some y => simp only [evB] at hlo; obtain ⟨k, hy⟩ := hhi; subst hlo; simp [hρ _ _ hy, hb _ _ _ _ h2]
 | some x =>
  obtain ⟨k, hx⟩ := hlo
  cases hi with
  | none => simp only [evB] at hhi; subst hhi; simp [hρ _ _ hx, hb _ _ _ _ h1]
  | some y => obtain ⟨k', hy⟩ := hhi; simp [hρ _ _ hx, hρ _ _ hy, hb _ _ _ _ h1, hb _ _ _ _ h2]
theorem Run.sliceS {t e : TypeId} {x : Operand} {a : Option Addr} {len cap sz : Nat} {lo hi : Option Operand} (l h : Nat) (hx : ev? Γ x = some (.slice a len cap)) (ht : P.underlying t = some (.slice e)) (hz : ∀ w, (sizeOf e).run P w = .ok sz w)
  (hlo : evB Γ lo 0 l) (hhi : evB Γ hi len h) (h1 : l ≤ h) (h2 : h ≤ cap) :
  Run P ⟨dst, .slice t x lo hi none, T, pos, after, g⟩ Γ w (.slice (hH a cap l sz) (h - l) (cap - l)) := fun ρ hρ => by
 have hb := kK (P := P) (w := w) hρ len cap l h lo hi hlo hhi h1 h2 true
 simp only [execOp, Instr.sliceAt, Instr.slice, Sem.run_bind, run_underlying ht, Result.andThen_ok, hρ _ _ hx, Option.map_none, hb, hz, Sem.run_pure]
 rfl
theorem Run.sliceStr {t : TypeId} {x : Operand} {s : ByteArray} {lo hi : Option Operand} (l h : Nat) (hx : ev? Γ x = some (.string s)) (ht : P.underlying t = some .string)
  (hlo : evB Γ lo 0 l) (hhi : evB Γ hi s.size h) (h1 : l ≤ h) (h2 : h ≤ s.size) :
  Run P ⟨dst, .slice t x lo hi none, T, pos, after, g⟩ Γ w (.string (s.extract l h)) := fun ρ hρ => by
 have hb := kK (P := P) (w := w) hρ s.size s.size l h lo hi hlo hhi h1 h2 false
 simp [execOp, Instr.sliceAt, Instr.slice, run_underlying ht, hρ _ _ hx, hb]
end
section
variable {P : Program} {Γ : Env} {w : World} {dst : Option Tmp} {T : TypeId} {pos : String} {after : Array Edge} {g : Option (Nat × Bool)}
def evs (Γ : Env) : List Operand → List Value → Prop
 | [], vs => vs = []
 | x :: r, vs => ∃ v us, ev? Γ x = some v ∧ evs Γ r us ∧ vs = v :: us
theorem evs.nil {Γ : Env} : evs Γ [] [] := rfl
theorem evs.cons {Γ : Env} {x : Operand} {r : List Operand} {v : Value} {us : List Value} (h : ev? Γ x = some v) (hr : evs Γ r us) : evs Γ (x :: r) (v :: us) := ⟨v, us, h, hr, rfl⟩
theorem cA {ρ : Operand → Value} (hρ : gN ρ Γ) : ∀ (xs : List Operand) (vs : List Value), evs Γ xs vs → xs.map ρ = vs
 | [], vs, h => by simp only [evs] at h; subst h; rfl
 | x :: r, vs, h => by
  obtain ⟨v, us, h1, h2, rfl⟩ := h
  rw [List.map_cons, hρ _ _ h1, cA hρ r us h2]
theorem qD.fn {f : FuncId} {xs : List Operand} {vs : List Value} {ts : Array TypeId} (hv : evs Γ xs vs) (hf : ∀ args w, (callFunc f args).run P w = .ok (.enter f args) w) :
  qD P ⟨dst, .call ⟨.value (.func f), xs.toArray, ts⟩, T, pos, after, g⟩ Γ w f vs.toArray := fun ρ hρ => by
 have e := cA hρ xs vs hv
 have e2 : ρ (.func f) = .func (.func f) #[] #[] := hρ _ _ rfl
 have e3 : ρ (.func f) = .func (.func f) #[] #[] := e2
 simp [execOp, resolve, e2, Deferred.ofValue, invoke, e, hf]
end
structure Frm (S : List Nat) (w w' : World) : Prop where
 os : w'.os = w.os
 tape : w'.tape = w.tape
 output : w'.output = w.output
 size : w.heap.size ≤ w'.heap.size
 block : ∀ k, k < w.heap.size → k ∉ S → w'.heap[k]? = w.heap[k]?
def Blk (w : World) (g : Nat) (t : TypeId) (cs : Array Value) : Prop := w.heap[g]? = some (.cells cs t (0, 0))
def ob : Option Addr → List Nat
 | none => []
 | some a => [a.block]
def Rd (w : World) (size : Nat) (A : Option Addr) (n : Nat) (xs : List Value) : Prop :=
 xs.length = n * size ∧ (0 < n → ∃ ad, A = some ad ∧ ad.block < w.heap.size ∧ ∀ j u, xs[j]? = some u → w.cell? (ad.add j) = some u)
def Own (w : World) (e size : Nat) (A : Option Addr) (n c : Nat) (xs : List Value) : Prop := w.ownsRow 0 e size (.slice A n c) n xs
section
variable {S T : List Nat} {w w' w'' a b c : World} {g : Nat} {t : TypeId} {cs : Array Value}
theorem Frm.refl (S : List Nat) (w : World) : Frm S w w := ⟨rfl, rfl, rfl, Nat.le_refl _, fun _ _ _ => rfl⟩
theorem Frm.trans (h : Frm S a b) (k : Frm T b c) (hT : ∀ x ∈ T, x ∈ S ∨ a.heap.size ≤ x) : Frm S a c :=
 ⟨k.os.trans h.os, k.tape.trans h.tape, k.output.trans h.output, Nat.le_trans h.size k.size, fun i hi hS =>
  (k.block i (Nat.lt_of_lt_of_le hi h.size) (fun hx => by rcases hT i hx with h1 | h1; exact hS h1; omega)).trans (h.block i hi hS)⟩
theorem Frm.mono (h : Frm S w w') (hS : ∀ x ∈ S, x ∈ T ∨ w.heap.size ≤ x) : Frm T w w' :=
 ⟨h.os, h.tape, h.output, h.size, fun i hi hT => h.block i hi (fun hx => by rcases hS i hx with h1 | h1; exact hT h1; omega)⟩
theorem Frm.of_below (h : Below w.heap.size w w') : Frm [] w w' := ⟨h.os, h.tape, h.output, h.size, fun i hi _ => h.block i hi⟩
theorem Frm.below (h : Frm [] w w') : Below w.heap.size w w' := ⟨h.os, h.tape, h.output, h.size, fun i hi => h.block i hi jp⟩
theorem Frm.drew (h : Frm S w w') : Frm S w w'.drew := ⟨h.os, h.tape, h.output, h.size, h.block⟩
theorem Frm.drewN (h : Frm S w w') (n : Nat) : Frm S w (w'.drewN n) := ⟨h.os, h.tape, h.output, h.size, h.block⟩
theorem Frm.drawn (h : Frm S w w') (hd : qF w' w'') : Frm S w w'' := by obtain ⟨m, rfl⟩ := hd; exact h.drewN m
theorem Frm.alloc (h : Frm S a w) (o : Obj) : Frm S a (w.alloc o) :=
 h.trans (T := []) ⟨rfl, rfl, rfl, jp, fun k hk _ => Below.heap_alloc _ _ _ hk⟩ jp
theorem Frm.set1 (w : World) (p : Addr) (u : Value) : Frm [p.block] w (w.setCell p u) :=
 ⟨rfl, rfl, rfl, jp, fun k _ hS => Below.heap_setCell _ _ _ _ (by simpa using hS)⟩
theorem Frm.grown {row : Option Nat} (h : w.grownBy w' row) : Frm row.toList w w' :=
 ⟨h.os, h.tape, h.output, h.size, fun k hk hS => h.block k hk (fun e => hS (by rw [← e]; simp))⟩
theorem Frm.own (h : Frm [] w a) (k : Frm S a b) (hS : ∀ x ∈ S, w.heap.size ≤ x) : Frm [] w b := h.trans k (fun x hx => .inr (hS x hx))
theorem lI {B s : Nat} {A A' : Option Addr} (hA : ∀ x ∈ ob A, B ≤ x) (h : ob A' = ob A ∨ ob A' = [s]) (hs : B ≤ s) : ∀ x ∈ ob A', B ≤ x := fun x hx => by
 rcases h with h1 | h1 <;> rw [h1] at hx
 · exact hA x hx
 simp at hx; omega
theorem qF.frm (h : qF w w') : Frm [] w w' := (Frm.refl [] w).drawn h
theorem qF.drew (w : World) : qF w w.drew := ⟨1, rfl⟩
theorem Blk.lt (h : Blk w g t cs) : g < w.heap.size := by
 rcases Nat.lt_or_ge g w.heap.size with hlt | hge
 · exact hlt
 unfold Blk at h; rw [Array.getElem?_eq_none hge] at h; cases h
theorem Blk.cell (h : Blk w g t cs) (i : Nat) : w.cell? ⟨g, i, none⟩ = cs[i]? := by
 unfold Blk at h
 simp [World.cell?, h]
theorem Blk.frozen (h : Blk w g t cs) (i : Nat) : w.frozen? ⟨g, i, none⟩ = false := by
 unfold Blk at h
 simp [World.frozen?, h]
theorem Blk.new (w : World) (t : TypeId) (cs : Array Value) : Blk (w.alloc (.cells cs t)) w.heap.size t cs := heap_alloc_new w _
theorem Blk.cells (h : Blk w g t cs) : ∀ (j : Nat) (v : Value), cs.toList[j]? = some v → w.cell? ((⟨g, 0, none⟩ : Addr).add j) = some v := by
 intro j v hv
 have e : (⟨g, 0, none⟩ : Addr).add j = ⟨g, j, none⟩ := by
  unfold Addr.add; split
  · rename_i h0; subst h0; rfl
  simp
 rw [e, h.cell]
 simpa using hv
theorem Blk.frm (h : Blk w g t cs) (k : Frm S w w') (hg : g ∉ S) : Blk w' g t cs := (k.block g h.lt hg).trans h
theorem Blk.drawn (h : Blk w g t cs) (k : qF w w') : Blk w' g t cs := h.frm k.frm jp
theorem Blk.set (h : Blk w g t cs) (i : Nat) (u : Value) : Blk (w.setCell ⟨g, i, none⟩ u) g t (cs.setIfInBounds i u) := by
 unfold Blk at h ⊢
 simp [World.setCell, Array.getElem?_modify, h]
theorem Blk.ne {g' : Nat} {t' : TypeId} {cs' : Array Value} (h : Blk w g t cs) (h' : Blk w g' t' cs') (hne : t ≠ t') : g ≠ g' := by
 rintro rfl
 unfold Blk at h h'
 rw [h] at h'
 injection h' with h'
 injection h' with _ ht
 exact hne ht
theorem fK (x : Addr) (n : Nat) : (x.add n).block = x.block := by unfold Addr.add; split <;> rfl
theorem nT (x : Addr) (i j : Nat) : (x.add i).add j = x.add (i + j) := by
 unfold Addr.add
 by_cases hi : i = 0 <;> by_cases hj : j = 0 <;> simp [hi, hj, Nat.add_assoc]
theorem lW (x : Addr) : x.add 0 = x := by simp [Addr.add]
theorem pS (g i : Nat) : (⟨g, 0, none⟩ : Addr).add i = ⟨g, i, none⟩ := by
 unfold Addr.add; split
 · rename_i h; subst h; rfl
 simp
section
variable {size n m e cap : Nat} {A : Option Addr} {xs : List Value}
theorem Rd.nil (w : World) (size : Nat) (A : Option Addr) : Rd w size A 0 [] := ⟨jp, fun h => absurd h jo⟩
theorem Rd.lt (h : Rd w size A n xs) (hn : 0 < n) : ∀ x ∈ ob A, x < w.heap.size := by
 obtain ⟨ad, rfl, hb, _⟩ := h.2 hn
 simpa [ob] using hb
theorem Rd.at1 {k : Nat} (h : Rd w 1 A n xs) (hk : k < n) : ∃ ad u, A = some ad ∧ xs[k]? = some u ∧ w.cell? (ad.add k) = some u := by
 obtain ⟨ad, e, hb, hc⟩ := h.2 jo
 have hl : k < xs.length := by have := h.1; omega
 exact ⟨ad, xs[k], e, List.getElem?_eq_getElem hl, hc k _ (List.getElem?_eq_getElem hl)⟩
theorem Rd.frm (h : Rd w size A n xs) (k : Frm S w w') (hS : 0 < n → ∀ x ∈ ob A, x ∉ S) : Rd w' size A n xs :=
 ⟨h.1, fun hn => by
  obtain ⟨ad, e, hb, hc⟩ := h.2 hn
  subst e
  refine ⟨ad, rfl, Nat.lt_of_lt_of_le hb k.size, fun j u hu => ?_⟩
  rw [World.cell?_of_block (w := w) (a := ad.add j) (by rw [fK]; exact k.block _ hb (hS hn _ (by simp [ob])))]
  exact hc j u hu⟩
theorem Rd.elem {k : Nat} (h : Rd w size A n xs) (hk : k < n) : ∃ ad, A = some ad ∧ ∀ j v, ((xs.drop (k * size)).take size)[j]? = some v → w.cell? ((ad.add (k * size)).add j) = some v := by
 obtain ⟨ad, e, _, hc⟩ := h.2 jo
 refine ⟨ad, e, fun j v hv => ?_⟩
 have hj : j < size := by
  have := (List.getElem?_eq_some_iff.1 hv).1
  rw [List.length_take] at this
  omega
 rw [nT]
 refine hc _ _ ?_
 rw [List.getElem?_take_of_lt hj, List.getElem?_drop] at hv
 exact hv
theorem Rd.cut (h : Rd w size A n xs) {l r : Nat} (h1 : l ≤ r) (h2 : r ≤ n) (hc : n ≤ cap) : Rd w size (hH A cap l size) (r - l) ((xs.drop (l * size)).take ((r - l) * size)) := by
 have hx := h.1
 have e1 : (r - l) * size + l * size = r * size := by rw [← Nat.add_mul]; congr 1; omega
 have e2 : r * size ≤ n * size := Nat.mul_le_mul_right _ h2
 refine ⟨by rw [List.length_take, List.length_drop]; omega, fun hn => ?_⟩
 obtain ⟨ad, rfl, hb, hcell⟩ := h.2 jo
 refine ⟨ad.add (l * size), by unfold hH; rw [if_neg jo]; rfl, by rw [fK]; exact hb, fun j u hu => ?_⟩
 rw [nT]
 refine hcell _ u ?_
 by_cases hj : j < (r - l) * size
 · rw [List.getElem?_take_of_lt hj, List.getElem?_drop] at hu; exact hu
 rw [List.getElem?_eq_none (by rw [List.length_take]; omega)] at hu; cases hu
theorem Rd.of_blk (h : Blk w g t cs) (hs : cs.size = n * size) : Rd w size (some ⟨g, 0, none⟩) n cs.toList :=
 ⟨by simpa using hs, fun _ => ⟨_, rfl, h.lt, fun j u hu => by rw [pS, h.cell]; simpa using hu⟩⟩
theorem Own.nil (w : World) (e size : Nat) : Own w e size none 0 0 [] := World.ownsRow_nil w 0 e size
theorem Own.cases (h : Own w e size A n cap xs) : (A = none ∧ n = 0 ∧ cap = 0 ∧ xs = []) ∨ ∃ g cur, A = some ⟨g, 0, none⟩ ∧ Blk w g e cur ∧ n ≤ cap ∧ cap ≤ maxLen ∧ cur.size = cap * size ∧ cur.toList.take (n * size) = xs := by
 obtain ⟨h1, h2⟩ := h
 rcases h2 with ⟨h3, h4⟩ | ⟨g, c, cur, hv, _, hh, hn, hc, hs, ht⟩
 ·
  injection h3 with e1 e2 e3
  subst e1 e2 e3
  exact .inl ⟨rfl, rfl, rfl, List.eq_nil_of_length_eq_zero (by simpa using h1)⟩
 injection hv with e1 e2 e3
 subst e1 e3
 exact .inr ⟨g, cur, rfl, hh, hn, hc, hs, ht⟩
theorem Own.le (h : Own w e size A n cap xs) : n ≤ cap := by
 rcases h.cases with ⟨_, rfl, rfl, _⟩ | ⟨g, cur, _, _, hn, _⟩
 · exact Nat.le_refl _
 exact hn
theorem Own.lt (h : Own w e size A n cap xs) : ∀ x ∈ ob A, x < w.heap.size := by
 rcases h.cases with ⟨rfl, _⟩ | ⟨g, cur, rfl, hb, _⟩
 · simp [ob]
 simpa [ob] using hb.lt
theorem Own.rd (h : Own w e size A n cap xs) : Rd w size A n xs := by
 refine ⟨h.1, fun hn => ?_⟩
 rcases h.cases with ⟨rfl, rfl, _⟩ | ⟨g, cur, rfl, hb, hnc, _, hs, ht⟩
 · omega
 refine ⟨_, rfl, hb.lt, fun j u hu => ?_⟩
 rw [pS, hb.cell]
 rw [← ht] at hu
 by_cases hj : j < n * size
 · rw [List.getElem?_take_of_lt hj] at hu; simpa using hu
 rw [List.getElem?_eq_none (by rw [List.length_take]; omega)] at hu; cases hu
theorem Own.frm (h : Own w e size A n cap xs) (k : Frm S w w') (hS : ∀ x ∈ ob A, x ∉ S) : Own w' e size A n cap xs := by
 refine ⟨h.1, ?_⟩
 rcases h.cases with ⟨rfl, rfl, rfl, _⟩ | ⟨g, cur, rfl, hb, hn, hc, hs, ht⟩
 · exact .inl ⟨rfl, rfl⟩
 exact .inr ⟨g, cap, cur, rfl, Nat.zero_le _, hb.frm k (hS g (by simp [ob])), hn, hc, hs, ht⟩
theorem Own.of_blk (h : Blk w g e cs) (hs : cs.size = n * size) (hm : n ≤ maxLen) : Own w e size (some ⟨g, 0, none⟩) n n cs.toList :=
 ⟨by simpa using hs, .inr ⟨g, n, cs, rfl, Nat.zero_le _, h, Nat.le_refl _, hm, hs, List.take_of_length_le (by simp [hs])⟩⟩
theorem Own.ne_blk (h : Own w e size A n cap xs) (hg : Blk w g t cs) (hne : e ≠ t) : g ∉ ob A := by
 rcases h.cases with ⟨rfl, _⟩ | ⟨g', cur, rfl, hb, _⟩
 · simp [ob]
 simp only [ob, List.mem_singleton]
 exact fun e => hb.ne hg hne e.symm
theorem Own.ne_own {e' size' n' cap' : Nat} {A' : Option Addr} {xs' : List Value} (h : Own w e size A n cap xs) (h' : Own w e' size' A' n' cap' xs') (hne : e ≠ e') : ∀ x ∈ ob A, x ∉ ob A' := by
 rcases h.cases with ⟨rfl, _⟩ | ⟨g, cur, rfl, hb, _⟩
 · simp [ob]
 intro x hx
 simp only [ob, List.mem_singleton] at hx
 subst hx
 exact h'.ne_blk hb (Ne.symm hne)
end
end
structure Fresh (w w' : World) (t : TypeId) (cs : Array Value) : Prop where
 blk : Blk w' w.heap.size t cs
 frm : Frm [] w w'
 size : w'.heap.size = w.heap.size + 1
theorem Fresh.mk' (w : World) (t : TypeId) (cs : Array Value) : Fresh w (w.alloc (.cells cs t)) t cs := ⟨Blk.new w t cs, (Frm.refl _ _).alloc _, jp⟩
section
variable {P : Program} {Γ : Env} {w : World} {dst : Option Tmp} {T : TypeId} {pos : String} {after : Array Edge} {g : Option (Nat × Bool)}
theorem qV.box {e : TypeId} {x : Operand} {v : Value} (hx : ev? Γ x = some v) :
  qV P ⟨dst, .box e x, T, pos, after, g⟩ Γ w (fun r w' => r = .pointer (some ⟨w.heap.size, 0, none⟩) ∧ Fresh w w' e v.cells) := fun ρ hρ =>
 ⟨_, w.alloc (.cells v.cells e), by simp [execOp, hρ _ _ hx, Instr.box, newVar, newRow], rfl, Fresh.mk' _ _ _⟩
theorem qV.alloc {e : TypeId} {z : Value} (hz : ∀ w, (zeroValue e).run P w = .ok z w) :
  qV P ⟨dst, .alloc e, T, pos, after, g⟩ Γ w (fun r w' => r = .pointer (some ⟨w.heap.size, 0, none⟩) ∧ Fresh w w' e z.cells) := fun ρ _ =>
 ⟨_, w.alloc (.cells z.cells e), by simp [execOp, Instr.alloc, hz, newVar, newRow], rfl, Fresh.mk' _ _ _⟩
theorem Run.build {t : TypeId} {parts : List (Nat × Operand)} {vs : List Value} {z cells : Array Value} {fs : Array Field} {pl : Array (Nat × Nat)} (hv : evs Γ (parts.map (·.2)) vs) (hz : ∀ w, (zeroValue t).run P w = .ok (.agg z) w)
  (hu : P.underlying t = some (.struct fs)) (hpl : ∀ w, (fs.mapM fun f => do pure (f.offset, ← sizeOf f.type) : Sem (Array (Nat × Nat))).run P w = .ok pl w) (hf : Instr.fill (pl[·]?) z ((parts.map (·.1)).zip vs) = some cells) :
  Run P ⟨dst, .build t parts.toArray, T, pos, after, g⟩ Γ w (.agg cells) := fun ρ hρ => by
 have e1 := cA hρ _ _ hv
 have e2 : parts.map (fun p => (p.1, ρ p.2)) = (parts.map (·.1)).zip vs := by
  rw [← e1, List.map_map, List.zip_map']
  rfl
 simp only [execOp, Instr.build, Sem.run_bind, hz, Result.andThen_ok, Value.cells, run_underlying hu, hpl, List.map_toArray, e2, hf, Sem.run_pure]
theorem qV.buildS1 {t e : TypeId} {size : Nat} {x : Operand} {z v : Value} (hx : ev? Γ x = some v) (ht : P.underlying t = some (.slice e)) (hz : ∀ w, (sizeOf e).run P w = .ok size w)
  (hzv : ∀ w, (zeroValue e).run P w = .ok z w) (hs0 : 0 < size) (hs1 : size ≤ 16777216) (hv : v.cells.size = size) (hzs : z.cells.size = size) :
  qV P ⟨dst, .buildSlice t 1 #[(0, x)], T, pos, after, g⟩ Γ w (fun r w' => r = .slice (some ⟨w.heap.size, 0, none⟩) 1 1 ∧ Fresh w w' e v.cells) := fun ρ hρ => by
 have hn' : ¬ (1 * size > 2 ^ 24) := jo
 have hn0 : ¬ (1 * size = 0) := jo
 have key : ∀ (l : List Value) (acc : Array Value) (k : Nat), k + l.length = acc.size → (l.zipIdx k).foldl (fun (cs : Array Value) (p : Value × Nat) => cs.setIfInBounds p.2 p.1) acc = (acc.toList.take k ++ l).toArray := by
  intro l
  induction l with
  | nil => intro acc k hk; simp at hk ⊢; rw [List.take_of_length_le (by simp [hk])]
  | cons u r ih =>
   intro acc k hk
   simp only [List.length_cons] at hk
   rw [List.zipIdx_cons, List.foldl_cons, ih _ _ (by simp; omega)]
   have e1 : (acc.setIfInBounds k u).toList.take (k + 1) = acc.toList.take k ++ [u] := by
    rw [Array.toList_setIfInBounds]
    apply List.ext_getElem?
    intro j
    rcases Nat.lt_trichotomy j k with hj | hj | hj
    · rw [List.getElem?_take_of_lt jo, List.getElem?_set_ne jo, List.getElem?_append_left (by simp; omega), List.getElem?_take_of_lt hj]
    ·
     subst hj
     rw [List.getElem?_take_of_lt jo, List.getElem?_set_self (by simp; omega), List.getElem?_append_right (by simp; omega)]
     have : j - (acc.toList.take j).length = 0 := by simp; omega
     rw [this]
     rfl
    rw [List.getElem?_eq_none (by simp; omega), List.getElem?_eq_none (by simp; omega)]
   rw [e1]
   simp
 refine ⟨_, w.alloc (.cells v.cells e), ?_, rfl, Fresh.mk' _ _ _⟩
 have hc1 : ¬ (v.cells.size ≠ size) := by simp [hv]
 have hcs : ((Array.range (1 * size)).map (z.cells[· % z.cells.size]!)).size = size := jp
 have hfill : Instr.fill (fun i => some (i * size, size)) ((Array.range (1 * size)).map (z.cells[· % z.cells.size]!)) [(0, v)] = some v.cells := by
  unfold Instr.fill
  simp only [Nat.zero_mul, hv, hcs, Nat.zero_add]
  have := key v.cells.toList ((Array.range (1 * size)).map (z.cells[· % z.cells.size]!)) 0 (by simp [hv])
  simp only [List.take_zero, List.nil_append, Array.toArray_toList] at this
  rw [← Array.foldl_toList, Array.toList_zipIdx, this]
  simp [Instr.fill]
 simp only [execOp, Instr.buildSlice, Sem.run_bind, run_underlying ht, Result.andThen_ok, hz, Sem.run_ite, hn', hn0, if_false, hzv, Sem.run_pure, List.map_toArray, List.map_cons, List.map_nil, hρ _ _ hx, hfill, newRow, run_newObj]
 rfl
theorem qZ.store {t e : TypeId} {x y : Operand} {gb i : Nat} {cs : Array Value} {v : Value} (hx : ev? Γ x = some (.pointer (some ⟨gb, i, none⟩))) (hy : ev? Γ y = some v)
  (hz : ∀ w, (sizeOf t).run P w = .ok 1 w) (hb : Blk w gb e cs) (hi0 : Nat.blt i cs.size = true) (h1 : v.oneCell' = true) :
  qZ P ⟨dst, .store t x y, T, pos, after, g⟩ Γ w (fun w' => Blk w' gb e (cs.setIfInBounds i v) ∧ Frm [gb] w w' ∧ w'.heap.size = w.heap.size) := fun ρ hρ => by
 have hi : i < cs.size := by simpa [Nat.blt_eq] using hi0
 have hcells : v.cells = #[v] := by cases v <;> first | rfl | cases h1
 have hc := hb.cell i
 rw [Array.getElem?_eq_getElem hi] at hc
 refine ⟨w.setCell ⟨gb, i, none⟩ v, ?_, hb.set i v, Frm.set1 w ⟨gb, i, none⟩ v, jp⟩
 simp [execOp, hρ _ _ hx, hρ _ _ hy, Instr.storeAt, Instr.sureAddr, storeVar, hcells, hz, storeCells, run_store P _ _ _ _ h1, lW, hc, hb.frozen i]
theorem qZ.storeA {t e : TypeId} {x y : Operand} {gb : Nat} {cs vs : Array Value} (hx : ev? Γ x = some (.pointer (some ⟨gb, 0, none⟩))) (hy : ev? Γ y = some (.agg vs))
  (hz : ∀ w, (sizeOf t).run P w = .ok vs.size w) (hb : Blk w gb e cs) (hs : vs.size = cs.size) (h1 : ∀ v ∈ vs.toList, v.oneCell' = true) :
  qZ P ⟨dst, .store t x y, T, pos, after, g⟩ Γ w (fun w' => Blk w' gb e vs ∧ Frm [gb] w w' ∧ w'.heap.size = w.heap.size) := fun ρ hρ => by
 have hr := run_storeCells_from (P := P) gb e vs.toList 0 cs w hb (by simp [hs]) h1
 refine ⟨w.setRow gb (cs.toList.take 0 ++ vs.toList).toArray, ?_, ?_, ?_, ?_⟩
 · simp only [execOp, Instr.storeAt, Instr.sureAddr, storeVar, hρ _ _ hx, hρ _ _ hy, Value.cells, Sem.run_bind, Sem.run_pure, Result.andThen_ok, hz, ne_eq, not_true_eq_false, if_false, Sem.run_ite, hr]
 ·
  have := setRow_heap w gb cs (cs.toList.take 0 ++ vs.toList).toArray e (0, 0) hb
  simpa [Blk] using this
 · exact ⟨rfl, rfl, rfl, by simp [World.setRow], fun k _ hS => setRow_other w gb k _ (by simpa using hS)⟩
 simp [World.setRow]
theorem qV.app {t e : TypeId} {x y : Operand} {z : Value} {size bytes n m cap c2 : Nat} {A B : Option Addr} {xs news : List Value} (hx : ev? Γ x = some (.slice A n cap)) (hy : ev? Γ y = some (.slice B m c2))
  (ht : P.underlying t = some (.slice e)) (hi : (P.info? e).map (fun i => (i.zero, i.size, i.bytes)) = some (some z, size, bytes)) (hzs : z.cells.size = size) (hsz : 0 < size)
  (ho : Own w e size A n cap xs) (hr : Rd w size B m news) (h1 : ∀ u ∈ news, u.oneCell' = true) (h63 : n + m ≤ 9223372036854775807) (hb : (n + m) * bytes ≤ 140737488355328) :
  qV P ⟨dst, .call ⟨.builtin .append, #[x, y], #[t, t]⟩, T, pos, after, g⟩ Γ w
   (fun r w' => ∃ A' c', r = .slice A' (n + m) c' ∧ Own w' e size A' (n + m) c' (xs ++ news) ∧ Frm (ob A) w w' ∧ (ob A' = ob A ∨ ob A' = [w.heap.size])) := fun ρ hρ => by
 obtain ⟨i0, hi0, hz0, hz1, hz2⟩ := info_parts hi
 have ho' := ho
 have ex : (execOp ρ ⟨dst, .call ⟨.builtin .append, #[x, y], #[t, t]⟩, T, pos, after, g⟩).run P w = ((Builtin.append_ #[t, t] T #[.slice A n cap, .slice B m c2]).run P w).andThen fun a w => .ok (.value a) w := by
  simp [execOp, resolve, invoke, builtin, hρ _ _ hx, hρ _ _ hy]
 rcases Nat.eq_zero_or_pos m with hm | hm
 ·
  subst hm
  have hn0 : news = [] := List.eq_nil_of_length_eq_zero (by simpa using hr.1)
  subst hn0
  refine ⟨.slice A n cap, w, ?_, A, cap, rfl, by simpa using ho, Frm.refl _ _, .inl rfl⟩
  rw [ex]
  have hnc := ho.le
  have hz3 : ∀ w, (sizeOf e).run P w = .ok size w := fun w => by simp [sizeOf, typeInfo, hi0, hz1]
  cases A <;> cases B <;> simp [Builtin.append_, run_underlying ht, hz3, Builtin.lenOf, Builtin.firstCells, hnc, storeCells, loadCells, loadCellsFrom]
 obtain ⟨ad, rfl, hlt, hcell⟩ := hr.2 hm
 obtain ⟨v', w', hrun, hown, hgr, _, hob⟩ := run_append_own_at (P := P) w 0 t T e i0 z size bytes ht hi0 hz0 hz1 hz2 hzs hsz _ n xs ho ad m c2 news hr.1 hcell h1 h63 hb (Nat.zero_le _)
 have hform : ∃ A' c', v' = .slice A' (n + m) c' := by
  rcases hown.2 with ⟨rfl, h0⟩ | ⟨g', cap', cur', rfl, _⟩
  · omega
  exact ⟨_, _, rfl⟩
 obtain ⟨A', c', rfl⟩ := hform
 have hblk : ∀ (X : Option Addr) (p q : Nat), (Value.slice X p q).ownBlock.toList = ob X := by intro X p q; cases X <;> rfl
 refine ⟨_, w', by rw [ex, hrun]; rfl, A', c', rfl, hown, ?_, ?_⟩
 ·
  have := Frm.grown hgr
  rwa [hblk] at this
 rcases hob with h | h
 · left; rw [← hblk A' (n + m) c', h, hblk]
 right; rw [← hblk A' (n + m) c', h]; rfl
def U8 (l : List UInt8) : List Value := l.map fun b => .int .u8 (b.toNat : Int)
theorem Run.strOf {src dstT e : TypeId} {x : Operand} {A : Option Addr} {n c : Nat} {l : List UInt8} (hx : ev? Γ x = some (.slice A n c)) (hs : P.underlying src = some (.slice e)) (he : P.underlying e = some (.int .u8)) (hd : P.underlying dstT = some .string)
  (hr : Rd w 1 A n (U8 l)) : Run P ⟨dst, .convert src dstT x, T, pos, after, g⟩ Γ w (.string ⟨l.toArray⟩) := fun ρ hρ => by
 have hl : l.length = n := by have := hr.1; simpa [U8] using this
 have h1 := run_convert_bytes_string (P := P) w src dstT e A n c hs he hd
 have h2 : (Conv.bytesToString (.slice A n c)).run P w = .ok (.string ⟨l.toArray⟩) w := by
  cases A with
  | none =>
   have h0 : n = 0 := by
    rcases Nat.eq_zero_or_pos n with h | h
    · exact h
    obtain ⟨_, h', _⟩ := hr.2 h; cases h'
   subst h0
   have : l = [] := List.eq_nil_of_length_eq_zero hl
   subst this
   rfl
  | some a =>
   have hcell : ∀ j v, (U8 l)[j]? = some v → w.cell? (a.add j) = some v := by
    intro j v hv
    rcases Nat.eq_zero_or_pos n with h | h
    ·
     have : l = [] := List.eq_nil_of_length_eq_zero jo
     subst this
     simp [U8] at hv
    obtain ⟨ad, h', _, hc⟩ := hr.2 h
    injection h' with h'
    subst h'
    exact hc j v hv
   have hload := run_loadCells_list (P := P) w a (U8 l) hcell
   have hul : (U8 l).length = n := by simpa [U8] using hl
   rw [hul] at hload
   have := run_bytesToString (P := P) w a n c (l.map fun b => (b.toNat : Int)) (by rw [hload, List.map_map]; rfl)
   rw [this]
   congr 2
   have key : ∀ (l : List UInt8) (s : ByteArray), (l.map fun b => (b.toNat : Int)).foldl (fun r n => r.push (UInt8.ofNat n.toNat)) s = ⟨s.data ++ l.toArray⟩ := by
    intro l
    induction l with
    | nil => intro s; simp
    | cons b r ih =>
     intro s
     rw [List.map_cons, List.foldl_cons, ih]
     congr 1
     simp [ByteArray.push]
   rw [key]
   simp [ByteArray.empty, ByteArray.emptyWithCapacity]
   rfl
 simp [execOp, hρ _ _ hx, h1, h2]
end
section
variable {P : Program} {n : NF} {Γ Γ' : Env} {w : World} {Q : Exit → Env → World → Prop} {K : Env → World → Prop} {i id : Nat}
theorem qQ (h : Q .ret Γ w) : dV K Q .ret Γ w := h
theorem qK (h : Q (.exit i) Γ w) : dV K Q (.exit i) Γ w := h
theorem qT {ch : List PanicEntry} (h : Q (.panic ch) Γ w) : dV K Q (.panic ch) Γ w := h
theorem qW (h : Q .normal Γ w) : dZ id Q .normal Γ w := h
theorem qR (h : Q .ret Γ w) : dZ id Q .ret Γ w := h
theorem eA {ch : List PanicEntry} (h : Q (.panic ch) Γ w) : dZ id Q (.panic ch) Γ w := h
theorem qS (h : Q .normal Γ w) : dZ id Q (.exit id) Γ w := by simp only [dZ, if_true]; exact h
theorem eI (hne : Nat.beq i id = false) (h : Q (.exit i) Γ w) : dZ id Q (.exit i) Γ w := by
 have : i ≠ id := fun e => by subst e; rw [Nat.beq_refl] at hne; cases hne
 simp only [dZ, this, if_false]; exact h
theorem Sub.nil : Sub Γ [] := trivial
theorem Sub.cons {k : Nat} {v : Value} {r : Env} (h : get? Γ k = some v) (hr : Sub Γ r) : Sub Γ ((k, v) :: r) := ⟨h, hr⟩
section
variable {R : Ending → World → Prop}
theorem bX {res : Array ResultVar} {ch : List PanicEntry} (h : R (.panicked ch) w) : cG P res R (.panic ch) Γ w := h
theorem sP (h : R (.returned (.tuple #[])) w) : cG P #[] R .ret Γ w := h
theorem dB (h : R (.returned (.tuple #[])) w) : cG P #[] R .normal Γ w := h
theorem qP {t : Tmp} {v : Value} (h1 : get? Γ t = some v) (h : R (.returned v) w) : cG P #[.tmp t] R .ret Γ w := ⟨v, h1, h⟩
theorem end2 {t u : Tmp} {v x : Value} (h1 : get? Γ t = some v) (h2 : get? Γ u = some x) (h : R (.returned (.tuple #[v, x])) w) : cG P #[.tmp t, .tmp u] R .ret Γ w := ⟨v, h1, x, h2, h⟩
theorem sR {t u s : Tmp} {v x y : Value} (h1 : get? Γ t = some v) (h2 : get? Γ u = some x) (h3 : get? Γ s = some y) (h : R (.returned (.tuple #[v, x, y])) w) : cG P #[.tmp t, .tmp u, .tmp s] R .ret Γ w := ⟨v, h1, x, h2, y, h3, h⟩
theorem cJ {res : Array ResultVar} (h : dW P res.toList Γ w fun vs => R (.returned (oY vs)) w) : cG P res R .ret Γ w := h
theorem bW {K : List Value → Prop} (h : K []) : dW P [] Γ w K := h
theorem bE {t : Tmp} {r : List ResultVar} {v : Value} {K : List Value → Prop} (h1 : get? Γ t = some v) (h : dW P r Γ w fun vs => K (v :: vs)) : dW P (.tmp t :: r) Γ w K := ⟨v, h1, h⟩
theorem dY {t : Tmp} {T : TypeId} {r : List ResultVar} {a : Addr} {v : Value} {K : List Value → Prop} (h1 : get? Γ t = some (.pointer (some a))) (ht : ∀ w, (isAgg T).run P w = .ok false w) (hc : w.cell? a = some v)
  (h : dW P r Γ w fun vs => K (v :: vs)) : dW P (.cell t T :: r) Γ w K := ⟨a, v, h1, by simp [loadVar, ht, hc], h⟩
theorem qI {t : Tmp} {T : TypeId} {r : List ResultVar} {a : Addr} {cs : List Value} {sz : Nat} {K : List Value → Prop} (h1 : get? Γ t = some (.pointer (some a))) (ht : ∀ w, (isAgg T).run P w = .ok true w) (hz : ∀ w, (sizeOf T).run P w = .ok sz w)
  (hc : ∀ j v, cs[j]? = some v → w.cell? (a.add j) = some v) (hl : cs.length = sz) (h : dW P r Γ w fun vs => K (.agg cs.toArray :: vs)) : dW P (.cell t T :: r) Γ w K := by
 subst hl
 exact ⟨a, _, h1, by simp [loadVar, ht, hz, run_loadCells_list w a cs hc], h⟩
end
section
variable {ops : Array Oper} {rest : List Oper} {d : Nat} {op : Op} {T : TypeId} {pos : String} {after : Array Edge} {g : Option (Nat × Bool)}
theorem Ops.r {v : Value} (h : Run P ⟨some d, op, T, pos, after, none⟩ Γ w v) (hn : Nat.blt d n.n = true) (k : Ops P n ops rest ((d, v) :: Γ) w Q) : Ops P n ops (⟨some d, op, T, pos, after, none⟩ :: rest) Γ w Q :=
 Ops.run h trivial rfl hn k
theorem Ops.rg {v : Value} {j : Nat} {b c : Bool} (hy : yi ops Γ j = some (.bool b)) (hb : b = c) (h : Run P ⟨some d, op, T, pos, after, some (j, c)⟩ Γ w v) (hn : Nat.blt d n.n = true) (k : Ops P n ops rest ((d, v) :: Γ) w Q) : Ops P n ops (⟨some d, op, T, pos, after, some (j, c)⟩ :: rest) Γ w Q :=
 Ops.run h (by subst hb; exact hy) rfl hn k
theorem Ops.sk {j : Nat} {b c : Bool} (hy : yi ops Γ j = some (.bool b)) (hb : b = ! c) (hn : Nat.blt d n.n = true) (k : Ops P n ops rest ((d, undef) :: Γ) w Q) : Ops P n ops (⟨some d, op, T, pos, after, some (j, c)⟩ :: rest) Γ w Q :=
 Ops.skip rfl hy hb rfl hn k
theorem Ops.m {R : Value → World → Prop} (h : qV P ⟨some d, op, T, pos, after, none⟩ Γ w R) (hn : Nat.blt d n.n = true) (k : ∀ v w', R v w' → Ops P n ops rest ((d, v) :: Γ) w' Q) : Ops P n ops (⟨some d, op, T, pos, after, none⟩ :: rest) Γ w Q :=
 Ops.does h trivial rfl hn k
theorem Ops.st {R : World → Prop} (h : qZ P ⟨none, op, T, pos, after, none⟩ Γ w R) (k : ∀ w', R w' → Ops P n ops rest Γ w' Q) : Ops P n ops (⟨none, op, T, pos, after, none⟩ :: rest) Γ w Q :=
 Ops.acts h trivial rfl k
theorem Ops.cl {f : FuncId} {args : Array Value} {R : Ending → World → Prop} (he : qD P ⟨some d, op, T, pos, after, none⟩ Γ w f args) (hc : Calls P f args w R) (hn : Nat.blt d n.n = true)
  (k : ∀ e w', R e w' → ∃ v, e = .returned v ∧ Ops P n ops rest ((d, v) :: Γ) w' Q) : Ops P n ops (⟨some d, op, T, pos, after, none⟩ :: rest) Γ w Q :=
 Ops.call he hc trivial rfl hn k
theorem Ops.clg {f : FuncId} {args : Array Value} {R : Ending → World → Prop} {j : Nat} {b c : Bool} (hy : yi ops Γ j = some (.bool b)) (hb : b = c) (he : qD P ⟨some d, op, T, pos, after, some (j, c)⟩ Γ w f args) (hc : Calls P f args w R) (hn : Nat.blt d n.n = true)
  (k : ∀ e w', R e w' → ∃ v, e = .returned v ∧ Ops P n ops rest ((d, v) :: Γ) w' Q) : Ops P n ops (⟨some d, op, T, pos, after, some (j, c)⟩ :: rest) Γ w Q :=
 Ops.call he hc (by subst hb; exact hy) rfl hn k
variable {KE : Env → Prop}
theorem qC.r {v : Value} (h : Run P ⟨some d, op, T, pos, after, none⟩ Γ w v) (hn : Nat.blt d n.n = true) (k : qC P n ops rest ((d, v) :: Γ) w KE) : qC P n ops (⟨some d, op, T, pos, after, none⟩ :: rest) Γ w KE :=
 qC.run h trivial rfl hn k
theorem qC.rg {v : Value} {j : Nat} {b c : Bool} (hy : yi ops Γ j = some (.bool b)) (hb : b = c) (h : Run P ⟨some d, op, T, pos, after, some (j, c)⟩ Γ w v) (hn : Nat.blt d n.n = true) (k : qC P n ops rest ((d, v) :: Γ) w KE) : qC P n ops (⟨some d, op, T, pos, after, some (j, c)⟩ :: rest) Γ w KE :=
 qC.run h (by subst hb; exact hy) rfl hn k
theorem qC.sk {j : Nat} {b c : Bool} (hy : yi ops Γ j = some (.bool b)) (hb : b = ! c) (hn : Nat.blt d n.n = true) (k : qC P n ops rest ((d, undef) :: Γ) w KE) : qC P n ops (⟨some d, op, T, pos, after, some (j, c)⟩ :: rest) Γ w KE := by
 intro a hs
 unfold wpStill
 have hw : Region.wanted (⟨some d, op, T, pos, after, some (j, c)⟩ : Oper) (yielded ops a.tmps) = false := by
  unfold Region.wanted
  simp only
  rw [kL hs hy, hb]
  cases c <;> rfl
 rw [if_neg (by rw [hw]; simp)]
 exact k _ (hs.put hn undef)
end
theorem VC.meet {σ : Type} {c : Code} (env : σ → Env) (inv : σ → World → Prop) (h : VC P n c Γ w (dV (fun Γ' w' => ∃ s, Sub Γ' (env s) ∧ inv s w') Q)) (k : ∀ s w', inv s w' → ∀ Γ', Sub Γ' (env s) → Q .normal Γ' w') : VC P n c Γ w Q := by
 refine h.mono fun e Γ' w' q => ?_
 cases e with
 | normal => obtain ⟨s, hs, hi⟩ := q; exact k s w' hi Γ' hs
 | exit i => exact q
 | goto l => exact q
 | ret => exact q
 | panic c => exact q
 | outgrown => exact q
theorem VC.split1 {c : Code} (Γk : Env) (hk : Sub Γ Γk) (t : Nat) (v : Value) (h : VC P n c Γ w (dV (fun Γ1 w1 => Sub Γ1 ((t, v) :: Γk) ∧ w1 = w) Q)) (k : ∀ Γ1, Sub Γ1 ((t, v) :: Γk) → Q .normal Γ1 w) : VC P n c Γ w Q := by
 have _ := hk
 refine h.mono fun e Γ' w' q => ?_
 cases e with
 | normal => obtain ⟨hs, rfl⟩ := q; exact k Γ' hs
 | exit i => exact q
 | goto l => exact q
 | ret => exact q
 | panic c => exact q
 | outgrown => exact q
theorem tI {p q : Prop} [Decidable p] [Decidable q] (h : p) : decide (p ∧ q) = decide q := by simp [h]
theorem tL {p q : Prop} [Decidable p] [Decidable q] (h : ¬ p) : decide (p ∧ q) = false := by simp [h]
theorem Bin.add_i64 (x y : Nat) (h : x + y ≤ 9223372036854775807) : Bin .add .i64 x .i64 y (.int .i64 ((x + y : Nat) : Int)) := Bin.addN x y h
theorem Bin.sub_i64 (x y : Nat) (hy : y ≤ x) (h : x ≤ 9223372036854775807) : Bin .sub .i64 x .i64 y (.int .i64 ((x - y : Nat) : Int)) := Bin.subN x y hy (by simp only [bmax]; omega)
theorem Bin.mul_i64 (x y : Nat) (h : x * y ≤ 9223372036854775807) : Bin .mul .i64 x .i64 y (.int .i64 ((x * y : Nat) : Int)) := Bin.mulN x y h
theorem Bin.quo_i64 (x y : Nat) (hy : y ≠ 0) (h : x ≤ 9223372036854775807) : Bin .quo .i64 x .i64 y (.int .i64 ((x / y : Nat) : Int)) := Bin.quoN x y hy (by simp only [bmax]; exact Nat.le_trans (Nat.div_le_self _ _) h)
theorem Bin.sub_u8 (x y : Nat) (hy : y ≤ x) (h : x ≤ 255) : Bin .sub .u8 x .u8 y (.int .u8 ((x - y : Nat) : Int)) := Bin.subN x y hy (by simp only [bmax]; omega)
theorem Bin.addZ (x y : Int) (h1 : -9223372036854775808 ≤ x + y) (h2 : x + y ≤ 9223372036854775807) : Bin .add .i64 x .i64 y (.int .i64 (x + y)) := Bin.add x y h1 h2
end
def fR (ops : Array Oper) (L i : Nat) : Bool := match ops[L]? with
 | none => true
 | some o => ! Nat.beq i L && o.after.any fun e => Region.binds .any e && Nat.beq e.on i
def bO (P : Program) (ops : Array Oper) (Q : Exit → Act → World → Prop) (S : World → Prop) (L : Nat) : Nat → Array Bool → Act → World → Prop
 | 0, listed, a, w => Region.ready .any ops listed = [] ∧ Q .normal a w
 | f + 1, listed, a, w => (Region.ready .any ops listed = [] → Q .normal a w) ∧
  ∀ i ∈ Region.ready .any ops listed, wpOp P ops Q i (fun a' w' => (i ≠ L → S w') ∧ bO P ops Q S L f (listed.setIfInBounds i true) a' w') a w
section
variable {P : Program} {ops : Array Oper} {Q : Exit → Act → World → Prop} {S : World → Prop} {L : Nat}
theorem fC : ∀ (f : Nat) (listed : Array Bool) (a : Act) (w : World), bO P ops Q S L f listed a w → wpAny P .any ops Q f listed a w
 | 0, _, _, _, h => h
 | f + 1, _, _, _, h => ⟨h.1, fun i hi => wpOp_mono (fun a' w' h' => fC f _ a' w' h'.2) (h.2 i hi)⟩
theorem gP {i : Nat} {oi : Oper} {v : Value} (hi : ops[i]? = some oi) (hL : fR ops L i = true) (hsel : ∀ (j : Nat) (o : Oper) cs b, ops[j]? = some o → o.op ≠ .select cs b) (hQ : ∀ c a w, Q (.panic c) (a.put oi.dst v) w → Q (.panic c) a w) :
  ∀ (f : Nat) (listed : Array Bool) (a : Act) (w : World), (∀ j oj, ops[j]? = some oj → j ≠ i → listed.getD j true = false → (∀ e ∈ oj.after, Region.binds .any e = true → e.on ≠ i) → oi.apart ops oj = true) →
   i ∈ Region.ready .any ops listed → YieldsIf P ops S oi v a → S w → bO P ops Q S L f (listed.setIfInBounds i true) (a.put oi.dst v) w → bO P ops Q S L (f + 1) listed a w
 | f, listed, a, w, hfree, hr, hy, hS, H => by
  refine ⟨fun h => absurd hr (by rw [h]; simp), fun j hj => ?_⟩
  by_cases hji : j = i
  ·
   subst hji
   exact hy.wpOp hi hS ⟨fun _ => hS, H⟩
  have hj2 := ready_mono hj hji
  cases f with
  | zero => exact absurd hj2 (by rw [H.1]; simp)
  | succ f =>
   obtain ⟨hjun, oj, hoj, hall⟩ := mem_ready.1 hj
   have hiun := (mem_ready.1 hr).1
   have hnot : ∀ e ∈ oj.after, Region.binds .any e = true → e.on ≠ i := fun e he hb heq => by
    have h1 := hall e he hb
    rw [heq] at h1
    by_cases h' : i < listed.size
    ·
     simp [h'] at hiun h1
     rw [hiun] at h1
     cases h1
    simp [Array.getElem?_eq_none (Nat.le_of_not_lt h')] at h1
   have hjL : j ≠ L := fun h => by
    subst h
    unfold fR at hL
    rw [hoj] at hL
    simp only [Bool.and_eq_true, Array.any_eq_true'] at hL
    obtain ⟨_, e, he, hb, hon⟩ := hL
    exact hnot e he hb (Nat.eq_of_beq_eq_true hon)
   refine wpOp_mono (fun a' w' h3 => ?_) (wpOp_putIf hoj (hfree j oj hoj hji hjun hnot) (fun cs b => hsel i oi cs b hi) (fun cs b => hsel j oj cs b hoj) hQ hy (H.2 j hj2))
   refine ⟨h3.2.1, gP hi hL hsel hQ f _ a' w' (fun k ok hk hki hun hno => hfree k ok hk hki ?_ hno) (ready_mono hr (Ne.symm hji)) h3.1 (h3.2.1 hjL) ?_⟩
   ·
    by_cases hjk : j = k
    · subst hjk; exact hjun
    rwa [getD_set_ne true hjk] at hun
   rw [Array.setIfInBounds_comm _ _ hji]
   exact h3.2.2
theorem nX {i : Nat} {oi : Oper} {v : Value} {f : Nat} {listed : Array Bool} {a : Act} {w : World} (hi : ops[i]? = some oi) (hs : (Region.noSelect ops && fR ops L i) = true) (hf : Region.free .any ops listed i = true) (hr : (Region.ready .any ops listed).contains i = true)
  (hQ : ∀ c a w, Q (.panic c) (a.put oi.dst v) w → Q (.panic c) a w) (hy : YieldsIf P ops S oi v a) (hS : S w) (h : bO P ops Q S L f (listed.setIfInBounds i true) (a.put oi.dst v) w) : bO P ops Q S L (f + 1) listed a w :=
 gP hi (Bool.and_eq_true _ _ ▸ hs).2 (Region.noSelect_spec (Bool.and_eq_true _ _ ▸ hs).1) hQ f listed a w (Region.free_spec hi hf) (by simpa using hr) hy hS h
theorem oM {rs : List Nat} {f : Nat} {listed : Array Bool} {a : Act} {w : World} (hr : Region.ready .any ops listed = rs) (hne : rs ≠ [])
  (h : ∀ i ∈ rs, wpOp P ops Q i (fun a' w' => S w' ∧ bO P ops Q S L f (listed.setIfInBounds i true) a' w') a w) : bO P ops Q S L (f + 1) listed a w :=
 ⟨fun h0 => absurd (hr ▸ h0) hne, hr ▸ fun i hi => wpOp_mono (fun _ _ h => ⟨fun _ => h.1, h.2⟩) (h i hi)⟩
theorem nZ {f : Nat} {listed : Array Bool} {a : Act} {w : World} (hr : Region.ready .any ops listed = [L]) (h : wpOp P ops Q L (fun a' w' => bO P ops Q S L f (listed.setIfInBounds L true) a' w') a w) : bO P ops Q S L (f + 1) listed a w := by
 refine ⟨fun h0 => (by rw [hr] at h0; cases h0), fun i hi => ?_⟩
 rw [hr] at hi
 simp only [List.mem_singleton] at hi
 subst hi
 exact wpOp_mono (fun _ _ h => ⟨fun h0 => absurd rfl h0, h⟩) h
theorem nJ {listed : Array Bool} {a : Act} {w : World} (hr : Region.ready .any ops listed = []) (h : Q .normal a w) : ∀ f, bO P ops Q S L f listed a w
 | 0 => ⟨hr, h⟩
 | _ + 1 => ⟨fun _ => h, by rw [hr]; simp⟩
end
def fD (n : NF) (K : Env → World → Prop) (Pn : List PanicEntry → World → Prop) (e : Exit) (a : Act) (w : World) : Prop := match e with
 | .normal => ∃ Γ, Sat n Γ a ∧ K Γ w
 | .panic ch => (a.tmps.size = n.n ∧ a.defers = n.D) ∧ Pn ch w
 | _ => False
def qJ (P : Program) (n : NF) (ops : Array Oper) (S : World → Prop) (Pn : List PanicEntry → World → Prop) (L fuel : Nat) (listed : Array Bool) (Γ : Env) (w : World) (K : Env → World → Prop) : Prop :=
 ∀ a, Sat n Γ a → bO P ops (fD n K Pn) S L fuel listed a w
theorem pT {n : NF} {K : Env → World → Prop} {Pn : List PanicEntry → World → Prop} {d : Option Tmp} {v : Value} : ∀ (c : List PanicEntry) (a : Act) (w : World), fD n K Pn (.panic c) (a.put d v) w → fD n K Pn (.panic c) a w := by
 intro c a w h
 cases d with
 | none => exact h
 | some d => exact ⟨⟨by have := h.1.1; simpa [Act.put] using this, h.1.2⟩, h.2⟩
section
variable {P : Program} {n : NF} {Γ Γ' : Env} {w : World} {Q : Exit → Env → World → Prop} {Pn : List PanicEntry → World → Prop} {K : Env → World → Prop} {ops : Array Oper} {S S' : World → Prop} {L fuel : Nat} {listed : Array Bool}
theorem VC.heldL {id : Nat} {l : List Oper} (L : Nat) (S : World → Prop) (hm : P.follows .mixedOrders = true)
  (h : qJ P n l.toArray S (fun ch w' => Q (.panic ch) [] w') L l.toArray.size (Array.replicate l.toArray.size false) Γ w.drew (fun Γ' w' => Q .normal Γ' w')) (hnd : n.ro = none ∨ cS l.toArray = true := by first | exact .inl rfl | exact .inr (by kernel_rfl)) : VC P n (.region id l.toArray true) Γ w Q := by
 intro a hs m
 refine wpIn_mono (Q := fD n (fun Γ' w' => Q .normal Γ' w') (fun ch w' => Q (.panic ch) [] w')) (wpIn_region_any hm (fB hnd (fun ⟨_, _, h⟩ => h) _ _ _ _ (fC _ _ _ _ (h a hs)))) ?_
 intro e a w hq
 cases e with
 | normal => exact hq
 | panic ch => exact ⟨[], ⟨hq.1.1, hq.1.2, fun t v h => by simp [get?] at h⟩, hq.2⟩
 | _ => exact hq.elim
theorem VC.held {id : Nat} {l : List Oper} (S : World → Prop) (hm : P.follows .mixedOrders = true)
  (h : qJ P n l.toArray S (fun ch w' => Q (.panic ch) [] w') l.toArray.size l.toArray.size (Array.replicate l.toArray.size false) Γ w.drew (fun Γ' w' => Q .normal Γ' w')) (hnd : n.ro = none ∨ cS l.toArray = true := by first | exact .inl rfl | exact .inr (by kernel_rfl)) : VC P n (.region id l.toArray true) Γ w Q := VC.heldL _ S hm h hnd
theorem qJ.done (hr : Region.ready .any ops listed = []) (h : K Γ w) : qJ P n ops S Pn L fuel listed Γ w K := fun _ hs => nJ hr ⟨Γ, hs, h⟩ fuel
theorem qJ.take {v : Value} {d : Nat} (i : Nat) {oi : Oper} (hi : ops[i]? = some oi) (hsel : (Region.noSelect ops && fR ops L i) = true) (hf : Region.free .any ops listed i = true) (hr : (Region.ready .any ops listed).contains i = true)
  (hS : S w) (h : ∀ w', S w' → Run P oi Γ w' v) (hup : Up ops Γ oi.guard) (hd : oi.dst = some d) (hn : Nat.blt d n.n = true)
  (k : qJ P n ops S Pn L fuel (listed.setIfInBounds i true) ((d, v) :: Γ) w K) : qJ P n ops S Pn L (fuel + 1) listed Γ w K := by
 intro a hs
 refine nX hi hsel hf hr pT (.inl ⟨hup.wanted hs, fun w' hw' => h w' hw' _ hs.fits⟩) hS ?_
 rw [hd]
 exact k _ (hs.put hn v)
theorem qJ.of_wp (i : Nat) {oi : Oper} (hi : ops[i]? = some oi) (hr : Region.ready .any ops listed = [i]) (hup : Up ops Γ oi.guard)
  (h : ∀ a, Sat n Γ a → oi.wp P a w (fun a' w' => S w' ∧ bO P ops (fD n K Pn) S L fuel (listed.setIfInBounds i true) a' w') (fD n K Pn)) : qJ P n ops S Pn L (fuel + 1) listed Γ w K := by
 intro a hs
 refine oM hr jp ?_
 intro j hj
 simp only [List.mem_singleton] at hj
 subst hj
 unfold wpOp
 simp only [hi]
 rw [if_pos (hup.wanted hs)]
 exact .inl (h a hs)
theorem qJ.m {R : Value → World → Prop} {d : Nat} (i : Nat) {oi : Oper} (hi : ops[i]? = some oi) (hr : Region.ready .any ops listed = [i]) (h : qV P oi Γ w R) (hup : Up ops Γ oi.guard) (hd : oi.dst = some d) (hn : Nat.blt d n.n = true)
  (k : ∀ v w', R v w' → S w' ∧ qJ P n ops S Pn L fuel (listed.setIfInBounds i true) ((d, v) :: Γ) w' K) : qJ P n ops S Pn L (fuel + 1) listed Γ w K :=
 qJ.of_wp i hi hr hup fun a hs => by
  obtain ⟨v, w', hrun, hR⟩ := h _ hs.fits
  unfold Oper.wp
  rw [hrun, Oper.upon_value, hd]
  exact ⟨(k v w' hR).1, (k v w' hR).2 _ (hs.put hn v)⟩
theorem qJ.st {R : World → Prop} (i : Nat) {oi : Oper} (hi : ops[i]? = some oi) (hr : Region.ready .any ops listed = [i]) (h : qZ P oi Γ w R) (hup : Up ops Γ oi.guard) (hd : oi.dst = none)
  (k : ∀ w', R w' → S w' ∧ qJ P n ops S Pn L fuel (listed.setIfInBounds i true) Γ w' K) : qJ P n ops S Pn L (fuel + 1) listed Γ w K :=
 qJ.of_wp i hi hr hup fun a hs => by
  obtain ⟨w', hrun, hR⟩ := h _ hs.fits
  unfold Oper.wp
  rw [hrun, Oper.upon_skip, hd]
  exact ⟨(k w' hR).1, (k w' hR).2 _ hs⟩
theorem qJ.stL {R : World → Prop} {oi : Oper} (hi : ops[L]? = some oi) (hr : Region.ready .any ops listed = [L]) (h : qZ P oi Γ w R) (hup : Up ops Γ oi.guard) (hd : oi.dst = none)
  (k : ∀ w', R w' → qJ P n ops S Pn L fuel (listed.setIfInBounds L true) Γ w' K) : qJ P n ops S Pn L (fuel + 1) listed Γ w K := by
 intro a hs
 refine nZ hr ?_
 unfold wpOp
 simp only [hi]
 rw [if_pos (hup.wanted hs)]
 left
 obtain ⟨w', hrun, hR⟩ := h _ hs.fits
 unfold Oper.wp
 rw [hrun, Oper.upon_skip, hd]
 exact (k w' hR) _ hs
theorem qJ.cl {f : FuncId} {args : Array Value} {R : Ending → World → Prop} {d : Nat} (i : Nat) {oi : Oper} (hi : ops[i]? = some oi) (hr : Region.ready .any ops listed = [i]) (he : qD P oi Γ w f args) (hc : Calls P f args w R) (hup : Up ops Γ oi.guard) (hd : oi.dst = some d) (hn : Nat.blt d n.n = true)
  (k : ∀ e w', R e w' → ∃ v, e = .returned v ∧ S w' ∧ qJ P n ops S Pn L fuel (listed.setIfInBounds i true) ((d, v) :: Γ) w' K) : qJ P n ops S Pn L (fuel + 1) listed Γ w K :=
 qJ.of_wp i hi hr hup fun a hs => by
  unfold Oper.wp
  rw [he _ hs.fits, Oper.upon_enter, hd]
  refine hc.mono ?_
  intro e w' hR
  obtain ⟨v, rfl, h1, h2⟩ := k e w' hR
  exact ⟨h1, h2 _ (hs.put hn v)⟩
end
end
section
open Go.RowKit Go.ChangeShapes Go.WideShapes Go.Deep
def IB (xs : List Int) : List Value := xs.map (Value.int .i64)
theorem uF (l : List Int) : ∀ u ∈ IB l, u.oneCell' = true := by
 intro u hu
 obtain ⟨b, _, rfl⟩ := List.mem_map.1 hu
 rfl
theorem gO {α : Type} {Q : Nat → α → Prop} : ∀ n, (∀ i, i < n → ∃ s, Q i s) → ∃ l : List α, l.length = n ∧ ∀ i s, l[i]? = some s → Q i s
 | 0, _ => ⟨[], rfl, fun i s h => by simp at h⟩
 | n + 1, h => by
  obtain ⟨l, hl, hq⟩ := gO n (fun i hi => h i jo)
  obtain ⟨s, hs⟩ := h n jo
  refine ⟨l ++ [s], by simp [hl], fun i t ht => ?_⟩
  rcases Nat.lt_trichotomy i n with hi | hi | hi
  · rw [List.getElem?_append_left jo] at ht; exact hq i t ht
  ·
   subst hi
   rw [List.getElem?_append_right jo, hl, Nat.sub_self] at ht
   simp at ht
   subst ht
   exact hs
  rw [List.getElem?_eq_none (by simp; omega)] at ht; cases ht
theorem hU {α : Type} (f : α → List Value) (sz : Nat) (hf : ∀ a, (f a).length = sz) (l : List α) (k : Nat) (h : k < l.length) : ((l.flatMap f).drop (k * sz)).take sz = f l[k] := by
 induction l generalizing k with
 | nil => simp at h
 | cons a r ih =>
  rw [List.flatMap_cons]
  cases k with
  | zero => rw [Nat.zero_mul, List.drop_zero, List.take_append_of_le_length (by rw [hf]; exact Nat.le_refl _), List.take_of_length_le (by rw [hf]; exact Nat.le_refl _)]; rfl
  | succ k =>
   have e : (k + 1) * sz = (f a).length + k * sz := by rw [hf, Nat.succ_mul]; omega
   rw [e, List.drop_append, List.drop_eq_nil_of_le jo, List.nil_append, Nat.add_sub_cancel_left, ih k (by simpa using h)]
   rfl
section
variable {H : Type} {enc : TypeId × Value → H} {P : Program} {w : World} {base : Nat} {spare : Nat → Bool} {held : Bool}
theorem uJ {t e : TypeId} {k : IntKind} {fuel len cap : Nat} {a : Option Addr} {x : DataW H × List MemPlace} (ht : P.underlying t = some (.slice e)) (he : P.underlying e = some (.int k)) (hc : P.cellsOf e = 1)
  (h : DataW.trod enc P w base spare held fuel t [.slice a len cap] = some x) :
  ∃ zs : List Int, zs.length = len ∧ len ≤ cap ∧ cap ≤ 9223372036854775807 ∧ Rd w 1 a len (zs.map (Value.int k)) ∧ ∀ z ∈ zs, (Lit.int k z).wf = true := by
 rcases open_ints ht he hc h with ⟨hcs, _⟩ | ⟨ad, l, c, zs, hcs, _, hl, hm, hz, _, hcell, hwz⟩
 ·
  simp only [List.cons.injEq, Value.slice.injEq, and_true] at hcs
  obtain ⟨rfl, rfl, rfl⟩ := hcs
  exact ⟨[], rfl, Nat.le_refl _, jo, Rd.nil _ _ _, jp⟩
 simp only [List.cons.injEq, Value.slice.injEq, and_true] at hcs
 obtain ⟨rfl, rfl, rfl⟩ := hcs
 have hzl : len ≤ zs.length := by rw [hz]; split <;> omega
 refine ⟨zs.take len, by rw [List.length_take]; omega, hl, by simpa [maxLen] using hm, ⟨by rw [List.length_map, List.length_take]; omega, fun hn => ⟨ad, rfl, ?_, fun j u hu => ?_⟩⟩, fun z hz => hwz z (List.mem_of_mem_take hz)⟩
 ·
  have := World.block_lt_of_cell? w _ (hcell 0 jo)
  rwa [fK] at this
 rw [List.getElem?_map] at hu
 by_cases hj : j < len
 ·
  rw [List.getElem?_take_of_lt hj, List.getElem?_eq_getElem jo] at hu
  simp only [Option.map_some, Option.some.injEq] at hu
  rw [hcell j jo, ← hu, List.getD_eq_getElem?_getD, List.getElem?_eq_getElem jo]
  rfl
 rw [List.getElem?_eq_none (by rw [List.length_take]; omega)] at hu
 cases hu
end
end
section
open Go.RowKit
section
variable {P : Program} {n : NF} {Γ : Env} {w : World} {Q : Exit → Env → World → Prop} {K : Env → World → Prop} {KE : Env → Prop} {ops : Array Oper} {rest : List Oper} {d : Nat} {op : Op} {T : TypeId} {pos : String} {after : Array Edge}
theorem sS {j : Nat} {a : Act} (hs : Sat n Γ a) (h : yi ops Γ j = some undef) : yielded ops a.tmps j = none := by
 unfold yi at h
 unfold yielded
 cases hd : (ops[j]?).bind (·.dst) with
 | none => rfl
 | some t =>
  rw [hd] at h
  simp only [Option.bind_some] at h ⊢
  have := hs.at_ t _ h
  rw [Array.getD_eq_getD_getElem?] at this
  cases hg : a.tmps[t]? with
  | none => rfl
  | some u => rw [hg] at this; simp only [Option.getD_some] at this; subst this; rfl
theorem lL {j : Nat} {c : Bool} {o : Oper} {a : Act} (hs : Sat n Γ a) (hg : o.guard = some (j, c)) (h : yi ops Γ j = some undef) : Region.wanted o (yielded ops a.tmps) = false := by
 unfold Region.wanted
 rw [hg]
 simp only
 rw [sS hs h]
 rfl
theorem Ops.skU {j : Nat} {c : Bool} (hy : yi ops Γ j = some undef) (hn : Nat.blt d n.n = true) (k : Ops P n ops rest ((d, undef) :: Γ) w Q) : Ops P n ops (⟨some d, op, T, pos, after, some (j, c)⟩ :: rest) Γ w Q := by
 intro a hs m
 unfold wpListIn
 rw [lL hs rfl hy]
 simp only [Bool.false_eq_true, if_false]
 exact ⟨bL, k _ (hs.put hn undef) m⟩
end
section
variable {P : Program} {Γ : Env} {w : World} {dst : Option Tmp} {T : TypeId} {pos : String} {after : Array Edge} {g : Option (Nat × Bool)}
theorem Run.indexA {t : TypeId} {x i : Operand} {a : Addr} {n : Nat} {k : IntKind} {e : TypeId} {sz : Nat} (j : Nat) (hx : ev? Γ x = some (.pointer (some a))) (hi : ev? Γ i = some (.int k j)) (ht : P.underlying t = some (.array n e))
  (hz : ∀ w, (sizeOf e).run P w = .ok sz w) (hj : j < n) : Run P ⟨dst, .indexAddr t x i, T, pos, after, g⟩ Γ w (.pointer (some (a.add (j * sz)))) := fun ρ hρ => by
 have h1 : (j : Int) < (n : Int) := jo
 simp [execOp, hρ _ _ hx, hρ _ _ hi, Instr.indexAt, asIntOf, run_underlying ht, hz, hj, Instr.sureAddr]
theorem Run.indexA1 {t : TypeId} {x i : Operand} {gb o n : Nat} {k : IntKind} {e : TypeId} (j : Nat) (hx : ev? Γ x = some (.pointer (some ⟨gb, o, none⟩))) (hi : ev? Γ i = some (.int k j)) (ht : P.underlying t = some (.array n e))
  (hz : ∀ w, (sizeOf e).run P w = .ok 1 w) (hj : j < n) : Run P ⟨dst, .indexAddr t x i, T, pos, after, g⟩ Γ w (.pointer (some ⟨gb, o + j, none⟩)) := by
 have := Run.indexA (P := P) (Γ := Γ) (w := w) (dst := dst) (T := T) (pos := pos) (after := after) (g := g) j hx hi ht hz hj
 have e : (⟨gb, o, none⟩ : Addr).add (j * 1) = ⟨gb, o + j, none⟩ := by unfold Addr.add; split <;> simp_all
 rwa [e] at this
theorem Run.loadB {t e : TypeId} {x : Operand} {gb sz : Nat} {cs : Array Value} (hx : ev? Γ x = some (.pointer (some ⟨gb, 0, none⟩))) (ht : ∀ w, (isAgg t).run P w = .ok true w) (hz : ∀ w, (sizeOf t).run P w = .ok sz w)
  (hb : Blk w gb e cs) (hl : cs.size = sz) : Run P ⟨dst, .load t x, T, pos, after, g⟩ Γ w (.agg cs) := by
 have := Run.loadA (P := P) (Γ := Γ) (w := w) (dst := dst) (T := T) (pos := pos) (after := after) (g := g) hx ht hz hb.cells (by simpa using hl)
 simpa using this
theorem pU {t : Tmp} {T : TypeId} {r : List ResultVar} {e : TypeId} {gb sz : Nat} {cs : Array Value} {K : List Value → Prop} (h1 : get? Γ t = some (.pointer (some ⟨gb, 0, none⟩))) (ht : ∀ w, (isAgg T).run P w = .ok true w) (hz : ∀ w, (sizeOf T).run P w = .ok sz w)
  (hb : Blk w gb e cs) (hl : cs.size = sz) (h : dW P r Γ w fun vs => K (.agg cs :: vs)) : dW P (.cell t T :: r) Γ w K :=
 qI (cs := cs.toList) h1 ht hz hb.cells (by simpa using hl) (by simpa using h)
theorem qV.buildN {t e : TypeId} {size n : Nat} {parts : List (Nat × Operand)} {vs : List Value} {z : Value} {cells : Array Value} (hv : evs Γ (parts.map (·.2)) vs) (ht : P.underlying t = some (.slice e)) (hz : ∀ w, (sizeOf e).run P w = .ok size w)
  (hzv : ∀ w, (zeroValue e).run P w = .ok z w) (hn : Nat.beq (n * size) 0 = false) (hb : Nat.ble (n * size) 16777216 = true)
  (hf : Instr.fill (fun i => some (i * size, size)) ((Array.range (n * size)).map (z.cells[· % z.cells.size]!)) ((parts.map (·.1)).zip vs) = some cells) :
  qV P ⟨dst, .buildSlice t n parts.toArray, T, pos, after, g⟩ Γ w (fun r w' => r = .slice (some ⟨w.heap.size, 0, none⟩) n n ∧ Fresh w w' e cells) := fun ρ hρ => by
 have e1 := cA hρ _ _ hv
 have e2 : parts.map (fun p => (p.1, ρ p.2)) = (parts.map (·.1)).zip vs := by
  rw [← e1, List.map_map, List.zip_map']
  rfl
 have h1 : ¬ (n * size > 2 ^ 24) := by have := Nat.le_of_ble_eq_true hb; omega
 have h2 : ¬ (n * size = 0) := Nat.ne_of_beq_eq_false hn
 refine ⟨_, w.alloc (.cells cells e), ?_, rfl, Fresh.mk' _ _ _⟩
 simp only [execOp, Instr.buildSlice, Sem.run_bind, run_underlying ht, Result.andThen_ok, hz, Sem.run_ite, h1, h2, if_false, hzv, Sem.run_pure, List.map_toArray, e2, hf, newRow, run_newObj]
 rfl
end
section
variable {P : Program} {Γ : Env} {w : World} {dst : Option Tmp} {T : TypeId} {pos : String} {after : Array Edge} {g : Option (Nat × Bool)}
def fE : TypeDesc → Bool
 | .interface _ => false
 | _ => true
theorem Run.mkIface {xT : TypeId} {x : Operand} {v : Value} {d : TypeDesc} (hx : ev? Γ x = some v) (hu : P.underlying xT = some d) (hd : fE d = true) :
  Run P ⟨dst, .makeInterface xT x, T, pos, after, g⟩ Γ w (.iface xT v) := fun ρ hρ => by
 have e : (Instr.makeInterface xT v).run P w = .ok (.iface xT v) w := by
  unfold Instr.makeInterface
  simp only [Sem.run_bind, run_underlying hu, Result.andThen_ok]
  cases d <;> first | rfl | cases hd
 simp [execOp, hρ _ _ hx, e]
theorem Run.mkFunc {f : FuncId} {xs ys : List Operand} {vs us : List Value} (hx : evs Γ xs vs) (hy : evs Γ ys us) :
  Run P ⟨dst, .makeFunc (.func f) xs.toArray ys.toArray, T, pos, after, g⟩ Γ w (.func (.func f) vs.toArray us.toArray) := fun ρ hρ => by
 have e1 := cA hρ xs vs hx
 have e2 := cA hρ ys us hy
 simp [execOp, Instr.makeFunc, e1, e2]
theorem qD.dyn {c : Operand} {f : FuncId} {fs us : List Value} {xs : List Operand} {vs : List Value} {ts : Array TypeId} (hc : ev? Γ c = some (.func (.func f) fs.toArray us.toArray)) (hv : evs Γ xs vs) (hf : ∀ args w, (callFunc f args).run P w = .ok (.enter f args) w) :
  qD P ⟨dst, .call ⟨.value c, xs.toArray, ts⟩, T, pos, after, g⟩ Γ w f (fs ++ vs ++ us).toArray := fun ρ hρ => by
 have e := cA hρ xs vs hv
 have e2 : ρ c = .func (.func f) fs.toArray us.toArray := hρ _ _ hc
 simp [execOp, resolve, e2, Deferred.ofValue, invoke, e, hf]
end
section
variable {P : Program} {n : NF} {Γ : Env} {Pn : List PanicEntry → World → Prop} {w : World} {K : Env → World → Prop} {ops : Array Oper} {S : World → Prop} {L fuel : Nat} {listed : Array Bool}
theorem qJ.r1 {v : Value} {d : Nat} (i : Nat) {oi : Oper} (hi : ops[i]? = some oi) (hr : Region.ready .any ops listed = [i]) (hS : S w) (h : Run P oi Γ w v) (hup : Up ops Γ oi.guard) (hd : oi.dst = some d) (hn : Nat.blt d n.n = true)
  (k : qJ P n ops S Pn L fuel (listed.setIfInBounds i true) ((d, v) :: Γ) w K) : qJ P n ops S Pn L (fuel + 1) listed Γ w K :=
 qJ.of_wp i hi hr hup fun a hs => by
  unfold Oper.wp
  rw [h _ hs.fits, Oper.upon_value, hd]
  exact ⟨hS, k _ (hs.put hn v)⟩
end
section
variable {P : Program} {n : NF} {Γ : Env} {Pn : List PanicEntry → World → Prop} {w : World} {Q : Exit → Env → World → Prop}
theorem VC.splitR {c : Code} (Γk : Env) (R : World → Prop) (t : Nat) (v : Value) (h : VC P n c Γ w (dV (fun Γ1 w1 => Sub Γ1 ((t, v) :: Γk) ∧ R w1) Q)) (k : ∀ Γ1 w1, Sub Γ1 ((t, v) :: Γk) → R w1 → Q .normal Γ1 w1) : VC P n c Γ w Q :=
 h.mono fun e Γ' w' q => by
  cases e with
  | normal => exact k Γ' w' q.1 q.2
  | exit i => exact q
  | goto l => exact q
  | ret => exact q
  | panic c => exact q
  | outgrown => exact q
end
section
variable {P : Program} {n : NF} {Γ : Env} {Pn : List PanicEntry → World → Prop} {w : World} {K : Env → World → Prop} {ops : Array Oper} {S : World → Prop} {L fuel : Nat} {listed : Array Bool}
end
theorem jK {p : Prop} (h : p := by kernel_rfl) : p := h
theorem jC {a b : Bool} (h : a = b) : some (Value.bool a) = some (Value.bool b) := congrArg (fun b => some (Value.bool b)) h
theorem js1 {Γ : Env} {k0 : Nat} {v0 : Value} (h0 : get? Γ k0 = some v0) : Sub Γ [(k0, v0)] := (.cons h0 .nil)
theorem js2 {Γ : Env} {k0 k1 : Nat} {v0 v1 : Value} (h0 : get? Γ k0 = some v0) (h1 : get? Γ k1 = some v1) : Sub Γ [(k0, v0), (k1, v1)] := (.cons h0 (.cons h1 .nil))
theorem js3 {Γ : Env} {k0 k1 k2 : Nat} {v0 v1 v2 : Value} (h0 : get? Γ k0 = some v0) (h1 : get? Γ k1 = some v1) (h2 : get? Γ k2 = some v2) : Sub Γ [(k0, v0), (k1, v1), (k2, v2)] := (.cons h0 (.cons h1 (.cons h2 .nil)))
theorem js4 {Γ : Env} {k0 k1 k2 k3 : Nat} {v0 v1 v2 v3 : Value} (h0 : get? Γ k0 = some v0) (h1 : get? Γ k1 = some v1) (h2 : get? Γ k2 = some v2) (h3 : get? Γ k3 = some v3) : Sub Γ [(k0, v0), (k1, v1), (k2, v2), (k3, v3)] := (.cons h0 (.cons h1 (.cons h2 (.cons h3 .nil))))
theorem js5 {Γ : Env} {k0 k1 k2 k3 k4 : Nat} {v0 v1 v2 v3 v4 : Value} (h0 : get? Γ k0 = some v0) (h1 : get? Γ k1 = some v1) (h2 : get? Γ k2 = some v2) (h3 : get? Γ k3 = some v3) (h4 : get? Γ k4 = some v4) : Sub Γ [(k0, v0), (k1, v1), (k2, v2), (k3, v3), (k4, v4)] := (.cons h0 (.cons h1 (.cons h2 (.cons h3 (.cons h4 .nil)))))
theorem js6 {Γ : Env} {k0 k1 k2 k3 k4 k5 : Nat} {v0 v1 v2 v3 v4 v5 : Value} (h0 : get? Γ k0 = some v0) (h1 : get? Γ k1 = some v1) (h2 : get? Γ k2 = some v2) (h3 : get? Γ k3 = some v3) (h4 : get? Γ k4 = some v4) (h5 : get? Γ k5 = some v5) : Sub Γ [(k0, v0), (k1, v1), (k2, v2), (k3, v3), (k4, v4), (k5, v5)] := (.cons h0 (.cons h1 (.cons h2 (.cons h3 (.cons h4 (.cons h5 .nil))))))
theorem js7 {Γ : Env} {k0 k1 k2 k3 k4 k5 k6 : Nat} {v0 v1 v2 v3 v4 v5 v6 : Value} (h0 : get? Γ k0 = some v0) (h1 : get? Γ k1 = some v1) (h2 : get? Γ k2 = some v2) (h3 : get? Γ k3 = some v3) (h4 : get? Γ k4 = some v4) (h5 : get? Γ k5 = some v5) (h6 : get? Γ k6 = some v6) : Sub Γ [(k0, v0), (k1, v1), (k2, v2), (k3, v3), (k4, v4), (k5, v5), (k6, v6)] := (.cons h0 (.cons h1 (.cons h2 (.cons h3 (.cons h4 (.cons h5 (.cons h6 .nil)))))))
theorem js8 {Γ : Env} {k0 k1 k2 k3 k4 k5 k6 k7 : Nat} {v0 v1 v2 v3 v4 v5 v6 v7 : Value} (h0 : get? Γ k0 = some v0) (h1 : get? Γ k1 = some v1) (h2 : get? Γ k2 = some v2) (h3 : get? Γ k3 = some v3) (h4 : get? Γ k4 = some v4) (h5 : get? Γ k5 = some v5) (h6 : get? Γ k6 = some v6) (h7 : get? Γ k7 = some v7) : Sub Γ [(k0, v0), (k1, v1), (k2, v2), (k3, v3), (k4, v4), (k5, v5), (k6, v6), (k7, v7)] := (.cons h0 (.cons h1 (.cons h2 (.cons h3 (.cons h4 (.cons h5 (.cons h6 (.cons h7 .nil))))))))
theorem js9 {Γ : Env} {k0 k1 k2 k3 k4 k5 k6 k7 k8 : Nat} {v0 v1 v2 v3 v4 v5 v6 v7 v8 : Value} (h0 : get? Γ k0 = some v0) (h1 : get? Γ k1 = some v1) (h2 : get? Γ k2 = some v2) (h3 : get? Γ k3 = some v3) (h4 : get? Γ k4 = some v4) (h5 : get? Γ k5 = some v5) (h6 : get? Γ k6 = some v6) (h7 : get? Γ k7 = some v7) (h8 : get? Γ k8 = some v8) : Sub Γ [(k0, v0), (k1, v1), (k2, v2), (k3, v3), (k4, v4), (k5, v5), (k6, v6), (k7, v7), (k8, v8)] := (.cons h0 (.cons h1 (.cons h2 (.cons h3 (.cons h4 (.cons h5 (.cons h6 (.cons h7 (.cons h8 .nil)))))))))
theorem js10 {Γ : Env} {k0 k1 k2 k3 k4 k5 k6 k7 k8 k9 : Nat} {v0 v1 v2 v3 v4 v5 v6 v7 v8 v9 : Value} (h0 : get? Γ k0 = some v0) (h1 : get? Γ k1 = some v1) (h2 : get? Γ k2 = some v2) (h3 : get? Γ k3 = some v3) (h4 : get? Γ k4 = some v4) (h5 : get? Γ k5 = some v5) (h6 : get? Γ k6 = some v6) (h7 : get? Γ k7 = some v7) (h8 : get? Γ k8 = some v8) (h9 : get? Γ k9 = some v9) : Sub Γ [(k0, v0), (k1, v1), (k2, v2), (k3, v3), (k4, v4), (k5, v5), (k6, v6), (k7, v7), (k8, v8), (k9, v9)] := (.cons h0 (.cons h1 (.cons h2 (.cons h3 (.cons h4 (.cons h5 (.cons h6 (.cons h7 (.cons h8 (.cons h9 .nil))))))))))
theorem js11 {Γ : Env} {k0 k1 k2 k3 k4 k5 k6 k7 k8 k9 k10 : Nat} {v0 v1 v2 v3 v4 v5 v6 v7 v8 v9 v10 : Value} (h0 : get? Γ k0 = some v0) (h1 : get? Γ k1 = some v1) (h2 : get? Γ k2 = some v2) (h3 : get? Γ k3 = some v3) (h4 : get? Γ k4 = some v4) (h5 : get? Γ k5 = some v5) (h6 : get? Γ k6 = some v6) (h7 : get? Γ k7 = some v7) (h8 : get? Γ k8 = some v8) (h9 : get? Γ k9 = some v9) (h10 : get? Γ k10 = some v10) : Sub Γ [(k0, v0), (k1, v1), (k2, v2), (k3, v3), (k4, v4), (k5, v5), (k6, v6), (k7, v7), (k8, v8), (k9, v9), (k10, v10)] := (.cons h0 (.cons h1 (.cons h2 (.cons h3 (.cons h4 (.cons h5 (.cons h6 (.cons h7 (.cons h8 (.cons h9 (.cons h10 .nil)))))))))))
theorem js12 {Γ : Env} {k0 k1 k2 k3 k4 k5 k6 k7 k8 k9 k10 k11 : Nat} {v0 v1 v2 v3 v4 v5 v6 v7 v8 v9 v10 v11 : Value} (h0 : get? Γ k0 = some v0) (h1 : get? Γ k1 = some v1) (h2 : get? Γ k2 = some v2) (h3 : get? Γ k3 = some v3) (h4 : get? Γ k4 = some v4) (h5 : get? Γ k5 = some v5) (h6 : get? Γ k6 = some v6) (h7 : get? Γ k7 = some v7) (h8 : get? Γ k8 = some v8) (h9 : get? Γ k9 = some v9) (h10 : get? Γ k10 = some v10) (h11 : get? Γ k11 = some v11) : Sub Γ [(k0, v0), (k1, v1), (k2, v2), (k3, v3), (k4, v4), (k5, v5), (k6, v6), (k7, v7), (k8, v8), (k9, v9), (k10, v10), (k11, v11)] := (.cons h0 (.cons h1 (.cons h2 (.cons h3 (.cons h4 (.cons h5 (.cons h6 (.cons h7 (.cons h8 (.cons h9 (.cons h10 (.cons h11 .nil))))))))))))
theorem js13 {Γ : Env} {k0 k1 k2 k3 k4 k5 k6 k7 k8 k9 k10 k11 k12 : Nat} {v0 v1 v2 v3 v4 v5 v6 v7 v8 v9 v10 v11 v12 : Value} (h0 : get? Γ k0 = some v0) (h1 : get? Γ k1 = some v1) (h2 : get? Γ k2 = some v2) (h3 : get? Γ k3 = some v3) (h4 : get? Γ k4 = some v4) (h5 : get? Γ k5 = some v5) (h6 : get? Γ k6 = some v6) (h7 : get? Γ k7 = some v7) (h8 : get? Γ k8 = some v8) (h9 : get? Γ k9 = some v9) (h10 : get? Γ k10 = some v10) (h11 : get? Γ k11 = some v11) (h12 : get? Γ k12 = some v12) : Sub Γ [(k0, v0), (k1, v1), (k2, v2), (k3, v3), (k4, v4), (k5, v5), (k6, v6), (k7, v7), (k8, v8), (k9, v9), (k10, v10), (k11, v11), (k12, v12)] := (.cons h0 (.cons h1 (.cons h2 (.cons h3 (.cons h4 (.cons h5 (.cons h6 (.cons h7 (.cons h8 (.cons h9 (.cons h10 (.cons h11 (.cons h12 .nil)))))))))))))
theorem js14 {Γ : Env} {k0 k1 k2 k3 k4 k5 k6 k7 k8 k9 k10 k11 k12 k13 : Nat} {v0 v1 v2 v3 v4 v5 v6 v7 v8 v9 v10 v11 v12 v13 : Value} (h0 : get? Γ k0 = some v0) (h1 : get? Γ k1 = some v1) (h2 : get? Γ k2 = some v2) (h3 : get? Γ k3 = some v3) (h4 : get? Γ k4 = some v4) (h5 : get? Γ k5 = some v5) (h6 : get? Γ k6 = some v6) (h7 : get? Γ k7 = some v7) (h8 : get? Γ k8 = some v8) (h9 : get? Γ k9 = some v9) (h10 : get? Γ k10 = some v10) (h11 : get? Γ k11 = some v11) (h12 : get? Γ k12 = some v12) (h13 : get? Γ k13 = some v13) : Sub Γ [(k0, v0), (k1, v1), (k2, v2), (k3, v3), (k4, v4), (k5, v5), (k6, v6), (k7, v7), (k8, v8), (k9, v9), (k10, v10), (k11, v11), (k12, v12), (k13, v13)] := (.cons h0 (.cons h1 (.cons h2 (.cons h3 (.cons h4 (.cons h5 (.cons h6 (.cons h7 (.cons h8 (.cons h9 (.cons h10 (.cons h11 (.cons h12 (.cons h13 .nil))))))))))))))
theorem js15 {Γ : Env} {k0 k1 k2 k3 k4 k5 k6 k7 k8 k9 k10 k11 k12 k13 k14 : Nat} {v0 v1 v2 v3 v4 v5 v6 v7 v8 v9 v10 v11 v12 v13 v14 : Value} (h0 : get? Γ k0 = some v0) (h1 : get? Γ k1 = some v1) (h2 : get? Γ k2 = some v2) (h3 : get? Γ k3 = some v3) (h4 : get? Γ k4 = some v4) (h5 : get? Γ k5 = some v5) (h6 : get? Γ k6 = some v6) (h7 : get? Γ k7 = some v7) (h8 : get? Γ k8 = some v8) (h9 : get? Γ k9 = some v9) (h10 : get? Γ k10 = some v10) (h11 : get? Γ k11 = some v11) (h12 : get? Γ k12 = some v12) (h13 : get? Γ k13 = some v13) (h14 : get? Γ k14 = some v14) : Sub Γ [(k0, v0), (k1, v1), (k2, v2), (k3, v3), (k4, v4), (k5, v5), (k6, v6), (k7, v7), (k8, v8), (k9, v9), (k10, v10), (k11, v11), (k12, v12), (k13, v13), (k14, v14)] := (.cons h0 (.cons h1 (.cons h2 (.cons h3 (.cons h4 (.cons h5 (.cons h6 (.cons h7 (.cons h8 (.cons h9 (.cons h10 (.cons h11 (.cons h12 (.cons h13 (.cons h14 .nil)))))))))))))))
theorem js16 {Γ : Env} {k0 k1 k2 k3 k4 k5 k6 k7 k8 k9 k10 k11 k12 k13 k14 k15 : Nat} {v0 v1 v2 v3 v4 v5 v6 v7 v8 v9 v10 v11 v12 v13 v14 v15 : Value} (h0 : get? Γ k0 = some v0) (h1 : get? Γ k1 = some v1) (h2 : get? Γ k2 = some v2) (h3 : get? Γ k3 = some v3) (h4 : get? Γ k4 = some v4) (h5 : get? Γ k5 = some v5) (h6 : get? Γ k6 = some v6) (h7 : get? Γ k7 = some v7) (h8 : get? Γ k8 = some v8) (h9 : get? Γ k9 = some v9) (h10 : get? Γ k10 = some v10) (h11 : get? Γ k11 = some v11) (h12 : get? Γ k12 = some v12) (h13 : get? Γ k13 = some v13) (h14 : get? Γ k14 = some v14) (h15 : get? Γ k15 = some v15) : Sub Γ [(k0, v0), (k1, v1), (k2, v2), (k3, v3), (k4, v4), (k5, v5), (k6, v6), (k7, v7), (k8, v8), (k9, v9), (k10, v10), (k11, v11), (k12, v12), (k13, v13), (k14, v14), (k15, v15)] := (.cons h0 (.cons h1 (.cons h2 (.cons h3 (.cons h4 (.cons h5 (.cons h6 (.cons h7 (.cons h8 (.cons h9 (.cons h10 (.cons h11 (.cons h12 (.cons h13 (.cons h14 (.cons h15 .nil))))))))))))))))
section
variable {P : Program} {n : NF} {Γ : Env} {w : World} {Q : Exit → Env → World → Prop} {ops : Array Oper} {rest : List Oper} {d : Nat} {T : TypeId} {pos : String} {after : Array Edge}
theorem jM {x : Operand} {v : Value} (k : Ops P n ops rest ((d, v) :: Γ) w Q) (hx : ev? Γ x = some v := by exact rfl) (hn : Nat.blt d n.n = true := by exact rfl) : Ops P n ops (⟨some d, .move x, T, pos, after, none⟩ :: rest) Γ w Q := Ops.r (Run.mv hx) hn k
theorem jA {x : Operand} {v : Value} (k : Ops P n ops rest ((d, v) :: Γ) w Q) (hx : ev? Γ x = some v := by exact rfl) (hn : Nat.blt d n.n = true := by exact rfl) : Ops P n ops (⟨some d, .assign x, T, pos, after, none⟩ :: rest) Γ w Q := Ops.r (Run.asg hx) hn k
theorem jU {op : Op} {j : Nat} {b c : Bool} (k : Ops P n ops rest ((d, undef) :: Γ) w Q) (hy : yi ops Γ j = some (.bool b) := by exact rfl) (hb : b = !c := by exact au) (hn : Nat.blt d n.n = true := by exact rfl) : Ops P n ops (⟨some d, op, T, pos, after, some (j, c)⟩ :: rest) Γ w Q := Ops.sk hy hb hn k
theorem jG {x : Operand} {v : Value} {j : Nat} {b c : Bool} (k : Ops P n ops rest ((d, v) :: Γ) w Q) (hy : yi ops Γ j = some (.bool b) := by exact rfl) (hb : b = c := by exact au) (hx : ev? Γ x = some v := by exact rfl) (hn : Nat.blt d n.n = true := by exact rfl) : Ops P n ops (⟨some d, .move x, T, pos, after, some (j, c)⟩ :: rest) Γ w Q := Ops.rg hy hb (Run.mv hx) hn k
theorem jv1 (k0 : Nat) {v0 : Value} {c : Code} (h : VC P n c [(k0, v0)] w Q) (h0 : get? Γ k0 = some v0 := by exact rfl) : VC P n c Γ w Q := VC.sub _ (js1 h0) h
theorem jv2 (k0 k1 : Nat) {v0 v1 : Value} {c : Code} (h : VC P n c [(k0, v0), (k1, v1)] w Q) (h0 : get? Γ k0 = some v0 := by exact rfl) (h1 : get? Γ k1 = some v1 := by exact rfl) : VC P n c Γ w Q := VC.sub _ (js2 h0 h1) h
theorem jv3 (k0 k1 k2 : Nat) {v0 v1 v2 : Value} {c : Code} (h : VC P n c [(k0, v0), (k1, v1), (k2, v2)] w Q) (h0 : get? Γ k0 = some v0 := by exact rfl) (h1 : get? Γ k1 = some v1 := by exact rfl) (h2 : get? Γ k2 = some v2 := by exact rfl) : VC P n c Γ w Q := VC.sub _ (js3 h0 h1 h2) h
theorem jv4 (k0 k1 k2 k3 : Nat) {v0 v1 v2 v3 : Value} {c : Code} (h : VC P n c [(k0, v0), (k1, v1), (k2, v2), (k3, v3)] w Q) (h0 : get? Γ k0 = some v0 := by exact rfl) (h1 : get? Γ k1 = some v1 := by exact rfl) (h2 : get? Γ k2 = some v2 := by exact rfl) (h3 : get? Γ k3 = some v3 := by exact rfl) : VC P n c Γ w Q := VC.sub _ (js4 h0 h1 h2 h3) h
theorem jv5 (k0 k1 k2 k3 k4 : Nat) {v0 v1 v2 v3 v4 : Value} {c : Code} (h : VC P n c [(k0, v0), (k1, v1), (k2, v2), (k3, v3), (k4, v4)] w Q) (h0 : get? Γ k0 = some v0 := by exact rfl) (h1 : get? Γ k1 = some v1 := by exact rfl) (h2 : get? Γ k2 = some v2 := by exact rfl) (h3 : get? Γ k3 = some v3 := by exact rfl) (h4 : get? Γ k4 = some v4 := by exact rfl) : VC P n c Γ w Q := VC.sub _ (js5 h0 h1 h2 h3 h4) h
theorem jv6 (k0 k1 k2 k3 k4 k5 : Nat) {v0 v1 v2 v3 v4 v5 : Value} {c : Code} (h : VC P n c [(k0, v0), (k1, v1), (k2, v2), (k3, v3), (k4, v4), (k5, v5)] w Q) (h0 : get? Γ k0 = some v0 := by exact rfl) (h1 : get? Γ k1 = some v1 := by exact rfl) (h2 : get? Γ k2 = some v2 := by exact rfl) (h3 : get? Γ k3 = some v3 := by exact rfl) (h4 : get? Γ k4 = some v4 := by exact rfl) (h5 : get? Γ k5 = some v5 := by exact rfl) : VC P n c Γ w Q := VC.sub _ (js6 h0 h1 h2 h3 h4 h5) h
theorem jv7 (k0 k1 k2 k3 k4 k5 k6 : Nat) {v0 v1 v2 v3 v4 v5 v6 : Value} {c : Code} (h : VC P n c [(k0, v0), (k1, v1), (k2, v2), (k3, v3), (k4, v4), (k5, v5), (k6, v6)] w Q) (h0 : get? Γ k0 = some v0 := by exact rfl) (h1 : get? Γ k1 = some v1 := by exact rfl) (h2 : get? Γ k2 = some v2 := by exact rfl) (h3 : get? Γ k3 = some v3 := by exact rfl) (h4 : get? Γ k4 = some v4 := by exact rfl) (h5 : get? Γ k5 = some v5 := by exact rfl) (h6 : get? Γ k6 = some v6 := by exact rfl) : VC P n c Γ w Q := VC.sub _ (js7 h0 h1 h2 h3 h4 h5 h6) h
theorem jv8 (k0 k1 k2 k3 k4 k5 k6 k7 : Nat) {v0 v1 v2 v3 v4 v5 v6 v7 : Value} {c : Code} (h : VC P n c [(k0, v0), (k1, v1), (k2, v2), (k3, v3), (k4, v4), (k5, v5), (k6, v6), (k7, v7)] w Q) (h0 : get? Γ k0 = some v0 := by exact rfl) (h1 : get? Γ k1 = some v1 := by exact rfl) (h2 : get? Γ k2 = some v2 := by exact rfl) (h3 : get? Γ k3 = some v3 := by exact rfl) (h4 : get? Γ k4 = some v4 := by exact rfl) (h5 : get? Γ k5 = some v5 := by exact rfl) (h6 : get? Γ k6 = some v6 := by exact rfl) (h7 : get? Γ k7 = some v7 := by exact rfl) : VC P n c Γ w Q := VC.sub _ (js8 h0 h1 h2 h3 h4 h5 h6 h7) h
theorem jv9 (k0 k1 k2 k3 k4 k5 k6 k7 k8 : Nat) {v0 v1 v2 v3 v4 v5 v6 v7 v8 : Value} {c : Code} (h : VC P n c [(k0, v0), (k1, v1), (k2, v2), (k3, v3), (k4, v4), (k5, v5), (k6, v6), (k7, v7), (k8, v8)] w Q) (h0 : get? Γ k0 = some v0 := by exact rfl) (h1 : get? Γ k1 = some v1 := by exact rfl) (h2 : get? Γ k2 = some v2 := by exact rfl) (h3 : get? Γ k3 = some v3 := by exact rfl) (h4 : get? Γ k4 = some v4 := by exact rfl) (h5 : get? Γ k5 = some v5 := by exact rfl) (h6 : get? Γ k6 = some v6 := by exact rfl) (h7 : get? Γ k7 = some v7 := by exact rfl) (h8 : get? Γ k8 = some v8 := by exact rfl) : VC P n c Γ w Q := VC.sub _ (js9 h0 h1 h2 h3 h4 h5 h6 h7 h8) h
theorem jv10 (k0 k1 k2 k3 k4 k5 k6 k7 k8 k9 : Nat) {v0 v1 v2 v3 v4 v5 v6 v7 v8 v9 : Value} {c : Code} (h : VC P n c [(k0, v0), (k1, v1), (k2, v2), (k3, v3), (k4, v4), (k5, v5), (k6, v6), (k7, v7), (k8, v8), (k9, v9)] w Q) (h0 : get? Γ k0 = some v0 := by exact rfl) (h1 : get? Γ k1 = some v1 := by exact rfl) (h2 : get? Γ k2 = some v2 := by exact rfl) (h3 : get? Γ k3 = some v3 := by exact rfl) (h4 : get? Γ k4 = some v4 := by exact rfl) (h5 : get? Γ k5 = some v5 := by exact rfl) (h6 : get? Γ k6 = some v6 := by exact rfl) (h7 : get? Γ k7 = some v7 := by exact rfl) (h8 : get? Γ k8 = some v8 := by exact rfl) (h9 : get? Γ k9 = some v9 := by exact rfl) : VC P n c Γ w Q := VC.sub _ (js10 h0 h1 h2 h3 h4 h5 h6 h7 h8 h9) h
theorem jv11 (k0 k1 k2 k3 k4 k5 k6 k7 k8 k9 k10 : Nat) {v0 v1 v2 v3 v4 v5 v6 v7 v8 v9 v10 : Value} {c : Code} (h : VC P n c [(k0, v0), (k1, v1), (k2, v2), (k3, v3), (k4, v4), (k5, v5), (k6, v6), (k7, v7), (k8, v8), (k9, v9), (k10, v10)] w Q) (h0 : get? Γ k0 = some v0 := by exact rfl) (h1 : get? Γ k1 = some v1 := by exact rfl) (h2 : get? Γ k2 = some v2 := by exact rfl) (h3 : get? Γ k3 = some v3 := by exact rfl) (h4 : get? Γ k4 = some v4 := by exact rfl) (h5 : get? Γ k5 = some v5 := by exact rfl) (h6 : get? Γ k6 = some v6 := by exact rfl) (h7 : get? Γ k7 = some v7 := by exact rfl) (h8 : get? Γ k8 = some v8 := by exact rfl) (h9 : get? Γ k9 = some v9 := by exact rfl) (h10 : get? Γ k10 = some v10 := by exact rfl) : VC P n c Γ w Q := VC.sub _ (js11 h0 h1 h2 h3 h4 h5 h6 h7 h8 h9 h10) h
theorem jv12 (k0 k1 k2 k3 k4 k5 k6 k7 k8 k9 k10 k11 : Nat) {v0 v1 v2 v3 v4 v5 v6 v7 v8 v9 v10 v11 : Value} {c : Code} (h : VC P n c [(k0, v0), (k1, v1), (k2, v2), (k3, v3), (k4, v4), (k5, v5), (k6, v6), (k7, v7), (k8, v8), (k9, v9), (k10, v10), (k11, v11)] w Q) (h0 : get? Γ k0 = some v0 := by exact rfl) (h1 : get? Γ k1 = some v1 := by exact rfl) (h2 : get? Γ k2 = some v2 := by exact rfl) (h3 : get? Γ k3 = some v3 := by exact rfl) (h4 : get? Γ k4 = some v4 := by exact rfl) (h5 : get? Γ k5 = some v5 := by exact rfl) (h6 : get? Γ k6 = some v6 := by exact rfl) (h7 : get? Γ k7 = some v7 := by exact rfl) (h8 : get? Γ k8 = some v8 := by exact rfl) (h9 : get? Γ k9 = some v9 := by exact rfl) (h10 : get? Γ k10 = some v10 := by exact rfl) (h11 : get? Γ k11 = some v11 := by exact rfl) : VC P n c Γ w Q := VC.sub _ (js12 h0 h1 h2 h3 h4 h5 h6 h7 h8 h9 h10 h11) h
theorem jv13 (k0 k1 k2 k3 k4 k5 k6 k7 k8 k9 k10 k11 k12 : Nat) {v0 v1 v2 v3 v4 v5 v6 v7 v8 v9 v10 v11 v12 : Value} {c : Code} (h : VC P n c [(k0, v0), (k1, v1), (k2, v2), (k3, v3), (k4, v4), (k5, v5), (k6, v6), (k7, v7), (k8, v8), (k9, v9), (k10, v10), (k11, v11), (k12, v12)] w Q) (h0 : get? Γ k0 = some v0 := by exact rfl) (h1 : get? Γ k1 = some v1 := by exact rfl) (h2 : get? Γ k2 = some v2 := by exact rfl) (h3 : get? Γ k3 = some v3 := by exact rfl) (h4 : get? Γ k4 = some v4 := by exact rfl) (h5 : get? Γ k5 = some v5 := by exact rfl) (h6 : get? Γ k6 = some v6 := by exact rfl) (h7 : get? Γ k7 = some v7 := by exact rfl) (h8 : get? Γ k8 = some v8 := by exact rfl) (h9 : get? Γ k9 = some v9 := by exact rfl) (h10 : get? Γ k10 = some v10 := by exact rfl) (h11 : get? Γ k11 = some v11 := by exact rfl) (h12 : get? Γ k12 = some v12 := by exact rfl) : VC P n c Γ w Q := VC.sub _ (js13 h0 h1 h2 h3 h4 h5 h6 h7 h8 h9 h10 h11 h12) h
theorem jv14 (k0 k1 k2 k3 k4 k5 k6 k7 k8 k9 k10 k11 k12 k13 : Nat) {v0 v1 v2 v3 v4 v5 v6 v7 v8 v9 v10 v11 v12 v13 : Value} {c : Code} (h : VC P n c [(k0, v0), (k1, v1), (k2, v2), (k3, v3), (k4, v4), (k5, v5), (k6, v6), (k7, v7), (k8, v8), (k9, v9), (k10, v10), (k11, v11), (k12, v12), (k13, v13)] w Q) (h0 : get? Γ k0 = some v0 := by exact rfl) (h1 : get? Γ k1 = some v1 := by exact rfl) (h2 : get? Γ k2 = some v2 := by exact rfl) (h3 : get? Γ k3 = some v3 := by exact rfl) (h4 : get? Γ k4 = some v4 := by exact rfl) (h5 : get? Γ k5 = some v5 := by exact rfl) (h6 : get? Γ k6 = some v6 := by exact rfl) (h7 : get? Γ k7 = some v7 := by exact rfl) (h8 : get? Γ k8 = some v8 := by exact rfl) (h9 : get? Γ k9 = some v9 := by exact rfl) (h10 : get? Γ k10 = some v10 := by exact rfl) (h11 : get? Γ k11 = some v11 := by exact rfl) (h12 : get? Γ k12 = some v12 := by exact rfl) (h13 : get? Γ k13 = some v13 := by exact rfl) : VC P n c Γ w Q := VC.sub _ (js14 h0 h1 h2 h3 h4 h5 h6 h7 h8 h9 h10 h11 h12 h13) h
theorem jv15 (k0 k1 k2 k3 k4 k5 k6 k7 k8 k9 k10 k11 k12 k13 k14 : Nat) {v0 v1 v2 v3 v4 v5 v6 v7 v8 v9 v10 v11 v12 v13 v14 : Value} {c : Code} (h : VC P n c [(k0, v0), (k1, v1), (k2, v2), (k3, v3), (k4, v4), (k5, v5), (k6, v6), (k7, v7), (k8, v8), (k9, v9), (k10, v10), (k11, v11), (k12, v12), (k13, v13), (k14, v14)] w Q) (h0 : get? Γ k0 = some v0 := by exact rfl) (h1 : get? Γ k1 = some v1 := by exact rfl) (h2 : get? Γ k2 = some v2 := by exact rfl) (h3 : get? Γ k3 = some v3 := by exact rfl) (h4 : get? Γ k4 = some v4 := by exact rfl) (h5 : get? Γ k5 = some v5 := by exact rfl) (h6 : get? Γ k6 = some v6 := by exact rfl) (h7 : get? Γ k7 = some v7 := by exact rfl) (h8 : get? Γ k8 = some v8 := by exact rfl) (h9 : get? Γ k9 = some v9 := by exact rfl) (h10 : get? Γ k10 = some v10 := by exact rfl) (h11 : get? Γ k11 = some v11 := by exact rfl) (h12 : get? Γ k12 = some v12 := by exact rfl) (h13 : get? Γ k13 = some v13 := by exact rfl) (h14 : get? Γ k14 = some v14 := by exact rfl) : VC P n c Γ w Q := VC.sub _ (js15 h0 h1 h2 h3 h4 h5 h6 h7 h8 h9 h10 h11 h12 h13 h14) h
theorem jv16 (k0 k1 k2 k3 k4 k5 k6 k7 k8 k9 k10 k11 k12 k13 k14 k15 : Nat) {v0 v1 v2 v3 v4 v5 v6 v7 v8 v9 v10 v11 v12 v13 v14 v15 : Value} {c : Code} (h : VC P n c [(k0, v0), (k1, v1), (k2, v2), (k3, v3), (k4, v4), (k5, v5), (k6, v6), (k7, v7), (k8, v8), (k9, v9), (k10, v10), (k11, v11), (k12, v12), (k13, v13), (k14, v14), (k15, v15)] w Q) (h0 : get? Γ k0 = some v0 := by exact rfl) (h1 : get? Γ k1 = some v1 := by exact rfl) (h2 : get? Γ k2 = some v2 := by exact rfl) (h3 : get? Γ k3 = some v3 := by exact rfl) (h4 : get? Γ k4 = some v4 := by exact rfl) (h5 : get? Γ k5 = some v5 := by exact rfl) (h6 : get? Γ k6 = some v6 := by exact rfl) (h7 : get? Γ k7 = some v7 := by exact rfl) (h8 : get? Γ k8 = some v8 := by exact rfl) (h9 : get? Γ k9 = some v9 := by exact rfl) (h10 : get? Γ k10 = some v10 := by exact rfl) (h11 : get? Γ k11 = some v11 := by exact rfl) (h12 : get? Γ k12 = some v12 := by exact rfl) (h13 : get? Γ k13 = some v13 := by exact rfl) (h14 : get? Γ k14 = some v14 := by exact rfl) (h15 : get? Γ k15 = some v15 := by exact rfl) : VC P n c Γ w Q := VC.sub _ (js16 h0 h1 h2 h3 h4 h5 h6 h7 h8 h9 h10 h11 h12 h13 h14 h15) h
theorem je {op : Op} {v : Value} (h : Run P ⟨some d, op, T, pos, after, none⟩ Γ w v) (k : Ops P n ops rest ((d, v) :: Γ) w Q) (hn : Nat.blt d n.n = true := by exact rfl) : Ops P n ops (⟨some d, op, T, pos, after, none⟩ :: rest) Γ w Q := Ops.r h hn k
theorem jb {bo : BinOp} {xT yT : TypeId} {x y : Operand} {k k1 : IntKind} {a b : Int} {v : Value} (hx : ev? Γ x = some (.int k a)) (hy : ev? Γ y = some (.int k1 b)) (hb : Bin bo k a k1 b v) (kk : Ops P n ops rest ((d, v) :: Γ) w Q) (hn : Nat.blt d n.n = true := by exact rfl) : Ops P n ops (⟨some d, .binOp bo xT x y yT, T, pos, after, none⟩ :: rest) Γ w Q := Ops.r (Run.bin hx hy hb) hn kk
theorem jl {t : TypeId} {x : Operand} {a : Addr} {v : Value} (hx : ev? Γ x = some (.pointer (some a))) (ht : ∀ w, (isAgg t).run P w = .ok false w) (hc : w.cell? a = some v) (kk : Ops P n ops rest ((d, v) :: Γ) w Q) (hn : Nat.blt d n.n = true := by exact rfl) : Ops P n ops (⟨some d, .load t x, T, pos, after, none⟩ :: rest) Γ w Q := Ops.r (Run.load hx ht hc) hn kk
theorem jf {s : TypeId} {x : Operand} {f : Nat} {a : Addr} {fs : Array Field} {fd : Field} {sz : Nat} (hx : ev? Γ x = some (.pointer (some a))) (hs : P.underlying s = some (.struct fs)) (hf : fs[f]? = some fd) (hz : ∀ w, (sizeOf fd.type).run P w = .ok sz w) (kk : Ops P n ops rest ((d, .pointer (some (a.add fd.offset))) :: Γ) w Q) (hz0 : sz ≠ 0 := by decide) (hn : Nat.blt d n.n = true := by exact rfl) : Ops P n ops (⟨some d, .fieldAddr s x f, T, pos, after, none⟩ :: rest) Γ w Q := Ops.r (Run.fieldAddr hx hs hf hz hz0) hn kk
theorem jz (m : Nat) {x : Operand} (kk : Ops P n ops rest ((d, .int .i64 ((m : Nat) : Int)) :: Γ) w Q) (hx : ev? Γ x = some (.int .i64 ((m : Nat) : Int)) := by exact rfl) (hn : Nat.blt d n.n = true := by exact rfl) : Ops P n ops (⟨some d, .assign x, T, pos, after, none⟩ :: rest) Γ w Q := Ops.r (Run.asg hx) hn kk
theorem jm {x : Operand} {v : Value} (hx : ev? Γ x = some v) (k : Ops P n ops rest ((d, v) :: Γ) w Q) (hn : Nat.blt d n.n = true := by exact rfl) : Ops P n ops (⟨some d, .move x, T, pos, after, none⟩ :: rest) Γ w Q := Ops.r (Run.mv hx) hn k
theorem ja {x : Operand} {v : Value} (hx : ev? Γ x = some v) (k : Ops P n ops rest ((d, v) :: Γ) w Q) (hn : Nat.blt d n.n = true := by exact rfl) : Ops P n ops (⟨some d, .assign x, T, pos, after, none⟩ :: rest) Γ w Q := Ops.r (Run.asg hx) hn k
theorem jS {x y : Code} (h : VC P n x Γ w (dV (fun Γ' w' => VC P n y Γ' w' Q) Q)) : VC P n (.seq x y) Γ w Q := VC.seq h
theorem jR {id : Nat} {l : List Oper} (h : Ops P n l.toArray l Γ w Q) : VC P n (.region id l.toArray false) Γ w Q := VC.region h
theorem jB {id : Nat} {c : Code} (h : VC P n c Γ w (dZ id Q)) : VC P n (.block id c) Γ w Q := VC.block h
theorem jQ (h : Q .normal Γ w) : VC P n .skip Γ w Q := VC.skip h
theorem jT (h : Q .ret Γ w) : VC P n .ret Γ w Q := VC.ret h
theorem jX {id : Nat} (h : Q (.exit id) Γ w) : VC P n (.exit id) Γ w Q := VC.exit h
theorem jO (h : Q .normal Γ w) : Ops P n ops [] Γ w Q := Ops.nil h
theorem jN {K : Env → World → Prop} (h : K Γ w) : dV K Q .normal Γ w := h
end
theorem jH {P : Program} {n : NF} {ops : Array Oper} {S : World → Prop} {Pn : List PanicEntry → World → Prop} {L fuel : Nat} {listed : Array Bool} {Γ : Env} {w : World} {K : Env → World → Prop} {v : Value} {d : Nat} (i : Nat) {oi : Oper} (hi : ops[i]? = some oi) (hS : S w) (h : ∀ w', S w' → Run P oi Γ w' v) (k : qJ P n ops S Pn L fuel (listed.setIfInBounds i true) ((d, v) :: Γ) w K) (hsel : (Region.noSelect ops && fR ops L i) = true := by kernel_rfl) (hf : Region.free .any ops listed i = true := by kernel_rfl) (hr : (Region.ready .any ops listed).contains i = true := by kernel_rfl) (hup : Up ops Γ oi.guard := by exact trivial) (hd : oi.dst = some d := by exact rfl) (hn : Nat.blt d n.n = true := by exact rfl) : qJ P n ops S Pn L (fuel + 1) listed Γ w K := qJ.take i hi hsel hf hr hS h hup hd hn k
theorem jh {P : Program} {n : NF} {ops : Array Oper} {S : World → Prop} {Pn : List PanicEntry → World → Prop} {L fuel : Nat} {listed : Array Bool} {Γ : Env} {w : World} {K : Env → World → Prop} {v : Value} {d : Nat} {x : Operand} {T : TypeId} {pos : String} {after : Array Edge} (i : Nat) (hS : S w) (k : qJ P n ops S Pn L fuel (listed.setIfInBounds i true) ((d, v) :: Γ) w K) (hi : ops[i]? = some ⟨some d, .move x, T, pos, after, none⟩ := by exact rfl) (hx : ev? Γ x = some v := by exact rfl) (hsel : (Region.noSelect ops && fR ops L i) = true := by kernel_rfl) (hf : Region.free .any ops listed i = true := by kernel_rfl) (hr : (Region.ready .any ops listed).contains i = true := by kernel_rfl) (hn : Nat.blt d n.n = true := by exact rfl) : qJ P n ops S Pn L (fuel + 1) listed Γ w K := qJ.take i hi hsel hf hr hS (fun _ _ => Run.mv hx) trivial rfl hn k
section
variable {P : Program} {Γ : Env} {w : World} {dst : Option Tmp} {T : TypeId} {pos : String} {after : Array Edge} {g : Option (Nat × Bool)} {f : FuncId} {ts : Array TypeId}
theorem jE0 (hf : ∀ args w, (callFunc f args).run P w = .ok (.enter f args) w)  : qD P ⟨dst, .call ⟨.value (.func f), #[], ts⟩, T, pos, after, g⟩ Γ w f #[] := qD.fn evs.nil hf
theorem jE1 {x0 : Operand} {v0 : Value} (hf : ∀ args w, (callFunc f args).run P w = .ok (.enter f args) w) (h0 : ev? Γ x0 = some v0 := by exact rfl) : qD P ⟨dst, .call ⟨.value (.func f), #[x0], ts⟩, T, pos, after, g⟩ Γ w f #[v0] := qD.fn (evs.cons h0 evs.nil) hf
theorem jE2 {x0 x1 : Operand} {v0 v1 : Value} (hf : ∀ args w, (callFunc f args).run P w = .ok (.enter f args) w) (h0 : ev? Γ x0 = some v0 := by exact rfl) (h1 : ev? Γ x1 = some v1 := by exact rfl) : qD P ⟨dst, .call ⟨.value (.func f), #[x0, x1], ts⟩, T, pos, after, g⟩ Γ w f #[v0, v1] := qD.fn (evs.cons h0 (evs.cons h1 evs.nil)) hf
theorem jE3 {x0 x1 x2 : Operand} {v0 v1 v2 : Value} (hf : ∀ args w, (callFunc f args).run P w = .ok (.enter f args) w) (h0 : ev? Γ x0 = some v0 := by exact rfl) (h1 : ev? Γ x1 = some v1 := by exact rfl) (h2 : ev? Γ x2 = some v2 := by exact rfl) : qD P ⟨dst, .call ⟨.value (.func f), #[x0, x1, x2], ts⟩, T, pos, after, g⟩ Γ w f #[v0, v1, v2] := qD.fn (evs.cons h0 (evs.cons h1 (evs.cons h2 evs.nil))) hf
theorem jE4 {x0 x1 x2 x3 : Operand} {v0 v1 v2 v3 : Value} (hf : ∀ args w, (callFunc f args).run P w = .ok (.enter f args) w) (h0 : ev? Γ x0 = some v0 := by exact rfl) (h1 : ev? Γ x1 = some v1 := by exact rfl) (h2 : ev? Γ x2 = some v2 := by exact rfl) (h3 : ev? Γ x3 = some v3 := by exact rfl) : qD P ⟨dst, .call ⟨.value (.func f), #[x0, x1, x2, x3], ts⟩, T, pos, after, g⟩ Γ w f #[v0, v1, v2, v3] := qD.fn (evs.cons h0 (evs.cons h1 (evs.cons h2 (evs.cons h3 evs.nil)))) hf
end
section
variable {P : Program} {n : NF} {Γ : Env} {w : World} {Q : Exit → Env → World → Prop} {K : Env → World → Prop} {ops : Array Oper} {rest : List Oper} {d : Nat} {T : TypeId} {pos : String} {after : Array Edge}
theorem jk {op : Op} {v : Value} {j : Nat} {b c : Bool} (h : Run P ⟨some d, op, T, pos, after, some (j, c)⟩ Γ w v) (k : Ops P n ops rest ((d, v) :: Γ) w Q) (hy : yi ops Γ j = some (.bool b) := by exact rfl) (hb : b = c := by exact au) (hn : Nat.blt d n.n = true := by exact rfl) : Ops P n ops (⟨some d, op, T, pos, after, some (j, c)⟩ :: rest) Γ w Q := Ops.rg hy hb h hn k
theorem jx (i : IntKind) (m : Nat) {x : Operand} (kk : Ops P n ops rest ((d, .int i ((m : Nat) : Int)) :: Γ) w Q) (hx : ev? Γ x = some (.int i ((m : Nat) : Int)) := by exact rfl) (hn : Nat.blt d n.n = true := by exact rfl) : Ops P n ops (⟨some d, .move x, T, pos, after, none⟩ :: rest) Γ w Q := Ops.r (Run.mv hx) hn kk
theorem jD {c : Operand} {x y : Code} {p : Prop} [Decidable p] (hc : ev? Γ c = some (.bool (decide p))) (ht : p → VC P n x Γ w Q) (hf : ¬ p → VC P n y Γ w Q) : VC P n (.cond c x y) Γ w Q := VC.condD hc ht hf
end
section
variable {P : Program} {n : NF} {Γ : Env} {w : World} {Q : Exit → Env → World → Prop} {ops : Array Oper} {rest : List Oper} {d : Nat} {T : TypeId} {pos : String} {after : Array Edge}
abbrev jI0 (g : Nat) : Value := .pointer (some ⟨g, 0, none⟩)
abbrev jI1 (n : Nat) : Value := .int .i64 ((n : Nat) : Int)
abbrev jI2 (n : Nat) : Value := .int .u64 ((n : Nat) : Int)
theorem jdf {p : Prop} [Decidable p] (h : ¬ p := by omega) : decide p = false := decide_eq_false h
theorem jdp {p : Prop} [Decidable p] (h : ¬ p := by simp) : decide p = false := decide_eq_false h
theorem jV {f : FuncId} {fn : Func} {c : Code} {args : List Value} {R : Ending → World → Prop} {nt : Nat} {res : Array ResultVar} (hf : P.funcs[f]? = some fn) (hn : fn.ntmps = nt) (hr : fn.results = res) (h : VC P ⟨nt, [], none⟩ c (argEnv 0 args) w (cG P res R)) (hb : fn.body = some c := by exact rfl) (hl0 : Nat.ble args.length nt = true := by exact rfl) : Calls P f args.toArray w R := VC.calls hf hb hn hr hl0 h
theorem jc {op : Op} {f : FuncId} {args : Array Value} {R : Ending → World → Prop} (he : qD P ⟨some d, op, T, pos, after, none⟩ Γ w f args) (hc : Calls P f args w R) (k : ∀ e w', R e w' → ∃ v, e = .returned v ∧ Ops P n ops rest ((d, v) :: Γ) w' Q) (hn : Nat.blt d n.n = true := by exact rfl) : Ops P n ops (⟨some d, op, T, pos, after, none⟩ :: rest) Γ w Q := Ops.cl he hc hn k
theorem jc0 {op : Op} {f : FuncId} {args : Array Value} {v : Value} (he : qD P ⟨some d, op, T, pos, after, none⟩ Γ w f args) (hc : Calls P f args w fun e w' => e = .returned v ∧ w = w') (k : Ops P n ops rest ((d, v) :: Γ) w Q) (hn : Nat.blt d n.n = true := by exact rfl) : Ops P n ops (⟨some d, op, T, pos, after, none⟩ :: rest) Γ w Q := Ops.cl he hc hn (by rintro e _ ⟨rfl, rfl⟩; exact ⟨_, rfl, k⟩)
theorem jY {x : Operand} {ix : Nat} {vs : Array Value} {v : Value} (hx : ev? Γ x = some (.tuple vs)) (hv : vs[ix]? = some v) (k : Ops P n ops rest ((d, v) :: Γ) w Q) (hn : Nat.blt d n.n = true := by exact rfl) : Ops P n ops (⟨some d, .extract x ix, T, pos, after, none⟩ :: rest) Γ w Q := Ops.r (Run.extract hx hv) hn k
theorem jZ {x : Operand} {a : Addr} (hx : ev? Γ x = some (.pointer (some a))) (k : Ops P n ops rest ((d, .pointer (some a)) :: Γ) w Q) (hn : Nat.blt d n.n = true := by exact rfl) : Ops P n ops (⟨some d, .nilCheck x, T, pos, after, none⟩ :: rest) Γ w Q := Ops.r (Run.nilck hx) hn k
theorem jL {t : TypeId} {x : Operand} {a : Option Addr} {len cap : Nat} {e : TypeId} (hx : ev? Γ x = some (.slice a len cap)) (ht : P.underlying t = some (.slice e)) (k : Ops P n ops rest ((d, .int .i64 len) :: Γ) w Q) (hn : Nat.blt d n.n = true := by exact rfl) : Ops P n ops (⟨some d, .call ⟨.builtin .len, #[x], #[t]⟩, T, pos, after, none⟩ :: rest) Γ w Q := Ops.r (Run.lenS hx ht) hn k
theorem jF {c x y : Operand} {b : Bool} {v : Value} (hc : ev? Γ c = some (.bool b)) (hy : ev? Γ y = some v) (hb : b = false) (k : Ops P n ops rest ((d, v) :: Γ) w Q) (hn : Nat.blt d n.n = true := by exact rfl) : Ops P n ops (⟨some d, .pick c x y, T, pos, after, none⟩ :: rest) Γ w Q := Ops.r (Run.pickF hc hy hb) hn k
theorem jW {c x y : Operand} {b : Bool} {u : Value} (hc : ev? Γ c = some (.bool b)) (hx : ev? Γ x = some u) (hb : b = true) (k : Ops P n ops rest ((d, u) :: Γ) w Q) (hn : Nat.blt d n.n = true := by exact rfl) : Ops P n ops (⟨some d, .pick c x y, T, pos, after, none⟩ :: rest) Γ w Q := Ops.r (Run.pickT hc hx hb) hn k
end
theorem jq {p : Prop} (h : p := by first | omega | (dsimp only; omega)) : p := h
section
variable {P : Program} {n : NF} {Γ : Env} {w : World} {KE : Env → Prop} {ops : Array Oper} {rest : List Oper} {d : Nat} {T : TypeId} {pos : String} {after : Array Edge}
theorem qE {op : Op} {v : Value} (h : Run P ⟨some d, op, T, pos, after, none⟩ Γ w v) (k : qC P n ops rest ((d, v) :: Γ) w KE) (hn : Nat.blt d n.n = true := by exact rfl) : qC P n ops (⟨some d, op, T, pos, after, none⟩ :: rest) Γ w KE := qC.r h hn k
theorem qG {op : Op} {v : Value} {j : Nat} {b c : Bool} (h : Run P ⟨some d, op, T, pos, after, some (j, c)⟩ Γ w v) (k : qC P n ops rest ((d, v) :: Γ) w KE) (hy : yi ops Γ j = some (.bool b) := by exact rfl) (hb : b = c := by exact au) (hn : Nat.blt d n.n = true := by exact rfl) : qC P n ops (⟨some d, op, T, pos, after, some (j, c)⟩ :: rest) Γ w KE := qC.rg hy hb h hn k
theorem qU {op : Op} {j : Nat} {b c : Bool} (k : qC P n ops rest ((d, undef) :: Γ) w KE) (hy : yi ops Γ j = some (.bool b) := by exact rfl) (hb : b = !c := by exact au) (hn : Nat.blt d n.n = true := by exact rfl) : qC P n ops (⟨some d, op, T, pos, after, some (j, c)⟩ :: rest) Γ w KE := qC.sk hy hb hn k
theorem qM {x : Operand} {v : Value} (k : qC P n ops rest ((d, v) :: Γ) w KE) (hx : ev? Γ x = some v := by exact rfl) (hn : Nat.blt d n.n = true := by exact rfl) : qC P n ops (⟨some d, .move x, T, pos, after, none⟩ :: rest) Γ w KE := qC.r (Run.mv hx) hn k
theorem qA {x : Operand} {v : Value} (k : qC P n ops rest ((d, v) :: Γ) w KE) (hx : ev? Γ x = some v := by exact rfl) (hn : Nat.blt d n.n = true := by exact rfl) : qC P n ops (⟨some d, .assign x, T, pos, after, none⟩ :: rest) Γ w KE := qC.r (Run.asg hx) hn k
theorem qX (i : IntKind) (m : Nat) {x : Operand} (k : qC P n ops rest ((d, .int i ((m : Nat) : Int)) :: Γ) w KE) (hx : ev? Γ x = some (.int i ((m : Nat) : Int)) := by exact rfl) (hn : Nat.blt d n.n = true := by exact rfl) : qC P n ops (⟨some d, .move x, T, pos, after, none⟩ :: rest) Γ w KE := qC.r (Run.mv hx) hn k
theorem qY (i : IntKind) (m : Nat) {x : Operand} (k : qC P n ops rest ((d, .int i ((m : Nat) : Int)) :: Γ) w KE) (hx : ev? Γ x = some (.int i ((m : Nat) : Int)) := by exact rfl) (hn : Nat.blt d n.n = true := by exact rfl) : qC P n ops (⟨some d, .assign x, T, pos, after, none⟩ :: rest) Γ w KE := qC.r (Run.asg hx) hn k
end
abbrev zb := @List.getElem?_eq_getElem
abbrev ze := @List.mem_singleton
abbrev zq := @Nat.le_trans
abbrev zai := @Nat.le_refl
abbrev zak := @List.mem_cons
abbrev zaf := @List.length_take
abbrev zau := @Nat.zero_le
abbrev zr := @List.take_of_length_le
abbrev zo := @List.getD_eq_getElem?_getD
abbrev zap := @Option.bind_some
abbrev zx := @Array.getD_eq_getD_getElem?
abbrev zaq := @List.getElem_mem
abbrev zar := @List.take_length
abbrev zao := @List.length_append
abbrev zaj := @List.getElem?_take_of_lt
abbrev zaw := @List.length_drop
abbrev zbb := @List.length_map
abbrev zax := @List.not_mem_nil
abbrev zah := @Array.getElem?_setIfInBounds
abbrev zad := @List.eq_nil_of_length_eq_zero
abbrev zba := @List.take_add_one
abbrev zbn := @Bool.and_eq_true
abbrev zce := @Nat.add_assoc
abbrev zct := @Nat.mul_one
abbrev zav := @List.getElem?_eq_none
abbrev zbh := @Nat.eq_of_beq_eq_true
abbrev zbi := @Nat.le_of_ble_eq_true
abbrev zcq := @List.map_cons
abbrev zcx := @List.map_map
abbrev zbl := @List.mem_of_getElem?
abbrev zch := @Nat.min_eq_left
abbrev zbu := @Int.toNat_natCast
abbrev zbj := @Array.getElem?_toList
abbrev zco := @List.length_cons
abbrev zcj := @List.size_toArray
abbrev zbe := @List.getElem?_append_right
abbrev zbo := @List.drop_eq_nil_of_le
abbrev zck := @List.getElem?_map
abbrev zcw := @List.map_append
abbrev zdk := @Nat.mul_le_mul
abbrev zdb := @List.getElem?_drop
abbrev zdl := @Array.size_append
abbrev zcp := @Array.size_replicate
abbrev zbr := @Array.getElem?_append_left
abbrev zci := @Array.getElem?_eq_none
abbrev zcu := @List.getElem_of_mem
abbrev zby := @List.drop_eq_getElem_cons
abbrev zcv := @Nat.add_sub_cancel'
abbrev zbs := @List.dropWhile_cons_of_neg
abbrev zbt := @List.dropWhile_cons_of_pos
abbrev zcs := @Array.toList_setIfInBounds
end
section
open Go.Proofs
theorem fV (w : World) : (zeroValue 3).run Tryz.prog w = .ok (.int .i64 0) w := by
 simp only [zeroValue, Sem.run_bind, Tryz.typeInfo3, Result.andThen_ok]; rfl
theorem tO : (Tryz.prog.info? 3).map (fun i => (i.zero, i.size, i.bytes)) = some (some (.int .i64 0), 1, 8) := by kernel_rfl
theorem oN (w : World) : (zeroValue 9).run Tryz.prog w = .ok (.string ⟨#[]⟩) w := by
 simp only [zeroValue, Sem.run_bind, Tryz.typeInfo9, Result.andThen_ok]; rfl
theorem uQ : (Tryz.prog.info? 9).map (fun i => (i.zero, i.size, i.bytes)) = some (some (.string ⟨#[]⟩), 1, 16) := by kernel_rfl
theorem pB (w : World) : (zeroValue 26).run Tryz.prog w = .ok (.slice none 0 0) w := by
 simp only [zeroValue, Sem.run_bind, Tryz.typeInfo26, Result.andThen_ok]; rfl
theorem eW (w : World) : (zeroValue 34).run Tryz.prog w = .ok (.agg #[.string ⟨#[]⟩, .string ⟨#[]⟩, .bool false, .string ⟨#[]⟩, .string ⟨#[]⟩, .slice none 0 0, .int .i64 0, .bool false, .slice none 0 0, .slice none 0 0, .int .i64 0, .string ⟨#[]⟩, .string ⟨#[]⟩, .int .i64 0, .slice none 0 0, .slice none 0 0, .int .i64 0, .int .i64 0, .bool false, .slice none 0 0]) w := by
 simp only [zeroValue, Sem.run_bind, Tryz.typeInfo34, Result.andThen_ok]; rfl
theorem pC (w : World) : (zeroValue 35).run Tryz.prog w = .ok (.int .i64 0) w := by
 simp only [zeroValue, Sem.run_bind, Tryz.typeInfo35, Result.andThen_ok]; rfl
theorem cH (w : World) : (zeroValue 41).run Tryz.prog w = .ok (.agg #[.int .i64 0, .string ⟨#[]⟩]) w := by
 simp only [zeroValue, Sem.run_bind, Tryz.typeInfo41, Result.andThen_ok]; rfl
theorem uA : (Tryz.prog.info? 41).map (fun i => (i.zero, i.size, i.bytes)) = some (some (.agg #[.int .i64 0, .string ⟨#[]⟩]), 2, 24) := by kernel_rfl
theorem dC (w : World) : (zeroValue 47).run Tryz.prog w = .ok (.agg #[.slice none 0 0, .string ⟨#[]⟩, .slice none 0 0]) w := by
 simp only [zeroValue, Sem.run_bind, Tryz.typeInfo47, Result.andThen_ok]; rfl
theorem dJ (w : World) : (zeroValue 54).run Tryz.prog w = .ok (.agg #[.int .i64 0, .string ⟨#[]⟩, .slice none 0 0, .string ⟨#[]⟩, .slice none 0 0, .bool false, .bool false, .int .i64 0, .int .i64 0]) w := by
 simp only [zeroValue, Sem.run_bind, Tryz.typeInfo54, Result.andThen_ok]; rfl
theorem uI : (Tryz.prog.info? 54).map (fun i => (i.zero, i.size, i.bytes)) = some (some (.agg #[.int .i64 0, .string ⟨#[]⟩, .slice none 0 0, .string ⟨#[]⟩, .slice none 0 0, .bool false, .bool false, .int .i64 0, .int .i64 0]), 9, 112) := by kernel_rfl
theorem uL (w : World) : (zeroValue 64).run Tryz.prog w = .ok (.agg #[.slice none 0 0, .int .i64 0, .pointer none]) w := by
 simp only [zeroValue, Sem.run_bind, Tryz.typeInfo64, Result.andThen_ok]; rfl
theorem pD (w : World) : (zeroValue 82).run Tryz.prog w = .ok (.agg #[.bool false, .string ⟨#[]⟩]) w := by
 simp only [zeroValue, Sem.run_bind, Tryz.typeInfo82, Result.andThen_ok]; rfl
theorem pE (w : World) : (zeroValue 86).run Tryz.prog w = .ok (.agg #[.string ⟨#[]⟩, .string ⟨#[]⟩, .string ⟨#[]⟩, .string ⟨#[]⟩, .string ⟨#[]⟩, .string ⟨#[]⟩]) w := by
 simp only [zeroValue, Sem.run_bind, Tryz.typeInfo86, Result.andThen_ok]; rfl
theorem uO (w : World) : (zeroValue 87).run Tryz.prog w = .ok (.agg #[.string ⟨#[]⟩, .string ⟨#[]⟩, .string ⟨#[]⟩, .string ⟨#[]⟩]) w := by
 simp only [zeroValue, Sem.run_bind, Tryz.typeInfo87, Result.andThen_ok]; rfl
theorem pF (w : World) : (zeroValue 89).run Tryz.prog w = .ok (.agg #[]) w := by
 simp only [zeroValue, Sem.run_bind, Tryz.typeInfo89, Result.andThen_ok]; rfl
theorem lO (w : World) : (zeroValue 96).run Tryz.prog w = .ok (.agg #[.int .i64 0, .int .i64 0]) w := by
 simp only [zeroValue, Sem.run_bind, Tryz.typeInfo96, Result.andThen_ok]; rfl
theorem vQ : (Tryz.prog.info? 96).map (fun i => (i.zero, i.size, i.bytes)) = some (some (.agg #[.int .i64 0, .int .i64 0]), 2, 16) := by kernel_rfl
theorem nU (w : World) : (zeroValue 204).run Tryz.prog w = .ok (.agg #[.bool false, .bool false, .bool false, .bool false, .bool false, .bool false, .bool false, .bool false, .bool false, .bool false, .bool false, .bool false, .bool false, .bool false, .bool false, .bool false, .bool false, .bool false, .bool false, .bool false, .bool false, .bool false, .bool false, .bool false, .bool false, .bool false, .bool false, .bool false, .bool false, .bool false, .bool false, .bool false, .bool false, .bool false, .bool false, .bool false, .bool false, .bool false, .bool false, .bool false, .bool false, .bool false, .bool false, .bool false, .bool false, .bool false, .bool false, .bool false, .bool false, .bool false, .bool false, .bool false, .bool false, .bool false, .bool false, .bool false, .bool false, .bool false, .bool false, .bool false, .bool false, .bool false, .bool false, .bool false, .bool false, .bool false, .bool false, .bool false, .bool false, .bool false, .bool false, .bool false, .bool false, .bool false, .bool false, .bool false, .bool false, .bool false, .bool false, .bool false, .bool false, .bool false, .bool false, .bool false, .bool false, .bool false, .bool false, .bool false, .bool false, .bool false, .bool false, .bool false, .bool false, .bool false, .bool false, .bool false, .bool false, .bool false, .bool false, .bool false, .bool false, .bool false, .bool false, .bool false, .bool false, .bool false, .bool false, .bool false, .bool false, .bool false, .bool false, .bool false, .bool false, .bool false, .bool false, .bool false, .bool false, .bool false, .bool false, .bool false, .bool false, .bool false, .bool false, .bool false, .bool false, .bool false, .bool false, .bool false, .bool false, .bool false, .bool false, .bool false, .bool false, .bool false, .bool false, .bool false, .bool false, .bool false, .bool false, .bool false, .bool false, .bool false, .bool false, .bool false, .bool false, .bool false, .bool false, .bool false, .bool false, .bool false, .bool false, .bool false, .bool false, .bool false, .bool false, .bool false, .bool false, .bool false, .bool false, .bool false, .bool false, .bool false, .bool false, .bool false, .bool false, .bool false, .bool false, .bool false, .bool false, .bool false, .bool false, .bool false, .bool false, .bool false, .bool false, .bool false, .bool false, .bool false, .bool false, .bool false, .bool false, .bool false, .bool false, .bool false, .bool false, .bool false, .bool false, .bool false, .bool false, .bool false, .bool false, .bool false, .bool false, .bool false, .bool false, .bool false, .bool false, .bool false, .bool false, .bool false, .bool false, .bool false, .bool false, .bool false, .bool false, .bool false, .bool false, .bool false, .bool false, .bool false, .bool false, .bool false, .bool false, .bool false, .bool false, .bool false, .bool false, .bool false, .bool false, .bool false, .bool false, .bool false, .bool false, .bool false, .bool false, .bool false, .bool false, .bool false, .bool false, .bool false, .bool false, .bool false, .bool false, .bool false, .bool false, .bool false, .bool false, .bool false, .bool false, .bool false, .bool false, .bool false, .bool false, .bool false, .bool false, .bool false, .bool false, .bool false, .bool false, .bool false, .bool false, .bool false, .bool false, .bool false, .bool false, .bool false]) w := by
 simp only [zeroValue, Sem.run_bind, Tryz.typeInfo204, Result.andThen_ok]; rfl
theorem dA : ∃ fs, Tryz.prog.underlying 34 = some (.struct fs) ∧ ∀ w, (fs.mapM fun f => do pure (f.offset, ← sizeOf f.type) : Sem (Array (Nat × Nat))).run Tryz.prog w = .ok #[(0, 1), (1, 1), (2, 1), (3, 1), (4, 1), (5, 1), (6, 1), (7, 1), (8, 1), (9, 1), (10, 6), (16, 2), (18, 1), (19, 1)] w :=
 ⟨_, Tryz.underlying34, fun w => by simp [Tryz.sizeOf25, Tryz.sizeOf26, Tryz.sizeOf27, Tryz.sizeOf3, Tryz.sizeOf30, Tryz.sizeOf32, Tryz.sizeOf4, Tryz.sizeOf9]⟩
theorem bY : ∃ fs, Tryz.prog.underlying 41 = some (.struct fs) ∧ ∀ w, (fs.mapM fun f => do pure (f.offset, ← sizeOf f.type) : Sem (Array (Nat × Nat))).run Tryz.prog w = .ok #[(0, 1), (1, 1)] w :=
 ⟨_, Tryz.underlying41, fun w => by simp [Tryz.sizeOf3, Tryz.sizeOf9]⟩
theorem cK : ∃ fs, Tryz.prog.underlying 47 = some (.struct fs) ∧ ∀ w, (fs.mapM fun f => do pure (f.offset, ← sizeOf f.type) : Sem (Array (Nat × Nat))).run Tryz.prog w = .ok #[(0, 1), (1, 1), (2, 1)] w :=
 ⟨_, Tryz.underlying47, fun w => by simp [Tryz.sizeOf25, Tryz.sizeOf45, Tryz.sizeOf9]⟩
theorem dI : ∃ fs, Tryz.prog.underlying 54 = some (.struct fs) ∧ ∀ w, (fs.mapM fun f => do pure (f.offset, ← sizeOf f.type) : Sem (Array (Nat × Nat))).run Tryz.prog w = .ok #[(0, 1), (1, 1), (2, 3), (5, 1), (6, 1), (7, 1), (8, 1)] w :=
 ⟨_, Tryz.underlying54, fun w => by simp [Tryz.sizeOf3, Tryz.sizeOf4, Tryz.sizeOf47, Tryz.sizeOf9]⟩
theorem mQ : ∃ fs, Tryz.prog.underlying 64 = some (.struct fs) ∧ ∀ w, (fs.mapM fun f => do pure (f.offset, ← sizeOf f.type) : Sem (Array (Nat × Nat))).run Tryz.prog w = .ok #[(0, 1), (1, 1), (2, 1)] w :=
 ⟨_, Tryz.underlying64, fun w => by simp [Tryz.sizeOf23, Tryz.sizeOf3, Tryz.sizeOf62]⟩
theorem mX : ∃ fs, Tryz.prog.underlying 82 = some (.struct fs) ∧ ∀ w, (fs.mapM fun f => do pure (f.offset, ← sizeOf f.type) : Sem (Array (Nat × Nat))).run Tryz.prog w = .ok #[(0, 1), (1, 1)] w :=
 ⟨_, Tryz.underlying82, fun w => by simp [Tryz.sizeOf4, Tryz.sizeOf9]⟩
theorem fF : ∃ fs, Tryz.prog.underlying 89 = some (.struct fs) ∧ ∀ w, (fs.mapM fun f => do pure (f.offset, ← sizeOf f.type) : Sem (Array (Nat × Nat))).run Tryz.prog w = .ok #[] w :=
 ⟨_, Tryz.underlying89, fun w => by simp []⟩
theorem mZ : ∃ fs, Tryz.prog.underlying 96 = some (.struct fs) ∧ ∀ w, (fs.mapM fun f => do pure (f.offset, ← sizeOf f.type) : Sem (Array (Nat × Nat))).run Tryz.prog w = .ok #[(0, 1), (1, 1)] w :=
 ⟨_, Tryz.underlying96, fun w => by simp [Tryz.sizeOf3]⟩
abbrev za := @Tryz.underlying9
abbrev zc := @Tryz.sizeOf3
abbrev zd := @Tryz.sizeOf9
abbrev zh := @Tryz.isAgg9
abbrev zf := @Tryz.underlying47
abbrev zl := @Tryz.isAgg3
abbrev zg := @Tryz.underlying54
abbrev zj := @Tryz.sizeOf47
abbrev zm := @Tryz.sizeOf4
abbrev zi := @Tryz.underlying45
abbrev zk := @Tryz.underlying25
abbrev zn := @Tryz.underlying64
abbrev zp := @Tryz.underlying34
abbrev zv := @Tryz.sizeOf25
abbrev zw := @Tryz.sizeOf41
abbrev zt := @Tryz.underlying3
abbrev zae := @Tryz.isAgg47
abbrev zz := @Tryz.sizeOf54
abbrev zac := @Tryz.sizeOf45
abbrev zu := @Tryz.underlying68
abbrev zal := @Tryz.isAgg4
abbrev zy := @Tryz.underlying44
abbrev zam := @Tryz.sizeOf5
abbrev zaa := @Tryz.underlying4
abbrev zan := @Tryz.isAgg25
abbrev zab := @Tryz.underlying23
abbrev zag := @Tryz.underlying5
abbrev zas := @Tryz.isAgg45
abbrev zat := @Tryz.sizeOf62
abbrev zbc := @Tryz.call20
abbrev zbk := @Tryz.isAgg5
abbrev zbd := @Tryz.isAgg62
abbrev zay := @Tryz.sizeOf34
abbrev zbp := @Tryz.isAgg23
abbrev zbq := @Tryz.sizeOf27
abbrev zaz := @Tryz.underlying41
abbrev zcb := @Tryz.isAgg54
abbrev zcc := @Tryz.isAgg61
abbrev zbm := @Tryz.underlying20
abbrev zbf := @Tryz.underlying197
abbrev zcf := @Tryz.isAgg197
abbrev zbz := @Tryz.sizeOf197
abbrev zbg := @Tryz.underlying195
abbrev zcg := @Tryz.isAgg195
abbrev zca := @Tryz.sizeOf195
abbrev zcr := @Tryz.sizeOf26
abbrev zcd := @Tryz.underlying0
abbrev zcy := @Tryz.sizeOf0
abbrev zcz := @Tryz.call146
abbrev zbv := @Tryz.underlying27
abbrev zcn := @Tryz.results10
abbrev zda := @Tryz.isAgg41
abbrev zbw := @Tryz.underlying83
abbrev zbx := @Tryz.underlying48
abbrev zcl := @Tryz.underlying82
abbrev zcm := @Tryz.underlying50
abbrev zdm := @Tryz.underlying96
abbrev zdn := @Tryz.underlying86
abbrev zdc := @Tryz.underlying106
abbrev zdd := @Tryz.underlying164
abbrev zde := @Tryz.underlying163
abbrev zdf := @Tryz.underlying167
abbrev zdg := @Tryz.underlying194
abbrev zdh := @Tryz.underlying196
abbrev zdi := @Tryz.underlying225
abbrev zdj := @Tryz.underlying226
end
section
open Go.RowKit
section
variable {P : Program} {Γ : Env} {w : World} {dst : Option Tmp} {T : TypeId} {pos : String} {after : Array Edge} {g : Option (Nat × Bool)}
theorem lE.pn {x : Operand} {t : TypeId} {v : Value} (hx : ev? Γ x = some (.iface t v)) : lE P ⟨dst, .panic x, T, pos, after, g⟩ Γ w (.iface t v) := fun ρ hρ => by
 simp [execOp, hρ _ _ hx, Instr.panic, goPanic]
theorem Run.buildA {t e : TypeId} {n size : Nat} {parts : List (Nat × Operand)} {vs : List Value} {z cells : Array Value} (hv : evs Γ (parts.map (·.2)) vs) (hz : ∀ w, (zeroValue t).run P w = .ok (.agg z) w)
  (hu : P.underlying t = some (.array n e)) (hsz : ∀ w, (sizeOf e).run P w = .ok size w) (hf : Instr.fill (fun i => some (i * size, size)) z ((parts.map (·.1)).zip vs) = some cells) :
  Run P ⟨dst, .build t parts.toArray, T, pos, after, g⟩ Γ w (.agg cells) := fun ρ hρ => by
 have e1 := cA hρ _ _ hv
 have e2 : parts.map (fun p => (p.1, ρ p.2)) = (parts.map (·.1)).zip vs := by
  rw [← e1, zcx, List.zip_map']
  rfl
 simp only [execOp, Instr.build, Sem.run_bind, hz, Result.andThen_ok, Value.cells, run_underlying hu, hsz, List.map_toArray, e2, hf, Sem.run_pure]
theorem Run.neqNilI {t yT : TypeId} {x y : Operand} {u : TypeId} {v : Value} {d : TypeDesc} (hx : ev? Γ x = some (.iface u v)) (hy : ev? Γ y = some .nilIface) (ht : P.underlying t = some d) (hd : fE d = false) :
  Run P ⟨dst, .binOp .neq t x y yT, T, pos, after, g⟩ Γ w (.bool true) := fun ρ hρ => by
 have h0 : ∀ k : Nat, (Op.equalIn (k + 1) t (.iface u v) .nilIface).run P w = .ok false w := fun k => by
  cases d <;> first | (cases hd; done) | simp [Op.equalIn, run_underlying ht]
 have h1 : (Op.equal t (.iface u v) .nilIface).run P w = .ok false w := h0 9999
 simp [execOp, hρ _ _ hx, hρ _ _ hy, eqGuard, binOp, h1]
end
section
variable {P : Program} {n : NF} {Γ : Env} {w : World} {Q : Exit → Env → World → Prop} {K : Env → World → Prop} {Pn : List PanicEntry → World → Prop} {ops : Array Oper} {rest : List Oper} {S : World → Prop} {L fuel : Nat} {listed : Array Bool} {d : Nat} {op : Op} {T : TypeId} {pos : String} {after : Array Edge}
theorem Ops.clp {f : FuncId} {args : Array Value} {R : Ending → World → Prop} (he : qD P ⟨some d, op, T, pos, after, none⟩ Γ w f args) (hc : Calls P f args w R) (hn : Nat.blt d n.n = true)
  (k : ∀ e w', R e w' → (∃ v, e = .returned v ∧ Ops P n ops rest ((d, v) :: Γ) w' Q) ∨ (∃ ch, e = .panicked ch ∧ Q (.panic ch) Γ w')) : Ops P n ops (⟨some d, op, T, pos, after, none⟩ :: rest) Γ w Q :=
 Ops.callP he hc trivial rfl hn k
theorem Ops.pn {x : Operand} {t : TypeId} {v : Value} {dd : Option Tmp} (hx : ev? Γ x = some (.iface t v)) (k : Q (.panic [{ v := .iface t v, recovered := false }]) Γ w) : Ops P n ops (⟨dd, .panic x, T, pos, after, none⟩ :: rest) Γ w Q :=
 Ops.falls (lE.pn hx) trivial k
theorem qJ.clp {f : FuncId} {args : Array Value} {R : Ending → World → Prop} {d : Nat} (i : Nat) {oi : Oper} (hi : ops[i]? = some oi) (hr : Region.ready .any ops listed = [i]) (he : qD P oi Γ w f args) (hc : Calls P f args w R) (hup : Up ops Γ oi.guard) (hd : oi.dst = some d) (hn : Nat.blt d n.n = true)
  (k : ∀ e w', R e w' → (∃ v, e = .returned v ∧ S w' ∧ qJ P n ops S Pn L fuel (listed.setIfInBounds i true) ((d, v) :: Γ) w' K) ∨ (∃ ch, e = .panicked ch ∧ Pn ch w')) : qJ P n ops S Pn L (fuel + 1) listed Γ w K :=
 qJ.of_wp i hi hr hup fun a hs => by
  unfold Oper.wp
  rw [he _ hs.fits, Oper.upon_enter, hd]
  refine hc.mono ?_
  intro e w' hR
  rcases k e w' hR with ⟨v, rfl, h1, h2⟩ | ⟨ch, rfl, h1⟩
  · exact ⟨h1, h2 _ (hs.put hn v)⟩
  exact ⟨⟨hs.size, hs.defers⟩, h1⟩
end
section
variable {P : Program} {n : NF} {Γ : Env} {w : World} {K : Env → World → Prop} {Pn : List PanicEntry → World → Prop} {ops : Array Oper} {S : World → Prop} {L fuel : Nat} {listed : Array Bool}
end
section
variable {P : Program} {n : Nat} {D : List Deferred} {Γ : Env} {w : World} {Q : Exit → Env → World → Prop}
end
def LW (P : Program) (n : NF) (c : Code) (Γ : Env) (w : World) (QQ : Exit → Act → World → Prop) : Prop := n.ro = none → ∀ a, Sat n Γ a → c.wp P QQ a w
def upL (n : NF) (QQ : Exit → Act → World → Prop) : Exit → Env → World → Prop := fun e Γ w => ∀ a, Sat n Γ a → QQ e a w
section
variable {P : Program} {n : NF} {Γ : Env} {w : World} {QQ : Exit → Act → World → Prop} {c x y : Code} {R : Ending → World → Prop} {fn : Func} {res : Array ResultVar}
theorem LW.vc (h : VC P n c Γ w (upL n QQ)) : LW P n c Γ w QQ := fun hro a hs => by
 have h1 := h a hs 0
 rw [hro] at h1
 exact wp_mono (wpIn_wide.1 h1) (fun _ _ _ ⟨_, hs', q⟩ => q _ hs')
theorem LW.seq (h : VC P n x Γ w (dV (fun Γ' w' => LW P n y Γ' w' QQ) (upL n QQ))) : LW P n (.seq x y) Γ w QQ := by
 intro hro a hs
 have h1 := h a hs 0
 rw [hro] at h1
 refine wp_seq (wp_mono (wpIn_wide.1 h1) ?_)
 intro e a' w' hq
 obtain ⟨Γ', hs', q⟩ := hq
 cases e with
 | normal => exact q hro a' hs'
 | exit id => exact q a' hs'
 | goto l => exact q a' hs'
 | ret => exact q a' hs'
 | panic ch => exact q a' hs'
 | outgrown => exact q a' hs'
theorem LW.dfr {m : Nat} {D : List Deferred} {id : Nat} {om od : Oper} {t : Nat} {o : Operand} {f : FuncId} {us : List Value} {ts : Array TypeId} (h : Run P om Γ w (.func (.func f) #[] us.toArray)) (hgm : om.guard = none) (hdm : om.dst = some t) (htn : Nat.blt t m = true)
  (ho : od.op = .defer ⟨.value o, #[], ts⟩) (hg : od.guard = none) (hd : od.dst = none) (hc : ev? ((t, .func (.func f) #[] us.toArray) :: Γ) o = some (.func (.func f) #[] us.toArray))
  (k : LW P ⟨m, { target := .fn (.func f) us.toArray, args := #[] } :: D, none⟩ y ((t, .func (.func f) #[] us.toArray) :: Γ) w QQ) : LW P ⟨m, D, none⟩ (.seq (.region id #[om, od] false) y) Γ w QQ := by
 intro _ a hs
 refine wp_seq (wp_region_lit ?_)
 unfold wpList
 rw [if_pos (by unfold Region.wanted; rw [hgm])]
 left
 unfold Oper.wp
 rw [h _ hs.fits, Oper.upon_value, hdm]
 have hs1 := hs.put htn (.func (.func f) #[] us.toArray)
 unfold wpList
 rw [if_pos (by unfold Region.wanted; rw [hg])]
 left
 unfold Oper.wp
 have e2 := hs1.fits _ _ hc
 have hr : (execOp (a.put (some t) (.func (.func f) #[] us.toArray)).eval od).run P w = .ok (.defer { target := .fn (.func f) us.toArray, args := #[] }) w := by
  simp [execOp, ho, resolve, e2, Deferred.ofValue]
 rw [hr, Oper.upon_defer, hd]
 refine wpList_nil (k rfl _ ⟨hs1.size, ?_, hs1.at_⟩)
 show _ :: (a.put (some t) _).defers = _
 rw [hs1.defers]
theorem kV {f : FuncId} {us : List Value} (hi : ∀ args w, (callFunc f args).run P w = .ok (.enter f args) w) (w : World) : (invoke (.fn (.func f) us.toArray) #[]).run P w = .ok (.enter f us.toArray) w := by
 simp [invoke, hi]
theorem sT {m : Nat} (hr : fn.results = res) (h : cG P res R .ret Γ w) : upL ⟨m, [], none⟩ (bodyPostD P fn R) .ret Γ w := fun a hs => by
 obtain ⟨vs, h1, h2⟩ := cY hs hr h
 show Leaves P fn a.tmps R a.defers .returning w
 rw [hs.defers]
 exact ⟨_, h1, h2⟩
theorem sU {m : Nat} {f : FuncId} {us : List Value} (hr : fn.results = res) (hi : ∀ args w, (callFunc f args).run P w = .ok (.enter f args) w)
  (hc : CallsD P f us.toArray .returning w fun e u w' => (∃ v, e = .returned v) ∧ settle u = .returning ∧ cG P res R .ret Γ w') : upL ⟨m, [{ target := .fn (.func f) us.toArray, args := #[] }], none⟩ (bodyPostD P fn R) .ret Γ w := fun a hs => by
 show Leaves P fn a.tmps R a.defers .returning w
 rw [hs.defers]
 refine leaves_cons jp (kV hi w) (hc.mono ?_)
 rintro e u w' ⟨⟨v, rfl⟩, hu, h⟩
 obtain ⟨vs, h1, h2⟩ := cY hs hr h
 dsimp only
 rw [hu]
 exact ⟨_, h1, h2⟩
theorem fA {m : Nat} {f : FuncId} {us : List Value} {ch : List PanicEntry} (hr : fn.results = res) (hi : ∀ args w, (callFunc f args).run P w = .ok (.enter f args) w)
  (hc : CallsD P f us.toArray (.panicking ch) w fun e u w' => (∃ v, e = .returned v) ∧ settle u = .returning ∧ cG P res R .ret Γ w') : upL ⟨m, [{ target := .fn (.func f) us.toArray, args := #[] }], none⟩ (bodyPostD P fn R) (.panic ch) Γ w := fun a hs => by
 show Leaves P fn a.tmps R a.defers (.panicking ch) w
 rw [hs.defers]
 refine leaves_cons jp (kV hi w) (hc.mono ?_)
 rintro e u w' ⟨⟨v, rfl⟩, hu, h⟩
 obtain ⟨vs, h1, h2⟩ := cY hs hr h
 dsimp only
 rw [hu]
 exact ⟨_, h1, h2⟩
theorem LW.calls {f : FuncId} {args : List Value} {nt : Nat} (hf : P.funcs[f]? = some fn) (hb : fn.body = some c) (hn : fn.ntmps = nt) (hl0 : Nat.ble args.length nt = true)
  (h : LW P ⟨nt, [], none⟩ c (argEnv 0 args) w (bodyPostD P fn R)) : Calls P f args.toArray w R := by
 have hl : args.length ≤ nt := zbi hl0
 refine calls_of_wp_defers hf hb (h rfl _ ?_)
 refine ⟨?_, rfl, ?_⟩
 ·
  simp only [zdl, zcj, zcp, hn]
  omega
 intro t v ht
 obtain ⟨_, h2⟩ := eR args 0 t v ht
 simp only [Nat.sub_zero] at h2
 have hlt : t < args.length := (List.getElem?_eq_some_iff.1 h2).1
 rw [zx, zbr (by simpa using hlt)]
 simp [h2]
end
section
variable {P : Program} {Γ : Env} {w : World} {rest : Code} {R : Ending → FrameMode → World → Prop} {fn : Func} {res : Array ResultVar}
theorem VC.recovered {f : FuncId} {args : List Value} {nt id : Nat} {o4 o3 : Oper} {d e : Nat} {u u' : FrameMode} {v : Value} (hf : P.funcs[f]? = some fn) (hb : fn.body = some (.seq (.region id #[o4, o3] false) rest)) (hn : fn.ntmps = nt) (hr : fn.results = res) (hl0 : Nat.ble args.length nt = true)
  (hu : (∃ older, u = .panicking ({ v, recovered := false } :: older) ∧ u' = .panicking ({ v, recovered := true } :: older)) ∨ (u = .returning ∧ u' = u ∧ v = .nilIface))
  (h4 : o4.op = .call ⟨.builtin .recover, #[], #[]⟩) (hg4 : o4.guard = none) (hd4 : o4.dst = some d) (h3 : o3.op = .assign (.tmp d)) (hg3 : o3.guard = none) (hd3 : o3.dst = some e) (hdn : Nat.blt d nt = true) (hen : Nat.blt e nt = true)
  (k : VC P ⟨nt, [], none⟩ rest ((e, v) :: (d, v) :: argEnv 0 args) w (cG P res (fun x w' => R x u' w'))) : CallsD P f args.toArray u w R := by
 have hl : args.length ≤ nt := zbi hl0
 refine callsD_of_wpS hf hb fun c₀ cs hmode => wpS_seq (wpS_region ?_)
 have hs0 : Sat ⟨nt, [], none⟩ (argEnv 0 args) { tmps := args.toArray ++ Array.replicate (fn.ntmps - args.toArray.size) undef, defers := [] } := by
  refine ⟨?_, rfl, ?_⟩
  ·
   simp only [zdl, zcj, zcp, hn]
   omega
  intro t v ht
  obtain ⟨_, h2⟩ := eR args 0 t v ht
  simp only [Nat.sub_zero] at h2
  have hlt : t < args.length := (List.getElem?_eq_some_iff.1 h2).1
  rw [zx, zbr (by simpa using hlt)]
  simp [h2]
 generalize ({ tmps := args.toArray ++ Array.replicate (fn.ntmps - args.toArray.size) undef, defers := [] } : Act) = a0 at hs0
 have e0 : (execOp a0.eval o4).run P w = .ok .recover w := by
  simp [execOp, h4, resolve, invoke, builtin]
 have fin : ∀ cs', cs' = { c₀ with mode := u' } :: cs → wpOpsS P #[o4, o3] (Exit.thenS (rest.wpS P (bodyPostS P fn c₀ cs R)) (bodyPostS P fn c₀ cs R)) [1] (a0.put o4.dst v) cs' w := by
  rintro cs' rfl
  have hs1 := hs0.put hdn v
  rw [hd4]
  have e1 : (execOp (a0.put (some d) v).eval o3).run P w = .ok (.value v) w := by
   have h5 : (a0.put (some d) v).eval (.tmp d) = v := hs1.fits (.tmp d) v (by simp [ev?, get?])
   simp [execOp, h3, h5]
  have hs2 := hs1.put hen v
  simp only [wpOpsS, show (#[o4, o3] : Array Oper)[1]? = some o3 from rfl]
  rw [if_pos (by unfold Region.wanted; rw [hg3]), e1]
  simp only [Oper.upon_value, hd3]
  refine wpS_of_wp (wp_mono (wpIn_wide.1 (k _ hs2 0)) ?_)
  rintro x a' w' ⟨Γ', hs', q⟩
  have key : cG P res (fun x w' => R x u' w') .ret Γ' w' → ∃ v, (results fn a'.tmps).run P w' = .ok v w' ∧ R (.returned v) u' w' := by
   intro q
   obtain ⟨vs, h1, h2⟩ := cY hs' hr q
   exact ⟨_, h1, h2⟩
  cases x with
  | normal => obtain ⟨v, h1, h2⟩ := key q; exact ⟨hs'.defers, _, rfl, v, h1, h2⟩
  | ret => obtain ⟨v, h1, h2⟩ := key q; exact ⟨hs'.defers, _, rfl, v, h1, h2⟩
  | panic ch => exact ⟨hs'.defers, _, rfl, q⟩
  | exit id => exact q.elim
  | goto l => exact q.elim
  | outgrown => exact q.elim
 show wpOpsS P #[o4, o3] _ [0, 1] a0 (c₀ :: cs) w
 rw [wpOpsS]
 simp only [show (#[o4, o3] : Array Oper)[0]? = some o4 from rfl]
 rw [if_pos (by unfold Region.wanted; rw [hg4]), e0]
 dsimp only
 rcases hu with ⟨older, rfl, rfl⟩ | ⟨rfl, rfl, rfl⟩
 ·
  have : recoverD (c₀ :: cs) = some (v, { c₀ with mode := .panicking ({ v, recovered := true } :: older) } :: cs) := by simp [recoverD, hmode]
  rw [this]
  exact fin _ rfl
 have : recoverD (c₀ :: cs) = none := by simp [recoverD, hmode]
 rw [this]
 exact fin _ (by rw [← hmode])
end
section
variable {P : Program} {Γ : Env} {w : World} {dst : Option Tmp} {T : TypeId} {pos : String} {after : Array Edge} {g : Option (Nat × Bool)}
theorem Run.neqNil2 {t yT : TypeId} {x : Operand} {d : TypeDesc} (hx : ev? Γ x = some .nilIface) (ht : P.underlying t = some d) (hd : fE d = false) :
  Run P ⟨dst, .binOp .neq t x (.const .nilIface) yT, T, pos, after, g⟩ Γ w (.bool false) := fun ρ hρ => by
 have h0 : ∀ k : Nat, (Op.equalIn (k + 1) t .nilIface .nilIface).run P w = .ok true w := fun k => by
  cases d <;> first | (cases hd; done) | simp [Op.equalIn, run_underlying ht]
 have h1 : (Op.equal t .nilIface .nilIface).run P w = .ok true w := h0 9999
 have hy : ρ (.const .nilIface) = .nilIface := hρ _ _ rfl
 simp [execOp, hρ _ _ hx, hy, eqGuard, binOp, h1]
end
section
variable {P : Program} {n : NF} {Γ : Env} {w : World} {K : Env → World → Prop} {Pn : List PanicEntry → World → Prop} {ops : Array Oper} {S : World → Prop} {L fuel : Nat} {listed : Array Bool} {i : Nat} {oi : Oper} {d : Nat}
end
end
section
open Go.RowKit Go.ChangeShapes Go.WideShapes Go.Deep
section
variable {H : Type} {enc : TypeId × Value → H} {P : Program} {w : World} {base : Nat} {spare : Nat → Bool} {held : Bool}
end
end
section
open Go.RowKit
def Fro (w : World) (g : Nat) (e : TypeId) (cs : Array Value) : Prop := w.heap[g]? = some (.cells cs e (cs.size, cs.size + 1))
section
variable {S : List Nat} {w w' : World} {g : Nat} {e : TypeId} {cs : Array Value}
theorem Fro.lt (h : Fro w g e cs) : g < w.heap.size := (Array.getElem?_eq_some_iff.1 h).1
theorem Fro.cell (h : Fro w g e cs) (i : Nat) : w.cell? ⟨g, i, none⟩ = cs[i]? := by
 unfold Fro at h
 simp [World.cell?, h]
theorem Fro.frozen (h : Fro w g e cs) {i : Nat} (hi : i < cs.size) : w.frozen? ⟨g, i, none⟩ = false := by
 unfold Fro at h
 simp [World.frozen?, h]
 omega
theorem Fro.set (h : Fro w g e cs) (i : Nat) (u : Value) : Fro (w.setCell ⟨g, i, none⟩ u) g e (cs.setIfInBounds i u) := by
 unfold Fro at *
 have hlt := (Array.getElem?_eq_some_iff.1 h).1
 have hb := (Array.getElem?_eq_some_iff.1 h).2
 simp [World.setCell, Array.getElem?_modify, h]
theorem Fro.rd (h : Fro w g e cs) {l : List UInt8} (hl : cs.toList.take l.length = U8 l) : Rd w 1 (some ⟨g, 0, none⟩) l.length (U8 l) := by
 refine ⟨by simp [U8], fun hn => ⟨_, rfl, h.lt, fun j u hu => ?_⟩⟩
 have e1 : (⟨g, 0, none⟩ : Addr).add j = ⟨g, j, none⟩ := by unfold Addr.add; split <;> simp_all
 rw [e1, h.cell]
 have hj : j < l.length := by have := (List.getElem?_eq_some_iff.1 hu).1; simpa [U8] using this
 rw [← hl, zaj hj] at hu
 simpa using hu
end
section
variable {P : Program} {n : NF} {Γ : Env} {w : World} {dst : Option Tmp} {T : TypeId} {pos : String} {after : Array Edge} {g : Option (Nat × Bool)}
theorem qV.bytesOf {src dstT e : TypeId} {x : Operand} {s : ByteArray} (hx : ev? Γ x = some (.string s)) (hs : P.underlying src = some .string) (hd : P.underlying dstT = some (.slice e)) (he : P.underlying e = some (.int .u8)) :
  qV P ⟨dst, .convert src dstT x, T, pos, after, g⟩ Γ w (fun r w' => ∃ c cs, r = .slice (some ⟨w.heap.size, 0, none⟩) s.data.toList.length c ∧ Fro w' w.heap.size e cs ∧ cs.toList.take s.data.toList.length = U8 s.data.toList ∧ Frm [] w w') := fun ρ hρ => by
 have h := run_bytes_of_string (P := P) w src dstT e s hs hd he
 have hsz : s.data.toList.length = s.size := rfl
 refine ⟨.slice (some ⟨w.heap.size, 0, none⟩) s.size (grownCap w s.size 0 e), w.drew.alloc (.cells (bytesRow s (grownCap w s.size 0 e)) e ((bytesRow s (grownCap w s.size 0 e)).size, (bytesRow s (grownCap w s.size 0 e)).size + 1)), ?_,
  grownCap w s.size 0 e, bytesRow s (grownCap w s.size 0 e), by rw [hsz], ?_, ?_, ?_⟩
 ·
  simp only [execOp, hρ _ _ hx, Sem.run_bind, h, Result.andThen_ok]
  rfl
 ·
  unfold Fro
  show (w.heap.push _)[w.heap.size]? = _
  simp
 ·
  unfold bytesRow U8
  simp
 exact ((Frm.refl [] w).drew).alloc _
theorem qZ.storeFro {t e : TypeId} {x y : Operand} {gb i : Nat} {cs : Array Value} {v : Value} (hx : ev? Γ x = some (.pointer (some ⟨gb, i, none⟩))) (hy : ev? Γ y = some v)
  (hz : ∀ w, (sizeOf t).run P w = .ok 1 w) (hb : Fro w gb e cs) (hi : i < cs.size) (h1 : v.oneCell' = true) :
  qZ P ⟨dst, .store t x y, T, pos, after, g⟩ Γ w (fun w' => Fro w' gb e (cs.setIfInBounds i v) ∧ Frm [gb] w w' ∧ w'.heap.size = w.heap.size) := fun ρ hρ => by
 have hcells : v.cells = #[v] := by cases v <;> first | rfl | cases h1
 have hc := hb.cell i
 rw [Array.getElem?_eq_getElem hi] at hc
 refine ⟨w.setCell ⟨gb, i, none⟩ v, ?_, hb.set i v, Frm.set1 w ⟨gb, i, none⟩ v, jp⟩
 simp [execOp, hρ _ _ hx, hρ _ _ hy, Instr.storeAt, Instr.sureAddr, storeVar, hcells, hz, storeCells, run_store P _ _ _ _ h1, lW, hc, hb.frozen hi]
theorem qV.bytesOfT {src dstT e : TypeId} {x : Operand} {s : List UInt8} (hx : ev? Γ x = some (encStr s)) (hs : P.underlying src = some .string) (hd : P.underlying dstT = some (.slice e)) (he : P.underlying e = some (.int .u8)) :
  qV P ⟨dst, .convert src dstT x, T, pos, after, g⟩ Γ w (fun r w' => ∃ c cs, r = .slice (some ⟨w.heap.size, 0, none⟩) s.length c ∧ Fro w' w.heap.size e cs ∧ cs.toList.take s.length = U8 s ∧ Frm [] w w') := qV.bytesOf hx hs hd he
theorem Run.lenT {t : TypeId} {x : Operand} {s : List UInt8} (hx : ev? Γ x = some (encStr s)) (ht : P.underlying t = some .string) :
  Run P ⟨dst, .call ⟨.builtin .len, #[x], #[t]⟩, T, pos, after, g⟩ Γ w (jI1 s.length) := Run.lenStr hx ht
theorem Run.eqlT {t yT : TypeId} {x y : Operand} {a b : List UInt8} (hx : ev? Γ x = some (encStr a)) (hy : ev? Γ y = some (encStr b)) : Run P ⟨dst, .binOp .eql t x y yT, T, pos, after, g⟩ Γ w (.bool (decide (a = b))) := Run.eqlStr hx hy
theorem Run.neqT {t yT : TypeId} {x y : Operand} {a b : List UInt8} (hx : ev? Γ x = some (encStr a)) (hy : ev? Γ y = some (encStr b)) : Run P ⟨dst, .binOp .neq t x y yT, T, pos, after, g⟩ Γ w (.bool (decide (a ≠ b))) := Run.neqStr hx hy
theorem Run.addT {t yT : TypeId} {x y : Operand} {a b : List UInt8} (hx : ev? Γ x = some (encStr a)) (hy : ev? Γ y = some (encStr b)) (hs : a.length + b.length ≤ 9223372036854775807) :
  Run P ⟨dst, .binOp .add t x y yT, T, pos, after, g⟩ Γ w (encStr (a ++ b)) := by
 have h := Run.addStr (P := P) (w := w) (T := T) (dst := dst) (pos := pos) (after := after) (g := g) (t := t) (yT := yT) hx hy hs
 have e : (⟨a.toArray⟩ : ByteArray) ++ ⟨b.toArray⟩ = ⟨(a ++ b).toArray⟩ := by
  apply ByteArray.ext
  rw [ByteArray.data_append]
  simp
 rw [e] at h
 exact h
theorem Run.indexT {t : TypeId} {x i : Operand} {s : List UInt8} {k : IntKind} (j : Nat) {b : UInt8} (hx : ev? Γ x = some (encStr s)) (hi : ev? Γ i = some (.int k j)) (ht : P.underlying t = some .string) (hj : s[j]? = some b) :
  Run P ⟨dst, .index t x i, T, pos, after, g⟩ Γ w (.int .u8 ((b.toNat : Nat) : Int)) := Run.indexStr j b hx hi ht hj
theorem Run.sliceT {t : TypeId} {x : Operand} {s : List UInt8} {lo hi : Option Operand} (l h : Nat) (hx : ev? Γ x = some (encStr s)) (ht : P.underlying t = some .string)
  (hlo : evB Γ lo 0 l) (hhi : evB Γ hi s.length h) (h1 : l ≤ h) (h2 : h ≤ s.length) :
  Run P ⟨dst, .slice t x lo hi none, T, pos, after, g⟩ Γ w (encStr ((s.drop l).take (h - l))) := by
 have h3 := Run.sliceStr (P := P) (w := w) (T := T) (dst := dst) (pos := pos) (after := after) (g := g) (t := t) l h hx ht hlo hhi h1 h2
 have e : (⟨s.toArray⟩ : ByteArray).extract l h = ⟨((s.drop l).take (h - l)).toArray⟩ := by
  apply ByteArray.ext
  simp [ByteArray.data_extract]
 rw [e] at h3
 exact h3
theorem Run.strOfT {src dstT e : TypeId} {x : Operand} {A : Option Addr} {n c : Nat} {l : List UInt8} (hx : ev? Γ x = some (.slice A n c)) (hs : P.underlying src = some (.slice e)) (he : P.underlying e = some (.int .u8)) (hd : P.underlying dstT = some .string)
  (hr : Rd w 1 A n (U8 l)) : Run P ⟨dst, .convert src dstT x, T, pos, after, g⟩ Γ w (encStr l) := Run.strOf hx hs he hd hr
theorem Run.indexArr1 {t e : TypeId} {x i : Operand} {n : Nat} {k : IntKind} {cs : Array Value} {v : Value} (j : Nat) (hx : ev? Γ x = some (.agg cs)) (hi : ev? Γ i = some (.int k j)) (ht : P.underlying t = some (.array n e))
  (ha : ∀ w, (isAgg e).run P w = .ok false w) (hz : ∀ w, (sizeOf e).run P w = .ok 1 w) (hl : cs.size = n) (hj : cs[j]? = some v) : Run P ⟨dst, .index t x i, T, pos, after, g⟩ Γ w v := fun ρ hρ => by
 have hlt := (Array.getElem?_eq_some_iff.1 hj).1
 have h4 : j < n := jo
 simp [execOp, hρ _ _ hx, hρ _ _ hi, Instr.index, asIntOf, run_underlying ht, h4, part, ha, hz, hj]
end
section
variable {P : Program} {n : NF} {Γ : Env} {w : World} {Q : Exit → Env → World → Prop} {ops : Array Oper} {rest : List Oper} {op : Op} {T : TypeId} {pos : String} {after : Array Edge} {g : Option (Nat × Bool)} {dst : Option Tmp}
end
section
variable {P : Program} {n : NF} {Γ : Env} {w : World} {K : Env → World → Prop} {Pn : List PanicEntry → World → Prop} {ops : Array Oper} {S : World → Prop} {L : Nat} {target : Array Bool}
end
end
section
open Go.RowKit
open Go.Maps (Keyed)
def MpF (P : Program) (k : TypeId) {κ : Type} (enc : κ → Value) (w : World) (g : Nat) (M : κ → Option Value) : Prop :=
 ∃ (es : List MapEntry) (clock : Nat), w.heap[g]? = some (.map es.toArray clock) ∧ (∀ e ∈ es, (∃ l, keyOf P k e.key = some l) ∧ e.born < clock) ∧ es.Pairwise (fun a b => a.born ≠ b.born ∧ a.key ≠ b.key) ∧ ∀ x v, M x = some v ↔ ∃ e ∈ es, e.key = enc x ∧ e.val = v
section
variable {P : Program} {k : TypeId} {κ : Type} {enc : κ → Value} {w w' : World} {g : Nat} {M : κ → Option Value} {S : List Nat}
theorem MpF.lt (h : MpF P k enc w g M) : g < w.heap.size := by
 obtain ⟨es, clock, h1, _⟩ := h
 exact (Array.getElem?_eq_some_iff.1 h1).1
theorem MpF.new : MpF P k enc (w.alloc (.map #[] 0)) w.heap.size (fun _ : κ => none) := by
 refine ⟨[], 0, (MapKept.heap_alloc w _).1, jp, List.Pairwise.nil, fun x v => ?_⟩
 simp
theorem gR (w : World) (g : Nat) (o : Obj) : Frm [g] w (ChangeMaps.setBlock w g o) :=
 ⟨rfl, rfl, rfl, by simp [ChangeMaps.setBlock], fun i _ hi => by
  unfold ChangeMaps.setBlock
  simp only [zah]
  rw [if_neg (fun e => hi (by rw [e]; simp))]⟩
end
section
variable {P : Program} {k : TypeId} {κ : Type} {enc : κ → Value} {w : World} {g : Nat} {M : κ → Option Value} {Γ : Env} {dst : Option Tmp} {T : TypeId} {pos : String} {after : Array Edge} {gd : Option (Nat × Bool)}
theorem qV.makeMap {t : TypeId} : qV P ⟨dst, .makeMap t none, T, pos, after, gd⟩ Γ w (fun r w' => r = .map (some w.heap.size) ∧ MpF P k enc w' w.heap.size (fun _ : κ => none) ∧ Frm [] w w' ∧ w'.heap.size = w.heap.size + 1) := fun ρ _ =>
 ⟨_, w.alloc (.map #[] 0), by simp [execOp, run_makeMap], rfl, MpF.new, (Frm.refl [] w).alloc _, jp⟩
end
end
section
open Go.RowKit
open Go.Maps (Keyed)
section
variable {P : Program} {k : TypeId} {κ : Type} {enc : κ → Value} {w w' : World} {g : Nat} {M : κ → Option Value} {S : List Nat}
theorem nB [DecidableEq κ] {t e : TypeId} {x : κ} {kl : Lit} {v : Value} (h : MpF P k enc w g M) (K : Keyed P k) (henc : ∀ a b, enc a = enc b → a = b) (ht : P.underlying t = some (.map k e)) (hkey : keyOf P k (enc x) = some kl) :
  ∃ w' : World, (Instr.mapUpdate t (.map (some g)) (enc x) v).run P w = .ok () w' ∧ MpF P k enc w' g (fun y => if y = x then some v else M y) ∧ Frm [g] w w' ∧ w'.heap.size = w.heap.size := by
 have hlt := h.lt
 obtain ⟨es, clock, hb, h2, h3, h4⟩ := h
 rcases K.find w hkey es (fun e he => (h2 e he).1) with ⟨h5, h6⟩ | ⟨j, e0, h5, h6, h7⟩
 ·
  refine ⟨ChangeMaps.setBlock w g (.map (es ++ [(⟨enc x, v, clock⟩ : MapEntry)]).toArray (clock + 1)), ?_, ⟨es ++ [(⟨enc x, v, clock⟩ : MapEntry)], clock + 1, ?_, ?_, ?_, ?_⟩, gR w g _, by simp [ChangeMaps.setBlock]⟩
  · simp [Instr.mapUpdate, run_underlying ht, MapKept.run_getObj_map hb, K.check w _ hkey, h5, MapKept.run_setObj_map _ hb, Result.andThen, ChangeMaps.setBlock]
  · simp [ChangeMaps.setBlock, hlt]
  ·
   intro e1 he1
   rcases List.mem_append.1 he1 with he1 | he1
   · exact ⟨(h2 e1 he1).1, by have := (h2 e1 he1).2; omega⟩
   rw [ze] at he1
   subst he1
   exact ⟨⟨kl, hkey⟩, Nat.lt_succ_self _⟩
  ·
   refine List.pairwise_append.2 ⟨h3, jp, fun a ha b hb2 => ?_⟩
   rw [ze] at hb2
   subst hb2
   exact ⟨by have := (h2 a ha).2; dsimp only; omega, h6 a ha⟩
  intro y u
  dsimp only
  by_cases hy : y = x
  ·
   subst hy
   rw [if_pos rfl]
   constructor
   ·
    intro hv
    simp only [Option.some.injEq] at hv
    exact ⟨⟨enc y, v, clock⟩, jp, rfl, hv⟩
   rintro ⟨e1, he1, he2, he3⟩
   rcases List.mem_append.1 he1 with he1 | he1
   · exact absurd he2 (h6 e1 he1)
   rw [ze] at he1
   subst he1
   simpa using he3
  rw [if_neg hy]
  constructor
  ·
   intro hv
   obtain ⟨e1, he1, he2⟩ := (h4 y u).1 hv
   exact ⟨e1, by simp [he1], he2⟩
  rintro ⟨e1, he1, he2, he3⟩
  rcases List.mem_append.1 he1 with he1 | he1
  · exact (h4 y u).2 ⟨e1, he1, he2, he3⟩
  rw [ze] at he1
  subst he1
  exact absurd (henc _ _ he2).symm hy
 have hkey0 : ({ e0 with key := enc x, val := v } : MapEntry) = { e0 with val := v } := by rw [← h7]
 have hmod : es.modify j (fun e => { e with key := enc x, val := v }) = es.set j { e0 with val := v } := by
  rw [ChangeMaps.modify_eq_set _ _ _ _ h6, hkey0]
 have hjl := (List.getElem?_eq_some_iff.1 h6).1
 have ej : es[j] = e0 := by rw [zb hjl] at h6; exact Option.some.inj h6
 have he0 : e0 ∈ es := zbl h6
 have who : ∀ e1 ∈ es.set j { e0 with val := v }, e1 = { e0 with val := v } ∨ (e1 ∈ es ∧ e1.key ≠ e0.key ∧ e1.born ≠ e0.born) := by
  intro e1 he1
  obtain ⟨i, hi, ex⟩ := zcu he1
  rw [List.getElem_set] at ex
  split at ex
  · exact .inl ex.symm
  rename_i hne
  have hi' : i < es.length := by simpa using hi
  refine .inr ⟨ex ▸ zaq hi', ?_⟩
  rcases Nat.lt_or_gt_of_ne hne with h5 | h5
  ·
   have := List.pairwise_iff_getElem.1 h3 j i hjl hi' h5
   rw [ej, ex] at this
   exact ⟨this.2.symm, this.1.symm⟩
  have := List.pairwise_iff_getElem.1 h3 i j hi' hjl h5
  rw [ej, ex] at this
  exact ⟨this.2, this.1⟩
 have back : ∀ e1 ∈ es, e1.key ≠ e0.key → e1 ∈ es.set j { e0 with val := v } := by
  intro e1 he1 hne
  obtain ⟨i, hi, ex⟩ := zcu he1
  have hij : j ≠ i := by
   rintro rfl
   rw [zb hi, ex] at h6
   exact hne (by rw [Option.some.inj h6])
  have : (es.set j { e0 with val := v })[i]? = some e1 := by rw [List.getElem?_set_ne hij, zb hi, ex]
  exact zbl this
 have hmem : ({ e0 with val := v } : MapEntry) ∈ es.set j { e0 with val := v } := by
  have : (es.set j { e0 with val := v })[j]? = some { e0 with val := v } := by rw [List.getElem?_set_self hjl]
  exact zbl this
 have hstay := K.stays w hkey
 refine ⟨ChangeMaps.setBlock w g (.map (es.set j { e0 with val := v }).toArray clock), ?_, ⟨es.set j { e0 with val := v }, clock, by simp [ChangeMaps.setBlock, hlt], ?_, ?_, ?_⟩, gR w g _, by simp [ChangeMaps.setBlock]⟩
 · simp [Instr.mapUpdate, run_underlying ht, MapKept.run_getObj_map hb, K.check w _ hkey, h5, h6, h7, hstay, MapKept.run_setObj_map _ hb, Result.andThen, ChangeMaps.setBlock, hmod]
 ·
  intro e1 he1
  rcases who e1 he1 with rfl | ⟨h5, _⟩
  · exact h2 e0 he0
  exact h2 e1 h5
 ·
  rw [List.pairwise_iff_getElem]
  intro a b ha hb2 hab
  have ha' : a < es.length := by simpa using ha
  have hb' : b < es.length := by simpa using hb2
  have h5 := List.pairwise_iff_getElem.1 h3 a b ha' hb' hab
  rw [List.getElem_set, List.getElem_set]
  by_cases h6 : j = a
  ·
   subst h6
   rw [if_pos rfl, if_neg jo]
   rw [ej] at h5
   exact h5
  rw [if_neg h6]
  by_cases h7 : j = b
  ·
   subst h7
   rw [if_pos rfl]
   rw [ej] at h5
   exact h5
  rw [if_neg h7]
  exact h5
 intro y u
 dsimp only
 by_cases hy : y = x
 ·
  subst hy
  rw [if_pos rfl]
  constructor
  ·
   intro hu
   exact ⟨_, hmem, h7, by simpa using hu⟩
  rintro ⟨e1, he1, he2, he3⟩
  rcases who e1 he1 with rfl | ⟨_, h6, _⟩
  · simpa using he3
  exact absurd (he2.trans h7.symm) h6
 rw [if_neg hy]
 constructor
 ·
  intro hu
  obtain ⟨e1, he1, he2, he3⟩ := (h4 y u).1 hu
  exact ⟨e1, back e1 he1 (fun e => hy (henc _ _ (by rw [← he2, ← h7, e]))), he2, he3⟩
 rintro ⟨e1, he1, he2, he3⟩
 rcases who e1 he1 with rfl | ⟨h5, _, _⟩
 · exact absurd (henc _ _ (h7.symm.trans he2)).symm hy
 exact (h4 y u).2 ⟨e1, h5, he2, he3⟩
end
section
variable {P : Program} {k : TypeId} {κ : Type} {enc : κ → Value} {w : World} {g : Nat} {M : κ → Option Value} {Γ : Env} {dst : Option Tmp} {T : TypeId} {pos : String} {after : Array Edge} {gd : Option (Nat × Bool)}
theorem qZ.mapUpd [DecidableEq κ] {t e : TypeId} {a b c : Operand} {x : κ} {kl : Lit} {v : Value} (ha : ev? Γ a = some (.map (some g))) (hb : ev? Γ b = some (enc x)) (hc : ev? Γ c = some v) (h : MpF P k enc w g M) (K : Keyed P k) (henc : ∀ a b, enc a = enc b → a = b) (ht : P.underlying t = some (.map k e)) (hkey : keyOf P k (enc x) = some kl) :
  qZ P ⟨dst, .mapUpdate t a b c, T, pos, after, gd⟩ Γ w (fun w' => MpF P k enc w' g (fun y => if y = x then some v else M y) ∧ Frm [g] w w' ∧ w'.heap.size = w.heap.size) := fun ρ hρ => by
 obtain ⟨w', h1, h2⟩ := nB (t := t) (v := v) h K henc ht hkey
 exact ⟨w', by simp [execOp, hρ _ _ ha, hρ _ _ hb, hρ _ _ hc, h1], h2⟩
end
end
section
open Go.RowKit
open Go.Maps (Keyed)
section
variable {P : Program} {k : TypeId} {κ : Type} {enc : κ → Value} {w : World} {g : Nat} {M : κ → Option Value} {Γ : Env} {dst : Option Tmp} {T : TypeId} {pos : String} {after : Array Edge} {gd : Option (Nat × Bool)}
theorem qZ.mapIns [DecidableEq κ] {t e : TypeId} {a b c : Operand} {x : κ} {kl : Lit} {v : Value} (ha : ev? Γ a = some (.map (some g))) (hb : ev? Γ b = some (enc x)) (hc : ev? Γ c = some v) (h : MpF P k enc w g M) (K : Keyed P k) (henc : ∀ a b, enc a = enc b → a = b) (ht : P.underlying t = some (.map k e)) (hkey : keyOf P k (enc x) = some kl) :
  qZ P ⟨dst, .insert t a b c, T, pos, after, gd⟩ Γ w (fun w' => MpF P k enc w' g (fun y => if y = x then some v else M y) ∧ Frm [g] w w' ∧ w'.heap.size = w.heap.size) := fun ρ hρ => by
 obtain ⟨w', h1, h2⟩ := nB (t := t) (v := v) h K henc ht hkey
 exact ⟨w', by simp [execOp, hρ _ _ ha, hρ _ _ hb, hρ _ _ hc, h1], h2⟩
end
theorem MpF.upd_congr {P : Program} {k : TypeId} {κ : Type} {enc : κ → Value} {w : World} {g : Nat} {M M' : κ → Option Value} (h : MpF P k enc w g M) (e : ∀ y, M y = M' y) : MpF P k enc w g M' := by
 have : M = M' := funext e
 rwa [← this]
end
section
open Go.RowKit
def kW (ds : List Nat) : List Deferred := ds.map fun d => { target := .collected d, args := #[] }
abbrev DQ := Exit → List Nat → Env → World → Prop
def oP (m : Nat) (Q : DQ) (e : Exit) (a : Act) (w : World) : Prop := ∃ ds Γ, Sat ⟨m, kW ds, none⟩ Γ a ∧ Q e ds Γ w
def DV (P : Program) (m : Nat) (c : Code) (ds : List Nat) (Γ : Env) (w : World) (Q : DQ) : Prop := ∀ a, Sat ⟨m, kW ds, none⟩ Γ a → ∀ k, c.wpIn (wd none) k P (oP m Q) a w
def oR (K : List Nat → Env → World → Prop) (Q : DQ) : DQ
 | .normal, ds, Γ, w => K ds Γ w
 | e, ds, Γ, w => Q e ds Γ w
def kY (id : Nat) (Q : DQ) : DQ
 | .exit i, ds, Γ, w => if i = id then Q .normal ds Γ w else Q (.exit i) ds Γ w
 | e, ds, Γ, w => Q e ds Γ w
section
variable {P : Program} {m : Nat} {ds : List Nat} {Γ : Env} {w : World} {Q : DQ} {K : List Nat → Env → World → Prop} {i id : Nat}
theorem fS (h : K ds Γ w) : oR K Q .normal ds Γ w := h
theorem uK (h : Q .ret ds Γ w) : oR K Q .ret ds Γ w := h
theorem sB (h : Q .normal ds Γ w) : kY id Q .normal ds Γ w := h
theorem sC (h : Q .ret ds Γ w) : kY id Q .ret ds Γ w := h
theorem DV.vc {c : Code} (h : VC P ⟨m, kW ds, none⟩ c Γ w (fun e Γ' w' => Q e ds Γ' w')) : DV P m c ds Γ w Q := fun a hs k =>
 wpIn_mono (h a hs k) fun _ _ _ ⟨Γ', hs', q⟩ => ⟨ds, Γ', hs', q⟩
theorem DV.sub {c : Code} (Γ' : Env) (hs : Sub Γ Γ') (h : DV P m c ds Γ' w Q) : DV P m c ds Γ w Q := fun a ha => h a (ha.sub hs)
theorem DV.seq {x y : Code} (h : DV P m x ds Γ w (oR (fun ds' Γ' w' => DV P m y ds' Γ' w' Q) Q)) : DV P m (.seq x y) ds Γ w Q := by
 intro a hs k
 refine wpIn_seq (wpIn_mono (h a hs k) ?_)
 intro e a' w' hq
 obtain ⟨ds', Γ', hs', q⟩ := hq
 cases e with
 | normal => exact q a' hs' k
 | exit id => exact ⟨ds', Γ', hs', q⟩
 | goto l => exact ⟨ds', Γ', hs', q⟩
 | ret => exact ⟨ds', Γ', hs', q⟩
 | panic c => exact ⟨ds', Γ', hs', q⟩
 | outgrown => exact ⟨ds', Γ', hs', q⟩
theorem DV.block {c : Code} (h : DV P m c ds Γ w (kY id Q)) : DV P m (.block id c) ds Γ w Q := by
 intro a hs k
 refine wpIn_block (wpIn_mono (h a hs k) ?_)
 intro e a' w' hq
 obtain ⟨ds', Γ', hs', q⟩ := hq
 cases e with
 | normal => exact ⟨ds', Γ', hs', q⟩
 | exit i =>
  simp only [kY] at q
  by_cases hi : i = id
  · rw [if_pos hi] at q; simp only [Exit.inBlock, hi, if_true]; exact ⟨ds', Γ', hs', q⟩
  rw [if_neg hi] at q; simp only [Exit.inBlock, hi, if_false]; exact ⟨ds', Γ', hs', q⟩
 | goto l => exact ⟨ds', Γ', hs', q⟩
 | ret => exact ⟨ds', Γ', hs', q⟩
 | panic c => exact ⟨ds', Γ', hs', q⟩
 | outgrown => exact ⟨ds', Γ', hs', q⟩
end
abbrev cQ (w : World) (d : Nat) : Prop := w.heap[d]? = some (.deferred (some []))
theorem cQ.frm {w w' : World} {S : List Nat} {d : Nat} (h : cQ w d) (k : Frm S w w') (hd : d ∉ S) : cQ w' d := (k.block d (Array.getElem?_eq_some_iff.1 h).1 hd).trans h
theorem cQ.ne_blk {w : World} {d g : Nat} {t : TypeId} {cs : Array Value} (h : cQ w d) (hb : Blk w g t cs) : d ≠ g := by
 rintro rfl
 unfold Blk at hb
 rw [h] at hb
 cases hb
theorem cQ.ne_own {w : World} {d e size n c : Nat} {A : Option Addr} {xs : List Value} (h : cQ w d) (ho : Own w e size A n c xs) : d ∉ ob A := by
 rcases ho.cases with ⟨rfl, _⟩ | ⟨g, cur, rfl, hb, _⟩
 · simp [ob]
 simp only [ob, ze]
 exact h.ne_blk hb
theorem Frm.putObj (w : World) (l : Nat) (o : Obj) : Frm [l] w (w.putObj l o) :=
 ⟨rfl, rfl, rfl, by simp [World.putObj], fun k _ hk => World.putObj_heap_other (fun e => hk (by simp [e]))⟩
def endD (P : Program) (res : Array ResultVar) (R : Ending → World → Prop) : DQ
 | .normal, ds, Γ, w | .ret, ds, Γ, w => ds.Nodup ∧ (∀ d ∈ ds, cQ w d) ∧ ∀ w', Frm ds w w' → cG P res R .ret Γ w'
 | _, _, _, _ => False
section
variable {P : Program} {m : Nat} {ds : List Nat} {Γ : Env} {w : World} {res : Array ResultVar} {R : Ending → World → Prop}
theorem pA (h1 : ds.Nodup) (h2 : ∀ d ∈ ds, cQ w d) (h : ∀ w', Frm ds w w' → cG P res R .ret Γ w') : endD P res R .ret ds Γ w := ⟨h1, h2, h⟩
theorem gS {fn : Func} {tmps : Array Value} {k : Nat} {F : Fence} : ∀ (ds : List Nat) (w : World), ds.Nodup → (∀ d ∈ ds, cQ w d) →
  (∀ w', Frm ds w w' → ∃ v, (results fn tmps).run P w' = .ok v w' ∧ R (.returned v) w') → LeavesInM F k P fn tmps R (kW ds) .returning w
 | [], w, _, _, h => by
  obtain ⟨v, h1, h2⟩ := h w (Frm.refl _ _)
  exact ⟨v, h1, h2⟩
 | d :: ds, w, hn, hm, h => by
  obtain ⟨hn1, hn2⟩ := List.nodup_cons.1 hn
  refine ⟨jp, .inl ⟨d, w.putObj d (.deferred none), rfl, run_takeDeferred (hm d jp), ?_⟩⟩
  have hf := Frm.putObj w d (.deferred none)
  refine gS ds _ hn2 (fun x hx => ?_) (fun w' hw' => h w' ?_)
  · exact (hm x (by simp [hx])).frm hf (by simp; rintro rfl; exact hn1 hx)
  exact (hf.mono (T := d :: ds) jp).trans hw' (fun x hx => .inl (by simp [hx]))
theorem DV.calls {f : FuncId} {fn : Func} {c : Code} {args : List Value} {nt : Nat} (hf : P.funcs[f]? = some fn) (hb : fn.body = some c) (hn : fn.ntmps = nt) (hr : fn.results = res) (hl0 : Nat.ble args.length nt = true)
  (h : DV P nt c [] (argEnv 0 args) w (endD P res R)) : Calls P f args.toArray w R := by
 have hl : args.length ≤ nt := zbi hl0
 refine callsIn_wide.1 (callsIn_of_wp_marks (F := Fence.wide) (n := 0) hf hb trivial ?_)
 refine wpIn_mono (h _ ?_ 0) ?_
 ·
  refine ⟨?_, rfl, ?_⟩
  ·
   simp only [zdl, zcj, zcp, hn]
   omega
  intro t v ht
  obtain ⟨_, h2⟩ := eR args 0 t v ht
  simp only [Nat.sub_zero] at h2
  have hlt : t < args.length := (List.getElem?_eq_some_iff.1 h2).1
  rw [zx, zbr (by simpa using hlt)]
  simp [h2]
 rintro e a w' ⟨ds, Γ, hs, hq⟩
 have key : ds.Nodup ∧ (∀ d ∈ ds, cQ w' d) ∧ (∀ w'', Frm ds w' w'' → cG P res R .ret Γ w'') → LeavesInM Fence.wide 0 P fn a.tmps R a.defers .returning w' := by
  rintro ⟨h1, h2, h3⟩
  rw [hs.defers]
  refine gS ds w' h1 h2 (fun w'' hw'' => ?_)
  obtain ⟨vs, h4, h5⟩ := cY hs hr (h3 w'' hw'')
  exact ⟨_, h4, h5⟩
 cases e with
 | normal => exact key hq
 | ret => exact key hq
 | _ => exact hq.elim
end
def jJ (P : Program) (l : Nat) (args : Array Value) (W : World) (R : Ending → World → Prop) : Prop := ∀ k, YieldAt (wd none) k P l args W R
def Off (Bt : List Nat) (W W' : World) : Prop := ∃ C, Frm C W W' ∧ ∀ b ∈ Bt, b ∉ C
theorem Off.blk {Bt : List Nat} {W W' : World} {g : Nat} {t : TypeId} {cs : Array Value} (h : Off Bt W W') (hb : Blk W g t cs) (hg : g ∈ Bt) : Blk W' g t cs := by
 obtain ⟨C, hf, hC⟩ := h
 exact hb.frm hf (hC g hg)
def Iter {α : Type} (P : Program) (gf : FuncId) (lb : Array Value) (encs : α → Array Value) (B Bt : List Nat) (Kp : World → Prop) (xs : List α) : Prop :=
 ∀ (l : Nat) (J Jx : List α → World → Prop) (W : World),
  (∀ pre W W', J pre W → Frm B W W' → J pre W') → (∀ pre W W', Jx pre W → Frm B W W' → Jx pre W') → Kp W →
  (∀ pre x W1, J pre W1 → (pre ++ [x]) <+: xs → jJ P l (encs x) W1 fun e W' => Off Bt W1 W' ∧ ((e = .returned (.bool true) ∧ J (pre ++ [x]) W') ∨ (e = .returned (.bool false) ∧ Jx (pre ++ [x]) W'))) →
  J [] W → Calls P gf (#[.func (.yield l) #[] #[]] ++ lb) W fun e W' => (∃ v, e = .returned v) ∧ (J xs W' ∨ ∃ pre, Jx pre W')
theorem Ops.yield {P : Program} {n : NF} {Γ : Env} {w : World} {Q : Exit → Env → World → Prop} {ops : Array Oper} {rest : List Oper} {dst : Option Tmp} {T : TypeId} {pos : String} {after : Array Edge} {l : Nat} {c : Operand} {xs : List Operand} {vs : List Value} {ts : Array TypeId} {R : Ending → World → Prop}
  (hro : n.ro = none) (hc : ev? Γ c = some (.func (.yield l) #[] #[])) (hv : evs Γ xs vs) (hy : jJ P l vs.toArray w R) {d : Nat} (hd : dst = some d) (hn : Nat.blt d n.n = true)
  (k : ∀ e w', R e w' → ∃ v, e = .returned v ∧ Ops P n ops rest ((d, v) :: Γ) w' Q) : Ops P n ops (⟨dst, .call ⟨.value c, xs.toArray, ts⟩, T, pos, after, none⟩ :: rest) Γ w Q :=
 Ops.of_wp trivial fun a hs m => by
  rw [hro]
  refine ⟨bL, ?_⟩
  obtain ⟨fn, tmps, assign, body, h1, h2⟩ := hy (m - 1)
  have e1 := cA hs.fits xs vs hv
  have e2 : a.eval c = .func (.yield l) #[] #[] := hs.fits _ _ hc
  have hrun : (execOp a.eval ⟨dst, .call ⟨.value c, xs.toArray, ts⟩, T, pos, after, none⟩).run P w = .ok (.round l fn tmps assign body) w := by
   simp [execOp, resolve, e2, Deferred.ofValue, invoke, callFunc, e1, h1]
  rw [dP hrun jp, Oper.uponIn_round, hd]
  refine ⟨fun h => by simp [wd, Fence.wide] at h, h2.mono ?_⟩
  intro e w' hR
  obtain ⟨v, rfl, hk⟩ := k e w' hR
  have := hk _ (hs.put hn v) m
  rw [hro] at this
  exact this
theorem KeepsOthers.of_frm {S : List Nat} {W W' : World} (h : Frm S W W') (hS : ∀ b ∈ S, ∀ o, W.heap[b]? = some o → o.isCells = true) : KeepsOthers W W' :=
 ⟨h.size, fun k o hk ho => (h.block k (Array.getElem?_eq_some_iff.1 hk).1 (fun hx => by have := hS k hx o hk; rw [ho] at this; cases this)).trans hk⟩
def fW (Bt : List Nat) (W W' : World) : Prop := ∃ C, Frm C W W' ∧ ∀ b ∈ C, b ∉ Bt ∧ ∀ o, W.heap[b]? = some o → o.isCells = true
theorem fW.off {Bt : List Nat} {W W' : World} (h : fW Bt W W') : Off Bt W W' := by
 obtain ⟨C, hf, hC⟩ := h
 exact ⟨C, hf, fun b hb hx => (hC b hx).1 hb⟩
theorem fW.others {Bt : List Nat} {W W' : World} (h : fW Bt W W') : KeepsOthers W W' := by
 obtain ⟨C, hf, hC⟩ := h
 exact KeepsOthers.of_frm hf fun b hb o ho => (hC b hb).2 o ho
theorem Blk.isC {W : World} {g : Nat} {t : TypeId} {cs : Array Value} (hb : Blk W g t cs) : ∀ o, W.heap[g]? = some o → o.isCells = true := fun o ho => by
 unfold Blk at hb
 rw [hb] at ho
 cases ho; rfl
theorem Own.isC {W : World} {e size n c : Nat} {A : Option Addr} {xs : List Value} (ho : Own W e size A n c xs) : ∀ g ∈ ob A, ∀ o, W.heap[g]? = some o → o.isCells = true := by
 rcases ho.cases with ⟨rfl, _⟩ | ⟨g, cur, rfl, hb, _⟩
 · simp [ob]
 intro x hx
 simp only [ob, ze] at hx
 subst hx
 exact hb.isC
def vX {α : Type} (Bt : List Nat) (I : List α → World → Prop) (Ix : Exit → List α → World → Prop) (xs : List α) (W : World) : Exit → Env → World → Prop
 | .normal, _, W' => fW Bt W W' ∧ I xs W'
 | .ret, _, W' => fW Bt W W' ∧ Ix .ret xs W'
 | .exit id, _, W' => fW Bt W W' ∧ Ix (.exit id) xs W'
 | _, _, _ => False
theorem gT : ∀ (l : List (Nat × Value)) (tmps : Array Value) (Γ : Env) (N : Nat), tmps.size = N → (∀ t v, get? Γ t = some v → tmps.getD t undef = v) → (∀ x ∈ l, x.1 < N) →
  (l.foldl (fun t (x : Nat × Value) => t.setIfInBounds x.1 x.2) tmps).size = N ∧ ∀ t v, get? (l.reverse ++ Γ) t = some v → (l.foldl (fun t (x : Nat × Value) => t.setIfInBounds x.1 x.2) tmps).getD t undef = v
 | [], tmps, Γ, N, hN, h, _ => ⟨hN, by simpa using h⟩
 | (p, u) :: r, tmps, Γ, N, hN, h, hl => by
  have hp : p < tmps.size := by rw [hN]; exact hl (p, u) jp
  have h1 := gT r (tmps.setIfInBounds p u) ((p, u) :: Γ) N (by simpa using hN) (fun t v ht => by
   simp only [get?] at ht
   cases hq : Nat.beq p t with
   | true =>
    rw [hq] at ht
    simp only [cond_true, Option.some.injEq] at ht
    subst ht
    rw [← zbh hq]
    simp [zx, hp]
   | false =>
    rw [hq] at ht
    simp only [cond_false] at ht
    have hne : p ≠ t := fun e => by subst e; rw [Nat.beq_refl] at hq; cases hq
    have := h t v ht
    rw [zx, Array.getElem?_setIfInBounds_ne hne, ← zx]
    exact this) (fun x hx => hl x (by simp [hx]))
  rw [List.foldl_cons]
  have e : ((p, u) :: r).reverse ++ Γ = r.reverse ++ (p, u) :: Γ := jp
  rw [e]
  exact h1
abbrev NC (w W : World) (B S : List Nat) : Prop := ∀ b ∈ S, b ∈ B ∨ (w.heap.size ≤ b ∧ ∀ o, W.heap[b]? = some o → o.isCells = false)
theorem Blk.nc {w W : World} {B S : List Nat} {g : Nat} {t : TypeId} {cs : Array Value} (hb : Blk W g t cs) (hS : NC w W B S) (hg : g ∉ B) : g ∉ S := fun h => by
 rcases hS g h with h1 | ⟨_, h1⟩
 · exact hg h1
 have := h1 _ hb
 cases this
theorem Own.nc {w W : World} {B S : List Nat} {e size n c : Nat} {A : Option Addr} {xs : List Value} (ho : Own W e size A n c xs) (hS : NC w W B S) (hg : ∀ x ∈ ob A, x ∉ B) : ∀ x ∈ ob A, x ∉ S := by
 rcases ho.cases with ⟨rfl, _⟩ | ⟨g, cur, rfl, hb, _⟩
 · simp [ob]
 intro x hx
 have hx2 := hg x hx
 simp only [ob, ze] at hx
 subst hx
 exact hb.nc hS hx2
theorem Frm.nc {w0 w W W' : World} {B S : List Nat} (h : Frm [] w0 W) (k : Frm S W W') (hS : NC w W B S) (hB : ∀ b ∈ B, w0.heap.size ≤ b) (hw : w0.heap.size ≤ w.heap.size) : Frm [] w0 W' := h.own k fun b hb => by
 rcases hS b hb with h1 | ⟨h1, _⟩
 · exact hB b h1
 omega
theorem DV.range {α : Type} {P : Program} {m : Nat} {ds : List Nat} {Γ : Env} {w : World} {Q : DQ} {g : Operand} {ps : List Tmp} {assign body : Code} {gf : FuncId} {lb : Array Value} {Kp : World → Prop} {xs : List α} {B Bt : List Nat} (encs : α → List Value)
  (hit : Iter P gf lb (fun x => (encs x).toArray) B Bt Kp xs) (hg : ev? Γ g = some (.func (.func gf) #[] lb)) (eg : ∀ args w, (callFunc gf args).run P w = .ok (.enter gf args) w) (hps : ∀ x, (encs x).length = ps.length) (hpm : (ps.all fun p => Nat.blt p m) = true)
  (I : List α → World → Prop) (Ix : Exit → List α → World → Prop) (ΓA : α → Env)
  (hI : ∀ pre W W' S, I pre W → Frm S W W' → NC w W B S → I pre W') (hIx : ∀ e pre W W' S, Ix e pre W → Frm S W W' → NC w W B S → Ix e pre W') (hK : ∀ W, Frm [] w W → Kp W) (hB : ∀ b ∈ B, b ∈ Bt) (hBt : ∀ b ∈ Bt, b < w.heap.size) (h0 : I [] w)
  (hassign : ∀ l x W, VC P ⟨m, [], some l⟩ assign ((ps.zip (encs x)).reverse ++ Γ) W (dV (fun Γ' W' => W' = W ∧ Sub Γ' (ΓA x)) (fun _ _ _ => False)))
  (hbody : ∀ l pre x W, I pre W → (pre ++ [x]) <+: xs → w.heap.size + 2 ≤ W.heap.size → cQ W w.heap.size → VC P ⟨m, [], some l⟩ body (ΓA x) W (vX Bt I Ix (pre ++ [x]) W))
  (hdone : ∀ W, I xs W → w.heap.size + 2 ≤ W.heap.size → cQ W w.heap.size → Q .normal (w.heap.size :: ds) Γ W)
  (hret : ∀ pre W, Ix .ret pre W → w.heap.size + 2 ≤ W.heap.size → cQ W w.heap.size → Q .ret (w.heap.size :: ds) Γ W)
  (hexit : ∀ id pre W, Ix (.exit id) pre W → w.heap.size + 2 ≤ W.heap.size → cQ W w.heap.size → Q (.exit id) (w.heap.size :: ds) Γ W) : DV P m (.rangeFunc g ps.toArray assign body) ds Γ w Q := by
 intro a hs k
 refine wpIn_rangeFunc ?_
 intro fn hfn
 obtain ⟨rec, hrec⟩ : ∃ rec : LoopState → Option Code → Loop, rec = fun st pe => { state := st, pending := pe, fn, tmps := a.tmps, params := ps.toArray, assign, body, defers := w.heap.size } := ⟨_, rfl⟩
 obtain ⟨W1, hW1⟩ : ∃ W1, (w.alloc (.deferred (some []))).alloc (.loop (rec .ready none)) = W1 := ⟨_, rfl⟩
 have hL1 : W1.heap[w.heap.size + 1]? = some (.loop (rec .ready none)) := by
  rw [← hW1]; have := World.alloc_heap_new (w.alloc (.deferred (some []))) (.loop (rec .ready none)); rwa [World.size_alloc] at this
 have hK1 : cQ W1 w.heap.size := by
  rw [← hW1]; exact (Below.heap_alloc _ _ _ jp).trans (World.alloc_heap_new w _)
 have hF1 : Frm [] w W1 := by rw [← hW1]; exact ((Frm.refl [] w).alloc _).alloc _
 have hI1 : I [] W1 := hI [] w W1 [] h0 hF1 (fun b hb => by cases hb)
 have hsz : ∀ W : World, ∀ r, W.heap[w.heap.size + 1]? = some (.loop r) → w.heap.size + 2 ≤ W.heap.size := fun W r h => by
  have := (Array.getElem?_eq_some_iff.1 h).1; omega
 have hnc : ∀ W r, W.heap[w.heap.size + 1]? = some (.loop r) → NC w W B [w.heap.size + 1] := fun W r h b hb => by
  simp only [ze] at hb
  subst hb
  refine .inr ⟨jo, fun o ho => by rw [h] at ho; cases ho; rfl⟩
 have hmk : ∀ (W : World) o, cQ W w.heap.size → cQ (W.putObj (w.heap.size + 1) o) w.heap.size := fun W o h => (World.putObj_heap_other jo).trans h
 refine ⟨w.heap.size + 1, [{ target := .collected w.heap.size, args := #[] }], W1, { target := .fn (.func gf) lb, args := #[.func (.yield (w.heap.size + 1)) #[] #[]] }, W1, gf,
  #[.func (.yield (w.heap.size + 1)) #[] #[]] ++ lb, W1, ?_, ?_, fun _ _ => trivial, ?_, fun h => by simp [wd, Fence.wide] at h, ?_⟩
 · rw [← hW1, hrec]; exact run_enterLoop_outer _ _ _ _ _
 ·
  have e1 : a.eval g = .func (.func gf) #[] lb := hs.fits _ _ hg
  simp only [resolve, e1]
  simp [go_sem]
 · simp [invoke, go_sem, eg]
 let J : List α → World → Prop := fun pre W => I pre W ∧ W.heap[w.heap.size + 1]? = some (.loop (rec .ready none)) ∧ cQ W w.heap.size
 let Jx : List α → World → Prop := fun pre W => ((Ix .ret pre W ∧ W.heap[w.heap.size + 1]? = some (.loop (rec .done (some .ret)))) ∨ ∃ id, Ix (.exit id) pre W ∧ W.heap[w.heap.size + 1]? = some (.loop (rec .done (some (.exit id))))) ∧ cQ W w.heap.size
 have keepL : ∀ {W W' : World} {r}, Frm B W W' → W.heap[w.heap.size + 1]? = some (.loop r) → W'.heap[w.heap.size + 1]? = some (.loop r) := fun hf h => (hf.block _ (Array.getElem?_eq_some_iff.1 h).1 (fun hx => by have := hBt _ (hB _ hx); omega)).trans h
 have keepM : ∀ {W W' : World}, Frm B W W' → cQ W w.heap.size → cQ W' w.heap.size := fun hf h => h.frm hf (fun hx => by have := hBt _ (hB _ hx); omega)
 refine eP.2 ((hit (w.heap.size + 1) J Jx W1 ?_ ?_ (hK _ hF1) ?_ ⟨hI1, hL1, hK1⟩).mono ?_)
 ·
  rintro pre W W' ⟨h1, h2, h3⟩ hf
  exact ⟨hI pre W W' B h1 hf (fun b hb => .inl hb), keepL hf h2, keepM hf h3⟩
 ·
  rintro pre W W' ⟨h1, h3⟩ hf
  refine ⟨?_, keepM hf h3⟩
  rcases h1 with ⟨h1, h2⟩ | ⟨id, h1, h2⟩
  · exact .inl ⟨hIx _ pre W W' B h1 hf (fun b hb => .inl hb), keepL hf h2⟩
  exact .inr ⟨id, hIx _ pre W W' B h1 hf (fun b hb => .inl hb), keepL hf h2⟩
 ·
  rintro pre x W ⟨hi, hl, hk⟩ hpre k'
  have hlt : w.heap.size + 1 < W.heap.size := (Array.getElem?_eq_some_iff.1 hl).1
  have hy := run_yield (P := P) (args := (encs x).toArray) hl (by rw [hrec]; simpa using hps x)
  rw [hrec] at hy
  refine ⟨fn, _, assign, body, hy, roundIn_of_wpIn hfn ?_⟩
  have hz : (ps.toArray.zip (encs x).toArray).foldl (fun tmps (t, a) => tmps.setIfInBounds t a) a.tmps = (ps.zip (encs x)).foldl (fun t (x : Nat × Value) => t.setIfInBounds x.1 x.2) a.tmps := by
   simp [List.zip_toArray]
  obtain ⟨hfs, hfg⟩ := gT (ps.zip (encs x)) a.tmps Γ m hs.size hs.at_ (fun y hy => by
   have h1 := (List.of_mem_zip hy).1
   have h2 := List.all_eq_true.1 hpm _ h1
   simpa [Nat.blt_eq] using h2)
  dsimp only
  rw [hz]
  refine wpIn_mono (hassign (w.heap.size + 1) x W { tmps := (ps.zip (encs x)).foldl (fun t (x : Nat × Value) => t.setIfInBounds x.1 x.2) a.tmps, defers := [] } ⟨hfs, rfl, hfg⟩ k') ?_
  rintro e a1 W' ⟨Γ1, hs1, hq1⟩
  cases e with
  | normal =>
   obtain ⟨rfl, hsub⟩ := hq1
   have hl2 : (W'.putObj (w.heap.size + 1) (.loop { rec .ready none with state := .busy })).heap[w.heap.size + 1]? = some (.loop { rec .ready none with state := .busy }) := World.putObj_heap_same hlt
   have hf2 := Frm.putObj W' (w.heap.size + 1) (.loop { rec .ready none with state := .busy })
   have hi2 := hI pre _ _ _ hi hf2 (hnc _ _ hl)
   refine ⟨_, run_beginRound hl (by rw [hrec]), ?_⟩
   refine wpIn_mono (hbody (w.heap.size + 1) pre x _ hi2 hpre (hsz _ _ hl2) (hmk _ _ hk) a1 (hs1.sub hsub) k') ?_
   have fin : ∀ (jump : Option Code) (W3 : World), KeepsOthers (W'.putObj (w.heap.size + 1) (.loop { rec .ready none with state := .busy })) W3 →
     (Instr.endRound (w.heap.size + 1) jump).run P W3 = .ok (.bool jump.isNone) (W3.putObj (w.heap.size + 1) (.loop (rec (if jump.isNone then .ready else .done) jump))) ∧
     W3.heap[w.heap.size + 1]? = some (.loop { rec .ready none with state := .busy }) ∧
     (W3.putObj (w.heap.size + 1) (.loop (rec (if jump.isNone then .ready else .done) jump))).heap[w.heap.size + 1]? = some (.loop (rec (if jump.isNone then .ready else .done) jump)) ∧
     cQ (W3.putObj (w.heap.size + 1) (.loop (rec (if jump.isNone then .ready else .done) jump))) w.heap.size := fun jump W3 hk3 => by
    have hl3 := hk3.same _ _ hl2 rfl
    have := run_endRound (P := P) jump hl3
    rw [hrec] at this ⊢
    exact ⟨this, by rw [hrec] at hl3; exact hl3, World.putObj_heap_same (Array.getElem?_eq_some_iff.1 hl3).1, hmk _ _ (hk3.same _ _ (hmk _ _ hk) rfl)⟩
   have offs : ∀ {W3 : World} {o : Obj}, fW Bt (W'.putObj (w.heap.size + 1) (.loop { rec .ready none with state := .busy })) W3 → Off Bt W' (W3.putObj (w.heap.size + 1) o) := fun {W3 o} hw => by
    obtain ⟨C, hf, hC⟩ := hw.off
    refine ⟨(w.heap.size + 1) :: C, ((hf2.mono (T := (w.heap.size + 1) :: C) jp).trans hf (fun x hx => .inl (by simp [hx]))).trans (Frm.putObj W3 _ o) jp, fun b hb hx => ?_⟩
    rcases zak.1 hx with rfl | hx
    · have := hBt _ hb; omega
    exact hC b hb hx
   rintro e a3 W3 ⟨Γ3, _, hp⟩
   cases e with
   | normal =>
    obtain ⟨hk3, hi3⟩ := hp
    obtain ⟨hr, hl3, hl4, hk4⟩ := fin none W3 hk3.others
    exact ⟨_, _, hr, offs hk3, .inl ⟨rfl, hI _ _ _ _ hi3 (Frm.putObj W3 _ _) (hnc _ _ hl3), hl4, hk4⟩⟩
   | ret =>
    obtain ⟨hk3, hi3⟩ := hp
    obtain ⟨hr, hl3, hl4, hk4⟩ := fin (some .ret) W3 hk3.others
    exact ⟨_, _, hr, offs hk3, .inr ⟨rfl, .inl ⟨hIx _ _ _ _ _ hi3 (Frm.putObj W3 _ _) (hnc _ _ hl3), hl4⟩, hk4⟩⟩
   | exit id =>
    obtain ⟨hk3, hi3⟩ := hp
    obtain ⟨hr, hl3, hl4, hk4⟩ := fin (some (.exit id)) W3 hk3.others
    exact ⟨_, _, hr, offs hk3, .inr ⟨rfl, .inr ⟨id, hIx _ _ _ _ _ hi3 (Frm.putObj W3 _ _) (hnc _ _ hl3), hl4⟩, hk4⟩⟩
   | goto t => exact hp.elim
   | panic ch => exact hp.elim
   | outgrown => exact hp.elim
  | exit id => exact hq1.elim
  | goto t => exact hq1.elim
  | ret => exact hq1.elim
  | panic ch => exact hq1.elim
  | outgrown => exact hq1.elim
 have hs' : Sat ⟨m, kW (w.heap.size :: ds), none⟩ Γ { a with defers := [{ target := .collected w.heap.size, args := #[] }] ++ a.defers } := ⟨hs.size, by show [_] ++ a.defers = _; rw [hs.defers]; rfl, hs.at_⟩
 rintro e W2 ⟨⟨v, rfl⟩, (⟨hi, hl, hk⟩ | ⟨pre, h1, hk⟩)⟩
 ·
  have hend := run_endLoop (P := P) hl (by rw [hrec]; simp)
  refine ⟨none, _, by rw [hend, hrec], ?_⟩
  exact ⟨_, Γ, hs', hdone _ (hI _ _ _ _ hi (Frm.putObj _ _ _) (hnc _ _ hl)) (zq (hsz _ _ hl) (Frm.putObj _ _ _).size) (hmk _ _ hk)⟩
 rcases h1 with ⟨hi, hl⟩ | ⟨id, hi, hl⟩
 ·
  have hend := run_endLoop (P := P) hl (by rw [hrec]; simp)
  refine ⟨some .ret, _, by rw [hend, hrec], ?_⟩
  exact wpIn_ret (Q := oP m Q) ⟨_, Γ, hs', hret _ _ (hIx _ _ _ _ _ hi (Frm.putObj _ _ _) (hnc _ _ hl)) (zq (hsz _ _ hl) (Frm.putObj _ _ _).size) (hmk _ _ hk)⟩
 have hend := run_endLoop (P := P) hl (by rw [hrec]; simp)
 refine ⟨some (.exit id), _, by rw [hend, hrec], ?_⟩
 exact wpIn_exit (Q := oP m Q) ⟨_, Γ, hs', hexit _ _ _ (hIx _ _ _ _ _ hi (Frm.putObj _ _ _) (hnc _ _ hl)) (zq (hsz _ _ hl) (Frm.putObj _ _ _).size) (hmk _ _ hk)⟩
end
section
open Go.RowKit Go.Sort
abbrev Tx := List UInt8
def SB (ss : List Tx) : List Value := ss.map encStr
theorem pI (ss : List Tx) : ∀ u ∈ SB ss, u.oneCell' = true := by
 intro u hu
 obtain ⟨b, _, rfl⟩ := List.mem_map.1 hu
 rfl
theorem lY (a b : List Tx) : SB (a ++ b) = SB a ++ SB b := by simp [SB]
theorem vT {w : World} {A : Option Addr} {ss : List Tx} {k : Nat} (h : Rd w 1 A ss.length (SB ss)) (hk : k < ss.length) : ∃ ad, A = some ad ∧ w.cell? (ad.add k) = some (encStr ss[k]) := by
 obtain ⟨ad, u, hA, hu, hc⟩ := h.at1 hk
 refine ⟨ad, hA, ?_⟩
 rw [hc, ← hu]
 simp [SB, zb hk]
end
section
open Go.RowKit Go.ChangeShapes Go.WideShapes Go.Deep
section
variable {H : Type} {enc : TypeId × Value → H} {P : Program} {w : World} {base : Nat} {spare : Nat → Bool} {held : Bool} {n : Nat} {cs : List Value} {x : DataW H × List MemPlace} {t e : TypeId}
theorem sD (ht : P.underlying t = some .string) (h : DataW.trod enc P w base spare held n t cs = some x) : ∃ q : Tx, cs = [encStr q] ∧ q.length ≤ 9223372036854775807 := by
 obtain ⟨s, h1, _, h2⟩ := DataW.trod_string ht h
 exact ⟨s.data.toList, h1, by simpa [maxLen] using h2⟩
theorem oS (ht : P.underlying t = some (.slice e)) (h : DataW.trod enc P w base spare held n t cs = some x) : ∃ A l c, cs = [.slice A l c] := by
 rcases open_slice ht h with ⟨hcs, _⟩ | ⟨ad, l, c, _, _, _, _, hcs, _⟩
 · exact ⟨_, _, _, hcs⟩
 exact ⟨_, _, _, hcs⟩
theorem pL (ht : P.underlying t = some (.slice e)) (he : P.underlying e = some (.int .i64)) (hc : P.cellsOf e = 1) (h : DataW.trod enc P w base spare held n t cs = some x) :
  ∃ A c, ∃ l : List Int, cs = [.slice A l.length c] ∧ l.length ≤ c ∧ c ≤ 9223372036854775807 ∧ Rd w 1 A l.length (IB l) := by
 obtain ⟨A, len, c, rfl⟩ := oS ht h
 obtain ⟨l, rfl, h1, h2, h3, _⟩ := uJ ht he hc h
 exact ⟨A, c, l, rfl, h1, h2, h3⟩
end
end
section
open Go.RowKit
abbrev Tk := Int × Tx
def tk0 : Tk := (0, [])
def tkC (x : Tk) : List Value := [.int .i64 x.1, encStr x.2]
theorem uV (x : Tk) : (tkC x).length = 2 := rfl
theorem dL (x : Tk) : ∀ u ∈ tkC x, u.oneCell' = true := by
 intro u hu
 simp only [tkC, zak, zax, or_false] at hu
 rcases hu with rfl | rfl <;> rfl
structure RdT (w : World) (A : Option Addr) (n : Nat) (l : List Tk) : Prop where
 len : l.length = n
 rd : Rd w 2 A n (l.flatMap tkC)
theorem RdT.frm {w w' : World} {S : List Nat} {A : Option Addr} {n : Nat} {l : List Tk} (h : RdT w A n l) (k : Frm S w w') (hS : 0 < n → ∀ x ∈ ob A, x ∉ S) : RdT w' A n l := ⟨h.len, h.rd.frm k hS⟩
theorem RdT.cell {w : World} {A : Option Addr} {n : Nat} {l : List Tk} (h : RdT w A n l) {k : Nat} (hk : k < n) : ∃ ad, A = some ad ∧ ∀ W, Frm [] w W → ∀ j v, (tkC (l.getD k tk0))[j]? = some v → W.cell? ((ad.add (k * 2)).add j) = some v := by
 have key : ∀ W, Frm [] w W → ∃ ad, A = some ad ∧ ∀ j v, (tkC (l.getD k tk0))[j]? = some v → W.cell? ((ad.add (k * 2)).add j) = some v := fun W hW => by
  have h1 := h.rd.frm hW jp
  rw [← h.len] at h1 hk
  obtain ⟨ad, h2, hc⟩ := h1.elem hk
  refine ⟨ad, h2, fun j v hj => hc j v ?_⟩
  rw [hU tkC 2 uV l k hk]
  rw [zo, zb hk] at hj
  exact hj
 obtain ⟨ad, h1, _⟩ := key w (Frm.refl _ _)
 refine ⟨ad, h1, fun W hW => ?_⟩
 obtain ⟨a2, h2, h3⟩ := key W hW
 rw [h1] at h2
 cases h2
 exact h3
theorem oT {w : World} {A : Option Addr} {n : Nat} {l : List Int} (h : Rd w 1 A n (IB l)) (hn : l.length = n) {k : Nat} (hk : k < n) : ∃ ad, A = some ad ∧ w.cell? (ad.add k) = some (.int .i64 (l.getD k 0)) := by
 obtain ⟨ad, h1, _, hc⟩ := h.2 jo
 exact ⟨ad, h1, hc k _ (by simp [IB, zo, zb (jo : k < l.length)])⟩
def dG : List PanicEntry := [{ v := .iface 89 (.agg #[]), recovered := false }]
structure IsCp (w : World) (gp gc : Nat) (A : Option Addr) (n c : Nat) (tk : List Tk) (q : Nat) (cs : Array Value) : Prop where
 p : Blk w gp 64 #[.slice A n c, jI1 q, jI0 gc]
 k : Blk w gc 34 cs
 sz : cs.size = 20
 tk : RdT w A n tk
 le : q ≤ n
 big : n ≤ 100000
 off : 0 < n → ∀ x ∈ ob A, x ≠ gp ∧ x ≠ gc
section
variable {w w' : World} {gp gc : Nat} {A : Option Addr} {n c : Nat} {tk : List Tk} {q q' : Nat} {cs cs' : Array Value}
theorem IsCp.ne (h : IsCp w gp gc A n c tk q cs) : gp ≠ gc := h.p.ne h.k jd
theorem IsCp.frm (h : IsCp w gp gc A n c tk q cs) (k : Frm [] w w') : IsCp w' gp gc A n c tk q cs := ⟨h.p.frm k jp, h.k.frm k jp, h.sz, h.tk.frm k jp, h.le, h.big, h.off⟩
theorem IsCp.lt (h : IsCp w gp gc A n c tk q cs) : gp < w.heap.size ∧ gc < w.heap.size := ⟨h.p.lt, h.k.lt⟩
theorem IsCp.step (h : IsCp w gp gc A n c tk q cs) (hb : Blk w' gp 64 #[.slice A n c, jI1 q', jI0 gc]) (k : Frm [gp] w w') (hl : q' ≤ n) : IsCp w' gp gc A n c tk q' cs :=
 ⟨hb, h.k.frm k (by simp; exact fun e => h.ne e.symm), h.sz, h.tk.frm k (fun h0 x hx e => (h.off h0 x hx).1 (by simpa using e)), hl, h.big, h.off⟩
theorem IsCp.turn (h : IsCp w gp gc A n c tk q cs) (hb : Blk w' gc 34 cs') (hs : cs'.size = 20) (k : Frm [gc] w w') : IsCp w' gp gc A n c tk q cs' :=
 ⟨h.p.frm k (by simp; exact h.ne), hb, hs, h.tk.frm k (fun h0 x hx e => (h.off h0 x hx).2 (by simpa using e)), h.le, h.big, h.off⟩
end
def IsT (tk : List Tk) (k : Nat) (kind : Int) : Prop := k < tk.length ∧ (tk.getD k tk0).1 = kind
instance (tk : List Tk) (k : Nat) (kind : Int) : Decidable (IsT tk k kind) := by unfold IsT; infer_instance
def qL (tk : List Tk) (q : Nat) (ks : List Int) : Option Tx := if q < tk.length ∧ (tk.getD q tk0).1 ∈ ks then some (tk.getD q tk0).2 else none
theorem eB {tk : List Tk} {q N : Nat} {ks : List Int} {s : Tx} (h : qL tk q ks = some s) (hl : ∀ x ∈ tk, x.2.length ≤ N) : s.length ≤ N := by
 unfold qL at h
 split at h
 ·
  next hc =>
  injection h with h
  rw [← h, zo, zb hc.1]
  exact hl _ (zaq _)
 cases h
theorem bH (b : Bool) (w : World) : Calls Tryz.prog 20 #[.bool b] w fun e w' => w = w' ∧ e = if b = true then .returned (.tuple #[]) else .panicked dG := by
 refine jV Tryz.func20 Tryz.ntmps20 Tryz.results20 ?_
 refine jS (jR (jm rfl (je (Run.not rfl) (jO (jN (jv1 3 ?_))))))
 refine VC.condB rfl (fun hc1 => ?_) (fun hc1 => ?_)
 ·
  refine jR (je (Run.build evs.nil pF (fF).choose_spec.1 (fF).choose_spec.2 rfl) (je (Run.mkIface rfl Tryz.underlying89 rfl) ?_))
  refine Ops.pn rfl (bX ?_)
  exact ⟨rfl, by cases b <;> simp at hc1 ⊢; rfl⟩
 refine jQ ?_
 refine dB ?_
 exact ⟨rfl, by cases b <;> simp at hc1 ⊢⟩
theorem jP (k : Nat) (kind : Int) (gp gc : Nat) (A : Option Addr) (n c : Nat) (tk : List Tk) (q : Nat) (cs : Array Value) (w : World) (hP : IsCp w gp gc A n c tk q cs) (hk : k ≤ 10) : Calls Tryz.prog 61 #[jI0 gp, jI1 k, .int .i64 kind] w fun e w' => Frm [] w w' ∧ e = .returned (.bool (decide (IsT tk (q + k) kind))) := by
 have hb := hP.p
 have hle := hP.le
 have hbig := hP.big
 have hln := hP.tk.len
 have hit : IsT tk (q + k) kind ↔ (q + k < n ∧ (tk.getD (q + k) tk0).1 = kind) := by unfold IsT; rw [hln]
 refine jV Tryz.func61 Tryz.ntmps61 Tryz.results61 ?_
 refine jS (jR (ja rfl (jO (jN (jv3 0 1 2 ?_)))))
 refine jS ?_
 refine VC.splitR [] (qF w) 6 (.bool (decide (IsT tk (q + k) kind))) ?_ ?_
 ·
  refine VC.still jK jK ?_
  refine qM ?_
  refine qE (Run.nilck rfl) ?_
  refine qE (Run.fieldAddr rfl zn rfl zc jd) ?_
  refine qE (Run.load rfl zl ((hb.drawn (qF.drew _)).cell 1)) ?_
  refine qM ?_
  refine qE (Run.bin rfl rfl (Bin.add_i64 _ _ jo)) ?_
  refine qM ?_
  refine qE (Run.nilck rfl) ?_
  refine qE (Run.fieldAddr rfl zn rfl Tryz.sizeOf23 jd) ?_
  refine qE (Run.load rfl zbp ((hb.drawn (qF.drew _)).cell 0)) ?_
  refine qE (Run.lenS rfl zab) ?_
  refine qE (Run.bin rfl rfl (Bin.lssN _ _)) ?_
  by_cases hs18 : q + k < n
  ·
   obtain ⟨ad, hA, hel⟩ := hP.tk.cell hs18
   subst hA
   refine qM ?_
   refine qG (Run.mv rfl) ?_
   refine qG (Run.nilck rfl) ?_
   refine qG (Run.fieldAddr rfl zn rfl Tryz.sizeOf23 jd) ?_
   refine qG (Run.load rfl zbp ((hb.drawn (qF.drew _)).cell 0)) ?_
   refine qG (Run.mv rfl) ?_
   refine qG (Run.nilck rfl) ?_
   refine qG (Run.fieldAddr rfl zn rfl zc jd) ?_
   refine qG (Run.load rfl zl ((hb.drawn (qF.drew _)).cell 1)) ?_
   refine qG (Run.mv rfl) ?_
   refine qG (Run.bin rfl rfl (Bin.add_i64 _ _ jo)) ?_
   refine qG (Run.indexS _ rfl rfl zab zw jo) ?_
   refine qG (Run.fieldAddr rfl zaz rfl zc jd) ?_
   refine qG (Run.load rfl zl (hel _ (qF.drew _).frm 0 _ rfl)) ?_
   refine qG (Run.mv rfl) ?_
   refine qG (Run.bin rfl rfl (Bin.eql _ _)) ?_
   by_cases hs34 : (tk.getD (q + k) tk0).1 = kind
   ·
    refine qE (Run.pickT rfl rfl au) ?_
    refine qA ?_
    refine qC.nil ?_
    refine jN ⟨(js1 (jC (by simp only [hit]; grind))), (qF.drew _)⟩
   refine qE (Run.pickT rfl rfl au) ?_
   refine qA ?_
   refine qC.nil ?_
   refine jN ⟨(js1 (jC (by simp only [hit]; grind))), (qF.drew _)⟩
  refine qM ?_
  refine qU ?_
  refine qU ?_
  refine qU ?_
  refine qU ?_
  refine qU ?_
  refine qU ?_
  refine qU ?_
  refine qU ?_
  refine qU ?_
  refine qU ?_
  refine qU ?_
  refine qU ?_
  refine qU ?_
  refine qU ?_
  refine qU ?_
  refine qE (Run.pickF rfl rfl au) ?_
  refine qA ?_
  refine qC.nil ?_
  refine jN ⟨(js1 (jC (by simp only [hit]; grind))), (qF.drew _)⟩
 intro Γ w9 hΓ hd9
 refine jN (VC.sub _ hΓ ?_)
 refine jT ?_
 refine qP rfl ?_
 exact ⟨hd9.frm, rfl⟩
theorem cI (K : Option Addr) (m ck : Nat) (ks : List Int) (gp gc : Nat) (A : Option Addr) (n c : Nat) (tk : List Tk) (q : Nat) (cs : Array Value) (w : World) (hP : IsCp w gp gc A n c tk q cs) (hm : ks.length = m) (hmb : m ≤ 10) (hK : Rd w 1 K m (IB ks)) (hKo : 0 < m → ∀ x ∈ ob K, x ≠ gp) :
  Calls Tryz.prog 31 #[jI0 gp, .slice K m ck] w fun e w' => Frm [gp] w w' ∧ match qL tk q ks with
   | none => e = .panicked dG
   | some s => e = .returned (encStr s) ∧ IsCp w' gp gc A n c tk (q + 1) cs := by
 have hle := hP.le
 have hbig := hP.big
 have hln := hP.tk.len
 have hPl := hP.lt
 refine jV Tryz.func31 Tryz.ntmps31 Tryz.results31 ?_
 refine jS (jR (ja rfl (jO (jN (jS (jS (jR (jm rfl (jL rfl zi ?_)))))))))
 refine jx .i64 0 ?_
 refine jO (jN (jv5 0 4 7 8 9 ?_))
 refine jB ?_
 refine VC.loop (σ := Nat) (fun s => [(0, jI0 gp), (4, _), (7, .slice K m ck), (8, jI1 m), (9, jI1 s)]) (fun s wr => s ≤ m ∧ Frm [] w wr ∧ ∀ j, j < s → ¬ IsT tk q (ks.getD j 0)) (fun s => m - s) 0 (js5 rfl rfl rfl rfl rfl) ⟨zau _, Frm.refl _ _, fun j hj => absurd hj jo⟩ ?_
 rintro i wr ⟨hi, K0, hno⟩
 have hPr := hP.frm K0
 refine jS (jR (jb rfl rfl (Bin.lssN _ _) (jO (jN (jS ?_)))))
 refine jD rfl (fun hc1 => ?_) fun hc1 => ?_
 ·
  obtain ⟨ad, hKe, hel⟩ := oT (hK.frm K0 jp) hm hc1
  subst hKe
  refine jQ (jN (jv5 0 4 7 8 9 ?_))
  refine jS (jB (jS (jR (je (Run.index1 _ rfl rfl zi zc jo) (jl rfl zl hel (ja rfl (jO (jN (jv6 0 4 6 7 8 9 ?_)))))))))
  refine jS (jR (jm rfl (jM ?_)))
  refine jc (jE3 Tryz.call61) (jP 0 (ks.getD i 0) gp gc A n c tk q cs wr hPr jo) ?_
  rintro e w1 ⟨hf1, rfl⟩
  refine ⟨_, rfl, ?_⟩
  have hP1 := hPr.frm hf1
  have K1 := K0.trans hf1 jp
  refine jO (jN (jv6 0 4 7 8 9 15 ?_))
  refine VC.condB rfl (fun hc2 => ?_) (fun hc2 => ?_)
  ·
   have hit : IsT tk q (ks.getD i 0) := of_decide_eq_true hc2
   obtain ⟨hql, hqk⟩ := hit
   rw [hln] at hql
   have htm : qL tk q ks = some (tk.getD q tk0).2 := if_pos ⟨jo, by rw [hqk, zo, zb (jo : i < ks.length)]; exact zaq _⟩
   rw [htm]
   have hAo := hP1.off jo
   refine jS (jR (jm rfl (jZ rfl (jf rfl zn rfl zc (jl rfl zl (hP1.p.cell 1) (jb rfl rfl (Bin.add_i64 _ 1 jo) (jZ rfl (jf rfl zn rfl zc ?_))))))))
   refine Ops.st (qZ.store rfl rfl zc hP1.p rfl rfl) ?_
   rintro w2 ⟨hb2, hf2, hs2⟩
   have hf2 : Frm [gp] w1 w2 := hf2
   have hP2 : IsCp w2 gp gc A n c tk (q + 1) cs := hP1.step hb2 hf2 jo
   obtain ⟨ad2, hA, hel2⟩ := hP2.tk.cell hql
   refine jO (jN (jv1 0 ?_))
   refine jS ?_
   refine VC.still jK jK ?_
   refine qM ?_
   refine qE (Run.nilck rfl) ?_
   refine qE (Run.fieldAddr rfl zn rfl Tryz.sizeOf23 jd) ?_
   refine qE (Run.load rfl zbp ((hP2.p.drawn (qF.drew _)).cell 0)) ?_
   rw [hA]
   refine qM ?_
   refine qE (Run.nilck rfl) ?_
   refine qE (Run.fieldAddr rfl zn rfl zc jd) ?_
   refine qE (Run.load rfl zl ((hP2.p.drawn (qF.drew _)).cell 1)) ?_
   refine qE (Run.bin rfl rfl (Bin.sub_i64 _ 1 jo jo)) ?_
   refine qE (Run.indexS _ rfl rfl zab zw jo) ?_
   refine qE (Run.fieldAddr rfl zaz rfl zd jd) ?_
   refine qE (Run.load rfl zh (hel2 _ (qF.drew _).frm 1 _ rfl)) ?_
   refine qA ?_
   refine qC.nil ?_
   refine jN (jv1 4 ?_)
   refine jT ?_
   refine qR (qQ (qQ (qR (qQ (qP rfl ?_)))))
   exact ⟨(K1.mono (T := [gp]) jp).trans (hf2.trans (qF.drew _).frm jp) (fun x hx => .inl hx), rfl, by rw [← hA]; exact hP2.frm (qF.drew _).frm⟩
  refine jQ ?_
  refine qW (jN ?_)
  refine jv5 0 4 7 8 9 ?_
  refine jR (jb rfl rfl (Bin.add_i64 _ 1 jo) (jm rfl (jO ?_)))
  refine jN ⟨i + 1, (js5 rfl rfl rfl rfl rfl), ?_, ?_⟩
  ·
   exact ⟨hc1, K1, fun j hj => by
    rcases Nat.lt_or_ge j i with h | h
    · exact hno j h
    have e : j = i := jo
    subst e
    exact of_decide_eq_false hc2⟩
  exact jq
 have htm : qL tk q ks = none := if_neg (fun h => by
  obtain ⟨k, hk, he⟩ := zcu h.2
  refine hno k jo ⟨h.1, ?_⟩
  rw [zo (l := ks), zb hk]
  exact he.symm)
 rw [htm]
 refine jX ?_
 refine qK (qK (qS ?_))
 refine jN (jv1 4 ?_)
 refine jR (je (Run.build evs.nil pF (fF).choose_spec.1 (fF).choose_spec.2 rfl) (je (Run.mkIface rfl Tryz.underlying89 rfl) ?_))
 refine Ops.pn rfl (bX ?_)
 exact ⟨K0.mono jp, rfl⟩
def gre (c : UInt8) : UInt8 := if 97 ≤ c.toNat ∧ c.toNat ≤ 122 then c - 32 else c
theorem gF (c : UInt8) : (gre c).toNat = if 97 ≤ c.toNat ∧ c.toNat ≤ 122 then c.toNat - 32 else c.toNat := by
 unfold gre
 split
 ·
  rename_i h
  have h32 : (32 : UInt8).toNat = 32 := rfl
  rw [UInt8.toNat_sub_of_le _ _ (by rw [UInt8.le_iff_toNat_le]; omega), h32]
 rfl
def qH (s : Tx) : Tx := s.map gre
theorem dH (s : Tx) : (qH s).length = s.length := by simp [qH]
theorem pO {n i : Nat} {cs : Array Value} {l : List UInt8} {c : UInt8} (h : cs.toList.take n = U8 l) (hl : l.length = n) (hi : i < n) : (cs.setIfInBounds i (.int .u8 ((c.toNat : Nat) : Int))).toList.take n = U8 (l.set i c) := by
 rw [zcs, List.take_set, h]
 simp [U8, List.map_set]
theorem jE {s : Tx} {i : Nat} (h : i < s.length) : ((s.take i).map gre ++ s.drop i).set i (gre s[i]) = (s.take (i + 1)).map gre ++ s.drop (i + 1) := by
 have e1 : ((s.take i).map gre).length = i := by simp; omega
 rw [List.set_append_right _ _ jo, e1, Nat.sub_self, zby h, List.set_cons_zero]
 have e2 : s.take (i + 1) = s.take i ++ [s[i]] := by rw [zba, zb h]; rfl
 rw [e2]
 simp only [zcw, zcq, List.map_nil, List.append_assoc, List.cons_append, List.nil_append]
theorem mJ {s : Tx} {i : Nat} (h : i < s.length) (hl : gre s[i] = s[i]) : (s.take i).map gre ++ s.drop i = (s.take (i + 1)).map gre ++ s.drop (i + 1) := by
 rw [← jE h, hl]
 apply List.ext_getElem?
 intro j
 by_cases hj : j = i
 ·
  subst hj
  have e1 : ((s.take j).map gre).length = j := by simp; omega
  rw [List.getElem?_set_self (by simp; omega), zbe jo, e1, Nat.sub_self, zby h]
  rfl
 rw [List.getElem?_set_ne (Ne.symm hj)]
theorem kG (q : Tx) (w : World) (hq : q.length ≤ 1000000) : Calls Tryz.prog 149 #[encStr q] w fun e w' => e = .returned (encStr (qH q)) ∧ Frm [] w w' := by
 refine jV Tryz.func149 Tryz.ntmps149 Tryz.results149 ?_
 refine jS (jR (ja rfl (jO (jN (jv1 0 ?_)))))
 refine jS (jR (jM ?_))
 refine Ops.m (qV.bytesOfT rfl za zy zag) rfl ?_
 rintro _ w1 ⟨c1, cs1, rfl, hF1, ht1, hf1⟩
 have hge : w.heap.size ≤ w.heap.size := zai _
 generalize hg : w.heap.size = g1 at hF1 hge ⊢
 refine ja rfl (jO (jN (jv1 3 ?_)))
 refine jS (jS (jR (jm rfl (jL rfl zy ?_))))
 refine jx .i64 0 ?_
 refine jO (jN (jB ?_))
 refine VC.loop (σ := Nat) (fun s => [(3, .slice (some ⟨g1, 0, none⟩) q.length c1), (8, .slice (some ⟨g1, 0, none⟩) q.length c1), (9, jI1 q.length), (10, jI1 s)]) (fun s wr => s ≤ q.length ∧ Frm [] w wr ∧ ∃ cs, Fro wr g1 5 cs ∧ cs.toList.take q.length = U8 ((q.take s).map gre ++ q.drop s)) (fun s => q.length - s) 0 (js4 rfl rfl rfl rfl) ⟨jo, hf1, cs1, hF1, by simpa using ht1⟩ ?_
 rintro i wr ⟨hi, hfr, cs, hF, ht⟩
 refine jS (jR (jb rfl rfl (Bin.lssN _ _) (jO (jN (jS ?_)))))
 refine jD rfl (fun hc1 => ?_) fun hc1 => ?_
 ·
  have hrd : Rd wr 1 (some ⟨g1, 0, none⟩) q.length (U8 ((q.take i).map gre ++ q.drop i)) := by
   have h := hF.rd (l := (q.take i).map gre ++ q.drop i) (by simpa [zch hi, zcv hi] using ht)
   simpa [zch hi, zcv hi] using h
  have hcell : wr.cell? ((⟨g1, 0, none⟩ : Addr).add (i * 1)) = some (.int .u8 ((q[i].toNat : Nat) : Int)) := by
   rw [zct]
   obtain ⟨ad, u, hA, hu, hc⟩ := hrd.at1 hc1
   cases hA
   rw [hc, ← hu]
   simp [U8, zbe, zch hi, zb, hc1]
  have hll : ((q.take i).map gre ++ q.drop i).length = q.length := by simp; omega
  have hsz : i < cs.size := by
   have := congrArg List.length ht
   simp [U8] at this
   omega
  refine jQ (jN (jv4 3 8 9 10 ?_))
  refine jS (jB (jS (jR (jm rfl (je (Run.indexS i rfl rfl zy zam hc1) (jl rfl zbk hcell (ja rfl (ja rfl (jO (jN (jv6 3 4 5 8 9 10 ?_)))))))))))
  refine jS ?_
  refine VC.split1 [(3, _), (4, _), (5, _), (8, _), (9, _), (10, _)] (js6 rfl rfl rfl rfl rfl rfl) 20 (.bool (decide ((97 ≤ q[i].toNat) ∧ (q[i].toNat ≤ 122)))) ?_ ?_
  ·
   by_cases hs0 : 97 ≤ q[i].toNat
   ·
    refine jR (jm rfl (jb rfl rfl (Bin.geqN _ 97) (jM ?_)))
    refine jG ?_
    refine jk (Run.bin rfl rfl (Bin.leqN _ 122)) ?_
    refine jW rfl rfl au (jO ?_)
    refine jN ⟨(js7 (by rw [tI hs0]; rfl) rfl rfl rfl rfl rfl rfl), rfl⟩
   refine jR (jm rfl (jb rfl rfl (Bin.geqN _ 97) (jM ?_)))
   refine jU ?_
   refine jU ?_
   refine jF rfl rfl au (jO ?_)
   refine jN ⟨(js7 (by rw [tL hs0]; rfl) rfl rfl rfl rfl rfl rfl), rfl⟩
  intro Γ hΓ
  refine jN (VC.sub _ hΓ ?_)
  refine VC.meet (σ := Unit) (fun s => [(3, .slice (some ⟨g1, 0, none⟩) q.length c1), (8, .slice (some ⟨g1, 0, none⟩) q.length c1), (9, jI1 q.length), (10, jI1 i)]) (fun s wm => Frm [] w wm ∧ ∃ cs, Fro wm g1 5 cs ∧ cs.toList.take q.length = U8 ((q.take (i + 1)).map gre ++ q.drop (i + 1))) ?_ ?_
  ·
   refine jD rfl (fun hc2 => ?_) fun hc2 => ?_
   ·
    refine jR (jm rfl (jm rfl (jm rfl (jb rfl rfl (Bin.sub_u8 _ 32 jo jo) ?_))))
    rw [show (q[i].toNat - 32 : Nat) = (gre q[i]).toNat by rw [gF, if_pos hc2]]
    refine je (Run.indexS i rfl rfl zy zam hc1) ?_
    rw [show (⟨g1, 0, none⟩ : Addr).add (i * 1) = ⟨g1, i, none⟩ by unfold Addr.add; rw [zct]; split <;> simp_all]
    refine Ops.st (qZ.storeFro rfl rfl zam hF hsz rfl) ?_
    rintro w2 ⟨hF2, hf2, hs2⟩
    refine jO ?_
    refine jN ⟨(), (js4 rfl rfl rfl rfl), ?_⟩
    exact ⟨hfr.own hf2 (fun x hx => by simp at hx; omega), _, hF2, by rw [pO ht hll hc1, jE hc1]⟩
   refine jQ ?_
   refine jN ⟨(), (js4 rfl rfl rfl rfl), ?_⟩
   exact ⟨hfr, cs, hF, by rw [ht, mJ hc1 (UInt8.toNat_inj.1 (by rw [gF, if_neg hc2]))]⟩
  rintro _ wm ⟨hfr2, cs2, hF2, ht2⟩ Γ hΓ
  refine qW (jN (VC.sub _ hΓ ?_))
  refine jR (jb rfl rfl (Bin.add_i64 _ 1 jo) (jm rfl (jO ?_)))
  refine jN ⟨(i + 1), (js4 rfl rfl rfl rfl), ?_, ?_⟩
  · exact ⟨hc1, hfr2, cs2, hF2, ht2⟩
  exact jq
 refine jX ?_
 refine qK (qK (qS ?_))
 refine jN (jv1 3 ?_)
 refine jS (jR (jM ?_))
 have hR : Rd wr 1 (some ⟨g1, 0, none⟩) q.length (U8 (qH q)) := by
  have him : i = q.length := jo
  subst him
  have h := hF.rd (l := qH q) (by rw [dH, ht]; simp [qH])
  rwa [dH] at h
 refine je (Run.strOfT rfl zy zag za hR) (ja rfl (jO (jN (jv1 2 ?_))))
 refine jT ?_
 refine qP rfl ?_
 exact ⟨rfl, hfr⟩
theorem eJ (q : Tx) (w : World) (hq : q.length ≤ 1000000) : Calls Tryz.prog 30 #[encStr q] w fun e w' => e = .returned (encStr (qH q)) ∧ Frm [] w w' := by
 refine jV Tryz.func30 Tryz.ntmps30 Tryz.results30 ?_
 refine jS (jR (ja rfl (jO (jN (jv1 0 ?_)))))
 refine jS (jR (jM ?_))
 refine Ops.m (qV.bytesOfT rfl za zy zag) rfl ?_
 rintro _ w1 ⟨c1, cs1, rfl, hF1, ht1, hf1⟩
 have hge : w.heap.size ≤ w.heap.size := zai _
 generalize hg : w.heap.size = g1 at hF1 hge ⊢
 refine ja rfl (jO (jN (jv1 3 ?_)))
 refine jS (jS (jR (jm rfl (jL rfl zy ?_))))
 refine jx .i64 0 ?_
 refine jO (jN (jB ?_))
 refine VC.loop (σ := Nat) (fun s => [(3, .slice (some ⟨g1, 0, none⟩) q.length c1), (8, .slice (some ⟨g1, 0, none⟩) q.length c1), (9, jI1 q.length), (10, jI1 s)]) (fun s wr => s ≤ q.length ∧ Frm [] w wr ∧ ∃ cs, Fro wr g1 5 cs ∧ cs.toList.take q.length = U8 ((q.take s).map gre ++ q.drop s)) (fun s => q.length - s) 0 (js4 rfl rfl rfl rfl) ⟨jo, hf1, cs1, hF1, by simpa using ht1⟩ ?_
 rintro i wr ⟨hi, hfr, cs, hF, ht⟩
 refine jS (jR (jb rfl rfl (Bin.lssN _ _) (jO (jN (jS ?_)))))
 refine jD rfl (fun hc1 => ?_) fun hc1 => ?_
 ·
  have hrd : Rd wr 1 (some ⟨g1, 0, none⟩) q.length (U8 ((q.take i).map gre ++ q.drop i)) := by
   have h := hF.rd (l := (q.take i).map gre ++ q.drop i) (by simpa [zch hi, zcv hi] using ht)
   simpa [zch hi, zcv hi] using h
  have hcell : wr.cell? ((⟨g1, 0, none⟩ : Addr).add (i * 1)) = some (.int .u8 ((q[i].toNat : Nat) : Int)) := by
   rw [zct]
   obtain ⟨ad, u, hA, hu, hc⟩ := hrd.at1 hc1
   cases hA
   rw [hc, ← hu]
   simp [U8, zbe, zch hi, zb, hc1]
  have hll : ((q.take i).map gre ++ q.drop i).length = q.length := by simp; omega
  have hsz : i < cs.size := by
   have := congrArg List.length ht
   simp [U8] at this
   omega
  refine jQ (jN (jv4 3 8 9 10 ?_))
  refine jS (jB (jS (jR (jm rfl (je (Run.indexS i rfl rfl zy zam hc1) (jl rfl zbk hcell (ja rfl (ja rfl (jO (jN (jv6 3 4 5 8 9 10 ?_)))))))))))
  refine jS ?_
  refine VC.split1 [(3, _), (4, _), (5, _), (8, _), (9, _), (10, _)] (js6 rfl rfl rfl rfl rfl rfl) 20 (.bool (decide ((97 ≤ q[i].toNat) ∧ (q[i].toNat ≤ 122)))) ?_ ?_
  ·
   by_cases hs0 : 97 ≤ q[i].toNat
   ·
    refine jR (jm rfl (jb rfl rfl (Bin.geqN _ 97) (jM ?_)))
    refine jG ?_
    refine jk (Run.bin rfl rfl (Bin.leqN _ 122)) ?_
    refine jW rfl rfl au (jO ?_)
    refine jN ⟨(js7 (by rw [tI hs0]; rfl) rfl rfl rfl rfl rfl rfl), rfl⟩
   refine jR (jm rfl (jb rfl rfl (Bin.geqN _ 97) (jM ?_)))
   refine jU ?_
   refine jU ?_
   refine jF rfl rfl au (jO ?_)
   refine jN ⟨(js7 (by rw [tL hs0]; rfl) rfl rfl rfl rfl rfl rfl), rfl⟩
  intro Γ hΓ
  refine jN (VC.sub _ hΓ ?_)
  refine VC.meet (σ := Unit) (fun s => [(3, .slice (some ⟨g1, 0, none⟩) q.length c1), (8, .slice (some ⟨g1, 0, none⟩) q.length c1), (9, jI1 q.length), (10, jI1 i)]) (fun s wm => Frm [] w wm ∧ ∃ cs, Fro wm g1 5 cs ∧ cs.toList.take q.length = U8 ((q.take (i + 1)).map gre ++ q.drop (i + 1))) ?_ ?_
  ·
   refine jD rfl (fun hc2 => ?_) fun hc2 => ?_
   ·
    refine jR (jm rfl (jm rfl (jm rfl (jb rfl rfl (Bin.sub_u8 _ 32 jo jo) ?_))))
    rw [show (q[i].toNat - 32 : Nat) = (gre q[i]).toNat by rw [gF, if_pos hc2]]
    refine je (Run.indexS i rfl rfl zy zam hc1) ?_
    rw [show (⟨g1, 0, none⟩ : Addr).add (i * 1) = ⟨g1, i, none⟩ by unfold Addr.add; rw [zct]; split <;> simp_all]
    refine Ops.st (qZ.storeFro rfl rfl zam hF hsz rfl) ?_
    rintro w2 ⟨hF2, hf2, hs2⟩
    refine jO ?_
    refine jN ⟨(), (js4 rfl rfl rfl rfl), ?_⟩
    exact ⟨hfr.own hf2 (fun x hx => by simp at hx; omega), _, hF2, by rw [pO ht hll hc1, jE hc1]⟩
   refine jQ ?_
   refine jN ⟨(), (js4 rfl rfl rfl rfl), ?_⟩
   exact ⟨hfr, cs, hF, by rw [ht, mJ hc1 (UInt8.toNat_inj.1 (by rw [gF, if_neg hc2]))]⟩
  rintro _ wm ⟨hfr2, cs2, hF2, ht2⟩ Γ hΓ
  refine qW (jN (VC.sub _ hΓ ?_))
  refine jR (jb rfl rfl (Bin.add_i64 _ 1 jo) (jm rfl (jO ?_)))
  refine jN ⟨(i + 1), (js4 rfl rfl rfl rfl), ?_, ?_⟩
  · exact ⟨hc1, hfr2, cs2, hF2, ht2⟩
  exact jq
 refine jX ?_
 refine qK (qK (qS ?_))
 refine jN (jv1 3 ?_)
 refine jS (jR (jM ?_))
 have hR : Rd wr 1 (some ⟨g1, 0, none⟩) q.length (U8 (qH q)) := by
  have him : i = q.length := jo
  subst him
  have h := hF.rd (l := qH q) (by rw [dH, ht]; simp [qH])
  rwa [dH] at h
 refine je (Run.strOfT rfl zy zag za hR) (ja rfl (jO (jN (jv1 2 ?_))))
 refine jT ?_
 refine qP rfl ?_
 exact ⟨rfl, hfr⟩
theorem kH (gp gc : Nat) (A : Option Addr) (n c : Nat) (tk : List Tk) (q : Nat) (cs : Array Value) (w : World) (hP : IsCp w gp gc A n c tk q cs) (hl : ∀ x ∈ tk, x.2.length ≤ 1000000) : Calls Tryz.prog 18 #[jI0 gp] w fun e w' => Frm [gp] w w' ∧ match qL tk q [0] with
   | none => e = .panicked dG
   | some s => e = .returned (encStr (qH s)) ∧ IsCp w' gp gc A n c tk (q + 1) cs := by
 refine jV Tryz.func18 Tryz.ntmps18 Tryz.results18 ?_
 refine jS (jR (ja rfl (jO (jN (jv1 0 ?_)))))
 refine jS (jR (jM ?_))
 refine Ops.m (qV.buildS1 rfl zi zc fV jd jd rfl rfl) rfl ?_
 rintro _ w1 ⟨rfl, hF1⟩
 have hK1 : Rd w1 1 (some ⟨w.heap.size, 0, none⟩) 1 (IB [0]) := Rd.of_blk (n := 1) (size := 1) hF1.blk rfl
 have hPl := hP.lt
 refine Ops.clp (jE2 Tryz.call31) (cI (some ⟨w.heap.size, 0, none⟩) 1 1 [0] gp gc A n c tk q cs w1 (hP.frm hF1.frm) rfl jo hK1 (fun _ x hx => by simp [ob] at hx; omega)) rfl ?_
 rintro e w2 ⟨hf2, he⟩
 rcases hT2 : qL tk q [0] with _ | s
 ·
  rw [hT2] at he
  exact .inr ⟨_, he, qT (bX ⟨(hF1.frm.mono jp).trans hf2 (fun x hx => .inl hx), rfl⟩)⟩
 rw [hT2] at he
 obtain ⟨rfl, hP2⟩ := he
 refine .inl ⟨_, rfl, ?_⟩
 refine jc (jE1 Tryz.call30) (eJ s w2 (eB hT2 hl)) ?_
 rintro e w3 ⟨rfl, hf3⟩
 refine ⟨_, rfl, ?_⟩
 refine ja rfl (jO (jN (jv1 2 ?_)))
 refine jT ?_
 refine qP rfl ?_
 exact ⟨((hF1.frm.mono jp).trans hf2 (fun x hx => .inl hx)).trans hf3 jp, ⟨rfl, hP2.frm hf3⟩⟩
theorem kM (gp gc : Nat) (A : Option Addr) (n c : Nat) (tk : List Tk) (q : Nat) (cs : Array Value) (w : World) (hP : IsCp w gp gc A n c tk q cs) : Calls Tryz.prog 66 #[jI0 gp] w fun e w' => Frm [gp] w w' ∧ match qL tk q [0, 1] with
   | none => e = .panicked dG
   | some s => e = .returned (encStr s) ∧ IsCp w' gp gc A n c tk (q + 1) cs := by
 refine jV Tryz.func66 Tryz.ntmps66 Tryz.results66 ?_
 refine jS (jR (ja rfl (jO (jN (jv1 0 ?_)))))
 refine jS (jR (jM ?_))
 refine Ops.m (qV.buildN (cells := #[.int .i64 0, .int .i64 1]) (evs.cons rfl (evs.cons rfl evs.nil)) zi zc fV rfl rfl jK) rfl ?_
 rintro _ w1 ⟨rfl, hF1⟩
 have hK1 : Rd w1 1 (some ⟨w.heap.size, 0, none⟩) 2 (IB [0, 1]) := Rd.of_blk (n := 2) (size := 1) hF1.blk rfl
 have hPl := hP.lt
 refine Ops.clp (jE2 Tryz.call31) (cI (some ⟨w.heap.size, 0, none⟩) 2 2 [0, 1] gp gc A n c tk q cs w1 (hP.frm hF1.frm) rfl jo hK1 (fun _ x hx => by simp [ob] at hx; omega)) rfl ?_
 rintro e w2 ⟨hf2, he⟩
 rcases hT2 : qL tk q [0, 1] with _ | s
 ·
  rw [hT2] at he
  exact .inr ⟨_, he, qT (bX ⟨(hF1.frm.mono jp).trans hf2 (fun x hx => .inl hx), rfl⟩)⟩
 rw [hT2] at he
 obtain ⟨rfl, hP2⟩ := he
 refine .inl ⟨_, rfl, ?_⟩
 refine ja rfl (jO (jN (jv1 2 ?_)))
 refine jT ?_
 refine qP rfl ?_
 exact ⟨(hF1.frm.mono jp).trans hf2 (fun x hx => .inl hx), ⟨rfl, hP2⟩⟩
theorem nK (gp : Nat) (w : World) : Calls Tryz.prog 39 #[jI0 gp] w fun e w' => e = .returned (.tuple #[]) ∧ w = w' := by
 refine jV Tryz.func39 Tryz.ntmps39 Tryz.results39 ?_
 refine jQ ?_
 refine dB ?_
 exact ⟨rfl, rfl⟩
def fG (tk : List Tk) (q : Nat) : Option (Tx × Tx) := (qL tk q [0, 1]).bind fun a => (qL tk (q + 1) [0, 1]).map fun b => (a, b)
theorem rQ (gp gc : Nat) (A : Option Addr) (n c : Nat) (tk : List Tk) (q : Nat) (cs : Array Value) (w : World) (hP : IsCp w gp gc A n c tk q cs) : Calls Tryz.prog 41 #[jI0 gp] w fun e w' => Frm [gp, gc] w w' ∧ match fG tk q with
   | none => e = .panicked dG
   | some s => e = .returned (.tuple #[]) ∧ IsCp w' gp gc A n c tk (q + 2) ((cs.setIfInBounds 3 (encStr s.1)).setIfInBounds 4 (encStr s.2)) := by
 refine jV Tryz.func41 Tryz.ntmps41 Tryz.results41 ?_
 refine VC.heldL 17 (fun V : World => V.cell? ⟨gp, 2, none⟩ = some (jI0 gc)) jK ?_
 have hd := (qF.drew w).frm
 have hPd := hP.frm hd
 have hS : (fun V : World => V.cell? ⟨gp, 2, none⟩ = some (jI0 gc)) w.drew := hPd.p.cell 2
 refine jh 0 hS ?_
 refine jH 1 rfl hS (fun w0 hw0 => Run.nilck rfl) ?_
 refine jH 2 rfl hS (fun w0 hw0 => Run.fieldAddr rfl zn rfl zat jd) ?_
 refine jH 3 rfl hS (fun w0 hw0 => Run.load rfl zbd hw0) ?_
 refine jh 4 hS ?_
 refine jH 5 rfl hS (fun w0 hw0 => Run.nilck rfl) ?_
 refine jH 6 rfl hS (fun w0 hw0 => Run.fieldAddr rfl zn rfl zat jd) ?_
 refine jH 7 rfl hS (fun w0 hw0 => Run.load rfl zbd hw0) ?_
 refine jh 8 hS ?_
 refine jh 10 hS ?_
 refine qJ.clp 9 rfl jK (jE1 Tryz.call66) (kM gp gc A n c tk q cs _ hPd) trivial rfl rfl ?_
 rintro e w1 ⟨hf1, he⟩
 rcases hT1 : qL tk q [0, 1] with _ | a
 ·
  rw [hT1] at he
  exact .inr ⟨_, he, bX ⟨(hd.mono jp).trans hf1 (fun x hx => .inl (by simp at hx; simp [hx])), by simp [fG, hT1]⟩⟩
 rw [hT1] at he
 obtain ⟨rfl, hP1⟩ := he
 have hS : (fun V : World => V.cell? ⟨gp, 2, none⟩ = some (jI0 gc)) w1 := hP1.p.cell 2
 refine .inl ⟨_, rfl, hS, ?_⟩
 refine qJ.clp 11 rfl jK (jE1 Tryz.call66) (kM gp gc A n c tk (q + 1) cs _ hP1) trivial rfl rfl ?_
 rintro e w2 ⟨hf2, he⟩
 rcases hT2 : qL tk (q + 1) [0, 1] with _ | b
 ·
  rw [hT2] at he
  exact .inr ⟨_, he, bX ⟨((hd.mono jp).trans hf1 (fun x hx => .inl (by simp at hx; simp [hx]))).trans hf2 (fun x hx => .inl (by simp at hx; simp [hx])), by simp [fG, hT1, hT2]⟩⟩
 rw [hT2] at he
 obtain ⟨rfl, hP2⟩ := he
 have hS : (fun V : World => V.cell? ⟨gp, 2, none⟩ = some (jI0 gc)) w2 := hP2.p.cell 2
 refine .inl ⟨_, rfl, hS, ?_⟩
 refine qJ.r1 12 rfl jK hS (Run.nilck rfl) trivial rfl rfl ?_
 refine qJ.r1 13 rfl jK hS (Run.fieldAddr rfl zp rfl zd jd) trivial rfl rfl ?_
 refine qJ.st 14 rfl jK (qZ.store (i := 3) rfl rfl zd hP2.k (by rw [hP2.sz]; rfl) rfl) trivial rfl ?_
 rintro w3 ⟨hb3, hf3, hs3⟩
 have hP3 := hP2.turn hb3 (by simp [hP2.sz]) hf3
 have hS : (fun V : World => V.cell? ⟨gp, 2, none⟩ = some (jI0 gc)) w3 := hP3.p.cell 2
 refine ⟨hS, ?_⟩
 refine qJ.r1 15 rfl jK hS (Run.nilck rfl) trivial rfl rfl ?_
 refine qJ.r1 16 rfl jK hS (Run.fieldAddr rfl zp rfl zd jd) trivial rfl rfl ?_
 refine qJ.stL rfl jK (qZ.store (i := 4) rfl rfl zd hP3.k (by rw [hP3.sz]; rfl) rfl) trivial rfl ?_
 rintro w4 ⟨hb4, hf4, hs4⟩
 have hP4 := hP3.turn hb4 (by simp [hP2.sz]) hf4
 refine qJ.done jK ?_
 refine dB ?_
 have hin : ∀ x ∈ [gp], x ∈ [gp, gc] ∨ w.heap.size ≤ x := fun x hx => .inl (by simp at hx; simp [hx])
 have hin2 : ∀ x ∈ [gc], x ∈ [gp, gc] ∨ w.heap.size ≤ x := fun x hx => .inl (by simp at hx; simp [hx])
 exact ⟨((((hd.mono jp).trans hf1 hin).trans hf2 hin).trans hf3 hin2).trans hf4 hin2, by rw [show fG tk q = some (a, b) by simp [fG, hT1, hT2]]; exact ⟨rfl, hP4⟩⟩
end
end Go.Proofs.YtjklfpccmaljjaaGreatDoor
