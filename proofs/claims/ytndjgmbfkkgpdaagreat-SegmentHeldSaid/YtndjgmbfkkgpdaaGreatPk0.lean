/-
  Lemmas on the way, joined: EngA, Ty, BitsP, CrcP, EngB.
-/
import Derived.WalkKit
import Derived.StillTail
import Derived.Deep.Quiet
import Derived.Deep.LoopGhost
import Derived.Deep.AppendLies
import Derived.Maps.AppendAt
import Derived.RangeFuncCalls
import Derived.TacticsIn
import Derived.OrdersIn
import Derived.Sort.LoopGhostIn
import Derived.Laws.OwnMore
import Derived.Laws.Tables
import Derived.Laws.BytesString
import Derived.OrdersHeld
import Derived.ProofKit
import Derived.Deep.Slices
import Derived.Deep.Fields
import Derived.OpenShut
import Derived.ChangeSame
import Derived.ShutString
import Derived.ChangeOld
import Derived.Laws.CopyRow
import Derived.Test.YtndjgmbfkkgpdaaGreatRows
import Derived.KernelRfl
import Derived.Recover
import Derived.Deep.Strs
import Derived.Laws.IdiomStrings
import Derived.Sort.Walk0
import Derived.Sort.EncStr
set_option maxRecDepth 100000
set_option linter.unusedVariables false
set_option linter.unusedSimpArgs false
namespace Go.Proofs.YtndjgmbfkkgpdaaGreat
theorem au {p : Prop} (h : p := by first | rfl | assumption | exact decide_eq_true (by assumption) | exact decide_eq_false (by assumption) | decide | (simp; done) | (simp; omega) | (simp [*]; done)) : p := h
theorem jo {p : Prop} (h : p := by omega) : p := h
theorem jp {p : Prop} (h : p := by simp) : p := h
theorem jd {p : Prop} (h : p := by decide) : p := h
section
open Go.RowKit
abbrev Env := List (Nat × Value)
def get? : Env → Nat → Option Value
 | [], _ => none
 | (k, v) :: r, t => bif Nat.beq k t then some v else get? r t
def ev? (Γ : Env) : Operand → Option Value
 | .tmp t => get? Γ t
 | .const v => some v
 | .global g => some (.pointer (some ⟨g, 0, none⟩))
 | .func f => some (.func (.func f) #[] #[])
def rE (ρ : Operand → Value) (Γ : Env) : Prop := ∀ x v, ev? Γ x = some v → ρ x = v
structure NF where
 n : Nat
 D : List Deferred
 ro : Option Nat
structure Sat (n : NF) (Γ : Env) (a : Act) : Prop where
 size : a.tmps.size = n.n
 defers : a.defers = n.D
 at_ : ∀ t v, get? Γ t = some v → a.tmps.getD t undef = v
def Sub (Γ : Env) : Env → Prop
 | [] => True
 | (k, v) :: r => get? Γ k = some v ∧ Sub Γ r
section
variable {n : NF} {Γ Γ' : Env} {a : Act}
theorem Sat.fits (h : Sat n Γ a) : rE a.eval Γ := by
 intro x v hx
 cases x with
 | tmp t => exact h.at_ t v hx
 | const u => simp only [ev?, Option.some.injEq] at hx; subst hx; rfl
 | global g => simp only [ev?, Option.some.injEq] at hx; subst hx; rfl
 | func f => simp only [ev?, Option.some.injEq] at hx; subst hx; rfl
theorem Sat.put (h : Sat n Γ a) {d : Nat} (hd : Nat.blt d n.n = true) (v : Value) : Sat n ((d, v) :: Γ) (a.put (some d) v) := by
 refine ⟨by simpa [Act.put] using h.size, by simpa [Act.put] using h.defers, ?_⟩
 intro t u ht
 have hd' : d < n.n := by simpa [Nat.blt_eq] using hd
 have hs := h.size
 by_cases e : d = t
 ·
  subst e
  simp only [get?, Nat.beq_refl, cond_true, Option.some.injEq] at ht
  subst ht
  simp [Act.put, Array.getD, hs, hd']
 have e' : Nat.beq d t = false := by
  cases hb : Nat.beq d t with
  | false => rfl
  | true => exact absurd (Nat.eq_of_beq_eq_true hb) e
 simp only [get?, e', cond_false] at ht
 have := h.at_ t u ht
 simp only [Act.put, Array.getD_eq_getD_getElem?] at this ⊢
 rw [Array.getElem?_setIfInBounds]
 rw [if_neg e]
 exact this
theorem Sub.get (h : Sub Γ Γ') : ∀ t v, get? Γ' t = some v → get? Γ t = some v := by
 induction Γ' with
 | nil => intro t v ht; simp [get?] at ht
 | cons p r ih =>
  obtain ⟨k, u⟩ := p
  intro t v ht
  simp only [get?] at ht
  cases hb : Nat.beq k t with
  | true =>
   rw [hb] at ht
   simp only [cond_true, Option.some.injEq] at ht
   subst ht
   have := Nat.eq_of_beq_eq_true hb
   subst this
   exact h.1
  | false =>
   rw [hb] at ht
   exact ih h.2 t v ht
theorem Sat.sub (h : Sat n Γ a) (hs : Sub Γ Γ') : Sat n Γ' a := ⟨h.size, h.defers, fun t v ht => h.at_ t v (hs.get t v ht)⟩
end
def lX (n : NF) (Q : Exit → Env → World → Prop) (e : Exit) (a : Act) (w : World) : Prop := ∃ Γ, Sat n Γ a ∧ Q e Γ w
def wd (ro : Option Nat) : Fence := { Fence.wide with round := ro }
theorem mY {ro : Option Nat} {m : Nat} {P : Program} {f : FuncId} {args : Array Value} {w : World} {R : Ending → World → Prop} : CallsIn (wd ro) m P f args w R ↔ Calls P f args w R :=
 (Iff.rfl : CallsIn (wd ro) m P f args w R ↔ CallsIn Fence.wide m P f args w R).trans callsIn_wide
theorem dF {ro : Option Nat} {P : Program} {o : Oper} {w : World} {ρ : Operand → Value} : ∀ f, o.about P w ρ = some f → (wd ro).fn f := fun _ _ => trivial
theorem gW {ro : Option Nat} {P : Program} {o : Oper} {ρ : Operand → Value} {w w' : World} {r : Next} (h : (execOp ρ o).run P w = .ok r w') (hr : ∀ d, r ≠ .defer d) : (o.semAt ro ρ).run P w = .ok r w' := by
 cases ho : o.op with
 | defer c =>
  exfalso
  simp only [execOp, ho, Sem.run_bind] at h
  cases hx : (resolve ρ c o.type).run P w with
  | ok d w1 =>
   rw [hx] at h
   simp at h
   exact hr d h.1.symm
  | halt x w1 => rw [hx] at h; simp at h
 | _ => rw [Oper.semAt_eq]; exact h; intro c; rw [ho]; simp
theorem qZ0 {ro : Option Nat} {P : Program} {o : Oper} {ρ : Operand → Value} {w w' : World} {v : Value} (h : (execOp ρ o).run P w = .halt (.panic v) w') : (o.semAt ro ρ).run P w = .halt (.panic v) w' := by
 cases ho : o.op with
 | defer c =>
  cases ro with
  | none => exact h
  | some l =>
   simp only [execOp, ho, Sem.run_bind] at h
   simp only [Oper.semAt, ho, Sem.run_bind]
   cases hx : (resolve ρ c o.type).run P w with
   | ok d w1 => rw [hx] at h; simp at h
   | halt x w1 => rw [hx] at h; simpa using h
 | _ => rw [Oper.semAt_eq]; exact h; intro c; rw [ho]; simp
def VC (P : Program) (n : NF) (c : Code) (Γ : Env) (w : World) (Q : Exit → Env → World → Prop) : Prop := ∀ a, Sat n Γ a → ∀ m, c.wpIn (wd n.ro) m P (lX n Q) a w
def Ops (P : Program) (n : NF) (ops : Array Oper) (l : List Oper) (Γ : Env) (w : World) (Q : Exit → Env → World → Prop) : Prop :=
 ∀ a, Sat n Γ a → ∀ m, wpListIn (wd n.ro) m P ops (lX n Q) l a w
def gC (K : Env → World → Prop) (Q : Exit → Env → World → Prop) : Exit → Env → World → Prop
 | .normal, Γ, w => K Γ w
 | e, Γ, w => Q e Γ w
def jP (id : Nat) (Q : Exit → Env → World → Prop) : Exit → Env → World → Prop
 | .exit i, Γ, w => if i = id then Q .normal Γ w else Q (.exit i) Γ w
 | e, Γ, w => Q e Γ w
section
variable {P : Program} {n : NF} {Γ Γ' : Env} {w : World} {Q Q' : Exit → Env → World → Prop}
theorem qWn (h : ∀ e Γ w, Q e Γ w → Q' e Γ w) (e : Exit) (a : Act) (w : World) (hq : lX n Q e a w) : lX n Q' e a w :=
 let ⟨Γ, hs, q⟩ := hq; ⟨Γ, hs, h _ _ _ q⟩
theorem VC.mono {c : Code} (h : VC P n c Γ w Q) (hq : ∀ e Γ w, Q e Γ w → Q' e Γ w) : VC P n c Γ w Q' :=
 fun a hs m => wpIn_mono (h a hs m) (qWn hq)
theorem VC.sub {c : Code} (Γ' : Env) (hs : Sub Γ Γ') (h : VC P n c Γ' w Q) : VC P n c Γ w Q := fun a ha => h a (ha.sub hs)
theorem VC.seq {x y : Code} (h : VC P n x Γ w (gC (fun Γ' w' => VC P n y Γ' w' Q) Q)) : VC P n (.seq x y) Γ w Q := by
 intro a hs m
 refine wpIn_seq (wpIn_mono (h a hs m) ?_)
 intro e a' w' hq
 obtain ⟨Γ', hs', q⟩ := hq
 cases e with
 | normal => exact q a' hs' m
 | exit id => exact ⟨Γ', hs', q⟩
 | goto l => exact ⟨Γ', hs', q⟩
 | ret => exact ⟨Γ', hs', q⟩
 | panic c => exact ⟨Γ', hs', q⟩
 | outgrown => exact ⟨Γ', hs', q⟩
theorem VC.skip (h : Q .normal Γ w) : VC P n .skip Γ w Q := fun _ hs _ => wpIn_skip ⟨Γ, hs, h⟩
theorem VC.ret (h : Q .ret Γ w) : VC P n .ret Γ w Q := fun _ hs _ => wpIn_ret ⟨Γ, hs, h⟩
theorem VC.exit {id : Nat} (h : Q (.exit id) Γ w) : VC P n (.exit id) Γ w Q := fun _ hs _ => wpIn_exit ⟨Γ, hs, h⟩
theorem VC.condB {c : Operand} {x y : Code} {b : Bool} (hc : ev? Γ c = some (.bool b)) (ht : b = true → VC P n x Γ w Q) (hf : b = false → VC P n y Γ w Q) :
  VC P n (.cond c x y) Γ w Q := by
 intro a hs m
 have e := hs.fits _ _ hc
 exact wpIn_cond_split e (fun h => ht h a hs m) (fun h => hf h a hs m)
theorem VC.condT {c : Operand} {x y : Code} {b : Bool} (hc : ev? Γ c = some (.bool b)) (hb : b = true) (h : VC P n x Γ w Q) : VC P n (.cond c x y) Γ w Q :=
 VC.condB hc (fun _ => h) (fun e => by rw [hb] at e; cases e)
theorem VC.condF {c : Operand} {x y : Code} {b : Bool} (hc : ev? Γ c = some (.bool b)) (hb : b = false) (h : VC P n y Γ w Q) : VC P n (.cond c x y) Γ w Q :=
 VC.condB hc (fun e => by rw [hb] at e; cases e) (fun _ => h)
theorem VC.condD {c : Operand} {x y : Code} {p : Prop} [Decidable p] (hc : ev? Γ c = some (.bool (decide p))) (ht : p → VC P n x Γ w Q) (hf : ¬ p → VC P n y Γ w Q) :
  VC P n (.cond c x y) Γ w Q :=
 VC.condB hc (fun e => ht (of_decide_eq_true e)) (fun e => hf (of_decide_eq_false e))
theorem VC.block {id : Nat} {c : Code} (h : VC P n c Γ w (jP id Q)) : VC P n (.block id c) Γ w Q := by
 intro a hs m
 refine wpIn_block (wpIn_mono (h a hs m) ?_)
 intro e a' w' hq
 obtain ⟨Γ', hs', q⟩ := hq
 cases e with
 | normal => exact ⟨Γ', hs', q⟩
 | exit i =>
  simp only [jP] at q
  by_cases hi : i = id
  · rw [if_pos hi] at q; simp only [Exit.inBlock, hi, if_true]; exact ⟨Γ', hs', q⟩
  rw [if_neg hi] at q; simp only [Exit.inBlock, hi, if_false]; exact ⟨Γ', hs', q⟩
 | goto l => exact ⟨Γ', hs', q⟩
 | ret => exact ⟨Γ', hs', q⟩
 | panic c => exact ⟨Γ', hs', q⟩
 | outgrown => exact ⟨Γ', hs', q⟩
theorem VC.cut {c : Code} (R : Env → World → Prop) (h : VC P n c Γ w (gC R Q)) (k : ∀ Γ' w', R Γ' w' → Q .normal Γ' w') : VC P n c Γ w Q :=
 h.mono fun e Γ' w' q => by cases e <;> first | exact k _ _ q | exact q
theorem VC.loop {σ : Type} {c : Code} (env : σ → Env) (inv : σ → World → Prop) (μ : σ → Nat) (s0 : σ) (hs0 : Sub Γ (env s0)) (h0 : inv s0 w)
  (round : ∀ s w, inv s w → VC P n c (env s) w (gC (fun Γ' w' => ∃ s', Sub Γ' (env s') ∧ inv s' w' ∧ μ s' < μ s) Q)) : VC P n (.loop c) Γ w Q := by
 intro a hs m0
 refine wpIn_loop_ghost (fun m a w => ∃ s, μ s = m ∧ Sat n (env s) a ∧ inv s w) (μ s0) ⟨s0, rfl, hs.sub hs0, h0⟩ ?_
 rintro m a w ⟨s, rfl, hsa, hi⟩
 refine wpIn_mono (round s w hi a hsa m0) ?_
 intro e a' w' hq
 obtain ⟨Γ', hs', q⟩ := hq
 cases e with
 | normal =>
  obtain ⟨s', hsub, hinv, hlt⟩ := q
  exact ⟨μ s', hlt, s', rfl, hs'.sub hsub, hinv⟩
 | exit id => exact ⟨Γ', hs', q⟩
 | goto l => exact ⟨Γ', hs', q⟩
 | ret => exact ⟨Γ', hs', q⟩
 | panic c => exact ⟨Γ', hs', q⟩
 | outgrown => exact ⟨Γ', hs', q⟩
theorem VC.region {id : Nat} {l : List Oper} (h : Ops P n l.toArray l Γ w Q) : VC P n (.region id l.toArray false) Γ w Q := fun a hs m => wpIn_region_lit (h a hs m)
theorem Ops.nil {ops : Array Oper} (h : Q .normal Γ w) : Ops P n ops [] Γ w Q := fun _ hs _ => wpListIn_nil ⟨Γ, hs, h⟩
def Run (P : Program) (o : Oper) (Γ : Env) (w : World) (v : Value) : Prop := ∀ ρ, rE ρ Γ → (execOp ρ o).run P w = .ok (.value v) w
def qJ (P : Program) (o : Oper) (Γ : Env) (w : World) (R : Value → World → Prop) : Prop := ∀ ρ, rE ρ Γ → ∃ v w', (execOp ρ o).run P w = .ok (.value v) w' ∧ R v w'
def qR (P : Program) (o : Oper) (Γ : Env) (w : World) (R : World → Prop) : Prop := ∀ ρ, rE ρ Γ → ∃ w', (execOp ρ o).run P w = .ok .skip w' ∧ R w'
def bW (P : Program) (o : Oper) (Γ : Env) (w : World) (f : FuncId) (args : Array Value) : Prop := ∀ ρ, rE ρ Γ → (execOp ρ o).run P w = .ok (.enter f args) w
def qQo (P : Program) (o : Oper) (Γ : Env) (w : World) (v : Value) : Prop := ∀ ρ, rE ρ Γ → (execOp ρ o).run P w = .halt (.panic v) w
def yi (ops : Array Oper) (Γ : Env) (j : Nat) : Option Value := ((ops[j]?).bind (·.dst)).bind (get? Γ)
theorem oP {ops : Array Oper} {j : Nat} {b : Bool} {a : Act} (hs : Sat n Γ a) (h : yi ops Γ j = some (.bool b)) : yielded ops a.tmps j = some b := by
 unfold yi at h
 unfold yielded
 cases hd : (ops[j]?).bind (·.dst) with
 | none => rw [hd] at h; simp at h
 | some t =>
  rw [hd] at h
  simp only [Option.bind_some] at h ⊢
  have := hs.at_ t _ h
  rw [Array.getD_eq_getD_getElem?] at this
  cases hg : a.tmps[t]? with
  | none => rw [hg] at this; simp [undef] at this
  | some u => rw [hg] at this; simp only [Option.getD_some] at this; subst this; rfl
def Up (ops : Array Oper) (Γ : Env) (g : Option (Nat × Bool)) : Prop :=
 match g with
 | none => True
 | some (j, b) => yi ops Γ j = some (.bool b)
theorem Up.none_ {ops : Array Oper} : Up ops Γ none := trivial
theorem Up.wanted {ops : Array Oper} {o : Oper} {a : Act} (hs : Sat n Γ a) (h : Up ops Γ o.guard) : Region.wanted o (yielded ops a.tmps) = true := by
 unfold Region.wanted
 unfold Up at h
 split
 · rfl
 rename_i j b hg
 rw [hg] at h
 simp only at h
 rw [oP hs h]
 simp
section
variable {ops : Array Oper} {rest : List Oper} {o : Oper}
theorem Ops.of_wp (hup : Up ops Γ o.guard) (h : ∀ a, Sat n Γ a → ∀ m, o.wpIn (wd n.ro) m P a w (wpListIn (wd n.ro) m P ops (lX n Q) rest) (lX n Q)) : Ops P n ops (o :: rest) Γ w Q := by
 intro a hs m
 unfold wpListIn
 rw [if_pos (hup.wanted hs)]
 exact h a hs m
theorem Ops.run {v : Value} (h : Run P o Γ w v) {d : Nat} (hup : Up ops Γ o.guard) (hd : o.dst = some d) (hn : Nat.blt d n.n = true)
  (k : Ops P n ops rest ((d, v) :: Γ) w Q) : Ops P n ops (o :: rest) Γ w Q :=
 Ops.of_wp hup fun a hs m => by
  refine ⟨dF, ?_⟩
  rw [gW (h _ hs.fits) jp, Oper.uponIn_value, hd]
  exact k _ (hs.put hn v) m
theorem Ops.does {R : Value → World → Prop} (h : qJ P o Γ w R) {d : Nat} (hup : Up ops Γ o.guard) (hd : o.dst = some d) (hn : Nat.blt d n.n = true)
  (k : ∀ v w', R v w' → Ops P n ops rest ((d, v) :: Γ) w' Q) : Ops P n ops (o :: rest) Γ w Q :=
 Ops.of_wp hup fun a hs m => by
  obtain ⟨v, w', hr, hR⟩ := h _ hs.fits
  refine ⟨dF, ?_⟩
  rw [gW hr jp, Oper.uponIn_value, hd]
  exact k v w' hR _ (hs.put hn v) m
theorem Ops.acts {R : World → Prop} (h : qR P o Γ w R) (hup : Up ops Γ o.guard) (hd : o.dst = none)
  (k : ∀ w', R w' → Ops P n ops rest Γ w' Q) : Ops P n ops (o :: rest) Γ w Q :=
 Ops.of_wp hup fun a hs m => by
  obtain ⟨w', hr, hR⟩ := h _ hs.fits
  refine ⟨dF, ?_⟩
  rw [gW hr jp, Oper.uponIn_skip, hd]
  exact k w' hR _ hs m
theorem Ops.skip {j : Nat} {b c : Bool} (hg : o.guard = some (j, c)) (hy : yi ops Γ j = some (.bool b)) (hbc : b = !c) {d : Nat} (hd : o.dst = some d) (hn : Nat.blt d n.n = true)
  (k : Ops P n ops rest ((d, undef) :: Γ) w Q) : Ops P n ops (o :: rest) Γ w Q := by
 intro a hs m
 unfold wpListIn
 have hw : Region.wanted o (yielded ops a.tmps) = false := by
  unfold Region.wanted
  rw [hg]
  simp only
  rw [oP hs hy, hbc]
  cases c <;> rfl
 rw [hw, hd]
 simp only [Bool.false_eq_true, if_false]
 exact ⟨dF, k _ (hs.put hn undef) m⟩
theorem Ops.call {f : FuncId} {args : Array Value} {R : Ending → World → Prop} (he : bW P o Γ w f args) (hc : Calls P f args w R) {d : Nat} (hup : Up ops Γ o.guard) (hd : o.dst = some d) (hn : Nat.blt d n.n = true)
  (k : ∀ e w', R e w' → ∃ v, e = .returned v ∧ Ops P n ops rest ((d, v) :: Γ) w' Q) : Ops P n ops (o :: rest) Γ w Q :=
 Ops.of_wp hup fun a hs m => by
  refine ⟨dF, ?_⟩
  rw [gW (he _ hs.fits) jp, Oper.uponIn_enter, hd]
  refine ⟨fun h => by simp [wd, Fence.wide] at h, mY.2 (hc.mono ?_)⟩
  intro e w' hR
  obtain ⟨v, rfl, hk⟩ := k e w' hR
  exact hk _ (hs.put hn v) m
theorem Ops.callP {f : FuncId} {args : Array Value} {R : Ending → World → Prop} (he : bW P o Γ w f args) (hc : Calls P f args w R) {d : Nat} (hup : Up ops Γ o.guard) (hd : o.dst = some d) (hn : Nat.blt d n.n = true)
  (k : ∀ e w', R e w' → (∃ v, e = .returned v ∧ Ops P n ops rest ((d, v) :: Γ) w' Q) ∨ (∃ ch, e = .panicked ch ∧ Q (.panic ch) Γ w')) : Ops P n ops (o :: rest) Γ w Q :=
 Ops.of_wp hup fun a hs m => by
  refine ⟨dF, ?_⟩
  rw [gW (he _ hs.fits) jp, Oper.uponIn_enter, hd]
  refine ⟨fun h => by simp [wd, Fence.wide] at h, mY.2 (hc.mono ?_)⟩
  intro e w' hR
  rcases k e w' hR with ⟨v, rfl, hk⟩ | ⟨ch, rfl, hk⟩
  · exact hk _ (hs.put hn v) m
  exact ⟨Γ, hs, hk⟩
theorem Ops.falls {v : Value} (h : qQo P o Γ w v) (hup : Up ops Γ o.guard) (k : Q (.panic [{ v, recovered := false }]) Γ w) : Ops P n ops (o :: rest) Γ w Q :=
 Ops.of_wp hup fun a hs m => by
  refine ⟨dF, ?_⟩
  rw [qZ0 (h _ hs.fits), Oper.uponIn_panic]
  exact ⟨Γ, hs, k⟩
theorem Ops.sub (Γ' : Env) (hs : Sub Γ Γ') {l : List Oper} (h : Ops P n ops l Γ' w Q) : Ops P n ops l Γ w Q := fun a ha => h a (ha.sub hs)
end
def gE (ops : Array Oper) : Bool := ops.all fun o => match o.op with | .defer _ => false | _ => true
theorem qK0 {ops : Array Oper} (h : gE ops = true) {i : Nat} {o : Oper} (hi : ops[i]? = some o) : ∀ c, o.op ≠ .defer c := by
 intro c hc
 unfold gE at h
 rw [Array.all_eq_true'] at h
 obtain ⟨hlt, rfl⟩ := Array.getElem?_eq_some_iff.1 hi
 have := h ops[i] (Array.getElem_mem hlt)
 rw [hc] at this
 cases this
theorem qWo {ro : Option Nat} {m : Nat} {row : String} {args : Array Value} {R : Value → World → Prop} (h : Rows P row args w R) : RowsIn (wd ro) m P row args w R := fun c cs _ =>
 let ⟨v, w', r, s⟩ := h c cs; ⟨v, w', r, stepsIn_wide.2 s⟩
theorem Oper.wp_in {ro : Option Nat} {m : Nat} {o : Oper} {a : Act} {K K' : Act → World → Prop} {QQ : Exit → Act → World → Prop} (hnd : ro = none ∨ ∀ c, o.op ≠ .defer c) (hK : ∀ a w, K a w → K' a w) (h : o.wp P a w K QQ) : o.wpIn (wd ro) m P a w K' QQ := by
 refine ⟨dF, ?_⟩
 have e : o.semAt (wd ro).round a.eval = execOp a.eval o := by
  rcases hnd with h | h
  · subst h; rfl
  exact Oper.semAt_eq _ _ _ h
 rw [e]
 unfold Oper.wp at h
 cases hr : (execOp a.eval o).run P w with
 | ok r w' =>
  rw [hr] at h
  cases r with
  | value v => exact hK _ _ h
  | skip => exact hK _ _ h
  | defer d => exact hK _ _ h
  | enter f args =>
   rw [Oper.uponIn_enter]
   rw [Oper.upon_enter] at h
   refine ⟨fun h => by simp [wd, Fence.wide] at h, mY.2 (h.mono ?_)⟩
   intro e w' he
   cases e with
   | returned v => exact hK _ _ he
   | panicked c => exact he
   | outgrown => exact he
  | row row args =>
   rw [Oper.uponIn_row]
   rw [Oper.upon_row] at h
   exact ⟨fun h => by simp [wd, Fence.wide] at h, qWo (h.mono fun v w' he => hK _ _ he)⟩
  | _ => exact h.elim
 | halt x w' =>
  rw [hr] at h
  cases x with
  | panic v => exact h
  | _ => exact h.elim
theorem qJv {ro : Option Nat} {m : Nat} {ops : Array Oper} {i : Nat} {a : Act} {K K' : Act → World → Prop} {QQ : Exit → Act → World → Prop} (hnd : ro = none ∨ gE ops = true) (hL : ¬ LetsOut QQ) (hK : ∀ a w, K a w → K' a w) (h : wpOp P ops QQ i K a w) : wpOpIn (wd ro) m P ops QQ i K' a w := by
 unfold wpOp at h
 unfold wpOpIn
 cases ho : ops[i]? with
 | none => rw [ho] at h; exact hK _ _ h
 | some o =>
  rw [ho] at h
  dsimp only at h ⊢
  split
  ·
   rename_i hw
   rw [if_pos hw] at h
   rcases h with h | ⟨_, h⟩
   · exact Oper.wp_in (hnd.imp id fun h => qK0 h ho) hK h
   exact absurd h hL
  rename_i hw
  rw [if_neg hw] at h
  exact ⟨dF, hK _ _ h⟩
theorem uD {ro : Option Nat} {m : Nat} {ops : Array Oper} {QQ : Exit → Act → World → Prop} (hnd : ro = none ∨ gE ops = true) (hL : ¬ LetsOut QQ) : ∀ (f : Nat) (listed : Array Bool) (a : Act) (w : World), wpAny P .any ops QQ f listed a w → wpAnyIn (wd ro) m P .any ops QQ f listed a w
 | 0, _, _, _, h => h
 | f + 1, listed, a, w, h => ⟨h.1, fun i hi => qJv hnd hL (fun a w h => uD hnd hL f _ a w h) (h.2 i hi)⟩
theorem oR {ro : Option Nat} {m : Nat} {ops : Array Oper} {QQ : Exit → Act → World → Prop} : ∀ (l : List Oper) (k : Nat) (listed : Array Bool) (a : Act) (w : World), (∀ j, l[j]? = ops[k + j]?) →
  Region.seqB .any ops l.length k listed = true → wpListIn (wd ro) m P ops QQ l a w → wpAnyIn (wd ro) m P .any ops QQ l.length listed a w
 | [], _, _, _, _, _, hB, h => ⟨by simpa [Region.seqB] using hB, h⟩
 | o :: l, k, listed, a, w, hl, hB, h => by
  have h0 : ops[k]? = some o := by simpa using (hl 0).symm
  simp only [List.length_cons, Region.seqB, Bool.and_eq_true, decide_eq_true_eq] at hB
  refine ⟨fun h1 => (by rw [hB.1] at h1; cases h1), fun i hi => ?_⟩
  rw [hB.1] at hi
  have hik : i = k := by simpa using hi
  subst hik
  have hw : wpOpIn (wd ro) m P ops QQ i (wpListIn (wd ro) m P ops QQ l) a w := by unfold wpOpIn; simp only [h0]; exact h
  exact wpOpIn_mono (fun a' w' h' => oR l (i + 1) _ a' w' (fun j => by have := hl (j + 1); simpa [Nat.add_assoc, Nat.add_comm 1 j] using this) hB.2 h') hw
theorem LetsOut.mono {Q Q' : Exit → Act → World → Prop} (h : ∀ e a w, Q e a w → Q' e a w) (hl : LetsOut Q) : LetsOut Q' := let ⟨a, w, q⟩ := hl; ⟨a, w, h _ _ _ q⟩
theorem qZ1 {F : Fence} {m : Nat} {ops : Array Oper} {Q Q' : Exit → Act → World → Prop} {i : Nat} {K : Act → World → Prop} {a : Act} {w : World} (h : ∀ e a w, Q e a w → Q' e a w) (hh : wpOpIn F m P ops Q i K a w) : wpOpIn F m P ops Q' i K a w := by
 unfold wpOpIn at *
 split
 · simpa [*] using hh
 rename_i o ho
 simp only [ho] at hh
 split
 ·
  rename_i hw
  simp only [hw, if_true] at hh
  unfold Oper.wpIn at *
  refine ⟨hh.1, ?_⟩
  have hh := hh.2
  generalize (o.semAt F.round a.eval).run P w = r at *
  cases r with
  | ok x w' =>
   cases x <;> simp only [Oper.uponIn] at hh ⊢ <;>
    first
     | exact hh
     | exact ⟨hh.1, CallsIn.mono hh.2 (fun e w'' he => by cases e <;> first | exact he | exact h _ _ _ he | exact LetsOut.mono h he)⟩
     | exact ⟨hh.1, RoundIn.mono hh.2 (fun e w'' he => by cases e <;> first | exact he | exact h _ _ _ he | exact LetsOut.mono h he)⟩
  | halt x w' => cases x <;> simp only [Oper.uponIn] at hh ⊢ <;> first | exact hh | exact h _ _ _ hh
 rename_i hw; simp only [hw] at hh; exact hh
theorem nS {ro : Option Nat} {m : Nat} {ops : Array Oper} {QQ : Exit → Act → World → Prop} {n g : Nat} {L : Array Bool → Act → Prop} (hnd : ro = none ∨ gE ops = true) (hL : ∀ listed a, L listed a → wpAnyIn (wd ro) m P .any ops QQ g listed a w) :
  ∀ (f : Nat) (listed : Array Bool) (a : Act), wpAnyL P .any ops w n L f listed a → wpAnyIn (wd ro) m P .any ops QQ (f + g) listed a w
 | 0, listed, a, h => by rw [Nat.zero_add]; exact hL _ _ h
 | f + 1, listed, a, h => by
  rw [show f + 1 + g = (f + g) + 1 by omega]
  refine ⟨fun h0 => absurd h0 h.1, fun i hi => ?_⟩
  have h2 := wpOp_of_stOp (Q' := fun _ _ _ => False) (K' := fun a' w' => w' = w ∧ wpAnyL P .any ops w n L f (listed.setIfInBounds i true) a') (fun a' h' => ⟨rfl, h'⟩) (h.2 i hi).2
  have h3 := qJv (ro := ro) (m := m) (K' := fun a' w' => wpAnyIn (wd ro) m P .any ops QQ (f + g) (listed.setIfInBounds i true) a' w') hnd (fun ⟨_, _, h⟩ => h) (fun a' w' h' => by rw [h'.1]; exact nS hnd hL f _ a' h'.2) h2
  exact qZ1 (fun e a w h => h.elim) h3
def qQ (w w' : World) : Prop := ∃ m, w' = w.drewN m
def dM (P : Program) (n : NF) (ops : Array Oper) (l : List Oper) (Γ : Env) (w : World) (K : Env → Prop) : Prop :=
 ∀ a, Sat n Γ a → wpQuiet P ops (qQ w) (fun a' => ∃ Γ', Sat n Γ' a' ∧ K Γ') l a
section
variable {ops : Array Oper} {rest : List Oper} {o : Oper} {K : Env → Prop}
theorem dM.nil (h : K Γ) : dM P n ops [] Γ w K := fun _ hs => wpQuiet_nil ⟨Γ, hs, h⟩
theorem dM.of_quiet (hup : Up ops Γ o.guard) (h : ∀ a, Sat n Γ a → o.quiet P a (qQ w) (wpQuiet P ops (qQ w) (fun a' => ∃ Γ', Sat n Γ' a' ∧ K Γ') rest)) : dM P n ops (o :: rest) Γ w K := by
 intro a hs
 unfold wpQuiet
 rw [if_pos (hup.wanted hs)]
 exact h a hs
theorem dM.run {v : Value} (h : ∀ w', qQ w w' → Run P o Γ w' v) {d : Nat} (hup : Up ops Γ o.guard) (hd : o.dst = some d) (hn : Nat.blt d n.n = true)
  (k : dM P n ops rest ((d, v) :: Γ) w K) : dM P n ops (o :: rest) Γ w K :=
 dM.of_quiet hup fun a hs => ⟨v, fun w' hw' => by
  unfold Oper.quietAt
  rw [h w' hw' _ hs.fits]
  exact ⟨rfl, rfl⟩, by rw [hd]; exact k _ (hs.put hn v)⟩
theorem dM.call {v : Value} {f : FuncId} {args : Array Value} (he : ∀ w', qQ w w' → bW P o Γ w' f args) (hc : ∀ w', qQ w w' → Calls P f args w' (fun e w'' => e = .returned v ∧ qQ w' w''))
  {d : Nat} (hup : Up ops Γ o.guard) (hd : o.dst = some d) (hn : Nat.blt d n.n = true)
  (k : dM P n ops rest ((d, v) :: Γ) w K) : dM P n ops (o :: rest) Γ w K :=
 dM.of_quiet hup fun a hs => ⟨v, fun w' hw' => by
  unfold Oper.quietAt
  rw [he w' hw' _ hs.fits]
  refine ⟨rfl, (hc w' hw').mono ?_⟩
  rintro e w'' ⟨he, m, rfl⟩
  obtain ⟨m', rfl⟩ := hw'
  exact ⟨he, m' + m, jp⟩, by rw [hd]; exact k _ (hs.put hn v)⟩
theorem dM.skip {j : Nat} {b c : Bool} (hg : o.guard = some (j, c)) (hy : yi ops Γ j = some (.bool b)) (hbc : b = !c) {d : Nat} (hd : o.dst = some d) (hn : Nat.blt d n.n = true)
  (k : dM P n ops rest ((d, undef) :: Γ) w K) : dM P n ops (o :: rest) Γ w K := by
 intro a hs
 unfold wpQuiet
 have hw : Region.wanted o (yielded ops a.tmps) = false := by
  unfold Region.wanted
  rw [hg]
  simp only
  rw [oP hs hy, hbc]
  cases c <;> rfl
 rw [hw, hd]
 simp only [Bool.false_eq_true, if_false]
 exact k _ (hs.put hn undef)
end
def qW (P : Program) (n : NF) (ops : Array Oper) (l : List Oper) (Γ : Env) (w : World) (K : Env → Prop) : Prop :=
 ∀ a, Sat n Γ a → wpStill P ops w (fun a' => ∃ Γ', Sat n Γ' a' ∧ K Γ') l a
section
variable {ops : Array Oper} {rest : List Oper} {o : Oper} {K : Env → Prop}
theorem kS {K K' : Act → Prop} (h : ∀ a, K a → K' a) : ∀ (l : List Oper) (a : Act), wpStill P ops w K l a → wpStill P ops w K' l a
 | [], a, hq => h a hq
 | o :: l, a, hq => by
  unfold wpStill at hq ⊢
  split
  · rename_i hw; rw [if_pos hw] at hq; exact Oper.still_mono (fun a => kS h l a) hq
  rename_i hw; rw [if_neg hw] at hq; exact kS h l _ hq
theorem qW.nil (h : K Γ) : qW P n ops [] Γ w K := fun _ hs => wpStill_nil ⟨Γ, hs, h⟩
theorem qW.of_still (hup : Up ops Γ o.guard) (h : ∀ a, Sat n Γ a → o.still P a w (wpStill P ops w (fun a' => ∃ Γ', Sat n Γ' a' ∧ K Γ') rest)) : qW P n ops (o :: rest) Γ w K := by
 intro a hs
 unfold wpStill
 rw [if_pos (hup.wanted hs)]
 exact h a hs
theorem qW.run {v : Value} (h : Run P o Γ w v) {d : Nat} (hup : Up ops Γ o.guard) (hd : o.dst = some d) (hn : Nat.blt d n.n = true)
  (k : qW P n ops rest ((d, v) :: Γ) w K) : qW P n ops (o :: rest) Γ w K :=
 qW.of_still hup fun a hs => by
  unfold Oper.still
  rw [h _ hs.fits, Oper.stillUpon_value, hd]
  exact k _ (hs.put hn v)
theorem qW.call {v : Value} {f : FuncId} {args : Array Value} (he : bW P o Γ w f args) (hc0 : Calls P f args w (fun e w' => e = .returned v ∧ w = w')) {d : Nat} (hup : Up ops Γ o.guard) (hd : o.dst = some d) (hn : Nat.blt d n.n = true)
  (k : qW P n ops rest ((d, v) :: Γ) w K) : qW P n ops (o :: rest) Γ w K :=
 qW.of_still hup fun a hs => by
  unfold Oper.still
  rw [he _ hs.fits]
  exact ⟨rfl, v, hc0.mono fun _ _ ⟨h1, h2⟩ => ⟨h1, h2.symm⟩, by rw [hd]; exact k _ (hs.put hn v)⟩
end
theorem VC.tail {id : Nat} {l : List Oper} (N : Nat) (hm : P.follows .mixedOrders = true) (hB : Region.lexTailB .any l.toArray N = true)
  (h : qW P n l.toArray (l.take N) Γ w.drew (fun Γ' => Ops P n l.toArray (l.drop N) Γ' w.drew Q)) (hnd : n.ro = none ∨ gE l.toArray = true := by first | exact .inl rfl | exact .inr (by kernel_rfl)) : VC P n (.region id l.toArray true) Γ w Q := by
 intro a hs m
 have h1 := kS (K' := fun a' => wpListIn (wd n.ro) m P l.toArray (lX n Q) (l.drop N) a' w.drew) (fun a' ⟨Γ', hs', hk⟩ => hk a' hs' m) _ a (h a hs)
 simp only [Region.lexTailB, Bool.and_eq_true, decide_eq_true_eq] at hB
 obtain ⟨⟨⟨⟨hsel, hn⟩, hsk⟩, hc⟩, hlex⟩ := hB
 have htl : (l.take N).length = N := by simp; simp at hn; omega
 have hdl : (l.drop N).length = l.toArray.size - N := jp
 have inv0 : HeadInv .any l.toArray N (Array.replicate l.toArray.size false) :=
  ⟨jp, fun j oj _ hl => (by rw [getD_replicate_false] at hl; cases hl), fun t _ ht => getD_in (by simpa using ht) (getD_replicate_false _ _)⟩
 have H := wpAnyL_lex (md := .any) (g := l.toArray.size - N) hsel hsk hc hn (l.take N) 0 _ a (fun j hj => by
  have hj' : j < N := by rw [htl] at hj; exact hj
  simp [hj']) (by simpa using htl) inv0 (by rw [htl]; exact hlex) h1
 refine wpIn_region_any hm ?_
 have := nS (QQ := lX n Q) (g := l.toArray.size - N) hnd (fun listed a' hL => by
  have := oR (QQ := lX n Q) (l.drop N) N listed a' w.drew (fun j => by simp [List.getElem?_drop]) (by rw [hdl]; exact hL.1) hL.2
  rwa [hdl] at this) _ _ _ H
 rw [htl, show N + (l.toArray.size - N) = l.toArray.size by simp at hn ⊢; omega] at this
 exact this
theorem VC.still {id : Nat} {l : List Oper} (hm : P.follows .mixedOrders = true) (hB : Region.lexB .any l.toArray = true)
  (h : qW P n l.toArray l Γ w.drew (fun Γ' => Q .normal Γ' w.drew)) (hnd : n.ro = none ∨ gE l.toArray = true := by first | exact .inl rfl | exact .inr (by kernel_rfl)) : VC P n (.region id l.toArray true) Γ w Q := by
 intro a hs m
 have h1 := kS (K' := fun a' => lX n Q .normal a' w.drew) (fun a' ⟨Γ', hs', hk⟩ => ⟨Γ', hs', hk⟩) _ a (h a hs)
 simp only [Region.lexB, Bool.and_eq_true] at hB
 refine wpIn_mono (Q := fun e a w => e = .normal ∧ lX n Q .normal a w) (wpIn_region_any hm (uD (QQ := fun e a w => e = .normal ∧ lX n Q .normal a w) hnd (fun ⟨_, _, h⟩ => by cases h.1) _ _ _ _
  (wpAny_of_still (w := w.drew) (Q := fun a' => lX n Q .normal a' w.drew) (fun _ h => ⟨rfl, h⟩) _ _ _ ?_))) (fun e a w h => by rw [h.1]; exact h.2)
 have := wpAnyS_lex (md := .any) hB.1 l.toArray.toList 0 (Array.replicate l.toArray.size false) a jp (by simpa using hB.2) (by simpa using h1)
 simpa using this
def qK1 (tmps : Array Value) : ResultVar → Sem Value
 | .tmp t => pure (tmps.getD t undef)
 | .cell a t => do loadVar t (← asAddr (tmps.getD a undef))
def qK2 : List Value → Value
 | [v] => v
 | l => .tuple l.toArray
theorem qK3 (fn : Func) (tmps : Array Value) : results fn tmps = (do let vs ← fn.results.mapM (qK1 tmps); pure (if h : vs.size = 1 then vs[0] else .tuple vs)) := by
 unfold results
 congr 1
def jL (P : Program) : List ResultVar → Env → World → (List Value → Prop) → Prop
 | [], _, _, K => K []
 | .tmp t :: r, Γ, w, K => ∃ v, get? Γ t = some v ∧ jL P r Γ w fun vs => K (v :: vs)
 | .cell t T :: r, Γ, w, K => ∃ a v, get? Γ t = some (.pointer (some a)) ∧ (loadVar T a).run P w = .ok v w ∧ jL P r Γ w fun vs => K (v :: vs)
theorem uE {P : Program} {n : NF} {Γ : Env} {a : Act} {w : World} (hs : Sat n Γ a) : ∀ (l : List ResultVar) (K : List Value → Prop), jL P l Γ w K → ∃ vs, (l.mapM (qK1 a.tmps)).run P w = .ok vs w ∧ K vs
 | [], K, h => ⟨[], jp, h⟩
 | .tmp t :: r, K, h => by
  obtain ⟨v, h1, h2⟩ := h
  obtain ⟨vs, h3, h4⟩ := uE hs r _ h2
  have h5 := hs.at_ t v h1
  refine ⟨v :: vs, ?_, h4⟩
  rw [List.mapM_cons]
  simp [qK1, h3]
  simpa using h5
 | .cell t T :: r, K, h => by
  obtain ⟨p, v, h1, h2, h3⟩ := h
  obtain ⟨vs, h4, h5⟩ := uE hs r _ h3
  have h6 := hs.at_ t _ h1
  refine ⟨v :: vs, ?_, h5⟩
  have h7 : (asAddr (.pointer (some p))).run P w = .ok p w := rfl
  rw [List.mapM_cons]
  simp [qK1, h4, h6, h2, h7]
theorem fK {P : Program} {n : NF} {Γ : Env} {a : Act} {w : World} (hs : Sat n Γ a) {fn : Func} {res : Array ResultVar} (hr : fn.results = res) {K : List Value → Prop} (h : jL P res.toList Γ w K) : ∃ vs, (results fn a.tmps).run P w = .ok (qK2 vs) w ∧ K vs := by
 obtain ⟨vs, h1, h2⟩ := uE hs _ K h
 refine ⟨vs, ?_, h2⟩
 rw [qK3, hr, Array.mapM_eq_mapM_toList]
 simp [h1]
 match vs with
 | [] => rfl
 | [v] => rfl
 | v :: u :: r => simp [qK2]
def fP (P : Program) (res : Array ResultVar) (R : Ending → World → Prop) : Exit → Env → World → Prop
 | .normal, Γ, w | .ret, Γ, w => jL P res.toList Γ w fun vs => R (.returned (qK2 vs)) w
 | .panic ch, _, w => R (.panicked ch) w
 | _, _, _ => False
def argEnv : Nat → List Value → Env
 | _, [] => []
 | k, v :: r => (k, v) :: argEnv (k + 1) r
theorem mG (l : List Value) : ∀ (k t : Nat) (v : Value), get? (argEnv k l) t = some v → k ≤ t ∧ l[t - k]? = some v := by
 induction l with
 | nil => intro k t v h; simp [argEnv, get?] at h
 | cons u r ih =>
  intro k t v h
  simp only [argEnv, get?] at h
  cases hb : Nat.beq k t with
  | true =>
   rw [hb] at h
   simp only [cond_true, Option.some.injEq] at h
   have := Nat.eq_of_beq_eq_true hb
   subst this
   subst h
   simp
  | false =>
   rw [hb] at h
   obtain ⟨h1, h2⟩ := ih (k + 1) t v h
   refine ⟨jo, ?_⟩
   have e : t - k = (t - (k + 1)) + 1 := jo
   rw [e, List.getElem?_cons_succ]
   exact h2
theorem VC.calls {f : FuncId} {fn : Func} {c : Code} {args : List Value} {w : World} {R : Ending → World → Prop} {nt : Nat} {res : Array ResultVar}
  (hf : P.funcs[f]? = some fn) (hb : fn.body = some c) (hn : fn.ntmps = nt) (hr : fn.results = res) (hl0 : Nat.ble args.length nt = true)
  (h : VC P ⟨nt, [], none⟩ c (argEnv 0 args) w (fP P res R)) : Calls P f args.toArray w R := by
 have hl : args.length ≤ nt := Nat.le_of_ble_eq_true hl0
 refine calls_of_wp hf hb ?_
 refine wpIn_wide.1 (wpIn_mono (h _ ?_ 0) ?_)
 ·
  refine ⟨?_, rfl, ?_⟩
  ·
   simp only [Array.size_append, List.size_toArray, Array.size_replicate, hn]
   omega
  intro t v ht
  obtain ⟨_, h2⟩ := mG args 0 t v ht
  simp only [Nat.sub_zero] at h2
  have hlt : t < args.length := (List.getElem?_eq_some_iff.1 h2).1
  rw [Array.getD_eq_getD_getElem?, Array.getElem?_append_left (by simpa using hlt)]
  simp [h2]
 intro e a w hq
 obtain ⟨Γ, hs, q⟩ := hq
 have key : ∀ (Γ : Env), Sat ⟨nt, [], none⟩ Γ a → fP P res R .ret Γ w → ∃ v, (results fn a.tmps).run P w = .ok v w ∧ R (.returned v) w := by
  intro Γ hs q
  simp only [fP] at q
  obtain ⟨vs, h1, h2⟩ := fK hs hr q
  exact ⟨_, h1, h2⟩
 cases e with
 | normal => obtain ⟨v, h1, h2⟩ := key Γ hs q; exact ⟨hs.defers, v, h1, h2⟩
 | ret => obtain ⟨v, h1, h2⟩ := key Γ hs q; exact ⟨hs.defers, v, h1, h2⟩
 | panic ch => exact ⟨hs.defers, q⟩
 | exit id => exact q.elim
 | goto l => exact q.elim
 | outgrown => exact q.elim
end
end
section
open Go.RowKit
def Bin (op : BinOp) (k : IntKind) (x : Int) (k' : IntKind) (y : Int) (v : Value) : Prop := ∀ (P : Program) (T : TypeId) (w : World), (binOp op T (.int k x) (.int k' y)).run P w = .ok v w
def bmax (k : IntKind) : Nat := match k with | .i8 => 127 | .i16 => 32767 | .i32 => 2147483647 | .i64 => 9223372036854775807 | .u8 => 255 | .u16 => 65535 | .u32 => 4294967295 | .u64 => 18446744073709551615
def xG (k : IntKind) : Int := match k with | .i8 => -128 | .i16 => -32768 | .i32 => -2147483648 | .i64 => -9223372036854775808 | _ => 0
theorem pZ (k : IntKind) (x : Int) (h1 : xG k ≤ x) (h2 : x ≤ (bmax k : Int)) : k.wrap x = x := by
 cases k <;> simp only [xG, bmax] at h1 h2
 · exact IntWalk.i8_in _ ⟨h1, jo⟩
 · exact IntWalk.i16_in _ ⟨h1, jo⟩
 · exact IntWalk.i32_in _ ⟨h1, jo⟩
 · exact IntWalk.i64_in _ ⟨h1, jo⟩
 · exact IntWalk.u8_in _ ⟨h1, jo⟩
 · exact IntWalk.u16_in _ ⟨h1, jo⟩
 · exact IntWalk.u32_in _ ⟨h1, jo⟩
 exact IntWalk.u64_in _ ⟨h1, jo⟩
theorem fR (k : IntKind) (x : Nat) (h : x ≤ bmax k) : k.wrap (x : Int) = x := pZ k x (by cases k <;> simp only [xG] <;> omega) (by exact_mod_cast h)
theorem qHj (x : Nat) : IntKind.u64.wrap (x : Int) = ((x % 18446744073709551616 : Nat) : Int) := by
 simp only [IntKind.wrap, IntKind.bits, IntKind.signed, Bool.false_and, Bool.false_eq_true, if_false]; omega
theorem qJw (x : Nat) : IntKind.u8.wrap (x : Int) = ((x % 256 : Nat) : Int) := by
 simp only [IntKind.wrap, IntKind.bits, IntKind.signed, Bool.false_and, Bool.false_eq_true, if_false]; omega
theorem qHk (x : Nat) : IntKind.u32.wrap (x : Int) = ((x % 4294967296 : Nat) : Int) := by
 simp only [IntKind.wrap, IntKind.bits, IntKind.signed, Bool.false_and, Bool.false_eq_true, if_false]; omega
section
variable {k : IntKind}
theorem Bin.add (x y : Int) (h1 : xG k ≤ x + y) (h2 : x + y ≤ (bmax k : Int)) : Bin .add k x k y (.int k (x + y)) := fun P T w => by simp [binOp, Op.intArith, pZ k _ h1 h2]
theorem Bin.sub (x y : Int) (h1 : xG k ≤ x - y) (h2 : x - y ≤ (bmax k : Int)) : Bin .sub k x k y (.int k (x - y)) := fun P T w => by simp [binOp, Op.intArith, pZ k _ h1 h2]
theorem Bin.mul (x y : Int) (h1 : xG k ≤ x * y) (h2 : x * y ≤ (bmax k : Int)) : Bin .mul k x k y (.int k (x * y)) := fun P T w => by simp [binOp, Op.intArith, pZ k _ h1 h2]
theorem Bin.lss (x y : Int) : Bin .lss k x k y (.bool (decide (x < y))) := fun P T w => by simp [binOp, Op.intCmp]
theorem Bin.leq (x y : Int) : Bin .leq k x k y (.bool (decide (x ≤ y))) := fun P T w => by simp [binOp, Op.intCmp]
theorem Bin.gtr (x y : Int) : Bin .gtr k x k y (.bool (decide (y < x))) := fun P T w => by simp [binOp, Op.intCmp]
theorem Bin.geq (x y : Int) : Bin .geq k x k y (.bool (decide (y ≤ x))) := fun P T w => by simp [binOp, Op.intCmp]
theorem Bin.eql (x y : Int) : Bin .eql k x k y (.bool (decide (x = y))) := fun P T w => by simp [binOp, Op.intCmp]; rfl
theorem Bin.neq (x y : Int) : Bin .neq k x k y (.bool (decide (x ≠ y))) := fun P T w => by
 simp only [binOp, Op.intCmp, ne_eq, not_true_eq_false, if_false]
 show Result.ok (Value.bool (x != y)) w = _
 congr 2
 rw [Bool.eq_iff_iff]; simp
theorem Bin.addN (x y : Nat) (h : x + y ≤ bmax k) : Bin .add k x k y (.int k ((x + y : Nat) : Int)) := fun P T w => by
 have e : ((x : Int) + (y : Int)) = ((x + y : Nat) : Int) := rfl
 simp only [binOp, Op.intArith, ne_eq, not_true_eq_false, if_false, e, fR k _ h]; rfl
theorem Bin.subN (x y : Nat) (hy : y ≤ x) (h : x - y ≤ bmax k) : Bin .sub k x k y (.int k ((x - y : Nat) : Int)) := fun P T w => by
 have e : ((x : Int) - (y : Int)) = ((x - y : Nat) : Int) := (Int.ofNat_sub hy).symm
 simp only [binOp, Op.intArith, ne_eq, not_true_eq_false, if_false, e, fR k _ h]; rfl
theorem Bin.mulN (x y : Nat) (h : x * y ≤ bmax k) : Bin .mul k x k y (.int k ((x * y : Nat) : Int)) := fun P T w => by
 have e : ((x : Int) * (y : Int)) = ((x * y : Nat) : Int) := rfl
 simp only [binOp, Op.intArith, ne_eq, not_true_eq_false, if_false, e, fR k _ h]; rfl
theorem Bin.lssN (x y : Nat) : Bin .lss k x k y (.bool (decide (x < y))) := fun P T w => by simp [binOp, Op.intCmp]
theorem Bin.leqN (x y : Nat) : Bin .leq k x k y (.bool (decide (x ≤ y))) := fun P T w => by simp [binOp, Op.intCmp]
theorem Bin.gtrN (x y : Nat) : Bin .gtr k x k y (.bool (decide (y < x))) := fun P T w => by simp [binOp, Op.intCmp]
theorem Bin.geqN (x y : Nat) : Bin .geq k x k y (.bool (decide (y ≤ x))) := fun P T w => by simp [binOp, Op.intCmp]
theorem Bin.eqlN (x y : Nat) : Bin .eql k x k y (.bool (decide (x = y))) := fun P T w => by
 have := Bin.eql (k := k) x y P T w
 simpa [Int.natCast_inj] using this
theorem Bin.neqN (x y : Nat) : Bin .neq k x k y (.bool (decide (x ≠ y))) := fun P T w => by
 have := Bin.neq (k := k) x y P T w
 simpa [Int.natCast_inj] using this
theorem Bin.quoN (x y : Nat) (hy : y ≠ 0) (h : x / y ≤ bmax k) : Bin .quo k x k y (.int k ((x / y : Nat) : Int)) := fun P T w => by
 have e : ((x : Int).tdiv (y : Int)) = ((x / y : Nat) : Int) := rfl
 have hy' : ¬ ((y : Int) = 0) := jo
 simp only [binOp, Op.intDiv, ne_eq, not_true_eq_false, hy', if_false, e, fR k _ h]; rfl
theorem Bin.remN (x y : Nat) (hy : y ≠ 0) : Bin .rem k x k y (.int k ((x % y : Nat) : Int)) := fun P T w => by
 have e : ((x : Int).tmod (y : Int)) = ((x % y : Nat) : Int) := rfl
 have hy' : ¬ ((y : Int) = 0) := jo
 simp only [binOp, Op.intDiv, ne_eq, not_true_eq_false, hy', if_false, e]; rfl
theorem kG (n a : Nat) (h : a < 2 ^ n) : (BitVec.ofInt n (a : Int)).toNat = a := by
 rw [BitVec.ofInt_natCast, BitVec.toNat_ofNat]; exact Nat.mod_eq_of_lt h
theorem lZ (k : IntKind) (x : Nat) (h : x ≤ bmax k) : x < 2 ^ k.bits := by cases k <;> simp only [bmax, IntKind.bits] at h ⊢ <;> omega
theorem Bin.andN (x y : Nat) (hx : x ≤ bmax k) (hy : y ≤ bmax k) : Bin .and k x k y (.int k ((x &&& y : Nat) : Int)) := fun P T w => by
 have h : x &&& y ≤ bmax k := Nat.le_trans Nat.and_le_left hx
 simp only [binOp, Op.intBits, ne_eq, not_true_eq_false, if_false, BitVec.toNat_and, kG _ _ (lZ k x hx), kG _ _ (lZ k y hy), fR k _ h]
 rfl
theorem qQs (k : IntKind) : ∃ m, bmax k + 1 = 2 ^ m := by cases k <;> first | exact ⟨7, rfl⟩ | exact ⟨15, rfl⟩ | exact ⟨31, rfl⟩ | exact ⟨63, rfl⟩ | exact ⟨8, rfl⟩ | exact ⟨16, rfl⟩ | exact ⟨32, rfl⟩ | exact ⟨64, rfl⟩
theorem Bin.orN (x y : Nat) (hx : x ≤ bmax k) (hy : y ≤ bmax k) : Bin .or k x k y (.int k ((x ||| y : Nat) : Int)) := fun P T w => by
 have h : x ||| y ≤ bmax k := by
  obtain ⟨m, hm⟩ := qQs k
  have := Nat.or_lt_two_pow (n := m) (x := x) (y := y) jo jo
  omega
 simp only [binOp, Op.intBits, ne_eq, not_true_eq_false, if_false, BitVec.toNat_or, kG _ _ (lZ k x hx), kG _ _ (lZ k y hy), fR k _ h]
 rfl
theorem Bin.xorN (x y : Nat) (hx : x ≤ bmax k) (hy : y ≤ bmax k) : Bin .xor k x k y (.int k ((x ^^^ y : Nat) : Int)) := fun P T w => by
 have h : x ^^^ y ≤ bmax k := by
  obtain ⟨m, hm⟩ := qQs k
  have := Nat.xor_lt_two_pow (n := m) (x := x) (y := y) jo jo
  omega
 simp only [binOp, Op.intBits, ne_eq, not_true_eq_false, if_false, BitVec.toNat_xor, kG _ _ (lZ k x hx), kG _ _ (lZ k y hy), fR k _ h]
 rfl
theorem Bin.shrN {k' : IntKind} (x y : Nat) (hx : x ≤ bmax k) : Bin .shr k x k' y (.int k ((x / 2 ^ y : Nat) : Int)) := fun P T w => by
 have h0 : ¬ ((y : Int) < 0) := jo
 have e : (x : Int).fdiv (2 ^ (min (y : Int).toNat k.bits)) = ((x / 2 ^ y : Nat) : Int) := by
  rw [Int.toNat_natCast]
  have hlt := lZ k x hx
  by_cases hm : y ≤ k.bits
  ·
   rw [Nat.min_eq_left hm]
   have : ((2 : Int) ^ y) = ((2 ^ y : Nat) : Int) := jp
   rw [this, Int.fdiv_eq_ediv_of_nonneg _ (Int.natCast_nonneg _)]
   rfl
  rw [Nat.min_eq_right jo]
  have : ((2 : Int) ^ k.bits) = ((2 ^ k.bits : Nat) : Int) := jp
  rw [this, Int.fdiv_eq_ediv_of_nonneg _ (Int.natCast_nonneg _)]
  have h1 : x / 2 ^ k.bits = 0 := Nat.div_eq_of_lt hlt
  have h2 : x / 2 ^ y = 0 := Nat.div_eq_of_lt (Nat.lt_of_lt_of_le hlt (Nat.pow_le_pow_right jo jo))
  rw [h2]
  show ((x / 2 ^ k.bits : Nat) : Int) = _
  rw [h1]
 simp only [binOp, Op.shift, h0, if_false, e]; rfl
theorem Bin.shlN {k' : IntKind} (x y : Nat) (hy : y ≤ k.bits) (h : x * 2 ^ y ≤ bmax k) : Bin .shl k x k' y (.int k ((x * 2 ^ y : Nat) : Int)) := fun P T w => by
 have h0 : ¬ ((y : Int) < 0) := jo
 have e : (x : Int) * 2 ^ (min (y : Int).toNat k.bits) = ((x * 2 ^ y : Nat) : Int) := by
  rw [Int.toNat_natCast, Nat.min_eq_left hy]; simp
 simp only [binOp, Op.shift, h0, if_false, e, fR k _ h]
 rfl
theorem Bin.shlU {k' : IntKind} (x y : Nat) : Bin .shl .u64 x k' y (.int .u64 (((x * 2 ^ y) % 18446744073709551616 : Nat) : Int)) := fun P T w => by
 have h0 : ¬ ((y : Int) < 0) := jo
 have e : IntKind.u64.wrap ((x : Int) * 2 ^ (min (y : Int).toNat IntKind.u64.bits)) = (((x * 2 ^ y) % 18446744073709551616 : Nat) : Int) := by
  rw [Int.toNat_natCast]
  have e1 : ∀ m : Nat, (x : Int) * 2 ^ m = ((x * 2 ^ m : Nat) : Int) := fun m => jp
  rw [e1, qHj]
  show ((x * 2 ^ (min y 64) % 18446744073709551616 : Nat) : Int) = _
  by_cases hm : y ≤ 64
  · rw [Nat.min_eq_left hm]
  rw [Nat.min_eq_right jo]
  have h1 : x * 2 ^ 64 % 18446744073709551616 = 0 := by omega
  have h2 : x * 2 ^ y % 18446744073709551616 = 0 := by
   have : 2 ^ y = 2 ^ 64 * 2 ^ (y - 64) := by rw [← Nat.pow_add]; congr 1; omega
   rw [this, ← Nat.mul_assoc, Nat.mul_right_comm]
   exact Nat.mul_mod_left _ _
  rw [h1, h2]
 simp only [binOp, Op.shift, h0, if_false, e]
 rfl
theorem Bin.shl8 {k' : IntKind} (x y : Nat) (hy : y ≤ 8) : Bin .shl .u8 x k' y (.int .u8 (((x * 2 ^ y) % 256 : Nat) : Int)) := fun P T w => by
 have h0 : ¬ ((y : Int) < 0) := jo
 have e : IntKind.u8.wrap ((x : Int) * 2 ^ (min (y : Int).toNat IntKind.u8.bits)) = (((x * 2 ^ y) % 256 : Nat) : Int) := by
  rw [Int.toNat_natCast]
  have e1 : ∀ m : Nat, (x : Int) * 2 ^ m = ((x * 2 ^ m : Nat) : Int) := fun m => jp
  rw [e1, qJw]
  show ((x * 2 ^ (min y 8) % 256 : Nat) : Int) = _
  rw [Nat.min_eq_left hy]
 simp only [binOp, Op.shift, h0, if_false, e]
 rfl
end
section
variable {P : Program} {Γ : Env} {w : World} {dst : Option Tmp} {T : TypeId} {pos : String} {after : Array Edge} {g : Option (Nat × Bool)}
theorem Run.mv {x : Operand} {v : Value} (h : ev? Γ x = some v) : Run P ⟨dst, .move x, T, pos, after, g⟩ Γ w v := fun ρ hρ => by
 simp [execOp, hρ _ _ h]
theorem Run.asg {x : Operand} {v : Value} (h : ev? Γ x = some v) : Run P ⟨dst, .assign x, T, pos, after, g⟩ Γ w v := fun ρ hρ => by
 simp [execOp, hρ _ _ h]
theorem Run.pick {c x y : Operand} {b : Bool} {u v : Value} (hc : ev? Γ c = some (.bool b)) (hx : ev? Γ x = some u) (hy : ev? Γ y = some v) :
  Run P ⟨dst, .pick c x y, T, pos, after, g⟩ Γ w (if b then u else v) := fun ρ hρ => by
 simp [execOp, hρ _ _ hc, hρ _ _ hx, hρ _ _ hy, asBool]
theorem Run.pickT {c x y : Operand} {b : Bool} {u : Value} (hc : ev? Γ c = some (.bool b)) (hx : ev? Γ x = some u) (hb : b = true) :
  Run P ⟨dst, .pick c x y, T, pos, after, g⟩ Γ w u := fun ρ hρ => by
 simp [execOp, hρ _ _ hc, hρ _ _ hx, asBool, hb]
theorem Run.pickF {c x y : Operand} {b : Bool} {v : Value} (hc : ev? Γ c = some (.bool b)) (hy : ev? Γ y = some v) (hb : b = false) :
  Run P ⟨dst, .pick c x y, T, pos, after, g⟩ Γ w v := fun ρ hρ => by
 simp [execOp, hρ _ _ hc, hρ _ _ hy, asBool, hb]
theorem Run.bin {op : BinOp} {xT yT : TypeId} {x y : Operand} {k k' : IntKind} {a b : Int} {v : Value} (hx : ev? Γ x = some (.int k a)) (hy : ev? Γ y = some (.int k' b)) (hb : Bin op k a k' b v) :
  Run P ⟨dst, .binOp op xT x y yT, T, pos, after, g⟩ Γ w v := fun ρ hρ => by
 have h0 : (eqGuard op xT x y (.int k a) (.int k' b)).run P w = .ok () w := by
  unfold eqGuard
  split <;> rfl
 have h1 := hb P xT w
 simp only [execOp, hρ _ _ hx, hρ _ _ hy, Sem.run_bind, h0, Result.andThen_ok, h1, Sem.run_pure]
theorem Run.not {xT : TypeId} {x : Operand} {b : Bool} (hx : ev? Γ x = some (.bool b)) : Run P ⟨dst, .unOp .not xT x, T, pos, after, g⟩ Γ w (.bool (!b)) := fun ρ hρ => by
 simp [execOp, hρ _ _ hx, Op.unary]
theorem Run.nilck {x : Operand} {a : Addr} (hx : ev? Γ x = some (.pointer (some a))) : Run P ⟨dst, .nilCheck x, T, pos, after, g⟩ Γ w (.pointer (some a)) := fun ρ hρ => by
 simp [execOp, hρ _ _ hx]
theorem Run.conv {src dstT : TypeId} {x : Operand} {k k' : IntKind} {a : Int} {d : TypeDesc} (hx : ev? Γ x = some (.int k a)) (hs : P.underlying src = some d) (hd : P.underlying dstT = some (.int k')) (r : Int) (hr : k'.wrap a = r) :
  Run P ⟨dst, .convert src dstT x, T, pos, after, g⟩ Γ w (.int k' r) := fun ρ hρ => by
 simp [execOp, hρ _ _ hx, convert, run_underlying hs, run_underlying hd, Conv.intToInt, hr]
theorem Run.convN {src dstT : TypeId} {x : Operand} {k k' : IntKind} {d : TypeDesc} (a : Nat) (hx : ev? Γ x = some (.int k a)) (hs : P.underlying src = some d) (hd : P.underlying dstT = some (.int k')) (hr : a ≤ bmax k') :
  Run P ⟨dst, .convert src dstT x, T, pos, after, g⟩ Γ w (.int k' a) := Run.conv hx hs hd _ (fR k' a hr)
theorem Run.conv8 {src dstT : TypeId} {x : Operand} {k : IntKind} {d : TypeDesc} (a : Nat) (hx : ev? Γ x = some (.int k a)) (hs : P.underlying src = some d) (hd : P.underlying dstT = some (.int .u8)) :
  Run P ⟨dst, .convert src dstT x, T, pos, after, g⟩ Γ w (.int .u8 ((a % 256 : Nat) : Int)) := Run.conv hx hs hd _ (qJw a)
theorem Run.fieldAddr {s : TypeId} {x : Operand} {f : Nat} {a : Addr} {fs : Array Field} {fd : Field} {sz : Nat} (hx : ev? Γ x = some (.pointer (some a))) (hs : P.underlying s = some (.struct fs)) (hf : fs[f]? = some fd)
  (hz : ∀ w, (sizeOf fd.type).run P w = .ok sz w) (hz0 : sz ≠ 0) : Run P ⟨dst, .fieldAddr s x f, T, pos, after, g⟩ Γ w (.pointer (some (a.add fd.offset))) := fun ρ hρ => by
 simp [execOp, hρ _ _ hx, Instr.fieldAt, run_underlying hs, hf, Instr.sureAddr, fieldPlace, hz, hz0]
theorem Run.indexS {t : TypeId} {x i : Operand} {a : Addr} {len cap : Nat} {k : IntKind} {e : TypeId} {sz : Nat} (j : Nat) (hx : ev? Γ x = some (.slice (some a) len cap)) (hi : ev? Γ i = some (.int k j)) (ht : P.underlying t = some (.slice e))
  (hz : ∀ w, (sizeOf e).run P w = .ok sz w) (hj : j < len) : Run P ⟨dst, .indexAddr t x i, T, pos, after, g⟩ Γ w (.pointer (some (a.add (j * sz)))) := fun ρ hρ => by
 have h1 : (j : Int) < (len : Int) := jo
 simp [execOp, hρ _ _ hx, hρ _ _ hi, Instr.indexAt, asIntOf, run_underlying ht, hz, hj]
theorem Run.index1 {t : TypeId} {x i : Operand} {a : Addr} {len cap : Nat} {k : IntKind} {e : TypeId} (j : Nat) (hx : ev? Γ x = some (.slice (some a) len cap)) (hi : ev? Γ i = some (.int k j)) (ht : P.underlying t = some (.slice e))
  (hz : ∀ w, (sizeOf e).run P w = .ok 1 w) (hj : j < len) : Run P ⟨dst, .indexAddr t x i, T, pos, after, g⟩ Γ w (.pointer (some (a.add j))) := by
 have := Run.indexS (P := P) (Γ := Γ) (w := w) (dst := dst) (T := T) (pos := pos) (after := after) (g := g) j hx hi ht hz hj
 rwa [Nat.mul_one] at this
theorem Run.load {t : TypeId} {x : Operand} {a : Addr} {v : Value} (hx : ev? Γ x = some (.pointer (some a))) (ht : ∀ w, (isAgg t).run P w = .ok false w) (hc : w.cell? a = some v) :
  Run P ⟨dst, .load t x, T, pos, after, g⟩ Γ w v := fun ρ hρ => by
 simp [execOp, hρ _ _ hx, Instr.loadAt, Instr.sureAddr, loadVar, ht, hc]
theorem Run.loadA {t : TypeId} {x : Operand} {a : Addr} {cs : List Value} {sz : Nat} (hx : ev? Γ x = some (.pointer (some a))) (ht : ∀ w, (isAgg t).run P w = .ok true w) (hz : ∀ w, (sizeOf t).run P w = .ok sz w)
  (hc : ∀ j v, cs[j]? = some v → w.cell? (a.add j) = some v) (hl : cs.length = sz) : Run P ⟨dst, .load t x, T, pos, after, g⟩ Γ w (.agg cs.toArray) := fun ρ hρ => by
 subst hl
 simp [execOp, hρ _ _ hx, Instr.loadAt, Instr.sureAddr, loadVar, ht, hz, run_loadCells_list w a cs hc]
theorem Run.lenS {t : TypeId} {x : Operand} {a : Option Addr} {len cap : Nat} {e : TypeId} (hx : ev? Γ x = some (.slice a len cap)) (ht : P.underlying t = some (.slice e)) :
  Run P ⟨dst, .call ⟨.builtin .len, #[x], #[t]⟩, T, pos, after, g⟩ Γ w (.int .i64 len) := fun ρ hρ => by
 simp [execOp, resolve, invoke, builtin, Builtin.len_, hρ _ _ hx, run_underlying ht, goInt]
theorem Run.extract {x : Operand} {ix : Nat} {vs : Array Value} {v : Value} (hx : ev? Γ x = some (.tuple vs)) (hv : vs[ix]? = some v) : Run P ⟨dst, .extract x ix, T, pos, after, g⟩ Γ w v := fun ρ hρ => by
 simp [execOp, hρ _ _ hx, Instr.extract, hv]
theorem Run.eqlNilP {t yT : TypeId} {x y : Operand} {p : Option Addr} {e : TypeId} (hx : ev? Γ x = some (.pointer p)) (hy : ev? Γ y = some (.pointer none)) (ht : P.underlying t = some (.pointer e)) :
  Run P ⟨dst, .binOp .eql t x y yT, T, pos, after, g⟩ Γ w (.bool p.isNone) := fun ρ hρ => by
 have h0 : ∀ d : Nat, (Op.equalIn (d + 1) t (.pointer p) (.pointer none)).run P w = .ok p.isNone w := fun d => by
  cases p <;> simp [Op.equalIn, run_underlying ht]
 have h1 : (Op.equal t (.pointer p) (.pointer none)).run P w = .ok p.isNone w := h0 9999
 simp [execOp, hρ _ _ hx, hρ _ _ hy, eqGuard, binOp, h1]
theorem Run.eqlStr {t yT : TypeId} {x y : Operand} {a b : ByteArray} (hx : ev? Γ x = some (.string a)) (hy : ev? Γ y = some (.string b)) :
  Run P ⟨dst, .binOp .eql t x y yT, T, pos, after, g⟩ Γ w (.bool (decide (a.data.toList = b.data.toList))) := fun ρ hρ => by
 have e : (a.data.toList == b.data.toList) = decide (a.data.toList = b.data.toList) := by rw [Bool.eq_iff_iff]; simp
 simp [execOp, hρ _ _ hx, hρ _ _ hy, eqGuard, binOp, Op.stringOp, ByteArray.toList_eq, e]
theorem Run.neqStr {t yT : TypeId} {x y : Operand} {a b : ByteArray} (hx : ev? Γ x = some (.string a)) (hy : ev? Γ y = some (.string b)) :
  Run P ⟨dst, .binOp .neq t x y yT, T, pos, after, g⟩ Γ w (.bool (decide (a.data.toList ≠ b.data.toList))) := fun ρ hρ => by
 have e : (a.data.toList == b.data.toList) = decide (a.data.toList = b.data.toList) := by rw [Bool.eq_iff_iff]; simp
 simp [execOp, hρ _ _ hx, hρ _ _ hy, eqGuard, binOp, Op.stringOp, ByteArray.toList_eq, e]
end
def evB (Γ : Env) (o : Option Operand) (d r : Nat) : Prop := match o with | none => r = d | some x => ∃ k, ev? Γ x = some (.int k (r : Int))
theorem evB.none_ {Γ : Env} {d : Nat} : evB Γ none d d := rfl
theorem evB.some_ {Γ : Env} {d r : Nat} {x : Operand} {k : IntKind} (h : ev? Γ x = some (.int k (r : Int))) : evB Γ (some x) d r := ⟨k, h⟩
def cP (a : Option Addr) (cap l sz : Nat) : Option Addr := if cap = l then a else a.map (·.add (l * sz))
section
variable {P : Program} {Γ : Env} {w : World} {dst : Option Tmp} {T : TypeId} {pos : String} {after : Array Edge} {g : Option (Nat × Bool)}
theorem vC {ρ : Operand → Value} (hρ : rE ρ Γ) (len cap l h : Nat) (lo hi : Option Operand) (hlo : evB Γ lo 0 l) (hhi : evB Γ hi len h) (h1 : l ≤ h) (h2 : h ≤ cap) (isS : Bool) :
  (Instr.sliceBounds isS len cap (lo.map ρ) (hi.map ρ) none).run P w = .ok (l, h, cap) w := by
 have hb : ∀ (k : IntKind) (r y : Nat) (code : BoundsCode), r ≤ y → (Instr.sliceBound (.int k (r : Int)) y code).run P w = .ok r w := by
  intro k r y code hry
  have := run_sliceBound (P := P) w k (r : Int) y code jo jo
  simpa using this
 unfold Instr.sliceBounds
 cases lo with
 | none =>
  cases hi with
  | none => simp only [evB] at hlo hhi; subst hlo hhi; simp
  | some y => simp only [evB] at hlo; obtain ⟨k, hy⟩ := hhi; subst hlo; simp [hρ _ _ hy, hb _ _ _ _ h2]
 | some x =>
  obtain ⟨k, hx⟩ := hlo
  cases hi with
  | none => simp only [evB] at hhi; subst hhi; simp [hρ _ _ hx, hb _ _ _ _ h1]
  | some y => obtain ⟨k', hy⟩ := hhi; simp [hρ _ _ hx, hρ _ _ hy, hb _ _ _ _ h1, hb _ _ _ _ h2]
theorem Run.sliceS {t e : TypeId} {x : Operand} {a : Option Addr} {len cap sz : Nat} {lo hi : Option Operand} (l h : Nat) (hx : ev? Γ x = some (.slice a len cap)) (ht : P.underlying t = some (.slice e)) (hz : ∀ w, (sizeOf e).run P w = .ok sz w)
  (hlo : evB Γ lo 0 l) (hhi : evB Γ hi len h) (h1 : l ≤ h) (h2 : h ≤ cap) :
  Run P ⟨dst, .slice t x lo hi none, T, pos, after, g⟩ Γ w (.slice (cP a cap l sz) (h - l) (cap - l)) := fun ρ hρ => by
 have hb := vC (P := P) (w := w) hρ len cap l h lo hi hlo hhi h1 h2 true
 simp only [execOp, Instr.sliceAt, Instr.slice, Sem.run_bind, run_underlying ht, Result.andThen_ok, hρ _ _ hx, Option.map_none, hb, hz, Sem.run_pure]
 rfl
end
section
variable {P : Program} {Γ : Env} {w : World} {dst : Option Tmp} {T : TypeId} {pos : String} {after : Array Edge} {g : Option (Nat × Bool)}
def evs (Γ : Env) : List Operand → List Value → Prop
 | [], vs => vs = []
 | x :: r, vs => ∃ v us, ev? Γ x = some v ∧ evs Γ r us ∧ vs = v :: us
theorem evs.nil {Γ : Env} : evs Γ [] [] := rfl
theorem evs.cons {Γ : Env} {x : Operand} {r : List Operand} {v : Value} {us : List Value} (h : ev? Γ x = some v) (hr : evs Γ r us) : evs Γ (x :: r) (v :: us) := ⟨v, us, h, hr, rfl⟩
theorem gX {ρ : Operand → Value} (hρ : rE ρ Γ) : ∀ (xs : List Operand) (vs : List Value), evs Γ xs vs → xs.map ρ = vs
 | [], vs, h => by simp only [evs] at h; subst h; rfl
 | x :: r, vs, h => by
  obtain ⟨v, us, h1, h2, rfl⟩ := h
  rw [List.map_cons, hρ _ _ h1, gX hρ r us h2]
theorem bW.fn {f : FuncId} {xs : List Operand} {vs : List Value} {ts : Array TypeId} (hv : evs Γ xs vs) (hf : ∀ args w, (callFunc f args).run P w = .ok (.enter f args) w) :
  bW P ⟨dst, .call ⟨.value (.func f), xs.toArray, ts⟩, T, pos, after, g⟩ Γ w f vs.toArray := fun ρ hρ => by
 have e := gX hρ xs vs hv
 have e2 : ρ (.func f) = .func (.func f) #[] #[] := hρ _ _ rfl
 have e3 : ρ (.func f) = .func (.func f) #[] #[] := e2
 simp [execOp, resolve, e2, Deferred.ofValue, invoke, e, hf]
end
end
section
open Go.RowKit
structure Frm (S : List Nat) (w w' : World) : Prop where
 os : w'.os = w.os
 tape : w'.tape = w.tape
 output : w'.output = w.output
 size : w.heap.size ≤ w'.heap.size
 block : ∀ k, k < w.heap.size → k ∉ S → w'.heap[k]? = w.heap[k]?
def Blk (w : World) (g : Nat) (t : TypeId) (cs : Array Value) : Prop := w.heap[g]? = some (.cells cs t (0, 0))
def ob : Option Addr → List Nat
 | none => []
 | some a => [a.block]
def Rd (w : World) (size : Nat) (A : Option Addr) (n : Nat) (xs : List Value) : Prop :=
 xs.length = n * size ∧ (0 < n → ∃ ad, A = some ad ∧ ad.block < w.heap.size ∧ ∀ j u, xs[j]? = some u → w.cell? (ad.add j) = some u)
def Own (w : World) (e size : Nat) (A : Option Addr) (n c : Nat) (xs : List Value) : Prop := w.ownsRow 0 e size (.slice A n c) n xs
section
variable {S T : List Nat} {w w' w'' a b c : World} {g : Nat} {t : TypeId} {cs : Array Value}
theorem Frm.refl (S : List Nat) (w : World) : Frm S w w := ⟨rfl, rfl, rfl, Nat.le_refl _, fun _ _ _ => rfl⟩
theorem Frm.trans (h : Frm S a b) (k : Frm T b c) (hT : ∀ x ∈ T, x ∈ S ∨ a.heap.size ≤ x) : Frm S a c :=
 ⟨k.os.trans h.os, k.tape.trans h.tape, k.output.trans h.output, Nat.le_trans h.size k.size, fun i hi hS =>
  (k.block i (Nat.lt_of_lt_of_le hi h.size) (fun hx => by rcases hT i hx with h1 | h1; exact hS h1; omega)).trans (h.block i hi hS)⟩
theorem Frm.mono (h : Frm S w w') (hS : ∀ x ∈ S, x ∈ T ∨ w.heap.size ≤ x) : Frm T w w' :=
 ⟨h.os, h.tape, h.output, h.size, fun i hi hT => h.block i hi (fun hx => by rcases hS i hx with h1 | h1; exact hT h1; omega)⟩
theorem Frm.of_below (h : Below w.heap.size w w') : Frm [] w w' := ⟨h.os, h.tape, h.output, h.size, fun i hi _ => h.block i hi⟩
theorem Frm.below (h : Frm [] w w') : Below w.heap.size w w' := ⟨h.os, h.tape, h.output, h.size, fun i hi => h.block i hi jp⟩
theorem Frm.drew (h : Frm S w w') : Frm S w w'.drew := ⟨h.os, h.tape, h.output, h.size, h.block⟩
theorem Frm.drewN (h : Frm S w w') (n : Nat) : Frm S w (w'.drewN n) := ⟨h.os, h.tape, h.output, h.size, h.block⟩
theorem Frm.drawn (h : Frm S w w') (hd : qQ w' w'') : Frm S w w'' := by obtain ⟨m, rfl⟩ := hd; exact h.drewN m
theorem Frm.alloc (h : Frm S a w) (o : Obj) : Frm S a (w.alloc o) :=
 h.trans (T := []) ⟨rfl, rfl, rfl, jp, fun k hk _ => Below.heap_alloc _ _ _ hk⟩ jp
theorem Frm.set1 (w : World) (p : Addr) (u : Value) : Frm [p.block] w (w.setCell p u) :=
 ⟨rfl, rfl, rfl, jp, fun k _ hS => Below.heap_setCell _ _ _ _ (by simpa using hS)⟩
theorem Frm.grown {row : Option Nat} (h : w.grownBy w' row) : Frm row.toList w w' :=
 ⟨h.os, h.tape, h.output, h.size, fun k hk hS => h.block k hk (fun e => hS (by rw [← e]; simp))⟩
theorem Frm.onto {B : Nat} {w0 : World} (k : Frm S w w') (h : Below B w0 w) (hS : ∀ x ∈ S, B ≤ x) (hB : B ≤ w.heap.size) : Below B w0 w' :=
 h.trans ⟨k.os, k.tape, k.output, k.size, fun i hi => k.block i jo (fun hx => by have := hS i hx; omega)⟩
theorem Frm.own (h : Frm [] w a) (k : Frm S a b) (hS : ∀ x ∈ S, w.heap.size ≤ x) : Frm [] w b := h.trans k (fun x hx => .inr (hS x hx))
theorem lE {B : Nat} : ∀ x ∈ ob none, B ≤ x := by simp [ob]
theorem qPa {B s : Nat} {A A' : Option Addr} (hA : ∀ x ∈ ob A, B ≤ x) (h : ∀ x ∈ ob A', x ∈ ob A ∨ s ≤ x) (hs : B ≤ s) : ∀ x ∈ ob A', B ≤ x := fun x hx => by
 rcases h x hx with h1 | h1
 · exact hA x h1
 omega
theorem cO {B s : Nat} {A A' : Option Addr} (hA : ∀ x ∈ ob A, B ≤ x) (h : ob A' = ob A ∨ ob A' = [s]) (hs : B ≤ s) : ∀ x ∈ ob A', B ≤ x := fun x hx => by
 rcases h with h1 | h1 <;> rw [h1] at hx
 · exact hA x hx
 simp at hx; omega
theorem tT {B g : Nat} {A : Option Addr} (hg : B ≤ g) (hA : ∀ x ∈ ob A, B ≤ x) : ∀ x ∈ g :: ob A, B ≤ x := fun x hx => by
 rcases List.mem_cons.1 hx with rfl | h
 · exact hg
 exact hA x h
theorem eP {B g : Nat} (hg : B ≤ g) : ∀ x ∈ [g], B ≤ x := fun x hx => by simp at hx; omega
theorem qQ.heap (h : qQ w w') : w'.heap = w.heap := by obtain ⟨m, rfl⟩ := h; rfl
theorem qQ.frm (h : qQ w w') : Frm [] w w' := (Frm.refl [] w).drawn h
theorem qQ.refl (w : World) : qQ w w := ⟨0, rfl⟩
theorem qQ.trans (h : qQ a b) (k : qQ b c) : qQ a c := by obtain ⟨m, rfl⟩ := h; obtain ⟨m', rfl⟩ := k; exact ⟨m + m', jp⟩
theorem qQ.drew (w : World) : qQ w w.drew := ⟨1, rfl⟩
theorem Blk.lt (h : Blk w g t cs) : g < w.heap.size := by
 rcases Nat.lt_or_ge g w.heap.size with hlt | hge
 · exact hlt
 unfold Blk at h; rw [Array.getElem?_eq_none hge] at h; cases h
theorem Blk.cell (h : Blk w g t cs) (i : Nat) : w.cell? ⟨g, i, none⟩ = cs[i]? := by
 unfold Blk at h
 simp [World.cell?, h]
theorem Blk.frozen (h : Blk w g t cs) (i : Nat) : w.frozen? ⟨g, i, none⟩ = false := by
 unfold Blk at h
 simp [World.frozen?, h]
theorem Blk.new (w : World) (t : TypeId) (cs : Array Value) : Blk (w.alloc (.cells cs t)) w.heap.size t cs := heap_alloc_new w _
theorem Blk.cells (h : Blk w g t cs) : ∀ (j : Nat) (v : Value), cs.toList[j]? = some v → w.cell? ((⟨g, 0, none⟩ : Addr).add j) = some v := by
 intro j v hv
 have e : (⟨g, 0, none⟩ : Addr).add j = ⟨g, j, none⟩ := by
  unfold Addr.add; split
  · rename_i h0; subst h0; rfl
  simp
 rw [e, h.cell]
 simpa using hv
theorem Blk.frm (h : Blk w g t cs) (k : Frm S w w') (hg : g ∉ S) : Blk w' g t cs := (k.block g h.lt hg).trans h
theorem Blk.drawn (h : Blk w g t cs) (k : qQ w w') : Blk w' g t cs := h.frm k.frm jp
theorem Blk.set (h : Blk w g t cs) (i : Nat) (u : Value) : Blk (w.setCell ⟨g, i, none⟩ u) g t (cs.setIfInBounds i u) := by
 unfold Blk at h ⊢
 simp [World.setCell, Array.getElem?_modify, h]
theorem Blk.ne {g' : Nat} {t' : TypeId} {cs' : Array Value} (h : Blk w g t cs) (h' : Blk w g' t' cs') (hne : t ≠ t') : g ≠ g' := by
 rintro rfl
 unfold Blk at h h'
 rw [h] at h'
 injection h' with h'
 injection h' with _ ht
 exact hne ht
theorem kH (x : Addr) (n : Nat) : (x.add n).block = x.block := by unfold Addr.add; split <;> rfl
theorem add_add (x : Addr) (i j : Nat) : (x.add i).add j = x.add (i + j) := by
 unfold Addr.add
 by_cases hi : i = 0 <;> by_cases hj : j = 0 <;> simp [hi, hj, Nat.add_assoc]
theorem yG (x : Addr) : x.add 0 = x := by simp [Addr.add]
theorem kT (g i : Nat) : (⟨g, 0, none⟩ : Addr).add i = ⟨g, i, none⟩ := by
 unfold Addr.add; split
 · rename_i h; subst h; rfl
 simp
section
variable {size n m e cap : Nat} {A : Option Addr} {xs : List Value}
theorem Rd.nil (w : World) (size : Nat) (A : Option Addr) : Rd w size A 0 [] := ⟨jp, fun h => absurd h jo⟩
theorem Rd.lt (h : Rd w size A n xs) (hn : 0 < n) : ∀ x ∈ ob A, x < w.heap.size := by
 obtain ⟨ad, rfl, hb, _⟩ := h.2 hn
 simpa [ob] using hb
theorem Rd.at1 {k : Nat} (h : Rd w 1 A n xs) (hk : k < n) : ∃ ad u, A = some ad ∧ xs[k]? = some u ∧ w.cell? (ad.add k) = some u := by
 obtain ⟨ad, e, hb, hc⟩ := h.2 jo
 have hl : k < xs.length := by have := h.1; omega
 exact ⟨ad, xs[k], e, List.getElem?_eq_getElem hl, hc k _ (List.getElem?_eq_getElem hl)⟩
theorem Rd.frm (h : Rd w size A n xs) (k : Frm S w w') (hS : 0 < n → ∀ x ∈ ob A, x ∉ S) : Rd w' size A n xs :=
 ⟨h.1, fun hn => by
  obtain ⟨ad, e, hb, hc⟩ := h.2 hn
  subst e
  refine ⟨ad, rfl, Nat.lt_of_lt_of_le hb k.size, fun j u hu => ?_⟩
  rw [World.cell?_of_block (w := w) (a := ad.add j) (by rw [kH]; exact k.block _ hb (hS hn _ (by simp [ob])))]
  exact hc j u hu⟩
theorem Rd.below {B : Nat} (h : Rd w size A n xs) (hA : 0 < n → ∀ x ∈ ob A, x < B) (k : Below B w w') : Rd w' size A n xs :=
 ⟨h.1, fun hn => by
  obtain ⟨ad, e, hb, hc⟩ := h.2 hn
  subst e
  have hlt := hA hn ad.block (by simp [ob])
  exact ⟨ad, rfl, Nat.lt_of_lt_of_le hb k.size, fun j u hu => (k.cell (p := ad.add j) (by rw [kH]; exact hlt)).trans (hc j u hu)⟩⟩
theorem Rd.belowW {w0 : World} (h : Rd w0 size A n xs) (k : Below w0.heap.size w0 w') : Rd w' size A n xs := h.below (fun hn => h.lt hn) k
theorem Rd.drawn (h : Rd w size A n xs) (k : qQ w w') : Rd w' size A n xs := h.frm k.frm jp
theorem Rd.elem {k : Nat} (h : Rd w size A n xs) (hk : k < n) : ∃ ad, A = some ad ∧ ∀ j v, ((xs.drop (k * size)).take size)[j]? = some v → w.cell? ((ad.add (k * size)).add j) = some v := by
 obtain ⟨ad, e, _, hc⟩ := h.2 jo
 refine ⟨ad, e, fun j v hv => ?_⟩
 have hj : j < size := by
  have := (List.getElem?_eq_some_iff.1 hv).1
  rw [List.length_take] at this
  omega
 rw [add_add]
 refine hc _ _ ?_
 rw [List.getElem?_take_of_lt hj, List.getElem?_drop] at hv
 exact hv
theorem Rd.cut (h : Rd w size A n xs) {l r : Nat} (h1 : l ≤ r) (h2 : r ≤ n) (hc : n ≤ cap) : Rd w size (cP A cap l size) (r - l) ((xs.drop (l * size)).take ((r - l) * size)) := by
 have hx := h.1
 have e1 : (r - l) * size + l * size = r * size := by rw [← Nat.add_mul]; congr 1; omega
 have e2 : r * size ≤ n * size := Nat.mul_le_mul_right _ h2
 refine ⟨by rw [List.length_take, List.length_drop]; omega, fun hn => ?_⟩
 obtain ⟨ad, rfl, hb, hcell⟩ := h.2 jo
 refine ⟨ad.add (l * size), by unfold cP; rw [if_neg jo]; rfl, by rw [kH]; exact hb, fun j u hu => ?_⟩
 rw [add_add]
 refine hcell _ u ?_
 by_cases hj : j < (r - l) * size
 · rw [List.getElem?_take_of_lt hj, List.getElem?_drop] at hu; exact hu
 rw [List.getElem?_eq_none (by rw [List.length_take]; omega)] at hu; cases hu
theorem Rd.of_blk (h : Blk w g t cs) (hs : cs.size = n * size) : Rd w size (some ⟨g, 0, none⟩) n cs.toList :=
 ⟨by simpa using hs, fun _ => ⟨_, rfl, h.lt, fun j u hu => by rw [kT, h.cell]; simpa using hu⟩⟩
theorem Own.nil (w : World) (e size : Nat) : Own w e size none 0 0 [] := World.ownsRow_nil w 0 e size
theorem Own.len (h : Own w e size A n cap xs) : xs.length = n * size := h.1
theorem Own.cases (h : Own w e size A n cap xs) : (A = none ∧ n = 0 ∧ cap = 0 ∧ xs = []) ∨ ∃ g cur, A = some ⟨g, 0, none⟩ ∧ Blk w g e cur ∧ n ≤ cap ∧ cap ≤ maxLen ∧ cur.size = cap * size ∧ cur.toList.take (n * size) = xs := by
 obtain ⟨h1, h2⟩ := h
 rcases h2 with ⟨h3, h4⟩ | ⟨g, c, cur, hv, _, hh, hn, hc, hs, ht⟩
 ·
  injection h3 with e1 e2 e3
  subst e1 e2 e3
  exact .inl ⟨rfl, rfl, rfl, List.eq_nil_of_length_eq_zero (by simpa using h1)⟩
 injection hv with e1 e2 e3
 subst e1 e3
 exact .inr ⟨g, cur, rfl, hh, hn, hc, hs, ht⟩
theorem Own.le (h : Own w e size A n cap xs) : n ≤ cap := by
 rcases h.cases with ⟨_, rfl, rfl, _⟩ | ⟨g, cur, _, _, hn, _⟩
 · exact Nat.le_refl _
 exact hn
theorem Own.lt (h : Own w e size A n cap xs) : ∀ x ∈ ob A, x < w.heap.size := by
 rcases h.cases with ⟨rfl, _⟩ | ⟨g, cur, rfl, hb, _⟩
 · simp [ob]
 simpa [ob] using hb.lt
theorem Own.rd (h : Own w e size A n cap xs) : Rd w size A n xs := by
 refine ⟨h.1, fun hn => ?_⟩
 rcases h.cases with ⟨rfl, rfl, _⟩ | ⟨g, cur, rfl, hb, hnc, _, hs, ht⟩
 · omega
 refine ⟨_, rfl, hb.lt, fun j u hu => ?_⟩
 rw [kT, hb.cell]
 rw [← ht] at hu
 by_cases hj : j < n * size
 · rw [List.getElem?_take_of_lt hj] at hu; simpa using hu
 rw [List.getElem?_eq_none (by rw [List.length_take]; omega)] at hu; cases hu
theorem Own.frm (h : Own w e size A n cap xs) (k : Frm S w w') (hS : ∀ x ∈ ob A, x ∉ S) : Own w' e size A n cap xs := by
 refine ⟨h.1, ?_⟩
 rcases h.cases with ⟨rfl, rfl, rfl, _⟩ | ⟨g, cur, rfl, hb, hn, hc, hs, ht⟩
 · exact .inl ⟨rfl, rfl⟩
 exact .inr ⟨g, cap, cur, rfl, Nat.zero_le _, hb.frm k (hS g (by simp [ob])), hn, hc, hs, ht⟩
theorem Own.drawn (h : Own w e size A n cap xs) (k : qQ w w') : Own w' e size A n cap xs := h.frm k.frm jp
theorem Own.of_blk (h : Blk w g e cs) (hs : cs.size = n * size) (hm : n ≤ maxLen) : Own w e size (some ⟨g, 0, none⟩) n n cs.toList :=
 ⟨by simpa using hs, .inr ⟨g, n, cs, rfl, Nat.zero_le _, h, Nat.le_refl _, hm, hs, List.take_of_length_le (by simp [hs])⟩⟩
theorem Own.ne_blk (h : Own w e size A n cap xs) (hg : Blk w g t cs) (hne : e ≠ t) : g ∉ ob A := by
 rcases h.cases with ⟨rfl, _⟩ | ⟨g', cur, rfl, hb, _⟩
 · simp [ob]
 simp only [ob, List.mem_singleton]
 exact fun e => hb.ne hg hne e.symm
theorem Own.ne_own {e' size' n' cap' : Nat} {A' : Option Addr} {xs' : List Value} (h : Own w e size A n cap xs) (h' : Own w e' size' A' n' cap' xs') (hne : e ≠ e') : ∀ x ∈ ob A, x ∉ ob A' := by
 rcases h.cases with ⟨rfl, _⟩ | ⟨g, cur, rfl, hb, _⟩
 · simp [ob]
 intro x hx
 simp only [ob, List.mem_singleton] at hx
 subst hx
 exact h'.ne_blk hb (Ne.symm hne)
end
end
structure Fresh (w w' : World) (t : TypeId) (cs : Array Value) : Prop where
 blk : Blk w' w.heap.size t cs
 frm : Frm [] w w'
 size : w'.heap.size = w.heap.size + 1
theorem Fresh.mk' (w : World) (t : TypeId) (cs : Array Value) : Fresh w (w.alloc (.cells cs t)) t cs := ⟨Blk.new w t cs, (Frm.refl _ _).alloc _, jp⟩
section
variable {P : Program} {Γ : Env} {w : World} {dst : Option Tmp} {T : TypeId} {pos : String} {after : Array Edge} {g : Option (Nat × Bool)}
theorem qJ.box {e : TypeId} {x : Operand} {v : Value} (hx : ev? Γ x = some v) :
  qJ P ⟨dst, .box e x, T, pos, after, g⟩ Γ w (fun r w' => r = .pointer (some ⟨w.heap.size, 0, none⟩) ∧ Fresh w w' e v.cells) := fun ρ hρ =>
 ⟨_, w.alloc (.cells v.cells e), by simp [execOp, hρ _ _ hx, Instr.box, newVar, newRow], rfl, Fresh.mk' _ _ _⟩
theorem qJ.alloc {e : TypeId} {z : Value} (hz : ∀ w, (zeroValue e).run P w = .ok z w) :
  qJ P ⟨dst, .alloc e, T, pos, after, g⟩ Γ w (fun r w' => r = .pointer (some ⟨w.heap.size, 0, none⟩) ∧ Fresh w w' e z.cells) := fun ρ _ =>
 ⟨_, w.alloc (.cells z.cells e), by simp [execOp, Instr.alloc, hz, newVar, newRow], rfl, Fresh.mk' _ _ _⟩
theorem Run.build {t : TypeId} {parts : List (Nat × Operand)} {vs : List Value} {z cells : Array Value} {fs : Array Field} {pl : Array (Nat × Nat)} (hv : evs Γ (parts.map (·.2)) vs) (hz : ∀ w, (zeroValue t).run P w = .ok (.agg z) w)
  (hu : P.underlying t = some (.struct fs)) (hpl : ∀ w, (fs.mapM fun f => do pure (f.offset, ← sizeOf f.type) : Sem (Array (Nat × Nat))).run P w = .ok pl w) (hf : Instr.fill (pl[·]?) z ((parts.map (·.1)).zip vs) = some cells) :
  Run P ⟨dst, .build t parts.toArray, T, pos, after, g⟩ Γ w (.agg cells) := fun ρ hρ => by
 have e1 := gX hρ _ _ hv
 have e2 : parts.map (fun p => (p.1, ρ p.2)) = (parts.map (·.1)).zip vs := by
  rw [← e1, List.map_map, List.zip_map']
  rfl
 simp only [execOp, Instr.build, Sem.run_bind, hz, Result.andThen_ok, Value.cells, run_underlying hu, hpl, List.map_toArray, e2, hf, Sem.run_pure]
theorem qJ.buildS0 {t e : TypeId} {size : Nat} (ht : P.underlying t = some (.slice e)) (hz : ∀ w, (sizeOf e).run P w = .ok size w) :
  qJ P ⟨dst, .buildSlice t 0 #[], T, pos, after, g⟩ Γ w (fun r w' => r = .slice (some ⟨w.heap.size, 0, none⟩) 0 0 ∧ Fresh w w' e #[]) := fun ρ hρ => by
 refine ⟨_, w.alloc (.cells #[] e), ?_, rfl, Fresh.mk' _ _ _⟩
 have e0 : ∀ f : Nat → Value, (Array.range 0).map f = #[] := fun f => by simp [Array.range]
 simp [execOp, Instr.buildSlice, run_underlying ht, hz, Instr.fill, newRow, e0]
theorem qJ.buildS1 {t e : TypeId} {size : Nat} {x : Operand} {z v : Value} (hx : ev? Γ x = some v) (ht : P.underlying t = some (.slice e)) (hz : ∀ w, (sizeOf e).run P w = .ok size w)
  (hzv : ∀ w, (zeroValue e).run P w = .ok z w) (hs0 : 0 < size) (hs1 : size ≤ 16777216) (hv : v.cells.size = size) (hzs : z.cells.size = size) :
  qJ P ⟨dst, .buildSlice t 1 #[(0, x)], T, pos, after, g⟩ Γ w (fun r w' => r = .slice (some ⟨w.heap.size, 0, none⟩) 1 1 ∧ Fresh w w' e v.cells) := fun ρ hρ => by
 have hn' : ¬ (1 * size > 2 ^ 24) := jo
 have hn0 : ¬ (1 * size = 0) := jo
 have key : ∀ (l : List Value) (acc : Array Value) (k : Nat), k + l.length = acc.size → (l.zipIdx k).foldl (fun (cs : Array Value) (p : Value × Nat) => cs.setIfInBounds p.2 p.1) acc = (acc.toList.take k ++ l).toArray := by
  intro l
  induction l with
  | nil => intro acc k hk; simp at hk ⊢; rw [List.take_of_length_le (by simp [hk])]
  | cons u r ih =>
   intro acc k hk
   simp only [List.length_cons] at hk
   rw [List.zipIdx_cons, List.foldl_cons, ih _ _ (by simp; omega)]
   have e1 : (acc.setIfInBounds k u).toList.take (k + 1) = acc.toList.take k ++ [u] := by
    rw [Array.toList_setIfInBounds]
    apply List.ext_getElem?
    intro j
    rcases Nat.lt_trichotomy j k with hj | hj | hj
    · rw [List.getElem?_take_of_lt jo, List.getElem?_set_ne jo, List.getElem?_append_left (by simp; omega), List.getElem?_take_of_lt hj]
    ·
     subst hj
     rw [List.getElem?_take_of_lt jo, List.getElem?_set_self (by simp; omega), List.getElem?_append_right (by simp; omega)]
     have : j - (acc.toList.take j).length = 0 := by simp; omega
     rw [this]
     rfl
    rw [List.getElem?_eq_none (by simp; omega), List.getElem?_eq_none (by simp; omega)]
   rw [e1]
   simp
 refine ⟨_, w.alloc (.cells v.cells e), ?_, rfl, Fresh.mk' _ _ _⟩
 have hc1 : ¬ (v.cells.size ≠ size) := by simp [hv]
 have hcs : ((Array.range (1 * size)).map (z.cells[· % z.cells.size]!)).size = size := jp
 have hfill : Instr.fill (fun i => some (i * size, size)) ((Array.range (1 * size)).map (z.cells[· % z.cells.size]!)) [(0, v)] = some v.cells := by
  unfold Instr.fill
  simp only [Nat.zero_mul, hv, hcs, Nat.zero_add]
  have := key v.cells.toList ((Array.range (1 * size)).map (z.cells[· % z.cells.size]!)) 0 (by simp [hv])
  simp only [List.take_zero, List.nil_append, Array.toArray_toList] at this
  rw [← Array.foldl_toList, Array.toList_zipIdx, this]
  simp [Instr.fill]
 simp only [execOp, Instr.buildSlice, Sem.run_bind, run_underlying ht, Result.andThen_ok, hz, Sem.run_ite, hn', hn0, if_false, hzv, Sem.run_pure, List.map_toArray, List.map_cons, List.map_nil, hρ _ _ hx, hfill, newRow, run_newObj]
 rfl
theorem qR.store {t e : TypeId} {x y : Operand} {gb i : Nat} {cs : Array Value} {v : Value} (hx : ev? Γ x = some (.pointer (some ⟨gb, i, none⟩))) (hy : ev? Γ y = some v)
  (hz : ∀ w, (sizeOf t).run P w = .ok 1 w) (hb : Blk w gb e cs) (hi0 : Nat.blt i cs.size = true) (h1 : v.oneCell' = true) :
  qR P ⟨dst, .store t x y, T, pos, after, g⟩ Γ w (fun w' => Blk w' gb e (cs.setIfInBounds i v) ∧ Frm [gb] w w' ∧ w'.heap.size = w.heap.size) := fun ρ hρ => by
 have hi : i < cs.size := by simpa [Nat.blt_eq] using hi0
 have hcells : v.cells = #[v] := by cases v <;> first | rfl | cases h1
 have hc := hb.cell i
 rw [Array.getElem?_eq_getElem hi] at hc
 refine ⟨w.setCell ⟨gb, i, none⟩ v, ?_, hb.set i v, Frm.set1 w ⟨gb, i, none⟩ v, jp⟩
 simp [execOp, hρ _ _ hx, hρ _ _ hy, Instr.storeAt, Instr.sureAddr, storeVar, hcells, hz, storeCells, run_store P _ _ _ _ h1, yG, hc, hb.frozen i]
theorem qR.storeA {t e : TypeId} {x y : Operand} {gb : Nat} {cs vs : Array Value} (hx : ev? Γ x = some (.pointer (some ⟨gb, 0, none⟩))) (hy : ev? Γ y = some (.agg vs))
  (hz : ∀ w, (sizeOf t).run P w = .ok vs.size w) (hb : Blk w gb e cs) (hs : vs.size = cs.size) (h1 : ∀ v ∈ vs.toList, v.oneCell' = true) :
  qR P ⟨dst, .store t x y, T, pos, after, g⟩ Γ w (fun w' => Blk w' gb e vs ∧ Frm [gb] w w' ∧ w'.heap.size = w.heap.size) := fun ρ hρ => by
 have hr := run_storeCells_from (P := P) gb e vs.toList 0 cs w hb (by simp [hs]) h1
 refine ⟨w.setRow gb (cs.toList.take 0 ++ vs.toList).toArray, ?_, ?_, ?_, ?_⟩
 · simp only [execOp, Instr.storeAt, Instr.sureAddr, storeVar, hρ _ _ hx, hρ _ _ hy, Value.cells, Sem.run_bind, Sem.run_pure, Result.andThen_ok, hz, ne_eq, not_true_eq_false, if_false, Sem.run_ite, hr]
 ·
  have := setRow_heap w gb cs (cs.toList.take 0 ++ vs.toList).toArray e (0, 0) hb
  simpa [Blk] using this
 · exact ⟨rfl, rfl, rfl, by simp [World.setRow], fun k _ hS => setRow_other w gb k _ (by simpa using hS)⟩
 simp [World.setRow]
theorem qR.storeOwn {t e size n cap : Nat} {x y : Operand} {A : Option Addr} {ad : Addr} {xs : List Value} {v : Value} (j : Nat) (hx : ev? Γ x = some (.pointer (some (ad.add j)))) (hy : ev? Γ y = some v)
  (hz : ∀ w, (sizeOf t).run P w = .ok 1 w) (ho : Own w e size A n cap xs) (hA : A = some ad) (hj : j < n * size) (h1 : v.oneCell' = true) :
  qR P ⟨dst, .store t x y, T, pos, after, g⟩ Γ w (fun w' => Own w' e size A n cap (xs.set j v) ∧ Frm (ob A) w w' ∧ w'.heap.size = w.heap.size) := fun ρ hρ => by
 rcases ho.cases with ⟨rfl, _⟩ | ⟨gb, cur, hA', hb, hnc, hc, hs, ht⟩
 · cases hA
 rw [hA'] at hA
 injection hA with hA
 subst hA
 subst hA'
 rw [kT] at hx
 have hmul : n * size ≤ cap * size := Nat.mul_le_mul_right _ hnc
 obtain ⟨w', hr, hb', hf, hsz⟩ := qR.store (P := P) (T := T) (dst := dst) (pos := pos) (after := after) (g := g) hx hy hz hb (by rw [Nat.blt_eq]; omega) h1 ρ hρ
 refine ⟨w', hr, ⟨?_, .inr ⟨gb, cap, _, rfl, Nat.zero_le _, hb', hnc, hc, by simpa using hs, ?_⟩⟩, hf, hsz⟩
 · rw [List.length_set]; exact ho.1
 rw [Array.toList_setIfInBounds, ← ht, List.take_set]
theorem qJ.app {t e : TypeId} {x y : Operand} {z : Value} {size bytes n m cap c2 : Nat} {A B : Option Addr} {xs news : List Value} (hx : ev? Γ x = some (.slice A n cap)) (hy : ev? Γ y = some (.slice B m c2))
  (ht : P.underlying t = some (.slice e)) (hi : (P.info? e).map (fun i => (i.zero, i.size, i.bytes)) = some (some z, size, bytes)) (hzs : z.cells.size = size) (hsz : 0 < size)
  (ho : Own w e size A n cap xs) (hr : Rd w size B m news) (h1 : ∀ u ∈ news, u.oneCell' = true) (h63 : n + m ≤ 9223372036854775807) (hb : (n + m) * bytes ≤ 140737488355328) :
  qJ P ⟨dst, .call ⟨.builtin .append, #[x, y], #[t, t]⟩, T, pos, after, g⟩ Γ w
   (fun r w' => ∃ A' c', r = .slice A' (n + m) c' ∧ Own w' e size A' (n + m) c' (xs ++ news) ∧ Frm (ob A) w w' ∧ (ob A' = ob A ∨ ob A' = [w.heap.size])) := fun ρ hρ => by
 obtain ⟨i0, hi0, hz0, hz1, hz2⟩ := info_parts hi
 have ho' := ho
 have ex : (execOp ρ ⟨dst, .call ⟨.builtin .append, #[x, y], #[t, t]⟩, T, pos, after, g⟩).run P w = ((Builtin.append_ #[t, t] T #[.slice A n cap, .slice B m c2]).run P w).andThen fun a w => .ok (.value a) w := by
  simp [execOp, resolve, invoke, builtin, hρ _ _ hx, hρ _ _ hy]
 rcases Nat.eq_zero_or_pos m with hm | hm
 ·
  subst hm
  have hn0 : news = [] := List.eq_nil_of_length_eq_zero (by simpa using hr.1)
  subst hn0
  refine ⟨.slice A n cap, w, ?_, A, cap, rfl, by simpa using ho, Frm.refl _ _, .inl rfl⟩
  rw [ex]
  have hnc := ho.le
  have hz3 : ∀ w, (sizeOf e).run P w = .ok size w := fun w => by simp [sizeOf, typeInfo, hi0, hz1]
  cases A <;> cases B <;> simp [Builtin.append_, run_underlying ht, hz3, Builtin.lenOf, Builtin.firstCells, hnc, storeCells, loadCells, loadCellsFrom]
 obtain ⟨ad, rfl, hlt, hcell⟩ := hr.2 hm
 obtain ⟨v', w', hrun, hown, hgr, _, hob⟩ := run_append_own_at (P := P) w 0 t T e i0 z size bytes ht hi0 hz0 hz1 hz2 hzs hsz _ n xs ho ad m c2 news hr.1 hcell h1 h63 hb (Nat.zero_le _)
 have hform : ∃ A' c', v' = .slice A' (n + m) c' := by
  rcases hown.2 with ⟨rfl, h0⟩ | ⟨g', cap', cur', rfl, _⟩
  · omega
  exact ⟨_, _, rfl⟩
 obtain ⟨A', c', rfl⟩ := hform
 have hblk : ∀ (X : Option Addr) (p q : Nat), (Value.slice X p q).ownBlock.toList = ob X := by intro X p q; cases X <;> rfl
 refine ⟨_, w', by rw [ex, hrun]; rfl, A', c', rfl, hown, ?_, ?_⟩
 ·
  have := Frm.grown hgr
  rwa [hblk] at this
 rcases hob with h | h
 · left; rw [← hblk A' (n + m) c', h, hblk]
 right; rw [← hblk A' (n + m) c', h]; rfl
def U8 (l : List UInt8) : List Value := l.map fun b => .int .u8 (b.toNat : Int)
theorem Run.strOf {src dstT e : TypeId} {x : Operand} {A : Option Addr} {n c : Nat} {l : List UInt8} (hx : ev? Γ x = some (.slice A n c)) (hs : P.underlying src = some (.slice e)) (he : P.underlying e = some (.int .u8)) (hd : P.underlying dstT = some .string)
  (hr : Rd w 1 A n (U8 l)) : Run P ⟨dst, .convert src dstT x, T, pos, after, g⟩ Γ w (.string ⟨l.toArray⟩) := fun ρ hρ => by
 have hl : l.length = n := by have := hr.1; simpa [U8] using this
 have h1 := run_convert_bytes_string (P := P) w src dstT e A n c hs he hd
 have h2 : (Conv.bytesToString (.slice A n c)).run P w = .ok (.string ⟨l.toArray⟩) w := by
  cases A with
  | none =>
   have h0 : n = 0 := by
    rcases Nat.eq_zero_or_pos n with h | h
    · exact h
    obtain ⟨_, h', _⟩ := hr.2 h; cases h'
   subst h0
   have : l = [] := List.eq_nil_of_length_eq_zero hl
   subst this
   rfl
  | some a =>
   have hcell : ∀ j v, (U8 l)[j]? = some v → w.cell? (a.add j) = some v := by
    intro j v hv
    rcases Nat.eq_zero_or_pos n with h | h
    ·
     have : l = [] := List.eq_nil_of_length_eq_zero jo
     subst this
     simp [U8] at hv
    obtain ⟨ad, h', _, hc⟩ := hr.2 h
    injection h' with h'
    subst h'
    exact hc j v hv
   have hload := run_loadCells_list (P := P) w a (U8 l) hcell
   have hul : (U8 l).length = n := by simpa [U8] using hl
   rw [hul] at hload
   have := run_bytesToString (P := P) w a n c (l.map fun b => (b.toNat : Int)) (by rw [hload, List.map_map]; rfl)
   rw [this]
   congr 2
   have key : ∀ (l : List UInt8) (s : ByteArray), (l.map fun b => (b.toNat : Int)).foldl (fun r n => r.push (UInt8.ofNat n.toNat)) s = ⟨s.data ++ l.toArray⟩ := by
    intro l
    induction l with
    | nil => intro s; simp
    | cons b r ih =>
     intro s
     rw [List.map_cons, List.foldl_cons, ih]
     congr 1
     simp [ByteArray.push]
   rw [key]
   simp [ByteArray.empty, ByteArray.emptyWithCapacity]
   rfl
 simp [execOp, hρ _ _ hx, h1, h2]
end
end
section
open Go.RowKit
section
variable {P : Program} {n : NF} {Γ Γ' : Env} {w : World} {Q : Exit → Env → World → Prop} {K : Env → World → Prop} {i id : Nat}
theorem qN (h : Q .ret Γ w) : gC K Q .ret Γ w := h
theorem qZ (h : Q (.exit i) Γ w) : gC K Q (.exit i) Γ w := h
theorem qT {ch : List PanicEntry} (h : Q (.panic ch) Γ w) : gC K Q (.panic ch) Γ w := h
theorem qK (h : Q .normal Γ w) : jP id Q .normal Γ w := h
theorem qD (h : Q .ret Γ w) : jP id Q .ret Γ w := h
theorem dK {ch : List PanicEntry} (h : Q (.panic ch) Γ w) : jP id Q (.panic ch) Γ w := h
theorem qP (h : Q .normal Γ w) : jP id Q (.exit id) Γ w := by simp only [jP, if_true]; exact h
theorem pJ (hne : Nat.beq i id = false) (h : Q (.exit i) Γ w) : jP id Q (.exit i) Γ w := by
 have : i ≠ id := fun e => by subst e; rw [Nat.beq_refl] at hne; cases hne
 simp only [jP, this, if_false]; exact h
theorem Sub.nil : Sub Γ [] := trivial
theorem Sub.cons {k : Nat} {v : Value} {r : Env} (h : get? Γ k = some v) (hr : Sub Γ r) : Sub Γ ((k, v) :: r) := ⟨h, hr⟩
section
variable {R : Ending → World → Prop}
theorem bY {res : Array ResultVar} {ch : List PanicEntry} (h : R (.panicked ch) w) : fP P res R (.panic ch) Γ w := h
theorem end0 (h : R (.returned (.tuple #[])) w) : fP P #[] R .ret Γ w := h
theorem eV (h : R (.returned (.tuple #[])) w) : fP P #[] R .normal Γ w := h
theorem qC {t : Tmp} {v : Value} (h1 : get? Γ t = some v) (h : R (.returned v) w) : fP P #[.tmp t] R .ret Γ w := ⟨v, h1, h⟩
theorem cG {t u : Tmp} {v x : Value} (h1 : get? Γ t = some v) (h2 : get? Γ u = some x) (h : R (.returned (.tuple #[v, x])) w) : fP P #[.tmp t, .tmp u] R .ret Γ w := ⟨v, h1, x, h2, h⟩
theorem qK4 {t u s : Tmp} {v x y : Value} (h1 : get? Γ t = some v) (h2 : get? Γ u = some x) (h3 : get? Γ s = some y) (h : R (.returned (.tuple #[v, x, y])) w) : fP P #[.tmp t, .tmp u, .tmp s] R .ret Γ w := ⟨v, h1, x, h2, y, h3, h⟩
theorem lJ {res : Array ResultVar} (h : jL P res.toList Γ w fun vs => R (.returned (qK2 vs)) w) : fP P res R .ret Γ w := h
theorem eM {K : List Value → Prop} (h : K []) : jL P [] Γ w K := h
theorem xH {t : Tmp} {r : List ResultVar} {v : Value} {K : List Value → Prop} (h1 : get? Γ t = some v) (h : jL P r Γ w fun vs => K (v :: vs)) : jL P (.tmp t :: r) Γ w K := ⟨v, h1, h⟩
theorem fS {t : Tmp} {T : TypeId} {r : List ResultVar} {a : Addr} {v : Value} {K : List Value → Prop} (h1 : get? Γ t = some (.pointer (some a))) (ht : ∀ w, (isAgg T).run P w = .ok false w) (hc : w.cell? a = some v)
  (h : jL P r Γ w fun vs => K (v :: vs)) : jL P (.cell t T :: r) Γ w K := ⟨a, v, h1, by simp [loadVar, ht, hc], h⟩
theorem yH {t : Tmp} {T : TypeId} {r : List ResultVar} {a : Addr} {cs : List Value} {sz : Nat} {K : List Value → Prop} (h1 : get? Γ t = some (.pointer (some a))) (ht : ∀ w, (isAgg T).run P w = .ok true w) (hz : ∀ w, (sizeOf T).run P w = .ok sz w)
  (hc : ∀ j v, cs[j]? = some v → w.cell? (a.add j) = some v) (hl : cs.length = sz) (h : jL P r Γ w fun vs => K (.agg cs.toArray :: vs)) : jL P (.cell t T :: r) Γ w K := by
 subst hl
 exact ⟨a, _, h1, by simp [loadVar, ht, hz, run_loadCells_list w a cs hc], h⟩
end
section
variable {ops : Array Oper} {rest : List Oper} {d : Nat} {op : Op} {T : TypeId} {pos : String} {after : Array Edge} {g : Option (Nat × Bool)}
theorem Ops.r {v : Value} (h : Run P ⟨some d, op, T, pos, after, none⟩ Γ w v) (hn : Nat.blt d n.n = true) (k : Ops P n ops rest ((d, v) :: Γ) w Q) : Ops P n ops (⟨some d, op, T, pos, after, none⟩ :: rest) Γ w Q :=
 Ops.run h trivial rfl hn k
theorem Ops.rg {v : Value} {j : Nat} {b c : Bool} (hy : yi ops Γ j = some (.bool b)) (hb : b = c) (h : Run P ⟨some d, op, T, pos, after, some (j, c)⟩ Γ w v) (hn : Nat.blt d n.n = true) (k : Ops P n ops rest ((d, v) :: Γ) w Q) : Ops P n ops (⟨some d, op, T, pos, after, some (j, c)⟩ :: rest) Γ w Q :=
 Ops.run h (by subst hb; exact hy) rfl hn k
theorem Ops.sk {j : Nat} {b c : Bool} (hy : yi ops Γ j = some (.bool b)) (hb : b = !c) (hn : Nat.blt d n.n = true) (k : Ops P n ops rest ((d, undef) :: Γ) w Q) : Ops P n ops (⟨some d, op, T, pos, after, some (j, c)⟩ :: rest) Γ w Q :=
 Ops.skip rfl hy hb rfl hn k
theorem Ops.m {R : Value → World → Prop} (h : qJ P ⟨some d, op, T, pos, after, none⟩ Γ w R) (hn : Nat.blt d n.n = true) (k : ∀ v w', R v w' → Ops P n ops rest ((d, v) :: Γ) w' Q) : Ops P n ops (⟨some d, op, T, pos, after, none⟩ :: rest) Γ w Q :=
 Ops.does h trivial rfl hn k
theorem Ops.st {R : World → Prop} (h : qR P ⟨none, op, T, pos, after, none⟩ Γ w R) (k : ∀ w', R w' → Ops P n ops rest Γ w' Q) : Ops P n ops (⟨none, op, T, pos, after, none⟩ :: rest) Γ w Q :=
 Ops.acts h trivial rfl k
theorem Ops.cl {f : FuncId} {args : Array Value} {R : Ending → World → Prop} (he : bW P ⟨some d, op, T, pos, after, none⟩ Γ w f args) (hc : Calls P f args w R) (hn : Nat.blt d n.n = true)
  (k : ∀ e w', R e w' → ∃ v, e = .returned v ∧ Ops P n ops rest ((d, v) :: Γ) w' Q) : Ops P n ops (⟨some d, op, T, pos, after, none⟩ :: rest) Γ w Q :=
 Ops.call he hc trivial rfl hn k
theorem Ops.clg {f : FuncId} {args : Array Value} {R : Ending → World → Prop} {j : Nat} {b c : Bool} (hy : yi ops Γ j = some (.bool b)) (hb : b = c) (he : bW P ⟨some d, op, T, pos, after, some (j, c)⟩ Γ w f args) (hc : Calls P f args w R) (hn : Nat.blt d n.n = true)
  (k : ∀ e w', R e w' → ∃ v, e = .returned v ∧ Ops P n ops rest ((d, v) :: Γ) w' Q) : Ops P n ops (⟨some d, op, T, pos, after, some (j, c)⟩ :: rest) Γ w Q :=
 Ops.call he hc (by subst hb; exact hy) rfl hn k
variable {KE : Env → Prop}
theorem qW.r {v : Value} (h : Run P ⟨some d, op, T, pos, after, none⟩ Γ w v) (hn : Nat.blt d n.n = true) (k : qW P n ops rest ((d, v) :: Γ) w KE) : qW P n ops (⟨some d, op, T, pos, after, none⟩ :: rest) Γ w KE :=
 qW.run h trivial rfl hn k
theorem qW.rg {v : Value} {j : Nat} {b c : Bool} (hy : yi ops Γ j = some (.bool b)) (hb : b = c) (h : Run P ⟨some d, op, T, pos, after, some (j, c)⟩ Γ w v) (hn : Nat.blt d n.n = true) (k : qW P n ops rest ((d, v) :: Γ) w KE) : qW P n ops (⟨some d, op, T, pos, after, some (j, c)⟩ :: rest) Γ w KE :=
 qW.run h (by subst hb; exact hy) rfl hn k
theorem qW.sk {j : Nat} {b c : Bool} (hy : yi ops Γ j = some (.bool b)) (hb : b = !c) (hn : Nat.blt d n.n = true) (k : qW P n ops rest ((d, undef) :: Γ) w KE) : qW P n ops (⟨some d, op, T, pos, after, some (j, c)⟩ :: rest) Γ w KE := by
 intro a hs
 unfold wpStill
 have hw : Region.wanted (⟨some d, op, T, pos, after, some (j, c)⟩ : Oper) (yielded ops a.tmps) = false := by
  unfold Region.wanted
  simp only
  rw [oP hs hy, hb]
  cases c <;> rfl
 rw [if_neg (by rw [hw]; simp)]
 exact k _ (hs.put hn undef)
theorem dM.r {v : Value} (h : ∀ w', qQ w w' → Run P ⟨some d, op, T, pos, after, none⟩ Γ w' v) (hn : Nat.blt d n.n = true) (k : dM P n ops rest ((d, v) :: Γ) w KE) : dM P n ops (⟨some d, op, T, pos, after, none⟩ :: rest) Γ w KE :=
 dM.run h trivial rfl hn k
theorem dM.rg {v : Value} {j : Nat} {b c : Bool} (hy : yi ops Γ j = some (.bool b)) (hb : b = c) (h : ∀ w', qQ w w' → Run P ⟨some d, op, T, pos, after, some (j, c)⟩ Γ w' v) (hn : Nat.blt d n.n = true) (k : dM P n ops rest ((d, v) :: Γ) w KE) : dM P n ops (⟨some d, op, T, pos, after, some (j, c)⟩ :: rest) Γ w KE :=
 dM.run h (by subst hb; exact hy) rfl hn k
theorem dM.sk {j : Nat} {b c : Bool} (hy : yi ops Γ j = some (.bool b)) (hb : b = !c) (hn : Nat.blt d n.n = true) (k : dM P n ops rest ((d, undef) :: Γ) w KE) : dM P n ops (⟨some d, op, T, pos, after, some (j, c)⟩ :: rest) Γ w KE :=
 dM.skip rfl hy hb rfl hn k
end
theorem VC.meet {σ : Type} {c : Code} (env : σ → Env) (inv : σ → World → Prop) (h : VC P n c Γ w (gC (fun Γ' w' => ∃ s, Sub Γ' (env s) ∧ inv s w') Q)) (k : ∀ s w', inv s w' → ∀ Γ', Sub Γ' (env s) → Q .normal Γ' w') : VC P n c Γ w Q := by
 refine h.mono fun e Γ' w' q => ?_
 cases e with
 | normal => obtain ⟨s, hs, hi⟩ := q; exact k s w' hi Γ' hs
 | exit i => exact q
 | goto l => exact q
 | ret => exact q
 | panic c => exact q
 | outgrown => exact q
theorem VC.split1 {c : Code} (Γk : Env) (hk : Sub Γ Γk) (t : Nat) (v : Value) (h : VC P n c Γ w (gC (fun Γ1 w1 => Sub Γ1 ((t, v) :: Γk) ∧ w1 = w) Q)) (k : ∀ Γ1, Sub Γ1 ((t, v) :: Γk) → Q .normal Γ1 w) : VC P n c Γ w Q := by
 have _ := hk
 refine h.mono fun e Γ' w' q => ?_
 cases e with
 | normal => obtain ⟨hs, rfl⟩ := q; exact k Γ' hs
 | exit i => exact q
 | goto l => exact q
 | ret => exact q
 | panic c => exact q
 | outgrown => exact q
theorem qQp {p q : Prop} [Decidable p] [Decidable q] (h : p) : decide (p ∧ q) = decide q := by simp [h]
theorem qQq {p q : Prop} [Decidable p] [Decidable q] (h : ¬ p) : decide (p ∧ q) = false := by simp [h]
theorem qQt {p q : Prop} [Decidable p] [Decidable q] (h : p) : decide (p ∨ q) = true := by simp [h]
theorem qQu {p q : Prop} [Decidable p] [Decidable q] (h : ¬ p) : decide (p ∨ q) = decide q := by simp [h]
theorem Bin.add_i64 (x y : Nat) (h : x + y ≤ 9223372036854775807) : Bin .add .i64 x .i64 y (.int .i64 ((x + y : Nat) : Int)) := Bin.addN x y h
theorem Bin.sub_i64 (x y : Nat) (hy : y ≤ x) (h : x ≤ 9223372036854775807) : Bin .sub .i64 x .i64 y (.int .i64 ((x - y : Nat) : Int)) := Bin.subN x y hy (by simp only [bmax]; omega)
theorem Bin.mul_i64 (x y : Nat) (h : x * y ≤ 9223372036854775807) : Bin .mul .i64 x .i64 y (.int .i64 ((x * y : Nat) : Int)) := Bin.mulN x y h
theorem Bin.quo_i64 (x y : Nat) (hy : y ≠ 0) (h : x ≤ 9223372036854775807) : Bin .quo .i64 x .i64 y (.int .i64 ((x / y : Nat) : Int)) := Bin.quoN x y hy (by simp only [bmax]; exact Nat.le_trans (Nat.div_le_self _ _) h)
theorem Bin.add_u64 (x y : Nat) (h : x + y ≤ 18446744073709551615) : Bin .add .u64 x .u64 y (.int .u64 ((x + y : Nat) : Int)) := Bin.addN x y h
theorem Bin.sub_u64 (x y : Nat) (hy : y ≤ x) (h : x ≤ 18446744073709551615) : Bin .sub .u64 x .u64 y (.int .u64 ((x - y : Nat) : Int)) := Bin.subN x y hy (by simp only [bmax]; omega)
theorem Bin.addZ (x y : Int) (h1 : -9223372036854775808 ≤ x + y) (h2 : x + y ≤ 9223372036854775807) : Bin .add .i64 x .i64 y (.int .i64 (x + y)) := Bin.add x y h1 h2
theorem Bin.subZ (x y : Int) (h1 : -9223372036854775808 ≤ x - y) (h2 : x - y ≤ 9223372036854775807) : Bin .sub .i64 x .i64 y (.int .i64 (x - y)) := Bin.sub x y h1 h2
theorem Bin.shr_u64 {k' : IntKind} (x y : Nat) (h : x ≤ 18446744073709551615) : Bin .shr .u64 x k' y (.int .u64 ((x / 2 ^ y : Nat) : Int)) := Bin.shrN x y h
theorem Bin.shr_i64 {k' : IntKind} (x y : Nat) (h : x ≤ 9223372036854775807) : Bin .shr .i64 x k' y (.int .i64 ((x / 2 ^ y : Nat) : Int)) := Bin.shrN x y h
theorem Bin.shr_u8 {k' : IntKind} (x y : Nat) (h : x ≤ 255) : Bin .shr .u8 x k' y (.int .u8 ((x / 2 ^ y : Nat) : Int)) := Bin.shrN x y h
theorem Bin.shl_u64 {k' : IntKind} (x y : Nat) (hy : y ≤ 64) (h : x * 2 ^ y ≤ 18446744073709551615) : Bin .shl .u64 x k' y (.int .u64 ((x * 2 ^ y : Nat) : Int)) := Bin.shlN x y hy h
theorem Bin.shl_i64 {k' : IntKind} (x y : Nat) (hy : y ≤ 64) (h : x * 2 ^ y ≤ 9223372036854775807) : Bin .shl .i64 x k' y (.int .i64 ((x * 2 ^ y : Nat) : Int)) := Bin.shlN x y hy h
theorem Bin.and_u64 (x y : Nat) (hx : x ≤ 18446744073709551615) (hy : y ≤ 18446744073709551615) : Bin .and .u64 x .u64 y (.int .u64 ((x &&& y : Nat) : Int)) := Bin.andN x y hx hy
theorem Bin.or_u64 (x y : Nat) (hx : x ≤ 18446744073709551615) (hy : y ≤ 18446744073709551615) : Bin .or .u64 x .u64 y (.int .u64 ((x ||| y : Nat) : Int)) := Bin.orN x y hx hy
theorem Bin.and_u8 (x y : Nat) (hx : x ≤ 255) (hy : y ≤ 255) : Bin .and .u8 x .u8 y (.int .u8 ((x &&& y : Nat) : Int)) := Bin.andN x y hx hy
theorem Bin.or_u8 (x y : Nat) (hx : x ≤ 255) (hy : y ≤ 255) : Bin .or .u8 x .u8 y (.int .u8 ((x ||| y : Nat) : Int)) := Bin.orN x y hx hy
theorem Bin.xor_i64 (x y : Nat) (hx : x ≤ 9223372036854775807) (hy : y ≤ 9223372036854775807) : Bin .xor .i64 x .i64 y (.int .i64 ((x ^^^ y : Nat) : Int)) := Bin.xorN x y hx hy
end
end
section
open Go.RowKit
def mO (ops : Array Oper) (L i : Nat) : Bool := match ops[L]? with
 | none => true
 | some o => !Nat.beq i L && o.after.any fun e => Region.binds .any e && Nat.beq e.on i
def dU (P : Program) (ops : Array Oper) (Q : Exit → Act → World → Prop) (S : World → Prop) (L : Nat) : Nat → Array Bool → Act → World → Prop
 | 0, listed, a, w => Region.ready .any ops listed = [] ∧ Q .normal a w
 | f + 1, listed, a, w => (Region.ready .any ops listed = [] → Q .normal a w) ∧
  ∀ i ∈ Region.ready .any ops listed, wpOp P ops Q i (fun a' w' => (i ≠ L → S w') ∧ dU P ops Q S L f (listed.setIfInBounds i true) a' w') a w
section
variable {P : Program} {ops : Array Oper} {Q : Exit → Act → World → Prop} {S : World → Prop} {L : Nat}
theorem vD : ∀ (f : Nat) (listed : Array Bool) (a : Act) (w : World), dU P ops Q S L f listed a w → wpAny P .any ops Q f listed a w
 | 0, _, _, _, h => h
 | f + 1, _, _, _, h => ⟨h.1, fun i hi => wpOp_mono (fun a' w' h' => vD f _ a' w' h'.2) (h.2 i hi)⟩
theorem rF {i : Nat} {oi : Oper} {v : Value} (hi : ops[i]? = some oi) (hL : mO ops L i = true) (hsel : ∀ (j : Nat) (o : Oper) cs b, ops[j]? = some o → o.op ≠ .select cs b) (hQ : ∀ c a w, Q (.panic c) (a.put oi.dst v) w → Q (.panic c) a w) :
  ∀ (f : Nat) (listed : Array Bool) (a : Act) (w : World), (∀ j oj, ops[j]? = some oj → j ≠ i → listed.getD j true = false → (∀ e ∈ oj.after, Region.binds .any e = true → e.on ≠ i) → oi.apart ops oj = true) →
   i ∈ Region.ready .any ops listed → YieldsIf P ops S oi v a → S w → dU P ops Q S L f (listed.setIfInBounds i true) (a.put oi.dst v) w → dU P ops Q S L (f + 1) listed a w
 | f, listed, a, w, hfree, hr, hy, hS, H => by
  refine ⟨fun h => absurd hr (by rw [h]; simp), fun j hj => ?_⟩
  by_cases hji : j = i
  ·
   subst hji
   exact hy.wpOp hi hS ⟨fun _ => hS, H⟩
  have hj2 := ready_mono hj hji
  cases f with
  | zero => exact absurd hj2 (by rw [H.1]; simp)
  | succ f =>
   obtain ⟨hjun, oj, hoj, hall⟩ := mem_ready.1 hj
   have hiun := (mem_ready.1 hr).1
   have hnot : ∀ e ∈ oj.after, Region.binds .any e = true → e.on ≠ i := fun e he hb heq => by
    have h1 := hall e he hb
    rw [heq] at h1
    by_cases h' : i < listed.size
    ·
     simp [h'] at hiun h1
     rw [hiun] at h1
     cases h1
    simp [Array.getElem?_eq_none (Nat.le_of_not_lt h')] at h1
   have hjL : j ≠ L := fun h => by
    subst h
    unfold mO at hL
    rw [hoj] at hL
    simp only [Bool.and_eq_true, Array.any_eq_true'] at hL
    obtain ⟨_, e, he, hb, hon⟩ := hL
    exact hnot e he hb (Nat.eq_of_beq_eq_true hon)
   refine wpOp_mono (fun a' w' h3 => ?_) (wpOp_putIf hoj (hfree j oj hoj hji hjun hnot) (fun cs b => hsel i oi cs b hi) (fun cs b => hsel j oj cs b hoj) hQ hy (H.2 j hj2))
   refine ⟨h3.2.1, rF hi hL hsel hQ f _ a' w' (fun k ok hk hki hun hno => hfree k ok hk hki ?_ hno) (ready_mono hr (Ne.symm hji)) h3.1 (h3.2.1 hjL) ?_⟩
   ·
    by_cases hjk : j = k
    · subst hjk; exact hjun
    rwa [getD_set_ne true hjk] at hun
   rw [Array.setIfInBounds_comm _ _ hji]
   exact h3.2.2
theorem oV {i : Nat} {oi : Oper} {v : Value} {f : Nat} {listed : Array Bool} {a : Act} {w : World} (hi : ops[i]? = some oi) (hs : (Region.noSelect ops && mO ops L i) = true) (hf : Region.free .any ops listed i = true) (hr : (Region.ready .any ops listed).contains i = true)
  (hQ : ∀ c a w, Q (.panic c) (a.put oi.dst v) w → Q (.panic c) a w) (hy : YieldsIf P ops S oi v a) (hS : S w) (h : dU P ops Q S L f (listed.setIfInBounds i true) (a.put oi.dst v) w) : dU P ops Q S L (f + 1) listed a w :=
 rF hi (Bool.and_eq_true _ _ ▸ hs).2 (Region.noSelect_spec (Bool.and_eq_true _ _ ▸ hs).1) hQ f listed a w (Region.free_spec hi hf) (by simpa using hr) hy hS h
theorem pK {rs : List Nat} {f : Nat} {listed : Array Bool} {a : Act} {w : World} (hr : Region.ready .any ops listed = rs) (hne : rs ≠ [])
  (h : ∀ i ∈ rs, wpOp P ops Q i (fun a' w' => S w' ∧ dU P ops Q S L f (listed.setIfInBounds i true) a' w') a w) : dU P ops Q S L (f + 1) listed a w :=
 ⟨fun h0 => absurd (hr ▸ h0) hne, hr ▸ fun i hi => wpOp_mono (fun _ _ h => ⟨fun _ => h.1, h.2⟩) (h i hi)⟩
theorem qZ2 {f : Nat} {listed : Array Bool} {a : Act} {w : World} (hr : Region.ready .any ops listed = [L]) (h : wpOp P ops Q L (fun a' w' => dU P ops Q S L f (listed.setIfInBounds L true) a' w') a w) : dU P ops Q S L (f + 1) listed a w := by
 refine ⟨fun h0 => (by rw [hr] at h0; cases h0), fun i hi => ?_⟩
 rw [hr] at hi
 simp only [List.mem_singleton] at hi
 subst hi
 exact wpOp_mono (fun _ _ h => ⟨fun h0 => absurd rfl h0, h⟩) h
theorem qZ3 {listed : Array Bool} {a : Act} {w : World} (hr : Region.ready .any ops listed = []) (h : Q .normal a w) : ∀ f, dU P ops Q S L f listed a w
 | 0 => ⟨hr, h⟩
 | _ + 1 => ⟨fun _ => h, by rw [hr]; simp⟩
end
def lU (n : NF) (K : Env → World → Prop) (Pn : List PanicEntry → World → Prop) (e : Exit) (a : Act) (w : World) : Prop := match e with
 | .normal => ∃ Γ, Sat n Γ a ∧ K Γ w
 | .panic ch => (a.tmps.size = n.n ∧ a.defers = n.D) ∧ Pn ch w
 | _ => False
def qV (P : Program) (n : NF) (ops : Array Oper) (S : World → Prop) (Pn : List PanicEntry → World → Prop) (L fuel : Nat) (listed : Array Bool) (Γ : Env) (w : World) (K : Env → World → Prop) : Prop :=
 ∀ a, Sat n Γ a → dU P ops (lU n K Pn) S L fuel listed a w
theorem rA {n : NF} {K : Env → World → Prop} {Pn : List PanicEntry → World → Prop} {d : Option Tmp} {v : Value} : ∀ (c : List PanicEntry) (a : Act) (w : World), lU n K Pn (.panic c) (a.put d v) w → lU n K Pn (.panic c) a w := by
 intro c a w h
 cases d with
 | none => exact h
 | some d => exact ⟨⟨by have := h.1.1; simpa [Act.put] using this, h.1.2⟩, h.2⟩
section
variable {P : Program} {n : NF} {Γ Γ' : Env} {w : World} {Q : Exit → Env → World → Prop} {Pn : List PanicEntry → World → Prop} {K : Env → World → Prop} {ops : Array Oper} {S S' : World → Prop} {L fuel : Nat} {listed : Array Bool}
theorem Up.g {j : Nat} {b c : Bool} (hy : yi ops Γ j = some (.bool b)) (hb : b = c) : Up ops Γ (some (j, c)) := by subst hb; exact hy
theorem VC.heldL {id : Nat} {l : List Oper} (L : Nat) (S : World → Prop) (hm : P.follows .mixedOrders = true)
  (h : qV P n l.toArray S (fun ch w' => Q (.panic ch) [] w') L l.toArray.size (Array.replicate l.toArray.size false) Γ w.drew (fun Γ' w' => Q .normal Γ' w')) (hnd : n.ro = none ∨ gE l.toArray = true := by first | exact .inl rfl | exact .inr (by kernel_rfl)) : VC P n (.region id l.toArray true) Γ w Q := by
 intro a hs m
 refine wpIn_mono (Q := lU n (fun Γ' w' => Q .normal Γ' w') (fun ch w' => Q (.panic ch) [] w')) (wpIn_region_any hm (uD hnd (fun ⟨_, _, h⟩ => h) _ _ _ _ (vD _ _ _ _ (h a hs)))) ?_
 intro e a w hq
 cases e with
 | normal => exact hq
 | panic ch => exact ⟨[], ⟨hq.1.1, hq.1.2, fun t v h => by simp [get?] at h⟩, hq.2⟩
 | _ => exact hq.elim
theorem VC.held {id : Nat} {l : List Oper} (S : World → Prop) (hm : P.follows .mixedOrders = true)
  (h : qV P n l.toArray S (fun ch w' => Q (.panic ch) [] w') l.toArray.size l.toArray.size (Array.replicate l.toArray.size false) Γ w.drew (fun Γ' w' => Q .normal Γ' w')) (hnd : n.ro = none ∨ gE l.toArray = true := by first | exact .inl rfl | exact .inr (by kernel_rfl)) : VC P n (.region id l.toArray true) Γ w Q := VC.heldL _ S hm h hnd
theorem uK {QQ : Exit → Act → World → Prop} (hS : ∀ w, S' w → S w) : ∀ (fuel : Nat) (listed : Array Bool) (a : Act) (w : World), dU P ops QQ S' L fuel listed a w → dU P ops QQ S L fuel listed a w
 | 0, _, _, _, h => h
 | fuel + 1, _, _, _, h => ⟨h.1, fun i hi => wpOp_mono (fun a' w' h' => ⟨fun hi => hS _ (h'.1 hi), uK hS fuel _ a' w' h'.2⟩) (h.2 i hi)⟩
theorem qV.more (S' : World → Prop) (hS : ∀ w, S' w → S w) (h : qV P n ops S' Pn L fuel listed Γ w K) : qV P n ops S Pn L fuel listed Γ w K := fun a hs => uK hS _ _ _ _ (h a hs)
theorem qV.done (hr : Region.ready .any ops listed = []) (h : K Γ w) : qV P n ops S Pn L fuel listed Γ w K := fun _ hs => qZ3 hr ⟨Γ, hs, h⟩ fuel
theorem qV.take {v : Value} {d : Nat} (i : Nat) {oi : Oper} (hi : ops[i]? = some oi) (hsel : (Region.noSelect ops && mO ops L i) = true) (hf : Region.free .any ops listed i = true) (hr : (Region.ready .any ops listed).contains i = true)
  (hS : S w) (h : ∀ w', S w' → Run P oi Γ w' v) (hup : Up ops Γ oi.guard) (hd : oi.dst = some d) (hn : Nat.blt d n.n = true)
  (k : qV P n ops S Pn L fuel (listed.setIfInBounds i true) ((d, v) :: Γ) w K) : qV P n ops S Pn L (fuel + 1) listed Γ w K := by
 intro a hs
 refine oV hi hsel hf hr rA (.inl ⟨hup.wanted hs, fun w' hw' => h w' hw' _ hs.fits⟩) hS ?_
 rw [hd]
 exact k _ (hs.put hn v)
theorem qV.skip {d : Nat} (i : Nat) {oi : Oper} {j : Nat} {b c : Bool} (hi : ops[i]? = some oi) (hsel : (Region.noSelect ops && mO ops L i) = true) (hf : Region.free .any ops listed i = true) (hr : (Region.ready .any ops listed).contains i = true)
  (hS : S w) (hg : oi.guard = some (j, c)) (hy : yi ops Γ j = some (.bool b)) (hbc : b = !c) (hd : oi.dst = some d) (hn : Nat.blt d n.n = true)
  (k : qV P n ops S Pn L fuel (listed.setIfInBounds i true) ((d, undef) :: Γ) w K) : qV P n ops S Pn L (fuel + 1) listed Γ w K := by
 intro a hs
 refine oV (v := undef) hi hsel hf hr rA (.inr ⟨?_, rfl⟩) hS ?_
 ·
  unfold Region.wanted
  rw [hg]
  simp only
  rw [oP hs hy, hbc]
  cases c <;> rfl
 rw [hd]
 exact k _ (hs.put hn undef)
theorem qV.of_wp (i : Nat) {oi : Oper} (hi : ops[i]? = some oi) (hr : Region.ready .any ops listed = [i]) (hup : Up ops Γ oi.guard)
  (h : ∀ a, Sat n Γ a → oi.wp P a w (fun a' w' => S w' ∧ dU P ops (lU n K Pn) S L fuel (listed.setIfInBounds i true) a' w') (lU n K Pn)) : qV P n ops S Pn L (fuel + 1) listed Γ w K := by
 intro a hs
 refine pK hr jp ?_
 intro j hj
 simp only [List.mem_singleton] at hj
 subst hj
 unfold wpOp
 simp only [hi]
 rw [if_pos (hup.wanted hs)]
 exact .inl (h a hs)
theorem qV.m {R : Value → World → Prop} {d : Nat} (i : Nat) {oi : Oper} (hi : ops[i]? = some oi) (hr : Region.ready .any ops listed = [i]) (h : qJ P oi Γ w R) (hup : Up ops Γ oi.guard) (hd : oi.dst = some d) (hn : Nat.blt d n.n = true)
  (k : ∀ v w', R v w' → S w' ∧ qV P n ops S Pn L fuel (listed.setIfInBounds i true) ((d, v) :: Γ) w' K) : qV P n ops S Pn L (fuel + 1) listed Γ w K :=
 qV.of_wp i hi hr hup fun a hs => by
  obtain ⟨v, w', hrun, hR⟩ := h _ hs.fits
  unfold Oper.wp
  rw [hrun, Oper.upon_value, hd]
  exact ⟨(k v w' hR).1, (k v w' hR).2 _ (hs.put hn v)⟩
theorem qV.st {R : World → Prop} (i : Nat) {oi : Oper} (hi : ops[i]? = some oi) (hr : Region.ready .any ops listed = [i]) (h : qR P oi Γ w R) (hup : Up ops Γ oi.guard) (hd : oi.dst = none)
  (k : ∀ w', R w' → S w' ∧ qV P n ops S Pn L fuel (listed.setIfInBounds i true) Γ w' K) : qV P n ops S Pn L (fuel + 1) listed Γ w K :=
 qV.of_wp i hi hr hup fun a hs => by
  obtain ⟨w', hrun, hR⟩ := h _ hs.fits
  unfold Oper.wp
  rw [hrun, Oper.upon_skip, hd]
  exact ⟨(k w' hR).1, (k w' hR).2 _ hs⟩
theorem qV.stL {R : World → Prop} {oi : Oper} (hi : ops[L]? = some oi) (hr : Region.ready .any ops listed = [L]) (h : qR P oi Γ w R) (hup : Up ops Γ oi.guard) (hd : oi.dst = none)
  (k : ∀ w', R w' → qV P n ops S Pn L fuel (listed.setIfInBounds L true) Γ w' K) : qV P n ops S Pn L (fuel + 1) listed Γ w K := by
 intro a hs
 refine qZ2 hr ?_
 unfold wpOp
 simp only [hi]
 rw [if_pos (hup.wanted hs)]
 left
 obtain ⟨w', hrun, hR⟩ := h _ hs.fits
 unfold Oper.wp
 rw [hrun, Oper.upon_skip, hd]
 exact (k w' hR) _ hs
theorem qV.cl {f : FuncId} {args : Array Value} {R : Ending → World → Prop} {d : Nat} (i : Nat) {oi : Oper} (hi : ops[i]? = some oi) (hr : Region.ready .any ops listed = [i]) (he : bW P oi Γ w f args) (hc : Calls P f args w R) (hup : Up ops Γ oi.guard) (hd : oi.dst = some d) (hn : Nat.blt d n.n = true)
  (k : ∀ e w', R e w' → ∃ v, e = .returned v ∧ S w' ∧ qV P n ops S Pn L fuel (listed.setIfInBounds i true) ((d, v) :: Γ) w' K) : qV P n ops S Pn L (fuel + 1) listed Γ w K :=
 qV.of_wp i hi hr hup fun a hs => by
  unfold Oper.wp
  rw [he _ hs.fits, Oper.upon_enter, hd]
  refine hc.mono ?_
  intro e w' hR
  obtain ⟨v, rfl, h1, h2⟩ := k e w' hR
  exact ⟨h1, h2 _ (hs.put hn v)⟩
end
end
section
open Go.RowKit Go.ChangeShapes Go.WideShapes Go.Deep
def NB (xs : List Nat) : List Value := xs.map fun x : Nat => Value.int .u8 (x : Int)
def IB (xs : List Int) : List Value := xs.map (Value.int .i64)
theorem oW {α : Type} {Q : Nat → α → Prop} : ∀ n, (∀ i, i < n → ∃ s, Q i s) → ∃ l : List α, l.length = n ∧ ∀ i s, l[i]? = some s → Q i s
 | 0, _ => ⟨[], rfl, fun i s h => by simp at h⟩
 | n + 1, h => by
  obtain ⟨l, hl, hq⟩ := oW n (fun i hi => h i jo)
  obtain ⟨s, hs⟩ := h n jo
  refine ⟨l ++ [s], by simp [hl], fun i t ht => ?_⟩
  rcases Nat.lt_trichotomy i n with hi | hi | hi
  · rw [List.getElem?_append_left jo] at ht; exact hq i t ht
  ·
   subst hi
   rw [List.getElem?_append_right jo, hl, Nat.sub_self] at ht
   simp at ht
   subst ht
   exact hs
  rw [List.getElem?_eq_none (by simp; omega)] at ht; cases ht
theorem pV {α : Type} (f : α → List Value) (sz : Nat) (hf : ∀ a, (f a).length = sz) (l : List α) : (l.flatMap f).length = l.length * sz := by
 induction l with
 | nil => simp
 | cons a r ih => rw [List.flatMap_cons, List.length_append, hf, ih, List.length_cons, Nat.succ_mul]; omega
theorem dV {α : Type} (f : α → List Value) (sz : Nat) (hf : ∀ a, (f a).length = sz) (l : List α) (k : Nat) (h : k < l.length) : ((l.flatMap f).drop (k * sz)).take sz = f l[k] := by
 induction l generalizing k with
 | nil => simp at h
 | cons a r ih =>
  rw [List.flatMap_cons]
  cases k with
  | zero => rw [Nat.zero_mul, List.drop_zero, List.take_append_of_le_length (by rw [hf]; exact Nat.le_refl _), List.take_of_length_le (by rw [hf]; exact Nat.le_refl _)]; rfl
  | succ k =>
   have e : (k + 1) * sz = (f a).length + k * sz := by rw [hf, Nat.succ_mul]; omega
   rw [e, List.drop_append, List.drop_eq_nil_of_le jo, List.nil_append, Nat.add_sub_cancel_left, ih k (by simpa using h)]
   rfl
theorem pW {α : Type} (f : α → List Value) (hf : ∀ a, ∀ u ∈ f a, u.oneCell' = true) (l : List α) : ∀ u ∈ l.flatMap f, u.oneCell' = true := by
 intro u hu
 obtain ⟨a, _, h⟩ := List.mem_flatMap.1 hu
 exact hf a u h
theorem qHl {α : Type} (f : α → List Value) (sz : Nat) (hsz : 0 < sz) (hf : ∀ a, (f a).length = sz) (l : List α) (j : Nat) : (l.flatMap f)[j]? = (l[j / sz]?).bind fun a => (f a)[j % sz]? := by
 induction l generalizing j with
 | nil => simp
 | cons a r ih =>
  rw [List.flatMap_cons]
  by_cases hj : j < sz
  · rw [List.getElem?_append_left (by rw [hf]; exact hj), Nat.div_eq_of_lt hj, Nat.mod_eq_of_lt hj]; rfl
  rw [List.getElem?_append_right (by rw [hf]; omega), hf, ih, Nat.mod_eq_sub_mod (a := j) jo]
  have : j / sz = (j - sz) / sz + 1 := by rw [← Nat.add_div_right _ hsz]; congr 1; omega
  rw [this]
  rfl
section
variable {H : Type} {enc : TypeId × Value → H} {P : Program} {w : World} {base : Nat} {spare : Nat → Bool} {held : Bool}
theorem qPb {t e : TypeId} {k : IntKind} {fuel len cap : Nat} {a : Option Addr} {x : DataW H × List MemPlace} (ht : P.underlying t = some (.slice e)) (he : P.underlying e = some (.int k)) (hc : P.cellsOf e = 1)
  (h : DataW.trod enc P w base spare held fuel t [.slice a len cap] = some x) :
  ∃ zs : List Int, zs.length = len ∧ len ≤ cap ∧ cap ≤ 9223372036854775807 ∧ Rd w 1 a len (zs.map (Value.int k)) ∧ ∀ z ∈ zs, (Lit.int k z).wf = true := by
 rcases open_ints ht he hc h with ⟨hcs, _⟩ | ⟨ad, l, c, zs, hcs, _, hl, hm, hz, _, hcell, hwz⟩
 ·
  simp only [List.cons.injEq, Value.slice.injEq, and_true] at hcs
  obtain ⟨rfl, rfl, rfl⟩ := hcs
  exact ⟨[], rfl, Nat.le_refl _, jo, Rd.nil _ _ _, jp⟩
 simp only [List.cons.injEq, Value.slice.injEq, and_true] at hcs
 obtain ⟨rfl, rfl, rfl⟩ := hcs
 have hzl : len ≤ zs.length := by rw [hz]; split <;> omega
 refine ⟨zs.take len, by rw [List.length_take]; omega, hl, by simpa [maxLen] using hm, ⟨by rw [List.length_map, List.length_take]; omega, fun hn => ⟨ad, rfl, ?_, fun j u hu => ?_⟩⟩, fun z hz => hwz z (List.mem_of_mem_take hz)⟩
 ·
  have := World.block_lt_of_cell? w _ (hcell 0 jo)
  rwa [kH] at this
 rw [List.getElem?_map] at hu
 by_cases hj : j < len
 ·
  rw [List.getElem?_take_of_lt hj, List.getElem?_eq_getElem jo] at hu
  simp only [Option.map_some, Option.some.injEq] at hu
  rw [hcell j jo, ← hu, List.getD_eq_getElem?_getD, List.getElem?_eq_getElem jo]
  rfl
 rw [List.getElem?_eq_none (by rw [List.length_take]; omega)] at hu
 cases hu
theorem qHm {t e : TypeId} {fuel len cap : Nat} {a : Option Addr} {x : DataW H × List MemPlace} (ht : P.underlying t = some (.slice e)) (he : P.underlying e = some (.int .u8)) (hc : P.cellsOf e = 1)
  (h : DataW.trod enc P w base spare held fuel t [.slice a len cap] = some x) :
  ∃ bs : List Nat, bs.length = len ∧ len ≤ cap ∧ cap ≤ 9223372036854775807 ∧ (∀ b ∈ bs, b < 256) ∧ Rd w 1 a len (NB bs) := by
 obtain ⟨zs, h1, h2, h3, h4, h5⟩ := qPb ht he hc h
 have hz : ∀ z ∈ zs, 0 ≤ z ∧ z < 256 := by
  intro z hz
  have := bounds_u8 (h5 z hz)
  omega
 have e1 : NB (zs.map Int.toNat) = zs.map (Value.int .u8) := by
  unfold NB
  rw [List.map_map]
  apply List.map_congr_left
  intro z hz'
  have := (hz z hz').1
  simp only [Function.comp_apply]
  rw [Int.toNat_of_nonneg this]
 refine ⟨zs.map Int.toNat, by simpa using h1, h2, h3, ?_, by rw [e1]; exact h4⟩
 intro b hb
 obtain ⟨z, hz', rfl⟩ := List.mem_map.1 hb
 have := hz z hz'
 omega
theorem qK5 {t e : TypeId} {fs : Array Field} {fuel len cap : Nat} {a : Option Addr} {x : DataW H × List MemPlace} (ht : P.underlying t = some (.slice e)) (he : P.underlying e = some (.struct fs)) (hone : oneCellFields P fs = true) (hC : P.cellsOf e = fs.size) (hfs : 0 < fs.size)
  (h : DataW.trod enc P w base spare held fuel t [.slice a len cap] = some x) :
  ∃ ls : List (List Value), ls.length = len ∧ len ≤ cap ∧ cap ≤ 9223372036854775807 ∧ Rd w fs.size a len (ls.flatMap id) ∧
   ∀ l ∈ ls, l.length = fs.size ∧ ∀ (j : Nat) (f : Field), fs[j]? = some f → ∃ (v : Value) (y : DataW H × List MemPlace) (n : Nat), l[j]? = some v ∧ DataW.trod enc P w base spare held n f.type [v] = some y := by
 rcases open_slice ht h with ⟨hcs, _⟩ | ⟨ad, l, c, m, n, D, Pl, hcs, _, hl, hm, hmm, _, hi⟩
 ·
  simp only [List.cons.injEq, Value.slice.injEq, and_true] at hcs
  obtain ⟨rfl, rfl, rfl⟩ := hcs
  exact ⟨[], rfl, Nat.le_refl _, jo, Rd.nil _ _ _, jp⟩
 simp only [List.cons.injEq, Value.slice.injEq, and_true] at hcs
 obtain ⟨rfl, rfl, rfl⟩ := hcs
 have hml : len ≤ m := by rw [hmm]; split <;> omega
 rw [hC] at hi
 have key : ∀ i, i < len → ∃ cs' : List Value, (cs'.length = fs.size ∧ (∀ j, j < fs.size → w.cell? ((ad.add (i * fs.size)).add j) = cs'[j]?)) ∧ ∀ (j : Nat) (f : Field), fs[j]? = some f → ∃ (v : Value) (y : DataW H × List MemPlace) (n : Nat), cs'[j]? = some v ∧ DataW.trod enc P w base spare held n f.type [v] = some y := by
  intro i hil
  obtain ⟨cs', hc, ht'⟩ := hi i jo
  obtain ⟨_, hcl, hat⟩ := World.cells?_some hc
  obtain ⟨ys, n', hn', hy, hlen, hyl, hf⟩ := DataW.trod_struct he ht'
  refine ⟨cs', ⟨hcl, fun j hj => hat j hj⟩, fun j f hj => ?_⟩
  obtain ⟨ho, hk⟩ := hone_of hone j f hj
  have hjl : j < fs.size := (Array.getElem?_eq_some_iff.1 hj).1
  have h1 := hf j f hj
  rw [ho, hk] at h1
  have hone' : (cs'.drop j).take 1 = [cs'[j]'jo] := by
   rw [List.drop_eq_getElem_cons jo]
   rfl
  rw [hone'] at h1
  have hys : ys[j]? = some (ys[j]'jo) := List.getElem?_eq_getElem jo
  exact ⟨_, _, _, List.getElem?_eq_getElem jo, h1.trans hys⟩
 obtain ⟨ls, hll, hq⟩ := oW len key
 have hsz : ∀ l ∈ ls, l.length = fs.size := fun l hl => by
  obtain ⟨i, hi', hli⟩ := List.getElem_of_mem hl
  exact (hq i l (by rw [List.getElem?_eq_getElem hi', hli])).1.1
 have hidx : ∀ (ls : List (List Value)), (∀ l ∈ ls, l.length = fs.size) → ∀ j, (ls.flatMap id)[j]? = (ls[j / fs.size]?).bind fun l => l[j % fs.size]? := by
  intro ls
  induction ls with
  | nil => intro _ j; simp
  | cons b r ih =>
   intro hb j
   have hbl : b.length = fs.size := hb b jp
   rw [List.flatMap_cons]
   by_cases hj : j < fs.size
   · rw [List.getElem?_append_left (by simp only [id]; omega), Nat.div_eq_of_lt hj, Nat.mod_eq_of_lt hj]; rfl
   rw [List.getElem?_append_right (by simp only [id]; omega)]
   simp only [id, hbl]
   rw [ih (fun l hl => hb l (by simp [hl])), Nat.mod_eq_sub_mod (a := j) jo]
   have : j / fs.size = (j - fs.size) / fs.size + 1 := by rw [← Nat.add_div_right _ hfs]; congr 1; omega
   rw [this]
   rfl
 have hlen : ∀ (ls : List (List Value)), (∀ l ∈ ls, l.length = fs.size) → (ls.flatMap id).length = ls.length * fs.size := by
  intro ls
  induction ls with
  | nil => intro _; simp
  | cons b r ih =>
   intro hb
   rw [List.flatMap_cons, List.length_append, ih (fun l hl => hb l (by simp [hl])), List.length_cons, Nat.succ_mul]
   have : b.length = fs.size := hb b jp
   simp only [id]
   omega
 have hcell : ∀ j u, (ls.flatMap id)[j]? = some u → w.cell? (ad.add j) = some u := by
  intro j u hu
  rw [hidx ls hsz] at hu
  obtain ⟨l, hl', hu'⟩ := Option.bind_eq_some_iff.1 hu
  have hmod : j % fs.size < fs.size := Nat.mod_lt _ hfs
  have := (hq _ l hl').1.2 _ hmod
  rw [Go.Proofs.YtndjgmbfkkgpdaaGreat.add_add, Nat.mul_comm, Nat.div_add_mod] at this
  rw [this, hu']
 refine ⟨ls, hll, hl, by simpa [maxLen] using hm, ⟨by rw [hlen ls hsz, hll], fun hn => ⟨ad, rfl, ?_, hcell⟩⟩, fun l hl => ?_⟩
 ·
  have h0 : 0 < (ls.flatMap id).length := by rw [hlen ls hsz, hll]; exact Nat.mul_pos hn hfs
  have := World.block_lt_of_cell? w _ (hcell 0 _ (List.getElem?_eq_getElem h0))
  rwa [kH] at this
 obtain ⟨i, hi', hli⟩ := List.getElem_of_mem hl
 have := hq i l (by rw [List.getElem?_eq_getElem hi', hli])
 exact ⟨this.1.1, this.2⟩
end
end
section
open Go.RowKit
theorem Bin.subU (x y : Nat) (hy : y ≤ 18446744073709551615) : Bin .sub .u64 x .u64 y (.int .u64 (((x + 18446744073709551616 - y) % 18446744073709551616 : Nat) : Int)) := fun P T w => by
 have e : IntKind.u64.wrap ((x : Int) - (y : Int)) = (((x + 18446744073709551616 - y) % 18446744073709551616 : Nat) : Int) := by
  have e1 : IntKind.u64.wrap ((x : Int) - (y : Int)) = ((x : Int) - (y : Int)) % 18446744073709551616 := by simp [IntKind.wrap, IntKind.signed, IntKind.bits]
  rw [e1]
  omega
 simp [binOp, Op.intArith, e]
section
variable {P : Program} {n : NF} {Γ : Env} {w : World} {Q : Exit → Env → World → Prop} {K : Env → World → Prop} {KE : Env → Prop} {ops : Array Oper} {rest : List Oper} {d : Nat} {op : Op} {T : TypeId} {pos : String} {after : Array Edge}
theorem qHn {j : Nat} {a : Act} (hs : Sat n Γ a) (h : yi ops Γ j = some undef) : yielded ops a.tmps j = none := by
 unfold yi at h
 unfold yielded
 cases hd : (ops[j]?).bind (·.dst) with
 | none => rfl
 | some t =>
  rw [hd] at h
  simp only [Option.bind_some] at h ⊢
  have := hs.at_ t _ h
  rw [Array.getD_eq_getD_getElem?] at this
  cases hg : a.tmps[t]? with
  | none => rfl
  | some u => rw [hg] at this; simp only [Option.getD_some] at this; subst this; rfl
theorem nQ {j : Nat} {c : Bool} {o : Oper} {a : Act} (hs : Sat n Γ a) (hg : o.guard = some (j, c)) (h : yi ops Γ j = some undef) : Region.wanted o (yielded ops a.tmps) = false := by
 unfold Region.wanted
 rw [hg]
 simp only
 rw [qHn hs h]
 rfl
theorem Ops.skU {j : Nat} {c : Bool} (hy : yi ops Γ j = some undef) (hn : Nat.blt d n.n = true) (k : Ops P n ops rest ((d, undef) :: Γ) w Q) : Ops P n ops (⟨some d, op, T, pos, after, some (j, c)⟩ :: rest) Γ w Q := by
 intro a hs m
 unfold wpListIn
 rw [nQ hs rfl hy]
 simp only [Bool.false_eq_true, if_false]
 exact ⟨dF, k _ (hs.put hn undef) m⟩
theorem qW.skU {j : Nat} {c : Bool} (hy : yi ops Γ j = some undef) (hn : Nat.blt d n.n = true) (k : qW P n ops rest ((d, undef) :: Γ) w KE) : qW P n ops (⟨some d, op, T, pos, after, some (j, c)⟩ :: rest) Γ w KE := by
 intro a hs
 unfold wpStill
 rw [nQ hs rfl hy]
 simp only [Bool.false_eq_true, if_false]
 exact k _ (hs.put hn undef)
theorem qV.skU {S : World → Prop} {Pn : List PanicEntry → World → Prop} {L fuel : Nat} {listed : Array Bool} {d : Nat} (i : Nat) {oi : Oper} {j : Nat} {c : Bool} (hi : ops[i]? = some oi) (hsel : (Region.noSelect ops && mO ops L i) = true) (hf : Region.free .any ops listed i = true) (hr : (Region.ready .any ops listed).contains i = true)
  (hS : S w) (hg : oi.guard = some (j, c)) (hy : yi ops Γ j = some undef) (hd : oi.dst = some d) (hn : Nat.blt d n.n = true)
  (k : qV P n ops S Pn L fuel (listed.setIfInBounds i true) ((d, undef) :: Γ) w K) : qV P n ops S Pn L (fuel + 1) listed Γ w K := by
 intro a hs
 refine oV (v := undef) hi hsel hf hr rA (.inr ⟨nQ hs hg hy, rfl⟩) hS ?_
 rw [hd]
 exact k _ (hs.put hn undef)
end
section
variable {P : Program} {Γ : Env} {w : World} {dst : Option Tmp} {T : TypeId} {pos : String} {after : Array Edge} {g : Option (Nat × Bool)}
theorem Run.indexA {t : TypeId} {x i : Operand} {a : Addr} {n : Nat} {k : IntKind} {e : TypeId} {sz : Nat} (j : Nat) (hx : ev? Γ x = some (.pointer (some a))) (hi : ev? Γ i = some (.int k j)) (ht : P.underlying t = some (.array n e))
  (hz : ∀ w, (sizeOf e).run P w = .ok sz w) (hj : j < n) : Run P ⟨dst, .indexAddr t x i, T, pos, after, g⟩ Γ w (.pointer (some (a.add (j * sz)))) := fun ρ hρ => by
 have h1 : (j : Int) < (n : Int) := jo
 simp [execOp, hρ _ _ hx, hρ _ _ hi, Instr.indexAt, asIntOf, run_underlying ht, hz, hj, Instr.sureAddr]
theorem Run.indexA1 {t : TypeId} {x i : Operand} {gb o n : Nat} {k : IntKind} {e : TypeId} (j : Nat) (hx : ev? Γ x = some (.pointer (some ⟨gb, o, none⟩))) (hi : ev? Γ i = some (.int k j)) (ht : P.underlying t = some (.array n e))
  (hz : ∀ w, (sizeOf e).run P w = .ok 1 w) (hj : j < n) : Run P ⟨dst, .indexAddr t x i, T, pos, after, g⟩ Γ w (.pointer (some ⟨gb, o + j, none⟩)) := by
 have := Run.indexA (P := P) (Γ := Γ) (w := w) (dst := dst) (T := T) (pos := pos) (after := after) (g := g) j hx hi ht hz hj
 have e : (⟨gb, o, none⟩ : Addr).add (j * 1) = ⟨gb, o + j, none⟩ := by unfold Addr.add; split <;> simp_all
 rwa [e] at this
theorem Run.loadB {t e : TypeId} {x : Operand} {gb sz : Nat} {cs : Array Value} (hx : ev? Γ x = some (.pointer (some ⟨gb, 0, none⟩))) (ht : ∀ w, (isAgg t).run P w = .ok true w) (hz : ∀ w, (sizeOf t).run P w = .ok sz w)
  (hb : Blk w gb e cs) (hl : cs.size = sz) : Run P ⟨dst, .load t x, T, pos, after, g⟩ Γ w (.agg cs) := by
 have := Run.loadA (P := P) (Γ := Γ) (w := w) (dst := dst) (T := T) (pos := pos) (after := after) (g := g) hx ht hz hb.cells (by simpa using hl)
 simpa using this
theorem eF {t : Tmp} {T : TypeId} {r : List ResultVar} {e : TypeId} {gb sz : Nat} {cs : Array Value} {K : List Value → Prop} (h1 : get? Γ t = some (.pointer (some ⟨gb, 0, none⟩))) (ht : ∀ w, (isAgg T).run P w = .ok true w) (hz : ∀ w, (sizeOf T).run P w = .ok sz w)
  (hb : Blk w gb e cs) (hl : cs.size = sz) (h : jL P r Γ w fun vs => K (.agg cs :: vs)) : jL P (.cell t T :: r) Γ w K :=
 yH (cs := cs.toList) h1 ht hz hb.cells (by simpa using hl) (by simpa using h)
theorem xM (z : Array Value) (n k : Nat) (hz : z.size = k) : (madeCells z (n * k)).toList = (List.replicate n z.toList).flatten := by
 apply List.ext_getElem?
 intro j
 rw [Array.getElem?_toList]
 unfold madeCells
 simp only [Array.getElem?_map, Array.getElem?_range]
 have hfl : (List.replicate n z.toList).flatten = (List.range n).flatMap (fun _ => z.toList) := by
  rw [List.flatMap_def]
  congr 1
  apply List.ext_getElem?
  intro i
  simp [List.getElem?_replicate]
  split
  · rename_i h; rw [List.getElem?_eq_getElem (by simpa using h)]; simp
  rename_i h; rw [List.getElem?_eq_none (by simpa using h)]; rfl
 rcases Nat.eq_zero_or_pos k with h0 | h0
 ·
  subst h0
  have : z = #[] := Array.eq_empty_of_size_eq_zero hz
  subst this
  simp
 rw [hfl, qHl _ k h0 (fun _ => by simpa using hz)]
 by_cases hj : j < n * k
 ·
  have h2 : j / k < n := Nat.div_lt_of_lt_mul (by rw [Nat.mul_comm]; exact hj)
  have h3 : j % k < z.size := by rw [hz]; exact Nat.mod_lt _ h0
  rw [List.getElem?_eq_getElem (by simpa using h2)]
  simp only [hj, if_true, Option.map_some, hz, List.getElem_range, Option.bind_some, Array.getElem?_toList]
  rw [getElem!_pos z _ h3, Array.getElem?_eq_getElem h3]
 have h2 : ¬ j / k < n := by
  intro h
  have : j < n * k := by rw [Nat.mul_comm]; exact (Nat.div_lt_iff_lt_mul h0).1 h |> fun h => by rw [Nat.mul_comm]; exact h
  exact hj this
 rw [List.getElem?_eq_none (by simpa using h2)]
 simp [hj]
theorem qJ.makeS {t e : TypeId} {x y : Operand} {z : Value} {size bytes n : Nat} {k k' : IntKind} (hx : ev? Γ x = some (.int k (n : Int))) (hy : ev? Γ y = some (.int k' (n : Int)))
  (ht : P.underlying t = some (.slice e)) (hi : (P.info? e).map (fun i => (i.zero, i.size, i.bytes)) = some (some z, size, bytes)) (hzs : z.cells.size = size) (hb : bytes * n ≤ 281474976710656) (hn : n ≤ 9223372036854775807) :
  qJ P ⟨dst, .makeSlice t x y, T, pos, after, g⟩ Γ w (fun r w' => r = .slice (some ⟨w.heap.size, 0, none⟩) n n ∧ Own w' e size (some ⟨w.heap.size, 0, none⟩) n n (List.replicate n z.cells.toList).flatten ∧ Frm [] w w' ∧ w'.heap.size = w.heap.size + 1) := fun ρ hρ => by
 obtain ⟨i, hi1, hi2⟩ := Option.map_eq_some_iff.1 hi
 simp only [Prod.mk.injEq] at hi2
 obtain ⟨hz, hsz, hbt⟩ := hi2
 have hr := run_make (P := P) w t e i z ht hi1 hz k k' (n : Int) (n : Int) jo jo (by have h := Int.ofNat_le.2 hb; rw [Int.natCast_mul] at h; rw [hbt]; exact h) jo
 simp only [Int.toNat_natCast, hsz] at hr
 refine ⟨_, w.alloc (.cells (madeCells z.cells (n * size)) e), ?_, rfl, ?_, (Frm.refl _ _).alloc _, (Fresh.mk' w e _).size⟩
 · simp only [execOp, hρ _ _ hx, hρ _ _ hy, Sem.run_bind, hr, Result.andThen_ok, Sem.run_pure]
 rw [← xM z.cells n size hzs]
 exact Own.of_blk (Blk.new w e _) (by rw [size_madeCells]) (by simp [maxLen]; omega)
theorem qJ.buildN {t e : TypeId} {size n : Nat} {parts : List (Nat × Operand)} {vs : List Value} {z : Value} {cells : Array Value} (hv : evs Γ (parts.map (·.2)) vs) (ht : P.underlying t = some (.slice e)) (hz : ∀ w, (sizeOf e).run P w = .ok size w)
  (hzv : ∀ w, (zeroValue e).run P w = .ok z w) (hn : Nat.beq (n * size) 0 = false) (hb : Nat.ble (n * size) 16777216 = true)
  (hf : Instr.fill (fun i => some (i * size, size)) ((Array.range (n * size)).map (z.cells[· % z.cells.size]!)) ((parts.map (·.1)).zip vs) = some cells) :
  qJ P ⟨dst, .buildSlice t n parts.toArray, T, pos, after, g⟩ Γ w (fun r w' => r = .slice (some ⟨w.heap.size, 0, none⟩) n n ∧ Fresh w w' e cells) := fun ρ hρ => by
 have e1 := gX hρ _ _ hv
 have e2 : parts.map (fun p => (p.1, ρ p.2)) = (parts.map (·.1)).zip vs := by
  rw [← e1, List.map_map, List.zip_map']
  rfl
 have h1 : ¬ (n * size > 2 ^ 24) := by have := Nat.le_of_ble_eq_true hb; omega
 have h2 : ¬ (n * size = 0) := Nat.ne_of_beq_eq_false hn
 refine ⟨_, w.alloc (.cells cells e), ?_, rfl, Fresh.mk' _ _ _⟩
 simp only [execOp, Instr.buildSlice, Sem.run_bind, run_underlying ht, Result.andThen_ok, hz, Sem.run_ite, h1, h2, if_false, hzv, Sem.run_pure, List.map_toArray, e2, hf, newRow, run_newObj]
 rfl
theorem qQv {α : Type} (f : α → List Value) (sz : Nat) (hf : ∀ a, (f a).length = sz) : ∀ (l : List α) (j : Nat) (x : α), j < l.length → (l.set j x).flatMap f = (l.flatMap f).take (j * sz) ++ f x ++ (l.flatMap f).drop (j * sz + sz)
 | [], j, x, h => by simp at h
 | a :: r, 0, x, _ => by
  simp only [List.set_cons_zero, List.flatMap_cons, Nat.zero_mul, List.take_zero, List.nil_append, Nat.zero_add]
  rw [List.drop_append, List.drop_eq_nil_of_le (by rw [hf]; exact Nat.le_refl _), hf, Nat.sub_self, List.drop_zero, List.nil_append]
 | a :: r, j + 1, x, h => by
  have h2 : j < r.length := by simpa using h
  have ih := qQv f sz hf r j x h2
  simp only [List.set_cons_succ, List.flatMap_cons, ih]
  have e1 : (j + 1) * sz = (f a).length + j * sz := by rw [hf, Nat.succ_mul]; omega
  have e2 : (f a).length + j * sz + sz = (f a).length + (j * sz + sz) := jo
  rw [e1, e2, List.take_length_add_append, List.drop_length_add_append]
  simp [List.append_assoc]
theorem qR.storeOwnA {α : Type} (f : α → List Value) {t e size n cap : Nat} {x y : Operand} {A : Option Addr} {ad : Addr} {l : List α} (u : α) (j : Nat) (hx : ev? Γ x = some (.pointer (some (ad.add (j * size))))) (hy : ev? Γ y = some (.agg (f u).toArray))
  (hz : ∀ w, (sizeOf t).run P w = .ok size w) (hf : ∀ a, (f a).length = size) (hl : l.length = n) (ho : Own w e size A n cap (l.flatMap f)) (hA : A = some ad) (hj : j < n) (h1 : ∀ v ∈ f u, v.oneCell' = true) :
  qR P ⟨dst, .store t x y, T, pos, after, g⟩ Γ w (fun w' => Own w' e size A n cap ((l.set j u).flatMap f) ∧ Frm (ob A) w w' ∧ w'.heap.size = w.heap.size) := fun ρ hρ => by
 rcases ho.cases with ⟨rfl, _⟩ | ⟨gb, cur, hA', hb, hnc, hc, hs, ht⟩
 · cases hA
 rw [hA'] at hA
 injection hA with hA
 subst hA
 subst hA'
 rw [kT] at hx
 have hmul : n * size ≤ cap * size := Nat.mul_le_mul_right _ hnc
 have hjs : j * size + size ≤ n * size := by rw [← Nat.succ_mul]; exact Nat.mul_le_mul_right _ hj
 have hr := run_storeCells_at (P := P) gb (j * size) e (f u) 0 cur w hb (by rw [hf]; omega) h1
 simp only [Nat.add_zero, hf] at hr
 generalize hcs : (List.take (j * size) cur.toList ++ f u ++ List.drop (j * size + size) cur.toList).toArray = cs' at hr
 refine ⟨w.setRow gb cs', ?_, ⟨?_, .inr ⟨gb, cap, cs', rfl, Nat.zero_le _, setRow_heap w gb cur _ e (0, 0) hb, hnc, hc, ?_, ?_⟩⟩, ?_, by simp [World.setRow]⟩
 · simp only [execOp, Instr.storeAt, Instr.sureAddr, storeVar, hρ _ _ hx, hρ _ _ hy, Value.cells, Sem.run_bind, Sem.run_pure, Result.andThen_ok, hz, List.size_toArray, hf, ne_eq, not_true_eq_false, if_false, Sem.run_ite, hr]
 · rw [pV f size hf, List.length_set, hl]
 ·
  subst hcs
  simp only [List.size_toArray, List.length_append, List.length_take, List.length_drop, Array.length_toList, hf, hs]
  rw [Nat.min_eq_left jo]
  omega
 ·
  subst hcs
  have e1 : (cur.toList.take (j * size)).length = j * size := by rw [List.length_take, Array.length_toList, hs, Nat.min_eq_left jo]
  rw [qQv f size hf l j u jo, ← ht, List.take_take, Nat.min_eq_left jo]
  simp only [List.append_assoc]
  rw [List.take_append, List.take_of_length_le (l := cur.toList.take (j * size)) (by rw [e1]; omega), e1, List.take_append, List.take_of_length_le (l := f u) (by rw [hf]; omega), hf, List.drop_take]
  congr 3
  omega
 exact ⟨rfl, rfl, rfl, by simp [World.setRow], fun k _ hS => setRow_other w gb k _ (by simpa [ob] using hS)⟩
theorem qJx {d : Nat} {xs ys : Array Value} {f : Field} {fs : List Field} {k k' : IntKind} {a b : Int} {r : Bool} (hn : f.name ≠ "_") (ht : ∀ w, (isAgg f.type).run P w = .ok false w) (hu : P.underlying f.type = some (.int k'))
  (hx : xs[f.offset]? = some (.int k a)) (hy : ys[f.offset]? = some (.int k b)) (h : (Op.eqFields (d + 1) xs ys fs).run P w = .ok r w) : (Op.eqFields (d + 1) xs ys (f :: fs)).run P w = .ok (decide (a = b) && r) w := by
 have e1 : (a == b) = decide (a = b) := by rw [Bool.eq_iff_iff]; simp
 simp only [Op.eqFields, if_pos hn, Sem.run_bind, part, ht, Result.andThen_ok, Bool.false_eq_true, if_false, hx, hy, Sem.run_pure, run_equalIn_int w d f.type k k' a b hu, Sem.run_ite]
 by_cases hab : a = b
 · simp [hab, h]
 simp [hab, e1]
theorem qPc {d : Nat} {xs ys : Array Value} : (Op.eqFields d xs ys []).run P w = .ok true w := rfl
theorem Run.eqlAgg {t yT : TypeId} {x y : Operand} {xs ys : Array Value} {b : Bool} (hx : ev? Γ x = some (.agg xs)) (hy : ev? Γ y = some (.agg ys)) (hm : P.eqGuardType P.depth t = false) (ht : P.underlying t = some (.struct (P.fieldsOf t))) (hp : P.stoodInHeld t = false)
  (h : (Op.eqFields 9999 xs ys (P.fieldsOf t).toList).run P w = .ok b w) : Run P ⟨dst, .binOp .eql t x y yT, T, pos, after, g⟩ Γ w (.bool b) := fun ρ hρ => by
 have h1 := run_equalIn_agg (P := P) w 9999 t xs ys ht hp
 simp [execOp, hρ _ _ hx, hρ _ _ hy, run_eqGuard_agg w .eql t x y xs ys hm, run_eql_struct, h1, h]
end
end
section
open Go.RowKit
section
variable {P : Program} {Γ : Env} {w : World} {dst : Option Tmp} {T : TypeId} {pos : String} {after : Array Edge} {g : Option (Nat × Bool)}
def pY : TypeDesc → Bool
 | .interface _ => false
 | _ => true
theorem Run.mkIface {xT : TypeId} {x : Operand} {v : Value} {d : TypeDesc} (hx : ev? Γ x = some v) (hu : P.underlying xT = some d) (hd : pY d = true) :
  Run P ⟨dst, .makeInterface xT x, T, pos, after, g⟩ Γ w (.iface xT v) := fun ρ hρ => by
 have e : (Instr.makeInterface xT v).run P w = .ok (.iface xT v) w := by
  unfold Instr.makeInterface
  simp only [Sem.run_bind, run_underlying hu, Result.andThen_ok]
  cases d <;> first | rfl | cases hd
 simp [execOp, hρ _ _ hx, e]
theorem Run.assertT {xT D : TypeId} {x : Operand} {v : Value} {d : TypeDesc} (hx : ev? Γ x = some (.iface D v)) (hu : P.underlying D = some d) (hd : pY d = true) :
  Run P ⟨dst, .typeAssert x xT D false, T, pos, after, g⟩ Γ w v := fun ρ hρ => by
 have e : (Instr.typeAssert (.iface D v) xT D false).run P w = .ok v w := by
  unfold Instr.typeAssert
  simp only [Sem.run_bind, run_underlying hu, Result.andThen_ok]
  cases d <;> first | (simp; done) | cases hd
 simp [execOp, hρ _ _ hx, e]
theorem Run.mkFunc {f : FuncId} {xs ys : List Operand} {vs us : List Value} (hx : evs Γ xs vs) (hy : evs Γ ys us) :
  Run P ⟨dst, .makeFunc (.func f) xs.toArray ys.toArray, T, pos, after, g⟩ Γ w (.func (.func f) vs.toArray us.toArray) := fun ρ hρ => by
 have e1 := gX hρ xs vs hx
 have e2 := gX hρ ys us hy
 simp [execOp, Instr.makeFunc, e1, e2]
theorem bW.dyn {c : Operand} {f : FuncId} {fs us : List Value} {xs : List Operand} {vs : List Value} {ts : Array TypeId} (hc : ev? Γ c = some (.func (.func f) fs.toArray us.toArray)) (hv : evs Γ xs vs) (hf : ∀ args w, (callFunc f args).run P w = .ok (.enter f args) w) :
  bW P ⟨dst, .call ⟨.value c, xs.toArray, ts⟩, T, pos, after, g⟩ Γ w f (fs ++ vs ++ us).toArray := fun ρ hρ => by
 have e := gX hρ xs vs hv
 have e2 : ρ c = .func (.func f) fs.toArray us.toArray := hρ _ _ hc
 simp [execOp, resolve, e2, Deferred.ofValue, invoke, e, hf]
theorem bW.inv {recv : Operand} {name : String} {t : TypeId} {v v' : Value} {f : FuncId} {xs : List Operand} {vs : List Value} {ts : Array TypeId} (hr : ev? Γ recv = some (.iface t v)) (hv : evs Γ xs vs)
  (hm : ∀ args, (callMethod (.iface t v) name args).run P w = .ok (.enter f (#[v'] ++ args)) w) :
  bW P ⟨dst, .call ⟨.invoke recv name, xs.toArray, ts⟩, T, pos, after, g⟩ Γ w f (v' :: vs).toArray := fun ρ hρ => by
 have e := gX hρ xs vs hv
 have e2 : ρ recv = .iface t v := hρ _ _ hr
 have h2 := hm vs.toArray
 simp [execOp, resolve, e2, invoke, e, Array.extract_append]
 simpa using h2
theorem qQw {t e : TypeId} {a : Addr} {name : String} {i : TypeInfo} {m : Method} {f : FuncId} {v : Value} (hi : P.info? t = some i) (hfnd : i.methods.find? (·.name == name) = some m) (hpath : m.path = #[]) (hfun : m.func = some (f, false))
  (hu : P.underlying t = some (.pointer e)) (hv : (loadVar e a).run P w = .ok v w) (hf : ∀ args w, (callFunc f args).run P w = .ok (.enter f args) w) (args : Array Value) :
  (callMethod (.iface t (.pointer (some a))) name args).run P w = .ok (.enter f (#[v] ++ args)) w := by
 have hw : ∀ s, (Builtin.ssaWrapNilChk_ #[t] t #[.pointer (some a), strVal "", strVal s]).run P w = .ok (.pointer (some a)) w := by
  intro s
  rfl
 have ha : (asAddr (.pointer (some a))).run P w = .ok a w := rfl
 have key : ∀ n, (method (n + 1) t (.pointer (some a)) name).run P w = .ok (f, v) w := by
  intro n
  unfold method
  simp [typeInfo, hi, hfnd, hpath, hfun, follow, receiverAt, run_underlying hu, Place.get, ha, hv, hw]
 have e1 : P.types.size + Made.depth = (P.types.size + (Made.depth - 1)) + 1 := rfl
 unfold callMethod
 simp only [Sem.run_bind, run_program, Result.andThen_ok]
 rw [e1, key]
 simp [hf]
theorem rI {e : TypeId} {a : Addr} {v : Value} (ht : ∀ w, (isAgg e).run P w = .ok false w) (hc : w.cell? a = some v) : (loadVar e a).run P w = .ok v w := by simp [loadVar, ht, hc]
end
section
variable {P : Program} {n : NF} {Γ : Env} {Pn : List PanicEntry → World → Prop} {w : World} {K : Env → World → Prop} {ops : Array Oper} {S : World → Prop} {L fuel : Nat} {listed : Array Bool}
theorem qV.r1 {v : Value} {d : Nat} (i : Nat) {oi : Oper} (hi : ops[i]? = some oi) (hr : Region.ready .any ops listed = [i]) (hS : S w) (h : Run P oi Γ w v) (hup : Up ops Γ oi.guard) (hd : oi.dst = some d) (hn : Nat.blt d n.n = true)
  (k : qV P n ops S Pn L fuel (listed.setIfInBounds i true) ((d, v) :: Γ) w K) : qV P n ops S Pn L (fuel + 1) listed Γ w K :=
 qV.of_wp i hi hr hup fun a hs => by
  unfold Oper.wp
  rw [h _ hs.fits, Oper.upon_value, hd]
  exact ⟨hS, k _ (hs.put hn v)⟩
theorem Sat.swap {a : Act} {d e : Nat} {u v : Value} (hne : Nat.beq d e = false) (h : Sat n ((d, u) :: (e, v) :: Γ) a) : Sat n ((e, v) :: (d, u) :: Γ) a :=
 ⟨h.size, h.defers, fun t x ht => by
  refine h.at_ t x ?_
  simp only [get?] at ht ⊢
  cases h1 : Nat.beq d t with
  | true =>
   rw [h1] at ht
   simp only [cond_true] at ht ⊢
   cases h2 : Nat.beq e t with
   | true =>
    have e1 := Nat.eq_of_beq_eq_true h1
    have e2 := Nat.eq_of_beq_eq_true h2
    subst e1 e2
    rw [Nat.beq_refl] at hne
    cases hne
   | false => rw [h2] at ht; simpa using ht
  | false =>
   rw [h1] at ht
   simp only [cond_false] at ht ⊢
   exact ht⟩
theorem qV.r2 {u v : Value} {d e : Nat} (i j : Nat) {oi oj : Oper} (hi : ops[i]? = some oi) (hj : ops[j]? = some oj) (hr : Region.ready .any ops listed = [i, j]) (hri : Region.ready .any ops (listed.setIfInBounds i true) = [j]) (hrj : Region.ready .any ops (listed.setIfInBounds j true) = [i])
  (hl : (listed.setIfInBounds j true).setIfInBounds i true = (listed.setIfInBounds i true).setIfInBounds j true) (hS : S w) (hgi : oi.guard = none) (hgj : oj.guard = none)
  (h1 : Run P oi Γ w u) (h2 : Run P oj ((d, u) :: Γ) w v) (h3 : Run P oj Γ w v) (h4 : Run P oi ((e, v) :: Γ) w u) (hd : oi.dst = some d) (he : oj.dst = some e) (hdn : Nat.blt d n.n = true) (hen : Nat.blt e n.n = true) (hne : Nat.beq d e = false)
  (k : qV P n ops S Pn L fuel ((listed.setIfInBounds i true).setIfInBounds j true) ((e, v) :: (d, u) :: Γ) w K) : qV P n ops S Pn L (fuel + 1 + 1) listed Γ w K := by
 intro a hs
 refine pK hr jp ?_
 intro x hx
 simp only [List.mem_cons, List.not_mem_nil, or_false] at hx
 rcases hx with rfl | rfl
 ·
  unfold wpOp
  simp only [hi]
  rw [if_pos (by unfold Region.wanted; rw [hgi])]
  left
  unfold Oper.wp
  rw [h1 _ hs.fits, Oper.upon_value, hd]
  exact ⟨hS, (qV.r1 (S := S) j hj hri hS h2 (by rw [hgj]; trivial) he hen k) _ (hs.put hdn u)⟩
 unfold wpOp
 simp only [hj]
 rw [if_pos (by unfold Region.wanted; rw [hgj])]
 left
 unfold Oper.wp
 rw [h3 _ hs.fits, Oper.upon_value, he]
 refine ⟨hS, (qV.r1 (S := S) i hi hrj hS h4 (by rw [hgi]; trivial) hd hdn ?_) _ (hs.put hen v)⟩
 rw [hl]
 intro a' hs'
 exact k a' (Sat.swap hne hs')
theorem qV.rm {R : Value → World → Prop} {u : Value} {d e : Nat} (i j : Nat) {oi oj : Oper} (hi : ops[i]? = some oi) (hj : ops[j]? = some oj) {l2 : List Nat} (hr : Region.ready .any ops listed = l2) (hl2 : ∀ x ∈ l2, x = i ∨ x = j) (hl0 : l2 ≠ []) (hri : Region.ready .any ops (listed.setIfInBounds i true) = [j]) (hrj : Region.ready .any ops (listed.setIfInBounds j true) = [i])
  (hl : (listed.setIfInBounds j true).setIfInBounds i true = (listed.setIfInBounds i true).setIfInBounds j true) (hS : S w) (hgi : oi.guard = none) (hgj : oj.guard = none)
  (h1 : Run P oi Γ w u) (h2 : qJ P oj ((d, u) :: Γ) w R) (h3 : qJ P oj Γ w R) (h4 : ∀ v w', R v w' → S w' ∧ Run P oi ((e, v) :: Γ) w' u) (hd : oi.dst = some d) (he : oj.dst = some e) (hdn : Nat.blt d n.n = true) (hen : Nat.blt e n.n = true) (hne : Nat.beq d e = false)
  (k : ∀ v w', R v w' → qV P n ops S Pn L fuel ((listed.setIfInBounds i true).setIfInBounds j true) ((e, v) :: (d, u) :: Γ) w' K) : qV P n ops S Pn L (fuel + 1 + 1) listed Γ w K := by
 intro a hs
 refine pK hr hl0 ?_
 intro x hx
 rcases hl2 x hx with rfl | rfl
 ·
  unfold wpOp
  simp only [hi]
  rw [if_pos (by unfold Region.wanted; rw [hgi])]
  left
  unfold Oper.wp
  rw [h1 _ hs.fits, Oper.upon_value, hd]
  exact ⟨hS, (qV.m (S := S) j hj hri h2 (by rw [hgj]; trivial) he hen (fun v w' hR => ⟨(h4 v w' hR).1, k v w' hR⟩)) _ (hs.put hdn u)⟩
 unfold wpOp
 simp only [hj]
 rw [if_pos (by unfold Region.wanted; rw [hgj])]
 left
 obtain ⟨v, w', hrun, hR⟩ := h3 _ hs.fits
 unfold Oper.wp
 rw [hrun, Oper.upon_value, he]
 obtain ⟨hS', h4'⟩ := h4 v w' hR
 refine ⟨hS', (qV.r1 (S := S) i hi hrj hS' h4' (by rw [hgi]; trivial) hd hdn ?_) _ (hs.put hen v)⟩
 rw [hl]
 intro a' hs'
 exact k v w' hR a' (Sat.swap hne hs')
end
section
variable {P : Program} {n : NF} {Γ : Env} {Pn : List PanicEntry → World → Prop} {w : World} {Q : Exit → Env → World → Prop}
theorem VC.splitR {c : Code} (Γk : Env) (R : World → Prop) (t : Nat) (v : Value) (h : VC P n c Γ w (gC (fun Γ1 w1 => Sub Γ1 ((t, v) :: Γk) ∧ R w1) Q)) (k : ∀ Γ1 w1, Sub Γ1 ((t, v) :: Γk) → R w1 → Q .normal Γ1 w1) : VC P n c Γ w Q :=
 h.mono fun e Γ' w' q => by
  cases e with
  | normal => exact k Γ' w' q.1 q.2
  | exit i => exact q
  | goto l => exact q
  | ret => exact q
  | panic c => exact q
  | outgrown => exact q
end
end
section
open Go.RowKit
theorem Frm.cell {w v : World} {S : List Nat} (h : Frm S w v) {a : Addr} {x : Value} (hc : w.cell? a = some x) (hS : a.block ∉ S) : v.cell? a = some x := by
 rw [World.cell?_of_block (w := w) (a := a) (h.block _ (World.block_lt_of_cell? w _ hc) hS)]
 exact hc
theorem qJ.mono {P : Program} {o : Oper} {Γ : Env} {w : World} {R R' : Value → World → Prop} (h : qJ P o Γ w R) (hr : ∀ v w', R v w' → R' v w') : qJ P o Γ w R' := fun ρ hρ =>
 let ⟨v, w', h1, h2⟩ := h ρ hρ; ⟨v, w', h1, hr v w' h2⟩
section
variable {P : Program} {n : NF} {Γ : Env} {Pn : List PanicEntry → World → Prop} {w : World} {K : Env → World → Prop} {ops : Array Oper} {S : World → Prop} {L fuel : Nat} {listed : Array Bool}
end
theorem jK {p : Prop} (h : p := by kernel_rfl) : p := h
theorem jC {a b : Bool} (h : a = b) : some (Value.bool a) = some (Value.bool b) := congrArg (fun b => some (Value.bool b)) h
theorem js1 {Γ : Env} {k0 : Nat} {v0 : Value} (h0 : get? Γ k0 = some v0) : Sub Γ [(k0, v0)] := (.cons h0 .nil)
theorem js2 {Γ : Env} {k0 k1 : Nat} {v0 v1 : Value} (h0 : get? Γ k0 = some v0) (h1 : get? Γ k1 = some v1) : Sub Γ [(k0, v0), (k1, v1)] := (.cons h0 (.cons h1 .nil))
theorem js3 {Γ : Env} {k0 k1 k2 : Nat} {v0 v1 v2 : Value} (h0 : get? Γ k0 = some v0) (h1 : get? Γ k1 = some v1) (h2 : get? Γ k2 = some v2) : Sub Γ [(k0, v0), (k1, v1), (k2, v2)] := (.cons h0 (.cons h1 (.cons h2 .nil)))
theorem js4 {Γ : Env} {k0 k1 k2 k3 : Nat} {v0 v1 v2 v3 : Value} (h0 : get? Γ k0 = some v0) (h1 : get? Γ k1 = some v1) (h2 : get? Γ k2 = some v2) (h3 : get? Γ k3 = some v3) : Sub Γ [(k0, v0), (k1, v1), (k2, v2), (k3, v3)] := (.cons h0 (.cons h1 (.cons h2 (.cons h3 .nil))))
theorem js5 {Γ : Env} {k0 k1 k2 k3 k4 : Nat} {v0 v1 v2 v3 v4 : Value} (h0 : get? Γ k0 = some v0) (h1 : get? Γ k1 = some v1) (h2 : get? Γ k2 = some v2) (h3 : get? Γ k3 = some v3) (h4 : get? Γ k4 = some v4) : Sub Γ [(k0, v0), (k1, v1), (k2, v2), (k3, v3), (k4, v4)] := (.cons h0 (.cons h1 (.cons h2 (.cons h3 (.cons h4 .nil)))))
theorem js6 {Γ : Env} {k0 k1 k2 k3 k4 k5 : Nat} {v0 v1 v2 v3 v4 v5 : Value} (h0 : get? Γ k0 = some v0) (h1 : get? Γ k1 = some v1) (h2 : get? Γ k2 = some v2) (h3 : get? Γ k3 = some v3) (h4 : get? Γ k4 = some v4) (h5 : get? Γ k5 = some v5) : Sub Γ [(k0, v0), (k1, v1), (k2, v2), (k3, v3), (k4, v4), (k5, v5)] := (.cons h0 (.cons h1 (.cons h2 (.cons h3 (.cons h4 (.cons h5 .nil))))))
theorem js7 {Γ : Env} {k0 k1 k2 k3 k4 k5 k6 : Nat} {v0 v1 v2 v3 v4 v5 v6 : Value} (h0 : get? Γ k0 = some v0) (h1 : get? Γ k1 = some v1) (h2 : get? Γ k2 = some v2) (h3 : get? Γ k3 = some v3) (h4 : get? Γ k4 = some v4) (h5 : get? Γ k5 = some v5) (h6 : get? Γ k6 = some v6) : Sub Γ [(k0, v0), (k1, v1), (k2, v2), (k3, v3), (k4, v4), (k5, v5), (k6, v6)] := (.cons h0 (.cons h1 (.cons h2 (.cons h3 (.cons h4 (.cons h5 (.cons h6 .nil)))))))
theorem js8 {Γ : Env} {k0 k1 k2 k3 k4 k5 k6 k7 : Nat} {v0 v1 v2 v3 v4 v5 v6 v7 : Value} (h0 : get? Γ k0 = some v0) (h1 : get? Γ k1 = some v1) (h2 : get? Γ k2 = some v2) (h3 : get? Γ k3 = some v3) (h4 : get? Γ k4 = some v4) (h5 : get? Γ k5 = some v5) (h6 : get? Γ k6 = some v6) (h7 : get? Γ k7 = some v7) : Sub Γ [(k0, v0), (k1, v1), (k2, v2), (k3, v3), (k4, v4), (k5, v5), (k6, v6), (k7, v7)] := (.cons h0 (.cons h1 (.cons h2 (.cons h3 (.cons h4 (.cons h5 (.cons h6 (.cons h7 .nil))))))))
theorem js9 {Γ : Env} {k0 k1 k2 k3 k4 k5 k6 k7 k8 : Nat} {v0 v1 v2 v3 v4 v5 v6 v7 v8 : Value} (h0 : get? Γ k0 = some v0) (h1 : get? Γ k1 = some v1) (h2 : get? Γ k2 = some v2) (h3 : get? Γ k3 = some v3) (h4 : get? Γ k4 = some v4) (h5 : get? Γ k5 = some v5) (h6 : get? Γ k6 = some v6) (h7 : get? Γ k7 = some v7) (h8 : get? Γ k8 = some v8) : Sub Γ [(k0, v0), (k1, v1), (k2, v2), (k3, v3), (k4, v4), (k5, v5), (k6, v6), (k7, v7), (k8, v8)] := (.cons h0 (.cons h1 (.cons h2 (.cons h3 (.cons h4 (.cons h5 (.cons h6 (.cons h7 (.cons h8 .nil)))))))))
theorem js10 {Γ : Env} {k0 k1 k2 k3 k4 k5 k6 k7 k8 k9 : Nat} {v0 v1 v2 v3 v4 v5 v6 v7 v8 v9 : Value} (h0 : get? Γ k0 = some v0) (h1 : get? Γ k1 = some v1) (h2 : get? Γ k2 = some v2) (h3 : get? Γ k3 = some v3) (h4 : get? Γ k4 = some v4) (h5 : get? Γ k5 = some v5) (h6 : get? Γ k6 = some v6) (h7 : get? Γ k7 = some v7) (h8 : get? Γ k8 = some v8) (h9 : get? Γ k9 = some v9) : Sub Γ [(k0, v0), (k1, v1), (k2, v2), (k3, v3), (k4, v4), (k5, v5), (k6, v6), (k7, v7), (k8, v8), (k9, v9)] := (.cons h0 (.cons h1 (.cons h2 (.cons h3 (.cons h4 (.cons h5 (.cons h6 (.cons h7 (.cons h8 (.cons h9 .nil))))))))))
theorem js11 {Γ : Env} {k0 k1 k2 k3 k4 k5 k6 k7 k8 k9 k10 : Nat} {v0 v1 v2 v3 v4 v5 v6 v7 v8 v9 v10 : Value} (h0 : get? Γ k0 = some v0) (h1 : get? Γ k1 = some v1) (h2 : get? Γ k2 = some v2) (h3 : get? Γ k3 = some v3) (h4 : get? Γ k4 = some v4) (h5 : get? Γ k5 = some v5) (h6 : get? Γ k6 = some v6) (h7 : get? Γ k7 = some v7) (h8 : get? Γ k8 = some v8) (h9 : get? Γ k9 = some v9) (h10 : get? Γ k10 = some v10) : Sub Γ [(k0, v0), (k1, v1), (k2, v2), (k3, v3), (k4, v4), (k5, v5), (k6, v6), (k7, v7), (k8, v8), (k9, v9), (k10, v10)] := (.cons h0 (.cons h1 (.cons h2 (.cons h3 (.cons h4 (.cons h5 (.cons h6 (.cons h7 (.cons h8 (.cons h9 (.cons h10 .nil)))))))))))
theorem js12 {Γ : Env} {k0 k1 k2 k3 k4 k5 k6 k7 k8 k9 k10 k11 : Nat} {v0 v1 v2 v3 v4 v5 v6 v7 v8 v9 v10 v11 : Value} (h0 : get? Γ k0 = some v0) (h1 : get? Γ k1 = some v1) (h2 : get? Γ k2 = some v2) (h3 : get? Γ k3 = some v3) (h4 : get? Γ k4 = some v4) (h5 : get? Γ k5 = some v5) (h6 : get? Γ k6 = some v6) (h7 : get? Γ k7 = some v7) (h8 : get? Γ k8 = some v8) (h9 : get? Γ k9 = some v9) (h10 : get? Γ k10 = some v10) (h11 : get? Γ k11 = some v11) : Sub Γ [(k0, v0), (k1, v1), (k2, v2), (k3, v3), (k4, v4), (k5, v5), (k6, v6), (k7, v7), (k8, v8), (k9, v9), (k10, v10), (k11, v11)] := (.cons h0 (.cons h1 (.cons h2 (.cons h3 (.cons h4 (.cons h5 (.cons h6 (.cons h7 (.cons h8 (.cons h9 (.cons h10 (.cons h11 .nil))))))))))))
theorem js13 {Γ : Env} {k0 k1 k2 k3 k4 k5 k6 k7 k8 k9 k10 k11 k12 : Nat} {v0 v1 v2 v3 v4 v5 v6 v7 v8 v9 v10 v11 v12 : Value} (h0 : get? Γ k0 = some v0) (h1 : get? Γ k1 = some v1) (h2 : get? Γ k2 = some v2) (h3 : get? Γ k3 = some v3) (h4 : get? Γ k4 = some v4) (h5 : get? Γ k5 = some v5) (h6 : get? Γ k6 = some v6) (h7 : get? Γ k7 = some v7) (h8 : get? Γ k8 = some v8) (h9 : get? Γ k9 = some v9) (h10 : get? Γ k10 = some v10) (h11 : get? Γ k11 = some v11) (h12 : get? Γ k12 = some v12) : Sub Γ [(k0, v0), (k1, v1), (k2, v2), (k3, v3), (k4, v4), (k5, v5), (k6, v6), (k7, v7), (k8, v8), (k9, v9), (k10, v10), (k11, v11), (k12, v12)] := (.cons h0 (.cons h1 (.cons h2 (.cons h3 (.cons h4 (.cons h5 (.cons h6 (.cons h7 (.cons h8 (.cons h9 (.cons h10 (.cons h11 (.cons h12 .nil)))))))))))))
theorem js14 {Γ : Env} {k0 k1 k2 k3 k4 k5 k6 k7 k8 k9 k10 k11 k12 k13 : Nat} {v0 v1 v2 v3 v4 v5 v6 v7 v8 v9 v10 v11 v12 v13 : Value} (h0 : get? Γ k0 = some v0) (h1 : get? Γ k1 = some v1) (h2 : get? Γ k2 = some v2) (h3 : get? Γ k3 = some v3) (h4 : get? Γ k4 = some v4) (h5 : get? Γ k5 = some v5) (h6 : get? Γ k6 = some v6) (h7 : get? Γ k7 = some v7) (h8 : get? Γ k8 = some v8) (h9 : get? Γ k9 = some v9) (h10 : get? Γ k10 = some v10) (h11 : get? Γ k11 = some v11) (h12 : get? Γ k12 = some v12) (h13 : get? Γ k13 = some v13) : Sub Γ [(k0, v0), (k1, v1), (k2, v2), (k3, v3), (k4, v4), (k5, v5), (k6, v6), (k7, v7), (k8, v8), (k9, v9), (k10, v10), (k11, v11), (k12, v12), (k13, v13)] := (.cons h0 (.cons h1 (.cons h2 (.cons h3 (.cons h4 (.cons h5 (.cons h6 (.cons h7 (.cons h8 (.cons h9 (.cons h10 (.cons h11 (.cons h12 (.cons h13 .nil))))))))))))))
theorem js15 {Γ : Env} {k0 k1 k2 k3 k4 k5 k6 k7 k8 k9 k10 k11 k12 k13 k14 : Nat} {v0 v1 v2 v3 v4 v5 v6 v7 v8 v9 v10 v11 v12 v13 v14 : Value} (h0 : get? Γ k0 = some v0) (h1 : get? Γ k1 = some v1) (h2 : get? Γ k2 = some v2) (h3 : get? Γ k3 = some v3) (h4 : get? Γ k4 = some v4) (h5 : get? Γ k5 = some v5) (h6 : get? Γ k6 = some v6) (h7 : get? Γ k7 = some v7) (h8 : get? Γ k8 = some v8) (h9 : get? Γ k9 = some v9) (h10 : get? Γ k10 = some v10) (h11 : get? Γ k11 = some v11) (h12 : get? Γ k12 = some v12) (h13 : get? Γ k13 = some v13) (h14 : get? Γ k14 = some v14) : Sub Γ [(k0, v0), (k1, v1), (k2, v2), (k3, v3), (k4, v4), (k5, v5), (k6, v6), (k7, v7), (k8, v8), (k9, v9), (k10, v10), (k11, v11), (k12, v12), (k13, v13), (k14, v14)] := (.cons h0 (.cons h1 (.cons h2 (.cons h3 (.cons h4 (.cons h5 (.cons h6 (.cons h7 (.cons h8 (.cons h9 (.cons h10 (.cons h11 (.cons h12 (.cons h13 (.cons h14 .nil)))))))))))))))
theorem js16 {Γ : Env} {k0 k1 k2 k3 k4 k5 k6 k7 k8 k9 k10 k11 k12 k13 k14 k15 : Nat} {v0 v1 v2 v3 v4 v5 v6 v7 v8 v9 v10 v11 v12 v13 v14 v15 : Value} (h0 : get? Γ k0 = some v0) (h1 : get? Γ k1 = some v1) (h2 : get? Γ k2 = some v2) (h3 : get? Γ k3 = some v3) (h4 : get? Γ k4 = some v4) (h5 : get? Γ k5 = some v5) (h6 : get? Γ k6 = some v6) (h7 : get? Γ k7 = some v7) (h8 : get? Γ k8 = some v8) (h9 : get? Γ k9 = some v9) (h10 : get? Γ k10 = some v10) (h11 : get? Γ k11 = some v11) (h12 : get? Γ k12 = some v12) (h13 : get? Γ k13 = some v13) (h14 : get? Γ k14 = some v14) (h15 : get? Γ k15 = some v15) : Sub Γ [(k0, v0), (k1, v1), (k2, v2), (k3, v3), (k4, v4), (k5, v5), (k6, v6), (k7, v7), (k8, v8), (k9, v9), (k10, v10), (k11, v11), (k12, v12), (k13, v13), (k14, v14), (k15, v15)] := (.cons h0 (.cons h1 (.cons h2 (.cons h3 (.cons h4 (.cons h5 (.cons h6 (.cons h7 (.cons h8 (.cons h9 (.cons h10 (.cons h11 (.cons h12 (.cons h13 (.cons h14 (.cons h15 .nil))))))))))))))))
section
variable {P : Program} {n : NF} {Γ : Env} {w : World} {Q : Exit → Env → World → Prop} {ops : Array Oper} {rest : List Oper} {d : Nat} {T : TypeId} {pos : String} {after : Array Edge}
theorem jM {x : Operand} {v : Value} (k : Ops P n ops rest ((d, v) :: Γ) w Q) (hx : ev? Γ x = some v := by exact rfl) (hn : Nat.blt d n.n = true := by exact rfl) : Ops P n ops (⟨some d, .move x, T, pos, after, none⟩ :: rest) Γ w Q := Ops.r (Run.mv hx) hn k
theorem jA {x : Operand} {v : Value} (k : Ops P n ops rest ((d, v) :: Γ) w Q) (hx : ev? Γ x = some v := by exact rfl) (hn : Nat.blt d n.n = true := by exact rfl) : Ops P n ops (⟨some d, .assign x, T, pos, after, none⟩ :: rest) Γ w Q := Ops.r (Run.asg hx) hn k
theorem jU {op : Op} {j : Nat} {b c : Bool} (k : Ops P n ops rest ((d, undef) :: Γ) w Q) (hy : yi ops Γ j = some (.bool b) := by exact rfl) (hb : b = !c := by exact au) (hn : Nat.blt d n.n = true := by exact rfl) : Ops P n ops (⟨some d, op, T, pos, after, some (j, c)⟩ :: rest) Γ w Q := Ops.sk hy hb hn k
theorem jG {x : Operand} {v : Value} {j : Nat} {b c : Bool} (k : Ops P n ops rest ((d, v) :: Γ) w Q) (hy : yi ops Γ j = some (.bool b) := by exact rfl) (hb : b = c := by exact au) (hx : ev? Γ x = some v := by exact rfl) (hn : Nat.blt d n.n = true := by exact rfl) : Ops P n ops (⟨some d, .move x, T, pos, after, some (j, c)⟩ :: rest) Γ w Q := Ops.rg hy hb (Run.mv hx) hn k
theorem jv1 (k0 : Nat) {v0 : Value} {c : Code} (h : VC P n c [(k0, v0)] w Q) (h0 : get? Γ k0 = some v0 := by exact rfl) : VC P n c Γ w Q := VC.sub _ (js1 h0) h
theorem jv2 (k0 k1 : Nat) {v0 v1 : Value} {c : Code} (h : VC P n c [(k0, v0), (k1, v1)] w Q) (h0 : get? Γ k0 = some v0 := by exact rfl) (h1 : get? Γ k1 = some v1 := by exact rfl) : VC P n c Γ w Q := VC.sub _ (js2 h0 h1) h
theorem jv3 (k0 k1 k2 : Nat) {v0 v1 v2 : Value} {c : Code} (h : VC P n c [(k0, v0), (k1, v1), (k2, v2)] w Q) (h0 : get? Γ k0 = some v0 := by exact rfl) (h1 : get? Γ k1 = some v1 := by exact rfl) (h2 : get? Γ k2 = some v2 := by exact rfl) : VC P n c Γ w Q := VC.sub _ (js3 h0 h1 h2) h
theorem jv4 (k0 k1 k2 k3 : Nat) {v0 v1 v2 v3 : Value} {c : Code} (h : VC P n c [(k0, v0), (k1, v1), (k2, v2), (k3, v3)] w Q) (h0 : get? Γ k0 = some v0 := by exact rfl) (h1 : get? Γ k1 = some v1 := by exact rfl) (h2 : get? Γ k2 = some v2 := by exact rfl) (h3 : get? Γ k3 = some v3 := by exact rfl) : VC P n c Γ w Q := VC.sub _ (js4 h0 h1 h2 h3) h
theorem jv5 (k0 k1 k2 k3 k4 : Nat) {v0 v1 v2 v3 v4 : Value} {c : Code} (h : VC P n c [(k0, v0), (k1, v1), (k2, v2), (k3, v3), (k4, v4)] w Q) (h0 : get? Γ k0 = some v0 := by exact rfl) (h1 : get? Γ k1 = some v1 := by exact rfl) (h2 : get? Γ k2 = some v2 := by exact rfl) (h3 : get? Γ k3 = some v3 := by exact rfl) (h4 : get? Γ k4 = some v4 := by exact rfl) : VC P n c Γ w Q := VC.sub _ (js5 h0 h1 h2 h3 h4) h
theorem jv6 (k0 k1 k2 k3 k4 k5 : Nat) {v0 v1 v2 v3 v4 v5 : Value} {c : Code} (h : VC P n c [(k0, v0), (k1, v1), (k2, v2), (k3, v3), (k4, v4), (k5, v5)] w Q) (h0 : get? Γ k0 = some v0 := by exact rfl) (h1 : get? Γ k1 = some v1 := by exact rfl) (h2 : get? Γ k2 = some v2 := by exact rfl) (h3 : get? Γ k3 = some v3 := by exact rfl) (h4 : get? Γ k4 = some v4 := by exact rfl) (h5 : get? Γ k5 = some v5 := by exact rfl) : VC P n c Γ w Q := VC.sub _ (js6 h0 h1 h2 h3 h4 h5) h
theorem jv7 (k0 k1 k2 k3 k4 k5 k6 : Nat) {v0 v1 v2 v3 v4 v5 v6 : Value} {c : Code} (h : VC P n c [(k0, v0), (k1, v1), (k2, v2), (k3, v3), (k4, v4), (k5, v5), (k6, v6)] w Q) (h0 : get? Γ k0 = some v0 := by exact rfl) (h1 : get? Γ k1 = some v1 := by exact rfl) (h2 : get? Γ k2 = some v2 := by exact rfl) (h3 : get? Γ k3 = some v3 := by exact rfl) (h4 : get? Γ k4 = some v4 := by exact rfl) (h5 : get? Γ k5 = some v5 := by exact rfl) (h6 : get? Γ k6 = some v6 := by exact rfl) : VC P n c Γ w Q := VC.sub _ (js7 h0 h1 h2 h3 h4 h5 h6) h
theorem jv8 (k0 k1 k2 k3 k4 k5 k6 k7 : Nat) {v0 v1 v2 v3 v4 v5 v6 v7 : Value} {c : Code} (h : VC P n c [(k0, v0), (k1, v1), (k2, v2), (k3, v3), (k4, v4), (k5, v5), (k6, v6), (k7, v7)] w Q) (h0 : get? Γ k0 = some v0 := by exact rfl) (h1 : get? Γ k1 = some v1 := by exact rfl) (h2 : get? Γ k2 = some v2 := by exact rfl) (h3 : get? Γ k3 = some v3 := by exact rfl) (h4 : get? Γ k4 = some v4 := by exact rfl) (h5 : get? Γ k5 = some v5 := by exact rfl) (h6 : get? Γ k6 = some v6 := by exact rfl) (h7 : get? Γ k7 = some v7 := by exact rfl) : VC P n c Γ w Q := VC.sub _ (js8 h0 h1 h2 h3 h4 h5 h6 h7) h
theorem jv9 (k0 k1 k2 k3 k4 k5 k6 k7 k8 : Nat) {v0 v1 v2 v3 v4 v5 v6 v7 v8 : Value} {c : Code} (h : VC P n c [(k0, v0), (k1, v1), (k2, v2), (k3, v3), (k4, v4), (k5, v5), (k6, v6), (k7, v7), (k8, v8)] w Q) (h0 : get? Γ k0 = some v0 := by exact rfl) (h1 : get? Γ k1 = some v1 := by exact rfl) (h2 : get? Γ k2 = some v2 := by exact rfl) (h3 : get? Γ k3 = some v3 := by exact rfl) (h4 : get? Γ k4 = some v4 := by exact rfl) (h5 : get? Γ k5 = some v5 := by exact rfl) (h6 : get? Γ k6 = some v6 := by exact rfl) (h7 : get? Γ k7 = some v7 := by exact rfl) (h8 : get? Γ k8 = some v8 := by exact rfl) : VC P n c Γ w Q := VC.sub _ (js9 h0 h1 h2 h3 h4 h5 h6 h7 h8) h
theorem jv10 (k0 k1 k2 k3 k4 k5 k6 k7 k8 k9 : Nat) {v0 v1 v2 v3 v4 v5 v6 v7 v8 v9 : Value} {c : Code} (h : VC P n c [(k0, v0), (k1, v1), (k2, v2), (k3, v3), (k4, v4), (k5, v5), (k6, v6), (k7, v7), (k8, v8), (k9, v9)] w Q) (h0 : get? Γ k0 = some v0 := by exact rfl) (h1 : get? Γ k1 = some v1 := by exact rfl) (h2 : get? Γ k2 = some v2 := by exact rfl) (h3 : get? Γ k3 = some v3 := by exact rfl) (h4 : get? Γ k4 = some v4 := by exact rfl) (h5 : get? Γ k5 = some v5 := by exact rfl) (h6 : get? Γ k6 = some v6 := by exact rfl) (h7 : get? Γ k7 = some v7 := by exact rfl) (h8 : get? Γ k8 = some v8 := by exact rfl) (h9 : get? Γ k9 = some v9 := by exact rfl) : VC P n c Γ w Q := VC.sub _ (js10 h0 h1 h2 h3 h4 h5 h6 h7 h8 h9) h
theorem jv11 (k0 k1 k2 k3 k4 k5 k6 k7 k8 k9 k10 : Nat) {v0 v1 v2 v3 v4 v5 v6 v7 v8 v9 v10 : Value} {c : Code} (h : VC P n c [(k0, v0), (k1, v1), (k2, v2), (k3, v3), (k4, v4), (k5, v5), (k6, v6), (k7, v7), (k8, v8), (k9, v9), (k10, v10)] w Q) (h0 : get? Γ k0 = some v0 := by exact rfl) (h1 : get? Γ k1 = some v1 := by exact rfl) (h2 : get? Γ k2 = some v2 := by exact rfl) (h3 : get? Γ k3 = some v3 := by exact rfl) (h4 : get? Γ k4 = some v4 := by exact rfl) (h5 : get? Γ k5 = some v5 := by exact rfl) (h6 : get? Γ k6 = some v6 := by exact rfl) (h7 : get? Γ k7 = some v7 := by exact rfl) (h8 : get? Γ k8 = some v8 := by exact rfl) (h9 : get? Γ k9 = some v9 := by exact rfl) (h10 : get? Γ k10 = some v10 := by exact rfl) : VC P n c Γ w Q := VC.sub _ (js11 h0 h1 h2 h3 h4 h5 h6 h7 h8 h9 h10) h
theorem jv12 (k0 k1 k2 k3 k4 k5 k6 k7 k8 k9 k10 k11 : Nat) {v0 v1 v2 v3 v4 v5 v6 v7 v8 v9 v10 v11 : Value} {c : Code} (h : VC P n c [(k0, v0), (k1, v1), (k2, v2), (k3, v3), (k4, v4), (k5, v5), (k6, v6), (k7, v7), (k8, v8), (k9, v9), (k10, v10), (k11, v11)] w Q) (h0 : get? Γ k0 = some v0 := by exact rfl) (h1 : get? Γ k1 = some v1 := by exact rfl) (h2 : get? Γ k2 = some v2 := by exact rfl) (h3 : get? Γ k3 = some v3 := by exact rfl) (h4 : get? Γ k4 = some v4 := by exact rfl) (h5 : get? Γ k5 = some v5 := by exact rfl) (h6 : get? Γ k6 = some v6 := by exact rfl) (h7 : get? Γ k7 = some v7 := by exact rfl) (h8 : get? Γ k8 = some v8 := by exact rfl) (h9 : get? Γ k9 = some v9 := by exact rfl) (h10 : get? Γ k10 = some v10 := by exact rfl) (h11 : get? Γ k11 = some v11 := by exact rfl) : VC P n c Γ w Q := VC.sub _ (js12 h0 h1 h2 h3 h4 h5 h6 h7 h8 h9 h10 h11) h
theorem jv13 (k0 k1 k2 k3 k4 k5 k6 k7 k8 k9 k10 k11 k12 : Nat) {v0 v1 v2 v3 v4 v5 v6 v7 v8 v9 v10 v11 v12 : Value} {c : Code} (h : VC P n c [(k0, v0), (k1, v1), (k2, v2), (k3, v3), (k4, v4), (k5, v5), (k6, v6), (k7, v7), (k8, v8), (k9, v9), (k10, v10), (k11, v11), (k12, v12)] w Q) (h0 : get? Γ k0 = some v0 := by exact rfl) (h1 : get? Γ k1 = some v1 := by exact rfl) (h2 : get? Γ k2 = some v2 := by exact rfl) (h3 : get? Γ k3 = some v3 := by exact rfl) (h4 : get? Γ k4 = some v4 := by exact rfl) (h5 : get? Γ k5 = some v5 := by exact rfl) (h6 : get? Γ k6 = some v6 := by exact rfl) (h7 : get? Γ k7 = some v7 := by exact rfl) (h8 : get? Γ k8 = some v8 := by exact rfl) (h9 : get? Γ k9 = some v9 := by exact rfl) (h10 : get? Γ k10 = some v10 := by exact rfl) (h11 : get? Γ k11 = some v11 := by exact rfl) (h12 : get? Γ k12 = some v12 := by exact rfl) : VC P n c Γ w Q := VC.sub _ (js13 h0 h1 h2 h3 h4 h5 h6 h7 h8 h9 h10 h11 h12) h
theorem jv14 (k0 k1 k2 k3 k4 k5 k6 k7 k8 k9 k10 k11 k12 k13 : Nat) {v0 v1 v2 v3 v4 v5 v6 v7 v8 v9 v10 v11 v12 v13 : Value} {c : Code} (h : VC P n c [(k0, v0), (k1, v1), (k2, v2), (k3, v3), (k4, v4), (k5, v5), (k6, v6), (k7, v7), (k8, v8), (k9, v9), (k10, v10), (k11, v11), (k12, v12), (k13, v13)] w Q) (h0 : get? Γ k0 = some v0 := by exact rfl) (h1 : get? Γ k1 = some v1 := by exact rfl) (h2 : get? Γ k2 = some v2 := by exact rfl) (h3 : get? Γ k3 = some v3 := by exact rfl) (h4 : get? Γ k4 = some v4 := by exact rfl) (h5 : get? Γ k5 = some v5 := by exact rfl) (h6 : get? Γ k6 = some v6 := by exact rfl) (h7 : get? Γ k7 = some v7 := by exact rfl) (h8 : get? Γ k8 = some v8 := by exact rfl) (h9 : get? Γ k9 = some v9 := by exact rfl) (h10 : get? Γ k10 = some v10 := by exact rfl) (h11 : get? Γ k11 = some v11 := by exact rfl) (h12 : get? Γ k12 = some v12 := by exact rfl) (h13 : get? Γ k13 = some v13 := by exact rfl) : VC P n c Γ w Q := VC.sub _ (js14 h0 h1 h2 h3 h4 h5 h6 h7 h8 h9 h10 h11 h12 h13) h
theorem jv15 (k0 k1 k2 k3 k4 k5 k6 k7 k8 k9 k10 k11 k12 k13 k14 : Nat) {v0 v1 v2 v3 v4 v5 v6 v7 v8 v9 v10 v11 v12 v13 v14 : Value} {c : Code} (h : VC P n c [(k0, v0), (k1, v1), (k2, v2), (k3, v3), (k4, v4), (k5, v5), (k6, v6), (k7, v7), (k8, v8), (k9, v9), (k10, v10), (k11, v11), (k12, v12), (k13, v13), (k14, v14)] w Q) (h0 : get? Γ k0 = some v0 := by exact rfl) (h1 : get? Γ k1 = some v1 := by exact rfl) (h2 : get? Γ k2 = some v2 := by exact rfl) (h3 : get? Γ k3 = some v3 := by exact rfl) (h4 : get? Γ k4 = some v4 := by exact rfl) (h5 : get? Γ k5 = some v5 := by exact rfl) (h6 : get? Γ k6 = some v6 := by exact rfl) (h7 : get? Γ k7 = some v7 := by exact rfl) (h8 : get? Γ k8 = some v8 := by exact rfl) (h9 : get? Γ k9 = some v9 := by exact rfl) (h10 : get? Γ k10 = some v10 := by exact rfl) (h11 : get? Γ k11 = some v11 := by exact rfl) (h12 : get? Γ k12 = some v12 := by exact rfl) (h13 : get? Γ k13 = some v13 := by exact rfl) (h14 : get? Γ k14 = some v14 := by exact rfl) : VC P n c Γ w Q := VC.sub _ (js15 h0 h1 h2 h3 h4 h5 h6 h7 h8 h9 h10 h11 h12 h13 h14) h
theorem jv16 (k0 k1 k2 k3 k4 k5 k6 k7 k8 k9 k10 k11 k12 k13 k14 k15 : Nat) {v0 v1 v2 v3 v4 v5 v6 v7 v8 v9 v10 v11 v12 v13 v14 v15 : Value} {c : Code} (h : VC P n c [(k0, v0), (k1, v1), (k2, v2), (k3, v3), (k4, v4), (k5, v5), (k6, v6), (k7, v7), (k8, v8), (k9, v9), (k10, v10), (k11, v11), (k12, v12), (k13, v13), (k14, v14), (k15, v15)] w Q) (h0 : get? Γ k0 = some v0 := by exact rfl) (h1 : get? Γ k1 = some v1 := by exact rfl) (h2 : get? Γ k2 = some v2 := by exact rfl) (h3 : get? Γ k3 = some v3 := by exact rfl) (h4 : get? Γ k4 = some v4 := by exact rfl) (h5 : get? Γ k5 = some v5 := by exact rfl) (h6 : get? Γ k6 = some v6 := by exact rfl) (h7 : get? Γ k7 = some v7 := by exact rfl) (h8 : get? Γ k8 = some v8 := by exact rfl) (h9 : get? Γ k9 = some v9 := by exact rfl) (h10 : get? Γ k10 = some v10 := by exact rfl) (h11 : get? Γ k11 = some v11 := by exact rfl) (h12 : get? Γ k12 = some v12 := by exact rfl) (h13 : get? Γ k13 = some v13 := by exact rfl) (h14 : get? Γ k14 = some v14 := by exact rfl) (h15 : get? Γ k15 = some v15 := by exact rfl) : VC P n c Γ w Q := VC.sub _ (js16 h0 h1 h2 h3 h4 h5 h6 h7 h8 h9 h10 h11 h12 h13 h14 h15) h
theorem je {op : Op} {v : Value} (h : Run P ⟨some d, op, T, pos, after, none⟩ Γ w v) (k : Ops P n ops rest ((d, v) :: Γ) w Q) (hn : Nat.blt d n.n = true := by exact rfl) : Ops P n ops (⟨some d, op, T, pos, after, none⟩ :: rest) Γ w Q := Ops.r h hn k
theorem jb {bo : BinOp} {xT yT : TypeId} {x y : Operand} {k k1 : IntKind} {a b : Int} {v : Value} (hx : ev? Γ x = some (.int k a)) (hy : ev? Γ y = some (.int k1 b)) (hb : Bin bo k a k1 b v) (kk : Ops P n ops rest ((d, v) :: Γ) w Q) (hn : Nat.blt d n.n = true := by exact rfl) : Ops P n ops (⟨some d, .binOp bo xT x y yT, T, pos, after, none⟩ :: rest) Γ w Q := Ops.r (Run.bin hx hy hb) hn kk
theorem jl {t : TypeId} {x : Operand} {a : Addr} {v : Value} (hx : ev? Γ x = some (.pointer (some a))) (ht : ∀ w, (isAgg t).run P w = .ok false w) (hc : w.cell? a = some v) (kk : Ops P n ops rest ((d, v) :: Γ) w Q) (hn : Nat.blt d n.n = true := by exact rfl) : Ops P n ops (⟨some d, .load t x, T, pos, after, none⟩ :: rest) Γ w Q := Ops.r (Run.load hx ht hc) hn kk
theorem jf {s : TypeId} {x : Operand} {f : Nat} {a : Addr} {fs : Array Field} {fd : Field} {sz : Nat} (hx : ev? Γ x = some (.pointer (some a))) (hs : P.underlying s = some (.struct fs)) (hf : fs[f]? = some fd) (hz : ∀ w, (sizeOf fd.type).run P w = .ok sz w) (kk : Ops P n ops rest ((d, .pointer (some (a.add fd.offset))) :: Γ) w Q) (hz0 : sz ≠ 0 := by decide) (hn : Nat.blt d n.n = true := by exact rfl) : Ops P n ops (⟨some d, .fieldAddr s x f, T, pos, after, none⟩ :: rest) Γ w Q := Ops.r (Run.fieldAddr hx hs hf hz hz0) hn kk
theorem jz (m : Nat) {x : Operand} (kk : Ops P n ops rest ((d, .int .i64 ((m : Nat) : Int)) :: Γ) w Q) (hx : ev? Γ x = some (.int .i64 ((m : Nat) : Int)) := by exact rfl) (hn : Nat.blt d n.n = true := by exact rfl) : Ops P n ops (⟨some d, .assign x, T, pos, after, none⟩ :: rest) Γ w Q := Ops.r (Run.asg hx) hn kk
theorem jm {x : Operand} {v : Value} (hx : ev? Γ x = some v) (k : Ops P n ops rest ((d, v) :: Γ) w Q) (hn : Nat.blt d n.n = true := by exact rfl) : Ops P n ops (⟨some d, .move x, T, pos, after, none⟩ :: rest) Γ w Q := Ops.r (Run.mv hx) hn k
theorem ja {x : Operand} {v : Value} (hx : ev? Γ x = some v) (k : Ops P n ops rest ((d, v) :: Γ) w Q) (hn : Nat.blt d n.n = true := by exact rfl) : Ops P n ops (⟨some d, .assign x, T, pos, after, none⟩ :: rest) Γ w Q := Ops.r (Run.asg hx) hn k
theorem jS {x y : Code} (h : VC P n x Γ w (gC (fun Γ' w' => VC P n y Γ' w' Q) Q)) : VC P n (.seq x y) Γ w Q := VC.seq h
theorem jR {id : Nat} {l : List Oper} (h : Ops P n l.toArray l Γ w Q) : VC P n (.region id l.toArray false) Γ w Q := VC.region h
theorem jB {id : Nat} {c : Code} (h : VC P n c Γ w (jP id Q)) : VC P n (.block id c) Γ w Q := VC.block h
theorem jQ (h : Q .normal Γ w) : VC P n .skip Γ w Q := VC.skip h
theorem jT (h : Q .ret Γ w) : VC P n .ret Γ w Q := VC.ret h
theorem jX {id : Nat} (h : Q (.exit id) Γ w) : VC P n (.exit id) Γ w Q := VC.exit h
theorem jO (h : Q .normal Γ w) : Ops P n ops [] Γ w Q := Ops.nil h
theorem jN {K : Env → World → Prop} (h : K Γ w) : gC K Q .normal Γ w := h
end
theorem jH {P : Program} {n : NF} {ops : Array Oper} {S : World → Prop} {Pn : List PanicEntry → World → Prop} {L fuel : Nat} {listed : Array Bool} {Γ : Env} {w : World} {K : Env → World → Prop} {v : Value} {d : Nat} (i : Nat) {oi : Oper} (hi : ops[i]? = some oi) (hS : S w) (h : ∀ w', S w' → Run P oi Γ w' v) (k : qV P n ops S Pn L fuel (listed.setIfInBounds i true) ((d, v) :: Γ) w K) (hsel : (Region.noSelect ops && mO ops L i) = true := by kernel_rfl) (hf : Region.free .any ops listed i = true := by kernel_rfl) (hr : (Region.ready .any ops listed).contains i = true := by kernel_rfl) (hup : Up ops Γ oi.guard := by exact trivial) (hd : oi.dst = some d := by exact rfl) (hn : Nat.blt d n.n = true := by exact rfl) : qV P n ops S Pn L (fuel + 1) listed Γ w K := qV.take i hi hsel hf hr hS h hup hd hn k
section
variable {P : Program} {Γ : Env} {w : World} {dst : Option Tmp} {T : TypeId} {pos : String} {after : Array Edge} {g : Option (Nat × Bool)} {f : FuncId} {ts : Array TypeId}
theorem jE0 (hf : ∀ args w, (callFunc f args).run P w = .ok (.enter f args) w)  : bW P ⟨dst, .call ⟨.value (.func f), #[], ts⟩, T, pos, after, g⟩ Γ w f #[] := bW.fn evs.nil hf
theorem jE1 {x0 : Operand} {v0 : Value} (hf : ∀ args w, (callFunc f args).run P w = .ok (.enter f args) w) (h0 : ev? Γ x0 = some v0 := by exact rfl) : bW P ⟨dst, .call ⟨.value (.func f), #[x0], ts⟩, T, pos, after, g⟩ Γ w f #[v0] := bW.fn (evs.cons h0 evs.nil) hf
theorem jE2 {x0 x1 : Operand} {v0 v1 : Value} (hf : ∀ args w, (callFunc f args).run P w = .ok (.enter f args) w) (h0 : ev? Γ x0 = some v0 := by exact rfl) (h1 : ev? Γ x1 = some v1 := by exact rfl) : bW P ⟨dst, .call ⟨.value (.func f), #[x0, x1], ts⟩, T, pos, after, g⟩ Γ w f #[v0, v1] := bW.fn (evs.cons h0 (evs.cons h1 evs.nil)) hf
theorem jE3 {x0 x1 x2 : Operand} {v0 v1 v2 : Value} (hf : ∀ args w, (callFunc f args).run P w = .ok (.enter f args) w) (h0 : ev? Γ x0 = some v0 := by exact rfl) (h1 : ev? Γ x1 = some v1 := by exact rfl) (h2 : ev? Γ x2 = some v2 := by exact rfl) : bW P ⟨dst, .call ⟨.value (.func f), #[x0, x1, x2], ts⟩, T, pos, after, g⟩ Γ w f #[v0, v1, v2] := bW.fn (evs.cons h0 (evs.cons h1 (evs.cons h2 evs.nil))) hf
theorem jE4 {x0 x1 x2 x3 : Operand} {v0 v1 v2 v3 : Value} (hf : ∀ args w, (callFunc f args).run P w = .ok (.enter f args) w) (h0 : ev? Γ x0 = some v0 := by exact rfl) (h1 : ev? Γ x1 = some v1 := by exact rfl) (h2 : ev? Γ x2 = some v2 := by exact rfl) (h3 : ev? Γ x3 = some v3 := by exact rfl) : bW P ⟨dst, .call ⟨.value (.func f), #[x0, x1, x2, x3], ts⟩, T, pos, after, g⟩ Γ w f #[v0, v1, v2, v3] := bW.fn (evs.cons h0 (evs.cons h1 (evs.cons h2 (evs.cons h3 evs.nil)))) hf
end
section
variable {P : Program} {n : NF} {Γ : Env} {w : World} {Q : Exit → Env → World → Prop} {K : Env → World → Prop} {ops : Array Oper} {rest : List Oper} {d : Nat} {T : TypeId} {pos : String} {after : Array Edge}
theorem jk {op : Op} {v : Value} {j : Nat} {b c : Bool} (h : Run P ⟨some d, op, T, pos, after, some (j, c)⟩ Γ w v) (k : Ops P n ops rest ((d, v) :: Γ) w Q) (hy : yi ops Γ j = some (.bool b) := by exact rfl) (hb : b = c := by exact au) (hn : Nat.blt d n.n = true := by exact rfl) : Ops P n ops (⟨some d, op, T, pos, after, some (j, c)⟩ :: rest) Γ w Q := Ops.rg hy hb h hn k
theorem jy (i : IntKind) (m : Nat) {x : Operand} (kk : Ops P n ops rest ((d, .int i ((m : Nat) : Int)) :: Γ) w Q) (hx : ev? Γ x = some (.int i ((m : Nat) : Int)) := by exact rfl) (hn : Nat.blt d n.n = true := by exact rfl) : Ops P n ops (⟨some d, .assign x, T, pos, after, none⟩ :: rest) Γ w Q := Ops.r (Run.asg hx) hn kk
theorem jx (i : IntKind) (m : Nat) {x : Operand} (kk : Ops P n ops rest ((d, .int i ((m : Nat) : Int)) :: Γ) w Q) (hx : ev? Γ x = some (.int i ((m : Nat) : Int)) := by exact rfl) (hn : Nat.blt d n.n = true := by exact rfl) : Ops P n ops (⟨some d, .move x, T, pos, after, none⟩ :: rest) Γ w Q := Ops.r (Run.mv hx) hn kk
theorem jD {c : Operand} {x y : Code} {p : Prop} [Decidable p] (hc : ev? Γ c = some (.bool (decide p))) (ht : p → VC P n x Γ w Q) (hf : ¬ p → VC P n y Γ w Q) : VC P n (.cond c x y) Γ w Q := VC.condD hc ht hf
end
section
variable {P : Program} {n : NF} {Γ : Env} {w : World} {KE : Env → Prop} {ops : Array Oper} {rest : List Oper} {d : Nat} {T : TypeId} {pos : String} {after : Array Edge}
theorem qE {op : Op} {v : Value} (h : Run P ⟨some d, op, T, pos, after, none⟩ Γ w v) (k : qW P n ops rest ((d, v) :: Γ) w KE) (hn : Nat.blt d n.n = true := by exact rfl) : qW P n ops (⟨some d, op, T, pos, after, none⟩ :: rest) Γ w KE := qW.r h hn k
theorem qG {op : Op} {v : Value} {j : Nat} {b c : Bool} (h : Run P ⟨some d, op, T, pos, after, some (j, c)⟩ Γ w v) (k : qW P n ops rest ((d, v) :: Γ) w KE) (hy : yi ops Γ j = some (.bool b) := by exact rfl) (hb : b = c := by exact au) (hn : Nat.blt d n.n = true := by exact rfl) : qW P n ops (⟨some d, op, T, pos, after, some (j, c)⟩ :: rest) Γ w KE := qW.rg hy hb h hn k
theorem qU {op : Op} {j : Nat} {b c : Bool} (k : qW P n ops rest ((d, undef) :: Γ) w KE) (hy : yi ops Γ j = some (.bool b) := by exact rfl) (hb : b = !c := by exact au) (hn : Nat.blt d n.n = true := by exact rfl) : qW P n ops (⟨some d, op, T, pos, after, some (j, c)⟩ :: rest) Γ w KE := qW.sk hy hb hn k
theorem qM {x : Operand} {v : Value} (k : qW P n ops rest ((d, v) :: Γ) w KE) (hx : ev? Γ x = some v := by exact rfl) (hn : Nat.blt d n.n = true := by exact rfl) : qW P n ops (⟨some d, .move x, T, pos, after, none⟩ :: rest) Γ w KE := qW.r (Run.mv hx) hn k
theorem qA {x : Operand} {v : Value} (k : qW P n ops rest ((d, v) :: Γ) w KE) (hx : ev? Γ x = some v := by exact rfl) (hn : Nat.blt d n.n = true := by exact rfl) : qW P n ops (⟨some d, .assign x, T, pos, after, none⟩ :: rest) Γ w KE := qW.r (Run.asg hx) hn k
theorem qX (i : IntKind) (m : Nat) {x : Operand} (k : qW P n ops rest ((d, .int i ((m : Nat) : Int)) :: Γ) w KE) (hx : ev? Γ x = some (.int i ((m : Nat) : Int)) := by exact rfl) (hn : Nat.blt d n.n = true := by exact rfl) : qW P n ops (⟨some d, .move x, T, pos, after, none⟩ :: rest) Γ w KE := qW.r (Run.mv hx) hn k
theorem qY (i : IntKind) (m : Nat) {x : Operand} (k : qW P n ops rest ((d, .int i ((m : Nat) : Int)) :: Γ) w KE) (hx : ev? Γ x = some (.int i ((m : Nat) : Int)) := by exact rfl) (hn : Nat.blt d n.n = true := by exact rfl) : qW P n ops (⟨some d, .assign x, T, pos, after, none⟩ :: rest) Γ w KE := qW.r (Run.asg hx) hn k
end
abbrev zb := @List.length_append
abbrev za := @List.getElem?_eq_getElem
abbrev zc := @List.getD_eq_getElem?_getD
abbrev zk := @Nat.le_refl
abbrev zh := @List.mem_singleton
abbrev zi := @List.length_take
abbrev zo := @Nat.le_trans
abbrev zj := @List.append_assoc
abbrev zp := @List.length_drop
abbrev zm := @List.flatMap_cons
abbrev zq := @List.length_cons
abbrev zu := @List.length_map
abbrev zw := @List.getElem_mem
abbrev zn := @List.take_of_length_le
abbrev zr := @List.getElem?_eq_none
abbrev zan := @Nat.zero_add
abbrev zas := @Nat.zero_le
abbrev zaa := @List.flatMap_append
abbrev zac := @List.take_succ_cons
abbrev zae := @Nat.pow_le_pow_right
abbrev zaj := @List.take_add_one
abbrev zal := @Int.toNat_natCast
abbrev zbj := @List.map_cons
abbrev zag := @List.mem_of_mem_take
abbrev zbb := @Nat.min_eq_left
abbrev zap := @List.ext_getElem?
abbrev zaq := @List.count_append
abbrev zaz := @Option.getD_some
abbrev zbt := @Nat.pow_succ
abbrev zat := @Nat.lt_of_lt_of_le
abbrev zaf := @List.getElem?_append_left
abbrev zz := @List.eq_nil_of_length_eq_zero
abbrev zbo := @List.nil_append
abbrev zcf := @Nat.mul_comm
abbrev zbl := @List.take_length
abbrev zah := @List.getElem?_append_right
abbrev zbk := @List.getElem?_map
abbrev zbc := @List.getElem_of_mem
abbrev zbf := @List.mem_cons_self
abbrev zcn := @Nat.sub_zero
abbrev zao := @List.getElem?_take_of_lt
abbrev zcd := @List.drop_zero
abbrev zba := @List.length_replicate
abbrev zbx := @List.map_append
abbrev zbi := @List.mem_cons_of_mem
abbrev zdm := @Nat.mul_one
abbrev zci := @List.length_set
abbrev zcq := @List.mem_cons
abbrev zbn := @List.mem_of_mem_drop
abbrev zed := @Nat.blt_eq
abbrev zdg := @List.map_map
abbrev zdh := @Nat.add_zero
abbrev zcj := @List.not_mem_nil
abbrev zck := @List.size_toArray
abbrev zcg := @Nat.eq_zero_or_pos
abbrev zcs := @Nat.div_le_self
abbrev zdj := @Nat.xor_assoc
abbrev zct := @List.length_nil
abbrev zdu := @Nat.mul_assoc
abbrev zdo := @List.take_zero
abbrev zeb := @Nat.succ_mul
abbrev zcb := @List.take_append_drop
abbrev zcz := @List.append_nil
abbrev zbq := @Array.getD_eq_getD_getElem?
abbrev zcu := @Bool.false_eq_true
abbrev zee := @Nat.add_assoc
abbrev zde := @Nat.mod_eq_of_lt
abbrev zdf := @List.cons_append
abbrev zeg := @List.map_take
abbrev zda := @List.getElem?_drop
abbrev zcv := @Nat.mul_le_mul_right
abbrev zdy := @List.foldl_cons
abbrev zbs := @List.take_append_of_le_length
abbrev zcx := @List.map_congr_left
abbrev zcw := @List.mem_of_getElem?
abbrev zco := @List.getElem?_toArray
abbrev zel := @List.sum_cons
abbrev zfr := @Nat.add_mul
abbrev zff := @Nat.zero_mul
abbrev zcl := @List.drop_eq_getElem_cons
abbrev zca := @List.drop_append_of_le_length
abbrev zfs := @Nat.one_mul
abbrev zei := @Nat.and_le_right
abbrev zfg := @Nat.xor_self
abbrev zdr := @List.drop_succ_cons
abbrev zeo := @List.drop_left
abbrev zds := @Nat.eq_of_beq_eq_true
abbrev zep := @Bool.and_eq_true
abbrev zfy := @Nat.add_comm
abbrev zeq := @Nat.div_eq_of_lt
abbrev zdp := @List.drop_eq_nil_of_le
abbrev zdd := @Nat.add_sub_cancel_left
abbrev zcp := @List.drop_length_add_append
abbrev zex := @List.range_succ
abbrev zek := @List.getElem?_set
abbrev zdz := @List.getD_cons_succ
abbrev zdq := @List.flatMap_singleton
abbrev zgs := @Nat.lt_or_ge
abbrev zec := @List.getElem?_set_self
abbrev zga := @List.take_take
abbrev zdl := @Nat.mod_two_eq_zero_or_one
abbrev zfm := @Nat.two_pow_pos
abbrev zem := @List.mem_map_of_mem
abbrev zfh := @List.getElem_map
abbrev zgd := @List.take_left
abbrev zey := @Nat.le_of_ble_eq_true
abbrev zgv := @Bool.false_and
abbrev zgo := @Bool.eq_iff_iff
abbrev zfv := @Nat.lt_trichotomy
abbrev zfc := @List.getElem?_set_ne
abbrev zgp := @Option.map_some
abbrev zfw := @List.foldl_append
abbrev zgq := @List.count_cons
abbrev zfo := @List.filter_append
abbrev zgw := @Nat.mul_le_mul
abbrev zfx := @List.length_range
abbrev zgr := @List.sum_append
abbrev zfp := @Nat.add_sub_cancel
abbrev zgi := @Nat.lt_of_not_le
abbrev zfj := @List.getElem?_range
abbrev zgz := @Array.size_append
abbrev zgj := @Array.size_replicate
abbrev zez := @Array.getElem?_append_left
abbrev zgt := @Nat.xor_lt_two_pow
abbrev zge := @Array.getElem?_modify
abbrev zfa := @Array.toList_setIfInBounds
abbrev zgf := @Array.getElem?_toList
abbrev zfk := @List.getElem?_replicate
abbrev zfu := @Nat.div_div_eq_div_mul
abbrev zfl := @Nat.testBit_div_two_pow
abbrev zgn := @List.length_reverse
abbrev zha := @List.take_sublist
abbrev zgk := @List.count_le_length
abbrev zfd := @List.mem_or_eq_of_mem_set
abbrev zfi := @List.eq_of_mem_replicate
abbrev zgg := @List.length_filter_le
abbrev zgm := @Int.fdiv_eq_ediv_of_nonneg
abbrev zgh := @Nat.two_pow_add_eq_or_of_lt
abbrev zgx := @List.filter_cons_of_pos
abbrev zgy := @List.filter_cons_of_neg
end
section
open Go.Proofs
theorem gF (w : World) : (zeroValue 3).run Tryz.prog w = .ok (.int .i64 0) w := by
 simp only [zeroValue, Sem.run_bind, Tryz.typeInfo3, Result.andThen_ok]; rfl
theorem fT : (Tryz.prog.info? 3).map (fun i => (i.zero, i.size, i.bytes)) = some (some (.int .i64 0), 1, 8) := by kernel_rfl
theorem tU (w : World) : (zeroValue 5).run Tryz.prog w = .ok (.int .u8 0) w := by
 simp only [zeroValue, Sem.run_bind, Tryz.typeInfo5, Result.andThen_ok]; rfl
theorem dD : (Tryz.prog.info? 5).map (fun i => (i.zero, i.size, i.bytes)) = some (some (.int .u8 0), 1, 1) := by kernel_rfl
theorem qQx (w : World) : (zeroValue 24).run Tryz.prog w = .ok (.slice none 0 0) w := by
 simp only [zeroValue, Sem.run_bind, Tryz.typeInfo24, Result.andThen_ok]; rfl
theorem qRy (w : World) : (zeroValue 25).run Tryz.prog w = .ok (.int .i64 0) w := by
 simp only [zeroValue, Sem.run_bind, Tryz.typeInfo25, Result.andThen_ok]; rfl
theorem qRz (w : World) : (zeroValue 39).run Tryz.prog w = .ok (.int .u64 0) w := by
 simp only [zeroValue, Sem.run_bind, Tryz.typeInfo39, Result.andThen_ok]; rfl
theorem qR0 : (Tryz.prog.info? 39).map (fun i => (i.zero, i.size, i.bytes)) = some (some (.int .u64 0), 1, 8) := by kernel_rfl
theorem gY (w : World) : (zeroValue 41).run Tryz.prog w = .ok (.agg #[.int .u64 0, .slice none 0 0]) w := by
 simp only [zeroValue, Sem.run_bind, Tryz.typeInfo41, Result.andThen_ok]; rfl
theorem qR1 : (Tryz.prog.info? 41).map (fun i => (i.zero, i.size, i.bytes)) = some (some (.agg #[.int .u64 0, .slice none 0 0]), 2, 32) := by kernel_rfl
theorem qR2 (w : World) : (zeroValue 62).run Tryz.prog w = .ok (.agg #[.slice none 0 0, .slice none 0 0, .int .i64 0]) w := by
 simp only [zeroValue, Sem.run_bind, Tryz.typeInfo62, Result.andThen_ok]; rfl
theorem qWp (w : World) : (zeroValue 64).run Tryz.prog w = .ok (.slice none 0 0) w := by
 simp only [zeroValue, Sem.run_bind, Tryz.typeInfo64, Result.andThen_ok]; rfl
theorem nX (w : World) : (zeroValue 66).run Tryz.prog w = .ok (.agg #[.int .u64 0, .int .i64 0, .int .u32 0, .slice none 0 0]) w := by
 simp only [zeroValue, Sem.run_bind, Tryz.typeInfo66, Result.andThen_ok]; rfl
theorem qR3 : (Tryz.prog.info? 66).map (fun i => (i.zero, i.size, i.bytes)) = some (some (.agg #[.int .u64 0, .int .i64 0, .int .u32 0, .slice none 0 0]), 4, 48) := by kernel_rfl
theorem oS (w : World) : (zeroValue 111).run Tryz.prog w = .ok (.agg #[.int .i64 0, .int .i64 0, .int .i64 0, .int .i64 0, .int .i64 0, .int .i64 0, .int .i64 0, .int .i64 0, .int .i64 0, .int .i64 0, .int .i64 0, .int .i64 0, .int .i64 0, .int .i64 0, .int .i64 0, .int .i64 0, .int .i64 0, .int .i64 0, .int .i64 0]) w := by
 simp only [zeroValue, Sem.run_bind, Tryz.typeInfo111, Result.andThen_ok]; rfl
theorem gZ (w : World) : (zeroValue 113).run Tryz.prog w = .ok (.agg #[.int .i64 0, .int .i64 0, .int .i64 0]) w := by
 simp only [zeroValue, Sem.run_bind, Tryz.typeInfo113, Result.andThen_ok]; rfl
theorem tB : (Tryz.prog.info? 113).map (fun i => (i.zero, i.size, i.bytes)) = some (some (.agg #[.int .i64 0, .int .i64 0, .int .i64 0]), 3, 24) := by kernel_rfl
theorem mA (w : World) : (zeroValue 132).run Tryz.prog w = .ok (.agg #[.int .u8 0, .int .i64 0, .int .i64 0]) w := by
 simp only [zeroValue, Sem.run_bind, Tryz.typeInfo132, Result.andThen_ok]; rfl
theorem qJy : (Tryz.prog.info? 132).map (fun i => (i.zero, i.size, i.bytes)) = some (some (.agg #[.int .u8 0, .int .i64 0, .int .i64 0]), 3, 24) := by kernel_rfl
theorem qPd (w : World) : (zeroValue 144).run Tryz.prog w = .ok (.agg #[.slice none 0 0, .int .i64 0, .int .i64 0, .int .i64 0]) w := by
 simp only [zeroValue, Sem.run_bind, Tryz.typeInfo144, Result.andThen_ok]; rfl
theorem qPe (w : World) : (zeroValue 150).run Tryz.prog w = .ok (.agg #[.pointer none, .slice none 0 0, .int .i64 0]) w := by
 simp only [zeroValue, Sem.run_bind, Tryz.typeInfo150, Result.andThen_ok]; rfl
theorem qPf (w : World) : (zeroValue 154).run Tryz.prog w = .ok (.agg #[.slice none 0 0, .int .i64 0]) w := by
 simp only [zeroValue, Sem.run_bind, Tryz.typeInfo154, Result.andThen_ok]; rfl
theorem fV (w : World) : (zeroValue 169).run Tryz.prog w = .ok (.agg #[.int .i64 0, .slice none 0 0]) w := by
 simp only [zeroValue, Sem.run_bind, Tryz.typeInfo169, Result.andThen_ok]; rfl
theorem oT : (Tryz.prog.info? 169).map (fun i => (i.zero, i.size, i.bytes)) = some (some (.agg #[.int .i64 0, .slice none 0 0]), 2, 32) := by kernel_rfl
theorem oU (w : World) : (zeroValue 173).run Tryz.prog w = .ok (.agg #[.int .i64 0, .int .i64 0, .int .i64 0, .int .i64 0, .int .i64 0, .int .i64 0, .int .i64 0, .int .i64 0, .int .i64 0, .int .i64 0, .int .i64 0, .int .i64 0, .int .i64 0, .int .i64 0, .int .i64 0, .int .i64 0]) w := by
 simp only [zeroValue, Sem.run_bind, Tryz.typeInfo173, Result.andThen_ok]; rfl
theorem xN (w : World) : (zeroValue 176).run Tryz.prog w = .ok (.agg #[.int .u64 0, .int .u64 0, .int .u64 0, .int .u64 0, .int .u64 0, .int .u64 0, .int .u64 0, .int .u64 0, .int .u64 0, .int .u64 0, .int .u64 0, .int .u64 0, .int .u64 0, .int .u64 0, .int .u64 0, .int .u64 0]) w := by
 simp only [zeroValue, Sem.run_bind, Tryz.typeInfo176, Result.andThen_ok]; rfl
theorem oB (w : World) : (zeroValue 179).run Tryz.prog w = .ok (.agg #[.int .u64 0, .int .i64 0]) w := by
 simp only [zeroValue, Sem.run_bind, Tryz.typeInfo179, Result.andThen_ok]; rfl
theorem qPg : (Tryz.prog.info? 179).map (fun i => (i.zero, i.size, i.bytes)) = some (some (.agg #[.int .u64 0, .int .i64 0]), 2, 16) := by kernel_rfl
theorem qPh (w : World) : (zeroValue 189).run Tryz.prog w = .ok (.agg #[.slice none 0 0, .int .i64 0]) w := by
 simp only [zeroValue, Sem.run_bind, Tryz.typeInfo189, Result.andThen_ok]; rfl
theorem qPi (w : World) : (zeroValue 201).run Tryz.prog w = .ok (.agg #[.int .u8 0, .int .u8 0, .int .u8 0]) w := by
 simp only [zeroValue, Sem.run_bind, Tryz.typeInfo201, Result.andThen_ok]; rfl
theorem oC (w : World) : (zeroValue 203).run Tryz.prog w = .ok (.agg #[.int .i64 0, .int .i64 0]) w := by
 simp only [zeroValue, Sem.run_bind, Tryz.typeInfo203, Result.andThen_ok]; rfl
theorem xP (w : World) : (zeroValue 204).run Tryz.prog w = .ok (.agg #[.int .i64 0, .int .i64 0, .int .i64 0, .int .i64 0, .int .i64 0, .int .i64 0, .int .i64 0, .int .i64 0, .int .i64 0, .int .i64 0, .int .i64 0, .int .i64 0, .int .i64 0, .int .i64 0, .int .i64 0, .int .i64 0, .int .i64 0, .int .i64 0, .int .i64 0, .int .i64 0, .int .i64 0, .int .i64 0, .int .i64 0, .int .i64 0, .int .i64 0, .int .i64 0, .int .i64 0, .int .i64 0, .int .i64 0, .int .i64 0, .int .i64 0, .int .i64 0, .int .i64 0, .int .i64 0, .int .i64 0, .int .i64 0, .int .i64 0, .int .i64 0, .int .i64 0, .int .i64 0, .int .i64 0, .int .i64 0, .int .i64 0, .int .i64 0, .int .i64 0, .int .i64 0, .int .i64 0, .int .i64 0, .int .i64 0, .int .i64 0, .int .i64 0, .int .i64 0, .int .i64 0, .int .i64 0, .int .i64 0, .int .i64 0, .int .i64 0, .int .i64 0]) w := by
 simp only [zeroValue, Sem.run_bind, Tryz.typeInfo204, Result.andThen_ok]; rfl
theorem xR (w : World) : (zeroValue 206).run Tryz.prog w = .ok (.agg #[.int .i64 0, .int .i64 0, .int .i64 0, .int .i64 0, .int .i64 0, .int .i64 0, .int .i64 0, .int .i64 0, .int .i64 0, .int .i64 0, .int .i64 0, .int .i64 0, .int .i64 0, .int .i64 0, .int .i64 0, .int .i64 0, .int .i64 0, .int .i64 0, .int .i64 0, .int .i64 0, .int .i64 0, .int .i64 0, .int .i64 0, .int .i64 0, .int .i64 0, .int .i64 0, .int .i64 0, .int .i64 0, .int .i64 0, .int .i64 0, .int .i64 0, .int .i64 0, .int .i64 0, .int .i64 0, .int .i64 0, .int .i64 0, .int .i64 0, .int .i64 0, .int .i64 0, .int .i64 0, .int .i64 0, .int .i64 0, .int .i64 0, .int .i64 0, .int .i64 0, .int .i64 0, .int .i64 0, .int .i64 0, .int .i64 0, .int .i64 0, .int .i64 0, .int .i64 0, .int .i64 0, .int .i64 0, .int .i64 0, .int .i64 0, .int .i64 0, .int .i64 0, .int .i64 0, .int .i64 0]) w := by
 simp only [zeroValue, Sem.run_bind, Tryz.typeInfo206, Result.andThen_ok]; rfl
theorem qPj (w : World) : (zeroValue 233).run Tryz.prog w = .ok (.agg #[.int .i64 0, .int .i64 0, .int .i64 0, .int .i64 0, .int .i64 0, .int .i64 0, .int .i64 0, .int .i64 0, .int .i64 0, .int .i64 0, .int .i64 0, .int .i64 0, .int .i64 0, .int .i64 0, .int .i64 0, .int .i64 0, .int .u64 0, .int .u64 0, .int .u64 0, .int .u64 0, .int .u64 0, .int .u64 0, .int .u64 0, .int .u64 0, .int .u64 0, .int .u64 0, .int .u64 0, .int .u64 0, .int .u64 0, .int .u64 0, .int .u64 0, .int .u64 0, .slice none 0 0, .int .i64 0]) w := by
 simp only [zeroValue, Sem.run_bind, Tryz.typeInfo233, Result.andThen_ok]; rfl
theorem gG : ∃ fs, Tryz.prog.underlying 41 = some (.struct fs) ∧ ∀ w, (fs.mapM fun f => do pure (f.offset, ← sizeOf f.type) : Sem (Array (Nat × Nat))).run Tryz.prog w = .ok #[(0, 1), (1, 1)] w :=
 ⟨_, Tryz.underlying41, fun w => by simp [Tryz.sizeOf24, Tryz.sizeOf39]⟩
theorem qQy : ∃ fs, Tryz.prog.underlying 62 = some (.struct fs) ∧ ∀ w, (fs.mapM fun f => do pure (f.offset, ← sizeOf f.type) : Sem (Array (Nat × Nat))).run Tryz.prog w = .ok #[(0, 1), (1, 1), (2, 1)] w :=
 ⟨_, Tryz.underlying62, fun w => by simp [Tryz.sizeOf24, Tryz.sizeOf3, Tryz.sizeOf60]⟩
theorem qQz : ∃ fs, Tryz.prog.underlying 66 = some (.struct fs) ∧ ∀ w, (fs.mapM fun f => do pure (f.offset, ← sizeOf f.type) : Sem (Array (Nat × Nat))).run Tryz.prog w = .ok #[(0, 1), (1, 1), (2, 1), (3, 1)] w :=
 ⟨_, Tryz.underlying66, fun w => by simp [Tryz.sizeOf3, Tryz.sizeOf39, Tryz.sizeOf47, Tryz.sizeOf64]⟩
theorem fG : ∃ fs, Tryz.prog.underlying 113 = some (.struct fs) ∧ ∀ w, (fs.mapM fun f => do pure (f.offset, ← sizeOf f.type) : Sem (Array (Nat × Nat))).run Tryz.prog w = .ok #[(0, 1), (1, 1), (2, 1)] w :=
 ⟨_, Tryz.underlying113, fun w => by simp [Tryz.sizeOf3]⟩
theorem nT : ∃ fs, Tryz.prog.underlying 132 = some (.struct fs) ∧ ∀ w, (fs.mapM fun f => do pure (f.offset, ← sizeOf f.type) : Sem (Array (Nat × Nat))).run Tryz.prog w = .ok #[(0, 1), (1, 1), (2, 1)] w :=
 ⟨_, Tryz.underlying132, fun w => by simp [Tryz.sizeOf3, Tryz.sizeOf5]⟩
theorem yM : ∃ fs, Tryz.prog.underlying 144 = some (.struct fs) ∧ ∀ w, (fs.mapM fun f => do pure (f.offset, ← sizeOf f.type) : Sem (Array (Nat × Nat))).run Tryz.prog w = .ok #[(0, 1), (1, 1), (2, 1), (3, 1)] w :=
 ⟨_, Tryz.underlying144, fun w => by simp [Tryz.sizeOf24, Tryz.sizeOf25, Tryz.sizeOf3]⟩
theorem yN : ∃ fs, Tryz.prog.underlying 150 = some (.struct fs) ∧ ∀ w, (fs.mapM fun f => do pure (f.offset, ← sizeOf f.type) : Sem (Array (Nat × Nat))).run Tryz.prog w = .ok #[(0, 1), (1, 1), (2, 1)] w :=
 ⟨_, Tryz.underlying150, fun w => by simp [Tryz.sizeOf147, Tryz.sizeOf24, Tryz.sizeOf3]⟩
theorem yP : ∃ fs, Tryz.prog.underlying 154 = some (.struct fs) ∧ ∀ w, (fs.mapM fun f => do pure (f.offset, ← sizeOf f.type) : Sem (Array (Nat × Nat))).run Tryz.prog w = .ok #[(0, 1), (1, 1)] w :=
 ⟨_, Tryz.underlying154, fun w => by simp [Tryz.sizeOf24, Tryz.sizeOf3]⟩
theorem nU : ∃ fs, Tryz.prog.underlying 169 = some (.struct fs) ∧ ∀ w, (fs.mapM fun f => do pure (f.offset, ← sizeOf f.type) : Sem (Array (Nat × Nat))).run Tryz.prog w = .ok #[(0, 1), (1, 1)] w :=
 ⟨_, Tryz.underlying169, fun w => by simp [Tryz.sizeOf3, Tryz.sizeOf64]⟩
theorem kM : ∃ fs, Tryz.prog.underlying 179 = some (.struct fs) ∧ ∀ w, (fs.mapM fun f => do pure (f.offset, ← sizeOf f.type) : Sem (Array (Nat × Nat))).run Tryz.prog w = .ok #[(0, 1), (1, 1)] w :=
 ⟨_, Tryz.underlying179, fun w => by simp [Tryz.sizeOf3, Tryz.sizeOf39]⟩
theorem yR : ∃ fs, Tryz.prog.underlying 189 = some (.struct fs) ∧ ∀ w, (fs.mapM fun f => do pure (f.offset, ← sizeOf f.type) : Sem (Array (Nat × Nat))).run Tryz.prog w = .ok #[(0, 1), (1, 1)] w :=
 ⟨_, Tryz.underlying189, fun w => by simp [Tryz.sizeOf24, Tryz.sizeOf3]⟩
theorem kN : ∃ fs, Tryz.prog.underlying 203 = some (.struct fs) ∧ ∀ w, (fs.mapM fun f => do pure (f.offset, ← sizeOf f.type) : Sem (Array (Nat × Nat))).run Tryz.prog w = .ok #[(0, 1), (1, 1)] w :=
 ⟨_, Tryz.underlying203, fun w => by simp [Tryz.sizeOf3]⟩
theorem yS : ∃ fs, Tryz.prog.underlying 233 = some (.struct fs) ∧ ∀ w, (fs.mapM fun f => do pure (f.offset, ← sizeOf f.type) : Sem (Array (Nat × Nat))).run Tryz.prog w = .ok #[(0, 16), (16, 16), (32, 1), (33, 1)] w :=
 ⟨_, Tryz.underlying233, fun w => by simp [Tryz.sizeOf173, Tryz.sizeOf176, Tryz.sizeOf3, Tryz.sizeOf64]⟩
theorem qWq : ∃ f0 f1, (Tryz.prog.fieldsOf 179).toList = [f0, f1] ∧ (f0.name = "Bits" ∧ f0.type = 39 ∧ f0.offset = 0) ∧ (f1.name = "Len" ∧ f1.type = 3 ∧ f1.offset = 1) := by
 unfold Program.fieldsOf
 rw [Tryz.underlying179]
 exact ⟨_, _, rfl, ⟨rfl, rfl, rfl⟩, ⟨rfl, rfl, rfl⟩⟩
abbrev zd := @Tryz.sizeOf3
abbrev zg := @Tryz.isAgg3
abbrev ze := @Tryz.underlying24
abbrev zf := @Tryz.underlying64
abbrev zl := @Tryz.sizeOf24
abbrev zt := @Tryz.isAgg24
abbrev zv := @Tryz.sizeOf169
abbrev zad := @Tryz.sizeOf5
abbrev zx := @Tryz.underlying3
abbrev zab := @Tryz.underlying39
abbrev zy := @Tryz.underlying166
abbrev zay := @Tryz.sizeOf64
abbrev zai := @Tryz.underlying22
abbrev zbd := @Tryz.sizeOf39
abbrev zam := @Tryz.underlying62
abbrev zak := @Tryz.underlying150
abbrev zbm := @Tryz.sizeOf66
abbrev zar := @Tryz.underlying41
abbrev zbu := @Tryz.isAgg64
abbrev zaw := @Tryz.underlying66
abbrev zax := @Tryz.underlying60
abbrev zau := @Tryz.underlying169
abbrev zbr := @Tryz.sizeOf173
abbrev zbh := @Tryz.underlying5
abbrev zcc := @Tryz.isAgg39
abbrev zav := @Tryz.underlying209
abbrev zbw := @Tryz.sizeOf41
abbrev zby := @Tryz.sizeOf60
abbrev zbe := @Tryz.underlying144
abbrev zbg := @Tryz.underlying159
abbrev zce := @Tryz.sizeOf203
abbrev zbp := @Tryz.underlying189
abbrev zcr := @Tryz.isAgg60
abbrev zbv := @Tryz.underlying154
abbrev zdn := @Tryz.isAgg5
abbrev zcy := @Tryz.call114
abbrev zbz := @Tryz.underlying233
abbrev zdi := @Tryz.call113
abbrev zea := @Tryz.call51
abbrev zch := @Tryz.underlying109
abbrev zdk := @Tryz.isAgg169
abbrev zcm := @Tryz.underlying203
abbrev zef := @Tryz.sizeOf25
abbrev zeh := @Tryz.isAgg173
abbrev zdv := @Tryz.sizeOf179
abbrev zdw := @Tryz.sizeOf113
abbrev zdb := @Tryz.underlying132
abbrev zdc := @Tryz.underlying103
abbrev zdt := @Tryz.underlying173
abbrev zdx := @Tryz.underlying94
abbrev zen := @Tryz.sizeOf132
abbrev zft := @Tryz.call15
abbrev zfe := @Tryz.sizeOf176
abbrev zej := @Tryz.underlying111
abbrev zfz := @Tryz.isAgg25
abbrev zgb := @Tryz.sizeOf147
abbrev zer := @Tryz.underlying179
abbrev zes := @Tryz.underlying176
abbrev zet := @Tryz.underlying117
abbrev zeu := @Tryz.underlying201
abbrev zfb := @Tryz.underlying47
abbrev zev := @Tryz.underlying204
abbrev zgc := @Tryz.sizeOf100
abbrev zew := @Tryz.underlying100
abbrev zgl := @Tryz.isAgg209
abbrev zfn := @Tryz.underlying113
abbrev zfq := @Tryz.underlying206
abbrev zgu := @Tryz.underlying208
abbrev zhb := @Tryz.underlying53
abbrev zhc := @Tryz.underlying32
end
section
def num : List Bool → Nat
 | [] => 0
 | b :: r => b.toNat + 2 * num r
def bitsL (v n : Nat) : List Bool := (List.range n).map fun i => decide (v / 2 ^ i % 2 = 1)
theorem and1 (x : Nat) : x &&& 1 = (decide (x % 2 = 1)).toNat := by
 rw [Nat.and_one_is_mod]
 rcases zdl x with h | h <;> simp [h]
def qL (l : List Bool) : List Nat := (List.range ((l.length + 7) / 8)).map fun i => num ((l.drop (8 * i)).take 8)
def ofB (bs : List Nat) : List Bool := bs.flatMap fun b => bitsL b 8
def fU (l : List Bool) : List Bool := l ++ List.replicate ((8 - l.length % 8) % 8) false
theorem qH (v n : Nat) : (bitsL v n).length = n := by simp [bitsL]
theorem qK6 (v k : Nat) : bitsL v (k+1) = bitsL v k ++ [decide (v / 2^k % 2 = 1)] := by simp [bitsL, zex]
theorem vE (v k : Nat) : bitsL v (k+1) = decide (v % 2 = 1) :: bitsL (v / 2) k := by
 unfold bitsL
 rw [List.range_succ_eq_map, zbj, zdg]
 congr 1
 · simp
 apply zcx
 intro i _
 simp only [Function.comp_apply]
 rw [show v / 2 ^ (i + 1) = v / 2 / 2 ^ i by rw [zbt, zcf, zfu]]
theorem rL : ∀ l : List Bool, num l < 2 ^ l.length
 | [] => by simp [num]
 | b :: r => by
  have := rL r
  simp only [num, zq, zbt]
  cases b <;> simp <;> omega
theorem pG (a b : List Bool) : num (a ++ b) = num a + 2 ^ a.length * num b := by
 induction a with
 | nil => simp [num]
 | cons x r ih =>
  simp only [zdf, num, ih, zq, zbt, Nat.mul_add]
  rw [zcf (2 ^ r.length) 2, zdu]
  omega
theorem qQ0 (a : List Bool) (b : Bool) : num (a ++ [b]) = num a + 2 ^ a.length * b.toNat := by simp [pG, num]
theorem qWr (k : Nat) : num (List.replicate k false) = 0 := by
 induction k with
 | zero => rfl
 | succ k ih => rw [List.replicate_succ]; simp [num, ih]
theorem eG (n : Nat) : ∀ v, v < 2 ^ n → num (bitsL v n) = v := by
 induction n with
 | zero => intro v h; simp [bitsL, num] at *; omega
 | succ n ih =>
  intro v h
  rw [vE]
  simp only [num]
  rw [ih (v / 2) (by rw [zbt] at h; omega)]
  rcases zdl v with h0 | h0 <;> simp [h0] <;> omega
theorem qWs (l : List Bool) : bitsL (num l) l.length = l := by
 induction l with
 | nil => simp [bitsL]
 | cons b r ih =>
  have e1 : num (b :: r) / 2 = num r := by show (b.toNat + 2 * num r) / 2 = num r; cases b <;> simp <;> omega
  have e2 : decide (num (b :: r) % 2 = 1) = b := by
   have : num (b :: r) % 2 = b.toNat := by
    show (b.toNat + 2 * num r) % 2 = b.toNat
    cases b <;> simp [Nat.add_mod]
   rw [this]
   cases b <;> rfl
  rw [zq, vE, e1, e2, ih]
theorem nB (v n i : Nat) (h : i < n) : (bitsL v n)[i]? = some (decide (v / 2 ^ i % 2 = 1)) := by
 unfold bitsL
 simp [h]
theorem qSt (l : List Bool) (q : Nat) (b : Bool) (h : l[q]? = some b) : (l.drop q).take 1 = [b] := by
 obtain ⟨hlt, rfl⟩ := List.getElem?_eq_some_iff.1 h
 rw [zcl hlt]
 rfl
theorem cQ (l : List Bool) : (qL l).length = (l.length + 7) / 8 := by simp [qL]
theorem dN (l : List Bool) (i : Nat) (h : i < (l.length + 7) / 8) : (qL l)[i]? = some (num ((l.drop (8 * i)).take 8)) := by
 unfold qL
 simp [h]
theorem tC (l : List Bool) : ∀ x ∈ qL l, x < 256 := by
 intro x hx
 obtain ⟨i, _, rfl⟩ := List.mem_map.1 hx
 have := rL ((l.drop (8 * i)).take 8)
 refine zat this ?_
 have : ((l.drop (8 * i)).take 8).length ≤ 8 := List.length_take_le _ _
 exact zo (zae jo this) jd
theorem qQk (l : List Bool) (b : Bool) (h : l.length % 8 = 0) : qL (l ++ [b]) = qL l ++ [b.toNat] := by
 apply zap
 intro i
 have e1 : ((l ++ [b]).length + 7) / 8 = l.length / 8 + 1 := by simp; omega
 have e2 : (l.length + 7) / 8 = l.length / 8 := jo
 rcases zfv i (l.length / 8) with hi | hi | hi
 ·
  rw [dN _ _ jo, zaf (by rw [cQ]; omega), dN _ _ jo]
  congr 2
  rw [zca jo, zbs (by simp; omega)]
 ·
  rw [dN _ _ jo, zah (by rw [cQ]; omega), cQ]
  subst hi
  rw [show l.length / 8 - (l.length + 7) / 8 = 0 by omega, show 8 * (l.length / 8) = l.length by omega]
  simp [num]
 rw [zr (by rw [cQ]; omega), zr (by simp [cQ]; omega)]
theorem qQl (l : List Bool) (b : Bool) (h : l.length % 8 ≠ 0) :
  qL (l ++ [b]) = (qL l).set (l.length / 8) (num (l.drop (8 * (l.length / 8))) + 2 ^ (l.length % 8) * b.toNat) := by
 apply zap
 intro i
 have e1 : ((l ++ [b]).length + 7) / 8 = l.length / 8 + 1 := by simp; omega
 have e2 : (l.length + 7) / 8 = l.length / 8 + 1 := jo
 rcases zfv i (l.length / 8) with hi | hi | hi
 ·
  rw [dN _ _ jo, zfc jo, dN _ _ jo]
  congr 2
  rw [zca jo, zbs (by simp; omega)]
 ·
  subst hi
  rw [dN _ _ jo, zec (by rw [cQ]; omega)]
  congr 1
  rw [zca jo, zn (by simp; omega), qQ0]
  congr 3
  simp; omega
 rw [zr (by rw [cQ]; omega), zr (by simp [cQ]; omega)]
theorem qQ1 (x k : Nat) (b : Bool) (h : x < 2 ^ k) : x ||| (b.toNat * 2 ^ k) = x + 2 ^ k * b.toNat := by
 cases b
 · simp
 simp only [Bool.toNat_true, zfs, zdm]
 rw [Nat.or_comm, zfy]
 have := zgh h 1
 simpa using this.symm
theorem nC (l : List Bool) : (fU l).length = 8 * ((l.length + 7) / 8) := by
 simp only [fU, zb, zba]; omega
theorem qHo (l : List Bool) (h : l.length % 8 = 0) : fU l = l := by simp [fU, h]
theorem vF (l : List Bool) : qL (fU l) = qL l := by
 apply zap
 intro i
 have e := nC l
 by_cases hi : i < (l.length + 7) / 8
 ·
  rw [dN _ _ jo, dN _ _ hi]
  congr 1
  by_cases h8 : 8 * i + 8 ≤ l.length
  ·
   congr 1
   unfold fU
   rw [zca jo, zbs (by simp; omega)]
  rw [zn (by simp; omega), zn (by simp; omega)]
  unfold fU
  rw [zca jo, pG, qWr]
  simp
 rw [zr (by rw [cQ]; omega), zr (by rw [cQ]; omega)]
theorem jV (a b : List Bool) (h : a.length % 8 = 0) : qL (a ++ b) = qL a ++ qL b := by
 apply zap
 intro i
 by_cases hi : i < a.length / 8
 ·
  rw [zaf (by rw [cQ]; omega), dN _ _ (by simp; omega), dN _ _ jo]
  congr 2
  rw [zca jo, zbs (by simp; omega)]
 rw [zah (by rw [cQ]; omega), cQ]
 by_cases hj : i < (a.length + b.length + 7) / 8
 ·
  rw [dN _ _ (by simp; omega), dN _ _ jo]
  congr 3
  rw [List.drop_append, zdp jo, zbo]
  congr 1
  omega
 rw [zr (by rw [cQ]; simp; omega), zr (by rw [cQ]; omega)]
theorem cW (bs : List Nat) : (ofB bs).length = 8 * bs.length := by
 induction bs with
 | nil => rfl
 | cons b r ih => simp only [ofB, zm, zb, qH, zq] at *; omega
theorem kU (a b : List Nat) : ofB (a ++ b) = ofB a ++ ofB b := by simp [ofB]
theorem uF (b : Nat) (r : List Nat) : ofB (b :: r) = bitsL b 8 ++ ofB r := rfl
theorem qQ2 (bs : List Nat) (h : ∀ b ∈ bs, b < 256) : qL (ofB bs) = bs := by
 induction bs with
 | nil => rfl
 | cons b r ih =>
  rw [uF, jV _ _ (by rw [qH]), ih (fun x hx => h x (by simp [hx]))]
  have e : qL (bitsL b 8) = [b] := by
   unfold qL
   rw [qH]
   simp only [show (8 + 7) / 8 = 1 from rfl, List.range_one, zbj, List.map_nil, Nat.mul_zero, zcd]
   rw [zn (by rw [qH]; omega), eG 8 b (h b jp)]
  rw [e]
  rfl
theorem qHp (l : List Bool) : ofB (qL l) = fU l := by
 have key : ∀ (n : Nat) (l : List Bool), l.length = 8 * n → ofB (qL l) = l := by
  intro n
  induction n with
  | zero => intro l h; have : l = [] := zz jo; subst this; rfl
  | succ n ih =>
   intro l h
   have hl : l = l.take 8 ++ l.drop 8 := (zcb 8 l).symm
   have h8 : (l.take 8).length = 8 := by simp; omega
   have e : qL (l.take 8) = [num (l.take 8)] := by
    unfold qL
    rw [h8]
    simp only [show (8 + 7) / 8 = 1 from rfl, List.range_one, zbj, List.map_nil, Nat.mul_zero, zcd]
    rw [zn (by rw [h8]; omega)]
   rw [hl, jV _ _ (by rw [h8]), kU, e, ih _ (by simp; omega)]
   congr 1
   show bitsL _ 8 ++ [] = _
   rw [zcz]
   have := qWs (l.take 8)
   rwa [h8] at this
 rw [← vF]
 exact key ((l.length + 7) / 8) _ (nC l)
theorem qPk (bs : List Nat) (p : Nat) (h : p < 8 * bs.length) : (ofB bs)[p]? = some (decide (bs.getD (p / 8) 0 / 2 ^ (p % 8) % 2 = 1)) := by
 induction bs generalizing p with
 | nil => simp at h
 | cons b r ih =>
  rw [uF]
  by_cases hp : p < 8
  ·
   rw [zaf (by rw [qH]; exact hp), nB _ _ _ hp, show p / 8 = 0 by omega, show p % 8 = p by omega]
   rfl
  rw [zah (by rw [qH]; omega), qH, ih (p - 8) (by simp at h; omega), show p / 8 = (p - 8) / 8 + 1 by omega, show p % 8 = (p - 8) % 8 by omega]
  rfl
theorem qQm (l : List Bool) (at_ i : Nat) (b : Bool) (h : l[at_ + i]? = some b) : num ((l.drop at_).take (i + 1)) = num ((l.drop at_).take i) + 2 ^ i * b.toNat := by
 have hl : at_ + i < l.length := (List.getElem?_eq_some_iff.1 h).1
 have e : (l.drop at_).take (i + 1) = (l.drop at_).take i ++ [b] := by
  rw [zaj]
  congr 1
  rw [zda, h]
  rfl
 rw [e, qQ0]
 have : ((l.drop at_).take i).length = i := by rw [zi, zp]; omega
 rw [this]
theorem vA (v i : Nat) : decide (v / 2 ^ i % 2 = 1) = v.testBit i := by rw [Nat.testBit_eq_decide_div_mod_eq]
def cZ (k m x : Nat) : Nat := (x / 2 ^ k &&& m) ||| ((x &&& m) * 2 ^ k % 18446744073709551616)
theorem rU (x i : Nat) : (x % 18446744073709551616).testBit i = (decide (i < 64) && x.testBit i) := Nat.testBit_mod_two_pow x 64 i
theorem lF (k m x i : Nat) (hi : i < 64) (hm : ∀ j, j < 64 → m.testBit j = decide (j / k % 2 = 0)) (h64 : i / k % 2 = 0 → i + k < 64) (hk : 0 < k) (hge : i / k % 2 = 1 → k ≤ i ∧ (i - k) / k % 2 = 0) :
  (cZ k m x).testBit i = if i / k % 2 = 0 then x.testBit (i + k) else x.testBit (i - k) := by
 unfold cZ
 rw [Nat.testBit_or, Nat.testBit_and, rU, Nat.testBit_mul_two_pow, Nat.testBit_and, zfl, hm i hi]
 rcases zdl (i / k) with h | h
 ·
  simp only [h, decide_true, Bool.and_true, if_true]
  by_cases hik : k ≤ i
  ·
   rw [hm (i - k) jo]
   have : (i - k) / k % 2 = 1 := by
    have e : i / k = (i - k) / k + 1 := by rw [← Nat.add_div_right _ hk]; congr 1; omega
    omega
   simp [this, zfy]
  simp [hik, zfy]
 obtain ⟨h1, h2⟩ := hge h
 rw [hm (i - k) jo]
 simp [h, h1, h2, hi]
def rev64 (x : Nat) : Nat :=
 let a := cZ 1 6148914691236517205 x
 let b := cZ 2 3689348814741910323 a
 let c := cZ 4 1085102592571150095 b
 let d := cZ 8 71777214294589695 c
 let e := cZ 16 281470681808895 d
 (e / 2 ^ 32) ||| (e * 2 ^ 32 % 18446744073709551616)
theorem lK (k m x : Nat) (hm : m ≤ 18446744073709551615) : cZ k m x ≤ 18446744073709551615 := by
 unfold cZ
 have h1 : x / 2 ^ k &&& m < 2 ^ 64 := Nat.lt_of_le_of_lt zei jo
 have h2 : (x &&& m) * 2 ^ k % 18446744073709551616 < 2 ^ 64 := Nat.mod_lt _ jo
 have := Nat.or_lt_two_pow h1 h2
 omega
theorem qHq (e i : Nat) (he : e ≤ 18446744073709551615) (hi : i < 64) : ((e / 2 ^ 32) ||| (e * 2 ^ 32 % 18446744073709551616)).testBit i = if i < 32 then e.testBit (i + 32) else e.testBit (i - 32) := by
 rw [Nat.testBit_or, rU, Nat.testBit_mul_two_pow, zfl]
 by_cases h : i < 32
 · simp [h, show ¬ 32 ≤ i by omega, zfy]
 have : e.testBit (i + 32) = false := Nat.testBit_lt_two_pow (zat (jo : e < 2 ^ 64) (zae jo jo))
 simp [h, show 32 ≤ i by omega, hi, this, zfy]
theorem qWt (x i : Nat) (hi : i < 64) : (rev64 x).testBit i = x.testBit (63 - i) := by
 have m1 : ∀ j, j < 64 → Nat.testBit 6148914691236517205 j = decide (j / 1 % 2 = 0) := jd
 have m2 : ∀ j, j < 64 → Nat.testBit 3689348814741910323 j = decide (j / 2 % 2 = 0) := jd
 have m4 : ∀ j, j < 64 → Nat.testBit 1085102592571150095 j = decide (j / 4 % 2 = 0) := jd
 have m8 : ∀ j, j < 64 → Nat.testBit 71777214294589695 j = decide (j / 8 % 2 = 0) := jd
 have m16 : ∀ j, j < 64 → Nat.testBit 281470681808895 j = decide (j / 16 % 2 = 0) := jd
 have s1 : ∀ x i, i < 64 → (cZ 1 6148914691236517205 x).testBit i = if i / 1 % 2 = 0 then x.testBit (i + 1) else x.testBit (i - 1) := fun x i hi => lF 1 _ x i hi m1 jo jo jo
 have s2 : ∀ x i, i < 64 → (cZ 2 3689348814741910323 x).testBit i = if i / 2 % 2 = 0 then x.testBit (i + 2) else x.testBit (i - 2) := fun x i hi => lF 2 _ x i hi m2 jo jo jo
 have s4 : ∀ x i, i < 64 → (cZ 4 1085102592571150095 x).testBit i = if i / 4 % 2 = 0 then x.testBit (i + 4) else x.testBit (i - 4) := fun x i hi => lF 4 _ x i hi m4 jo jo jo
 have s8 : ∀ x i, i < 64 → (cZ 8 71777214294589695 x).testBit i = if i / 8 % 2 = 0 then x.testBit (i + 8) else x.testBit (i - 8) := fun x i hi => lF 8 _ x i hi m8 jo jo jo
 have s16 : ∀ x i, i < 64 → (cZ 16 281470681808895 x).testBit i = if i / 16 % 2 = 0 then x.testBit (i + 16) else x.testBit (i - 16) := fun x i hi => lF 16 _ x i hi m16 jo jo jo
 unfold rev64
 simp only []
 rw [qHq _ _ (lK _ _ _ jo) hi]
 have go : ∀ (f : Nat → Nat) (j : Nat), j = f i → True := fun _ _ _ => trivial
 have flip : ∀ (k j : Nat), (if j / k % 2 = 0 then j + k else j - k) = (if j / k % 2 = 0 then j + k else j - k) := fun _ _ => rfl
 have t1 : ∀ x j, j < 64 → (cZ 1 6148914691236517205 x).testBit j = x.testBit (if j / 1 % 2 = 0 then j + 1 else j - 1) := fun x j hj => by rw [s1 x j hj]; split <;> rfl
 have t2 : ∀ x j, j < 64 → (cZ 2 3689348814741910323 x).testBit j = x.testBit (if j / 2 % 2 = 0 then j + 2 else j - 2) := fun x j hj => by rw [s2 x j hj]; split <;> rfl
 have t4 : ∀ x j, j < 64 → (cZ 4 1085102592571150095 x).testBit j = x.testBit (if j / 4 % 2 = 0 then j + 4 else j - 4) := fun x j hj => by rw [s4 x j hj]; split <;> rfl
 have t8 : ∀ x j, j < 64 → (cZ 8 71777214294589695 x).testBit j = x.testBit (if j / 8 % 2 = 0 then j + 8 else j - 8) := fun x j hj => by rw [s8 x j hj]; split <;> rfl
 have t16 : ∀ x j, j < 64 → (cZ 16 281470681808895 x).testBit j = x.testBit (if j / 16 % 2 = 0 then j + 16 else j - 16) := fun x j hj => by rw [s16 x j hj]; split <;> rfl
 have e32 : ∀ y : Nat, (if i < 32 then Nat.testBit y (i + 32) else Nat.testBit y (i - 32)) = Nat.testBit y (if i < 32 then i + 32 else i - 32) := fun y => by split <;> rfl
 rw [e32]
 generalize hj5 : (if i < 32 then i + 32 else i - 32) = j5
 have h5 : j5 < 64 := by rw [← hj5]; split <;> omega
 rw [t16 _ _ h5]
 generalize hj4 : (if j5 / 16 % 2 = 0 then j5 + 16 else j5 - 16) = j4
 have h4 : j4 < 64 := by rw [← hj4]; split <;> omega
 rw [t8 _ _ h4]
 generalize hj3 : (if j4 / 8 % 2 = 0 then j4 + 8 else j4 - 8) = j3
 have h3 : j3 < 64 := by rw [← hj3]; split <;> omega
 rw [t4 _ _ h3]
 generalize hj2 : (if j3 / 4 % 2 = 0 then j3 + 4 else j3 - 4) = j2
 have h2 : j2 < 64 := by rw [← hj2]; split <;> omega
 rw [t2 _ _ h2]
 generalize hj1 : (if j2 / 2 % 2 = 0 then j2 + 2 else j2 - 2) = j1
 have h1 : j1 < 64 := by rw [← hj1]; split <;> omega
 rw [t1 _ _ h1]
 congr 1
 clear m1 m2 m4 m8 m16 s1 s2 s4 s8 s16 t1 t2 t4 t8 t16 e32 go flip
 have all : ∀ i, i < 64 → ((fun j1 => if j1 / 1 % 2 = 0 then j1 + 1 else j1 - 1) ((fun j2 => if j2 / 2 % 2 = 0 then j2 + 2 else j2 - 2) ((fun j3 => if j3 / 4 % 2 = 0 then j3 + 4 else j3 - 4) ((fun j4 => if j4 / 8 % 2 = 0 then j4 + 8 else j4 - 8) ((fun j5 => if j5 / 16 % 2 = 0 then j5 + 16 else j5 - 16) (if i < 32 then i + 32 else i - 32)))))) = 63 - i := jd
 have := all i hi
 simp only [] at this
 rw [hj5, hj4, hj3, hj2, hj1] at this
 exact this
theorem qHr (x : Nat) : rev64 x ≤ 18446744073709551615 := by
 unfold rev64
 simp only []
 have h1 := lK 16 281470681808895 (cZ 8 71777214294589695 (cZ 4 1085102592571150095 (cZ 2 3689348814741910323 (cZ 1 6148914691236517205 x)))) jo
 generalize cZ 16 281470681808895 _ = e at *
 have h2 : e / 2 ^ 32 < 2 ^ 64 := Nat.lt_of_le_of_lt (zcs _ _) jo
 have h3 : e * 2 ^ 32 % 18446744073709551616 < 2 ^ 64 := Nat.mod_lt _ jo
 have := Nat.or_lt_two_pow h2 h3
 omega
def turn (v n : Nat) : Nat := rev64 v / 2 ^ (64 - n) &&& (2 ^ n - 1)
theorem qPl (v n : Nat) : turn v n < 2 ^ n := by
 unfold turn
 have := zfm n
 exact Nat.lt_of_le_of_lt zei jo
theorem qWu (v n : Nat) (hn : n ≤ 64) : bitsL (turn v n) n = (bitsL v n).reverse := by
 apply zap
 intro i
 by_cases hi : i < n
 ·
  rw [nB _ _ _ hi, List.getElem?_reverse (by rw [qH]; exact hi), qH, nB _ _ _ jo]
  congr 1
  rw [vA, vA]
  unfold turn
  rw [Nat.testBit_and, zfl, Nat.testBit_two_pow_sub_one, qWt _ _ jo]
  simp only [hi, decide_true, Bool.and_true]
  congr 1
  omega
 rw [zr (by rw [qH]; omega), zr (by rw [zgn, qH]; omega)]
end
section
def fB (w : Nat) : Nat := if w % 2 = 1 then (w / 2) ^^^ 3988292384 else w / 2
def stepN : Nat → Nat → Nat
 | 0, w => w
 | n + 1, w => stepN n (fB w)
def goM (w : Nat) (bs : List Nat) : Nat := bs.foldl (fun w b => stepN 8 (w ^^^ b)) w
def crcM (bs : List Nat) : Nat := 4294967295 - goM 4294967295 bs
theorem qHs (x y : Nat) : (x ^^^ y) / 2 = x / 2 ^^^ y / 2 := by
 have := Nat.shiftRight_xor_distrib (a := x) (b := y) (i := 1)
 simpa [Nat.shiftRight_eq_div_pow] using this
theorem qPm (x y : Nat) : (x ^^^ y) % 2 = (x + y) % 2 := by
 have h1 := Nat.xor_mod_two_pow (a := x) (b := y) (n := 1)
 rw [Nat.pow_one] at h1
 rw [h1]
 rcases zdl x with hx | hx <;> rcases zdl y with hy | hy <;> rw [hx, hy] <;> simp <;> omega
theorem uV {a b : Nat} (h : a ^^^ b = 0) : a = b := by
 have h1 : (a ^^^ b) ^^^ b = 0 ^^^ b := by rw [h]
 rwa [zdj, zfg, Nat.xor_zero, Nat.zero_xor] at h1
theorem eR {x y : Nat} (hx : x < 4294967296) (hy : y < 4294967296) : x ^^^ y < 4294967296 := zgt (n := 32) hx hy
theorem qQ3 {w : Nat} (h : w < 4294967296) : fB w < 4294967296 := by
 unfold fB
 split
 · exact eR jo jo
 omega
theorem gH : ∀ n {w : Nat}, w < 4294967296 → stepN n w < 4294967296
 | 0, _, h => h
 | n + 1, _, h => gH n (qQ3 h)
theorem qWv (x y : Nat) : fB (x ^^^ y) = fB x ^^^ fB y := by
 have hm : (x ^^^ y) % 2 = (x + y) % 2 := qPm x y
 unfold fB
 rw [qHs, hm]
 by_cases hx : x % 2 = 1 <;> by_cases hy : y % 2 = 1
 ·
  rw [if_pos hx, if_pos hy, if_neg jo]
  rw [zdj, Nat.xor_comm 3988292384, zdj, zfg, Nat.xor_zero]
 · rw [if_pos hx, if_neg hy, if_pos jo, zdj, Nat.xor_comm (y / 2), ← zdj]
 · rw [if_neg hx, if_pos hy, if_pos jo, zdj]
 rw [if_neg hx, if_neg hy, if_neg jo]
theorem rO : ∀ n x y, stepN n (x ^^^ y) = stepN n x ^^^ stepN n y
 | 0, _, _ => rfl
 | n + 1, x, y => by rw [stepN, qWv, rO n]; rfl
theorem qK7 (m : Nat) : fB (2 * m) = m := by
 unfold fB
 rw [if_neg jo]
 omega
theorem vI : ∀ n m, stepN n (2 ^ n * m) = m
 | 0, m => by simp [stepN]
 | n + 1, m => by
  rw [stepN, show 2 ^ (n + 1) * m = 2 * (2 ^ n * m) by rw [zbt, zcf (2 ^ n) 2, zdu], qK7, vI n m]
theorem qHt (w : Nat) : w = (256 * (w / 256)) ^^^ (w % 256) := by
 apply Nat.eq_of_testBit_eq
 intro i
 rw [Nat.testBit_xor, show (256 : Nat) = 2 ^ 8 from rfl, Nat.testBit_mod_two_pow, Nat.testBit_two_pow_mul]
 by_cases hi : i < 8
 · simp [hi, show ¬ 8 ≤ i by omega]
 rw [zfl]
 simp [hi, show 8 ≤ i by omega]
theorem qHu (w c : Nat) : stepN 8 ((w % 256) ^^^ c) ^^^ (w / 256) = stepN 8 (w ^^^ c) := by
 have h1 : stepN 8 (256 * (w / 256)) = w / 256 := vI 8 _
 have h2 := qHt w
 have h3 : stepN 8 (w ^^^ c) = stepN 8 (256 * (w / 256)) ^^^ stepN 8 ((w % 256) ^^^ c) := by rw [← rO, ← zdj, ← h2]
 rw [h3, h1, Nat.xor_comm]
theorem qK8 {d : Nat} (hd : d < 4294967296) (h : fB d = 0) : d = 0 := by
 unfold fB at h
 split at h
 ·
  have h2 : d / 2 = 3988292384 := uV h
  omega
 omega
theorem vL : ∀ n {d : Nat}, d < 4294967296 → stepN n d = 0 → d = 0
 | 0, _, _, h => h
 | n + 1, _, hd, h => qK8 hd (vL n (qQ3 hd) h)
theorem qWw {a b : Nat} (h : a ^^^ b = 0) : a = b := uV h
theorem yU {n x y : Nat} (hx : x < 4294967296) (hy : y < 4294967296) (h : stepN n x = stepN n y) : x = y := by
 have h1 : stepN n (x ^^^ y) = 0 := by rw [rO, h, zfg]
 exact qWw (vL n (eR hx hy) h1)
theorem rB {a b c : Nat} (h : a ^^^ c = b ^^^ c) : a = b := by
 have h1 : (a ^^^ c) ^^^ c = (b ^^^ c) ^^^ c := by rw [h]
 rwa [zdj, zfg, Nat.xor_zero, zdj, zfg, Nat.xor_zero] at h1
theorem qQ4 {a b c : Nat} (h : c ^^^ a = c ^^^ b) : a = b := by
 rw [Nat.xor_comm c a, Nat.xor_comm c b] at h
 exact rB h
theorem vO : ∀ (bs : List Nat) {w : Nat}, w < 4294967296 → (∀ b ∈ bs, b < 256) → goM w bs < 4294967296
 | [], _, h, _ => h
 | b :: bs, w, h, hB => vO bs (gH 8 (eR h (by have := hB b zbf; omega))) (fun x hx => hB x (zbi _ hx))
theorem qJz : ∀ (bs : List Nat) {v w : Nat}, v < 4294967296 → w < 4294967296 → (∀ b ∈ bs, b < 256) → goM v bs = goM w bs → v = w
 | [], _, _, _, _, _, h => h
 | b :: bs, v, w, hv, hw, hB, h => by
  have hb := hB b zbf
  have h1 := qJz bs (gH 8 (eR hv (jo : b < 4294967296))) (gH 8 (eR hw (jo : b < 4294967296))) (fun x hx => hB x (zbi _ hx)) h
  exact rB (yU (eR hv jo) (eR hw jo) h1)
theorem wQ (w : Nat) (a b : List Nat) : goM w (a ++ b) = goM (goM w a) b := by unfold goM; rw [zfw]
theorem mI (bs : List Nat) : crcM bs < 4294967296 := by unfold crcM; omega
theorem qWx {a c : List Nat} {x y : Nat} (ha : ∀ b ∈ a, b < 256) (hc : ∀ b ∈ c, b < 256) (hx : x < 256) (hy : y < 256) (hne : x ≠ y) : crcM (a ++ x :: c) ≠ crcM (a ++ y :: c) := by
 intro h
 have hw := vO a (w := 4294967295) jo ha
 have h1 : ∀ z, z < 256 → goM 4294967295 (a ++ z :: c) < 4294967296 := fun z hz => vO _ jo (fun b hb => by
  rcases List.mem_append.1 hb with hb | hb
  · exact ha b hb
  rcases zcq.1 hb with rfl | hb
  · exact hz
  exact hc b hb)
 have h2 := h1 x hx
 have h3 := h1 y hy
 unfold crcM at h
 have h4 : goM 4294967295 (a ++ x :: c) = goM 4294967295 (a ++ y :: c) := jo
 rw [wQ, wQ] at h4
 have h5 : ∀ z, goM (goM 4294967295 a) (z :: c) = goM (stepN 8 (goM 4294967295 a ^^^ z)) c := fun z => rfl
 rw [h5, h5] at h4
 have h6 := qJz c (gH 8 (eR hw jo)) (gH 8 (eR hw jo)) hc h4
 exact hne (qQ4 (yU (eR hw jo) (eR hw jo) h6))
end
section
open Go.RowKit
section
variable {P : Program} {Γ : Env} {w : World} {dst : Option Tmp} {T : TypeId} {pos : String} {after : Array Edge} {g : Option (Nat × Bool)}
theorem qQo.pn {x : Operand} {t : TypeId} {v : Value} (hx : ev? Γ x = some (.iface t v)) : qQo P ⟨dst, .panic x, T, pos, after, g⟩ Γ w (.iface t v) := fun ρ hρ => by
 simp [execOp, hρ _ _ hx, Instr.panic, goPanic]
theorem Run.maxI {t : TypeId} {x y : Operand} {k : IntKind} {a b : Int} {ts : Array TypeId} (hx : ev? Γ x = some (.int k a)) (hy : ev? Γ y = some (.int k b)) :
  Run P ⟨dst, .call ⟨.builtin .max, #[x, y], ts⟩, t, pos, after, g⟩ Γ w (.int k (if a < b then b else a)) := fun ρ hρ => by
 simp [execOp, resolve, invoke, builtin, Builtin.max_, Builtin.max2, hρ _ _ hx, hρ _ _ hy]
theorem Run.indexArrA {α : Type} (f : α → List Value) {t e : TypeId} {x i : Operand} {n : Nat} {k : IntKind} {sz : Nat} {l : List α} (j : Nat) (hx : ev? Γ x = some (.agg (l.flatMap f).toArray)) (hi : ev? Γ i = some (.int k j)) (ht : P.underlying t = some (.array n e))
  (ha : ∀ w, (isAgg e).run P w = .ok true w) (hz : ∀ w, (sizeOf e).run P w = .ok sz w) (hf : ∀ a, (f a).length = sz) (hl : l.length = n) (hj : j < l.length) : Run P ⟨dst, .index t x i, T, pos, after, g⟩ Γ w (.agg (f l[j]).toArray) := fun ρ hρ => by
 have h1 : (j : Int) < (n : Int) := jo
 have h2 := dV f sz hf l j hj
 have h3 : (l.flatMap f).toArray.extract (j * sz) (j * sz + sz) = (f l[j]).toArray := by
  rw [← h2]
  apply Array.ext'
  simp
 have h4 : j < n := jo
 simp only [List.extract_toArray] at h3
 simp [execOp, hρ _ _ hx, hρ _ _ hi, Instr.index, asIntOf, run_underlying ht, h4, part, ha, hz]
 simpa using h3
theorem Run.buildA {t e : TypeId} {n size : Nat} {parts : List (Nat × Operand)} {vs : List Value} {z cells : Array Value} (hv : evs Γ (parts.map (·.2)) vs) (hz : ∀ w, (zeroValue t).run P w = .ok (.agg z) w)
  (hu : P.underlying t = some (.array n e)) (hsz : ∀ w, (sizeOf e).run P w = .ok size w) (hf : Instr.fill (fun i => some (i * size, size)) z ((parts.map (·.1)).zip vs) = some cells) :
  Run P ⟨dst, .build t parts.toArray, T, pos, after, g⟩ Γ w (.agg cells) := fun ρ hρ => by
 have e1 := gX hρ _ _ hv
 have e2 : parts.map (fun p => (p.1, ρ p.2)) = (parts.map (·.1)).zip vs := by
  rw [← e1, zdg, List.zip_map']
  rfl
 simp only [execOp, Instr.build, Sem.run_bind, hz, Result.andThen_ok, Value.cells, run_underlying hu, hsz, List.map_toArray, e2, hf, Sem.run_pure]
theorem Run.sliceA {t e : TypeId} {x : Operand} {a : Addr} {n sz : Nat} {lo hi : Option Operand} (l h : Nat) (hx : ev? Γ x = some (.pointer (some a))) (ht : P.underlying t = some (.array n e)) (hz : ∀ w, (sizeOf e).run P w = .ok sz w)
  (hlo : evB Γ lo 0 l) (hhi : evB Γ hi n h) (h1 : l ≤ h) (h2 : h ≤ n) :
  Run P ⟨dst, .slice t x lo hi none, T, pos, after, g⟩ Γ w (.slice (cP (some a) n l sz) (h - l) (n - l)) := fun ρ hρ => by
 have hb : ∀ (k : IntKind) (r y : Nat) (code : BoundsCode), r ≤ y → (Instr.sliceBound (.int k (r : Int)) y code).run P w = .ok r w := by
  intro k r y code hry
  have := run_sliceBound (P := P) w k (r : Int) y code jo jo
  simpa using this
 have hbs : (Instr.sliceBounds false n n (lo.map ρ) (hi.map ρ) none).run P w = .ok (l, h, n) w := vC (P := P) (w := w) hρ n n l h lo hi hlo hhi h1 h2 false
 simp only [execOp, Instr.sliceAt, Sem.run_bind, run_underlying ht, Result.andThen_ok, hρ _ _ hx, Option.map_none, Instr.sureAddr, Sem.run_pure, hbs, hz]
 unfold cP
 split
 · rename_i h0; simp [h0]
 rename_i h0; simp [h0]
theorem Run.neqNilI {t yT : TypeId} {x y : Operand} {u : TypeId} {v : Value} {d : TypeDesc} (hx : ev? Γ x = some (.iface u v)) (hy : ev? Γ y = some .nilIface) (ht : P.underlying t = some d) (hd : pY d = false) :
  Run P ⟨dst, .binOp .neq t x y yT, T, pos, after, g⟩ Γ w (.bool true) := fun ρ hρ => by
 have h0 : ∀ k : Nat, (Op.equalIn (k + 1) t (.iface u v) .nilIface).run P w = .ok false w := fun k => by
  cases d <;> first | (cases hd; done) | simp [Op.equalIn, run_underlying ht]
 have h1 : (Op.equal t (.iface u v) .nilIface).run P w = .ok false w := h0 9999
 simp [execOp, hρ _ _ hx, hρ _ _ hy, eqGuard, binOp, h1]
end
section
variable {P : Program} {n : NF} {Γ : Env} {w : World} {Q : Exit → Env → World → Prop} {K : Env → World → Prop} {Pn : List PanicEntry → World → Prop} {ops : Array Oper} {rest : List Oper} {S : World → Prop} {L fuel : Nat} {listed : Array Bool} {d : Nat} {op : Op} {T : TypeId} {pos : String} {after : Array Edge}
theorem Ops.clp {f : FuncId} {args : Array Value} {R : Ending → World → Prop} (he : bW P ⟨some d, op, T, pos, after, none⟩ Γ w f args) (hc : Calls P f args w R) (hn : Nat.blt d n.n = true)
  (k : ∀ e w', R e w' → (∃ v, e = .returned v ∧ Ops P n ops rest ((d, v) :: Γ) w' Q) ∨ (∃ ch, e = .panicked ch ∧ Q (.panic ch) Γ w')) : Ops P n ops (⟨some d, op, T, pos, after, none⟩ :: rest) Γ w Q :=
 Ops.callP he hc trivial rfl hn k
theorem Ops.pn {x : Operand} {t : TypeId} {v : Value} {dd : Option Tmp} (hx : ev? Γ x = some (.iface t v)) (k : Q (.panic [{ v := .iface t v, recovered := false }]) Γ w) : Ops P n ops (⟨dd, .panic x, T, pos, after, none⟩ :: rest) Γ w Q :=
 Ops.falls (qQo.pn hx) trivial k
theorem qV.clp {f : FuncId} {args : Array Value} {R : Ending → World → Prop} {d : Nat} (i : Nat) {oi : Oper} (hi : ops[i]? = some oi) (hr : Region.ready .any ops listed = [i]) (he : bW P oi Γ w f args) (hc : Calls P f args w R) (hup : Up ops Γ oi.guard) (hd : oi.dst = some d) (hn : Nat.blt d n.n = true)
  (k : ∀ e w', R e w' → (∃ v, e = .returned v ∧ S w' ∧ qV P n ops S Pn L fuel (listed.setIfInBounds i true) ((d, v) :: Γ) w' K) ∨ (∃ ch, e = .panicked ch ∧ Pn ch w')) : qV P n ops S Pn L (fuel + 1) listed Γ w K :=
 qV.of_wp i hi hr hup fun a hs => by
  unfold Oper.wp
  rw [he _ hs.fits, Oper.upon_enter, hd]
  refine hc.mono ?_
  intro e w' hR
  rcases k e w' hR with ⟨v, rfl, h1, h2⟩ | ⟨ch, rfl, h1⟩
  · exact ⟨h1, h2 _ (hs.put hn v)⟩
  exact ⟨⟨hs.size, hs.defers⟩, h1⟩
end
section
variable {P : Program} {n : NF} {Γ : Env} {w : World} {K : Env → World → Prop} {Pn : List PanicEntry → World → Prop} {ops : Array Oper} {S : World → Prop} {L fuel : Nat} {listed : Array Bool}
theorem Sat.perm {Γ Γ' : Env} {a : Act} (h : Sat n Γ a) (hp : ∀ t v, get? Γ' t = some v → get? Γ t = some v) : Sat n Γ' a := ⟨h.size, h.defers, fun t v ht => h.at_ t v (hp t v ht)⟩
end
section
variable {P : Program} {n : Nat} {D : List Deferred} {Γ : Env} {w : World} {Q : Exit → Env → World → Prop}
end
end
section
open Go.RowKit
def LW (P : Program) (n : NF) (c : Code) (Γ : Env) (w : World) (QQ : Exit → Act → World → Prop) : Prop := n.ro = none → ∀ a, Sat n Γ a → c.wp P QQ a w
def upL (n : NF) (QQ : Exit → Act → World → Prop) : Exit → Env → World → Prop := fun e Γ w => ∀ a, Sat n Γ a → QQ e a w
section
variable {P : Program} {n : NF} {Γ : Env} {w : World} {QQ : Exit → Act → World → Prop} {c x y : Code} {R : Ending → World → Prop} {fn : Func} {res : Array ResultVar}
theorem LW.vc (h : VC P n c Γ w (upL n QQ)) : LW P n c Γ w QQ := fun hro a hs => by
 have h1 := h a hs 0
 rw [hro] at h1
 exact wp_mono (wpIn_wide.1 h1) (fun _ _ _ ⟨_, hs', q⟩ => q _ hs')
theorem LW.seq (h : VC P n x Γ w (gC (fun Γ' w' => LW P n y Γ' w' QQ) (upL n QQ))) : LW P n (.seq x y) Γ w QQ := by
 intro hro a hs
 have h1 := h a hs 0
 rw [hro] at h1
 refine wp_seq (wp_mono (wpIn_wide.1 h1) ?_)
 intro e a' w' hq
 obtain ⟨Γ', hs', q⟩ := hq
 cases e with
 | normal => exact q hro a' hs'
 | exit id => exact q a' hs'
 | goto l => exact q a' hs'
 | ret => exact q a' hs'
 | panic ch => exact q a' hs'
 | outgrown => exact q a' hs'
theorem LW.dfr {m : Nat} {D : List Deferred} {id : Nat} {om od : Oper} {t : Nat} {o : Operand} {f : FuncId} {us : List Value} {ts : Array TypeId} (h : Run P om Γ w (.func (.func f) #[] us.toArray)) (hgm : om.guard = none) (hdm : om.dst = some t) (htn : Nat.blt t m = true)
  (ho : od.op = .defer ⟨.value o, #[], ts⟩) (hg : od.guard = none) (hd : od.dst = none) (hc : ev? ((t, .func (.func f) #[] us.toArray) :: Γ) o = some (.func (.func f) #[] us.toArray))
  (k : LW P ⟨m, { target := .fn (.func f) us.toArray, args := #[] } :: D, none⟩ y ((t, .func (.func f) #[] us.toArray) :: Γ) w QQ) : LW P ⟨m, D, none⟩ (.seq (.region id #[om, od] false) y) Γ w QQ := by
 intro _ a hs
 refine wp_seq (wp_region_lit ?_)
 unfold wpList
 rw [if_pos (by unfold Region.wanted; rw [hgm])]
 left
 unfold Oper.wp
 rw [h _ hs.fits, Oper.upon_value, hdm]
 have hs1 := hs.put htn (.func (.func f) #[] us.toArray)
 unfold wpList
 rw [if_pos (by unfold Region.wanted; rw [hg])]
 left
 unfold Oper.wp
 have e2 := hs1.fits _ _ hc
 have hr : (execOp (a.put (some t) (.func (.func f) #[] us.toArray)).eval od).run P w = .ok (.defer { target := .fn (.func f) us.toArray, args := #[] }) w := by
  simp [execOp, ho, resolve, e2, Deferred.ofValue]
 rw [hr, Oper.upon_defer, hd]
 refine wpList_nil (k rfl _ ⟨hs1.size, ?_, hs1.at_⟩)
 show _ :: (a.put (some t) _).defers = _
 rw [hs1.defers]
theorem LW.sub (Γ' : Env) (hs : Sub Γ Γ') (h : LW P n c Γ' w QQ) : LW P n c Γ w QQ := fun hro a ha => h hro a (ha.sub hs)
theorem wX {f : FuncId} {us : List Value} (hi : ∀ args w, (callFunc f args).run P w = .ok (.enter f args) w) (w : World) : (invoke (.fn (.func f) us.toArray) #[]).run P w = .ok (.enter f us.toArray) w := by
 simp [invoke, hi]
theorem qHv {m : Nat} (hr : fn.results = res) (h : fP P res R .ret Γ w) : upL ⟨m, [], none⟩ (bodyPostD P fn R) .ret Γ w := fun a hs => by
 obtain ⟨vs, h1, h2⟩ := fK hs hr h
 show Leaves P fn a.tmps R a.defers .returning w
 rw [hs.defers]
 exact ⟨_, h1, h2⟩
theorem qHw {m : Nat} {f : FuncId} {us : List Value} (hr : fn.results = res) (hi : ∀ args w, (callFunc f args).run P w = .ok (.enter f args) w)
  (hc : CallsD P f us.toArray .returning w fun e u w' => (∃ v, e = .returned v) ∧ settle u = .returning ∧ fP P res R .ret Γ w') : upL ⟨m, [{ target := .fn (.func f) us.toArray, args := #[] }], none⟩ (bodyPostD P fn R) .ret Γ w := fun a hs => by
 show Leaves P fn a.tmps R a.defers .returning w
 rw [hs.defers]
 refine leaves_cons jp (wX hi w) (hc.mono ?_)
 rintro e u w' ⟨⟨v, rfl⟩, hu, h⟩
 obtain ⟨vs, h1, h2⟩ := fK hs hr h
 dsimp only
 rw [hu]
 exact ⟨_, h1, h2⟩
theorem qHx {m : Nat} {f : FuncId} {us : List Value} {ch : List PanicEntry} (hr : fn.results = res) (hi : ∀ args w, (callFunc f args).run P w = .ok (.enter f args) w)
  (hc : CallsD P f us.toArray (.panicking ch) w fun e u w' => (∃ v, e = .returned v) ∧ settle u = .returning ∧ fP P res R .ret Γ w') : upL ⟨m, [{ target := .fn (.func f) us.toArray, args := #[] }], none⟩ (bodyPostD P fn R) (.panic ch) Γ w := fun a hs => by
 show Leaves P fn a.tmps R a.defers (.panicking ch) w
 rw [hs.defers]
 refine leaves_cons jp (wX hi w) (hc.mono ?_)
 rintro e u w' ⟨⟨v, rfl⟩, hu, h⟩
 obtain ⟨vs, h1, h2⟩ := fK hs hr h
 dsimp only
 rw [hu]
 exact ⟨_, h1, h2⟩
theorem LW.calls {f : FuncId} {args : List Value} {nt : Nat} (hf : P.funcs[f]? = some fn) (hb : fn.body = some c) (hn : fn.ntmps = nt) (hl0 : Nat.ble args.length nt = true)
  (h : LW P ⟨nt, [], none⟩ c (argEnv 0 args) w (bodyPostD P fn R)) : Calls P f args.toArray w R := by
 have hl : args.length ≤ nt := zey hl0
 refine calls_of_wp_defers hf hb (h rfl _ ?_)
 refine ⟨?_, rfl, ?_⟩
 ·
  simp only [zgz, zck, zgj, hn]
  omega
 intro t v ht
 obtain ⟨_, h2⟩ := mG args 0 t v ht
 simp only [zcn] at h2
 have hlt : t < args.length := (List.getElem?_eq_some_iff.1 h2).1
 rw [zbq, zez (by simpa using hlt)]
 simp [h2]
end
section
variable {P : Program} {Γ : Env} {w : World} {rest : Code} {R : Ending → FrameMode → World → Prop} {fn : Func} {res : Array ResultVar}
theorem VC.recovered {f : FuncId} {args : List Value} {nt id : Nat} {o4 o3 : Oper} {d e : Nat} {u u' : FrameMode} {v : Value} (hf : P.funcs[f]? = some fn) (hb : fn.body = some (.seq (.region id #[o4, o3] false) rest)) (hn : fn.ntmps = nt) (hr : fn.results = res) (hl0 : Nat.ble args.length nt = true)
  (hu : (∃ older, u = .panicking ({ v, recovered := false } :: older) ∧ u' = .panicking ({ v, recovered := true } :: older)) ∨ (u = .returning ∧ u' = u ∧ v = .nilIface))
  (h4 : o4.op = .call ⟨.builtin .recover, #[], #[]⟩) (hg4 : o4.guard = none) (hd4 : o4.dst = some d) (h3 : o3.op = .assign (.tmp d)) (hg3 : o3.guard = none) (hd3 : o3.dst = some e) (hdn : Nat.blt d nt = true) (hen : Nat.blt e nt = true)
  (k : VC P ⟨nt, [], none⟩ rest ((e, v) :: (d, v) :: argEnv 0 args) w (fP P res (fun x w' => R x u' w'))) : CallsD P f args.toArray u w R := by
 have hl : args.length ≤ nt := zey hl0
 refine callsD_of_wpS hf hb fun c₀ cs hmode => wpS_seq (wpS_region ?_)
 have hs0 : Sat ⟨nt, [], none⟩ (argEnv 0 args) { tmps := args.toArray ++ Array.replicate (fn.ntmps - args.toArray.size) undef, defers := [] } := by
  refine ⟨?_, rfl, ?_⟩
  ·
   simp only [zgz, zck, zgj, hn]
   omega
  intro t v ht
  obtain ⟨_, h2⟩ := mG args 0 t v ht
  simp only [zcn] at h2
  have hlt : t < args.length := (List.getElem?_eq_some_iff.1 h2).1
  rw [zbq, zez (by simpa using hlt)]
  simp [h2]
 generalize ({ tmps := args.toArray ++ Array.replicate (fn.ntmps - args.toArray.size) undef, defers := [] } : Act) = a0 at hs0
 have e0 : (execOp a0.eval o4).run P w = .ok .recover w := by
  simp [execOp, h4, resolve, invoke, builtin]
 have fin : ∀ cs', cs' = { c₀ with mode := u' } :: cs → wpOpsS P #[o4, o3] (Exit.thenS (rest.wpS P (bodyPostS P fn c₀ cs R)) (bodyPostS P fn c₀ cs R)) [1] (a0.put o4.dst v) cs' w := by
  rintro cs' rfl
  have hs1 := hs0.put hdn v
  rw [hd4]
  have e1 : (execOp (a0.put (some d) v).eval o3).run P w = .ok (.value v) w := by
   have h5 : (a0.put (some d) v).eval (.tmp d) = v := hs1.fits (.tmp d) v (by simp [ev?, get?])
   simp [execOp, h3, h5]
  have hs2 := hs1.put hen v
  simp only [wpOpsS, show (#[o4, o3] : Array Oper)[1]? = some o3 from rfl]
  rw [if_pos (by unfold Region.wanted; rw [hg3]), e1]
  simp only [Oper.upon_value, hd3]
  refine wpS_of_wp (wp_mono (wpIn_wide.1 (k _ hs2 0)) ?_)
  rintro x a' w' ⟨Γ', hs', q⟩
  have key : fP P res (fun x w' => R x u' w') .ret Γ' w' → ∃ v, (results fn a'.tmps).run P w' = .ok v w' ∧ R (.returned v) u' w' := by
   intro q
   obtain ⟨vs, h1, h2⟩ := fK hs' hr q
   exact ⟨_, h1, h2⟩
  cases x with
  | normal => obtain ⟨v, h1, h2⟩ := key q; exact ⟨hs'.defers, _, rfl, v, h1, h2⟩
  | ret => obtain ⟨v, h1, h2⟩ := key q; exact ⟨hs'.defers, _, rfl, v, h1, h2⟩
  | panic ch => exact ⟨hs'.defers, _, rfl, q⟩
  | exit id => exact q.elim
  | goto l => exact q.elim
  | outgrown => exact q.elim
 show wpOpsS P #[o4, o3] _ [0, 1] a0 (c₀ :: cs) w
 rw [wpOpsS]
 simp only [show (#[o4, o3] : Array Oper)[0]? = some o4 from rfl]
 rw [if_pos (by unfold Region.wanted; rw [hg4]), e0]
 dsimp only
 rcases hu with ⟨older, rfl, rfl⟩ | ⟨rfl, rfl, rfl⟩
 ·
  have : recoverD (c₀ :: cs) = some (v, { c₀ with mode := .panicking ({ v, recovered := true } :: older) } :: cs) := by simp [recoverD, hmode]
  rw [this]
  exact fin _ rfl
 have : recoverD (c₀ :: cs) = none := by simp [recoverD, hmode]
 rw [this]
 exact fin _ (by rw [← hmode])
end
section
variable {P : Program} {Γ : Env} {w : World} {dst : Option Tmp} {T : TypeId} {pos : String} {after : Array Edge} {g : Option (Nat × Bool)}
theorem Run.neqNil2 {t yT : TypeId} {x : Operand} {d : TypeDesc} (hx : ev? Γ x = some .nilIface) (ht : P.underlying t = some d) (hd : pY d = false) :
  Run P ⟨dst, .binOp .neq t x (.const .nilIface) yT, T, pos, after, g⟩ Γ w (.bool false) := fun ρ hρ => by
 have h0 : ∀ k : Nat, (Op.equalIn (k + 1) t .nilIface .nilIface).run P w = .ok true w := fun k => by
  cases d <;> first | (cases hd; done) | simp [Op.equalIn, run_underlying ht]
 have h1 : (Op.equal t .nilIface .nilIface).run P w = .ok true w := h0 9999
 have hy : ρ (.const .nilIface) = .nilIface := hρ _ _ rfl
 simp [execOp, hρ _ _ hx, hy, eqGuard, binOp, h1]
end
section
variable {P : Program} {n : NF} {Γ : Env} {w : World} {K : Env → World → Prop} {Pn : List PanicEntry → World → Prop} {ops : Array Oper} {S : World → Prop} {L fuel : Nat} {listed : Array Bool} {i : Nat} {oi : Oper} {d : Nat}
def kB (P : Program) (n : NF) (ops : Array Oper) (S : World → Prop) (Pn : List PanicEntry → World → Prop) (L fuel : Nat) (listed : Array Bool) (i : Nat) (Γ : Env) (w : World) (K : Env → World → Prop) : Prop :=
 ∀ a, Sat n Γ a → wpOp P ops (lU n K Pn) i (fun a' w' => S w' ∧ dU P ops (lU n K Pn) S L fuel (listed.setIfInBounds i true) a' w') a w
theorem kB.of_wp (hi : ops[i]? = some oi) (hup : Up ops Γ oi.guard) (h : ∀ a, Sat n Γ a → oi.wp P a w (fun a' w' => S w' ∧ dU P ops (lU n K Pn) S L fuel (listed.setIfInBounds i true) a' w') (lU n K Pn)) : kB P n ops S Pn L fuel listed i Γ w K := by
 intro a hs
 unfold wpOp
 simp only [hi]
 rw [if_pos (hup.wanted hs)]
 exact .inl (h a hs)
theorem kB.m {R : Value → World → Prop} (hi : ops[i]? = some oi) (h : qJ P oi Γ w R) (hup : Up ops Γ oi.guard) (hd : oi.dst = some d) (hn : Nat.blt d n.n = true)
  (k : ∀ v w', R v w' → S w' ∧ qV P n ops S Pn L fuel (listed.setIfInBounds i true) ((d, v) :: Γ) w' K) : kB P n ops S Pn L fuel listed i Γ w K :=
 kB.of_wp hi hup fun a hs => by
  obtain ⟨v, w', hrun, hR⟩ := h _ hs.fits
  unfold Oper.wp
  rw [hrun, Oper.upon_value, hd]
  exact ⟨(k v w' hR).1, (k v w' hR).2 _ (hs.put hn v)⟩
theorem kB.r1 {v : Value} (hi : ops[i]? = some oi) (hS : S w) (h : Run P oi Γ w v) (hup : Up ops Γ oi.guard) (hd : oi.dst = some d) (hn : Nat.blt d n.n = true)
  (k : qV P n ops S Pn L fuel (listed.setIfInBounds i true) ((d, v) :: Γ) w K) : kB P n ops S Pn L fuel listed i Γ w K :=
 kB.of_wp hi hup fun a hs => by
  unfold Oper.wp
  rw [h _ hs.fits, Oper.upon_value, hd]
  exact ⟨hS, k _ (hs.put hn v)⟩
theorem kB.st {R : World → Prop} (hi : ops[i]? = some oi) (h : qR P oi Γ w R) (hup : Up ops Γ oi.guard) (hd : oi.dst = none)
  (k : ∀ w', R w' → S w' ∧ qV P n ops S Pn L fuel (listed.setIfInBounds i true) Γ w' K) : kB P n ops S Pn L fuel listed i Γ w K :=
 kB.of_wp hi hup fun a hs => by
  obtain ⟨w', hrun, hR⟩ := h _ hs.fits
  unfold Oper.wp
  rw [hrun, Oper.upon_skip, hd]
  exact ⟨(k w' hR).1, (k w' hR).2 _ hs⟩
theorem kB.cl {f : FuncId} {args : Array Value} {R : Ending → World → Prop} (hi : ops[i]? = some oi) (he : bW P oi Γ w f args) (hc : Calls P f args w R) (hup : Up ops Γ oi.guard) (hd : oi.dst = some d) (hn : Nat.blt d n.n = true)
  (k : ∀ e w', R e w' → ∃ v, e = .returned v ∧ S w' ∧ qV P n ops S Pn L fuel (listed.setIfInBounds i true) ((d, v) :: Γ) w' K) : kB P n ops S Pn L fuel listed i Γ w K :=
 kB.of_wp hi hup fun a hs => by
  unfold Oper.wp
  rw [he _ hs.fits, Oper.upon_enter, hd]
  refine hc.mono ?_
  intro e w' hR
  obtain ⟨v, rfl, h1, h2⟩ := k e w' hR
  exact ⟨h1, h2 _ (hs.put hn v)⟩
end
end
section
open Go.RowKit Go.ChangeShapes Go.WideShapes Go.Deep
section
variable {H : Type} {enc : TypeId × Value → H} {P : Program} {w : World} {base : Nat} {spare : Nat → Bool} {held : Bool}
end
end
section
open Go.RowKit
def Fro (w : World) (g : Nat) (e : TypeId) (cs : Array Value) : Prop := w.heap[g]? = some (.cells cs e (cs.size, cs.size + 1))
section
variable {S : List Nat} {w w' : World} {g : Nat} {e : TypeId} {cs : Array Value}
theorem Fro.lt (h : Fro w g e cs) : g < w.heap.size := (Array.getElem?_eq_some_iff.1 h).1
theorem Fro.cell (h : Fro w g e cs) (i : Nat) : w.cell? ⟨g, i, none⟩ = cs[i]? := by
 unfold Fro at h
 simp [World.cell?, h]
theorem Fro.frm (h : Fro w g e cs) (k : Frm S w w') (hg : g ∉ S) : Fro w' g e cs := (k.block g h.lt hg).trans h
theorem Fro.set (h : Fro w g e cs) (i : Nat) (u : Value) : Fro (w.setCell ⟨g, i, none⟩ u) g e (cs.setIfInBounds i u) := by
 unfold Fro at *
 have hlt := (Array.getElem?_eq_some_iff.1 h).1
 have hb := (Array.getElem?_eq_some_iff.1 h).2
 simp [World.setCell, zge, h]
theorem Fro.rd (h : Fro w g e cs) {l : List UInt8} (hl : cs.toList.take l.length = U8 l) : Rd w 1 (some ⟨g, 0, none⟩) l.length (U8 l) := by
 refine ⟨by simp [U8], fun hn => ⟨_, rfl, h.lt, fun j u hu => ?_⟩⟩
 have e1 : (⟨g, 0, none⟩ : Addr).add j = ⟨g, j, none⟩ := by unfold Addr.add; split <;> simp_all
 rw [e1, h.cell]
 have hj : j < l.length := by have := (List.getElem?_eq_some_iff.1 hu).1; simpa [U8] using this
 rw [← hl, zao hj] at hu
 simpa using hu
end
section
variable {P : Program} {n : NF} {Γ : Env} {w : World} {dst : Option Tmp} {T : TypeId} {pos : String} {after : Array Edge} {g : Option (Nat × Bool)}
theorem Run.indexArr1 {t e : TypeId} {x i : Operand} {n : Nat} {k : IntKind} {cs : Array Value} {v : Value} (j : Nat) (hx : ev? Γ x = some (.agg cs)) (hi : ev? Γ i = some (.int k j)) (ht : P.underlying t = some (.array n e))
  (ha : ∀ w, (isAgg e).run P w = .ok false w) (hz : ∀ w, (sizeOf e).run P w = .ok 1 w) (hl : cs.size = n) (hj : cs[j]? = some v) : Run P ⟨dst, .index t x i, T, pos, after, g⟩ Γ w v := fun ρ hρ => by
 have hlt := (Array.getElem?_eq_some_iff.1 hj).1
 have h4 : j < n := jo
 simp [execOp, hρ _ _ hx, hρ _ _ hi, Instr.index, asIntOf, run_underlying ht, h4, part, ha, hz, hj]
end
end
section
open Go.RowKit
section
variable {P : Program} {n : NF} {Γ : Env} {w : World} {Q : Exit → Env → World → Prop} {ops : Array Oper} {rest : List Oper} {op : Op} {T : TypeId} {pos : String} {after : Array Edge} {g : Option (Nat × Bool)} {dst : Option Tmp}
theorem Ops.m0 {R : Value → World → Prop} (h : qJ P ⟨none, op, T, pos, after, none⟩ Γ w R) (k : ∀ v w', R v w' → Ops P n ops rest Γ w' Q) : Ops P n ops (⟨none, op, T, pos, after, none⟩ :: rest) Γ w Q :=
 Ops.of_wp (show Up ops Γ none from trivial) fun a hs m => by
  obtain ⟨v, w', hr, hR⟩ := h _ hs.fits
  refine ⟨dF, ?_⟩
  rw [gW hr jp, Oper.uponIn_value]
  exact k v w' hR _ hs m
end
end
section
open Go.RowKit
structure PT where
 i : Nat
 d : Nat
 dep : List Nat
 pure : Bool
 Φ : (Nat → Value) → Value → Nat → Nat → World → Prop
def tD (P : Program) (ops : Array Oper) (n : NF) (t : PT) (ρ : Nat → Value) (Γ : Env) (W : World) : Prop :=
 ∃ oi, ops[t.i]? = some oi ∧ oi.dst = some t.d ∧ Nat.blt t.d n.n = true ∧ oi.guard = none ∧
  ((∃ f args R, bW P oi Γ W f args ∧ Calls P f args W R ∧ ∀ e W', R e W' → ∃ v, e = .returned v ∧ Frm [] W W' ∧ t.Φ ρ v W.heap.size W'.heap.size W') ∨
   (∃ R, qJ P oi Γ W R ∧ ∀ v W', R v W' → Frm [] W W' ∧ t.Φ ρ v W.heap.size W'.heap.size W')) ∧
  (t.pure = true → ∃ v, (∀ W', Run P oi Γ W' v) ∧ t.Φ ρ v W.heap.size W.heap.size W)
structure PD where
 t : PT
 v : Value
 lo : Nat
 hi : Nat
abbrev PT.key (t : PT) : Nat × Nat × List Nat × Bool := (t.i, t.d, t.dep, t.pure)
section
variable {P : Program} {n : NF} {Γ : Env} {w : World} {K : Env → World → Prop} {Pn : List PanicEntry → World → Prop} {ops : Array Oper} {S : World → Prop} {L : Nat} {target : Array Bool}
theorem tD.cl {t : PT} {ρ : Nat → Value} {W : World} {f : FuncId} {args : Array Value} {R : Ending → World → Prop} {oi : Oper} (hp : t.pure = false) (hi : ops[t.i]? = some oi) (hd : oi.dst = some t.d) (hn : Nat.blt t.d n.n = true) (hg : oi.guard = none) (he : bW P oi Γ W f args) (hc : Calls P f args W R)
  (h : ∀ e W', R e W' → ∃ v, e = .returned v ∧ Frm [] W W' ∧ t.Φ ρ v W.heap.size W'.heap.size W') : tD P ops n t ρ Γ W := ⟨oi, hi, hd, hn, hg, .inl ⟨f, args, R, he, hc, h⟩, fun h' => by rw [hp] at h'; cases h'⟩
theorem tD.m {t : PT} {ρ : Nat → Value} {W : World} {R : Value → World → Prop} {oi : Oper} (hp : t.pure = false) (hi : ops[t.i]? = some oi) (hd : oi.dst = some t.d) (hn : Nat.blt t.d n.n = true) (hg : oi.guard = none) (hD : qJ P oi Γ W R)
  (h : ∀ v W', R v W' → Frm [] W W' ∧ t.Φ ρ v W.heap.size W'.heap.size W') : tD P ops n t ρ Γ W := ⟨oi, hi, hd, hn, hg, .inr ⟨R, hD, h⟩, fun h' => by rw [hp] at h'; cases h'⟩
theorem tD.r {t : PT} {ρ : Nat → Value} {W : World} {v : Value} {oi : Oper} (hi : ops[t.i]? = some oi) (hd : oi.dst = some t.d) (hn : Nat.blt t.d n.n = true) (hg : oi.guard = none) (hD : ∀ W', Run P oi Γ W' v)
  (h : t.Φ ρ v W.heap.size W.heap.size W) : tD P ops n t ρ Γ W :=
 ⟨oi, hi, hd, hn, hg, .inr ⟨fun r w' => r = v ∧ w' = W, fun ρ hρ => ⟨v, W, hD W ρ hρ, rfl, rfl⟩, by rintro _ _ ⟨rfl, rfl⟩; exact ⟨Frm.refl _ _, h⟩⟩, fun _ => ⟨v, hD, h⟩⟩
abbrev PT.mv (i d src : Nat) (more : List Nat) : PT := ⟨i, d, src :: more, true, fun ρ v _ _ _ => v = ρ src⟩
end
end
end Go.Proofs.YtndjgmbfkkgpdaaGreat
