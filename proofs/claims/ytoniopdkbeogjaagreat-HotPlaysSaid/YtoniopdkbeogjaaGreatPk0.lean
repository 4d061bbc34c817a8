/-
  Lemmas on the way, joined: EngA, Ty, EngB, Eng18, Eng20, Eng21, Eng22, Eng19.
-/
import Derived.WalkKit
import Derived.StillTail
import Derived.Deep.Quiet
import Derived.Deep.LoopGhost
import Derived.Deep.AppendLies
import Derived.Maps.AppendAt
import Derived.RangeFuncCalls
import Derived.TacticsIn
import Derived.OrdersIn
import Derived.Sort.LoopGhostIn
import Derived.Laws.OwnMore
import Derived.Laws.Tables
import Derived.Laws.BytesString
import Derived.OrdersHeld
import Derived.ProofKit
import Derived.Deep.Slices
import Derived.Deep.Fields
import Derived.OpenShut
import Derived.ChangeSame
import Derived.ShutString
import Derived.ChangeOld
import Derived.Laws.CopyRow
import Derived.Test.YtoniopdkbeogjaaGreatRows
import Derived.KernelRfl
import Derived.Recover
import Derived.Deep.Strs
import Derived.Laws.IdiomStrings
import Derived.Sort.Walk0
import Derived.Sort.EncStr
import Derived.Maps.Keyed
import Derived.DeepKeys4
import Derived.Carry
import Derived.Laws.IdiomCopy
import Derived.Lib.AppendZerosOnto
set_option maxRecDepth 100000
set_option linter.unusedVariables false
set_option linter.unusedSimpArgs false
set_option maxHeartbeats 8000000
namespace Go.Proofs.YtoniopdkbeogjaaGreat
theorem au {p : Prop} (h : p := by first | rfl | assumption | exact decide_eq_true (by assumption) | exact decide_eq_false (by assumption) | decide | (simp; done) | (simp; omega) | (simp [*]; done)) : p := h
theorem jo {p : Prop} (h : p := by omega) : p := h
theorem jp {p : Prop} (h : p := by simp) : p := h
theorem jd {p : Prop} (h : p := by decide) : p := h
section
open Go.RowKit
abbrev Env := List (Nat × Value)
def get? : Env → Nat → Option Value
 | [], _ => none
 | (k, v) :: r, t => bif Nat.beq k t then some v else get? r t
def ev? (Γ : Env) : Operand → Option Value
 | .tmp t => get? Γ t
 | .const v => some v
 | .global g => some (.pointer (some ⟨g, 0, none⟩))
 | .func f => some (.func (.func f) #[] #[])
def wV (ρ : Operand → Value) (Γ : Env) : Prop := ∀ x v, ev? Γ x = some v → ρ x = v
structure NF where
 n : Nat
 D : List Deferred
 ro : Option Nat
structure Sat (n : NF) (Γ : Env) (a : Act) : Prop where
 size : a.tmps.size = n.n
 defers : a.defers = n.D
 at_ : ∀ t v, get? Γ t = some v → a.tmps.getD t undef = v
def Sub (Γ : Env) : Env → Prop
 | [] => True
 | (k, v) :: r => get? Γ k = some v ∧ Sub Γ r
section
variable {n : NF} {Γ Γ' : Env} {a : Act}
theorem Sat.fits (h : Sat n Γ a) : wV a.eval Γ := by
 intro x v hx
 cases x with
 | tmp t => exact h.at_ t v hx
 | const u => simp only [ev?, Option.some.injEq] at hx; subst hx; rfl
 | global g => simp only [ev?, Option.some.injEq] at hx; subst hx; rfl
 | func f => simp only [ev?, Option.some.injEq] at hx; subst hx; rfl
theorem Sat.put (h : Sat n Γ a) {d : Nat} (hd : Nat.blt d n.n = true) (v : Value) : Sat n ((d, v) :: Γ) (a.put (some d) v) := by
 refine ⟨by simpa [Act.put] using h.size, by simpa [Act.put] using h.defers, ?_⟩
 intro t u ht
 have hd' : d < n.n := by simpa [Nat.blt_eq] using hd
 have hs := h.size
 by_cases e : d = t
 ·
  subst e
  simp only [get?, Nat.beq_refl, cond_true, Option.some.injEq] at ht
  subst ht
  simp [Act.put, Array.getD, hs, hd']
 have e' : Nat.beq d t = false := by
  cases hb : Nat.beq d t with
  | false => rfl
  | true => exact absurd (Nat.eq_of_beq_eq_true hb) e
 simp only [get?, e', cond_false] at ht
 have := h.at_ t u ht
 simp only [Act.put, Array.getD_eq_getD_getElem?] at this ⊢
 rw [Array.getElem?_setIfInBounds]
 rw [if_neg e]
 exact this
theorem Sub.get (h : Sub Γ Γ') : ∀ t v, get? Γ' t = some v → get? Γ t = some v := by
 induction Γ' with
 | nil => intro t v ht; simp [get?] at ht
 | cons p r ih =>
  obtain ⟨k, u⟩ := p
  intro t v ht
  simp only [get?] at ht
  cases hb : Nat.beq k t with
  | true =>
   rw [hb] at ht
   simp only [cond_true, Option.some.injEq] at ht
   subst ht
   have := Nat.eq_of_beq_eq_true hb
   subst this
   exact h.1
  | false =>
   rw [hb] at ht
   exact ih h.2 t v ht
theorem Sat.sub (h : Sat n Γ a) (hs : Sub Γ Γ') : Sat n Γ' a := ⟨h.size, h.defers, fun t v ht => h.at_ t v (hs.get t v ht)⟩
end
def mW (n : NF) (Q : Exit → Env → World → Prop) (e : Exit) (a : Act) (w : World) : Prop := ∃ Γ, Sat n Γ a ∧ Q e Γ w
def wd (ro : Option Nat) : Fence := { Fence.wide with round := ro }
theorem nD {ro : Option Nat} {m : Nat} {P : Program} {f : FuncId} {args : Array Value} {w : World} {R : Ending → World → Prop} : CallsIn (wd ro) m P f args w R ↔ Calls P f args w R :=
 (Iff.rfl : CallsIn (wd ro) m P f args w R ↔ CallsIn Fence.wide m P f args w R).trans callsIn_wide
theorem eL {ro : Option Nat} {P : Program} {o : Oper} {w : World} {ρ : Operand → Value} : ∀ f, o.about P w ρ = some f → (wd ro).fn f := fun _ _ => trivial
theorem gT {ro : Option Nat} {P : Program} {o : Oper} {ρ : Operand → Value} {w w' : World} {r : Next} (h : (execOp ρ o).run P w = .ok r w') (hr : ∀ d, r ≠ .defer d) : (o.semAt ro ρ).run P w = .ok r w' := by
 cases ho : o.op with
 | defer c =>
  exfalso
  simp only [execOp, ho, Sem.run_bind] at h
  cases hx : (resolve ρ c o.type).run P w with
  | ok d w1 =>
   rw [hx] at h
   simp at h
   exact hr d h.1.symm
  | halt x w1 => rw [hx] at h; simp at h
 | _ => rw [Oper.semAt_eq]; exact h; intro c; rw [ho]; simp
def VC (P : Program) (n : NF) (c : Code) (Γ : Env) (w : World) (Q : Exit → Env → World → Prop) : Prop := ∀ a, Sat n Γ a → ∀ m, c.wpIn (wd n.ro) m P (mW n Q) a w
def Ops (P : Program) (n : NF) (ops : Array Oper) (l : List Oper) (Γ : Env) (w : World) (Q : Exit → Env → World → Prop) : Prop :=
 ∀ a, Sat n Γ a → ∀ m, wpListIn (wd n.ro) m P ops (mW n Q) l a w
def lR (K : Env → World → Prop) (Q : Exit → Env → World → Prop) : Exit → Env → World → Prop
 | .normal, Γ, w => K Γ w
 | e, Γ, w => Q e Γ w
def lS (id : Nat) (Q : Exit → Env → World → Prop) : Exit → Env → World → Prop
 | .exit i, Γ, w => if i = id then Q .normal Γ w else Q (.exit i) Γ w
 | e, Γ, w => Q e Γ w
section
variable {P : Program} {n : NF} {Γ Γ' : Env} {w : World} {Q Q' : Exit → Env → World → Prop}
theorem qV0 (h : ∀ e Γ w, Q e Γ w → Q' e Γ w) (e : Exit) (a : Act) (w : World) (hq : mW n Q e a w) : mW n Q' e a w :=
 let ⟨Γ, hs, q⟩ := hq; ⟨Γ, hs, h _ _ _ q⟩
theorem VC.mono {c : Code} (h : VC P n c Γ w Q) (hq : ∀ e Γ w, Q e Γ w → Q' e Γ w) : VC P n c Γ w Q' :=
 fun a hs m => wpIn_mono (h a hs m) (qV0 hq)
theorem VC.sub {c : Code} (Γ' : Env) (hs : Sub Γ Γ') (h : VC P n c Γ' w Q) : VC P n c Γ w Q := fun a ha => h a (ha.sub hs)
theorem VC.seq {x y : Code} (h : VC P n x Γ w (lR (fun Γ' w' => VC P n y Γ' w' Q) Q)) : VC P n (.seq x y) Γ w Q := by
 intro a hs m
 refine wpIn_seq (wpIn_mono (h a hs m) ?_)
 intro e a' w' hq
 obtain ⟨Γ', hs', q⟩ := hq
 cases e with
 | normal => exact q a' hs' m
 | exit id => exact ⟨Γ', hs', q⟩
 | goto l => exact ⟨Γ', hs', q⟩
 | ret => exact ⟨Γ', hs', q⟩
 | panic c => exact ⟨Γ', hs', q⟩
 | outgrown => exact ⟨Γ', hs', q⟩
theorem VC.skip (h : Q .normal Γ w) : VC P n .skip Γ w Q := fun _ hs _ => wpIn_skip ⟨Γ, hs, h⟩
theorem VC.ret (h : Q .ret Γ w) : VC P n .ret Γ w Q := fun _ hs _ => wpIn_ret ⟨Γ, hs, h⟩
theorem VC.exit {id : Nat} (h : Q (.exit id) Γ w) : VC P n (.exit id) Γ w Q := fun _ hs _ => wpIn_exit ⟨Γ, hs, h⟩
theorem VC.condB {c : Operand} {x y : Code} {b : Bool} (hc : ev? Γ c = some (.bool b)) (ht : b = true → VC P n x Γ w Q) (hf : b = false → VC P n y Γ w Q) :
  VC P n (.cond c x y) Γ w Q := by
 intro a hs m
 have e := hs.fits _ _ hc
 exact wpIn_cond_split e (fun h => ht h a hs m) (fun h => hf h a hs m)
theorem VC.condT {c : Operand} {x y : Code} {b : Bool} (hc : ev? Γ c = some (.bool b)) (hb : b = true) (h : VC P n x Γ w Q) : VC P n (.cond c x y) Γ w Q :=
 VC.condB hc (fun _ => h) (fun e => by rw [hb] at e; cases e)
theorem VC.condF {c : Operand} {x y : Code} {b : Bool} (hc : ev? Γ c = some (.bool b)) (hb : b = false) (h : VC P n y Γ w Q) : VC P n (.cond c x y) Γ w Q :=
 VC.condB hc (fun e => by rw [hb] at e; cases e) (fun _ => h)
theorem VC.condD {c : Operand} {x y : Code} {p : Prop} [Decidable p] (hc : ev? Γ c = some (.bool (decide p))) (ht : p → VC P n x Γ w Q) (hf : ¬ p → VC P n y Γ w Q) :
  VC P n (.cond c x y) Γ w Q :=
 VC.condB hc (fun e => ht (of_decide_eq_true e)) (fun e => hf (of_decide_eq_false e))
theorem VC.block {id : Nat} {c : Code} (h : VC P n c Γ w (lS id Q)) : VC P n (.block id c) Γ w Q := by
 intro a hs m
 refine wpIn_block (wpIn_mono (h a hs m) ?_)
 intro e a' w' hq
 obtain ⟨Γ', hs', q⟩ := hq
 cases e with
 | normal => exact ⟨Γ', hs', q⟩
 | exit i =>
  simp only [lS] at q
  by_cases hi : i = id
  · rw [if_pos hi] at q; simp only [Exit.inBlock, hi, if_true]; exact ⟨Γ', hs', q⟩
  rw [if_neg hi] at q; simp only [Exit.inBlock, hi, if_false]; exact ⟨Γ', hs', q⟩
 | goto l => exact ⟨Γ', hs', q⟩
 | ret => exact ⟨Γ', hs', q⟩
 | panic c => exact ⟨Γ', hs', q⟩
 | outgrown => exact ⟨Γ', hs', q⟩
theorem VC.loop {σ : Type} {c : Code} (env : σ → Env) (inv : σ → World → Prop) (μ : σ → Nat) (s0 : σ) (hs0 : Sub Γ (env s0)) (h0 : inv s0 w)
  (round : ∀ s w, inv s w → VC P n c (env s) w (lR (fun Γ' w' => ∃ s', Sub Γ' (env s') ∧ inv s' w' ∧ μ s' < μ s) Q)) : VC P n (.loop c) Γ w Q := by
 intro a hs m0
 refine wpIn_loop_ghost (fun m a w => ∃ s, μ s = m ∧ Sat n (env s) a ∧ inv s w) (μ s0) ⟨s0, rfl, hs.sub hs0, h0⟩ ?_
 rintro m a w ⟨s, rfl, hsa, hi⟩
 refine wpIn_mono (round s w hi a hsa m0) ?_
 intro e a' w' hq
 obtain ⟨Γ', hs', q⟩ := hq
 cases e with
 | normal =>
  obtain ⟨s', hsub, hinv, hlt⟩ := q
  exact ⟨μ s', hlt, s', rfl, hs'.sub hsub, hinv⟩
 | exit id => exact ⟨Γ', hs', q⟩
 | goto l => exact ⟨Γ', hs', q⟩
 | ret => exact ⟨Γ', hs', q⟩
 | panic c => exact ⟨Γ', hs', q⟩
 | outgrown => exact ⟨Γ', hs', q⟩
theorem VC.region {id : Nat} {l : List Oper} (h : Ops P n l.toArray l Γ w Q) : VC P n (.region id l.toArray false) Γ w Q := fun a hs m => wpIn_region_lit (h a hs m)
theorem Ops.nil {ops : Array Oper} (h : Q .normal Γ w) : Ops P n ops [] Γ w Q := fun _ hs _ => wpListIn_nil ⟨Γ, hs, h⟩
def Run (P : Program) (o : Oper) (Γ : Env) (w : World) (v : Value) : Prop := ∀ ρ, wV ρ Γ → (execOp ρ o).run P w = .ok (.value v) w
def qV (P : Program) (o : Oper) (Γ : Env) (w : World) (R : Value → World → Prop) : Prop := ∀ ρ, wV ρ Γ → ∃ v w', (execOp ρ o).run P w = .ok (.value v) w' ∧ R v w'
def qT (P : Program) (o : Oper) (Γ : Env) (w : World) (R : World → Prop) : Prop := ∀ ρ, wV ρ Γ → ∃ w', (execOp ρ o).run P w = .ok .skip w' ∧ R w'
def cM (P : Program) (o : Oper) (Γ : Env) (w : World) (f : FuncId) (args : Array Value) : Prop := ∀ ρ, wV ρ Γ → (execOp ρ o).run P w = .ok (.enter f args) w
def yi (ops : Array Oper) (Γ : Env) (j : Nat) : Option Value := ((ops[j]?).bind (·.dst)).bind (get? Γ)
theorem uO {ops : Array Oper} {j : Nat} {b : Bool} {a : Act} (hs : Sat n Γ a) (h : yi ops Γ j = some (.bool b)) : yielded ops a.tmps j = some b := by
 unfold yi at h
 unfold yielded
 cases hd : (ops[j]?).bind (·.dst) with
 | none => rw [hd] at h; simp at h
 | some t =>
  rw [hd] at h
  simp only [Option.bind_some] at h ⊢
  have := hs.at_ t _ h
  rw [Array.getD_eq_getD_getElem?] at this
  cases hg : a.tmps[t]? with
  | none => rw [hg] at this; simp [undef] at this
  | some u => rw [hg] at this; simp only [Option.getD_some] at this; subst this; rfl
def Up (ops : Array Oper) (Γ : Env) (g : Option (Nat × Bool)) : Prop :=
 match g with
 | none => True
 | some (j, b) => yi ops Γ j = some (.bool b)
theorem Up.wanted {ops : Array Oper} {o : Oper} {a : Act} (hs : Sat n Γ a) (h : Up ops Γ o.guard) : Region.wanted o (yielded ops a.tmps) = true := by
 unfold Region.wanted
 unfold Up at h
 split
 · rfl
 rename_i j b hg
 rw [hg] at h
 simp only at h
 rw [uO hs h]
 simp
section
variable {ops : Array Oper} {rest : List Oper} {o : Oper}
theorem Ops.of_wp (hup : Up ops Γ o.guard) (h : ∀ a, Sat n Γ a → ∀ m, o.wpIn (wd n.ro) m P a w (wpListIn (wd n.ro) m P ops (mW n Q) rest) (mW n Q)) : Ops P n ops (o :: rest) Γ w Q := by
 intro a hs m
 unfold wpListIn
 rw [if_pos (hup.wanted hs)]
 exact h a hs m
theorem Ops.run {v : Value} (h : Run P o Γ w v) {d : Nat} (hup : Up ops Γ o.guard) (hd : o.dst = some d) (hn : Nat.blt d n.n = true)
  (k : Ops P n ops rest ((d, v) :: Γ) w Q) : Ops P n ops (o :: rest) Γ w Q :=
 Ops.of_wp hup fun a hs m => by
  refine ⟨eL, ?_⟩
  rw [gT (h _ hs.fits) jp, Oper.uponIn_value, hd]
  exact k _ (hs.put hn v) m
theorem Ops.does {R : Value → World → Prop} (h : qV P o Γ w R) {d : Nat} (hup : Up ops Γ o.guard) (hd : o.dst = some d) (hn : Nat.blt d n.n = true)
  (k : ∀ v w', R v w' → Ops P n ops rest ((d, v) :: Γ) w' Q) : Ops P n ops (o :: rest) Γ w Q :=
 Ops.of_wp hup fun a hs m => by
  obtain ⟨v, w', hr, hR⟩ := h _ hs.fits
  refine ⟨eL, ?_⟩
  rw [gT hr jp, Oper.uponIn_value, hd]
  exact k v w' hR _ (hs.put hn v) m
theorem Ops.acts {R : World → Prop} (h : qT P o Γ w R) (hup : Up ops Γ o.guard) (hd : o.dst = none)
  (k : ∀ w', R w' → Ops P n ops rest Γ w' Q) : Ops P n ops (o :: rest) Γ w Q :=
 Ops.of_wp hup fun a hs m => by
  obtain ⟨w', hr, hR⟩ := h _ hs.fits
  refine ⟨eL, ?_⟩
  rw [gT hr jp, Oper.uponIn_skip, hd]
  exact k w' hR _ hs m
theorem Ops.skip {j : Nat} {b c : Bool} (hg : o.guard = some (j, c)) (hy : yi ops Γ j = some (.bool b)) (hbc : b = ! c) {d : Nat} (hd : o.dst = some d) (hn : Nat.blt d n.n = true)
  (k : Ops P n ops rest ((d, undef) :: Γ) w Q) : Ops P n ops (o :: rest) Γ w Q := by
 intro a hs m
 unfold wpListIn
 have hw : Region.wanted o (yielded ops a.tmps) = false := by
  unfold Region.wanted
  rw [hg]
  simp only
  rw [uO hs hy, hbc]
  cases c <;> rfl
 rw [hw, hd]
 simp only [Bool.false_eq_true, if_false]
 exact ⟨eL, k _ (hs.put hn undef) m⟩
theorem Ops.call {f : FuncId} {args : Array Value} {R : Ending → World → Prop} (he : cM P o Γ w f args) (hc : Calls P f args w R) {d : Nat} (hup : Up ops Γ o.guard) (hd : o.dst = some d) (hn : Nat.blt d n.n = true)
  (k : ∀ e w', R e w' → ∃ v, e = .returned v ∧ Ops P n ops rest ((d, v) :: Γ) w' Q) : Ops P n ops (o :: rest) Γ w Q :=
 Ops.of_wp hup fun a hs m => by
  refine ⟨eL, ?_⟩
  rw [gT (he _ hs.fits) jp, Oper.uponIn_enter, hd]
  refine ⟨fun h => by simp [wd, Fence.wide] at h, nD.2 (hc.mono ?_)⟩
  intro e w' hR
  obtain ⟨v, rfl, hk⟩ := k e w' hR
  exact hk _ (hs.put hn v) m
end
def kZ (ops : Array Oper) : Bool := ops.all fun o => match o.op with | .defer _ => false | _ => true
theorem qKu {ops : Array Oper} (h : kZ ops = true) {i : Nat} {o : Oper} (hi : ops[i]? = some o) : ∀ c, o.op ≠ .defer c := by
 intro c hc
 unfold kZ at h
 rw [Array.all_eq_true'] at h
 obtain ⟨hlt, rfl⟩ := Array.getElem?_eq_some_iff.1 hi
 have := h ops[i] (Array.getElem_mem hlt)
 rw [hc] at this
 cases this
theorem qV1 {ro : Option Nat} {m : Nat} {row : String} {args : Array Value} {R : Value → World → Prop} (h : Rows P row args w R) : RowsIn (wd ro) m P row args w R := fun c cs _ =>
 let ⟨v, w', r, s⟩ := h c cs; ⟨v, w', r, stepsIn_wide.2 s⟩
theorem Oper.wp_in {ro : Option Nat} {m : Nat} {o : Oper} {a : Act} {K K' : Act → World → Prop} {QQ : Exit → Act → World → Prop} (hnd : ro = none ∨ ∀ c, o.op ≠ .defer c) (hK : ∀ a w, K a w → K' a w) (h : o.wp P a w K QQ) : o.wpIn (wd ro) m P a w K' QQ := by
 refine ⟨eL, ?_⟩
 have e : o.semAt (wd ro).round a.eval = execOp a.eval o := by
  rcases hnd with h | h
  · subst h; rfl
  exact Oper.semAt_eq _ _ _ h
 rw [e]
 unfold Oper.wp at h
 cases hr : (execOp a.eval o).run P w with
 | ok r w' =>
  rw [hr] at h
  cases r with
  | value v => exact hK _ _ h
  | skip => exact hK _ _ h
  | defer d => exact hK _ _ h
  | enter f args =>
   rw [Oper.uponIn_enter]
   rw [Oper.upon_enter] at h
   refine ⟨fun h => by simp [wd, Fence.wide] at h, nD.2 (h.mono ?_)⟩
   intro e w' he
   cases e with
   | returned v => exact hK _ _ he
   | panicked c => exact he
   | outgrown => exact he
  | row row args =>
   rw [Oper.uponIn_row]
   rw [Oper.upon_row] at h
   exact ⟨fun h => by simp [wd, Fence.wide] at h, qV1 (h.mono fun v w' he => hK _ _ he)⟩
  | _ => exact h.elim
 | halt x w' =>
  rw [hr] at h
  cases x with
  | panic v => exact h
  | _ => exact h.elim
theorem qJy {ro : Option Nat} {m : Nat} {ops : Array Oper} {i : Nat} {a : Act} {K K' : Act → World → Prop} {QQ : Exit → Act → World → Prop} (hnd : ro = none ∨ kZ ops = true) (hL : ¬ LetsOut QQ) (hK : ∀ a w, K a w → K' a w) (h : wpOp P ops QQ i K a w) : wpOpIn (wd ro) m P ops QQ i K' a w := by
 unfold wpOp at h
 unfold wpOpIn
 cases ho : ops[i]? with
 | none => rw [ho] at h; exact hK _ _ h
 | some o =>
  rw [ho] at h
  dsimp only at h ⊢
  split
  ·
   rename_i hw
   rw [if_pos hw] at h
   rcases h with h | ⟨_, h⟩
   · exact Oper.wp_in (hnd.imp id fun h => qKu h ho) hK h
   exact absurd h hL
  rename_i hw
  rw [if_neg hw] at h
  exact ⟨eL, hK _ _ h⟩
theorem wW {ro : Option Nat} {m : Nat} {ops : Array Oper} {QQ : Exit → Act → World → Prop} (hnd : ro = none ∨ kZ ops = true) (hL : ¬ LetsOut QQ) : ∀ (f : Nat) (listed : Array Bool) (a : Act) (w : World), wpAny P .any ops QQ f listed a w → wpAnyIn (wd ro) m P .any ops QQ f listed a w
 | 0, _, _, _, h => h
 | f + 1, listed, a, w, h => ⟨h.1, fun i hi => qJy hnd hL (fun a w h => wW hnd hL f _ a w h) (h.2 i hi)⟩
theorem rB {ro : Option Nat} {m : Nat} {ops : Array Oper} {QQ : Exit → Act → World → Prop} : ∀ (l : List Oper) (k : Nat) (listed : Array Bool) (a : Act) (w : World), (∀ j, l[j]? = ops[k + j]?) →
  Region.seqB .any ops l.length k listed = true → wpListIn (wd ro) m P ops QQ l a w → wpAnyIn (wd ro) m P .any ops QQ l.length listed a w
 | [], _, _, _, _, _, hB, h => ⟨by simpa [Region.seqB] using hB, h⟩
 | o :: l, k, listed, a, w, hl, hB, h => by
  have h0 : ops[k]? = some o := by simpa using (hl 0).symm
  simp only [List.length_cons, Region.seqB, Bool.and_eq_true, decide_eq_true_eq] at hB
  refine ⟨fun h1 => (by rw [hB.1] at h1; cases h1), fun i hi => ?_⟩
  rw [hB.1] at hi
  have hik : i = k := by simpa using hi
  subst hik
  have hw : wpOpIn (wd ro) m P ops QQ i (wpListIn (wd ro) m P ops QQ l) a w := by unfold wpOpIn; simp only [h0]; exact h
  exact wpOpIn_mono (fun a' w' h' => rB l (i + 1) _ a' w' (fun j => by have := hl (j + 1); simpa [Nat.add_assoc, Nat.add_comm 1 j] using this) hB.2 h') hw
theorem LetsOut.mono {Q Q' : Exit → Act → World → Prop} (h : ∀ e a w, Q e a w → Q' e a w) (hl : LetsOut Q) : LetsOut Q' := let ⟨a, w, q⟩ := hl; ⟨a, w, h _ _ _ q⟩
theorem qZ3 {F : Fence} {m : Nat} {ops : Array Oper} {Q Q' : Exit → Act → World → Prop} {i : Nat} {K : Act → World → Prop} {a : Act} {w : World} (h : ∀ e a w, Q e a w → Q' e a w) (hh : wpOpIn F m P ops Q i K a w) : wpOpIn F m P ops Q' i K a w := by
 unfold wpOpIn at *
 split
 · simpa [*] using hh
 rename_i o ho
 simp only [ho] at hh
 split
 ·
  rename_i hw
  simp only [hw, if_true] at hh
  unfold Oper.wpIn at *
  refine ⟨hh.1, ?_⟩
  have hh := hh.2
  generalize (o.semAt F.round a.eval).run P w = r at *
  cases r with
  | ok x w' =>
   cases x <;> simp only [Oper.uponIn] at hh ⊢ <;>
    first
     | exact hh
     | exact ⟨hh.1, CallsIn.mono hh.2 (fun e w'' he => by cases e <;> first | exact he | exact h _ _ _ he | exact LetsOut.mono h he)⟩
     | exact ⟨hh.1, RoundIn.mono hh.2 (fun e w'' he => by cases e <;> first | exact he | exact h _ _ _ he | exact LetsOut.mono h he)⟩
  | halt x w' => cases x <;> simp only [Oper.uponIn] at hh ⊢ <;> first | exact hh | exact h _ _ _ hh
 rename_i hw; simp only [hw] at hh; exact hh
theorem pV {ro : Option Nat} {m : Nat} {ops : Array Oper} {QQ : Exit → Act → World → Prop} {n g : Nat} {L : Array Bool → Act → Prop} (hnd : ro = none ∨ kZ ops = true) (hL : ∀ listed a, L listed a → wpAnyIn (wd ro) m P .any ops QQ g listed a w) :
  ∀ (f : Nat) (listed : Array Bool) (a : Act), wpAnyL P .any ops w n L f listed a → wpAnyIn (wd ro) m P .any ops QQ (f + g) listed a w
 | 0, listed, a, h => by rw [Nat.zero_add]; exact hL _ _ h
 | f + 1, listed, a, h => by
  rw [show f + 1 + g = (f + g) + 1 by omega]
  refine ⟨fun h0 => absurd h0 h.1, fun i hi => ?_⟩
  have h2 := wpOp_of_stOp (Q' := fun _ _ _ => False) (K' := fun a' w' => w' = w ∧ wpAnyL P .any ops w n L f (listed.setIfInBounds i true) a') (fun a' h' => ⟨rfl, h'⟩) (h.2 i hi).2
  have h3 := qJy (ro := ro) (m := m) (K' := fun a' w' => wpAnyIn (wd ro) m P .any ops QQ (f + g) (listed.setIfInBounds i true) a' w') hnd (fun ⟨_, _, h⟩ => h) (fun a' w' h' => by rw [h'.1]; exact pV hnd hL f _ a' h'.2) h2
  exact qZ3 (fun e a w h => h.elim) h3
def qP (w w' : World) : Prop := ∃ m, w' = w.drewN m
section
variable {ops : Array Oper} {rest : List Oper} {o : Oper} {K : Env → Prop}
end
def bJ (P : Program) (n : NF) (ops : Array Oper) (l : List Oper) (Γ : Env) (w : World) (K : Env → Prop) : Prop :=
 ∀ a, Sat n Γ a → wpStill P ops w (fun a' => ∃ Γ', Sat n Γ' a' ∧ K Γ') l a
section
variable {ops : Array Oper} {rest : List Oper} {o : Oper} {K : Env → Prop}
theorem lT {K K' : Act → Prop} (h : ∀ a, K a → K' a) : ∀ (l : List Oper) (a : Act), wpStill P ops w K l a → wpStill P ops w K' l a
 | [], a, hq => h a hq
 | o :: l, a, hq => by
  unfold wpStill at hq ⊢
  split
  · rename_i hw; rw [if_pos hw] at hq; exact Oper.still_mono (fun a => lT h l a) hq
  rename_i hw; rw [if_neg hw] at hq; exact lT h l _ hq
theorem bJ.nil (h : K Γ) : bJ P n ops [] Γ w K := fun _ hs => wpStill_nil ⟨Γ, hs, h⟩
theorem bJ.of_still (hup : Up ops Γ o.guard) (h : ∀ a, Sat n Γ a → o.still P a w (wpStill P ops w (fun a' => ∃ Γ', Sat n Γ' a' ∧ K Γ') rest)) : bJ P n ops (o :: rest) Γ w K := by
 intro a hs
 unfold wpStill
 rw [if_pos (hup.wanted hs)]
 exact h a hs
theorem bJ.run {v : Value} (h : Run P o Γ w v) {d : Nat} (hup : Up ops Γ o.guard) (hd : o.dst = some d) (hn : Nat.blt d n.n = true)
  (k : bJ P n ops rest ((d, v) :: Γ) w K) : bJ P n ops (o :: rest) Γ w K :=
 bJ.of_still hup fun a hs => by
  unfold Oper.still
  rw [h _ hs.fits, Oper.stillUpon_value, hd]
  exact k _ (hs.put hn v)
end
theorem VC.tail {id : Nat} {l : List Oper} (N : Nat) (hm : P.follows .mixedOrders = true) (hB : Region.lexTailB .any l.toArray N = true)
  (h : bJ P n l.toArray (l.take N) Γ w.drew (fun Γ' => Ops P n l.toArray (l.drop N) Γ' w.drew Q)) (hnd : n.ro = none ∨ kZ l.toArray = true := by first | exact .inl rfl | exact .inr (by kernel_rfl)) : VC P n (.region id l.toArray true) Γ w Q := by
 intro a hs m
 have h1 := lT (K' := fun a' => wpListIn (wd n.ro) m P l.toArray (mW n Q) (l.drop N) a' w.drew) (fun a' ⟨Γ', hs', hk⟩ => hk a' hs' m) _ a (h a hs)
 simp only [Region.lexTailB, Bool.and_eq_true, decide_eq_true_eq] at hB
 obtain ⟨⟨⟨⟨hsel, hn⟩, hsk⟩, hc⟩, hlex⟩ := hB
 have htl : (l.take N).length = N := by simp; simp at hn; omega
 have hdl : (l.drop N).length = l.toArray.size - N := jp
 have inv0 : HeadInv .any l.toArray N (Array.replicate l.toArray.size false) :=
  ⟨jp, fun j oj _ hl => (by rw [getD_replicate_false] at hl; cases hl), fun t _ ht => getD_in (by simpa using ht) (getD_replicate_false _ _)⟩
 have H := wpAnyL_lex (md := .any) (g := l.toArray.size - N) hsel hsk hc hn (l.take N) 0 _ a (fun j hj => by
  have hj' : j < N := by rw [htl] at hj; exact hj
  simp [hj']) (by simpa using htl) inv0 (by rw [htl]; exact hlex) h1
 refine wpIn_region_any hm ?_
 have := pV (QQ := mW n Q) (g := l.toArray.size - N) hnd (fun listed a' hL => by
  have := rB (QQ := mW n Q) (l.drop N) N listed a' w.drew (fun j => by simp [List.getElem?_drop]) (by rw [hdl]; exact hL.1) hL.2
  rwa [hdl] at this) _ _ _ H
 rw [htl, show N + (l.toArray.size - N) = l.toArray.size by simp at hn ⊢; omega] at this
 exact this
theorem VC.still {id : Nat} {l : List Oper} (hm : P.follows .mixedOrders = true) (hB : Region.lexB .any l.toArray = true)
  (h : bJ P n l.toArray l Γ w.drew (fun Γ' => Q .normal Γ' w.drew)) (hnd : n.ro = none ∨ kZ l.toArray = true := by first | exact .inl rfl | exact .inr (by kernel_rfl)) : VC P n (.region id l.toArray true) Γ w Q := by
 intro a hs m
 have h1 := lT (K' := fun a' => mW n Q .normal a' w.drew) (fun a' ⟨Γ', hs', hk⟩ => ⟨Γ', hs', hk⟩) _ a (h a hs)
 simp only [Region.lexB, Bool.and_eq_true] at hB
 refine wpIn_mono (Q := fun e a w => e = .normal ∧ mW n Q .normal a w) (wpIn_region_any hm (wW (QQ := fun e a w => e = .normal ∧ mW n Q .normal a w) hnd (fun ⟨_, _, h⟩ => by cases h.1) _ _ _ _
  (wpAny_of_still (w := w.drew) (Q := fun a' => mW n Q .normal a' w.drew) (fun _ h => ⟨rfl, h⟩) _ _ _ ?_))) (fun e a w h => by rw [h.1]; exact h.2)
 have := wpAnyS_lex (md := .any) hB.1 l.toArray.toList 0 (Array.replicate l.toArray.size false) a jp (by simpa using hB.2) (by simpa using h1)
 simpa using this
def qKv (tmps : Array Value) : ResultVar → Sem Value
 | .tmp t => pure (tmps.getD t undef)
 | .cell a t => do loadVar t (← asAddr (tmps.getD a undef))
def qKw : List Value → Value
 | [v] => v
 | l => .tuple l.toArray
theorem qKx (fn : Func) (tmps : Array Value) : results fn tmps = (do let vs ← fn.results.mapM (qKv tmps); pure (if h : vs.size = 1 then vs[0] else .tuple vs)) := by
 unfold results
 congr 1
def kI (P : Program) : List ResultVar → Env → World → (List Value → Prop) → Prop
 | [], _, _, K => K []
 | .tmp t :: r, Γ, w, K => ∃ v, get? Γ t = some v ∧ kI P r Γ w fun vs => K (v :: vs)
 | .cell t T :: r, Γ, w, K => ∃ a v, get? Γ t = some (.pointer (some a)) ∧ (loadVar T a).run P w = .ok v w ∧ kI P r Γ w fun vs => K (v :: vs)
theorem wY {P : Program} {n : NF} {Γ : Env} {a : Act} {w : World} (hs : Sat n Γ a) : ∀ (l : List ResultVar) (K : List Value → Prop), kI P l Γ w K → ∃ vs, (l.mapM (qKv a.tmps)).run P w = .ok vs w ∧ K vs
 | [], K, h => ⟨[], jp, h⟩
 | .tmp t :: r, K, h => by
  obtain ⟨v, h1, h2⟩ := h
  obtain ⟨vs, h3, h4⟩ := wY hs r _ h2
  have h5 := hs.at_ t v h1
  refine ⟨v :: vs, ?_, h4⟩
  rw [List.mapM_cons]
  simp [qKv, h3]
  simpa using h5
 | .cell t T :: r, K, h => by
  obtain ⟨p, v, h1, h2, h3⟩ := h
  obtain ⟨vs, h4, h5⟩ := wY hs r _ h3
  have h6 := hs.at_ t _ h1
  refine ⟨v :: vs, ?_, h5⟩
  have h7 : (asAddr (.pointer (some p))).run P w = .ok p w := rfl
  rw [List.mapM_cons]
  simp [qKv, h4, h6, h2, h7]
theorem tM {P : Program} {n : NF} {Γ : Env} {a : Act} {w : World} (hs : Sat n Γ a) {fn : Func} {res : Array ResultVar} (hr : fn.results = res) {K : List Value → Prop} (h : kI P res.toList Γ w K) : ∃ vs, (results fn a.tmps).run P w = .ok (qKw vs) w ∧ K vs := by
 obtain ⟨vs, h1, h2⟩ := wY hs _ K h
 refine ⟨vs, ?_, h2⟩
 rw [qKx, hr, Array.mapM_eq_mapM_toList]
 simp [h1]
 match vs with
 | [] => rfl
 | [v] => rfl
 | v :: u :: r => simp [qKw]
def nU (P : Program) (res : Array ResultVar) (R : Ending → World → Prop) : Exit → Env → World → Prop
 | .normal, Γ, w | .ret, Γ, w => kI P res.toList Γ w fun vs => R (.returned (qKw vs)) w
 | .panic ch, _, w => R (.panicked ch) w
 | _, _, _ => False
def argEnv : Nat → List Value → Env
 | _, [] => []
 | k, v :: r => (k, v) :: argEnv (k + 1) r
theorem xM (l : List Value) : ∀ (k t : Nat) (v : Value), get? (argEnv k l) t = some v → k ≤ t ∧ l[t - k]? = some v := by
 induction l with
 | nil => intro k t v h; simp [argEnv, get?] at h
 | cons u r ih =>
  intro k t v h
  simp only [argEnv, get?] at h
  cases hb : Nat.beq k t with
  | true =>
   rw [hb] at h
   simp only [cond_true, Option.some.injEq] at h
   have := Nat.eq_of_beq_eq_true hb
   subst this
   subst h
   simp
  | false =>
   rw [hb] at h
   obtain ⟨h1, h2⟩ := ih (k + 1) t v h
   refine ⟨jo, ?_⟩
   have e : t - k = (t - (k + 1)) + 1 := jo
   rw [e, List.getElem?_cons_succ]
   exact h2
theorem VC.calls {f : FuncId} {fn : Func} {c : Code} {args : List Value} {w : World} {R : Ending → World → Prop} {nt : Nat} {res : Array ResultVar}
  (hf : P.funcs[f]? = some fn) (hb : fn.body = some c) (hn : fn.ntmps = nt) (hr : fn.results = res) (hl0 : Nat.ble args.length nt = true)
  (h : VC P ⟨nt, [], none⟩ c (argEnv 0 args) w (nU P res R)) : Calls P f args.toArray w R := by
 have hl : args.length ≤ nt := Nat.le_of_ble_eq_true hl0
 refine calls_of_wp hf hb ?_
 refine wpIn_wide.1 (wpIn_mono (h _ ?_ 0) ?_)
 ·
  refine ⟨?_, rfl, ?_⟩
  ·
   simp only [Array.size_append, List.size_toArray, Array.size_replicate, hn]
   omega
  intro t v ht
  obtain ⟨_, h2⟩ := xM args 0 t v ht
  simp only [Nat.sub_zero] at h2
  have hlt : t < args.length := (List.getElem?_eq_some_iff.1 h2).1
  rw [Array.getD_eq_getD_getElem?, Array.getElem?_append_left (by simpa using hlt)]
  simp [h2]
 intro e a w hq
 obtain ⟨Γ, hs, q⟩ := hq
 have key : ∀ (Γ : Env), Sat ⟨nt, [], none⟩ Γ a → nU P res R .ret Γ w → ∃ v, (results fn a.tmps).run P w = .ok v w ∧ R (.returned v) w := by
  intro Γ hs q
  simp only [nU] at q
  obtain ⟨vs, h1, h2⟩ := tM hs hr q
  exact ⟨_, h1, h2⟩
 cases e with
 | normal => obtain ⟨v, h1, h2⟩ := key Γ hs q; exact ⟨hs.defers, v, h1, h2⟩
 | ret => obtain ⟨v, h1, h2⟩ := key Γ hs q; exact ⟨hs.defers, v, h1, h2⟩
 | panic ch => exact ⟨hs.defers, q⟩
 | exit id => exact q.elim
 | goto l => exact q.elim
 | outgrown => exact q.elim
end
def Bin (op : BinOp) (k : IntKind) (x : Int) (k' : IntKind) (y : Int) (v : Value) : Prop := ∀ (P : Program) (T : TypeId) (w : World), (binOp op T (.int k x) (.int k' y)).run P w = .ok v w
def bmax (k : IntKind) : Nat := match k with | .i8 => 127 | .i16 => 32767 | .i32 => 2147483647 | .i64 => 9223372036854775807 | .u8 => 255 | .u16 => 65535 | .u32 => 4294967295 | .u64 => 18446744073709551615
def qQ8 (k : IntKind) : Int := match k with | .i8 => -128 | .i16 => -32768 | .i32 => -2147483648 | .i64 => -9223372036854775808 | _ => 0
theorem wG (k : IntKind) (x : Int) (h1 : qQ8 k ≤ x) (h2 : x ≤ (bmax k : Int)) : k.wrap x = x := by
 cases k <;> simp only [qQ8, bmax] at h1 h2
 · exact IntWalk.i8_in _ ⟨h1, jo⟩
 · exact IntWalk.i16_in _ ⟨h1, jo⟩
 · exact IntWalk.i32_in _ ⟨h1, jo⟩
 · exact IntWalk.i64_in _ ⟨h1, jo⟩
 · exact IntWalk.u8_in _ ⟨h1, jo⟩
 · exact IntWalk.u16_in _ ⟨h1, jo⟩
 · exact IntWalk.u32_in _ ⟨h1, jo⟩
 exact IntWalk.u64_in _ ⟨h1, jo⟩
theorem fI (k : IntKind) (x : Nat) (h : x ≤ bmax k) : k.wrap (x : Int) = x := wG k x (by cases k <;> simp only [qQ8] <;> omega) (by exact_mod_cast h)
theorem qHk (x : Nat) : IntKind.u8.wrap (x : Int) = ((x % 256 : Nat) : Int) := by
 simp only [IntKind.wrap, IntKind.bits, IntKind.signed, Bool.false_and, Bool.false_eq_true, if_false]; omega
theorem qYy (x : Nat) : IntKind.u32.wrap (x : Int) = ((x % 4294967296 : Nat) : Int) := by
 simp only [IntKind.wrap, IntKind.bits, IntKind.signed, Bool.false_and, Bool.false_eq_true, if_false]; omega
section
variable {k : IntKind}
theorem Bin.add (x y : Int) (h1 : qQ8 k ≤ x + y) (h2 : x + y ≤ (bmax k : Int)) : Bin .add k x k y (.int k (x + y)) := fun P T w => by simp [binOp, Op.intArith, wG k _ h1 h2]
theorem Bin.sub (x y : Int) (h1 : qQ8 k ≤ x - y) (h2 : x - y ≤ (bmax k : Int)) : Bin .sub k x k y (.int k (x - y)) := fun P T w => by simp [binOp, Op.intArith, wG k _ h1 h2]
theorem Bin.lss (x y : Int) : Bin .lss k x k y (.bool (decide (x < y))) := fun P T w => by simp [binOp, Op.intCmp]
theorem Bin.gtr (x y : Int) : Bin .gtr k x k y (.bool (decide (y < x))) := fun P T w => by simp [binOp, Op.intCmp]
theorem Bin.geq (x y : Int) : Bin .geq k x k y (.bool (decide (y ≤ x))) := fun P T w => by simp [binOp, Op.intCmp]
theorem Bin.eql (x y : Int) : Bin .eql k x k y (.bool (decide (x = y))) := fun P T w => by simp [binOp, Op.intCmp]; rfl
theorem Bin.neq (x y : Int) : Bin .neq k x k y (.bool (decide (x ≠ y))) := fun P T w => by
 simp only [binOp, Op.intCmp, ne_eq, not_true_eq_false, if_false]
 show Result.ok (Value.bool (x != y)) w = _
 congr 2
 rw [Bool.eq_iff_iff]; simp
theorem Bin.addN (x y : Nat) (h : x + y ≤ bmax k) : Bin .add k x k y (.int k ((x + y : Nat) : Int)) := fun P T w => by
 have e : ((x : Int) + (y : Int)) = ((x + y : Nat) : Int) := rfl
 simp only [binOp, Op.intArith, ne_eq, not_true_eq_false, if_false, e, fI k _ h]; rfl
theorem Bin.subN (x y : Nat) (hy : y ≤ x) (h : x - y ≤ bmax k) : Bin .sub k x k y (.int k ((x - y : Nat) : Int)) := fun P T w => by
 have e : ((x : Int) - (y : Int)) = ((x - y : Nat) : Int) := (Int.ofNat_sub hy).symm
 simp only [binOp, Op.intArith, ne_eq, not_true_eq_false, if_false, e, fI k _ h]; rfl
theorem Bin.mulN (x y : Nat) (h : x * y ≤ bmax k) : Bin .mul k x k y (.int k ((x * y : Nat) : Int)) := fun P T w => by
 have e : ((x : Int) * (y : Int)) = ((x * y : Nat) : Int) := rfl
 simp only [binOp, Op.intArith, ne_eq, not_true_eq_false, if_false, e, fI k _ h]; rfl
theorem Bin.lssN (x y : Nat) : Bin .lss k x k y (.bool (decide (x < y))) := fun P T w => by simp [binOp, Op.intCmp]
theorem Bin.leqN (x y : Nat) : Bin .leq k x k y (.bool (decide (x ≤ y))) := fun P T w => by simp [binOp, Op.intCmp]
theorem Bin.gtrN (x y : Nat) : Bin .gtr k x k y (.bool (decide (y < x))) := fun P T w => by simp [binOp, Op.intCmp]
theorem Bin.geqN (x y : Nat) : Bin .geq k x k y (.bool (decide (y ≤ x))) := fun P T w => by simp [binOp, Op.intCmp]
theorem Bin.eqlN (x y : Nat) : Bin .eql k x k y (.bool (decide (x = y))) := fun P T w => by
 have := Bin.eql (k := k) x y P T w
 simpa [Int.natCast_inj] using this
theorem Bin.neqN (x y : Nat) : Bin .neq k x k y (.bool (decide (x ≠ y))) := fun P T w => by
 have := Bin.neq (k := k) x y P T w
 simpa [Int.natCast_inj] using this
theorem Bin.quoN (x y : Nat) (hy : y ≠ 0) (h : x / y ≤ bmax k) : Bin .quo k x k y (.int k ((x / y : Nat) : Int)) := fun P T w => by
 have e : ((x : Int).tdiv (y : Int)) = ((x / y : Nat) : Int) := rfl
 have hy' : ¬ ((y : Int) = 0) := jo
 simp only [binOp, Op.intDiv, ne_eq, not_true_eq_false, hy', if_false, e, fI k _ h]; rfl
theorem Bin.remN (x y : Nat) (hy : y ≠ 0) : Bin .rem k x k y (.int k ((x % y : Nat) : Int)) := fun P T w => by
 have e : ((x : Int).tmod (y : Int)) = ((x % y : Nat) : Int) := rfl
 have hy' : ¬ ((y : Int) = 0) := jo
 simp only [binOp, Op.intDiv, ne_eq, not_true_eq_false, hy', if_false, e]; rfl
theorem lZ (n a : Nat) (h : a < 2 ^ n) : (BitVec.ofInt n (a : Int)).toNat = a := by
 rw [BitVec.ofInt_natCast, BitVec.toNat_ofNat]; exact Nat.mod_eq_of_lt h
theorem mY (k : IntKind) (x : Nat) (h : x ≤ bmax k) : x < 2 ^ k.bits := by cases k <;> simp only [bmax, IntKind.bits] at h ⊢ <;> omega
theorem Bin.andN (x y : Nat) (hx : x ≤ bmax k) (hy : y ≤ bmax k) : Bin .and k x k y (.int k ((x &&& y : Nat) : Int)) := fun P T w => by
 have h : x &&& y ≤ bmax k := Nat.le_trans Nat.and_le_left hx
 simp only [binOp, Op.intBits, ne_eq, not_true_eq_false, if_false, BitVec.toNat_and, lZ _ _ (mY k x hx), lZ _ _ (mY k y hy), fI k _ h]
 rfl
theorem qQ9 (k : IntKind) : ∃ m, bmax k + 1 = 2 ^ m := by cases k <;> first | exact ⟨7, rfl⟩ | exact ⟨15, rfl⟩ | exact ⟨31, rfl⟩ | exact ⟨63, rfl⟩ | exact ⟨8, rfl⟩ | exact ⟨16, rfl⟩ | exact ⟨32, rfl⟩ | exact ⟨64, rfl⟩
theorem Bin.orN (x y : Nat) (hx : x ≤ bmax k) (hy : y ≤ bmax k) : Bin .or k x k y (.int k ((x ||| y : Nat) : Int)) := fun P T w => by
 have h : x ||| y ≤ bmax k := by
  obtain ⟨m, hm⟩ := qQ9 k
  have := Nat.or_lt_two_pow (n := m) (x := x) (y := y) jo jo
  omega
 simp only [binOp, Op.intBits, ne_eq, not_true_eq_false, if_false, BitVec.toNat_or, lZ _ _ (mY k x hx), lZ _ _ (mY k y hy), fI k _ h]
 rfl
theorem Bin.xorN (x y : Nat) (hx : x ≤ bmax k) (hy : y ≤ bmax k) : Bin .xor k x k y (.int k ((x ^^^ y : Nat) : Int)) := fun P T w => by
 have h : x ^^^ y ≤ bmax k := by
  obtain ⟨m, hm⟩ := qQ9 k
  have := Nat.xor_lt_two_pow (n := m) (x := x) (y := y) jo jo
  omega
 simp only [binOp, Op.intBits, ne_eq, not_true_eq_false, if_false, BitVec.toNat_xor, lZ _ _ (mY k x hx), lZ _ _ (mY k y hy), fI k _ h]
 rfl
theorem Bin.shrN {k' : IntKind} (x y : Nat) (hx : x ≤ bmax k) : Bin .shr k x k' y (.int k ((x / 2 ^ y : Nat) : Int)) := fun P T w => by
 have h0 : ¬ ((y : Int) < 0) := jo
 have e : (x : Int).fdiv (2 ^ (min (y : Int).toNat k.bits)) = ((x / 2 ^ y : Nat) : Int) := by
  rw [Int.toNat_natCast]
  have hlt := mY k x hx
  by_cases hm : y ≤ k.bits
  ·
   rw [Nat.min_eq_left hm]
   have : ((2 : Int) ^ y) = ((2 ^ y : Nat) : Int) := jp
   rw [this, Int.fdiv_eq_ediv_of_nonneg _ (Int.natCast_nonneg _)]
   rfl
  rw [Nat.min_eq_right jo]
  have : ((2 : Int) ^ k.bits) = ((2 ^ k.bits : Nat) : Int) := jp
  rw [this, Int.fdiv_eq_ediv_of_nonneg _ (Int.natCast_nonneg _)]
  have h1 : x / 2 ^ k.bits = 0 := Nat.div_eq_of_lt hlt
  have h2 : x / 2 ^ y = 0 := Nat.div_eq_of_lt (Nat.lt_of_lt_of_le hlt (Nat.pow_le_pow_right jo jo))
  rw [h2]
  show ((x / 2 ^ k.bits : Nat) : Int) = _
  rw [h1]
 simp only [binOp, Op.shift, h0, if_false, e]; rfl
theorem Bin.shlN {k' : IntKind} (x y : Nat) (hy : y ≤ k.bits) (h : x * 2 ^ y ≤ bmax k) : Bin .shl k x k' y (.int k ((x * 2 ^ y : Nat) : Int)) := fun P T w => by
 have h0 : ¬ ((y : Int) < 0) := jo
 have e : (x : Int) * 2 ^ (min (y : Int).toNat k.bits) = ((x * 2 ^ y : Nat) : Int) := by
  rw [Int.toNat_natCast, Nat.min_eq_left hy]; simp
 simp only [binOp, Op.shift, h0, if_false, e, fI k _ h]
 rfl
end
section
variable {P : Program} {Γ : Env} {w : World} {dst : Option Tmp} {T : TypeId} {pos : String} {after : Array Edge} {g : Option (Nat × Bool)}
theorem Run.mv {x : Operand} {v : Value} (h : ev? Γ x = some v) : Run P ⟨dst, .move x, T, pos, after, g⟩ Γ w v := fun ρ hρ => by
 simp [execOp, hρ _ _ h]
theorem Run.asg {x : Operand} {v : Value} (h : ev? Γ x = some v) : Run P ⟨dst, .assign x, T, pos, after, g⟩ Γ w v := fun ρ hρ => by
 simp [execOp, hρ _ _ h]
theorem Run.pickT {c x y : Operand} {b : Bool} {u : Value} (hc : ev? Γ c = some (.bool b)) (hx : ev? Γ x = some u) (hb : b = true) :
  Run P ⟨dst, .pick c x y, T, pos, after, g⟩ Γ w u := fun ρ hρ => by
 simp [execOp, hρ _ _ hc, hρ _ _ hx, asBool, hb]
theorem Run.pickF {c x y : Operand} {b : Bool} {v : Value} (hc : ev? Γ c = some (.bool b)) (hy : ev? Γ y = some v) (hb : b = false) :
  Run P ⟨dst, .pick c x y, T, pos, after, g⟩ Γ w v := fun ρ hρ => by
 simp [execOp, hρ _ _ hc, hρ _ _ hy, asBool, hb]
theorem Run.bin {op : BinOp} {xT yT : TypeId} {x y : Operand} {k k' : IntKind} {a b : Int} {v : Value} (hx : ev? Γ x = some (.int k a)) (hy : ev? Γ y = some (.int k' b)) (hb : Bin op k a k' b v) :
  Run P ⟨dst, .binOp op xT x y yT, T, pos, after, g⟩ Γ w v := fun ρ hρ => by
 have h0 : (eqGuard op xT x y (.int k a) (.int k' b)).run P w = .ok () w := by
  unfold eqGuard
  split <;> rfl
 have h1 := hb P xT w
 simp only [execOp, hρ _ _ hx, hρ _ _ hy, Sem.run_bind, h0, Result.andThen_ok, h1, Sem.run_pure]
theorem Run.not {xT : TypeId} {x : Operand} {b : Bool} (hx : ev? Γ x = some (.bool b)) : Run P ⟨dst, .unOp .not xT x, T, pos, after, g⟩ Γ w (.bool (! b)) := fun ρ hρ => by
 simp [execOp, hρ _ _ hx, Op.unary]
theorem Run.nilck {x : Operand} {a : Addr} (hx : ev? Γ x = some (.pointer (some a))) : Run P ⟨dst, .nilCheck x, T, pos, after, g⟩ Γ w (.pointer (some a)) := fun ρ hρ => by
 simp [execOp, hρ _ _ hx]
theorem Run.conv {src dstT : TypeId} {x : Operand} {k k' : IntKind} {a : Int} {d : TypeDesc} (hx : ev? Γ x = some (.int k a)) (hs : P.underlying src = some d) (hd : P.underlying dstT = some (.int k')) (r : Int) (hr : k'.wrap a = r) :
  Run P ⟨dst, .convert src dstT x, T, pos, after, g⟩ Γ w (.int k' r) := fun ρ hρ => by
 simp [execOp, hρ _ _ hx, convert, run_underlying hs, run_underlying hd, Conv.intToInt, hr]
theorem Run.convN {src dstT : TypeId} {x : Operand} {k k' : IntKind} {d : TypeDesc} (a : Nat) (hx : ev? Γ x = some (.int k a)) (hs : P.underlying src = some d) (hd : P.underlying dstT = some (.int k')) (hr : a ≤ bmax k') :
  Run P ⟨dst, .convert src dstT x, T, pos, after, g⟩ Γ w (.int k' a) := Run.conv hx hs hd _ (fI k' a hr)
theorem Run.conv8 {src dstT : TypeId} {x : Operand} {k : IntKind} {d : TypeDesc} (a : Nat) (hx : ev? Γ x = some (.int k a)) (hs : P.underlying src = some d) (hd : P.underlying dstT = some (.int .u8)) :
  Run P ⟨dst, .convert src dstT x, T, pos, after, g⟩ Γ w (.int .u8 ((a % 256 : Nat) : Int)) := Run.conv hx hs hd _ (qHk a)
theorem Run.fieldAddr {s : TypeId} {x : Operand} {f : Nat} {a : Addr} {fs : Array Field} {fd : Field} {sz : Nat} (hx : ev? Γ x = some (.pointer (some a))) (hs : P.underlying s = some (.struct fs)) (hf : fs[f]? = some fd)
  (hz : ∀ w, (sizeOf fd.type).run P w = .ok sz w) (hz0 : sz ≠ 0) : Run P ⟨dst, .fieldAddr s x f, T, pos, after, g⟩ Γ w (.pointer (some (a.add fd.offset))) := fun ρ hρ => by
 simp [execOp, hρ _ _ hx, Instr.fieldAt, run_underlying hs, hf, Instr.sureAddr, fieldPlace, hz, hz0]
theorem Run.indexS {t : TypeId} {x i : Operand} {a : Addr} {len cap : Nat} {k : IntKind} {e : TypeId} {sz : Nat} (j : Nat) (hx : ev? Γ x = some (.slice (some a) len cap)) (hi : ev? Γ i = some (.int k j)) (ht : P.underlying t = some (.slice e))
  (hz : ∀ w, (sizeOf e).run P w = .ok sz w) (hj : j < len) : Run P ⟨dst, .indexAddr t x i, T, pos, after, g⟩ Γ w (.pointer (some (a.add (j * sz)))) := fun ρ hρ => by
 have h1 : (j : Int) < (len : Int) := jo
 simp [execOp, hρ _ _ hx, hρ _ _ hi, Instr.indexAt, asIntOf, run_underlying ht, hz, hj]
theorem Run.index1 {t : TypeId} {x i : Operand} {a : Addr} {len cap : Nat} {k : IntKind} {e : TypeId} (j : Nat) (hx : ev? Γ x = some (.slice (some a) len cap)) (hi : ev? Γ i = some (.int k j)) (ht : P.underlying t = some (.slice e))
  (hz : ∀ w, (sizeOf e).run P w = .ok 1 w) (hj : j < len) : Run P ⟨dst, .indexAddr t x i, T, pos, after, g⟩ Γ w (.pointer (some (a.add j))) := by
 have := Run.indexS (P := P) (Γ := Γ) (w := w) (dst := dst) (T := T) (pos := pos) (after := after) (g := g) j hx hi ht hz hj
 rwa [Nat.mul_one] at this
theorem Run.load {t : TypeId} {x : Operand} {a : Addr} {v : Value} (hx : ev? Γ x = some (.pointer (some a))) (ht : ∀ w, (isAgg t).run P w = .ok false w) (hc : w.cell? a = some v) :
  Run P ⟨dst, .load t x, T, pos, after, g⟩ Γ w v := fun ρ hρ => by
 simp [execOp, hρ _ _ hx, Instr.loadAt, Instr.sureAddr, loadVar, ht, hc]
theorem Run.loadA {t : TypeId} {x : Operand} {a : Addr} {cs : List Value} {sz : Nat} (hx : ev? Γ x = some (.pointer (some a))) (ht : ∀ w, (isAgg t).run P w = .ok true w) (hz : ∀ w, (sizeOf t).run P w = .ok sz w)
  (hc : ∀ j v, cs[j]? = some v → w.cell? (a.add j) = some v) (hl : cs.length = sz) : Run P ⟨dst, .load t x, T, pos, after, g⟩ Γ w (.agg cs.toArray) := fun ρ hρ => by
 subst hl
 simp [execOp, hρ _ _ hx, Instr.loadAt, Instr.sureAddr, loadVar, ht, hz, run_loadCells_list w a cs hc]
theorem Run.lenS {t : TypeId} {x : Operand} {a : Option Addr} {len cap : Nat} {e : TypeId} (hx : ev? Γ x = some (.slice a len cap)) (ht : P.underlying t = some (.slice e)) :
  Run P ⟨dst, .call ⟨.builtin .len, #[x], #[t]⟩, T, pos, after, g⟩ Γ w (.int .i64 len) := fun ρ hρ => by
 simp [execOp, resolve, invoke, builtin, Builtin.len_, hρ _ _ hx, run_underlying ht, goInt]
theorem Run.lenStr {t : TypeId} {x : Operand} {s : ByteArray} (hx : ev? Γ x = some (.string s)) (ht : P.underlying t = some .string) :
  Run P ⟨dst, .call ⟨.builtin .len, #[x], #[t]⟩, T, pos, after, g⟩ Γ w (.int .i64 s.size) := fun ρ hρ => by
 simp [execOp, resolve, invoke, builtin, Builtin.len_, hρ _ _ hx, run_underlying ht, goInt]
theorem Run.extract {x : Operand} {ix : Nat} {vs : Array Value} {v : Value} (hx : ev? Γ x = some (.tuple vs)) (hv : vs[ix]? = some v) : Run P ⟨dst, .extract x ix, T, pos, after, g⟩ Γ w v := fun ρ hρ => by
 simp [execOp, hρ _ _ hx, Instr.extract, hv]
theorem Run.eqlNilP {t yT : TypeId} {x y : Operand} {p : Option Addr} {e : TypeId} (hx : ev? Γ x = some (.pointer p)) (hy : ev? Γ y = some (.pointer none)) (ht : P.underlying t = some (.pointer e)) :
  Run P ⟨dst, .binOp .eql t x y yT, T, pos, after, g⟩ Γ w (.bool p.isNone) := fun ρ hρ => by
 have h0 : ∀ d : Nat, (Op.equalIn (d + 1) t (.pointer p) (.pointer none)).run P w = .ok p.isNone w := fun d => by
  cases p <;> simp [Op.equalIn, run_underlying ht]
 have h1 : (Op.equal t (.pointer p) (.pointer none)).run P w = .ok p.isNone w := h0 9999
 simp [execOp, hρ _ _ hx, hρ _ _ hy, eqGuard, binOp, h1]
theorem Run.neqB {t yT : TypeId} {x y : Operand} {a b : Bool} (hx : ev? Γ x = some (.bool a)) (hy : ev? Γ y = some (.bool b)) (ht : P.underlying t = some .bool) :
  Run P ⟨dst, .binOp .neq t x y yT, T, pos, after, g⟩ Γ w (.bool (a != b)) := fun ρ hρ => by
 have h0 : ∀ d : Nat, (Op.equalIn (d + 1) t (.bool a) (.bool b)).run P w = .ok (a == b) w := fun d => by simp [Op.equalIn, run_underlying ht]
 have h1 : (Op.equal t (.bool a) (.bool b)).run P w = .ok (a == b) w := h0 9999
 simp [execOp, hρ _ _ hx, hρ _ _ hy, eqGuard, binOp, h1, bne]
theorem Run.eqlStr {t yT : TypeId} {x y : Operand} {a b : ByteArray} (hx : ev? Γ x = some (.string a)) (hy : ev? Γ y = some (.string b)) :
  Run P ⟨dst, .binOp .eql t x y yT, T, pos, after, g⟩ Γ w (.bool (decide (a.data.toList = b.data.toList))) := fun ρ hρ => by
 have e : (a.data.toList == b.data.toList) = decide (a.data.toList = b.data.toList) := by rw [Bool.eq_iff_iff]; simp
 simp [execOp, hρ _ _ hx, hρ _ _ hy, eqGuard, binOp, Op.stringOp, ByteArray.toList_eq, e]
theorem Run.neqStr {t yT : TypeId} {x y : Operand} {a b : ByteArray} (hx : ev? Γ x = some (.string a)) (hy : ev? Γ y = some (.string b)) :
  Run P ⟨dst, .binOp .neq t x y yT, T, pos, after, g⟩ Γ w (.bool (decide (a.data.toList ≠ b.data.toList))) := fun ρ hρ => by
 have e : (a.data.toList == b.data.toList) = decide (a.data.toList = b.data.toList) := by rw [Bool.eq_iff_iff]; simp
 simp [execOp, hρ _ _ hx, hρ _ _ hy, eqGuard, binOp, Op.stringOp, ByteArray.toList_eq, e]
theorem Run.addStr {t yT : TypeId} {x y : Operand} {a b : ByteArray} (hx : ev? Γ x = some (.string a)) (hy : ev? Γ y = some (.string b)) (hs : a.size + b.size ≤ 9223372036854775807) :
  Run P ⟨dst, .binOp .add t x y yT, T, pos, after, g⟩ Γ w (.string (a ++ b)) := fun ρ hρ => by
 have h := run_string_add_sum (P := P) w a b hs
 simp [execOp, hρ _ _ hx, hρ _ _ hy, eqGuard, binOp, h]
theorem Run.indexStr {t : TypeId} {x i : Operand} {s : ByteArray} {k : IntKind} (j : Nat) (b : UInt8) (hx : ev? Γ x = some (.string s)) (hi : ev? Γ i = some (.int k j)) (ht : P.underlying t = some .string) (hj : s.data.toList[j]? = some b) :
  Run P ⟨dst, .index t x i, T, pos, after, g⟩ Γ w (.int .u8 b.toNat) := fun ρ hρ => by
 have hlt : j < s.size := by have := (List.getElem?_eq_some_iff.1 hj).1; simpa using this
 have e : s[j]? = some b := by
  rw [ByteArray.getElem?_lt' s j hlt]
  have := (List.getElem?_eq_some_iff.1 hj).2
  rw [← this]; rfl
 simp [execOp, hρ _ _ hx, hρ _ _ hi, Instr.index, asIntOf, run_underlying ht, e]
end
def evB (Γ : Env) (o : Option Operand) (d r : Nat) : Prop := match o with | none => r = d | some x => ∃ k, ev? Γ x = some (.int k (r : Int))
theorem evB.none_ {Γ : Env} {d : Nat} : evB Γ none d d := rfl
theorem evB.some_ {Γ : Env} {d r : Nat} {x : Operand} {k : IntKind} (h : ev? Γ x = some (.int k (r : Int))) : evB Γ (some x) d r := ⟨k, h⟩
def dS (a : Option Addr) (cap l sz : Nat) : Option Addr := if cap = l then a else a.map (·.add (l * sz))
section
variable {P : Program} {Γ : Env} {w : World} {dst : Option Tmp} {T : TypeId} {pos : String} {after : Array Edge} {g : Option (Nat × Bool)}
theorem sG {ρ : Operand → Value} (hρ : wV ρ Γ) (len cap l h : Nat) (lo hi : Option Operand) (hlo : evB Γ lo 0 l) (hhi : evB Γ hi len h) (h1 : l ≤ h) (h2 : h ≤ cap) (isS : Bool) :
  (Instr.sliceBounds isS len cap (lo.map ρ) (hi.map ρ) none).run P w = .ok (l, h, cap) w := by
 have hb : ∀ (k : IntKind) (r y : Nat) (code : BoundsCode), r ≤ y → (Instr.sliceBound (.int k (r : Int)) y code).run P w = .ok r w := by
  intro k r y code hry
  have := run_sliceBound (P := P) w k (r : Int) y code jo jo
  simpa using this
 unfold Instr.sliceBounds
 cases lo with
 | none =>
  cases hi with
  | none => simp only [evB] at hlo hhi; subst hlo hhi; simp
  | some y => simp only [evB] at hlo; obtain ⟨k, hy⟩ := hhi; subst hlo; simp [hρ _ _ hy, hb _ _ _ _ h2]
 | some x =>
  obtain ⟨k, hx⟩ := hlo
  cases hi with
  | none => simp only [evB] at hhi; subst hhi; simp [hρ _ _ hx, hb _ _ _ _ h1]
  | some y => obtain ⟨k', hy⟩ := hhi; simp [hρ _ _ hx, hρ _ _ hy, hb _ _ _ _ h1, hb _ _ _ _ h2]
theorem Run.sliceS {t e : TypeId} {x : Operand} {a : Option Addr} {len cap sz : Nat} {lo hi : Option Operand} (l h : Nat) (hx : ev? Γ x = some (.slice a len cap)) (ht : P.underlying t = some (.slice e)) (hz : ∀ w, (sizeOf e).run P w = .ok sz w)
  (hlo : evB Γ lo 0 l) (hhi : evB Γ hi len h) (h1 : l ≤ h) (h2 : h ≤ cap) :
  Run P ⟨dst, .slice t x lo hi none, T, pos, after, g⟩ Γ w (.slice (dS a cap l sz) (h - l) (cap - l)) := fun ρ hρ => by
 have hb := sG (P := P) (w := w) hρ len cap l h lo hi hlo hhi h1 h2 true
 simp only [execOp, Instr.sliceAt, Instr.slice, Sem.run_bind, run_underlying ht, Result.andThen_ok, hρ _ _ hx, Option.map_none, hb, hz, Sem.run_pure]
 rfl
theorem Run.sliceStr {t : TypeId} {x : Operand} {s : ByteArray} {lo hi : Option Operand} (l h : Nat) (hx : ev? Γ x = some (.string s)) (ht : P.underlying t = some .string)
  (hlo : evB Γ lo 0 l) (hhi : evB Γ hi s.size h) (h1 : l ≤ h) (h2 : h ≤ s.size) :
  Run P ⟨dst, .slice t x lo hi none, T, pos, after, g⟩ Γ w (.string (s.extract l h)) := fun ρ hρ => by
 have hb := sG (P := P) (w := w) hρ s.size s.size l h lo hi hlo hhi h1 h2 false
 simp [execOp, Instr.sliceAt, Instr.slice, run_underlying ht, hρ _ _ hx, hb]
end
section
variable {P : Program} {Γ : Env} {w : World} {dst : Option Tmp} {T : TypeId} {pos : String} {after : Array Edge} {g : Option (Nat × Bool)}
def evs (Γ : Env) : List Operand → List Value → Prop
 | [], vs => vs = []
 | x :: r, vs => ∃ v us, ev? Γ x = some v ∧ evs Γ r us ∧ vs = v :: us
theorem evs.nil {Γ : Env} : evs Γ [] [] := rfl
theorem evs.cons {Γ : Env} {x : Operand} {r : List Operand} {v : Value} {us : List Value} (h : ev? Γ x = some v) (hr : evs Γ r us) : evs Γ (x :: r) (v :: us) := ⟨v, us, h, hr, rfl⟩
theorem gV {ρ : Operand → Value} (hρ : wV ρ Γ) : ∀ (xs : List Operand) (vs : List Value), evs Γ xs vs → xs.map ρ = vs
 | [], vs, h => by simp only [evs] at h; subst h; rfl
 | x :: r, vs, h => by
  obtain ⟨v, us, h1, h2, rfl⟩ := h
  rw [List.map_cons, hρ _ _ h1, gV hρ r us h2]
theorem cM.fn {f : FuncId} {xs : List Operand} {vs : List Value} {ts : Array TypeId} (hv : evs Γ xs vs) (hf : ∀ args w, (callFunc f args).run P w = .ok (.enter f args) w) :
  cM P ⟨dst, .call ⟨.value (.func f), xs.toArray, ts⟩, T, pos, after, g⟩ Γ w f vs.toArray := fun ρ hρ => by
 have e := gV hρ xs vs hv
 have e2 : ρ (.func f) = .func (.func f) #[] #[] := hρ _ _ rfl
 have e3 : ρ (.func f) = .func (.func f) #[] #[] := e2
 simp [execOp, resolve, e2, Deferred.ofValue, invoke, e, hf]
end
structure Frm (S : List Nat) (w w' : World) : Prop where
 os : w'.os = w.os
 tape : w'.tape = w.tape
 output : w'.output = w.output
 size : w.heap.size ≤ w'.heap.size
 block : ∀ k, k < w.heap.size → k ∉ S → w'.heap[k]? = w.heap[k]?
def Blk (w : World) (g : Nat) (t : TypeId) (cs : Array Value) : Prop := w.heap[g]? = some (.cells cs t (0, 0))
def ob : Option Addr → List Nat
 | none => []
 | some a => [a.block]
def Rd (w : World) (size : Nat) (A : Option Addr) (n : Nat) (xs : List Value) : Prop :=
 xs.length = n * size ∧ (0 < n → ∃ ad, A = some ad ∧ ad.block < w.heap.size ∧ ∀ j u, xs[j]? = some u → w.cell? (ad.add j) = some u)
def Own (w : World) (e size : Nat) (A : Option Addr) (n c : Nat) (xs : List Value) : Prop := w.ownsRow 0 e size (.slice A n c) n xs
section
variable {S T : List Nat} {w w' w'' a b c : World} {g : Nat} {t : TypeId} {cs : Array Value}
theorem Frm.refl (S : List Nat) (w : World) : Frm S w w := ⟨rfl, rfl, rfl, Nat.le_refl _, fun _ _ _ => rfl⟩
theorem Frm.trans (h : Frm S a b) (k : Frm T b c) (hT : ∀ x ∈ T, x ∈ S ∨ a.heap.size ≤ x) : Frm S a c :=
 ⟨k.os.trans h.os, k.tape.trans h.tape, k.output.trans h.output, Nat.le_trans h.size k.size, fun i hi hS =>
  (k.block i (Nat.lt_of_lt_of_le hi h.size) (fun hx => by rcases hT i hx with h1 | h1; exact hS h1; omega)).trans (h.block i hi hS)⟩
theorem Frm.mono (h : Frm S w w') (hS : ∀ x ∈ S, x ∈ T ∨ w.heap.size ≤ x) : Frm T w w' :=
 ⟨h.os, h.tape, h.output, h.size, fun i hi hT => h.block i hi (fun hx => by rcases hS i hx with h1 | h1; exact hT h1; omega)⟩
theorem Frm.below (h : Frm [] w w') : Below w.heap.size w w' := ⟨h.os, h.tape, h.output, h.size, fun i hi => h.block i hi jp⟩
theorem Frm.drew (h : Frm S w w') : Frm S w w'.drew := ⟨h.os, h.tape, h.output, h.size, h.block⟩
theorem Frm.drewN (h : Frm S w w') (n : Nat) : Frm S w (w'.drewN n) := ⟨h.os, h.tape, h.output, h.size, h.block⟩
theorem Frm.drawn (h : Frm S w w') (hd : qP w' w'') : Frm S w w'' := by obtain ⟨m, rfl⟩ := hd; exact h.drewN m
theorem Frm.alloc (h : Frm S a w) (o : Obj) : Frm S a (w.alloc o) :=
 h.trans (T := []) ⟨rfl, rfl, rfl, jp, fun k hk _ => Below.heap_alloc _ _ _ hk⟩ jp
theorem Frm.set1 (w : World) (p : Addr) (u : Value) : Frm [p.block] w (w.setCell p u) :=
 ⟨rfl, rfl, rfl, jp, fun k _ hS => Below.heap_setCell _ _ _ _ (by simpa using hS)⟩
theorem Frm.grown {row : Option Nat} (h : w.grownBy w' row) : Frm row.toList w w' :=
 ⟨h.os, h.tape, h.output, h.size, fun k hk hS => h.block k hk (fun e => hS (by rw [← e]; simp))⟩
theorem Frm.own (h : Frm [] w a) (k : Frm S a b) (hS : ∀ x ∈ S, w.heap.size ≤ x) : Frm [] w b := h.trans k (fun x hx => .inr (hS x hx))
theorem qMn {B s : Nat} {A A' : Option Addr} (hA : ∀ x ∈ ob A, B ≤ x) (h : ob A' = ob A ∨ ob A' = [s]) (hs : B ≤ s) : ∀ x ∈ ob A', B ≤ x := fun x hx => by
 rcases h with h1 | h1 <;> rw [h1] at hx
 · exact hA x hx
 simp at hx; omega
theorem qP.heap (h : qP w w') : w'.heap = w.heap := by obtain ⟨m, rfl⟩ := h; rfl
theorem qP.frm (h : qP w w') : Frm [] w w' := (Frm.refl [] w).drawn h
theorem qP.refl (w : World) : qP w w := ⟨0, rfl⟩
theorem qP.trans (h : qP a b) (k : qP b c) : qP a c := by obtain ⟨m, rfl⟩ := h; obtain ⟨m', rfl⟩ := k; exact ⟨m + m', jp⟩
theorem qP.drew (w : World) : qP w w.drew := ⟨1, rfl⟩
theorem Blk.lt (h : Blk w g t cs) : g < w.heap.size := by
 rcases Nat.lt_or_ge g w.heap.size with hlt | hge
 · exact hlt
 unfold Blk at h; rw [Array.getElem?_eq_none hge] at h; cases h
theorem Blk.cell (h : Blk w g t cs) (i : Nat) : w.cell? ⟨g, i, none⟩ = cs[i]? := by
 unfold Blk at h
 simp [World.cell?, h]
theorem Blk.frozen (h : Blk w g t cs) (i : Nat) : w.frozen? ⟨g, i, none⟩ = false := by
 unfold Blk at h
 simp [World.frozen?, h]
theorem Blk.new (w : World) (t : TypeId) (cs : Array Value) : Blk (w.alloc (.cells cs t)) w.heap.size t cs := heap_alloc_new w _
theorem Blk.cells (h : Blk w g t cs) : ∀ (j : Nat) (v : Value), cs.toList[j]? = some v → w.cell? ((⟨g, 0, none⟩ : Addr).add j) = some v := by
 intro j v hv
 have e : (⟨g, 0, none⟩ : Addr).add j = ⟨g, j, none⟩ := by
  unfold Addr.add; split
  · rename_i h0; subst h0; rfl
  simp
 rw [e, h.cell]
 simpa using hv
theorem Blk.frm (h : Blk w g t cs) (k : Frm S w w') (hg : g ∉ S) : Blk w' g t cs := (k.block g h.lt hg).trans h
theorem Blk.drawn (h : Blk w g t cs) (k : qP w w') : Blk w' g t cs := h.frm k.frm jp
theorem Blk.set (h : Blk w g t cs) (i : Nat) (u : Value) : Blk (w.setCell ⟨g, i, none⟩ u) g t (cs.setIfInBounds i u) := by
 unfold Blk at h ⊢
 simp [World.setCell, Array.getElem?_modify, h]
theorem Blk.ne {g' : Nat} {t' : TypeId} {cs' : Array Value} (h : Blk w g t cs) (h' : Blk w g' t' cs') (hne : t ≠ t') : g ≠ g' := by
 rintro rfl
 unfold Blk at h h'
 rw [h] at h'
 injection h' with h'
 injection h' with _ ht
 exact hne ht
theorem gU (x : Addr) (n : Nat) : (x.add n).block = x.block := by unfold Addr.add; split <;> rfl
theorem add_add (x : Addr) (i j : Nat) : (x.add i).add j = x.add (i + j) := by
 unfold Addr.add
 by_cases hi : i = 0 <;> by_cases hj : j = 0 <;> simp [hi, hj, Nat.add_assoc]
theorem pW (x : Addr) : x.add 0 = x := by simp [Addr.add]
theorem oM (g i : Nat) : (⟨g, 0, none⟩ : Addr).add i = ⟨g, i, none⟩ := by
 unfold Addr.add; split
 · rename_i h; subst h; rfl
 simp
section
variable {size n m e cap : Nat} {A : Option Addr} {xs : List Value}
theorem Rd.nil (w : World) (size : Nat) (A : Option Addr) : Rd w size A 0 [] := ⟨jp, fun h => absurd h jo⟩
theorem Rd.lt (h : Rd w size A n xs) (hn : 0 < n) : ∀ x ∈ ob A, x < w.heap.size := by
 obtain ⟨ad, rfl, hb, _⟩ := h.2 hn
 simpa [ob] using hb
theorem Rd.frm (h : Rd w size A n xs) (k : Frm S w w') (hS : 0 < n → ∀ x ∈ ob A, x ∉ S) : Rd w' size A n xs :=
 ⟨h.1, fun hn => by
  obtain ⟨ad, e, hb, hc⟩ := h.2 hn
  subst e
  refine ⟨ad, rfl, Nat.lt_of_lt_of_le hb k.size, fun j u hu => ?_⟩
  rw [World.cell?_of_block (w := w) (a := ad.add j) (by rw [gU]; exact k.block _ hb (hS hn _ (by simp [ob])))]
  exact hc j u hu⟩
theorem Rd.drawn (h : Rd w size A n xs) (k : qP w w') : Rd w' size A n xs := h.frm k.frm jp
theorem Rd.elem {k : Nat} (h : Rd w size A n xs) (hk : k < n) : ∃ ad, A = some ad ∧ ∀ j v, ((xs.drop (k * size)).take size)[j]? = some v → w.cell? ((ad.add (k * size)).add j) = some v := by
 obtain ⟨ad, e, _, hc⟩ := h.2 jo
 refine ⟨ad, e, fun j v hv => ?_⟩
 have hj : j < size := by
  have := (List.getElem?_eq_some_iff.1 hv).1
  rw [List.length_take] at this
  omega
 rw [add_add]
 refine hc _ _ ?_
 rw [List.getElem?_take_of_lt hj, List.getElem?_drop] at hv
 exact hv
theorem Rd.cut (h : Rd w size A n xs) {l r : Nat} (h1 : l ≤ r) (h2 : r ≤ n) (hc : n ≤ cap) : Rd w size (dS A cap l size) (r - l) ((xs.drop (l * size)).take ((r - l) * size)) := by
 have hx := h.1
 have e1 : (r - l) * size + l * size = r * size := by rw [← Nat.add_mul]; congr 1; omega
 have e2 : r * size ≤ n * size := Nat.mul_le_mul_right _ h2
 refine ⟨by rw [List.length_take, List.length_drop]; omega, fun hn => ?_⟩
 obtain ⟨ad, rfl, hb, hcell⟩ := h.2 jo
 refine ⟨ad.add (l * size), by unfold dS; rw [if_neg jo]; rfl, by rw [gU]; exact hb, fun j u hu => ?_⟩
 rw [add_add]
 refine hcell _ u ?_
 by_cases hj : j < (r - l) * size
 · rw [List.getElem?_take_of_lt hj, List.getElem?_drop] at hu; exact hu
 rw [List.getElem?_eq_none (by rw [List.length_take]; omega)] at hu; cases hu
theorem kJ (A : Option Addr) (cap l sz : Nat) : ob (dS A cap l sz) = ob A := by
 unfold dS
 split
 · rfl
 cases A with
 | none => rfl
 | some a => simp [ob, gU]
theorem Rd.of_blk (h : Blk w g t cs) (hs : cs.size = n * size) : Rd w size (some ⟨g, 0, none⟩) n cs.toList :=
 ⟨by simpa using hs, fun _ => ⟨_, rfl, h.lt, fun j u hu => by rw [oM, h.cell]; simpa using hu⟩⟩
theorem Own.nil (w : World) (e size : Nat) : Own w e size none 0 0 [] := World.ownsRow_nil w 0 e size
theorem Own.len (h : Own w e size A n cap xs) : xs.length = n * size := h.1
theorem Own.cases (h : Own w e size A n cap xs) : (A = none ∧ n = 0 ∧ cap = 0 ∧ xs = []) ∨ ∃ g cur, A = some ⟨g, 0, none⟩ ∧ Blk w g e cur ∧ n ≤ cap ∧ cap ≤ maxLen ∧ cur.size = cap * size ∧ cur.toList.take (n * size) = xs := by
 obtain ⟨h1, h2⟩ := h
 rcases h2 with ⟨h3, h4⟩ | ⟨g, c, cur, hv, _, hh, hn, hc, hs, ht⟩
 ·
  injection h3 with e1 e2 e3
  subst e1 e2 e3
  exact .inl ⟨rfl, rfl, rfl, List.eq_nil_of_length_eq_zero (by simpa using h1)⟩
 injection hv with e1 e2 e3
 subst e1 e3
 exact .inr ⟨g, cur, rfl, hh, hn, hc, hs, ht⟩
theorem Own.le (h : Own w e size A n cap xs) : n ≤ cap := by
 rcases h.cases with ⟨_, rfl, rfl, _⟩ | ⟨g, cur, _, _, hn, _⟩
 · exact Nat.le_refl _
 exact hn
theorem Own.lt (h : Own w e size A n cap xs) : ∀ x ∈ ob A, x < w.heap.size := by
 rcases h.cases with ⟨rfl, _⟩ | ⟨g, cur, rfl, hb, _⟩
 · simp [ob]
 simpa [ob] using hb.lt
theorem Own.rd (h : Own w e size A n cap xs) : Rd w size A n xs := by
 refine ⟨h.1, fun hn => ?_⟩
 rcases h.cases with ⟨rfl, rfl, _⟩ | ⟨g, cur, rfl, hb, hnc, _, hs, ht⟩
 · omega
 refine ⟨_, rfl, hb.lt, fun j u hu => ?_⟩
 rw [oM, hb.cell]
 rw [← ht] at hu
 by_cases hj : j < n * size
 · rw [List.getElem?_take_of_lt hj] at hu; simpa using hu
 rw [List.getElem?_eq_none (by rw [List.length_take]; omega)] at hu; cases hu
theorem Own.frm (h : Own w e size A n cap xs) (k : Frm S w w') (hS : ∀ x ∈ ob A, x ∉ S) : Own w' e size A n cap xs := by
 refine ⟨h.1, ?_⟩
 rcases h.cases with ⟨rfl, rfl, rfl, _⟩ | ⟨g, cur, rfl, hb, hn, hc, hs, ht⟩
 · exact .inl ⟨rfl, rfl⟩
 exact .inr ⟨g, cap, cur, rfl, Nat.zero_le _, hb.frm k (hS g (by simp [ob])), hn, hc, hs, ht⟩
theorem Own.drawn (h : Own w e size A n cap xs) (k : qP w w') : Own w' e size A n cap xs := h.frm k.frm jp
theorem Own.of_blk (h : Blk w g e cs) (hs : cs.size = n * size) (hm : n ≤ maxLen) : Own w e size (some ⟨g, 0, none⟩) n n cs.toList :=
 ⟨by simpa using hs, .inr ⟨g, n, cs, rfl, Nat.zero_le _, h, Nat.le_refl _, hm, hs, List.take_of_length_le (by simp [hs])⟩⟩
theorem Own.ne_blk (h : Own w e size A n cap xs) (hg : Blk w g t cs) (hne : e ≠ t) : g ∉ ob A := by
 rcases h.cases with ⟨rfl, _⟩ | ⟨g', cur, rfl, hb, _⟩
 · simp [ob]
 simp only [ob, List.mem_singleton]
 exact fun e => hb.ne hg hne e.symm
theorem Own.ne_own {e' size' n' cap' : Nat} {A' : Option Addr} {xs' : List Value} (h : Own w e size A n cap xs) (h' : Own w e' size' A' n' cap' xs') (hne : e ≠ e') : ∀ x ∈ ob A, x ∉ ob A' := by
 rcases h.cases with ⟨rfl, _⟩ | ⟨g, cur, rfl, hb, _⟩
 · simp [ob]
 intro x hx
 simp only [ob, List.mem_singleton] at hx
 subst hx
 exact h'.ne_blk hb (Ne.symm hne)
end
end
structure Fresh (w w' : World) (t : TypeId) (cs : Array Value) : Prop where
 blk : Blk w' w.heap.size t cs
 frm : Frm [] w w'
 size : w'.heap.size = w.heap.size + 1
theorem Fresh.mk' (w : World) (t : TypeId) (cs : Array Value) : Fresh w (w.alloc (.cells cs t)) t cs := ⟨Blk.new w t cs, (Frm.refl _ _).alloc _, jp⟩
section
variable {P : Program} {Γ : Env} {w : World} {dst : Option Tmp} {T : TypeId} {pos : String} {after : Array Edge} {g : Option (Nat × Bool)}
theorem qV.box {e : TypeId} {x : Operand} {v : Value} (hx : ev? Γ x = some v) :
  qV P ⟨dst, .box e x, T, pos, after, g⟩ Γ w (fun r w' => r = .pointer (some ⟨w.heap.size, 0, none⟩) ∧ Fresh w w' e v.cells) := fun ρ hρ =>
 ⟨_, w.alloc (.cells v.cells e), by simp [execOp, hρ _ _ hx, Instr.box, newVar, newRow], rfl, Fresh.mk' _ _ _⟩
theorem qV.alloc {e : TypeId} {z : Value} (hz : ∀ w, (zeroValue e).run P w = .ok z w) :
  qV P ⟨dst, .alloc e, T, pos, after, g⟩ Γ w (fun r w' => r = .pointer (some ⟨w.heap.size, 0, none⟩) ∧ Fresh w w' e z.cells) := fun ρ _ =>
 ⟨_, w.alloc (.cells z.cells e), by simp [execOp, Instr.alloc, hz, newVar, newRow], rfl, Fresh.mk' _ _ _⟩
theorem Run.build {t : TypeId} {parts : List (Nat × Operand)} {vs : List Value} {z cells : Array Value} {fs : Array Field} {pl : Array (Nat × Nat)} (hv : evs Γ (parts.map (·.2)) vs) (hz : ∀ w, (zeroValue t).run P w = .ok (.agg z) w)
  (hu : P.underlying t = some (.struct fs)) (hpl : ∀ w, (fs.mapM fun f => do pure (f.offset, ← sizeOf f.type) : Sem (Array (Nat × Nat))).run P w = .ok pl w) (hf : Instr.fill (pl[·]?) z ((parts.map (·.1)).zip vs) = some cells) :
  Run P ⟨dst, .build t parts.toArray, T, pos, after, g⟩ Γ w (.agg cells) := fun ρ hρ => by
 have e1 := gV hρ _ _ hv
 have e2 : parts.map (fun p => (p.1, ρ p.2)) = (parts.map (·.1)).zip vs := by
  rw [← e1, List.map_map, List.zip_map']
  rfl
 simp only [execOp, Instr.build, Sem.run_bind, hz, Result.andThen_ok, Value.cells, run_underlying hu, hpl, List.map_toArray, e2, hf, Sem.run_pure]
theorem qV.buildS0 {t e : TypeId} {size : Nat} (ht : P.underlying t = some (.slice e)) (hz : ∀ w, (sizeOf e).run P w = .ok size w) :
  qV P ⟨dst, .buildSlice t 0 #[], T, pos, after, g⟩ Γ w (fun r w' => r = .slice (some ⟨w.heap.size, 0, none⟩) 0 0 ∧ Fresh w w' e #[]) := fun ρ hρ => by
 refine ⟨_, w.alloc (.cells #[] e), ?_, rfl, Fresh.mk' _ _ _⟩
 have e0 : ∀ f : Nat → Value, (Array.range 0).map f = #[] := fun f => by simp [Array.range]
 simp [execOp, Instr.buildSlice, run_underlying ht, hz, Instr.fill, newRow, e0]
theorem qV.buildS1 {t e : TypeId} {size : Nat} {x : Operand} {z v : Value} (hx : ev? Γ x = some v) (ht : P.underlying t = some (.slice e)) (hz : ∀ w, (sizeOf e).run P w = .ok size w)
  (hzv : ∀ w, (zeroValue e).run P w = .ok z w) (hs0 : 0 < size) (hs1 : size ≤ 16777216) (hv : v.cells.size = size) (hzs : z.cells.size = size) :
  qV P ⟨dst, .buildSlice t 1 #[(0, x)], T, pos, after, g⟩ Γ w (fun r w' => r = .slice (some ⟨w.heap.size, 0, none⟩) 1 1 ∧ Fresh w w' e v.cells) := fun ρ hρ => by
 have hn' : ¬ (1 * size > 2 ^ 24) := jo
 have hn0 : ¬ (1 * size = 0) := jo
 have key : ∀ (l : List Value) (acc : Array Value) (k : Nat), k + l.length = acc.size → (l.zipIdx k).foldl (fun (cs : Array Value) (p : Value × Nat) => cs.setIfInBounds p.2 p.1) acc = (acc.toList.take k ++ l).toArray := by
  intro l
  induction l with
  | nil => intro acc k hk; simp at hk ⊢; rw [List.take_of_length_le (by simp [hk])]
  | cons u r ih =>
   intro acc k hk
   simp only [List.length_cons] at hk
   rw [List.zipIdx_cons, List.foldl_cons, ih _ _ (by simp; omega)]
   have e1 : (acc.setIfInBounds k u).toList.take (k + 1) = acc.toList.take k ++ [u] := by
    rw [Array.toList_setIfInBounds]
    apply List.ext_getElem?
    intro j
    rcases Nat.lt_trichotomy j k with hj | hj | hj
    · rw [List.getElem?_take_of_lt jo, List.getElem?_set_ne jo, List.getElem?_append_left (by simp; omega), List.getElem?_take_of_lt hj]
    ·
     subst hj
     rw [List.getElem?_take_of_lt jo, List.getElem?_set_self (by simp; omega), List.getElem?_append_right (by simp; omega)]
     have : j - (acc.toList.take j).length = 0 := by simp; omega
     rw [this]
     rfl
    rw [List.getElem?_eq_none (by simp; omega), List.getElem?_eq_none (by simp; omega)]
   rw [e1]
   simp
 refine ⟨_, w.alloc (.cells v.cells e), ?_, rfl, Fresh.mk' _ _ _⟩
 have hc1 : ¬ (v.cells.size ≠ size) := by simp [hv]
 have hcs : ((Array.range (1 * size)).map (z.cells[· % z.cells.size]!)).size = size := jp
 have hfill : Instr.fill (fun i => some (i * size, size)) ((Array.range (1 * size)).map (z.cells[· % z.cells.size]!)) [(0, v)] = some v.cells := by
  unfold Instr.fill
  simp only [Nat.zero_mul, hv, hcs, Nat.zero_add]
  have := key v.cells.toList ((Array.range (1 * size)).map (z.cells[· % z.cells.size]!)) 0 (by simp [hv])
  simp only [List.take_zero, List.nil_append, Array.toArray_toList] at this
  rw [← Array.foldl_toList, Array.toList_zipIdx, this]
  simp [Instr.fill]
 simp only [execOp, Instr.buildSlice, Sem.run_bind, run_underlying ht, Result.andThen_ok, hz, Sem.run_ite, hn', hn0, if_false, hzv, Sem.run_pure, List.map_toArray, List.map_cons, List.map_nil, hρ _ _ hx, hfill, newRow, run_newObj]
 rfl
theorem qT.store {t e : TypeId} {x y : Operand} {gb i : Nat} {cs : Array Value} {v : Value} (hx : ev? Γ x = some (.pointer (some ⟨gb, i, none⟩))) (hy : ev? Γ y = some v)
  (hz : ∀ w, (sizeOf t).run P w = .ok 1 w) (hb : Blk w gb e cs) (hi0 : Nat.blt i cs.size = true) (h1 : v.oneCell' = true) :
  qT P ⟨dst, .store t x y, T, pos, after, g⟩ Γ w (fun w' => Blk w' gb e (cs.setIfInBounds i v) ∧ Frm [gb] w w' ∧ w'.heap.size = w.heap.size) := fun ρ hρ => by
 have hi : i < cs.size := by simpa [Nat.blt_eq] using hi0
 have hcells : v.cells = #[v] := by cases v <;> first | rfl | cases h1
 have hc := hb.cell i
 rw [Array.getElem?_eq_getElem hi] at hc
 refine ⟨w.setCell ⟨gb, i, none⟩ v, ?_, hb.set i v, Frm.set1 w ⟨gb, i, none⟩ v, jp⟩
 simp [execOp, hρ _ _ hx, hρ _ _ hy, Instr.storeAt, Instr.sureAddr, storeVar, hcells, hz, storeCells, run_store P _ _ _ _ h1, pW, hc, hb.frozen i]
theorem qT.storeA {t e : TypeId} {x y : Operand} {gb : Nat} {cs vs : Array Value} (hx : ev? Γ x = some (.pointer (some ⟨gb, 0, none⟩))) (hy : ev? Γ y = some (.agg vs))
  (hz : ∀ w, (sizeOf t).run P w = .ok vs.size w) (hb : Blk w gb e cs) (hs : vs.size = cs.size) (h1 : ∀ v ∈ vs.toList, v.oneCell' = true) :
  qT P ⟨dst, .store t x y, T, pos, after, g⟩ Γ w (fun w' => Blk w' gb e vs ∧ Frm [gb] w w' ∧ w'.heap.size = w.heap.size) := fun ρ hρ => by
 have hr := run_storeCells_from (P := P) gb e vs.toList 0 cs w hb (by simp [hs]) h1
 refine ⟨w.setRow gb (cs.toList.take 0 ++ vs.toList).toArray, ?_, ?_, ?_, ?_⟩
 · simp only [execOp, Instr.storeAt, Instr.sureAddr, storeVar, hρ _ _ hx, hρ _ _ hy, Value.cells, Sem.run_bind, Sem.run_pure, Result.andThen_ok, hz, ne_eq, not_true_eq_false, if_false, Sem.run_ite, hr]
 ·
  have := setRow_heap w gb cs (cs.toList.take 0 ++ vs.toList).toArray e (0, 0) hb
  simpa [Blk] using this
 · exact ⟨rfl, rfl, rfl, by simp [World.setRow], fun k _ hS => setRow_other w gb k _ (by simpa using hS)⟩
 simp [World.setRow]
theorem qT.storeOwn {t e size n cap : Nat} {x y : Operand} {A : Option Addr} {ad : Addr} {xs : List Value} {v : Value} (j : Nat) (hx : ev? Γ x = some (.pointer (some (ad.add j)))) (hy : ev? Γ y = some v)
  (hz : ∀ w, (sizeOf t).run P w = .ok 1 w) (ho : Own w e size A n cap xs) (hA : A = some ad) (hj : j < n * size) (h1 : v.oneCell' = true) :
  qT P ⟨dst, .store t x y, T, pos, after, g⟩ Γ w (fun w' => Own w' e size A n cap (xs.set j v) ∧ Frm (ob A) w w' ∧ w'.heap.size = w.heap.size) := fun ρ hρ => by
 rcases ho.cases with ⟨rfl, _⟩ | ⟨gb, cur, hA', hb, hnc, hc, hs, ht⟩
 · cases hA
 rw [hA'] at hA
 injection hA with hA
 subst hA
 subst hA'
 rw [oM] at hx
 have hmul : n * size ≤ cap * size := Nat.mul_le_mul_right _ hnc
 obtain ⟨w', hr, hb', hf, hsz⟩ := qT.store (P := P) (T := T) (dst := dst) (pos := pos) (after := after) (g := g) hx hy hz hb (by rw [Nat.blt_eq]; omega) h1 ρ hρ
 refine ⟨w', hr, ⟨?_, .inr ⟨gb, cap, _, rfl, Nat.zero_le _, hb', hnc, hc, by simpa using hs, ?_⟩⟩, hf, hsz⟩
 · rw [List.length_set]; exact ho.1
 rw [Array.toList_setIfInBounds, ← ht, List.take_set]
theorem qV.app {t e : TypeId} {x y : Operand} {z : Value} {size bytes n m cap c2 : Nat} {A B : Option Addr} {xs news : List Value} (hx : ev? Γ x = some (.slice A n cap)) (hy : ev? Γ y = some (.slice B m c2))
  (ht : P.underlying t = some (.slice e)) (hi : (P.info? e).map (fun i => (i.zero, i.size, i.bytes)) = some (some z, size, bytes)) (hzs : z.cells.size = size) (hsz : 0 < size)
  (ho : Own w e size A n cap xs) (hr : Rd w size B m news) (h1 : ∀ u ∈ news, u.oneCell' = true) (h63 : n + m ≤ 9223372036854775807) (hb : (n + m) * bytes ≤ 140737488355328) :
  qV P ⟨dst, .call ⟨.builtin .append, #[x, y], #[t, t]⟩, T, pos, after, g⟩ Γ w
   (fun r w' => ∃ A' c', r = .slice A' (n + m) c' ∧ Own w' e size A' (n + m) c' (xs ++ news) ∧ Frm (ob A) w w' ∧ (ob A' = ob A ∨ ob A' = [w.heap.size])) := fun ρ hρ => by
 obtain ⟨i0, hi0, hz0, hz1, hz2⟩ := info_parts hi
 have ho' := ho
 have ex : (execOp ρ ⟨dst, .call ⟨.builtin .append, #[x, y], #[t, t]⟩, T, pos, after, g⟩).run P w = ((Builtin.append_ #[t, t] T #[.slice A n cap, .slice B m c2]).run P w).andThen fun a w => .ok (.value a) w := by
  simp [execOp, resolve, invoke, builtin, hρ _ _ hx, hρ _ _ hy]
 rcases Nat.eq_zero_or_pos m with hm | hm
 ·
  subst hm
  have hn0 : news = [] := List.eq_nil_of_length_eq_zero (by simpa using hr.1)
  subst hn0
  refine ⟨.slice A n cap, w, ?_, A, cap, rfl, by simpa using ho, Frm.refl _ _, .inl rfl⟩
  rw [ex]
  have hnc := ho.le
  have hz3 : ∀ w, (sizeOf e).run P w = .ok size w := fun w => by simp [sizeOf, typeInfo, hi0, hz1]
  cases A <;> cases B <;> simp [Builtin.append_, run_underlying ht, hz3, Builtin.lenOf, Builtin.firstCells, hnc, storeCells, loadCells, loadCellsFrom]
 obtain ⟨ad, rfl, hlt, hcell⟩ := hr.2 hm
 obtain ⟨v', w', hrun, hown, hgr, _, hob⟩ := run_append_own_at (P := P) w 0 t T e i0 z size bytes ht hi0 hz0 hz1 hz2 hzs hsz _ n xs ho ad m c2 news hr.1 hcell h1 h63 hb (Nat.zero_le _)
 have hform : ∃ A' c', v' = .slice A' (n + m) c' := by
  rcases hown.2 with ⟨rfl, h0⟩ | ⟨g', cap', cur', rfl, _⟩
  · omega
  exact ⟨_, _, rfl⟩
 obtain ⟨A', c', rfl⟩ := hform
 have hblk : ∀ (X : Option Addr) (p q : Nat), (Value.slice X p q).ownBlock.toList = ob X := by intro X p q; cases X <;> rfl
 refine ⟨_, w', by rw [ex, hrun]; rfl, A', c', rfl, hown, ?_, ?_⟩
 ·
  have := Frm.grown hgr
  rwa [hblk] at this
 rcases hob with h | h
 · left; rw [← hblk A' (n + m) c', h, hblk]
 right; rw [← hblk A' (n + m) c', h]; rfl
def U8 (l : List UInt8) : List Value := l.map fun b => .int .u8 (b.toNat : Int)
theorem Run.strOf {src dstT e : TypeId} {x : Operand} {A : Option Addr} {n c : Nat} {l : List UInt8} (hx : ev? Γ x = some (.slice A n c)) (hs : P.underlying src = some (.slice e)) (he : P.underlying e = some (.int .u8)) (hd : P.underlying dstT = some .string)
  (hr : Rd w 1 A n (U8 l)) : Run P ⟨dst, .convert src dstT x, T, pos, after, g⟩ Γ w (.string ⟨l.toArray⟩) := fun ρ hρ => by
 have hl : l.length = n := by have := hr.1; simpa [U8] using this
 have h1 := run_convert_bytes_string (P := P) w src dstT e A n c hs he hd
 have h2 : (Conv.bytesToString (.slice A n c)).run P w = .ok (.string ⟨l.toArray⟩) w := by
  cases A with
  | none =>
   have h0 : n = 0 := by
    rcases Nat.eq_zero_or_pos n with h | h
    · exact h
    obtain ⟨_, h', _⟩ := hr.2 h; cases h'
   subst h0
   have : l = [] := List.eq_nil_of_length_eq_zero hl
   subst this
   rfl
  | some a =>
   have hcell : ∀ j v, (U8 l)[j]? = some v → w.cell? (a.add j) = some v := by
    intro j v hv
    rcases Nat.eq_zero_or_pos n with h | h
    ·
     have : l = [] := List.eq_nil_of_length_eq_zero jo
     subst this
     simp [U8] at hv
    obtain ⟨ad, h', _, hc⟩ := hr.2 h
    injection h' with h'
    subst h'
    exact hc j v hv
   have hload := run_loadCells_list (P := P) w a (U8 l) hcell
   have hul : (U8 l).length = n := by simpa [U8] using hl
   rw [hul] at hload
   have := run_bytesToString (P := P) w a n c (l.map fun b => (b.toNat : Int)) (by rw [hload, List.map_map]; rfl)
   rw [this]
   congr 2
   have key : ∀ (l : List UInt8) (s : ByteArray), (l.map fun b => (b.toNat : Int)).foldl (fun r n => r.push (UInt8.ofNat n.toNat)) s = ⟨s.data ++ l.toArray⟩ := by
    intro l
    induction l with
    | nil => intro s; simp
    | cons b r ih =>
     intro s
     rw [List.map_cons, List.foldl_cons, ih]
     congr 1
     simp [ByteArray.push]
   rw [key]
   simp [ByteArray.empty, ByteArray.emptyWithCapacity]
   rfl
 simp [execOp, hρ _ _ hx, h1, h2]
end
section
variable {P : Program} {n : NF} {Γ Γ' : Env} {w : World} {Q : Exit → Env → World → Prop} {K : Env → World → Prop} {i id : Nat}
theorem qQ (h : Q .ret Γ w) : lR K Q .ret Γ w := h
theorem qZ (h : Q (.exit i) Γ w) : lR K Q (.exit i) Γ w := h
theorem qH (h : Q .normal Γ w) : lS id Q .normal Γ w := h
theorem qR (h : Q .ret Γ w) : lS id Q .ret Γ w := h
theorem qN (h : Q .normal Γ w) : lS id Q (.exit id) Γ w := by simp only [lS, if_true]; exact h
theorem qYz (hne : Nat.beq i id = false) (h : Q (.exit i) Γ w) : lS id Q (.exit i) Γ w := by
 have : i ≠ id := fun e => by subst e; rw [Nat.beq_refl] at hne; cases hne
 simp only [lS, this, if_false]; exact h
theorem Sub.nil : Sub Γ [] := trivial
theorem Sub.cons {k : Nat} {v : Value} {r : Env} (h : get? Γ k = some v) (hr : Sub Γ r) : Sub Γ ((k, v) :: r) := ⟨h, hr⟩
section
variable {R : Ending → World → Prop}
theorem qY0 (h : R (.returned (.tuple #[])) w) : nU P #[] R .ret Γ w := h
theorem pY (h : R (.returned (.tuple #[])) w) : nU P #[] R .normal Γ w := h
theorem qS {t : Tmp} {v : Value} (h1 : get? Γ t = some v) (h : R (.returned v) w) : nU P #[.tmp t] R .ret Γ w := ⟨v, h1, h⟩
theorem bX {t u : Tmp} {v x : Value} (h1 : get? Γ t = some v) (h2 : get? Γ u = some x) (h : R (.returned (.tuple #[v, x])) w) : nU P #[.tmp t, .tmp u] R .ret Γ w := ⟨v, h1, x, h2, h⟩
theorem eO {res : Array ResultVar} (h : kI P res.toList Γ w fun vs => R (.returned (qKw vs)) w) : nU P res R .ret Γ w := h
theorem cY {K : List Value → Prop} (h : K []) : kI P [] Γ w K := h
theorem dH {t : Tmp} {r : List ResultVar} {v : Value} {K : List Value → Prop} (h1 : get? Γ t = some v) (h : kI P r Γ w fun vs => K (v :: vs)) : kI P (.tmp t :: r) Γ w K := ⟨v, h1, h⟩
theorem gB {t : Tmp} {T : TypeId} {r : List ResultVar} {a : Addr} {v : Value} {K : List Value → Prop} (h1 : get? Γ t = some (.pointer (some a))) (ht : ∀ w, (isAgg T).run P w = .ok false w) (hc : w.cell? a = some v)
  (h : kI P r Γ w fun vs => K (v :: vs)) : kI P (.cell t T :: r) Γ w K := ⟨a, v, h1, by simp [loadVar, ht, hc], h⟩
theorem cW {t : Tmp} {T : TypeId} {r : List ResultVar} {a : Addr} {cs : List Value} {sz : Nat} {K : List Value → Prop} (h1 : get? Γ t = some (.pointer (some a))) (ht : ∀ w, (isAgg T).run P w = .ok true w) (hz : ∀ w, (sizeOf T).run P w = .ok sz w)
  (hc : ∀ j v, cs[j]? = some v → w.cell? (a.add j) = some v) (hl : cs.length = sz) (h : kI P r Γ w fun vs => K (.agg cs.toArray :: vs)) : kI P (.cell t T :: r) Γ w K := by
 subst hl
 exact ⟨a, _, h1, by simp [loadVar, ht, hz, run_loadCells_list w a cs hc], h⟩
end
section
variable {ops : Array Oper} {rest : List Oper} {d : Nat} {op : Op} {T : TypeId} {pos : String} {after : Array Edge} {g : Option (Nat × Bool)}
theorem Ops.r {v : Value} (h : Run P ⟨some d, op, T, pos, after, none⟩ Γ w v) (hn : Nat.blt d n.n = true) (k : Ops P n ops rest ((d, v) :: Γ) w Q) : Ops P n ops (⟨some d, op, T, pos, after, none⟩ :: rest) Γ w Q :=
 Ops.run h trivial rfl hn k
theorem Ops.rg {v : Value} {j : Nat} {b c : Bool} (hy : yi ops Γ j = some (.bool b)) (hb : b = c) (h : Run P ⟨some d, op, T, pos, after, some (j, c)⟩ Γ w v) (hn : Nat.blt d n.n = true) (k : Ops P n ops rest ((d, v) :: Γ) w Q) : Ops P n ops (⟨some d, op, T, pos, after, some (j, c)⟩ :: rest) Γ w Q :=
 Ops.run h (by subst hb; exact hy) rfl hn k
theorem Ops.sk {j : Nat} {b c : Bool} (hy : yi ops Γ j = some (.bool b)) (hb : b = ! c) (hn : Nat.blt d n.n = true) (k : Ops P n ops rest ((d, undef) :: Γ) w Q) : Ops P n ops (⟨some d, op, T, pos, after, some (j, c)⟩ :: rest) Γ w Q :=
 Ops.skip rfl hy hb rfl hn k
theorem Ops.m {R : Value → World → Prop} (h : qV P ⟨some d, op, T, pos, after, none⟩ Γ w R) (hn : Nat.blt d n.n = true) (k : ∀ v w', R v w' → Ops P n ops rest ((d, v) :: Γ) w' Q) : Ops P n ops (⟨some d, op, T, pos, after, none⟩ :: rest) Γ w Q :=
 Ops.does h trivial rfl hn k
theorem Ops.st {R : World → Prop} (h : qT P ⟨none, op, T, pos, after, none⟩ Γ w R) (k : ∀ w', R w' → Ops P n ops rest Γ w' Q) : Ops P n ops (⟨none, op, T, pos, after, none⟩ :: rest) Γ w Q :=
 Ops.acts h trivial rfl k
theorem Ops.cl {f : FuncId} {args : Array Value} {R : Ending → World → Prop} (he : cM P ⟨some d, op, T, pos, after, none⟩ Γ w f args) (hc : Calls P f args w R) (hn : Nat.blt d n.n = true)
  (k : ∀ e w', R e w' → ∃ v, e = .returned v ∧ Ops P n ops rest ((d, v) :: Γ) w' Q) : Ops P n ops (⟨some d, op, T, pos, after, none⟩ :: rest) Γ w Q :=
 Ops.call he hc trivial rfl hn k
theorem Ops.clg {f : FuncId} {args : Array Value} {R : Ending → World → Prop} {j : Nat} {b c : Bool} (hy : yi ops Γ j = some (.bool b)) (hb : b = c) (he : cM P ⟨some d, op, T, pos, after, some (j, c)⟩ Γ w f args) (hc : Calls P f args w R) (hn : Nat.blt d n.n = true)
  (k : ∀ e w', R e w' → ∃ v, e = .returned v ∧ Ops P n ops rest ((d, v) :: Γ) w' Q) : Ops P n ops (⟨some d, op, T, pos, after, some (j, c)⟩ :: rest) Γ w Q :=
 Ops.call he hc (by subst hb; exact hy) rfl hn k
variable {KE : Env → Prop}
theorem bJ.r {v : Value} (h : Run P ⟨some d, op, T, pos, after, none⟩ Γ w v) (hn : Nat.blt d n.n = true) (k : bJ P n ops rest ((d, v) :: Γ) w KE) : bJ P n ops (⟨some d, op, T, pos, after, none⟩ :: rest) Γ w KE :=
 bJ.run h trivial rfl hn k
theorem bJ.rg {v : Value} {j : Nat} {b c : Bool} (hy : yi ops Γ j = some (.bool b)) (hb : b = c) (h : Run P ⟨some d, op, T, pos, after, some (j, c)⟩ Γ w v) (hn : Nat.blt d n.n = true) (k : bJ P n ops rest ((d, v) :: Γ) w KE) : bJ P n ops (⟨some d, op, T, pos, after, some (j, c)⟩ :: rest) Γ w KE :=
 bJ.run h (by subst hb; exact hy) rfl hn k
theorem bJ.sk {j : Nat} {b c : Bool} (hy : yi ops Γ j = some (.bool b)) (hb : b = ! c) (hn : Nat.blt d n.n = true) (k : bJ P n ops rest ((d, undef) :: Γ) w KE) : bJ P n ops (⟨some d, op, T, pos, after, some (j, c)⟩ :: rest) Γ w KE := by
 intro a hs
 unfold wpStill
 have hw : Region.wanted (⟨some d, op, T, pos, after, some (j, c)⟩ : Oper) (yielded ops a.tmps) = false := by
  unfold Region.wanted
  simp only
  rw [uO hs hy, hb]
  cases c <;> rfl
 rw [if_neg (by rw [hw]; simp)]
 exact k _ (hs.put hn undef)
end
theorem VC.meet {σ : Type} {c : Code} (env : σ → Env) (inv : σ → World → Prop) (h : VC P n c Γ w (lR (fun Γ' w' => ∃ s, Sub Γ' (env s) ∧ inv s w') Q)) (k : ∀ s w', inv s w' → ∀ Γ', Sub Γ' (env s) → Q .normal Γ' w') : VC P n c Γ w Q := by
 refine h.mono fun e Γ' w' q => ?_
 cases e with
 | normal => obtain ⟨s, hs, hi⟩ := q; exact k s w' hi Γ' hs
 | exit i => exact q
 | goto l => exact q
 | ret => exact q
 | panic c => exact q
 | outgrown => exact q
theorem VC.split1 {c : Code} (Γk : Env) (hk : Sub Γ Γk) (t : Nat) (v : Value) (h : VC P n c Γ w (lR (fun Γ1 w1 => Sub Γ1 ((t, v) :: Γk) ∧ w1 = w) Q)) (k : ∀ Γ1, Sub Γ1 ((t, v) :: Γk) → Q .normal Γ1 w) : VC P n c Γ w Q := by
 have _ := hk
 refine h.mono fun e Γ' w' q => ?_
 cases e with
 | normal => obtain ⟨hs, rfl⟩ := q; exact k Γ' hs
 | exit i => exact q
 | goto l => exact q
 | ret => exact q
 | panic c => exact q
 | outgrown => exact q
theorem Bin.add_i64 (x y : Nat) (h : x + y ≤ 9223372036854775807) : Bin .add .i64 x .i64 y (.int .i64 ((x + y : Nat) : Int)) := Bin.addN x y h
theorem Bin.sub_i64 (x y : Nat) (hy : y ≤ x) (h : x ≤ 9223372036854775807) : Bin .sub .i64 x .i64 y (.int .i64 ((x - y : Nat) : Int)) := Bin.subN x y hy (by simp only [bmax]; omega)
theorem Bin.mul_i64 (x y : Nat) (h : x * y ≤ 9223372036854775807) : Bin .mul .i64 x .i64 y (.int .i64 ((x * y : Nat) : Int)) := Bin.mulN x y h
theorem Bin.quo_i64 (x y : Nat) (hy : y ≠ 0) (h : x ≤ 9223372036854775807) : Bin .quo .i64 x .i64 y (.int .i64 ((x / y : Nat) : Int)) := Bin.quoN x y hy (by simp only [bmax]; exact Nat.le_trans (Nat.div_le_self _ _) h)
theorem Bin.add_u64 (x y : Nat) (h : x + y ≤ 18446744073709551615) : Bin .add .u64 x .u64 y (.int .u64 ((x + y : Nat) : Int)) := Bin.addN x y h
theorem Bin.mul_u64 (x y : Nat) (h : x * y ≤ 18446744073709551615) : Bin .mul .u64 x .u64 y (.int .u64 ((x * y : Nat) : Int)) := Bin.mulN x y h
theorem Bin.quo_u64 (x y : Nat) (hy : y ≠ 0) (h : x ≤ 18446744073709551615) : Bin .quo .u64 x .u64 y (.int .u64 ((x / y : Nat) : Int)) := Bin.quoN x y hy (by simp only [bmax]; exact Nat.le_trans (Nat.div_le_self _ _) h)
theorem Bin.addZ (x y : Int) (h1 : -9223372036854775808 ≤ x + y) (h2 : x + y ≤ 9223372036854775807) : Bin .add .i64 x .i64 y (.int .i64 (x + y)) := Bin.add x y h1 h2
theorem Bin.subZ (x y : Int) (h1 : -9223372036854775808 ≤ x - y) (h2 : x - y ≤ 9223372036854775807) : Bin .sub .i64 x .i64 y (.int .i64 (x - y)) := Bin.sub x y h1 h2
theorem Bin.shr_u64 {k' : IntKind} (x y : Nat) (h : x ≤ 18446744073709551615) : Bin .shr .u64 x k' y (.int .u64 ((x / 2 ^ y : Nat) : Int)) := Bin.shrN x y h
theorem Bin.shr_u8 {k' : IntKind} (x y : Nat) (h : x ≤ 255) : Bin .shr .u8 x k' y (.int .u8 ((x / 2 ^ y : Nat) : Int)) := Bin.shrN x y h
theorem Bin.shl_u64 {k' : IntKind} (x y : Nat) (hy : y ≤ 64) (h : x * 2 ^ y ≤ 18446744073709551615) : Bin .shl .u64 x k' y (.int .u64 ((x * 2 ^ y : Nat) : Int)) := Bin.shlN x y hy h
theorem Bin.and_u64 (x y : Nat) (hx : x ≤ 18446744073709551615) (hy : y ≤ 18446744073709551615) : Bin .and .u64 x .u64 y (.int .u64 ((x &&& y : Nat) : Int)) := Bin.andN x y hx hy
theorem Bin.or_u64 (x y : Nat) (hx : x ≤ 18446744073709551615) (hy : y ≤ 18446744073709551615) : Bin .or .u64 x .u64 y (.int .u64 ((x ||| y : Nat) : Int)) := Bin.orN x y hx hy
theorem Bin.and_u8 (x y : Nat) (hx : x ≤ 255) (hy : y ≤ 255) : Bin .and .u8 x .u8 y (.int .u8 ((x &&& y : Nat) : Int)) := Bin.andN x y hx hy
end
def oN (ops : Array Oper) (L i : Nat) : Bool := match ops[L]? with
 | none => true
 | some o => ! Nat.beq i L && o.after.any fun e => Region.binds .any e && Nat.beq e.on i
def fQ (P : Program) (ops : Array Oper) (Q : Exit → Act → World → Prop) (S : World → Prop) (L : Nat) : Nat → Array Bool → Act → World → Prop
 | 0, listed, a, w => Region.ready .any ops listed = [] ∧ Q .normal a w
 | f + 1, listed, a, w => (Region.ready .any ops listed = [] → Q .normal a w) ∧
  ∀ i ∈ Region.ready .any ops listed, wpOp P ops Q i (fun a' w' => (i ≠ L → S w') ∧ fQ P ops Q S L f (listed.setIfInBounds i true) a' w') a w
section
variable {P : Program} {ops : Array Oper} {Q : Exit → Act → World → Prop} {S : World → Prop} {L : Nat}
theorem xN : ∀ (f : Nat) (listed : Array Bool) (a : Act) (w : World), fQ P ops Q S L f listed a w → wpAny P .any ops Q f listed a w
 | 0, _, _, _, h => h
 | f + 1, _, _, _, h => ⟨h.1, fun i hi => wpOp_mono (fun a' w' h' => xN f _ a' w' h'.2) (h.2 i hi)⟩
theorem tN {i : Nat} {oi : Oper} {v : Value} (hi : ops[i]? = some oi) (hL : oN ops L i = true) (hsel : ∀ (j : Nat) (o : Oper) cs b, ops[j]? = some o → o.op ≠ .select cs b) (hQ : ∀ c a w, Q (.panic c) (a.put oi.dst v) w → Q (.panic c) a w) :
  ∀ (f : Nat) (listed : Array Bool) (a : Act) (w : World), (∀ j oj, ops[j]? = some oj → j ≠ i → listed.getD j true = false → (∀ e ∈ oj.after, Region.binds .any e = true → e.on ≠ i) → oi.apart ops oj = true) →
   i ∈ Region.ready .any ops listed → YieldsIf P ops S oi v a → S w → fQ P ops Q S L f (listed.setIfInBounds i true) (a.put oi.dst v) w → fQ P ops Q S L (f + 1) listed a w
 | f, listed, a, w, hfree, hr, hy, hS, H => by
  refine ⟨fun h => absurd hr (by rw [h]; simp), fun j hj => ?_⟩
  by_cases hji : j = i
  ·
   subst hji
   exact hy.wpOp hi hS ⟨fun _ => hS, H⟩
  have hj2 := ready_mono hj hji
  cases f with
  | zero => exact absurd hj2 (by rw [H.1]; simp)
  | succ f =>
   obtain ⟨hjun, oj, hoj, hall⟩ := mem_ready.1 hj
   have hiun := (mem_ready.1 hr).1
   have hnot : ∀ e ∈ oj.after, Region.binds .any e = true → e.on ≠ i := fun e he hb heq => by
    have h1 := hall e he hb
    rw [heq] at h1
    by_cases h' : i < listed.size
    ·
     simp [h'] at hiun h1
     rw [hiun] at h1
     cases h1
    simp [Array.getElem?_eq_none (Nat.le_of_not_lt h')] at h1
   have hjL : j ≠ L := fun h => by
    subst h
    unfold oN at hL
    rw [hoj] at hL
    simp only [Bool.and_eq_true, Array.any_eq_true'] at hL
    obtain ⟨_, e, he, hb, hon⟩ := hL
    exact hnot e he hb (Nat.eq_of_beq_eq_true hon)
   refine wpOp_mono (fun a' w' h3 => ?_) (wpOp_putIf hoj (hfree j oj hoj hji hjun hnot) (fun cs b => hsel i oi cs b hi) (fun cs b => hsel j oj cs b hoj) hQ hy (H.2 j hj2))
   refine ⟨h3.2.1, tN hi hL hsel hQ f _ a' w' (fun k ok hk hki hun hno => hfree k ok hk hki ?_ hno) (ready_mono hr (Ne.symm hji)) h3.1 (h3.2.1 hjL) ?_⟩
   ·
    by_cases hjk : j = k
    · subst hjk; exact hjun
    rwa [getD_set_ne true hjk] at hun
   rw [Array.setIfInBounds_comm _ _ hji]
   exact h3.2.2
theorem vP {i : Nat} {oi : Oper} {v : Value} {f : Nat} {listed : Array Bool} {a : Act} {w : World} (hi : ops[i]? = some oi) (hs : (Region.noSelect ops && oN ops L i) = true) (hf : Region.free .any ops listed i = true) (hr : (Region.ready .any ops listed).contains i = true)
  (hQ : ∀ c a w, Q (.panic c) (a.put oi.dst v) w → Q (.panic c) a w) (hy : YieldsIf P ops S oi v a) (hS : S w) (h : fQ P ops Q S L f (listed.setIfInBounds i true) (a.put oi.dst v) w) : fQ P ops Q S L (f + 1) listed a w :=
 tN hi (Bool.and_eq_true _ _ ▸ hs).2 (Region.noSelect_spec (Bool.and_eq_true _ _ ▸ hs).1) hQ f listed a w (Region.free_spec hi hf) (by simpa using hr) hy hS h
theorem sH {rs : List Nat} {f : Nat} {listed : Array Bool} {a : Act} {w : World} (hr : Region.ready .any ops listed = rs) (hne : rs ≠ [])
  (h : ∀ i ∈ rs, wpOp P ops Q i (fun a' w' => S w' ∧ fQ P ops Q S L f (listed.setIfInBounds i true) a' w') a w) : fQ P ops Q S L (f + 1) listed a w :=
 ⟨fun h0 => absurd (hr ▸ h0) hne, hr ▸ fun i hi => wpOp_mono (fun _ _ h => ⟨fun _ => h.1, h.2⟩) (h i hi)⟩
theorem qZ4 {f : Nat} {listed : Array Bool} {a : Act} {w : World} (hr : Region.ready .any ops listed = [L]) (h : wpOp P ops Q L (fun a' w' => fQ P ops Q S L f (listed.setIfInBounds L true) a' w') a w) : fQ P ops Q S L (f + 1) listed a w := by
 refine ⟨fun h0 => (by rw [hr] at h0; cases h0), fun i hi => ?_⟩
 rw [hr] at hi
 simp only [List.mem_singleton] at hi
 subst hi
 exact wpOp_mono (fun _ _ h => ⟨fun h0 => absurd rfl h0, h⟩) h
theorem qZ5 {listed : Array Bool} {a : Act} {w : World} (hr : Region.ready .any ops listed = []) (h : Q .normal a w) : ∀ f, fQ P ops Q S L f listed a w
 | 0 => ⟨hr, h⟩
 | _ + 1 => ⟨fun _ => h, by rw [hr]; simp⟩
end
def mL (n : NF) (K : Env → World → Prop) (Pn : List PanicEntry → World → Prop) (e : Exit) (a : Act) (w : World) : Prop := match e with
 | .normal => ∃ Γ, Sat n Γ a ∧ K Γ w
 | .panic ch => (a.tmps.size = n.n ∧ a.defers = n.D) ∧ Pn ch w
 | _ => False
def qJ (P : Program) (n : NF) (ops : Array Oper) (S : World → Prop) (Pn : List PanicEntry → World → Prop) (L fuel : Nat) (listed : Array Bool) (Γ : Env) (w : World) (K : Env → World → Prop) : Prop :=
 ∀ a, Sat n Γ a → fQ P ops (mL n K Pn) S L fuel listed a w
theorem zR {n : NF} {K : Env → World → Prop} {Pn : List PanicEntry → World → Prop} {d : Option Tmp} {v : Value} : ∀ (c : List PanicEntry) (a : Act) (w : World), mL n K Pn (.panic c) (a.put d v) w → mL n K Pn (.panic c) a w := by
 intro c a w h
 cases d with
 | none => exact h
 | some d => exact ⟨⟨by have := h.1.1; simpa [Act.put] using this, h.1.2⟩, h.2⟩
section
variable {P : Program} {n : NF} {Γ Γ' : Env} {w : World} {Q : Exit → Env → World → Prop} {Pn : List PanicEntry → World → Prop} {K : Env → World → Prop} {ops : Array Oper} {S S' : World → Prop} {L fuel : Nat} {listed : Array Bool}
theorem Up.g {j : Nat} {b c : Bool} (hy : yi ops Γ j = some (.bool b)) (hb : b = c) : Up ops Γ (some (j, c)) := by subst hb; exact hy
theorem VC.heldL {id : Nat} {l : List Oper} (L : Nat) (S : World → Prop) (hm : P.follows .mixedOrders = true)
  (h : qJ P n l.toArray S (fun ch w' => Q (.panic ch) [] w') L l.toArray.size (Array.replicate l.toArray.size false) Γ w.drew (fun Γ' w' => Q .normal Γ' w')) (hnd : n.ro = none ∨ kZ l.toArray = true := by first | exact .inl rfl | exact .inr (by kernel_rfl)) : VC P n (.region id l.toArray true) Γ w Q := by
 intro a hs m
 refine wpIn_mono (Q := mL n (fun Γ' w' => Q .normal Γ' w') (fun ch w' => Q (.panic ch) [] w')) (wpIn_region_any hm (wW hnd (fun ⟨_, _, h⟩ => h) _ _ _ _ (xN _ _ _ _ (h a hs)))) ?_
 intro e a w hq
 cases e with
 | normal => exact hq
 | panic ch => exact ⟨[], ⟨hq.1.1, hq.1.2, fun t v h => by simp [get?] at h⟩, hq.2⟩
 | _ => exact hq.elim
theorem VC.held {id : Nat} {l : List Oper} (S : World → Prop) (hm : P.follows .mixedOrders = true)
  (h : qJ P n l.toArray S (fun ch w' => Q (.panic ch) [] w') l.toArray.size l.toArray.size (Array.replicate l.toArray.size false) Γ w.drew (fun Γ' w' => Q .normal Γ' w')) (hnd : n.ro = none ∨ kZ l.toArray = true := by first | exact .inl rfl | exact .inr (by kernel_rfl)) : VC P n (.region id l.toArray true) Γ w Q := VC.heldL _ S hm h hnd
theorem qJ.done (hr : Region.ready .any ops listed = []) (h : K Γ w) : qJ P n ops S Pn L fuel listed Γ w K := fun _ hs => qZ5 hr ⟨Γ, hs, h⟩ fuel
theorem qJ.take {v : Value} {d : Nat} (i : Nat) {oi : Oper} (hi : ops[i]? = some oi) (hsel : (Region.noSelect ops && oN ops L i) = true) (hf : Region.free .any ops listed i = true) (hr : (Region.ready .any ops listed).contains i = true)
  (hS : S w) (h : ∀ w', S w' → Run P oi Γ w' v) (hup : Up ops Γ oi.guard) (hd : oi.dst = some d) (hn : Nat.blt d n.n = true)
  (k : qJ P n ops S Pn L fuel (listed.setIfInBounds i true) ((d, v) :: Γ) w K) : qJ P n ops S Pn L (fuel + 1) listed Γ w K := by
 intro a hs
 refine vP hi hsel hf hr zR (.inl ⟨hup.wanted hs, fun w' hw' => h w' hw' _ hs.fits⟩) hS ?_
 rw [hd]
 exact k _ (hs.put hn v)
theorem qJ.skip {d : Nat} (i : Nat) {oi : Oper} {j : Nat} {b c : Bool} (hi : ops[i]? = some oi) (hsel : (Region.noSelect ops && oN ops L i) = true) (hf : Region.free .any ops listed i = true) (hr : (Region.ready .any ops listed).contains i = true)
  (hS : S w) (hg : oi.guard = some (j, c)) (hy : yi ops Γ j = some (.bool b)) (hbc : b = ! c) (hd : oi.dst = some d) (hn : Nat.blt d n.n = true)
  (k : qJ P n ops S Pn L fuel (listed.setIfInBounds i true) ((d, undef) :: Γ) w K) : qJ P n ops S Pn L (fuel + 1) listed Γ w K := by
 intro a hs
 refine vP (v := undef) hi hsel hf hr zR (.inr ⟨?_, rfl⟩) hS ?_
 ·
  unfold Region.wanted
  rw [hg]
  simp only
  rw [uO hs hy, hbc]
  cases c <;> rfl
 rw [hd]
 exact k _ (hs.put hn undef)
theorem qJ.of_wp (i : Nat) {oi : Oper} (hi : ops[i]? = some oi) (hr : Region.ready .any ops listed = [i]) (hup : Up ops Γ oi.guard)
  (h : ∀ a, Sat n Γ a → oi.wp P a w (fun a' w' => S w' ∧ fQ P ops (mL n K Pn) S L fuel (listed.setIfInBounds i true) a' w') (mL n K Pn)) : qJ P n ops S Pn L (fuel + 1) listed Γ w K := by
 intro a hs
 refine sH hr jp ?_
 intro j hj
 simp only [List.mem_singleton] at hj
 subst hj
 unfold wpOp
 simp only [hi]
 rw [if_pos (hup.wanted hs)]
 exact .inl (h a hs)
theorem qJ.m {R : Value → World → Prop} {d : Nat} (i : Nat) {oi : Oper} (hi : ops[i]? = some oi) (hr : Region.ready .any ops listed = [i]) (h : qV P oi Γ w R) (hup : Up ops Γ oi.guard) (hd : oi.dst = some d) (hn : Nat.blt d n.n = true)
  (k : ∀ v w', R v w' → S w' ∧ qJ P n ops S Pn L fuel (listed.setIfInBounds i true) ((d, v) :: Γ) w' K) : qJ P n ops S Pn L (fuel + 1) listed Γ w K :=
 qJ.of_wp i hi hr hup fun a hs => by
  obtain ⟨v, w', hrun, hR⟩ := h _ hs.fits
  unfold Oper.wp
  rw [hrun, Oper.upon_value, hd]
  exact ⟨(k v w' hR).1, (k v w' hR).2 _ (hs.put hn v)⟩
theorem qJ.st {R : World → Prop} (i : Nat) {oi : Oper} (hi : ops[i]? = some oi) (hr : Region.ready .any ops listed = [i]) (h : qT P oi Γ w R) (hup : Up ops Γ oi.guard) (hd : oi.dst = none)
  (k : ∀ w', R w' → S w' ∧ qJ P n ops S Pn L fuel (listed.setIfInBounds i true) Γ w' K) : qJ P n ops S Pn L (fuel + 1) listed Γ w K :=
 qJ.of_wp i hi hr hup fun a hs => by
  obtain ⟨w', hrun, hR⟩ := h _ hs.fits
  unfold Oper.wp
  rw [hrun, Oper.upon_skip, hd]
  exact ⟨(k w' hR).1, (k w' hR).2 _ hs⟩
theorem qJ.stL {R : World → Prop} {oi : Oper} (hi : ops[L]? = some oi) (hr : Region.ready .any ops listed = [L]) (h : qT P oi Γ w R) (hup : Up ops Γ oi.guard) (hd : oi.dst = none)
  (k : ∀ w', R w' → qJ P n ops S Pn L fuel (listed.setIfInBounds L true) Γ w' K) : qJ P n ops S Pn L (fuel + 1) listed Γ w K := by
 intro a hs
 refine qZ4 hr ?_
 unfold wpOp
 simp only [hi]
 rw [if_pos (hup.wanted hs)]
 left
 obtain ⟨w', hrun, hR⟩ := h _ hs.fits
 unfold Oper.wp
 rw [hrun, Oper.upon_skip, hd]
 exact (k w' hR) _ hs
theorem qJ.cl {f : FuncId} {args : Array Value} {R : Ending → World → Prop} {d : Nat} (i : Nat) {oi : Oper} (hi : ops[i]? = some oi) (hr : Region.ready .any ops listed = [i]) (he : cM P oi Γ w f args) (hc : Calls P f args w R) (hup : Up ops Γ oi.guard) (hd : oi.dst = some d) (hn : Nat.blt d n.n = true)
  (k : ∀ e w', R e w' → ∃ v, e = .returned v ∧ S w' ∧ qJ P n ops S Pn L fuel (listed.setIfInBounds i true) ((d, v) :: Γ) w' K) : qJ P n ops S Pn L (fuel + 1) listed Γ w K :=
 qJ.of_wp i hi hr hup fun a hs => by
  unfold Oper.wp
  rw [he _ hs.fits, Oper.upon_enter, hd]
  refine hc.mono ?_
  intro e w' hR
  obtain ⟨v, rfl, h1, h2⟩ := k e w' hR
  exact ⟨h1, h2 _ (hs.put hn v)⟩
end
end
section
open Go.RowKit Go.ChangeShapes Go.WideShapes Go.Deep
def NB (xs : List Nat) : List Value := xs.map fun x : Nat => Value.int .u8 (x : Int)
theorem mO {α : Type} {Q : Nat → α → Prop} : ∀ n, (∀ i, i < n → ∃ s, Q i s) → ∃ l : List α, l.length = n ∧ ∀ i s, l[i]? = some s → Q i s
 | 0, _ => ⟨[], rfl, fun i s h => by simp at h⟩
 | n + 1, h => by
  obtain ⟨l, hl, hq⟩ := mO n (fun i hi => h i jo)
  obtain ⟨s, hs⟩ := h n jo
  refine ⟨l ++ [s], by simp [hl], fun i t ht => ?_⟩
  rcases Nat.lt_trichotomy i n with hi | hi | hi
  · rw [List.getElem?_append_left jo] at ht; exact hq i t ht
  ·
   subst hi
   rw [List.getElem?_append_right jo, hl, Nat.sub_self] at ht
   simp at ht
   subst ht
   exact hs
  rw [List.getElem?_eq_none (by simp; omega)] at ht; cases ht
theorem oP {α : Type} (f : α → List Value) (sz : Nat) (hf : ∀ a, (f a).length = sz) (l : List α) : (l.flatMap f).length = l.length * sz := by
 induction l with
 | nil => simp
 | cons a r ih => rw [List.flatMap_cons, List.length_append, hf, ih, List.length_cons, Nat.succ_mul]; omega
theorem qY1 {α : Type} (f : α → List Value) (sz : Nat) (hf : ∀ a, (f a).length = sz) (l : List α) (k : Nat) (h : k < l.length) : ((l.flatMap f).drop (k * sz)).take sz = f l[k] := by
 induction l generalizing k with
 | nil => simp at h
 | cons a r ih =>
  rw [List.flatMap_cons]
  cases k with
  | zero => rw [Nat.zero_mul, List.drop_zero, List.take_append_of_le_length (by rw [hf]; exact Nat.le_refl _), List.take_of_length_le (by rw [hf]; exact Nat.le_refl _)]; rfl
  | succ k =>
   have e : (k + 1) * sz = (f a).length + k * sz := by rw [hf, Nat.succ_mul]; omega
   rw [e, List.drop_append, List.drop_eq_nil_of_le jo, List.nil_append, Nat.add_sub_cancel_left, ih k (by simpa using h)]
   rfl
theorem wH {α : Type} (f : α → List Value) (hf : ∀ a, ∀ u ∈ f a, u.oneCell' = true) (l : List α) : ∀ u ∈ l.flatMap f, u.oneCell' = true := by
 intro u hu
 obtain ⟨a, _, h⟩ := List.mem_flatMap.1 hu
 exact hf a u h
theorem wM {α : Type} (f : α → List Value) (sz : Nat) (hsz : 0 < sz) (hf : ∀ a, (f a).length = sz) (l : List α) (j : Nat) : (l.flatMap f)[j]? = (l[j / sz]?).bind fun a => (f a)[j % sz]? := by
 induction l generalizing j with
 | nil => simp
 | cons a r ih =>
  rw [List.flatMap_cons]
  by_cases hj : j < sz
  · rw [List.getElem?_append_left (by rw [hf]; exact hj), Nat.div_eq_of_lt hj, Nat.mod_eq_of_lt hj]; rfl
  rw [List.getElem?_append_right (by rw [hf]; omega), hf, ih, Nat.mod_eq_sub_mod (a := j) jo]
  have : j / sz = (j - sz) / sz + 1 := by rw [← Nat.add_div_right _ hsz]; congr 1; omega
  rw [this]
  rfl
section
variable {H : Type} {enc : TypeId × Value → H} {P : Program} {w : World} {base : Nat} {spare : Nat → Bool} {held : Bool}
theorem qHl {t e : TypeId} {k : IntKind} {fuel len cap : Nat} {a : Option Addr} {x : DataW H × List MemPlace} (ht : P.underlying t = some (.slice e)) (he : P.underlying e = some (.int k)) (hc : P.cellsOf e = 1)
  (h : DataW.trod enc P w base spare held fuel t [.slice a len cap] = some x) :
  ∃ zs : List Int, zs.length = len ∧ len ≤ cap ∧ cap ≤ 9223372036854775807 ∧ Rd w 1 a len (zs.map (Value.int k)) ∧ ∀ z ∈ zs, (Lit.int k z).wf = true := by
 rcases open_ints ht he hc h with ⟨hcs, _⟩ | ⟨ad, l, c, zs, hcs, _, hl, hm, hz, _, hcell, hwz⟩
 ·
  simp only [List.cons.injEq, Value.slice.injEq, and_true] at hcs
  obtain ⟨rfl, rfl, rfl⟩ := hcs
  exact ⟨[], rfl, Nat.le_refl _, jo, Rd.nil _ _ _, jp⟩
 simp only [List.cons.injEq, Value.slice.injEq, and_true] at hcs
 obtain ⟨rfl, rfl, rfl⟩ := hcs
 have hzl : len ≤ zs.length := by rw [hz]; split <;> omega
 refine ⟨zs.take len, by rw [List.length_take]; omega, hl, by simpa [maxLen] using hm, ⟨by rw [List.length_map, List.length_take]; omega, fun hn => ⟨ad, rfl, ?_, fun j u hu => ?_⟩⟩, fun z hz => hwz z (List.mem_of_mem_take hz)⟩
 ·
  have := World.block_lt_of_cell? w _ (hcell 0 jo)
  rwa [gU] at this
 rw [List.getElem?_map] at hu
 by_cases hj : j < len
 ·
  rw [List.getElem?_take_of_lt hj, List.getElem?_eq_getElem jo] at hu
  simp only [Option.map_some, Option.some.injEq] at hu
  rw [hcell j jo, ← hu, List.getD_eq_getElem?_getD, List.getElem?_eq_getElem jo]
  rfl
 rw [List.getElem?_eq_none (by rw [List.length_take]; omega)] at hu
 cases hu
theorem qY2 {t e : TypeId} {fuel len cap : Nat} {a : Option Addr} {x : DataW H × List MemPlace} (ht : P.underlying t = some (.slice e)) (he : P.underlying e = some (.int .u8)) (hc : P.cellsOf e = 1)
  (h : DataW.trod enc P w base spare held fuel t [.slice a len cap] = some x) :
  ∃ bs : List Nat, bs.length = len ∧ len ≤ cap ∧ cap ≤ 9223372036854775807 ∧ (∀ b ∈ bs, b < 256) ∧ Rd w 1 a len (NB bs) := by
 obtain ⟨zs, h1, h2, h3, h4, h5⟩ := qHl ht he hc h
 have hz : ∀ z ∈ zs, 0 ≤ z ∧ z < 256 := by
  intro z hz
  have := bounds_u8 (h5 z hz)
  omega
 have e1 : NB (zs.map Int.toNat) = zs.map (Value.int .u8) := by
  unfold NB
  rw [List.map_map]
  apply List.map_congr_left
  intro z hz'
  have := (hz z hz').1
  simp only [Function.comp_apply]
  rw [Int.toNat_of_nonneg this]
 refine ⟨zs.map Int.toNat, by simpa using h1, h2, h3, ?_, by rw [e1]; exact h4⟩
 intro b hb
 obtain ⟨z, hz', rfl⟩ := List.mem_map.1 hb
 have := hz z hz'
 omega
end
end
section
open Go.RowKit
section
variable {P : Program} {n : NF} {Γ : Env} {w : World} {Q : Exit → Env → World → Prop} {K : Env → World → Prop} {KE : Env → Prop} {ops : Array Oper} {rest : List Oper} {d : Nat} {op : Op} {T : TypeId} {pos : String} {after : Array Edge}
theorem qY3 {j : Nat} {a : Act} (hs : Sat n Γ a) (h : yi ops Γ j = some undef) : yielded ops a.tmps j = none := by
 unfold yi at h
 unfold yielded
 cases hd : (ops[j]?).bind (·.dst) with
 | none => rfl
 | some t =>
  rw [hd] at h
  simp only [Option.bind_some] at h ⊢
  have := hs.at_ t _ h
  rw [Array.getD_eq_getD_getElem?] at this
  cases hg : a.tmps[t]? with
  | none => rfl
  | some u => rw [hg] at this; simp only [Option.getD_some] at this; subst this; rfl
theorem qXa {j : Nat} {c : Bool} {o : Oper} {a : Act} (hs : Sat n Γ a) (hg : o.guard = some (j, c)) (h : yi ops Γ j = some undef) : Region.wanted o (yielded ops a.tmps) = false := by
 unfold Region.wanted
 rw [hg]
 simp only
 rw [qY3 hs h]
 rfl
theorem Ops.skU {j : Nat} {c : Bool} (hy : yi ops Γ j = some undef) (hn : Nat.blt d n.n = true) (k : Ops P n ops rest ((d, undef) :: Γ) w Q) : Ops P n ops (⟨some d, op, T, pos, after, some (j, c)⟩ :: rest) Γ w Q := by
 intro a hs m
 unfold wpListIn
 rw [qXa hs rfl hy]
 simp only [Bool.false_eq_true, if_false]
 exact ⟨eL, k _ (hs.put hn undef) m⟩
theorem Ops.mg {R : Value → World → Prop} {j : Nat} {b c : Bool} (hy : yi ops Γ j = some (.bool b)) (hb : b = c) (h : qV P ⟨some d, op, T, pos, after, some (j, c)⟩ Γ w R) (hn : Nat.blt d n.n = true) (k : ∀ v w', R v w' → Ops P n ops rest ((d, v) :: Γ) w' Q) : Ops P n ops (⟨some d, op, T, pos, after, some (j, c)⟩ :: rest) Γ w Q :=
 Ops.does h (by subst hb; exact hy) rfl hn k
end
section
variable {P : Program} {Γ : Env} {w : World} {dst : Option Tmp} {T : TypeId} {pos : String} {after : Array Edge} {g : Option (Nat × Bool)}
theorem Run.indexA {t : TypeId} {x i : Operand} {a : Addr} {n : Nat} {k : IntKind} {e : TypeId} {sz : Nat} (j : Nat) (hx : ev? Γ x = some (.pointer (some a))) (hi : ev? Γ i = some (.int k j)) (ht : P.underlying t = some (.array n e))
  (hz : ∀ w, (sizeOf e).run P w = .ok sz w) (hj : j < n) : Run P ⟨dst, .indexAddr t x i, T, pos, after, g⟩ Γ w (.pointer (some (a.add (j * sz)))) := fun ρ hρ => by
 have h1 : (j : Int) < (n : Int) := jo
 simp [execOp, hρ _ _ hx, hρ _ _ hi, Instr.indexAt, asIntOf, run_underlying ht, hz, hj, Instr.sureAddr]
theorem Run.indexA1 {t : TypeId} {x i : Operand} {gb o n : Nat} {k : IntKind} {e : TypeId} (j : Nat) (hx : ev? Γ x = some (.pointer (some ⟨gb, o, none⟩))) (hi : ev? Γ i = some (.int k j)) (ht : P.underlying t = some (.array n e))
  (hz : ∀ w, (sizeOf e).run P w = .ok 1 w) (hj : j < n) : Run P ⟨dst, .indexAddr t x i, T, pos, after, g⟩ Γ w (.pointer (some ⟨gb, o + j, none⟩)) := by
 have := Run.indexA (P := P) (Γ := Γ) (w := w) (dst := dst) (T := T) (pos := pos) (after := after) (g := g) j hx hi ht hz hj
 have e : (⟨gb, o, none⟩ : Addr).add (j * 1) = ⟨gb, o + j, none⟩ := by unfold Addr.add; split <;> simp_all
 rwa [e] at this
theorem Run.loadB {t e : TypeId} {x : Operand} {gb sz : Nat} {cs : Array Value} (hx : ev? Γ x = some (.pointer (some ⟨gb, 0, none⟩))) (ht : ∀ w, (isAgg t).run P w = .ok true w) (hz : ∀ w, (sizeOf t).run P w = .ok sz w)
  (hb : Blk w gb e cs) (hl : cs.size = sz) : Run P ⟨dst, .load t x, T, pos, after, g⟩ Γ w (.agg cs) := by
 have := Run.loadA (P := P) (Γ := Γ) (w := w) (dst := dst) (T := T) (pos := pos) (after := after) (g := g) hx ht hz hb.cells (by simpa using hl)
 simpa using this
theorem zT {t : Tmp} {T : TypeId} {r : List ResultVar} {e : TypeId} {gb sz : Nat} {cs : Array Value} {K : List Value → Prop} (h1 : get? Γ t = some (.pointer (some ⟨gb, 0, none⟩))) (ht : ∀ w, (isAgg T).run P w = .ok true w) (hz : ∀ w, (sizeOf T).run P w = .ok sz w)
  (hb : Blk w gb e cs) (hl : cs.size = sz) (h : kI P r Γ w fun vs => K (.agg cs :: vs)) : kI P (.cell t T :: r) Γ w K :=
 cW (cs := cs.toList) h1 ht hz hb.cells (by simpa using hl) (by simpa using h)
theorem yU (z : Array Value) (n k : Nat) (hz : z.size = k) : (madeCells z (n * k)).toList = (List.replicate n z.toList).flatten := by
 apply List.ext_getElem?
 intro j
 rw [Array.getElem?_toList]
 unfold madeCells
 simp only [Array.getElem?_map, Array.getElem?_range]
 have hfl : (List.replicate n z.toList).flatten = (List.range n).flatMap (fun _ => z.toList) := by
  rw [List.flatMap_def]
  congr 1
  apply List.ext_getElem?
  intro i
  simp [List.getElem?_replicate]
  split
  · rename_i h; rw [List.getElem?_eq_getElem (by simpa using h)]; simp
  rename_i h; rw [List.getElem?_eq_none (by simpa using h)]; rfl
 rcases Nat.eq_zero_or_pos k with h0 | h0
 ·
  subst h0
  have : z = #[] := Array.eq_empty_of_size_eq_zero hz
  subst this
  simp
 rw [hfl, wM _ k h0 (fun _ => by simpa using hz)]
 by_cases hj : j < n * k
 ·
  have h2 : j / k < n := Nat.div_lt_of_lt_mul (by rw [Nat.mul_comm]; exact hj)
  have h3 : j % k < z.size := by rw [hz]; exact Nat.mod_lt _ h0
  rw [List.getElem?_eq_getElem (by simpa using h2)]
  simp only [hj, if_true, Option.map_some, hz, List.getElem_range, Option.bind_some, Array.getElem?_toList]
  rw [getElem!_pos z _ h3, Array.getElem?_eq_getElem h3]
 have h2 : ¬ j / k < n := by
  intro h
  have : j < n * k := by rw [Nat.mul_comm]; exact (Nat.div_lt_iff_lt_mul h0).1 h |> fun h => by rw [Nat.mul_comm]; exact h
  exact hj this
 rw [List.getElem?_eq_none (by simpa using h2)]
 simp [hj]
theorem qV.makeS {t e : TypeId} {x y : Operand} {z : Value} {size bytes n : Nat} {k k' : IntKind} (hx : ev? Γ x = some (.int k (n : Int))) (hy : ev? Γ y = some (.int k' (n : Int)))
  (ht : P.underlying t = some (.slice e)) (hi : (P.info? e).map (fun i => (i.zero, i.size, i.bytes)) = some (some z, size, bytes)) (hzs : z.cells.size = size) (hb : bytes * n ≤ 281474976710656) (hn : n ≤ 9223372036854775807) :
  qV P ⟨dst, .makeSlice t x y, T, pos, after, g⟩ Γ w (fun r w' => r = .slice (some ⟨w.heap.size, 0, none⟩) n n ∧ Own w' e size (some ⟨w.heap.size, 0, none⟩) n n (List.replicate n z.cells.toList).flatten ∧ Frm [] w w' ∧ w'.heap.size = w.heap.size + 1) := fun ρ hρ => by
 obtain ⟨i, hi1, hi2⟩ := Option.map_eq_some_iff.1 hi
 simp only [Prod.mk.injEq] at hi2
 obtain ⟨hz, hsz, hbt⟩ := hi2
 have hr := run_make (P := P) w t e i z ht hi1 hz k k' (n : Int) (n : Int) jo jo (by have h := Int.ofNat_le.2 hb; rw [Int.natCast_mul] at h; rw [hbt]; exact h) jo
 simp only [Int.toNat_natCast, hsz] at hr
 refine ⟨_, w.alloc (.cells (madeCells z.cells (n * size)) e), ?_, rfl, ?_, (Frm.refl _ _).alloc _, (Fresh.mk' w e _).size⟩
 · simp only [execOp, hρ _ _ hx, hρ _ _ hy, Sem.run_bind, hr, Result.andThen_ok, Sem.run_pure]
 rw [← yU z.cells n size hzs]
 exact Own.of_blk (Blk.new w e _) (by rw [size_madeCells]) (by simp [maxLen]; omega)
theorem qV.buildN {t e : TypeId} {size n : Nat} {parts : List (Nat × Operand)} {vs : List Value} {z : Value} {cells : Array Value} (hv : evs Γ (parts.map (·.2)) vs) (ht : P.underlying t = some (.slice e)) (hz : ∀ w, (sizeOf e).run P w = .ok size w)
  (hzv : ∀ w, (zeroValue e).run P w = .ok z w) (hn : Nat.beq (n * size) 0 = false) (hb : Nat.ble (n * size) 16777216 = true)
  (hf : Instr.fill (fun i => some (i * size, size)) ((Array.range (n * size)).map (z.cells[· % z.cells.size]!)) ((parts.map (·.1)).zip vs) = some cells) :
  qV P ⟨dst, .buildSlice t n parts.toArray, T, pos, after, g⟩ Γ w (fun r w' => r = .slice (some ⟨w.heap.size, 0, none⟩) n n ∧ Fresh w w' e cells) := fun ρ hρ => by
 have e1 := gV hρ _ _ hv
 have e2 : parts.map (fun p => (p.1, ρ p.2)) = (parts.map (·.1)).zip vs := by
  rw [← e1, List.map_map, List.zip_map']
  rfl
 have h1 : ¬ (n * size > 2 ^ 24) := by have := Nat.le_of_ble_eq_true hb; omega
 have h2 : ¬ (n * size = 0) := Nat.ne_of_beq_eq_false hn
 refine ⟨_, w.alloc (.cells cells e), ?_, rfl, Fresh.mk' _ _ _⟩
 simp only [execOp, Instr.buildSlice, Sem.run_bind, run_underlying ht, Result.andThen_ok, hz, Sem.run_ite, h1, h2, if_false, hzv, Sem.run_pure, List.map_toArray, e2, hf, newRow, run_newObj]
 rfl
theorem qXb {α : Type} (f : α → List Value) (sz : Nat) (hf : ∀ a, (f a).length = sz) : ∀ (l : List α) (j : Nat) (x : α), j < l.length → (l.set j x).flatMap f = (l.flatMap f).take (j * sz) ++ f x ++ (l.flatMap f).drop (j * sz + sz)
 | [], j, x, h => by simp at h
 | a :: r, 0, x, _ => by
  simp only [List.set_cons_zero, List.flatMap_cons, Nat.zero_mul, List.take_zero, List.nil_append, Nat.zero_add]
  rw [List.drop_append, List.drop_eq_nil_of_le (by rw [hf]; exact Nat.le_refl _), hf, Nat.sub_self, List.drop_zero, List.nil_append]
 | a :: r, j + 1, x, h => by
  have h2 : j < r.length := by simpa using h
  have ih := qXb f sz hf r j x h2
  simp only [List.set_cons_succ, List.flatMap_cons, ih]
  have e1 : (j + 1) * sz = (f a).length + j * sz := by rw [hf, Nat.succ_mul]; omega
  have e2 : (f a).length + j * sz + sz = (f a).length + (j * sz + sz) := jo
  rw [e1, e2, List.take_length_add_append, List.drop_length_add_append]
  simp [List.append_assoc]
end
section
variable {P : Program} {Γ : Env} {w : World} {dst : Option Tmp} {T : TypeId} {pos : String} {after : Array Edge} {g : Option (Nat × Bool)}
theorem Run.mkFunc {f : FuncId} {xs ys : List Operand} {vs us : List Value} (hx : evs Γ xs vs) (hy : evs Γ ys us) :
  Run P ⟨dst, .makeFunc (.func f) xs.toArray ys.toArray, T, pos, after, g⟩ Γ w (.func (.func f) vs.toArray us.toArray) := fun ρ hρ => by
 have e1 := gV hρ xs vs hx
 have e2 := gV hρ ys us hy
 simp [execOp, Instr.makeFunc, e1, e2]
theorem cM.dyn {c : Operand} {f : FuncId} {fs us : List Value} {xs : List Operand} {vs : List Value} {ts : Array TypeId} (hc : ev? Γ c = some (.func (.func f) fs.toArray us.toArray)) (hv : evs Γ xs vs) (hf : ∀ args w, (callFunc f args).run P w = .ok (.enter f args) w) :
  cM P ⟨dst, .call ⟨.value c, xs.toArray, ts⟩, T, pos, after, g⟩ Γ w f (fs ++ vs ++ us).toArray := fun ρ hρ => by
 have e := gV hρ xs vs hv
 have e2 : ρ c = .func (.func f) fs.toArray us.toArray := hρ _ _ hc
 simp [execOp, resolve, e2, Deferred.ofValue, invoke, e, hf]
end
section
variable {P : Program} {n : NF} {Γ : Env} {Pn : List PanicEntry → World → Prop} {w : World} {K : Env → World → Prop} {ops : Array Oper} {S : World → Prop} {L fuel : Nat} {listed : Array Bool}
theorem qJ.r1 {v : Value} {d : Nat} (i : Nat) {oi : Oper} (hi : ops[i]? = some oi) (hr : Region.ready .any ops listed = [i]) (hS : S w) (h : Run P oi Γ w v) (hup : Up ops Γ oi.guard) (hd : oi.dst = some d) (hn : Nat.blt d n.n = true)
  (k : qJ P n ops S Pn L fuel (listed.setIfInBounds i true) ((d, v) :: Γ) w K) : qJ P n ops S Pn L (fuel + 1) listed Γ w K :=
 qJ.of_wp i hi hr hup fun a hs => by
  unfold Oper.wp
  rw [h _ hs.fits, Oper.upon_value, hd]
  exact ⟨hS, k _ (hs.put hn v)⟩
theorem Sat.swap {a : Act} {d e : Nat} {u v : Value} (hne : Nat.beq d e = false) (h : Sat n ((d, u) :: (e, v) :: Γ) a) : Sat n ((e, v) :: (d, u) :: Γ) a :=
 ⟨h.size, h.defers, fun t x ht => by
  refine h.at_ t x ?_
  simp only [get?] at ht ⊢
  cases h1 : Nat.beq d t with
  | true =>
   rw [h1] at ht
   simp only [cond_true] at ht ⊢
   cases h2 : Nat.beq e t with
   | true =>
    have e1 := Nat.eq_of_beq_eq_true h1
    have e2 := Nat.eq_of_beq_eq_true h2
    subst e1 e2
    rw [Nat.beq_refl] at hne
    cases hne
   | false => rw [h2] at ht; simpa using ht
  | false =>
   rw [h1] at ht
   simp only [cond_false] at ht ⊢
   exact ht⟩
theorem qJ.r2 {u v : Value} {d e : Nat} (i j : Nat) {oi oj : Oper} (hi : ops[i]? = some oi) (hj : ops[j]? = some oj) (hr : Region.ready .any ops listed = [i, j]) (hri : Region.ready .any ops (listed.setIfInBounds i true) = [j]) (hrj : Region.ready .any ops (listed.setIfInBounds j true) = [i])
  (hl : (listed.setIfInBounds j true).setIfInBounds i true = (listed.setIfInBounds i true).setIfInBounds j true) (hS : S w) (hgi : oi.guard = none) (hgj : oj.guard = none)
  (h1 : Run P oi Γ w u) (h2 : Run P oj ((d, u) :: Γ) w v) (h3 : Run P oj Γ w v) (h4 : Run P oi ((e, v) :: Γ) w u) (hd : oi.dst = some d) (he : oj.dst = some e) (hdn : Nat.blt d n.n = true) (hen : Nat.blt e n.n = true) (hne : Nat.beq d e = false)
  (k : qJ P n ops S Pn L fuel ((listed.setIfInBounds i true).setIfInBounds j true) ((e, v) :: (d, u) :: Γ) w K) : qJ P n ops S Pn L (fuel + 1 + 1) listed Γ w K := by
 intro a hs
 refine sH hr jp ?_
 intro x hx
 simp only [List.mem_cons, List.not_mem_nil, or_false] at hx
 rcases hx with rfl | rfl
 ·
  unfold wpOp
  simp only [hi]
  rw [if_pos (by unfold Region.wanted; rw [hgi])]
  left
  unfold Oper.wp
  rw [h1 _ hs.fits, Oper.upon_value, hd]
  exact ⟨hS, (qJ.r1 (S := S) j hj hri hS h2 (by rw [hgj]; trivial) he hen k) _ (hs.put hdn u)⟩
 unfold wpOp
 simp only [hj]
 rw [if_pos (by unfold Region.wanted; rw [hgj])]
 left
 unfold Oper.wp
 rw [h3 _ hs.fits, Oper.upon_value, he]
 refine ⟨hS, (qJ.r1 (S := S) i hi hrj hS h4 (by rw [hgi]; trivial) hd hdn ?_) _ (hs.put hen v)⟩
 rw [hl]
 intro a' hs'
 exact k a' (Sat.swap hne hs')
end
section
variable {P : Program} {n : NF} {Γ : Env} {Pn : List PanicEntry → World → Prop} {w : World} {Q : Exit → Env → World → Prop}
theorem VC.splitR {c : Code} (Γk : Env) (R : World → Prop) (t : Nat) (v : Value) (h : VC P n c Γ w (lR (fun Γ1 w1 => Sub Γ1 ((t, v) :: Γk) ∧ R w1) Q)) (k : ∀ Γ1 w1, Sub Γ1 ((t, v) :: Γk) → R w1 → Q .normal Γ1 w1) : VC P n c Γ w Q :=
 h.mono fun e Γ' w' q => by
  cases e with
  | normal => exact k Γ' w' q.1 q.2
  | exit i => exact q
  | goto l => exact q
  | ret => exact q
  | panic c => exact q
  | outgrown => exact q
end
theorem Frm.cell {w v : World} {S : List Nat} (h : Frm S w v) {a : Addr} {x : Value} (hc : w.cell? a = some x) (hS : a.block ∉ S) : v.cell? a = some x := by
 rw [World.cell?_of_block (w := w) (a := a) (h.block _ (World.block_lt_of_cell? w _ hc) hS)]
 exact hc
theorem qV.mono {P : Program} {o : Oper} {Γ : Env} {w : World} {R R' : Value → World → Prop} (h : qV P o Γ w R) (hr : ∀ v w', R v w' → R' v w') : qV P o Γ w R' := fun ρ hρ =>
 let ⟨v, w', h1, h2⟩ := h ρ hρ; ⟨v, w', h1, hr v w' h2⟩
section
variable {P : Program} {n : NF} {Γ : Env} {Pn : List PanicEntry → World → Prop} {w : World} {K : Env → World → Prop} {ops : Array Oper} {S : World → Prop} {L fuel : Nat} {listed : Array Bool}
end
theorem jK {p : Prop} (h : p := by kernel_rfl) : p := h
theorem jC {a b : Bool} (h : a = b) : some (Value.bool a) = some (Value.bool b) := congrArg (fun b => some (Value.bool b)) h
theorem js1 {Γ : Env} {k0 : Nat} {v0 : Value} (h0 : get? Γ k0 = some v0) : Sub Γ [(k0, v0)] := (.cons h0 .nil)
theorem js2 {Γ : Env} {k0 k1 : Nat} {v0 v1 : Value} (h0 : get? Γ k0 = some v0) (h1 : get? Γ k1 = some v1) : Sub Γ [(k0, v0), (k1, v1)] := (.cons h0 (.cons h1 .nil))
theorem js3 {Γ : Env} {k0 k1 k2 : Nat} {v0 v1 v2 : Value} (h0 : get? Γ k0 = some v0) (h1 : get? Γ k1 = some v1) (h2 : get? Γ k2 = some v2) : Sub Γ [(k0, v0), (k1, v1), (k2, v2)] := (.cons h0 (.cons h1 (.cons h2 .nil)))
theorem js4 {Γ : Env} {k0 k1 k2 k3 : Nat} {v0 v1 v2 v3 : Value} (h0 : get? Γ k0 = some v0) (h1 : get? Γ k1 = some v1) (h2 : get? Γ k2 = some v2) (h3 : get? Γ k3 = some v3) : Sub Γ [(k0, v0), (k1, v1), (k2, v2), (k3, v3)] := (.cons h0 (.cons h1 (.cons h2 (.cons h3 .nil))))
theorem js5 {Γ : Env} {k0 k1 k2 k3 k4 : Nat} {v0 v1 v2 v3 v4 : Value} (h0 : get? Γ k0 = some v0) (h1 : get? Γ k1 = some v1) (h2 : get? Γ k2 = some v2) (h3 : get? Γ k3 = some v3) (h4 : get? Γ k4 = some v4) : Sub Γ [(k0, v0), (k1, v1), (k2, v2), (k3, v3), (k4, v4)] := (.cons h0 (.cons h1 (.cons h2 (.cons h3 (.cons h4 .nil)))))
theorem js6 {Γ : Env} {k0 k1 k2 k3 k4 k5 : Nat} {v0 v1 v2 v3 v4 v5 : Value} (h0 : get? Γ k0 = some v0) (h1 : get? Γ k1 = some v1) (h2 : get? Γ k2 = some v2) (h3 : get? Γ k3 = some v3) (h4 : get? Γ k4 = some v4) (h5 : get? Γ k5 = some v5) : Sub Γ [(k0, v0), (k1, v1), (k2, v2), (k3, v3), (k4, v4), (k5, v5)] := (.cons h0 (.cons h1 (.cons h2 (.cons h3 (.cons h4 (.cons h5 .nil))))))
theorem js7 {Γ : Env} {k0 k1 k2 k3 k4 k5 k6 : Nat} {v0 v1 v2 v3 v4 v5 v6 : Value} (h0 : get? Γ k0 = some v0) (h1 : get? Γ k1 = some v1) (h2 : get? Γ k2 = some v2) (h3 : get? Γ k3 = some v3) (h4 : get? Γ k4 = some v4) (h5 : get? Γ k5 = some v5) (h6 : get? Γ k6 = some v6) : Sub Γ [(k0, v0), (k1, v1), (k2, v2), (k3, v3), (k4, v4), (k5, v5), (k6, v6)] := (.cons h0 (.cons h1 (.cons h2 (.cons h3 (.cons h4 (.cons h5 (.cons h6 .nil)))))))
theorem js8 {Γ : Env} {k0 k1 k2 k3 k4 k5 k6 k7 : Nat} {v0 v1 v2 v3 v4 v5 v6 v7 : Value} (h0 : get? Γ k0 = some v0) (h1 : get? Γ k1 = some v1) (h2 : get? Γ k2 = some v2) (h3 : get? Γ k3 = some v3) (h4 : get? Γ k4 = some v4) (h5 : get? Γ k5 = some v5) (h6 : get? Γ k6 = some v6) (h7 : get? Γ k7 = some v7) : Sub Γ [(k0, v0), (k1, v1), (k2, v2), (k3, v3), (k4, v4), (k5, v5), (k6, v6), (k7, v7)] := (.cons h0 (.cons h1 (.cons h2 (.cons h3 (.cons h4 (.cons h5 (.cons h6 (.cons h7 .nil))))))))
theorem js9 {Γ : Env} {k0 k1 k2 k3 k4 k5 k6 k7 k8 : Nat} {v0 v1 v2 v3 v4 v5 v6 v7 v8 : Value} (h0 : get? Γ k0 = some v0) (h1 : get? Γ k1 = some v1) (h2 : get? Γ k2 = some v2) (h3 : get? Γ k3 = some v3) (h4 : get? Γ k4 = some v4) (h5 : get? Γ k5 = some v5) (h6 : get? Γ k6 = some v6) (h7 : get? Γ k7 = some v7) (h8 : get? Γ k8 = some v8) : Sub Γ [(k0, v0), (k1, v1), (k2, v2), (k3, v3), (k4, v4), (k5, v5), (k6, v6), (k7, v7), (k8, v8)] := (.cons h0 (.cons h1 (.cons h2 (.cons h3 (.cons h4 (.cons h5 (.cons h6 (.cons h7 (.cons h8 .nil)))))))))
theorem js10 {Γ : Env} {k0 k1 k2 k3 k4 k5 k6 k7 k8 k9 : Nat} {v0 v1 v2 v3 v4 v5 v6 v7 v8 v9 : Value} (h0 : get? Γ k0 = some v0) (h1 : get? Γ k1 = some v1) (h2 : get? Γ k2 = some v2) (h3 : get? Γ k3 = some v3) (h4 : get? Γ k4 = some v4) (h5 : get? Γ k5 = some v5) (h6 : get? Γ k6 = some v6) (h7 : get? Γ k7 = some v7) (h8 : get? Γ k8 = some v8) (h9 : get? Γ k9 = some v9) : Sub Γ [(k0, v0), (k1, v1), (k2, v2), (k3, v3), (k4, v4), (k5, v5), (k6, v6), (k7, v7), (k8, v8), (k9, v9)] := (.cons h0 (.cons h1 (.cons h2 (.cons h3 (.cons h4 (.cons h5 (.cons h6 (.cons h7 (.cons h8 (.cons h9 .nil))))))))))
theorem js11 {Γ : Env} {k0 k1 k2 k3 k4 k5 k6 k7 k8 k9 k10 : Nat} {v0 v1 v2 v3 v4 v5 v6 v7 v8 v9 v10 : Value} (h0 : get? Γ k0 = some v0) (h1 : get? Γ k1 = some v1) (h2 : get? Γ k2 = some v2) (h3 : get? Γ k3 = some v3) (h4 : get? Γ k4 = some v4) (h5 : get? Γ k5 = some v5) (h6 : get? Γ k6 = some v6) (h7 : get? Γ k7 = some v7) (h8 : get? Γ k8 = some v8) (h9 : get? Γ k9 = some v9) (h10 : get? Γ k10 = some v10) : Sub Γ [(k0, v0), (k1, v1), (k2, v2), (k3, v3), (k4, v4), (k5, v5), (k6, v6), (k7, v7), (k8, v8), (k9, v9), (k10, v10)] := (.cons h0 (.cons h1 (.cons h2 (.cons h3 (.cons h4 (.cons h5 (.cons h6 (.cons h7 (.cons h8 (.cons h9 (.cons h10 .nil)))))))))))
theorem js12 {Γ : Env} {k0 k1 k2 k3 k4 k5 k6 k7 k8 k9 k10 k11 : Nat} {v0 v1 v2 v3 v4 v5 v6 v7 v8 v9 v10 v11 : Value} (h0 : get? Γ k0 = some v0) (h1 : get? Γ k1 = some v1) (h2 : get? Γ k2 = some v2) (h3 : get? Γ k3 = some v3) (h4 : get? Γ k4 = some v4) (h5 : get? Γ k5 = some v5) (h6 : get? Γ k6 = some v6) (h7 : get? Γ k7 = some v7) (h8 : get? Γ k8 = some v8) (h9 : get? Γ k9 = some v9) (h10 : get? Γ k10 = some v10) (h11 : get? Γ k11 = some v11) : Sub Γ [(k0, v0), (k1, v1), (k2, v2), (k3, v3), (k4, v4), (k5, v5), (k6, v6), (k7, v7), (k8, v8), (k9, v9), (k10, v10), (k11, v11)] := (.cons h0 (.cons h1 (.cons h2 (.cons h3 (.cons h4 (.cons h5 (.cons h6 (.cons h7 (.cons h8 (.cons h9 (.cons h10 (.cons h11 .nil))))))))))))
theorem js13 {Γ : Env} {k0 k1 k2 k3 k4 k5 k6 k7 k8 k9 k10 k11 k12 : Nat} {v0 v1 v2 v3 v4 v5 v6 v7 v8 v9 v10 v11 v12 : Value} (h0 : get? Γ k0 = some v0) (h1 : get? Γ k1 = some v1) (h2 : get? Γ k2 = some v2) (h3 : get? Γ k3 = some v3) (h4 : get? Γ k4 = some v4) (h5 : get? Γ k5 = some v5) (h6 : get? Γ k6 = some v6) (h7 : get? Γ k7 = some v7) (h8 : get? Γ k8 = some v8) (h9 : get? Γ k9 = some v9) (h10 : get? Γ k10 = some v10) (h11 : get? Γ k11 = some v11) (h12 : get? Γ k12 = some v12) : Sub Γ [(k0, v0), (k1, v1), (k2, v2), (k3, v3), (k4, v4), (k5, v5), (k6, v6), (k7, v7), (k8, v8), (k9, v9), (k10, v10), (k11, v11), (k12, v12)] := (.cons h0 (.cons h1 (.cons h2 (.cons h3 (.cons h4 (.cons h5 (.cons h6 (.cons h7 (.cons h8 (.cons h9 (.cons h10 (.cons h11 (.cons h12 .nil)))))))))))))
theorem js14 {Γ : Env} {k0 k1 k2 k3 k4 k5 k6 k7 k8 k9 k10 k11 k12 k13 : Nat} {v0 v1 v2 v3 v4 v5 v6 v7 v8 v9 v10 v11 v12 v13 : Value} (h0 : get? Γ k0 = some v0) (h1 : get? Γ k1 = some v1) (h2 : get? Γ k2 = some v2) (h3 : get? Γ k3 = some v3) (h4 : get? Γ k4 = some v4) (h5 : get? Γ k5 = some v5) (h6 : get? Γ k6 = some v6) (h7 : get? Γ k7 = some v7) (h8 : get? Γ k8 = some v8) (h9 : get? Γ k9 = some v9) (h10 : get? Γ k10 = some v10) (h11 : get? Γ k11 = some v11) (h12 : get? Γ k12 = some v12) (h13 : get? Γ k13 = some v13) : Sub Γ [(k0, v0), (k1, v1), (k2, v2), (k3, v3), (k4, v4), (k5, v5), (k6, v6), (k7, v7), (k8, v8), (k9, v9), (k10, v10), (k11, v11), (k12, v12), (k13, v13)] := (.cons h0 (.cons h1 (.cons h2 (.cons h3 (.cons h4 (.cons h5 (.cons h6 (.cons h7 (.cons h8 (.cons h9 (.cons h10 (.cons h11 (.cons h12 (.cons h13 .nil))))))))))))))
theorem js15 {Γ : Env} {k0 k1 k2 k3 k4 k5 k6 k7 k8 k9 k10 k11 k12 k13 k14 : Nat} {v0 v1 v2 v3 v4 v5 v6 v7 v8 v9 v10 v11 v12 v13 v14 : Value} (h0 : get? Γ k0 = some v0) (h1 : get? Γ k1 = some v1) (h2 : get? Γ k2 = some v2) (h3 : get? Γ k3 = some v3) (h4 : get? Γ k4 = some v4) (h5 : get? Γ k5 = some v5) (h6 : get? Γ k6 = some v6) (h7 : get? Γ k7 = some v7) (h8 : get? Γ k8 = some v8) (h9 : get? Γ k9 = some v9) (h10 : get? Γ k10 = some v10) (h11 : get? Γ k11 = some v11) (h12 : get? Γ k12 = some v12) (h13 : get? Γ k13 = some v13) (h14 : get? Γ k14 = some v14) : Sub Γ [(k0, v0), (k1, v1), (k2, v2), (k3, v3), (k4, v4), (k5, v5), (k6, v6), (k7, v7), (k8, v8), (k9, v9), (k10, v10), (k11, v11), (k12, v12), (k13, v13), (k14, v14)] := (.cons h0 (.cons h1 (.cons h2 (.cons h3 (.cons h4 (.cons h5 (.cons h6 (.cons h7 (.cons h8 (.cons h9 (.cons h10 (.cons h11 (.cons h12 (.cons h13 (.cons h14 .nil)))))))))))))))
theorem js16 {Γ : Env} {k0 k1 k2 k3 k4 k5 k6 k7 k8 k9 k10 k11 k12 k13 k14 k15 : Nat} {v0 v1 v2 v3 v4 v5 v6 v7 v8 v9 v10 v11 v12 v13 v14 v15 : Value} (h0 : get? Γ k0 = some v0) (h1 : get? Γ k1 = some v1) (h2 : get? Γ k2 = some v2) (h3 : get? Γ k3 = some v3) (h4 : get? Γ k4 = some v4) (h5 : get? Γ k5 = some v5) (h6 : get? Γ k6 = some v6) (h7 : get? Γ k7 = some v7) (h8 : get? Γ k8 = some v8) (h9 : get? Γ k9 = some v9) (h10 : get? Γ k10 = some v10) (h11 : get? Γ k11 = some v11) (h12 : get? Γ k12 = some v12) (h13 : get? Γ k13 = some v13) (h14 : get? Γ k14 = some v14) (h15 : get? Γ k15 = some v15) : Sub Γ [(k0, v0), (k1, v1), (k2, v2), (k3, v3), (k4, v4), (k5, v5), (k6, v6), (k7, v7), (k8, v8), (k9, v9), (k10, v10), (k11, v11), (k12, v12), (k13, v13), (k14, v14), (k15, v15)] := (.cons h0 (.cons h1 (.cons h2 (.cons h3 (.cons h4 (.cons h5 (.cons h6 (.cons h7 (.cons h8 (.cons h9 (.cons h10 (.cons h11 (.cons h12 (.cons h13 (.cons h14 (.cons h15 .nil))))))))))))))))
section
variable {P : Program} {n : NF} {Γ : Env} {w : World} {Q : Exit → Env → World → Prop} {ops : Array Oper} {rest : List Oper} {d : Nat} {T : TypeId} {pos : String} {after : Array Edge}
theorem jM {x : Operand} {v : Value} (k : Ops P n ops rest ((d, v) :: Γ) w Q) (hx : ev? Γ x = some v := by exact rfl) (hn : Nat.blt d n.n = true := by exact rfl) : Ops P n ops (⟨some d, .move x, T, pos, after, none⟩ :: rest) Γ w Q := Ops.r (Run.mv hx) hn k
theorem jA {x : Operand} {v : Value} (k : Ops P n ops rest ((d, v) :: Γ) w Q) (hx : ev? Γ x = some v := by exact rfl) (hn : Nat.blt d n.n = true := by exact rfl) : Ops P n ops (⟨some d, .assign x, T, pos, after, none⟩ :: rest) Γ w Q := Ops.r (Run.asg hx) hn k
theorem jU {op : Op} {j : Nat} {b c : Bool} (k : Ops P n ops rest ((d, undef) :: Γ) w Q) (hy : yi ops Γ j = some (.bool b) := by exact rfl) (hb : b = !c := by exact au) (hn : Nat.blt d n.n = true := by exact rfl) : Ops P n ops (⟨some d, op, T, pos, after, some (j, c)⟩ :: rest) Γ w Q := Ops.sk hy hb hn k
theorem jG {x : Operand} {v : Value} {j : Nat} {b c : Bool} (k : Ops P n ops rest ((d, v) :: Γ) w Q) (hy : yi ops Γ j = some (.bool b) := by exact rfl) (hb : b = c := by exact au) (hx : ev? Γ x = some v := by exact rfl) (hn : Nat.blt d n.n = true := by exact rfl) : Ops P n ops (⟨some d, .move x, T, pos, after, some (j, c)⟩ :: rest) Γ w Q := Ops.rg hy hb (Run.mv hx) hn k
theorem jv1 (k0 : Nat) {v0 : Value} {c : Code} (h : VC P n c [(k0, v0)] w Q) (h0 : get? Γ k0 = some v0 := by exact rfl) : VC P n c Γ w Q := VC.sub _ (js1 h0) h
theorem jv2 (k0 k1 : Nat) {v0 v1 : Value} {c : Code} (h : VC P n c [(k0, v0), (k1, v1)] w Q) (h0 : get? Γ k0 = some v0 := by exact rfl) (h1 : get? Γ k1 = some v1 := by exact rfl) : VC P n c Γ w Q := VC.sub _ (js2 h0 h1) h
theorem jv3 (k0 k1 k2 : Nat) {v0 v1 v2 : Value} {c : Code} (h : VC P n c [(k0, v0), (k1, v1), (k2, v2)] w Q) (h0 : get? Γ k0 = some v0 := by exact rfl) (h1 : get? Γ k1 = some v1 := by exact rfl) (h2 : get? Γ k2 = some v2 := by exact rfl) : VC P n c Γ w Q := VC.sub _ (js3 h0 h1 h2) h
theorem jv4 (k0 k1 k2 k3 : Nat) {v0 v1 v2 v3 : Value} {c : Code} (h : VC P n c [(k0, v0), (k1, v1), (k2, v2), (k3, v3)] w Q) (h0 : get? Γ k0 = some v0 := by exact rfl) (h1 : get? Γ k1 = some v1 := by exact rfl) (h2 : get? Γ k2 = some v2 := by exact rfl) (h3 : get? Γ k3 = some v3 := by exact rfl) : VC P n c Γ w Q := VC.sub _ (js4 h0 h1 h2 h3) h
theorem jv5 (k0 k1 k2 k3 k4 : Nat) {v0 v1 v2 v3 v4 : Value} {c : Code} (h : VC P n c [(k0, v0), (k1, v1), (k2, v2), (k3, v3), (k4, v4)] w Q) (h0 : get? Γ k0 = some v0 := by exact rfl) (h1 : get? Γ k1 = some v1 := by exact rfl) (h2 : get? Γ k2 = some v2 := by exact rfl) (h3 : get? Γ k3 = some v3 := by exact rfl) (h4 : get? Γ k4 = some v4 := by exact rfl) : VC P n c Γ w Q := VC.sub _ (js5 h0 h1 h2 h3 h4) h
theorem jv6 (k0 k1 k2 k3 k4 k5 : Nat) {v0 v1 v2 v3 v4 v5 : Value} {c : Code} (h : VC P n c [(k0, v0), (k1, v1), (k2, v2), (k3, v3), (k4, v4), (k5, v5)] w Q) (h0 : get? Γ k0 = some v0 := by exact rfl) (h1 : get? Γ k1 = some v1 := by exact rfl) (h2 : get? Γ k2 = some v2 := by exact rfl) (h3 : get? Γ k3 = some v3 := by exact rfl) (h4 : get? Γ k4 = some v4 := by exact rfl) (h5 : get? Γ k5 = some v5 := by exact rfl) : VC P n c Γ w Q := VC.sub _ (js6 h0 h1 h2 h3 h4 h5) h
theorem jv7 (k0 k1 k2 k3 k4 k5 k6 : Nat) {v0 v1 v2 v3 v4 v5 v6 : Value} {c : Code} (h : VC P n c [(k0, v0), (k1, v1), (k2, v2), (k3, v3), (k4, v4), (k5, v5), (k6, v6)] w Q) (h0 : get? Γ k0 = some v0 := by exact rfl) (h1 : get? Γ k1 = some v1 := by exact rfl) (h2 : get? Γ k2 = some v2 := by exact rfl) (h3 : get? Γ k3 = some v3 := by exact rfl) (h4 : get? Γ k4 = some v4 := by exact rfl) (h5 : get? Γ k5 = some v5 := by exact rfl) (h6 : get? Γ k6 = some v6 := by exact rfl) : VC P n c Γ w Q := VC.sub _ (js7 h0 h1 h2 h3 h4 h5 h6) h
theorem jv8 (k0 k1 k2 k3 k4 k5 k6 k7 : Nat) {v0 v1 v2 v3 v4 v5 v6 v7 : Value} {c : Code} (h : VC P n c [(k0, v0), (k1, v1), (k2, v2), (k3, v3), (k4, v4), (k5, v5), (k6, v6), (k7, v7)] w Q) (h0 : get? Γ k0 = some v0 := by exact rfl) (h1 : get? Γ k1 = some v1 := by exact rfl) (h2 : get? Γ k2 = some v2 := by exact rfl) (h3 : get? Γ k3 = some v3 := by exact rfl) (h4 : get? Γ k4 = some v4 := by exact rfl) (h5 : get? Γ k5 = some v5 := by exact rfl) (h6 : get? Γ k6 = some v6 := by exact rfl) (h7 : get? Γ k7 = some v7 := by exact rfl) : VC P n c Γ w Q := VC.sub _ (js8 h0 h1 h2 h3 h4 h5 h6 h7) h
theorem jv9 (k0 k1 k2 k3 k4 k5 k6 k7 k8 : Nat) {v0 v1 v2 v3 v4 v5 v6 v7 v8 : Value} {c : Code} (h : VC P n c [(k0, v0), (k1, v1), (k2, v2), (k3, v3), (k4, v4), (k5, v5), (k6, v6), (k7, v7), (k8, v8)] w Q) (h0 : get? Γ k0 = some v0 := by exact rfl) (h1 : get? Γ k1 = some v1 := by exact rfl) (h2 : get? Γ k2 = some v2 := by exact rfl) (h3 : get? Γ k3 = some v3 := by exact rfl) (h4 : get? Γ k4 = some v4 := by exact rfl) (h5 : get? Γ k5 = some v5 := by exact rfl) (h6 : get? Γ k6 = some v6 := by exact rfl) (h7 : get? Γ k7 = some v7 := by exact rfl) (h8 : get? Γ k8 = some v8 := by exact rfl) : VC P n c Γ w Q := VC.sub _ (js9 h0 h1 h2 h3 h4 h5 h6 h7 h8) h
theorem jv10 (k0 k1 k2 k3 k4 k5 k6 k7 k8 k9 : Nat) {v0 v1 v2 v3 v4 v5 v6 v7 v8 v9 : Value} {c : Code} (h : VC P n c [(k0, v0), (k1, v1), (k2, v2), (k3, v3), (k4, v4), (k5, v5), (k6, v6), (k7, v7), (k8, v8), (k9, v9)] w Q) (h0 : get? Γ k0 = some v0 := by exact rfl) (h1 : get? Γ k1 = some v1 := by exact rfl) (h2 : get? Γ k2 = some v2 := by exact rfl) (h3 : get? Γ k3 = some v3 := by exact rfl) (h4 : get? Γ k4 = some v4 := by exact rfl) (h5 : get? Γ k5 = some v5 := by exact rfl) (h6 : get? Γ k6 = some v6 := by exact rfl) (h7 : get? Γ k7 = some v7 := by exact rfl) (h8 : get? Γ k8 = some v8 := by exact rfl) (h9 : get? Γ k9 = some v9 := by exact rfl) : VC P n c Γ w Q := VC.sub _ (js10 h0 h1 h2 h3 h4 h5 h6 h7 h8 h9) h
theorem jv11 (k0 k1 k2 k3 k4 k5 k6 k7 k8 k9 k10 : Nat) {v0 v1 v2 v3 v4 v5 v6 v7 v8 v9 v10 : Value} {c : Code} (h : VC P n c [(k0, v0), (k1, v1), (k2, v2), (k3, v3), (k4, v4), (k5, v5), (k6, v6), (k7, v7), (k8, v8), (k9, v9), (k10, v10)] w Q) (h0 : get? Γ k0 = some v0 := by exact rfl) (h1 : get? Γ k1 = some v1 := by exact rfl) (h2 : get? Γ k2 = some v2 := by exact rfl) (h3 : get? Γ k3 = some v3 := by exact rfl) (h4 : get? Γ k4 = some v4 := by exact rfl) (h5 : get? Γ k5 = some v5 := by exact rfl) (h6 : get? Γ k6 = some v6 := by exact rfl) (h7 : get? Γ k7 = some v7 := by exact rfl) (h8 : get? Γ k8 = some v8 := by exact rfl) (h9 : get? Γ k9 = some v9 := by exact rfl) (h10 : get? Γ k10 = some v10 := by exact rfl) : VC P n c Γ w Q := VC.sub _ (js11 h0 h1 h2 h3 h4 h5 h6 h7 h8 h9 h10) h
theorem jv12 (k0 k1 k2 k3 k4 k5 k6 k7 k8 k9 k10 k11 : Nat) {v0 v1 v2 v3 v4 v5 v6 v7 v8 v9 v10 v11 : Value} {c : Code} (h : VC P n c [(k0, v0), (k1, v1), (k2, v2), (k3, v3), (k4, v4), (k5, v5), (k6, v6), (k7, v7), (k8, v8), (k9, v9), (k10, v10), (k11, v11)] w Q) (h0 : get? Γ k0 = some v0 := by exact rfl) (h1 : get? Γ k1 = some v1 := by exact rfl) (h2 : get? Γ k2 = some v2 := by exact rfl) (h3 : get? Γ k3 = some v3 := by exact rfl) (h4 : get? Γ k4 = some v4 := by exact rfl) (h5 : get? Γ k5 = some v5 := by exact rfl) (h6 : get? Γ k6 = some v6 := by exact rfl) (h7 : get? Γ k7 = some v7 := by exact rfl) (h8 : get? Γ k8 = some v8 := by exact rfl) (h9 : get? Γ k9 = some v9 := by exact rfl) (h10 : get? Γ k10 = some v10 := by exact rfl) (h11 : get? Γ k11 = some v11 := by exact rfl) : VC P n c Γ w Q := VC.sub _ (js12 h0 h1 h2 h3 h4 h5 h6 h7 h8 h9 h10 h11) h
theorem jv13 (k0 k1 k2 k3 k4 k5 k6 k7 k8 k9 k10 k11 k12 : Nat) {v0 v1 v2 v3 v4 v5 v6 v7 v8 v9 v10 v11 v12 : Value} {c : Code} (h : VC P n c [(k0, v0), (k1, v1), (k2, v2), (k3, v3), (k4, v4), (k5, v5), (k6, v6), (k7, v7), (k8, v8), (k9, v9), (k10, v10), (k11, v11), (k12, v12)] w Q) (h0 : get? Γ k0 = some v0 := by exact rfl) (h1 : get? Γ k1 = some v1 := by exact rfl) (h2 : get? Γ k2 = some v2 := by exact rfl) (h3 : get? Γ k3 = some v3 := by exact rfl) (h4 : get? Γ k4 = some v4 := by exact rfl) (h5 : get? Γ k5 = some v5 := by exact rfl) (h6 : get? Γ k6 = some v6 := by exact rfl) (h7 : get? Γ k7 = some v7 := by exact rfl) (h8 : get? Γ k8 = some v8 := by exact rfl) (h9 : get? Γ k9 = some v9 := by exact rfl) (h10 : get? Γ k10 = some v10 := by exact rfl) (h11 : get? Γ k11 = some v11 := by exact rfl) (h12 : get? Γ k12 = some v12 := by exact rfl) : VC P n c Γ w Q := VC.sub _ (js13 h0 h1 h2 h3 h4 h5 h6 h7 h8 h9 h10 h11 h12) h
theorem jv14 (k0 k1 k2 k3 k4 k5 k6 k7 k8 k9 k10 k11 k12 k13 : Nat) {v0 v1 v2 v3 v4 v5 v6 v7 v8 v9 v10 v11 v12 v13 : Value} {c : Code} (h : VC P n c [(k0, v0), (k1, v1), (k2, v2), (k3, v3), (k4, v4), (k5, v5), (k6, v6), (k7, v7), (k8, v8), (k9, v9), (k10, v10), (k11, v11), (k12, v12), (k13, v13)] w Q) (h0 : get? Γ k0 = some v0 := by exact rfl) (h1 : get? Γ k1 = some v1 := by exact rfl) (h2 : get? Γ k2 = some v2 := by exact rfl) (h3 : get? Γ k3 = some v3 := by exact rfl) (h4 : get? Γ k4 = some v4 := by exact rfl) (h5 : get? Γ k5 = some v5 := by exact rfl) (h6 : get? Γ k6 = some v6 := by exact rfl) (h7 : get? Γ k7 = some v7 := by exact rfl) (h8 : get? Γ k8 = some v8 := by exact rfl) (h9 : get? Γ k9 = some v9 := by exact rfl) (h10 : get? Γ k10 = some v10 := by exact rfl) (h11 : get? Γ k11 = some v11 := by exact rfl) (h12 : get? Γ k12 = some v12 := by exact rfl) (h13 : get? Γ k13 = some v13 := by exact rfl) : VC P n c Γ w Q := VC.sub _ (js14 h0 h1 h2 h3 h4 h5 h6 h7 h8 h9 h10 h11 h12 h13) h
theorem jv15 (k0 k1 k2 k3 k4 k5 k6 k7 k8 k9 k10 k11 k12 k13 k14 : Nat) {v0 v1 v2 v3 v4 v5 v6 v7 v8 v9 v10 v11 v12 v13 v14 : Value} {c : Code} (h : VC P n c [(k0, v0), (k1, v1), (k2, v2), (k3, v3), (k4, v4), (k5, v5), (k6, v6), (k7, v7), (k8, v8), (k9, v9), (k10, v10), (k11, v11), (k12, v12), (k13, v13), (k14, v14)] w Q) (h0 : get? Γ k0 = some v0 := by exact rfl) (h1 : get? Γ k1 = some v1 := by exact rfl) (h2 : get? Γ k2 = some v2 := by exact rfl) (h3 : get? Γ k3 = some v3 := by exact rfl) (h4 : get? Γ k4 = some v4 := by exact rfl) (h5 : get? Γ k5 = some v5 := by exact rfl) (h6 : get? Γ k6 = some v6 := by exact rfl) (h7 : get? Γ k7 = some v7 := by exact rfl) (h8 : get? Γ k8 = some v8 := by exact rfl) (h9 : get? Γ k9 = some v9 := by exact rfl) (h10 : get? Γ k10 = some v10 := by exact rfl) (h11 : get? Γ k11 = some v11 := by exact rfl) (h12 : get? Γ k12 = some v12 := by exact rfl) (h13 : get? Γ k13 = some v13 := by exact rfl) (h14 : get? Γ k14 = some v14 := by exact rfl) : VC P n c Γ w Q := VC.sub _ (js15 h0 h1 h2 h3 h4 h5 h6 h7 h8 h9 h10 h11 h12 h13 h14) h
theorem jv16 (k0 k1 k2 k3 k4 k5 k6 k7 k8 k9 k10 k11 k12 k13 k14 k15 : Nat) {v0 v1 v2 v3 v4 v5 v6 v7 v8 v9 v10 v11 v12 v13 v14 v15 : Value} {c : Code} (h : VC P n c [(k0, v0), (k1, v1), (k2, v2), (k3, v3), (k4, v4), (k5, v5), (k6, v6), (k7, v7), (k8, v8), (k9, v9), (k10, v10), (k11, v11), (k12, v12), (k13, v13), (k14, v14), (k15, v15)] w Q) (h0 : get? Γ k0 = some v0 := by exact rfl) (h1 : get? Γ k1 = some v1 := by exact rfl) (h2 : get? Γ k2 = some v2 := by exact rfl) (h3 : get? Γ k3 = some v3 := by exact rfl) (h4 : get? Γ k4 = some v4 := by exact rfl) (h5 : get? Γ k5 = some v5 := by exact rfl) (h6 : get? Γ k6 = some v6 := by exact rfl) (h7 : get? Γ k7 = some v7 := by exact rfl) (h8 : get? Γ k8 = some v8 := by exact rfl) (h9 : get? Γ k9 = some v9 := by exact rfl) (h10 : get? Γ k10 = some v10 := by exact rfl) (h11 : get? Γ k11 = some v11 := by exact rfl) (h12 : get? Γ k12 = some v12 := by exact rfl) (h13 : get? Γ k13 = some v13 := by exact rfl) (h14 : get? Γ k14 = some v14 := by exact rfl) (h15 : get? Γ k15 = some v15 := by exact rfl) : VC P n c Γ w Q := VC.sub _ (js16 h0 h1 h2 h3 h4 h5 h6 h7 h8 h9 h10 h11 h12 h13 h14 h15) h
theorem je {op : Op} {v : Value} (h : Run P ⟨some d, op, T, pos, after, none⟩ Γ w v) (k : Ops P n ops rest ((d, v) :: Γ) w Q) (hn : Nat.blt d n.n = true := by exact rfl) : Ops P n ops (⟨some d, op, T, pos, after, none⟩ :: rest) Γ w Q := Ops.r h hn k
theorem jb {bo : BinOp} {xT yT : TypeId} {x y : Operand} {k k1 : IntKind} {a b : Int} {v : Value} (hx : ev? Γ x = some (.int k a)) (hy : ev? Γ y = some (.int k1 b)) (hb : Bin bo k a k1 b v) (kk : Ops P n ops rest ((d, v) :: Γ) w Q) (hn : Nat.blt d n.n = true := by exact rfl) : Ops P n ops (⟨some d, .binOp bo xT x y yT, T, pos, after, none⟩ :: rest) Γ w Q := Ops.r (Run.bin hx hy hb) hn kk
theorem jl {t : TypeId} {x : Operand} {a : Addr} {v : Value} (hx : ev? Γ x = some (.pointer (some a))) (ht : ∀ w, (isAgg t).run P w = .ok false w) (hc : w.cell? a = some v) (kk : Ops P n ops rest ((d, v) :: Γ) w Q) (hn : Nat.blt d n.n = true := by exact rfl) : Ops P n ops (⟨some d, .load t x, T, pos, after, none⟩ :: rest) Γ w Q := Ops.r (Run.load hx ht hc) hn kk
theorem jf {s : TypeId} {x : Operand} {f : Nat} {a : Addr} {fs : Array Field} {fd : Field} {sz : Nat} (hx : ev? Γ x = some (.pointer (some a))) (hs : P.underlying s = some (.struct fs)) (hf : fs[f]? = some fd) (hz : ∀ w, (sizeOf fd.type).run P w = .ok sz w) (kk : Ops P n ops rest ((d, .pointer (some (a.add fd.offset))) :: Γ) w Q) (hz0 : sz ≠ 0 := by decide) (hn : Nat.blt d n.n = true := by exact rfl) : Ops P n ops (⟨some d, .fieldAddr s x f, T, pos, after, none⟩ :: rest) Γ w Q := Ops.r (Run.fieldAddr hx hs hf hz hz0) hn kk
theorem jz (m : Nat) {x : Operand} (kk : Ops P n ops rest ((d, .int .i64 ((m : Nat) : Int)) :: Γ) w Q) (hx : ev? Γ x = some (.int .i64 ((m : Nat) : Int)) := by exact rfl) (hn : Nat.blt d n.n = true := by exact rfl) : Ops P n ops (⟨some d, .assign x, T, pos, after, none⟩ :: rest) Γ w Q := Ops.r (Run.asg hx) hn kk
theorem jm {x : Operand} {v : Value} (hx : ev? Γ x = some v) (k : Ops P n ops rest ((d, v) :: Γ) w Q) (hn : Nat.blt d n.n = true := by exact rfl) : Ops P n ops (⟨some d, .move x, T, pos, after, none⟩ :: rest) Γ w Q := Ops.r (Run.mv hx) hn k
theorem ja {x : Operand} {v : Value} (hx : ev? Γ x = some v) (k : Ops P n ops rest ((d, v) :: Γ) w Q) (hn : Nat.blt d n.n = true := by exact rfl) : Ops P n ops (⟨some d, .assign x, T, pos, after, none⟩ :: rest) Γ w Q := Ops.r (Run.asg hx) hn k
theorem jS {x y : Code} (h : VC P n x Γ w (lR (fun Γ' w' => VC P n y Γ' w' Q) Q)) : VC P n (.seq x y) Γ w Q := VC.seq h
theorem jR {id : Nat} {l : List Oper} (h : Ops P n l.toArray l Γ w Q) : VC P n (.region id l.toArray false) Γ w Q := VC.region h
theorem jB {id : Nat} {c : Code} (h : VC P n c Γ w (lS id Q)) : VC P n (.block id c) Γ w Q := VC.block h
theorem jQ (h : Q .normal Γ w) : VC P n .skip Γ w Q := VC.skip h
theorem jT (h : Q .ret Γ w) : VC P n .ret Γ w Q := VC.ret h
theorem jX {id : Nat} (h : Q (.exit id) Γ w) : VC P n (.exit id) Γ w Q := VC.exit h
theorem jO (h : Q .normal Γ w) : Ops P n ops [] Γ w Q := Ops.nil h
theorem jN {K : Env → World → Prop} (h : K Γ w) : lR K Q .normal Γ w := h
end
theorem jH {P : Program} {n : NF} {ops : Array Oper} {S : World → Prop} {Pn : List PanicEntry → World → Prop} {L fuel : Nat} {listed : Array Bool} {Γ : Env} {w : World} {K : Env → World → Prop} {v : Value} {d : Nat} (i : Nat) {oi : Oper} (hi : ops[i]? = some oi) (hS : S w) (h : ∀ w', S w' → Run P oi Γ w' v) (k : qJ P n ops S Pn L fuel (listed.setIfInBounds i true) ((d, v) :: Γ) w K) (hsel : (Region.noSelect ops && oN ops L i) = true := by kernel_rfl) (hf : Region.free .any ops listed i = true := by kernel_rfl) (hr : (Region.ready .any ops listed).contains i = true := by kernel_rfl) (hup : Up ops Γ oi.guard := by exact trivial) (hd : oi.dst = some d := by exact rfl) (hn : Nat.blt d n.n = true := by exact rfl) : qJ P n ops S Pn L (fuel + 1) listed Γ w K := qJ.take i hi hsel hf hr hS h hup hd hn k
theorem jh {P : Program} {n : NF} {ops : Array Oper} {S : World → Prop} {Pn : List PanicEntry → World → Prop} {L fuel : Nat} {listed : Array Bool} {Γ : Env} {w : World} {K : Env → World → Prop} {v : Value} {d : Nat} {x : Operand} {T : TypeId} {pos : String} {after : Array Edge} (i : Nat) (hS : S w) (k : qJ P n ops S Pn L fuel (listed.setIfInBounds i true) ((d, v) :: Γ) w K) (hi : ops[i]? = some ⟨some d, .move x, T, pos, after, none⟩ := by exact rfl) (hx : ev? Γ x = some v := by exact rfl) (hsel : (Region.noSelect ops && oN ops L i) = true := by kernel_rfl) (hf : Region.free .any ops listed i = true := by kernel_rfl) (hr : (Region.ready .any ops listed).contains i = true := by kernel_rfl) (hn : Nat.blt d n.n = true := by exact rfl) : qJ P n ops S Pn L (fuel + 1) listed Γ w K := qJ.take i hi hsel hf hr hS (fun _ _ => Run.mv hx) trivial rfl hn k
section
variable {P : Program} {Γ : Env} {w : World} {dst : Option Tmp} {T : TypeId} {pos : String} {after : Array Edge} {g : Option (Nat × Bool)} {f : FuncId} {ts : Array TypeId}
theorem jE0 (hf : ∀ args w, (callFunc f args).run P w = .ok (.enter f args) w)  : cM P ⟨dst, .call ⟨.value (.func f), #[], ts⟩, T, pos, after, g⟩ Γ w f #[] := cM.fn evs.nil hf
theorem jE1 {x0 : Operand} {v0 : Value} (hf : ∀ args w, (callFunc f args).run P w = .ok (.enter f args) w) (h0 : ev? Γ x0 = some v0 := by exact rfl) : cM P ⟨dst, .call ⟨.value (.func f), #[x0], ts⟩, T, pos, after, g⟩ Γ w f #[v0] := cM.fn (evs.cons h0 evs.nil) hf
theorem jE2 {x0 x1 : Operand} {v0 v1 : Value} (hf : ∀ args w, (callFunc f args).run P w = .ok (.enter f args) w) (h0 : ev? Γ x0 = some v0 := by exact rfl) (h1 : ev? Γ x1 = some v1 := by exact rfl) : cM P ⟨dst, .call ⟨.value (.func f), #[x0, x1], ts⟩, T, pos, after, g⟩ Γ w f #[v0, v1] := cM.fn (evs.cons h0 (evs.cons h1 evs.nil)) hf
theorem jE3 {x0 x1 x2 : Operand} {v0 v1 v2 : Value} (hf : ∀ args w, (callFunc f args).run P w = .ok (.enter f args) w) (h0 : ev? Γ x0 = some v0 := by exact rfl) (h1 : ev? Γ x1 = some v1 := by exact rfl) (h2 : ev? Γ x2 = some v2 := by exact rfl) : cM P ⟨dst, .call ⟨.value (.func f), #[x0, x1, x2], ts⟩, T, pos, after, g⟩ Γ w f #[v0, v1, v2] := cM.fn (evs.cons h0 (evs.cons h1 (evs.cons h2 evs.nil))) hf
theorem jE4 {x0 x1 x2 x3 : Operand} {v0 v1 v2 v3 : Value} (hf : ∀ args w, (callFunc f args).run P w = .ok (.enter f args) w) (h0 : ev? Γ x0 = some v0 := by exact rfl) (h1 : ev? Γ x1 = some v1 := by exact rfl) (h2 : ev? Γ x2 = some v2 := by exact rfl) (h3 : ev? Γ x3 = some v3 := by exact rfl) : cM P ⟨dst, .call ⟨.value (.func f), #[x0, x1, x2, x3], ts⟩, T, pos, after, g⟩ Γ w f #[v0, v1, v2, v3] := cM.fn (evs.cons h0 (evs.cons h1 (evs.cons h2 (evs.cons h3 evs.nil)))) hf
end
section
variable {P : Program} {n : NF} {Γ : Env} {w : World} {Q : Exit → Env → World → Prop} {K : Env → World → Prop} {ops : Array Oper} {rest : List Oper} {d : Nat} {T : TypeId} {pos : String} {after : Array Edge}
theorem jk {op : Op} {v : Value} {j : Nat} {b c : Bool} (h : Run P ⟨some d, op, T, pos, after, some (j, c)⟩ Γ w v) (k : Ops P n ops rest ((d, v) :: Γ) w Q) (hy : yi ops Γ j = some (.bool b) := by exact rfl) (hb : b = c := by exact au) (hn : Nat.blt d n.n = true := by exact rfl) : Ops P n ops (⟨some d, op, T, pos, after, some (j, c)⟩ :: rest) Γ w Q := Ops.rg hy hb h hn k
theorem jy (i : IntKind) (m : Nat) {x : Operand} (kk : Ops P n ops rest ((d, .int i ((m : Nat) : Int)) :: Γ) w Q) (hx : ev? Γ x = some (.int i ((m : Nat) : Int)) := by exact rfl) (hn : Nat.blt d n.n = true := by exact rfl) : Ops P n ops (⟨some d, .assign x, T, pos, after, none⟩ :: rest) Γ w Q := Ops.r (Run.asg hx) hn kk
theorem jx (i : IntKind) (m : Nat) {x : Operand} (kk : Ops P n ops rest ((d, .int i ((m : Nat) : Int)) :: Γ) w Q) (hx : ev? Γ x = some (.int i ((m : Nat) : Int)) := by exact rfl) (hn : Nat.blt d n.n = true := by exact rfl) : Ops P n ops (⟨some d, .move x, T, pos, after, none⟩ :: rest) Γ w Q := Ops.r (Run.mv hx) hn kk
theorem jD {c : Operand} {x y : Code} {p : Prop} [Decidable p] (hc : ev? Γ c = some (.bool (decide p))) (ht : p → VC P n x Γ w Q) (hf : ¬ p → VC P n y Γ w Q) : VC P n (.cond c x y) Γ w Q := VC.condD hc ht hf
end
section
variable {P : Program} {n : NF} {Γ : Env} {w : World} {Q : Exit → Env → World → Prop} {ops : Array Oper} {rest : List Oper} {d : Nat} {T : TypeId} {pos : String} {after : Array Edge}
abbrev jI0 (g : Nat) : Value := .pointer (some ⟨g, 0, none⟩)
abbrev jI1 (n : Nat) : Value := .int .i64 ((n : Nat) : Int)
abbrev jI2 (n : Nat) : Value := .int .u64 ((n : Nat) : Int)
theorem jdf {p : Prop} [Decidable p] (h : ¬ p := by omega) : decide p = false := decide_eq_false h
theorem jdp {p : Prop} [Decidable p] (h : ¬ p := by simp) : decide p = false := decide_eq_false h
theorem jV {f : FuncId} {fn : Func} {c : Code} {args : List Value} {R : Ending → World → Prop} {nt : Nat} {res : Array ResultVar} (hf : P.funcs[f]? = some fn) (hn : fn.ntmps = nt) (hr : fn.results = res) (h : VC P ⟨nt, [], none⟩ c (argEnv 0 args) w (nU P res R)) (hb : fn.body = some c := by exact rfl) (hl0 : Nat.ble args.length nt = true := by exact rfl) : Calls P f args.toArray w R := VC.calls hf hb hn hr hl0 h
theorem jc {op : Op} {f : FuncId} {args : Array Value} {R : Ending → World → Prop} (he : cM P ⟨some d, op, T, pos, after, none⟩ Γ w f args) (hc : Calls P f args w R) (k : ∀ e w', R e w' → ∃ v, e = .returned v ∧ Ops P n ops rest ((d, v) :: Γ) w' Q) (hn : Nat.blt d n.n = true := by exact rfl) : Ops P n ops (⟨some d, op, T, pos, after, none⟩ :: rest) Γ w Q := Ops.cl he hc hn k
theorem jc0 {op : Op} {f : FuncId} {args : Array Value} {v : Value} (he : cM P ⟨some d, op, T, pos, after, none⟩ Γ w f args) (hc : Calls P f args w fun e w' => e = .returned v ∧ w = w') (k : Ops P n ops rest ((d, v) :: Γ) w Q) (hn : Nat.blt d n.n = true := by exact rfl) : Ops P n ops (⟨some d, op, T, pos, after, none⟩ :: rest) Γ w Q := Ops.cl he hc hn (by rintro e _ ⟨rfl, rfl⟩; exact ⟨_, rfl, k⟩)
theorem jY {x : Operand} {ix : Nat} {vs : Array Value} {v : Value} (hx : ev? Γ x = some (.tuple vs)) (hv : vs[ix]? = some v) (k : Ops P n ops rest ((d, v) :: Γ) w Q) (hn : Nat.blt d n.n = true := by exact rfl) : Ops P n ops (⟨some d, .extract x ix, T, pos, after, none⟩ :: rest) Γ w Q := Ops.r (Run.extract hx hv) hn k
theorem jZ {x : Operand} {a : Addr} (hx : ev? Γ x = some (.pointer (some a))) (k : Ops P n ops rest ((d, .pointer (some a)) :: Γ) w Q) (hn : Nat.blt d n.n = true := by exact rfl) : Ops P n ops (⟨some d, .nilCheck x, T, pos, after, none⟩ :: rest) Γ w Q := Ops.r (Run.nilck hx) hn k
theorem jL {t : TypeId} {x : Operand} {a : Option Addr} {len cap : Nat} {e : TypeId} (hx : ev? Γ x = some (.slice a len cap)) (ht : P.underlying t = some (.slice e)) (k : Ops P n ops rest ((d, .int .i64 len) :: Γ) w Q) (hn : Nat.blt d n.n = true := by exact rfl) : Ops P n ops (⟨some d, .call ⟨.builtin .len, #[x], #[t]⟩, T, pos, after, none⟩ :: rest) Γ w Q := Ops.r (Run.lenS hx ht) hn k
theorem jF {c x y : Operand} {b : Bool} {v : Value} (hc : ev? Γ c = some (.bool b)) (hy : ev? Γ y = some v) (hb : b = false) (k : Ops P n ops rest ((d, v) :: Γ) w Q) (hn : Nat.blt d n.n = true := by exact rfl) : Ops P n ops (⟨some d, .pick c x y, T, pos, after, none⟩ :: rest) Γ w Q := Ops.r (Run.pickF hc hy hb) hn k
theorem jW {c x y : Operand} {b : Bool} {u : Value} (hc : ev? Γ c = some (.bool b)) (hx : ev? Γ x = some u) (hb : b = true) (k : Ops P n ops rest ((d, u) :: Γ) w Q) (hn : Nat.blt d n.n = true := by exact rfl) : Ops P n ops (⟨some d, .pick c x y, T, pos, after, none⟩ :: rest) Γ w Q := Ops.r (Run.pickT hc hx hb) hn k
end
theorem jq {p : Prop} (h : p := by first | omega | (dsimp only; omega)) : p := h
section
variable {P : Program} {n : NF} {Γ : Env} {w : World} {KE : Env → Prop} {ops : Array Oper} {rest : List Oper} {d : Nat} {T : TypeId} {pos : String} {after : Array Edge}
theorem qE {op : Op} {v : Value} (h : Run P ⟨some d, op, T, pos, after, none⟩ Γ w v) (k : bJ P n ops rest ((d, v) :: Γ) w KE) (hn : Nat.blt d n.n = true := by exact rfl) : bJ P n ops (⟨some d, op, T, pos, after, none⟩ :: rest) Γ w KE := bJ.r h hn k
theorem qG {op : Op} {v : Value} {j : Nat} {b c : Bool} (h : Run P ⟨some d, op, T, pos, after, some (j, c)⟩ Γ w v) (k : bJ P n ops rest ((d, v) :: Γ) w KE) (hy : yi ops Γ j = some (.bool b) := by exact rfl) (hb : b = c := by exact au) (hn : Nat.blt d n.n = true := by exact rfl) : bJ P n ops (⟨some d, op, T, pos, after, some (j, c)⟩ :: rest) Γ w KE := bJ.rg hy hb h hn k
theorem qU {op : Op} {j : Nat} {b c : Bool} (k : bJ P n ops rest ((d, undef) :: Γ) w KE) (hy : yi ops Γ j = some (.bool b) := by exact rfl) (hb : b = !c := by exact au) (hn : Nat.blt d n.n = true := by exact rfl) : bJ P n ops (⟨some d, op, T, pos, after, some (j, c)⟩ :: rest) Γ w KE := bJ.sk hy hb hn k
theorem qM {x : Operand} {v : Value} (k : bJ P n ops rest ((d, v) :: Γ) w KE) (hx : ev? Γ x = some v := by exact rfl) (hn : Nat.blt d n.n = true := by exact rfl) : bJ P n ops (⟨some d, .move x, T, pos, after, none⟩ :: rest) Γ w KE := bJ.r (Run.mv hx) hn k
theorem qA {x : Operand} {v : Value} (k : bJ P n ops rest ((d, v) :: Γ) w KE) (hx : ev? Γ x = some v := by exact rfl) (hn : Nat.blt d n.n = true := by exact rfl) : bJ P n ops (⟨some d, .assign x, T, pos, after, none⟩ :: rest) Γ w KE := bJ.r (Run.asg hx) hn k
theorem qX (i : IntKind) (m : Nat) {x : Operand} (k : bJ P n ops rest ((d, .int i ((m : Nat) : Int)) :: Γ) w KE) (hx : ev? Γ x = some (.int i ((m : Nat) : Int)) := by exact rfl) (hn : Nat.blt d n.n = true := by exact rfl) : bJ P n ops (⟨some d, .move x, T, pos, after, none⟩ :: rest) Γ w KE := bJ.r (Run.mv hx) hn k
theorem qY (i : IntKind) (m : Nat) {x : Operand} (k : bJ P n ops rest ((d, .int i ((m : Nat) : Int)) :: Γ) w KE) (hx : ev? Γ x = some (.int i ((m : Nat) : Int)) := by exact rfl) (hn : Nat.blt d n.n = true := by exact rfl) : bJ P n ops (⟨some d, .assign x, T, pos, after, none⟩ :: rest) Γ w KE := bJ.r (Run.asg hx) hn k
end
abbrev za := @List.mem_singleton
abbrev zj := @Nat.zero_le
abbrev zf := @List.length_append
abbrev ze := @List.getElem?_eq_getElem
abbrev zb := @List.getD_eq_getElem?_getD
abbrev zk := @List.length_take
abbrev zh := @List.take_of_length_le
abbrev zag := @Nat.le_refl
abbrev zq := @List.length_drop
abbrev zv := @List.map_append
abbrev zo := @List.mem_of_mem_take
abbrev zae := @List.length_map
abbrev zab := @List.append_assoc
abbrev zad := @List.length_cons
abbrev zaq := @List.mem_cons
abbrev zbd := @Nat.le_trans
abbrev zav := @List.append_nil
abbrev zan := @List.flatMap_append
abbrev zas := @Nat.lt_of_lt_of_le
abbrev zbo := @List.map_cons
abbrev zaz := @List.not_mem_nil
abbrev zbh := @Nat.min_eq_left
abbrev zaw := @List.flatMap_cons
abbrev zbg := @List.size_toArray
abbrev zau := @List.mem_of_mem_drop
abbrev zcc := @Nat.sub_zero
abbrev zbp := @List.getElem_mem
abbrev zbu := @List.nil_append
abbrev zch := @Nat.zero_add
abbrev zbz := @List.drop_zero
abbrev zbr := @List.getElem?_map
abbrev zbw := @List.take_length
abbrev zcj := @Nat.lt_irrefl
abbrev zbq := @List.take_append_drop
abbrev zcs := @List.take_zero
abbrev zcp := @List.mem_append
abbrev zds := @Nat.mul_one
abbrev zcq := @List.take_add_one
abbrev zcl := @List.mem_cons_self
abbrev zcx := @List.cons_append
abbrev zda := @List.range_succ
abbrev zdb := @Nat.mod_eq_of_lt
abbrev zcg := @Nat.pow_le_pow_right
abbrev zcn := @Array.length_toList
abbrev zdn := @List.map_take
abbrev zcw := @List.getElem_of_mem
abbrev zdd := @List.length_range
abbrev zcy := @List.filter_append
abbrev zck := @List.length_singleton
abbrev zcf := @List.getElem?_take_of_lt
abbrev zct := @List.getElem?_eq_none
abbrev zeh := @List.map_map
abbrev zei := @Nat.zero_mul
abbrev zcu := @List.length_filter_le
abbrev zdf := @Nat.mul_le_mul_right
abbrev zca := @List.eq_nil_of_length_eq_zero
abbrev zes := @Nat.sub_self
abbrev zcb := @List.take_append_of_le_length
abbrev zdx := @Option.map_some
abbrev zdy := @List.length_nil
abbrev zdg := @List.mem_cons_of_mem
abbrev zdp := @List.getElem?_drop
abbrev zdt := @Int.toNat_natCast
abbrev zee := @List.foldl_cons
abbrev zdh := @List.drop_eq_nil_of_le
abbrev zff := @Nat.mul_comm
abbrev zdq := @List.getElem_range
abbrev zdr := @List.map_replicate
abbrev zfg := @List.map_set
abbrev zdz := @Nat.le_add_right
abbrev zej := @Nat.min_eq_right
abbrev zcz := @List.getElem?_append_right
abbrev zex := @List.take_take
abbrev zek := @List.flatMap_nil
abbrev zel := @Nat.min_le_right
abbrev zey := @List.drop_drop
abbrev zdj := @Array.getD_eq_getD_getElem?
abbrev zdl := @List.getElem?_append_left
abbrev zge := @List.map_nil
abbrev zem := @Nat.eq_zero_or_pos
abbrev zfj := @List.take_left'
abbrev zed := @List.take_succ_cons
abbrev zep := @List.filter_congr
abbrev zew := @List.ext_getElem
abbrev zef := @Nat.eq_of_beq_eq_true
abbrev zfo := @Option.bind_some
abbrev zfp := @Bool.and_eq_true
abbrev zgp := @Nat.add_comm
abbrev zen := @List.mem_of_getElem?
abbrev zeg := @List.length_replicate
abbrev zeo := @List.mem_append_left
abbrev zer := @List.filter_sublist
abbrev zfc := @List.filter_filter
abbrev zft := @List.nodup_cons
abbrev zgh := @Nat.div_le_self
abbrev zfm := @List.map_congr_left
abbrev zfs := @Nat.lt_or_gt_of_ne
abbrev zgy := @Nat.xor_assoc
abbrev zfx := @List.foldl_append
abbrev zfn := @List.drop_succ_cons
abbrev zga := @List.nodup_append
abbrev zhf := @Nat.le_of_eq
abbrev zgi := @List.drop_left'
abbrev zgj := @Nat.xor_lt_two_pow
abbrev zgs := @Nat.div_eq_of_lt
abbrev zgt := @List.map_toArray
abbrev zgn := @List.ext_getElem?
abbrev zgo := @Nat.lt_trichotomy
abbrev zgu := @List.drop_append
abbrev zgf := @Int.toNat_of_nonneg
abbrev zfq := @Nat.div_div_eq_div_mul
abbrev zgg := @List.getElem?_range
abbrev zhb := @Nat.min_le_left
abbrev zhn := @List.nodup_nil
abbrev zfu := @List.mem_append_right
abbrev zfk := @List.filter_cons_of_pos
abbrev zfl := @List.filter_cons_of_neg
abbrev zev := @List.nodup_iff_pairwise_ne
abbrev zhc := @List.find?_some
abbrev zfd := @List.mem_of_find?_eq_some
abbrev zgv := @List.getElem_map
abbrev zhj := @Bool.false_eq_true
abbrev zfw := @Array.toList_setIfInBounds
abbrev zgr := @Array.getElem?_toList
abbrev zhq := @List.countP_congr
abbrev zhr := @List.take_sublist
abbrev zhs := @List.pairwise_map
abbrev zhd := @Array.getElem?_eq_getElem
abbrev zhp := @Nat.add_sub_cancel_left
end
section
open Go.Proofs
theorem pG (w : World) : (zeroValue 3).run Tryz.prog w = .ok (.int .i64 0) w := by
 simp only [zeroValue, Sem.run_bind, Tryz.typeInfo3, Result.andThen_ok]; rfl
theorem pH : (Tryz.prog.info? 3).map (fun i => (i.zero, i.size, i.bytes)) = some (some (.int .i64 0), 1, 8) := by kernel_rfl
theorem qHh (w : World) : (zeroValue 4).run Tryz.prog w = .ok (.bool false) w := by
 simp only [zeroValue, Sem.run_bind, Tryz.typeInfo4, Result.andThen_ok]; rfl
theorem qHi : (Tryz.prog.info? 4).map (fun i => (i.zero, i.size, i.bytes)) = some (some (.bool false), 1, 1) := by kernel_rfl
theorem pM (w : World) : (zeroValue 5).run Tryz.prog w = .ok (.int .u8 0) w := by
 simp only [zeroValue, Sem.run_bind, Tryz.typeInfo5, Result.andThen_ok]; rfl
theorem eY : (Tryz.prog.info? 5).map (fun i => (i.zero, i.size, i.bytes)) = some (some (.int .u8 0), 1, 1) := by kernel_rfl
theorem qQ4 (w : World) : (zeroValue 9).run Tryz.prog w = .ok (.string ⟨#[]⟩) w := by
 simp only [zeroValue, Sem.run_bind, Tryz.typeInfo9, Result.andThen_ok]; rfl
theorem qQ5 : (Tryz.prog.info? 9).map (fun i => (i.zero, i.size, i.bytes)) = some (some (.string ⟨#[]⟩), 1, 16) := by kernel_rfl
theorem qMo (w : World) : (zeroValue 24).run Tryz.prog w = .ok (.int .i64 0) w := by
 simp only [zeroValue, Sem.run_bind, Tryz.typeInfo24, Result.andThen_ok]; rfl
theorem xP (w : World) : (zeroValue 33).run Tryz.prog w = .ok (.slice none 0 0) w := by
 simp only [zeroValue, Sem.run_bind, Tryz.typeInfo33, Result.andThen_ok]; rfl
theorem lU (w : World) : (zeroValue 54).run Tryz.prog w = .ok (.int .u64 0) w := by
 simp only [zeroValue, Sem.run_bind, Tryz.typeInfo54, Result.andThen_ok]; rfl
theorem qXc : (Tryz.prog.info? 54).map (fun i => (i.zero, i.size, i.bytes)) = some (some (.int .u64 0), 1, 8) := by kernel_rfl
theorem qMp (w : World) : (zeroValue 56).run Tryz.prog w = .ok (.agg #[.int .i64 0, .int .i64 0, .int .i64 0, .int .u64 0, .slice none 0 0, .slice none 0 0]) w := by
 simp only [zeroValue, Sem.run_bind, Tryz.typeInfo56, Result.andThen_ok]; rfl
theorem qMq (w : World) : (zeroValue 61).run Tryz.prog w = .ok (.agg #[.slice none 0 0, .slice none 0 0, .int .i64 0, .bool false]) w := by
 simp only [zeroValue, Sem.run_bind, Tryz.typeInfo61, Result.andThen_ok]; rfl
theorem tP (w : World) : (zeroValue 63).run Tryz.prog w = .ok (.slice none 0 0) w := by
 simp only [zeroValue, Sem.run_bind, Tryz.typeInfo63, Result.andThen_ok]; rfl
theorem qXd : (Tryz.prog.info? 63).map (fun i => (i.zero, i.size, i.bytes)) = some (some (.slice none 0 0), 1, 24) := by kernel_rfl
theorem qMr (w : World) : (zeroValue 81).run Tryz.prog w = .ok (.agg #[.slice none 0 0, .slice none 0 0, .int .i64 0, .bool false]) w := by
 simp only [zeroValue, Sem.run_bind, Tryz.typeInfo81, Result.andThen_ok]; rfl
theorem fX (w : World) : (zeroValue 85).run Tryz.prog w = .ok (.agg #[.int .i64 0, .slice none 0 0]) w := by
 simp only [zeroValue, Sem.run_bind, Tryz.typeInfo85, Result.andThen_ok]; rfl
theorem qXe (w : World) : (zeroValue 91).run Tryz.prog w = .ok (.agg #[.pointer none, .slice none 0 0, .slice none 0 0, .map none, .int .i64 0, .slice none 0 0]) w := by
 simp only [zeroValue, Sem.run_bind, Tryz.typeInfo91, Result.andThen_ok]; rfl
theorem gC (w : World) : (zeroValue 93).run Tryz.prog w = .ok (.agg #[.int .u64 0, .slice none 0 0, .bool false]) w := by
 simp only [zeroValue, Sem.run_bind, Tryz.typeInfo93, Result.andThen_ok]; rfl
theorem qMs : (Tryz.prog.info? 93).map (fun i => (i.zero, i.size, i.bytes)) = some (some (.agg #[.int .u64 0, .slice none 0 0, .bool false]), 3, 40) := by kernel_rfl
theorem vQ (w : World) : (zeroValue 104).run Tryz.prog w = .ok (.agg #[.slice none 0 0, .slice none 0 0, .map none, .slice none 0 0]) w := by
 simp only [zeroValue, Sem.run_bind, Tryz.typeInfo104, Result.andThen_ok]; rfl
theorem fC (w : World) : (zeroValue 111).run Tryz.prog w = .ok (.agg #[.int .u64 0, .string ⟨#[]⟩, .slice none 0 0, .int .u32 0]) w := by
 simp only [zeroValue, Sem.run_bind, Tryz.typeInfo111, Result.andThen_ok]; rfl
theorem oK : (Tryz.prog.info? 111).map (fun i => (i.zero, i.size, i.bytes)) = some (some (.agg #[.int .u64 0, .string ⟨#[]⟩, .slice none 0 0, .int .u32 0]), 4, 56) := by kernel_rfl
theorem qJz (w : World) : (zeroValue 121).run Tryz.prog w = .ok (.agg #[.pointer none, .slice none 0 0, .slice none 0 0]) w := by
 simp only [zeroValue, Sem.run_bind, Tryz.typeInfo121, Result.andThen_ok]; rfl
theorem dL (w : World) : (zeroValue 128).run Tryz.prog w = .ok (.agg #[.int .u64 0, .int .u64 0]) w := by
 simp only [zeroValue, Sem.run_bind, Tryz.typeInfo128, Result.andThen_ok]; rfl
theorem kK : (Tryz.prog.info? 128).map (fun i => (i.zero, i.size, i.bytes)) = some (some (.agg #[.int .u64 0, .int .u64 0]), 2, 16) := by kernel_rfl
theorem cP (w : World) : (zeroValue 132).run Tryz.prog w = .ok (.agg #[.int .i64 0, .slice none 0 0]) w := by
 simp only [zeroValue, Sem.run_bind, Tryz.typeInfo132, Result.andThen_ok]; rfl
theorem gW : (Tryz.prog.info? 132).map (fun i => (i.zero, i.size, i.bytes)) = some (some (.agg #[.int .i64 0, .slice none 0 0]), 2, 32) := by kernel_rfl
theorem qJ0 (w : World) : (zeroValue 144).run Tryz.prog w = .ok (.agg #[.int .i64 0, .string ⟨#[]⟩]) w := by
 simp only [zeroValue, Sem.run_bind, Tryz.typeInfo144, Result.andThen_ok]; rfl
theorem qHm : (Tryz.prog.info? 144).map (fun i => (i.zero, i.size, i.bytes)) = some (some (.agg #[.int .i64 0, .string ⟨#[]⟩]), 2, 24) := by kernel_rfl
theorem qHn : (Tryz.prog.info? 149).map (fun i => (i.zero, i.size, i.bytes)) = some (some (.agg #[.int .u8 0, .int .u8 0, .int .u8 0, .int .u8 0, .int .u8 0, .int .u8 0, .int .u8 0, .int .u8 0, .int .u8 0, .int .u8 0, .int .u8 0, .int .u8 0, .int .u8 0, .int .u8 0, .int .u8 0, .int .u8 0, .int .u8 0, .int .u8 0, .int .u8 0, .int .u8 0, .int .u8 0, .int .u8 0, .int .u8 0, .int .u8 0, .int .u8 0, .int .u8 0, .int .u8 0, .int .u8 0, .int .u8 0, .int .u8 0, .int .u8 0, .int .u8 0, .int .u8 0, .int .u8 0, .int .u8 0, .int .u8 0, .int .u8 0, .int .u8 0, .int .u8 0, .int .u8 0, .int .u8 0, .int .u8 0, .int .u8 0, .int .u8 0, .int .u8 0, .int .u8 0, .int .u8 0, .int .u8 0, .int .u8 0, .int .u8 0, .int .u8 0, .int .u8 0, .int .u8 0, .int .u8 0, .int .u8 0, .int .u8 0, .int .u8 0, .int .u8 0, .int .u8 0, .int .u8 0, .int .u8 0, .int .u8 0, .int .u8 0, .int .u8 0, .int .u8 0, .int .u8 0, .int .u8 0, .int .u8 0, .int .u8 0, .int .u8 0, .int .u8 0, .int .u8 0, .int .u8 0, .int .u8 0, .int .u8 0, .int .u8 0, .int .u8 0, .int .u8 0, .int .u8 0, .int .u8 0, .int .u8 0, .int .u8 0, .int .u8 0, .int .u8 0, .int .u8 0, .int .u8 0, .int .u8 0, .int .u8 0, .int .u8 0, .int .u8 0, .int .u8 0, .int .u8 0, .int .u8 0, .int .u8 0, .int .u8 0, .int .u8 0, .int .u8 0, .int .u8 0, .int .u8 0, .int .u8 0, .int .u8 0, .int .u8 0, .int .u8 0, .int .u8 0, .int .u8 0, .int .u8 0, .int .u8 0, .int .u8 0, .int .u8 0, .int .u8 0, .int .u8 0, .int .u8 0, .int .u8 0, .int .u8 0, .int .u8 0, .int .u8 0, .int .u8 0, .int .u8 0, .int .u8 0, .int .u8 0, .int .u8 0, .int .u8 0, .int .u8 0, .int .u8 0, .int .u8 0, .int .u8 0, .int .u8 0, .int .u8 0]), 128, 128) := by kernel_rfl
theorem vX (w : World) : (zeroValue 151).run Tryz.prog w = .ok (.agg #[.int .i64 0, .int .u8 0, .int .u8 0, .int .u8 0, .int .u8 0, .int .u8 0, .int .u8 0, .int .u8 0, .int .u8 0, .int .u8 0, .int .u8 0, .int .u8 0, .int .u8 0, .int .u8 0, .int .u8 0, .int .u8 0, .int .u8 0, .int .u8 0, .int .u8 0, .int .u8 0, .int .u8 0, .int .u8 0, .int .u8 0, .int .u8 0, .int .u8 0, .int .u8 0, .int .u8 0, .int .u8 0, .int .u8 0, .int .u8 0, .int .u8 0, .int .u8 0, .int .u8 0, .int .u8 0, .int .u8 0, .int .u8 0, .int .u8 0, .int .u8 0, .int .u8 0, .int .u8 0, .int .u8 0, .int .u8 0, .int .u8 0, .int .u8 0, .int .u8 0, .int .u8 0, .int .u8 0, .int .u8 0, .int .u8 0, .int .u8 0, .int .u8 0, .int .u8 0, .int .u8 0, .int .u8 0, .int .u8 0, .int .u8 0, .int .u8 0, .int .u8 0, .int .u8 0, .int .u8 0, .int .u8 0, .int .u8 0, .int .u8 0, .int .u8 0, .int .u8 0, .int .u8 0, .int .u8 0, .int .u8 0, .int .u8 0, .int .u8 0, .int .u8 0, .int .u8 0, .int .u8 0, .int .u8 0, .int .u8 0, .int .u8 0, .int .u8 0, .int .u8 0, .int .u8 0, .int .u8 0, .int .u8 0, .int .u8 0, .int .u8 0, .int .u8 0, .int .u8 0, .int .u8 0, .int .u8 0, .int .u8 0, .int .u8 0, .int .u8 0, .int .u8 0, .int .u8 0, .int .u8 0, .int .u8 0, .int .u8 0, .int .u8 0, .int .u8 0, .int .u8 0, .int .u8 0, .int .u8 0, .int .u8 0, .int .u8 0, .int .u8 0, .int .u8 0, .int .u8 0, .int .u8 0, .int .u8 0, .int .u8 0, .int .u8 0, .int .u8 0, .int .u8 0, .int .u8 0, .int .u8 0, .int .u8 0, .int .u8 0, .int .u8 0, .int .u8 0, .int .u8 0, .int .u8 0, .int .u8 0, .int .u8 0, .int .u8 0, .int .u8 0, .int .u8 0, .int .u8 0, .int .u8 0, .int .u8 0, .int .u8 0, .int .u8 0]) w := by
 simp only [zeroValue, Sem.run_bind, Tryz.typeInfo151, Result.andThen_ok]; rfl
theorem qHo : (Tryz.prog.info? 151).map (fun i => (i.zero, i.size, i.bytes)) = some (some (.agg #[.int .i64 0, .int .u8 0, .int .u8 0, .int .u8 0, .int .u8 0, .int .u8 0, .int .u8 0, .int .u8 0, .int .u8 0, .int .u8 0, .int .u8 0, .int .u8 0, .int .u8 0, .int .u8 0, .int .u8 0, .int .u8 0, .int .u8 0, .int .u8 0, .int .u8 0, .int .u8 0, .int .u8 0, .int .u8 0, .int .u8 0, .int .u8 0, .int .u8 0, .int .u8 0, .int .u8 0, .int .u8 0, .int .u8 0, .int .u8 0, .int .u8 0, .int .u8 0, .int .u8 0, .int .u8 0, .int .u8 0, .int .u8 0, .int .u8 0, .int .u8 0, .int .u8 0, .int .u8 0, .int .u8 0, .int .u8 0, .int .u8 0, .int .u8 0, .int .u8 0, .int .u8 0, .int .u8 0, .int .u8 0, .int .u8 0, .int .u8 0, .int .u8 0, .int .u8 0, .int .u8 0, .int .u8 0, .int .u8 0, .int .u8 0, .int .u8 0, .int .u8 0, .int .u8 0, .int .u8 0, .int .u8 0, .int .u8 0, .int .u8 0, .int .u8 0, .int .u8 0, .int .u8 0, .int .u8 0, .int .u8 0, .int .u8 0, .int .u8 0, .int .u8 0, .int .u8 0, .int .u8 0, .int .u8 0, .int .u8 0, .int .u8 0, .int .u8 0, .int .u8 0, .int .u8 0, .int .u8 0, .int .u8 0, .int .u8 0, .int .u8 0, .int .u8 0, .int .u8 0, .int .u8 0, .int .u8 0, .int .u8 0, .int .u8 0, .int .u8 0, .int .u8 0, .int .u8 0, .int .u8 0, .int .u8 0, .int .u8 0, .int .u8 0, .int .u8 0, .int .u8 0, .int .u8 0, .int .u8 0, .int .u8 0, .int .u8 0, .int .u8 0, .int .u8 0, .int .u8 0, .int .u8 0, .int .u8 0, .int .u8 0, .int .u8 0, .int .u8 0, .int .u8 0, .int .u8 0, .int .u8 0, .int .u8 0, .int .u8 0, .int .u8 0, .int .u8 0, .int .u8 0, .int .u8 0, .int .u8 0, .int .u8 0, .int .u8 0, .int .u8 0, .int .u8 0, .int .u8 0, .int .u8 0, .int .u8 0, .int .u8 0, .int .u8 0]), 129, 136) := by kernel_rfl
theorem qHp (w : World) : (zeroValue 174).run Tryz.prog w = .ok (.slice none 0 0) w := by
 simp only [zeroValue, Sem.run_bind, Tryz.typeInfo174, Result.andThen_ok]; rfl
theorem qHq (w : World) : (zeroValue 207).run Tryz.prog w = .ok (.slice none 0 0) w := by
 simp only [zeroValue, Sem.run_bind, Tryz.typeInfo207, Result.andThen_ok]; rfl
theorem mG (w : World) : (zeroValue 214).run Tryz.prog w = .ok (.agg #[.int .u64 0, .int .i64 0]) w := by
 simp only [zeroValue, Sem.run_bind, Tryz.typeInfo214, Result.andThen_ok]; rfl
theorem yB : (Tryz.prog.info? 214).map (fun i => (i.zero, i.size, i.bytes)) = some (some (.agg #[.int .u64 0, .int .i64 0]), 2, 16) := by kernel_rfl
theorem lJ (w : World) : (zeroValue 222).run Tryz.prog w = .ok (.agg #[.slice none 0 0, .slice none 0 0, .bool false]) w := by
 simp only [zeroValue, Sem.run_bind, Tryz.typeInfo222, Result.andThen_ok]; rfl
theorem yC (w : World) : (zeroValue 231).run Tryz.prog w = .ok (.agg #[.int .u8 0, .int .u8 0, .int .u8 0, .int .u8 0]) w := by
 simp only [zeroValue, Sem.run_bind, Tryz.typeInfo231, Result.andThen_ok]; rfl
theorem qXf : ∃ fs, Tryz.prog.underlying 61 = some (.struct fs) ∧ ∀ w, (fs.mapM fun f => do pure (f.offset, ← sizeOf f.type) : Sem (Array (Nat × Nat))).run Tryz.prog w = .ok #[(0, 1), (1, 1), (2, 1), (3, 1)] w :=
 ⟨_, Tryz.underlying61, fun w => by simp [Tryz.sizeOf3, Tryz.sizeOf4, Tryz.sizeOf58, Tryz.sizeOf59]⟩
theorem qXg : ∃ fs, Tryz.prog.underlying 81 = some (.struct fs) ∧ ∀ w, (fs.mapM fun f => do pure (f.offset, ← sizeOf f.type) : Sem (Array (Nat × Nat))).run Tryz.prog w = .ok #[(0, 1), (1, 1), (2, 1), (3, 1)] w :=
 ⟨_, Tryz.underlying81, fun w => by simp [Tryz.sizeOf3, Tryz.sizeOf4, Tryz.sizeOf78, Tryz.sizeOf79]⟩
theorem gD : ∃ fs, Tryz.prog.underlying 85 = some (.struct fs) ∧ ∀ w, (fs.mapM fun f => do pure (f.offset, ← sizeOf f.type) : Sem (Array (Nat × Nat))).run Tryz.prog w = .ok #[(0, 1), (1, 1)] w :=
 ⟨_, Tryz.underlying85, fun w => by simp [Tryz.sizeOf3, Tryz.sizeOf63]⟩
theorem mH : ∃ fs, Tryz.prog.underlying 91 = some (.struct fs) ∧ ∀ w, (fs.mapM fun f => do pure (f.offset, ← sizeOf f.type) : Sem (Array (Nat × Nat))).run Tryz.prog w = .ok #[(0, 1), (1, 1), (2, 1), (3, 1), (4, 2)] w :=
 ⟨_, Tryz.underlying91, fun w => by simp [Tryz.sizeOf23, Tryz.sizeOf33, Tryz.sizeOf85, Tryz.sizeOf88, Tryz.sizeOf89]⟩
theorem mM : ∃ fs, Tryz.prog.underlying 93 = some (.struct fs) ∧ ∀ w, (fs.mapM fun f => do pure (f.offset, ← sizeOf f.type) : Sem (Array (Nat × Nat))).run Tryz.prog w = .ok #[(0, 1), (1, 1), (2, 1)] w :=
 ⟨_, Tryz.underlying93, fun w => by simp [Tryz.sizeOf4, Tryz.sizeOf54, Tryz.sizeOf63]⟩
theorem zU : ∃ fs, Tryz.prog.underlying 104 = some (.struct fs) ∧ ∀ w, (fs.mapM fun f => do pure (f.offset, ← sizeOf f.type) : Sem (Array (Nat × Nat))).run Tryz.prog w = .ok #[(0, 1), (1, 1), (2, 1), (3, 1)] w :=
 ⟨_, Tryz.underlying104, fun w => by simp [Tryz.sizeOf102, Tryz.sizeOf33, Tryz.sizeOf88, Tryz.sizeOf89]⟩
theorem lK : ∃ fs, Tryz.prog.underlying 111 = some (.struct fs) ∧ ∀ w, (fs.mapM fun f => do pure (f.offset, ← sizeOf f.type) : Sem (Array (Nat × Nat))).run Tryz.prog w = .ok #[(0, 1), (1, 1), (2, 1), (3, 1)] w :=
 ⟨_, Tryz.underlying111, fun w => by simp [Tryz.sizeOf109, Tryz.sizeOf33, Tryz.sizeOf54, Tryz.sizeOf9]⟩
theorem pN : ∃ fs, Tryz.prog.underlying 121 = some (.struct fs) ∧ ∀ w, (fs.mapM fun f => do pure (f.offset, ← sizeOf f.type) : Sem (Array (Nat × Nat))).run Tryz.prog w = .ok #[(0, 1), (1, 1), (2, 1)] w :=
 ⟨_, Tryz.underlying121, fun w => by simp [Tryz.sizeOf30, Tryz.sizeOf33, Tryz.sizeOf49]⟩
theorem fE : ∃ fs, Tryz.prog.underlying 128 = some (.struct fs) ∧ ∀ w, (fs.mapM fun f => do pure (f.offset, ← sizeOf f.type) : Sem (Array (Nat × Nat))).run Tryz.prog w = .ok #[(0, 1), (1, 1)] w :=
 ⟨_, Tryz.underlying128, fun w => by simp [Tryz.sizeOf54]⟩
theorem cR : ∃ fs, Tryz.prog.underlying 132 = some (.struct fs) ∧ ∀ w, (fs.mapM fun f => do pure (f.offset, ← sizeOf f.type) : Sem (Array (Nat × Nat))).run Tryz.prog w = .ok #[(0, 1), (1, 1)] w :=
 ⟨_, Tryz.underlying132, fun w => by simp [Tryz.sizeOf3, Tryz.sizeOf63]⟩
theorem zC : ∃ fs, Tryz.prog.underlying 144 = some (.struct fs) ∧ ∀ w, (fs.mapM fun f => do pure (f.offset, ← sizeOf f.type) : Sem (Array (Nat × Nat))).run Tryz.prog w = .ok #[(0, 1), (1, 1)] w :=
 ⟨_, Tryz.underlying144, fun w => by simp [Tryz.sizeOf3, Tryz.sizeOf9]⟩
theorem zD : ∃ fs, Tryz.prog.underlying 151 = some (.struct fs) ∧ ∀ w, (fs.mapM fun f => do pure (f.offset, ← sizeOf f.type) : Sem (Array (Nat × Nat))).run Tryz.prog w = .ok #[(0, 1), (1, 128)] w :=
 ⟨_, Tryz.underlying151, fun w => by simp [Tryz.sizeOf149, Tryz.sizeOf3]⟩
theorem lV : ∃ fs, Tryz.prog.underlying 214 = some (.struct fs) ∧ ∀ w, (fs.mapM fun f => do pure (f.offset, ← sizeOf f.type) : Sem (Array (Nat × Nat))).run Tryz.prog w = .ok #[(0, 1), (1, 1)] w :=
 ⟨_, Tryz.underlying214, fun w => by simp [Tryz.sizeOf3, Tryz.sizeOf54]⟩
theorem fF : ∃ fs, Tryz.prog.underlying 222 = some (.struct fs) ∧ ∀ w, (fs.mapM fun f => do pure (f.offset, ← sizeOf f.type) : Sem (Array (Nat × Nat))).run Tryz.prog w = .ok #[(0, 1), (1, 1), (2, 1)] w :=
 ⟨_, Tryz.underlying222, fun w => by simp [Tryz.sizeOf207, Tryz.sizeOf4, Tryz.sizeOf89]⟩
abbrev zg := @Tryz.underlying63
abbrev zm := @Tryz.sizeOf3
abbrev zl := @Tryz.underlying89
abbrev zaa := @Tryz.isAgg3
abbrev zw := @Tryz.sizeOf85
abbrev zy := @Tryz.sizeOf54
abbrev zu := @Tryz.sizeOf128
abbrev zn := @Tryz.underlying33
abbrev zt := @Tryz.underlying9
abbrev zr := @Tryz.underlying54
abbrev zai := @Tryz.isAgg54
abbrev zah := @Tryz.sizeOf63
abbrev zz := @Tryz.underlying3
abbrev zam := @Tryz.sizeOf5
abbrev zac := @Tryz.underlying5
abbrev zx := @Tryz.underlying102
abbrev zat := @Tryz.sizeOf4
abbrev zaf := @Tryz.underlying61
abbrev zba := @Tryz.isAgg63
abbrev zbb := @Tryz.isAgg85
abbrev zaj := @Tryz.underlying91
abbrev zax := @Tryz.sizeOf33
abbrev zak := @Tryz.underlying93
abbrev zal := @Tryz.underlying111
abbrev zao := @Tryz.underlying30
abbrev zap := @Tryz.underlying31
abbrev zbm := @Tryz.sizeOf9
abbrev zbi := @Tryz.sizeOf93
abbrev zar := @Tryz.underlying58
abbrev zbe := @Tryz.sizeOf132
abbrev zbf := @Tryz.sizeOf111
abbrev zbk := @Tryz.sizeOf89
abbrev zay := @Tryz.underlying121
abbrev zbx := @Tryz.isAgg33
abbrev zbc := @Tryz.underlying174
abbrev zbn := @Tryz.underlying81
abbrev zbj := @Tryz.underlying128
abbrev zbl := @Tryz.underlying104
abbrev zcr := @Tryz.isAgg4
abbrev zci := @Tryz.isAgg89
abbrev zbt := @Tryz.underlying56
abbrev zbs := @Tryz.underlying132
abbrev zco := @Tryz.sizeOf30
abbrev zde := @Tryz.isAgg9
abbrev zbv := @Tryz.underlying113
abbrev zcv := @Tryz.sizeOf59
abbrev zdk := @Tryz.isAgg5
abbrev zcd := @Tryz.underlying43
abbrev zby := @Tryz.underlying109
abbrev zdc := @Tryz.sizeOf58
abbrev zce := @Tryz.underlying85
abbrev zcm := @Tryz.underlying207
abbrev zdo := @Tryz.isAgg30
abbrev zdv := @Tryz.isAgg58
abbrev zdu := @Tryz.sizeOf88
abbrev zdw := @Tryz.sizeOf149
abbrev zdi := @Tryz.underlying179
abbrev zea := @Tryz.isAgg128
abbrev zeb := @Tryz.sizeOf102
abbrev zfe := @Tryz.call38
abbrev zec := @Tryz.sizeOf222
abbrev zdm := @Tryz.underlying59
abbrev zet := @Tryz.sizeOf79
abbrev zeu := @Tryz.sizeOf23
abbrev zfh := @Tryz.isAgg23
abbrev zfi := @Tryz.isAgg59
abbrev zez := @Tryz.sizeOf214
abbrev zfr := @Tryz.isAgg88
abbrev zgl := @Tryz.call39
abbrev zeq := @Tryz.underlying88
abbrev zgm := @Tryz.call65
abbrev zfv := @Tryz.isAgg111
abbrev zgb := @Tryz.sizeOf109
abbrev zfa := @Tryz.underlying144
abbrev zfb := @Tryz.underlying222
abbrev zgc := @Tryz.sizeOf151
abbrev zgq := @Tryz.call141
abbrev zgd := @Tryz.sizeOf144
abbrev zgw := @Tryz.sizeOf78
abbrev zgx := @Tryz.sizeOf49
abbrev zfy := @Tryz.underlying78
abbrev zfz := @Tryz.underlying79
abbrev zhe := @Tryz.call101
abbrev zgz := @Tryz.sizeOf74
abbrev zhg := @Tryz.call147
abbrev zhh := @Tryz.call113
abbrev zha := @Tryz.isAgg207
abbrev zhi := @Tryz.isAgg93
abbrev zgk := @Tryz.underlying151
abbrev zhl := @Tryz.sizeOf207
abbrev zhm := @Tryz.sizeOf226
abbrev zho := @Tryz.sizeOf104
abbrev zhk := @Tryz.underlying214
abbrev zht := @Tryz.underlying23
abbrev zhu := @Tryz.underlying27
abbrev zhv := @Tryz.underlying51
end
section
open Go.RowKit
section
variable {P : Program} {Γ : Env} {w : World} {dst : Option Tmp} {T : TypeId} {pos : String} {after : Array Edge} {g : Option (Nat × Bool)}
theorem Run.maxI {t : TypeId} {x y : Operand} {k : IntKind} {a b : Int} {ts : Array TypeId} (hx : ev? Γ x = some (.int k a)) (hy : ev? Γ y = some (.int k b)) :
  Run P ⟨dst, .call ⟨.builtin .max, #[x, y], ts⟩, t, pos, after, g⟩ Γ w (.int k (if a < b then b else a)) := fun ρ hρ => by
 simp [execOp, resolve, invoke, builtin, Builtin.max_, Builtin.max2, hρ _ _ hx, hρ _ _ hy]
theorem Run.sliceA {t e : TypeId} {x : Operand} {a : Addr} {n sz : Nat} {lo hi : Option Operand} (l h : Nat) (hx : ev? Γ x = some (.pointer (some a))) (ht : P.underlying t = some (.array n e)) (hz : ∀ w, (sizeOf e).run P w = .ok sz w)
  (hlo : evB Γ lo 0 l) (hhi : evB Γ hi n h) (h1 : l ≤ h) (h2 : h ≤ n) :
  Run P ⟨dst, .slice t x lo hi none, T, pos, after, g⟩ Γ w (.slice (dS (some a) n l sz) (h - l) (n - l)) := fun ρ hρ => by
 have hb : ∀ (k : IntKind) (r y : Nat) (code : BoundsCode), r ≤ y → (Instr.sliceBound (.int k (r : Int)) y code).run P w = .ok r w := by
  intro k r y code hry
  have := run_sliceBound (P := P) w k (r : Int) y code jo jo
  simpa using this
 have hbs : (Instr.sliceBounds false n n (lo.map ρ) (hi.map ρ) none).run P w = .ok (l, h, n) w := sG (P := P) (w := w) hρ n n l h lo hi hlo hhi h1 h2 false
 simp only [execOp, Instr.sliceAt, Sem.run_bind, run_underlying ht, Result.andThen_ok, hρ _ _ hx, Option.map_none, Instr.sureAddr, Sem.run_pure, hbs, hz]
 unfold dS
 split
 · rename_i h0; simp [h0]
 rename_i h0; simp [h0]
end
section
variable {P : Program} {n : NF} {Γ : Env} {w : World} {Q : Exit → Env → World → Prop} {K : Env → World → Prop} {Pn : List PanicEntry → World → Prop} {ops : Array Oper} {rest : List Oper} {S : World → Prop} {L fuel : Nat} {listed : Array Bool} {d : Nat} {op : Op} {T : TypeId} {pos : String} {after : Array Edge}
end
section
variable {P : Program} {n : NF} {Γ : Env} {w : World} {K : Env → World → Prop} {Pn : List PanicEntry → World → Prop} {ops : Array Oper} {S : World → Prop} {L fuel : Nat} {listed : Array Bool}
end
section
variable {P : Program} {n : Nat} {D : List Deferred} {Γ : Env} {w : World} {Q : Exit → Env → World → Prop}
end
section
variable {P : Program} {n : NF} {Γ : Env} {w : World} {QQ : Exit → Act → World → Prop} {c x y : Code} {R : Ending → World → Prop} {fn : Func} {res : Array ResultVar}
end
section
variable {P : Program} {Γ : Env} {w : World} {rest : Code} {R : Ending → FrameMode → World → Prop} {fn : Func} {res : Array ResultVar}
end
section
variable {P : Program} {Γ : Env} {w : World} {dst : Option Tmp} {T : TypeId} {pos : String} {after : Array Edge} {g : Option (Nat × Bool)}
end
section
variable {P : Program} {n : NF} {Γ : Env} {w : World} {K : Env → World → Prop} {Pn : List PanicEntry → World → Prop} {ops : Array Oper} {S : World → Prop} {L fuel : Nat} {listed : Array Bool} {i : Nat} {oi : Oper} {d : Nat}
def kS (P : Program) (n : NF) (ops : Array Oper) (S : World → Prop) (Pn : List PanicEntry → World → Prop) (L fuel : Nat) (listed : Array Bool) (i : Nat) (Γ : Env) (w : World) (K : Env → World → Prop) : Prop :=
 ∀ a, Sat n Γ a → wpOp P ops (mL n K Pn) i (fun a' w' => S w' ∧ fQ P ops (mL n K Pn) S L fuel (listed.setIfInBounds i true) a' w') a w
theorem qJ.or2 (i j : Nat) (hr : Region.ready .any ops listed = [i, j]) (h1 : kS P n ops S Pn L fuel listed i Γ w K) (h2 : kS P n ops S Pn L fuel listed j Γ w K) : qJ P n ops S Pn L (fuel + 1) listed Γ w K := fun a hs =>
 sH hr jp (by intro x hx; simp only [zaq, zaz, or_false] at hx; rcases hx with rfl | rfl; exact h1 a hs; exact h2 a hs)
theorem kS.of_wp (hi : ops[i]? = some oi) (hup : Up ops Γ oi.guard) (h : ∀ a, Sat n Γ a → oi.wp P a w (fun a' w' => S w' ∧ fQ P ops (mL n K Pn) S L fuel (listed.setIfInBounds i true) a' w') (mL n K Pn)) : kS P n ops S Pn L fuel listed i Γ w K := by
 intro a hs
 unfold wpOp
 simp only [hi]
 rw [if_pos (hup.wanted hs)]
 exact .inl (h a hs)
theorem kS.m {R : Value → World → Prop} (hi : ops[i]? = some oi) (h : qV P oi Γ w R) (hup : Up ops Γ oi.guard) (hd : oi.dst = some d) (hn : Nat.blt d n.n = true)
  (k : ∀ v w', R v w' → S w' ∧ qJ P n ops S Pn L fuel (listed.setIfInBounds i true) ((d, v) :: Γ) w' K) : kS P n ops S Pn L fuel listed i Γ w K :=
 kS.of_wp hi hup fun a hs => by
  obtain ⟨v, w', hrun, hR⟩ := h _ hs.fits
  unfold Oper.wp
  rw [hrun, Oper.upon_value, hd]
  exact ⟨(k v w' hR).1, (k v w' hR).2 _ (hs.put hn v)⟩
theorem kS.cl {f : FuncId} {args : Array Value} {R : Ending → World → Prop} (hi : ops[i]? = some oi) (he : cM P oi Γ w f args) (hc : Calls P f args w R) (hup : Up ops Γ oi.guard) (hd : oi.dst = some d) (hn : Nat.blt d n.n = true)
  (k : ∀ e w', R e w' → ∃ v, e = .returned v ∧ S w' ∧ qJ P n ops S Pn L fuel (listed.setIfInBounds i true) ((d, v) :: Γ) w' K) : kS P n ops S Pn L fuel listed i Γ w K :=
 kS.of_wp hi hup fun a hs => by
  unfold Oper.wp
  rw [he _ hs.fits, Oper.upon_enter, hd]
  refine hc.mono ?_
  intro e w' hR
  obtain ⟨v, rfl, h1, h2⟩ := k e w' hR
  exact ⟨h1, h2 _ (hs.put hn v)⟩
end
end
section
open Go.RowKit Go.ChangeShapes Go.WideShapes Go.Deep
section
variable {H : Type} {enc : TypeId × Value → H} {P : Program} {w : World} {base : Nat} {spare : Nat → Bool} {held : Bool}
theorem qV2 {α : Type} (cell : α → Value) (Q : α → Prop) {t e : TypeId} {fuel len cap : Nat} {a : Option Addr} {x : DataW H × List MemPlace} (ht : P.underlying t = some (.slice e)) (hc : P.cellsOf e = 1)
  (hel : ∀ (v : Value) (n : Nat) (y : DataW H × List MemPlace), DataW.trod enc P w base spare held n e [v] = some y → ∃ s : α, v = cell s ∧ Q s)
  (h : DataW.trod enc P w base spare held fuel t [.slice a len cap] = some x) :
  ∃ ls : List α, ls.length = len ∧ len ≤ cap ∧ cap ≤ 9223372036854775807 ∧ Rd w 1 a len (ls.map cell) ∧ ∀ s ∈ ls, Q s := by
 rcases open_slice1 ht hc h with ⟨hcs, _⟩ | ⟨ad, l, c, m, n, V, D, Pl, hcs, _, hl, hm, hmm, _, hi⟩
 ·
  simp only [List.cons.injEq, Value.slice.injEq, and_true] at hcs
  obtain ⟨rfl, rfl, rfl⟩ := hcs
  exact ⟨[], rfl, zag _, jo, Rd.nil _ _ _, jp⟩
 simp only [List.cons.injEq, Value.slice.injEq, and_true] at hcs
 obtain ⟨rfl, rfl, rfl⟩ := hcs
 have hml : len ≤ m := by rw [hmm]; split <;> omega
 obtain ⟨ls, hll, hq⟩ := mO (Q := fun i s => V i = cell s ∧ Q s) len (fun i hil => hel _ _ _ (hi i jo).2)
 have hcell : ∀ j u, (ls.map cell)[j]? = some u → w.cell? (ad.add j) = some u := by
  intro j u hu
  rw [zbr] at hu
  obtain ⟨s, hs, rfl⟩ := Option.map_eq_some_iff.1 hu
  have hj : j < ls.length := (List.getElem?_eq_some_iff.1 hs).1
  rw [(hi j jo).1, (hq j s hs).1]
 refine ⟨ls, hll, hl, by simpa [maxLen] using hm, ⟨by simp [hll], fun hn => ⟨ad, rfl, ?_, hcell⟩⟩, fun s hs => ?_⟩
 ·
  have := World.block_lt_of_cell? w _ (hcell 0 _ (ze (by simp; omega)))
  rwa [gU] at this
 obtain ⟨i, hi', hli⟩ := zcw hs
 exact (hq i s (by rw [ze hi', hli])).2
def SL (y : Option Addr × Nat × List Nat) : Value := .slice y.1 y.2.2.length y.2.1
end
end
section
open Go.RowKit
def Fro (w : World) (g : Nat) (e : TypeId) (cs : Array Value) : Prop := w.heap[g]? = some (.cells cs e (cs.size, cs.size + 1))
section
variable {S : List Nat} {w w' : World} {g : Nat} {e : TypeId} {cs : Array Value}
theorem Fro.lt (h : Fro w g e cs) : g < w.heap.size := (Array.getElem?_eq_some_iff.1 h).1
theorem Fro.cell (h : Fro w g e cs) (i : Nat) : w.cell? ⟨g, i, none⟩ = cs[i]? := by
 unfold Fro at h
 simp [World.cell?, h]
theorem Fro.frm (h : Fro w g e cs) (k : Frm S w w') (hg : g ∉ S) : Fro w' g e cs := (k.block g h.lt hg).trans h
end
section
variable {P : Program} {n : NF} {Γ : Env} {w : World} {dst : Option Tmp} {T : TypeId} {pos : String} {after : Array Edge} {g : Option (Nat × Bool)}
theorem qV.bytesOf {src dstT e : TypeId} {x : Operand} {s : ByteArray} (hx : ev? Γ x = some (.string s)) (hs : P.underlying src = some .string) (hd : P.underlying dstT = some (.slice e)) (he : P.underlying e = some (.int .u8)) :
  qV P ⟨dst, .convert src dstT x, T, pos, after, g⟩ Γ w (fun r w' => ∃ c cs, r = .slice (some ⟨w.heap.size, 0, none⟩) s.data.toList.length c ∧ Fro w' w.heap.size e cs ∧ cs.toList.take s.data.toList.length = U8 s.data.toList ∧ Frm [] w w') := fun ρ hρ => by
 have h := run_bytes_of_string (P := P) w src dstT e s hs hd he
 have hsz : s.data.toList.length = s.size := rfl
 refine ⟨.slice (some ⟨w.heap.size, 0, none⟩) s.size (grownCap w s.size 0 e), w.drew.alloc (.cells (bytesRow s (grownCap w s.size 0 e)) e ((bytesRow s (grownCap w s.size 0 e)).size, (bytesRow s (grownCap w s.size 0 e)).size + 1)), ?_,
  grownCap w s.size 0 e, bytesRow s (grownCap w s.size 0 e), by rw [hsz], ?_, ?_, ?_⟩
 ·
  simp only [execOp, hρ _ _ hx, Sem.run_bind, h, Result.andThen_ok]
  rfl
 ·
  unfold Fro
  show (w.heap.push _)[w.heap.size]? = _
  simp
 ·
  unfold bytesRow U8
  simp
 exact ((Frm.refl [] w).drew).alloc _
end
section
variable {P : Program} {n : NF} {Γ : Env} {w : World} {Q : Exit → Env → World → Prop} {ops : Array Oper} {rest : List Oper} {op : Op} {T : TypeId} {pos : String} {after : Array Edge} {g : Option (Nat × Bool)} {dst : Option Tmp}
theorem Ops.m0 {R : Value → World → Prop} (h : qV P ⟨none, op, T, pos, after, none⟩ Γ w R) (k : ∀ v w', R v w' → Ops P n ops rest Γ w' Q) : Ops P n ops (⟨none, op, T, pos, after, none⟩ :: rest) Γ w Q :=
 Ops.of_wp (show Up ops Γ none from trivial) fun a hs m => by
  obtain ⟨v, w', hr, hR⟩ := h _ hs.fits
  refine ⟨eL, ?_⟩
  rw [gT hr jp, Oper.uponIn_value]
  exact k v w' hR _ hs m
theorem wN (z : Array Value) (m : Nat) (u : Value) (h : u ∈ (Builtin.zeroCells z m).toList) : u ∈ z.toList := by
 simp only [Builtin.zeroCells, Array.toList_map, List.mem_map] at h
 obtain ⟨i, hi, rfl⟩ := h
 have hp : 0 < z.size := by
  rcases zem z.size with h0 | h0
  · simp [h0] at hi
  exact h0
 have hlt : i % z.size < z.size := Nat.mod_lt _ hp
 rw [getElem!_pos z _ hlt]
 exact Array.getElem_mem_toList _
theorem qV.clearCut {t e size m cap k : Nat} {x : Operand} {gb : Nat} {xs : List Value} {z : Value} (hx : ev? Γ x = some (.slice (dS (some ⟨gb, 0, none⟩) cap k size) (m - k) (cap - k))) (ht : P.underlying t = some (.slice e)) (hz : ∀ w, (zeroValue e).run P w = .ok z w)
  (hzs : z.cells.size = size) (h1 : ∀ u ∈ z.cells.toList, u.oneCell' = true) (ho : Own w e size (some ⟨gb, 0, none⟩) m cap xs) (hk : k ≤ m) :
  qV P ⟨dst, .call ⟨.builtin .clear, #[x], #[t]⟩, T, pos, after, g⟩ Γ w (fun _ w' => Own w' e size (some ⟨gb, 0, none⟩) k cap (xs.take (k * size)) ∧ Frm [gb] w w') := fun ρ hρ => by
 have ex : (execOp ρ ⟨dst, .call ⟨.builtin .clear, #[x], #[t]⟩, T, pos, after, g⟩).run P w = ((Builtin.clear_ #[t] T #[.slice (dS (some ⟨gb, 0, none⟩) cap k size) (m - k) (cap - k)]).run P w).andThen fun a w => .ok (.value a) w := by
  simp [execOp, resolve, invoke, builtin, hρ _ _ hx]
 have hnc := ho.le
 rcases Nat.lt_or_ge k m with hlt | hge
 ·
  rcases ho.cases with ⟨hA, _⟩ | ⟨g', cur, hA, hb, _, hc, hs, htk⟩
  · cases hA
  injection hA with hA
  injection hA with hA
  subst hA
  have ecut : dS (some (⟨gb, 0, none⟩ : Addr)) cap k size = some ⟨gb, k * size, none⟩ := by
   unfold dS
   rw [if_neg jo, zdx, oM]
  have hmk : m - k ≠ 0 := jo
  obtain ⟨j, hj⟩ : ∃ j, m - k = j + 1 := ⟨m - k - 1, jo⟩
  have hzl : (Builtin.zeroCells z.cells (m - k)).toList.length = (m - k) * size := by simp [Builtin.zeroCells, hzs]
  have e1 : (m - k) * size + k * size = m * size := by rw [← Nat.add_mul]; congr 1; omega
  have e2 : m * size ≤ cap * size := zdf _ hnc
  have hr := run_storeCells_at (P := P) gb (k * size) e (Builtin.zeroCells z.cells (m - k)).toList 0 cur w hb (by rw [hzl, hs]; omega) (fun u hu => h1 u (wN _ _ _ hu))
  simp only [Nat.add_zero, hzl] at hr
  generalize hcs : (List.take (k * size) cur.toList ++ (Builtin.zeroCells z.cells (m - k)).toList ++ List.drop (k * size + (m - k) * size) cur.toList).toArray = cs' at hr
  refine ⟨.tuple #[], w.setRow gb cs', ?_, ⟨?_, .inr ⟨gb, cap, cs', rfl, zj _, setRow_heap w gb cur _ e (0, 0) hb, jo, hc, ?_, ?_⟩⟩, ?_⟩
  ·
   rw [ex, ecut, hj]
   rw [hj] at hr
   simp [Builtin.clear_, run_underlying ht, hz, hr]
  ·
   rw [zk, ho.len]
   have : k * size ≤ m * size := zdf _ hk
   omega
  ·
   subst hcs
   simp only [zbg, zf, zk, zq, zcn, hzl, hs]
   omega
  ·
   subst hcs
   have e3 : (cur.toList.take (k * size)).length = k * size := by rw [zk, zcn, hs]; omega
   simp only [zab]
   rw [zcb (by rw [e3]; exact zag _), zh (by rw [e3]; exact zag _), ← htk, zex, zbh jo]
  exact ⟨rfl, rfl, rfl, by simp [World.setRow], fun k _ hS => setRow_other w gb k _ (by simpa using hS)⟩
 have hkm : k = m := jo
 subst hkm
 refine ⟨.tuple #[], w, ?_, ?_, Frm.refl _ _⟩
 ·
  rw [ex, zes]
  cases hA : dS (some (⟨gb, 0, none⟩ : Addr)) cap k size <;> simp [Builtin.clear_, run_underlying ht]
 rw [zh (by rw [ho.len]; exact zag _)]
 exact ho
end
section
variable {P : Program} {n : NF} {Γ : Env} {w : World} {K : Env → World → Prop} {Pn : List PanicEntry → World → Prop} {ops : Array Oper} {S : World → Prop} {L : Nat} {target : Array Bool}
end
end
section
open Go.RowKit
open Go.Maps (Keyed)
def MpF (P : Program) (k : TypeId) {κ : Type} (enc : κ → Value) (w : World) (g : Nat) (M : κ → Option Value) : Prop :=
 ∃ (es : List MapEntry) (clock : Nat), w.heap[g]? = some (.map es.toArray clock) ∧ (∀ e ∈ es, (∃ l, keyOf P k e.key = some l) ∧ e.born < clock) ∧ es.Pairwise (fun a b => a.born ≠ b.born ∧ a.key ≠ b.key) ∧ ∀ x v, M x = some v ↔ ∃ e ∈ es, e.key = enc x ∧ e.val = v
section
variable {P : Program} {k : TypeId} {κ : Type} {enc : κ → Value} {w w' : World} {g : Nat} {M : κ → Option Value} {S : List Nat}
theorem MpF.lt (h : MpF P k enc w g M) : g < w.heap.size := by
 obtain ⟨es, clock, h1, _⟩ := h
 exact (Array.getElem?_eq_some_iff.1 h1).1
theorem MpF.frm (h : MpF P k enc w g M) (f : Frm S w w') (hS : g ∉ S) : MpF P k enc w' g M := by
 have hl := h.lt
 obtain ⟨es, clock, h1, h2⟩ := h
 exact ⟨es, clock, (f.block g hl hS).trans h1, h2⟩
theorem MpF.ne_blk {b : Nat} {t : TypeId} {cs : Array Value} (h : MpF P k enc w g M) (hb : Blk w b t cs) : g ≠ b := by
 rintro rfl
 obtain ⟨es, clock, h1, _⟩ := h
 rw [show w.heap[g]? = _ from hb] at h1
 cases h1
theorem MpF.new : MpF P k enc (w.alloc (.map #[] 0)) w.heap.size (fun _ : κ => none) := by
 refine ⟨[], 0, (MapKept.heap_alloc w _).1, jp, List.Pairwise.nil, fun x v => ?_⟩
 simp
theorem gE (w : World) (g : Nat) (o : Obj) : Frm [g] w (ChangeMaps.setBlock w g o) :=
 ⟨rfl, rfl, rfl, by simp [ChangeMaps.setBlock], fun i _ hi => by
  unfold ChangeMaps.setBlock
  simp only [Array.getElem?_setIfInBounds]
  rw [if_neg (fun e => hi (by rw [e]; simp))]⟩
theorem qY4 {t e : TypeId} {z : Value} {x : κ} {kl : Lit} (h : MpF P k enc w g M) (K : Keyed P k) (ht : P.underlying t = some (.map k e)) (hz : (zeroValue e).run P w = .ok z w) (hkey : keyOf P k (enc x) = some kl) :
  (Instr.lookup t (.map (some g)) (enc x) false).run P w = .ok ((M x).getD z) w := by
 obtain ⟨es, clock, hb, h2, h3, h4⟩ := h
 rcases K.find w hkey es (fun e he => (h2 e he).1) with ⟨h5, h6⟩ | ⟨j, e0, h5, h6, h7⟩
 ·
  have hM : M x = none := by
   cases hm : M x with
   | none => rfl
   | some v =>
    obtain ⟨e1, he1, he2, _⟩ := (h4 x v).1 hm
    exact absurd he2 (h6 e1 he1)
  rw [hM]
  simp [Instr.lookup, run_underlying ht, MapKept.run_getObj_map hb, K.check w _ hkey, h5, hz, Result.andThen]
 have hM : M x = some e0.val := (h4 x e0.val).2 ⟨e0, zen h6, h7, rfl⟩
 rw [hM]
 simp [Instr.lookup, run_underlying ht, MapKept.run_getObj_map hb, K.check w _ hkey, h5, Result.andThen]
end
section
variable {P : Program} {k : TypeId} {κ : Type} {enc : κ → Value} {w : World} {g : Nat} {M : κ → Option Value} {Γ : Env} {dst : Option Tmp} {T : TypeId} {pos : String} {after : Array Edge} {gd : Option (Nat × Bool)}
theorem qV.makeMap {t : TypeId} : qV P ⟨dst, .makeMap t none, T, pos, after, gd⟩ Γ w (fun r w' => r = .map (some w.heap.size) ∧ MpF P k enc w' w.heap.size (fun _ : κ => none) ∧ Frm [] w w' ∧ w'.heap.size = w.heap.size + 1) := fun ρ _ =>
 ⟨_, w.alloc (.map #[] 0), by simp [execOp, run_makeMap], rfl, MpF.new, (Frm.refl [] w).alloc _, jp⟩
theorem Run.lookup {t e : TypeId} {a b : Operand} {z : Value} {x : κ} {kl : Lit} (ha : ev? Γ a = some (.map (some g))) (hb : ev? Γ b = some (enc x)) (h : MpF P k enc w g M) (K : Keyed P k) (ht : P.underlying t = some (.map k e)) (hz : ∀ w, (zeroValue e).run P w = .ok z w) (hkey : keyOf P k (enc x) = some kl) :
  Run P ⟨dst, .lookup t a b false, T, pos, after, gd⟩ Γ w ((M x).getD z) := fun ρ hρ => by
 simp [execOp, hρ _ _ ha, hρ _ _ hb, qY4 h K ht (hz w) hkey]
theorem Run.toArr {t e : TypeId} {a : Operand} {A : Option Addr} {len c n : Nat} (ha : ev? Γ a = some (.slice A len c)) (ht : P.underlying t = some (.array n e)) (hn : n ≤ len) : Run P ⟨dst, .sliceToArrayPointer t a, T, pos, after, gd⟩ Γ w (.pointer A) := fun ρ hρ => by
 have : ¬ len < n := jo
 simp [execOp, hρ _ _ ha, Instr.arrayAt, run_underlying ht, this]
end
end
section
open Go.RowKit
open Go.Maps (Keyed)
section
variable {P : Program} {k : TypeId} {κ : Type} {enc : κ → Value} {w w' : World} {g : Nat} {M : κ → Option Value} {S : List Nat}
theorem qHr [DecidableEq κ] {t e : TypeId} {x : κ} {kl : Lit} {v : Value} (h : MpF P k enc w g M) (K : Keyed P k) (henc : ∀ a b, enc a = enc b → a = b) (ht : P.underlying t = some (.map k e)) (hkey : keyOf P k (enc x) = some kl) :
  ∃ w' : World, (Instr.mapUpdate t (.map (some g)) (enc x) v).run P w = .ok () w' ∧ MpF P k enc w' g (fun y => if y = x then some v else M y) ∧ Frm [g] w w' ∧ w'.heap.size = w.heap.size := by
 have hlt := h.lt
 obtain ⟨es, clock, hb, h2, h3, h4⟩ := h
 rcases K.find w hkey es (fun e he => (h2 e he).1) with ⟨h5, h6⟩ | ⟨j, e0, h5, h6, h7⟩
 ·
  refine ⟨ChangeMaps.setBlock w g (.map (es ++ [(⟨enc x, v, clock⟩ : MapEntry)]).toArray (clock + 1)), ?_, ⟨es ++ [(⟨enc x, v, clock⟩ : MapEntry)], clock + 1, ?_, ?_, ?_, ?_⟩, gE w g _, by simp [ChangeMaps.setBlock]⟩
  · simp [Instr.mapUpdate, run_underlying ht, MapKept.run_getObj_map hb, K.check w _ hkey, h5, MapKept.run_setObj_map _ hb, Result.andThen, ChangeMaps.setBlock]
  · simp [ChangeMaps.setBlock, hlt]
  ·
   intro e1 he1
   rcases zcp.1 he1 with he1 | he1
   · exact ⟨(h2 e1 he1).1, by have := (h2 e1 he1).2; omega⟩
   rw [za] at he1
   subst he1
   exact ⟨⟨kl, hkey⟩, Nat.lt_succ_self _⟩
  ·
   refine List.pairwise_append.2 ⟨h3, jp, fun a ha b hb2 => ?_⟩
   rw [za] at hb2
   subst hb2
   exact ⟨by have := (h2 a ha).2; dsimp only; omega, h6 a ha⟩
  intro y u
  dsimp only
  by_cases hy : y = x
  ·
   subst hy
   rw [if_pos rfl]
   constructor
   ·
    intro hv
    simp only [Option.some.injEq] at hv
    exact ⟨⟨enc y, v, clock⟩, jp, rfl, hv⟩
   rintro ⟨e1, he1, he2, he3⟩
   rcases zcp.1 he1 with he1 | he1
   · exact absurd he2 (h6 e1 he1)
   rw [za] at he1
   subst he1
   simpa using he3
  rw [if_neg hy]
  constructor
  ·
   intro hv
   obtain ⟨e1, he1, he2⟩ := (h4 y u).1 hv
   exact ⟨e1, by simp [he1], he2⟩
  rintro ⟨e1, he1, he2, he3⟩
  rcases zcp.1 he1 with he1 | he1
  · exact (h4 y u).2 ⟨e1, he1, he2, he3⟩
  rw [za] at he1
  subst he1
  exact absurd (henc _ _ he2).symm hy
 have hkey0 : ({ e0 with key := enc x, val := v } : MapEntry) = { e0 with val := v } := by rw [← h7]
 have hmod : es.modify j (fun e => { e with key := enc x, val := v }) = es.set j { e0 with val := v } := by
  rw [ChangeMaps.modify_eq_set _ _ _ _ h6, hkey0]
 have hjl := (List.getElem?_eq_some_iff.1 h6).1
 have ej : es[j] = e0 := by rw [ze hjl] at h6; exact Option.some.inj h6
 have he0 : e0 ∈ es := zen h6
 have who : ∀ e1 ∈ es.set j { e0 with val := v }, e1 = { e0 with val := v } ∨ (e1 ∈ es ∧ e1.key ≠ e0.key ∧ e1.born ≠ e0.born) := by
  intro e1 he1
  obtain ⟨i, hi, ex⟩ := zcw he1
  rw [List.getElem_set] at ex
  split at ex
  · exact .inl ex.symm
  rename_i hne
  have hi' : i < es.length := by simpa using hi
  refine .inr ⟨ex ▸ zbp hi', ?_⟩
  rcases zfs hne with h5 | h5
  ·
   have := List.pairwise_iff_getElem.1 h3 j i hjl hi' h5
   rw [ej, ex] at this
   exact ⟨this.2.symm, this.1.symm⟩
  have := List.pairwise_iff_getElem.1 h3 i j hi' hjl h5
  rw [ej, ex] at this
  exact ⟨this.2, this.1⟩
 have back : ∀ e1 ∈ es, e1.key ≠ e0.key → e1 ∈ es.set j { e0 with val := v } := by
  intro e1 he1 hne
  obtain ⟨i, hi, ex⟩ := zcw he1
  have hij : j ≠ i := by
   rintro rfl
   rw [ze hi, ex] at h6
   exact hne (by rw [Option.some.inj h6])
  have : (es.set j { e0 with val := v })[i]? = some e1 := by rw [List.getElem?_set_ne hij, ze hi, ex]
  exact zen this
 have hmem : ({ e0 with val := v } : MapEntry) ∈ es.set j { e0 with val := v } := by
  have : (es.set j { e0 with val := v })[j]? = some { e0 with val := v } := by rw [List.getElem?_set_self hjl]
  exact zen this
 have hstay := K.stays w hkey
 refine ⟨ChangeMaps.setBlock w g (.map (es.set j { e0 with val := v }).toArray clock), ?_, ⟨es.set j { e0 with val := v }, clock, by simp [ChangeMaps.setBlock, hlt], ?_, ?_, ?_⟩, gE w g _, by simp [ChangeMaps.setBlock]⟩
 · simp [Instr.mapUpdate, run_underlying ht, MapKept.run_getObj_map hb, K.check w _ hkey, h5, h6, h7, hstay, MapKept.run_setObj_map _ hb, Result.andThen, ChangeMaps.setBlock, hmod]
 ·
  intro e1 he1
  rcases who e1 he1 with rfl | ⟨h5, _⟩
  · exact h2 e0 he0
  exact h2 e1 h5
 ·
  rw [List.pairwise_iff_getElem]
  intro a b ha hb2 hab
  have ha' : a < es.length := by simpa using ha
  have hb' : b < es.length := by simpa using hb2
  have h5 := List.pairwise_iff_getElem.1 h3 a b ha' hb' hab
  rw [List.getElem_set, List.getElem_set]
  by_cases h6 : j = a
  ·
   subst h6
   rw [if_pos rfl, if_neg jo]
   rw [ej] at h5
   exact h5
  rw [if_neg h6]
  by_cases h7 : j = b
  ·
   subst h7
   rw [if_pos rfl]
   rw [ej] at h5
   exact h5
  rw [if_neg h7]
  exact h5
 intro y u
 dsimp only
 by_cases hy : y = x
 ·
  subst hy
  rw [if_pos rfl]
  constructor
  ·
   intro hu
   exact ⟨_, hmem, h7, by simpa using hu⟩
  rintro ⟨e1, he1, he2, he3⟩
  rcases who e1 he1 with rfl | ⟨_, h6, _⟩
  · simpa using he3
  exact absurd (he2.trans h7.symm) h6
 rw [if_neg hy]
 constructor
 ·
  intro hu
  obtain ⟨e1, he1, he2, he3⟩ := (h4 y u).1 hu
  exact ⟨e1, back e1 he1 (fun e => hy (henc _ _ (by rw [← he2, ← h7, e]))), he2, he3⟩
 rintro ⟨e1, he1, he2, he3⟩
 rcases who e1 he1 with rfl | ⟨h5, _, _⟩
 · exact absurd (henc _ _ (h7.symm.trans he2)).symm hy
 exact (h4 y u).2 ⟨e1, h5, he2, he3⟩
end
section
variable {P : Program} {k : TypeId} {κ : Type} {enc : κ → Value} {w : World} {g : Nat} {M : κ → Option Value} {Γ : Env} {dst : Option Tmp} {T : TypeId} {pos : String} {after : Array Edge} {gd : Option (Nat × Bool)}
theorem qT.mapUpd [DecidableEq κ] {t e : TypeId} {a b c : Operand} {x : κ} {kl : Lit} {v : Value} (ha : ev? Γ a = some (.map (some g))) (hb : ev? Γ b = some (enc x)) (hc : ev? Γ c = some v) (h : MpF P k enc w g M) (K : Keyed P k) (henc : ∀ a b, enc a = enc b → a = b) (ht : P.underlying t = some (.map k e)) (hkey : keyOf P k (enc x) = some kl) :
  qT P ⟨dst, .mapUpdate t a b c, T, pos, after, gd⟩ Γ w (fun w' => MpF P k enc w' g (fun y => if y = x then some v else M y) ∧ Frm [g] w w' ∧ w'.heap.size = w.heap.size) := fun ρ hρ => by
 obtain ⟨w', h1, h2⟩ := qHr (t := t) (v := v) h K henc ht hkey
 exact ⟨w', by simp [execOp, hρ _ _ ha, hρ _ _ hb, hρ _ _ hc, h1], h2⟩
end
end
section
open Go.RowKit
section
variable {P : Program} {w : World} {g : Nat} {e : TypeId}
theorem Blk.setCells : ∀ (vs : List Value) (o : Nat) (w : World) (cs : Array Value), Blk w g e cs → o + vs.length ≤ cs.size → Blk (w.setCells g o vs) g e (cs.toList.take o ++ vs ++ cs.toList.drop (o + vs.length)).toArray
 | [], o, w, cs, h, _ => by
  simp only [World.setCells, zdy, Nat.add_zero, zav, zbq]
  exact h
 | v :: r, o, w, cs, h, hl => by
  have hl' : o + (r.length + 1) ≤ cs.size := hl
  have ih := Blk.setCells r (o + 1) (w.setCell ⟨g, o, none⟩ v) (cs.setIfInBounds o v) (h.set o v) (by rw [Array.size_setIfInBounds]; omega)
  rw [World.setCells]
  have e1 : (cs.setIfInBounds o v).toList = cs.toList.set o v := zfw ..
  have hsz : o < cs.toList.length := by rw [zcn]; omega
  have e2 : (cs.toList.set o v).take (o + 1) = cs.toList.take o ++ [v] := by
   rw [List.take_set, List.set_eq_take_append_cons_drop, if_pos (by rw [zk]; omega), zex, zbh jo]
   congr 2
   rw [zdh (by rw [zk]; omega)]
  have e3 : (cs.toList.set o v).drop (o + 1 + r.length) = cs.toList.drop (o + 1 + r.length) := by
   rw [List.drop_set, if_pos jo]
  rw [e1, e2, e3] at ih
  have e4 : cs.toList.take o ++ [v] ++ r ++ cs.toList.drop (o + 1 + r.length) = cs.toList.take o ++ v :: r ++ cs.toList.drop (o + (v :: r).length) := by
   rw [zad, show o + (r.length + 1) = o + 1 + r.length by omega]
   simp
  rw [e4] at ih
  exact ih
theorem Frm.setCells : ∀ (vs : List Value) (o : Nat) (w : World), Frm [g] w (w.setCells g o vs) ∧ (w.setCells g o vs).heap.size = w.heap.size
 | [], o, w => ⟨Frm.refl _ _, rfl⟩
 | v :: r, o, w => by
  obtain ⟨h1, h2⟩ := Frm.setCells r (o + 1) (w.setCell ⟨g, o, none⟩ v)
  exact ⟨(Frm.set1 w ⟨g, o, none⟩ v).trans h1 (fun x hx => .inl hx), h2.trans jp⟩
theorem qZ6 (vs : List Value) (o : Nat) (w : World) (cs : Array Value) (h : Blk w g e cs) (hl : o + vs.length ≤ cs.size) (h1 : ∀ v ∈ vs, v.oneCell' = true) : (storeCells ⟨g, o, none⟩ vs).run P w = .ok () (w.setCells g o vs) := by
 have := run_storeCells_cells (P := P) g o vs 0 w (fun j hj => by
  rw [h.cell, zhd jo]; rfl) (fun j _ => h.frozen _) h1
 simpa using this
theorem tR {size m c : Nat} {A : Option Addr} {ys : List Value} (hr : Rd w size A m ys) : (Builtin.firstCells size m (.slice A m c)).run P w = .ok ys.toArray w := by
 rcases zem m with hm | hm
 ·
  subst hm
  have hn0 : ys = [] := zca (by simpa using hr.1)
  subst hn0
  cases A <;> simp [Builtin.firstCells, loadCells, loadCellsFrom]
 obtain ⟨ad, rfl, _, hcell⟩ := hr.2 hm
 have hl := run_loadCells_list (P := P) w ad ys hcell
 rw [hr.1] at hl
 simp [Builtin.firstCells, hl]
theorem qKy {size m m' c : Nat} {A : Option Addr} {ys : List Value} (hr : Rd w size A m ys) : (Builtin.firstCells size m (.slice A m' c)).run P w = .ok ys.toArray w := by
 have h := tR (P := P) (c := c) hr
 cases A <;> exact h
theorem Own.more {size n N cap : Nat} {xs : List Value} (h : Own w e size (some ⟨g, 0, none⟩) n cap xs) (h1 : n ≤ N) (h2 : N ≤ cap) : ∃ zs, Own w e size (some ⟨g, 0, none⟩) N cap (xs ++ zs) ∧ zs.length = (N - n) * size := by
 have hl := h.len
 rcases h.cases with ⟨h0, _⟩ | ⟨g', cur, hA, hb, hnc, hc, hs, ht⟩
 · cases h0
 cases hA
 have hm1 : n * size ≤ N * size := zdf _ h1
 have hm2 : N * size ≤ cap * size := zdf _ h2
 refine ⟨(cur.toList.take (N * size)).drop (n * size), ⟨?_, .inr ⟨g, cap, cur, rfl, zj _, hb, h2, hc, hs, ?_⟩⟩, ?_⟩
 ·
  rw [zf, hl, zq, zk, zcn, hs]
  omega
 ·
  have e1 : cur.toList.take (n * size) = xs := ht
  have e2 : (cur.toList.take (N * size)).take (n * size) = xs := by rw [zex, zbh hm1, e1]
  conv => rhs; rw [← e2]
  rw [zbq]
 rw [zq, zk, zcn, hs, Nat.sub_mul]
 omega
theorem Own.write {size N cap o : Nat} {xs ys : List Value} (h : Own w e size (some ⟨g, 0, none⟩) N cap xs) (hle : o + ys.length ≤ xs.length) (h1 : ∀ v ∈ ys, v.oneCell' = true) :
  (storeCells ⟨g, o, none⟩ ys).run P w = .ok () (w.setCells g o ys) ∧ Own (w.setCells g o ys) e size (some ⟨g, 0, none⟩) N cap (xs.take o ++ ys ++ xs.drop (o + ys.length)) ∧ Frm [g] w (w.setCells g o ys) ∧ (w.setCells g o ys).heap.size = w.heap.size := by
 have hl := h.len
 rcases h.cases with ⟨h0, _⟩ | ⟨g', cur, hA, hb, hnc, hc, hs, ht⟩
 · cases h0
 cases hA
 have hm : N * size ≤ cap * size := zdf _ hnc
 have e1 : cur.toList.take (N * size) = xs := ht
 have hcl : cur.toList.length = cap * size := by rw [zcn, hs]
 refine ⟨qZ6 ys o w cur hb jo h1, ⟨?_, .inr ⟨g, cap, _, rfl, zj _, Blk.setCells ys o w cur hb jo, hnc, hc, ?_, ?_⟩⟩, Frm.setCells ys o w⟩
 ·
  rw [zf, zf, zk, zq]
  omega
 ·
  simp only [zbg, zf, zk, zq]
  omega
 show (cur.toList.take o ++ ys ++ cur.toList.drop (o + ys.length)).take (N * size) = _
 have hAB : (cur.toList.take o ++ ys).length = o + ys.length := by rw [zf, zk]; omega
 rw [← e1, zex, zbh jo, List.take_append, zh jo, hAB, List.drop_take]
theorem qV.copyOwn {Γ : Env} {dst : Option Tmp} {T : TypeId} {pos : String} {after : Array Edge} {gd : Option (Nat × Bool)} {x y : Operand} {dT sT : TypeId} {size N cap o dLen dCap sLen sCap : Nat} {A : Option Addr} {xs ys : List Value}
  (hx : ev? Γ x = some (.slice (some ⟨g, o, none⟩) dLen dCap)) (hy : ev? Γ y = some (.slice A sLen sCap)) (ht : P.underlying dT = some (.slice e)) (hz : ∀ w, (sizeOf e).run P w = .ok size w)
  (ho : Own w e size (some ⟨g, 0, none⟩) N cap xs) (n : Nat) (hr : Rd w size A n ys) (hn : Nat.min sLen dLen = n) (hle : o + ys.length ≤ xs.length) (h1 : ∀ v ∈ ys, v.oneCell' = true) :
  qV P ⟨dst, .call ⟨.builtin .copy, #[x, y], #[dT, sT]⟩, T, pos, after, gd⟩ Γ w
   (fun r w' => r = jI1 n ∧ Own w' e size (some ⟨g, 0, none⟩) N cap (xs.take o ++ ys ++ xs.drop (o + ys.length)) ∧ Frm [g] w w' ∧ w'.heap.size = w.heap.size) := fun ρ hρ => by
 obtain ⟨h2, h3, h4, h5⟩ := ho.write (P := P) hle h1
 refine ⟨_, w.setCells g o ys, ?_, rfl, h3, h4, h5⟩
 have hf := qKy (P := P) (m' := sLen) (c := sCap) hr
 simp [execOp, resolve, invoke, builtin, hρ _ _ hx, hρ _ _ hy, Builtin.copy_, run_underlying ht, Builtin.lenOf, hz, hn, hf, h2, goInt]
theorem qV.appIn {Γ : Env} {dst : Option Tmp} {T : TypeId} {pos : String} {after : Array Edge} {gd : Option (Nat × Bool)} {x y : Operand} {t : TypeId} {size N cap n m c2 : Nat} {A : Option Addr} {xs ys : List Value}
  (hx : ev? Γ x = some (.slice (some ⟨g, 0, none⟩) n cap)) (hy : ev? Γ y = some (.slice A m c2)) (ht : P.underlying t = some (.slice e)) (hz : ∀ w, (sizeOf e).run P w = .ok size w)
  (ho : Own w e size (some ⟨g, 0, none⟩) N cap xs) (hr : Rd w size A m ys) (hle : n + m ≤ N) (h1 : ∀ v ∈ ys, v.oneCell' = true) :
  qV P ⟨dst, .call ⟨.builtin .append, #[x, y], #[t, t]⟩, T, pos, after, gd⟩ Γ w
   (fun r w' => r = .slice (some ⟨g, 0, none⟩) (n + m) cap ∧ Own w' e size (some ⟨g, 0, none⟩) N cap (xs.take (n * size) ++ ys ++ xs.drop ((n + m) * size)) ∧ Frm [g] w w' ∧ w'.heap.size = w.heap.size) := fun ρ hρ => by
 have hyl := hr.1
 have hxl := ho.len
 have hm1 : (n + m) * size ≤ N * size := zdf _ hle
 have hm2 : (n + m) * size = n * size + m * size := Nat.add_mul _ _ _
 obtain ⟨h2, h3, h4, h5⟩ := ho.write (P := P) (o := n * size) (ys := ys) jo h1
 rw [hyl, ← hm2] at h3
 have hnc := ho.le
 refine ⟨_, w.setCells g (n * size) ys, ?_, rfl, h3, h4, h5⟩
 have hf := tR (P := P) (c := c2) hr
 have hadd : (⟨g, 0, none⟩ : Addr).add (n * size) = ⟨g, n * size, none⟩ := by unfold Addr.add; split <;> simp_all
 have hroom : n + m ≤ cap := jo
 simp [execOp, resolve, invoke, builtin, hρ _ _ hx, hρ _ _ hy, Builtin.append_, run_underlying ht, Builtin.lenOf, hz, hf, h2, hadd, hroom]
theorem gJ (z : Array Value) (n : Nat) : (Builtin.zeroCells z n).size = n * z.size := by simp [Builtin.zeroCells]
theorem Rd.drew {size n : Nat} {A : Option Addr} {xs : List Value} (h : Rd w size A n xs) : Rd w.drew size A n xs := ⟨h.1, fun hn => by
 obtain ⟨ad, h1, h2, h3⟩ := h.2 hn
 exact ⟨ad, h1, h2, h3⟩⟩
theorem qV.appMake {Γ : Env} {dst : Option Tmp} {T : TypeId} {pos : String} {after : Array Edge} {gd : Option (Nat × Bool)} {x y : Operand} {t t2 : TypeId} {kn kq : IntKind} {z : Value} {size bytes cap n k : Nat} {A : Option Addr} {xs : List Value}
    (hx : ev? Γ x = some (.slice A n cap)) (hy : ev? Γ y = some (.int kq (k : Int))) (ht : P.underlying t = some (.slice e)) (ht2 : P.underlying t2 = some (.int kn)) (hi : (P.info? e).map (fun i => (i.zero, i.size, i.bytes)) = some (some z, size, bytes)) (hzs : z.cells.size = size) (hsz : 0 < size)
    (hr : Rd w size A n xs) (hk : 0 < k) (hroom : cap < n + k) (h63 : n + k ≤ 4611686018427387904) (hb : (n + k) * bytes ≤ 140737488355328) (hcn : n ≤ cap) :
    qV P ⟨dst, .call ⟨.builtin .append, #[x, y], #[t, t2]⟩, T, pos, after, gd⟩ Γ w
      (fun r w' => ∃ c' zs, r = .slice (some ⟨w.heap.size, 0, none⟩) (n + k) c' ∧ Own w' e size (some ⟨w.heap.size, 0, none⟩) (n + k) c' (xs ++ zs) ∧ zs.length = k * size ∧ Frm [] w w') := fun ρ hρ => by
  obtain ⟨i0, hi0, hz0, hz1, hz2⟩ := info_parts hi
  have hf : (Builtin.firstCells i0.size n (.slice A n cap)).run P w.drew = .ok xs.toArray w.drew := by
    rw [hz1]; exact tR hr.drew
  have hkb : k * i0.bytes ≤ 281474976710656 := by
    rw [hz2]
    have : k * bytes ≤ (n + k) * bytes := zdf _ jo
    omega
  have hnx : Builtin.nextslicecap (n + k) cap * i0.bytes ≤ 281474976710656 := by
    rw [hz2]
    exact growslice_fits hroom hb
  have hrun := Lib.run_append_grow_zeros (P := P) w t t2 T e i0 z kq kn ht ht2 hi0 hz0 A n cap xs hf k hk jo hroom jo hkb hnx
  have hge := grownCap_ge w (n + k) cap e
  have hle := grownCap_le_maxLen w (n + k) cap e (by show n + k ≤ maxLen; have : (4611686018427387904 : Nat) ≤ maxLen := by decide
                                                     omega)
  have hms : (n + k) * size ≤ grownCap w (n + k) cap e * size := zdf _ hge
  have hdist : (n + k) * size = n * size + k * size := Nat.add_mul _ _ _
  have hsub : (grownCap w (n + k) cap e - (n + k)) * size = grownCap w (n + k) cap e * size - (n + k) * size := Nat.sub_mul _ _ _
  obtain ⟨cur, hcur⟩ : ∃ cur, cur = xs.toArray ++ Builtin.zeroCells z.cells k ++ Builtin.zeroCells z.cells (grownCap w (n + k) cap e - (n + k)) := ⟨_, rfl⟩
  rw [← hcur] at hrun
  refine ⟨_, w.drew.alloc (.cells cur e), ?_, grownCap w (n + k) cap e, (Builtin.zeroCells z.cells k).toList, rfl, ⟨?_, .inr ⟨w.heap.size, grownCap w (n + k) cap e, cur, rfl, zj _, Blk.new w.drew e cur, hge, hle, ?_, ?_⟩⟩, ?_, ?_⟩
  · simp only [execOp, resolve, invoke, builtin, zgt, zbo, zge, hρ _ _ hx, hρ _ _ hy, Sem.run_bind, Sem.run_pure, Result.andThen_ok, hrun]
  · rw [zf, hr.1, zcn, gJ, hzs, hdist]
  · rw [hcur]
    simp only [Array.size_append, gJ, hzs, zbg, hr.1, hsub]
    omega
  · rw [hcur, Array.toList_append, Array.toList_append, zcb (by simp only [zf, zcn, gJ, hzs, zbg, hr.1]; omega), zh (by simp only [zf, zcn, gJ, hzs, zbg, hr.1]; omega)]
  · rw [zcn, gJ, hzs]
  · exact ((Frm.refl [] w).drew).alloc _
theorem Run.capS {Γ : Env} {dst : Option Tmp} {T : TypeId} {pos : String} {after : Array Edge} {gd : Option (Nat × Bool)} {t : TypeId} {x : Operand} {a : Option Addr} {len cap : Nat} (hx : ev? Γ x = some (.slice a len cap)) (ht : P.underlying t = some (.slice e)) :
  Run P ⟨dst, .call ⟨.builtin .cap, #[x], #[t]⟩, T, pos, after, gd⟩ Γ w (jI1 cap) := fun ρ hρ => by
 simp [execOp, resolve, invoke, builtin, Builtin.cap_, hρ _ _ hx, run_underlying ht, goInt]
theorem Run.ext2 {Γ : Env} {dst : Option Tmp} {T : TypeId} {pos : String} {after : Array Edge} {gd : Option (Nat × Bool)} {f : FuncId} {x y : Operand} {a b v : Value} {ts : Array TypeId} (hx : ev? Γ x = some a) (hy : ev? Γ y = some b) (h : (callFunc f #[a, b]).run P w = .ok (.value v) w) :
  Run P ⟨dst, .call ⟨.value (.func f), #[x, y], ts⟩, T, pos, after, gd⟩ Γ w v := fun ρ hρ => by
 have e2 : ρ (.func f) = .func (.func f) #[] #[] := hρ _ _ rfl
 simp [execOp, resolve, e2, Deferred.ofValue, invoke, hρ _ _ hx, hρ _ _ hy, h]
theorem mN {cap i sz : Nat} (hi : i < cap) : dS (some (⟨g, 0, none⟩ : Addr)) cap i sz = some ⟨g, i * sz, none⟩ := by
 unfold dS
 rw [if_neg jo, zdx, oM]
theorem Blk.shape {t : TypeId} {cs : Array Value} (h : Blk w g t cs) : w.shape? g = some (t, cs.size) := by
 unfold Blk at h
 simp [World.shape?, h]
end
section
variable {P : Program} {w : World} {g : Nat} {e : TypeId} {Γ : Env} {dst : Option Tmp} {T : TypeId} {pos : String} {after : Array Edge} {gd : Option (Nat × Bool)}
theorem qT.storeSub {t : TypeId} {size N cap o : Nat} {x y : Operand} {xs : List Value} {vs : Array Value} (hx : ev? Γ x = some (.pointer (some ⟨g, o, none⟩))) (hy : ev? Γ y = some (.agg vs))
  (hz : ∀ w, (sizeOf t).run P w = .ok vs.size w) (ho : Own w e size (some ⟨g, 0, none⟩) N cap xs) (hle : o + vs.size ≤ xs.length) (h1 : ∀ v ∈ vs.toList, v.oneCell' = true) :
  qT P ⟨dst, .store t x y, T, pos, after, gd⟩ Γ w (fun w' => Own w' e size (some ⟨g, 0, none⟩) N cap (xs.take o ++ vs.toList ++ xs.drop (o + vs.size)) ∧ Frm [g] w w' ∧ w'.heap.size = w.heap.size) := fun ρ hρ => by
 obtain ⟨h2, h3, h4, h5⟩ := ho.write (P := P) (o := o) (ys := vs.toList) (by rw [zcn]; exact hle) h1
 rw [zcn] at h3
 refine ⟨w.setCells g o vs.toList, ?_, h3, h4, h5⟩
 simp only [execOp, Instr.storeAt, Instr.sureAddr, storeVar, hρ _ _ hx, hρ _ _ hy, Value.cells, Sem.run_bind, Sem.run_pure, Result.andThen_ok, hz, ne_eq, not_true_eq_false, if_false, Sem.run_ite, h2]
end
section
variable {P : Program} {n : NF} {ops : Array Oper} {S : World → Prop} {Pn : List PanicEntry → World → Prop} {L fuel : Nat} {listed : Array Bool} {Γ : Env} {w : World} {K : Env → World → Prop}
end
theorem Bin.and_u32 (x y : Nat) (hx : x ≤ 4294967295) (hy : y ≤ 4294967295) : Bin .and .u32 x .u32 y (.int .u32 ((x &&& y : Nat) : Int)) := Bin.andN x y hx hy
theorem Bin.xor_u32 (x y : Nat) (hx : x ≤ 4294967295) (hy : y ≤ 4294967295) : Bin .xor .u32 x .u32 y (.int .u32 ((x ^^^ y : Nat) : Int)) := Bin.xorN x y hx hy
theorem Bin.xor_u8 (x y : Nat) (hx : x ≤ 255) (hy : y ≤ 255) : Bin .xor .u8 x .u8 y (.int .u8 ((x ^^^ y : Nat) : Int)) := Bin.xorN x y hx hy
theorem Bin.shr_u32 {k' : IntKind} (x y : Nat) (h : x ≤ 4294967295) : Bin .shr .u32 x k' y (.int .u32 ((x / 2 ^ y : Nat) : Int)) := Bin.shrN x y h
theorem Bin.sub_u32 (x y : Nat) (hy : y ≤ x) (h : x ≤ 4294967295) : Bin .sub .u32 x .u32 y (.int .u32 ((x - y : Nat) : Int)) := Bin.subN x y hy (by simp only [bmax]; omega)
theorem Bin.quo_u32 (x y : Nat) (hy : y ≠ 0) (h : x ≤ 4294967295) : Bin .quo .u32 x .u32 y (.int .u32 ((x / y : Nat) : Int)) := Bin.quoN x y hy (by simp only [bmax]; exact zbd (zgh x y) h)
theorem qQy (n : Nat) (h : n ≤ 4294967295) : (BitVec.ofInt 32 4294967295 ^^^ BitVec.ofInt 32 (n : Int)).toNat = 4294967295 - n := by
 have e1 : BitVec.ofInt 32 4294967295 = BitVec.allOnes 32 := jd
 have e2 : BitVec.ofInt 32 (n : Int) = BitVec.ofNat 32 n := BitVec.ofInt_natCast 32 n
 rw [e1, e2, BitVec.allOnes_xor, BitVec.toNat_not, BitVec.toNat_ofNat]
 have : n % 2 ^ 32 = n := zdb jo
 rw [this]
theorem Run.compl32 {P : Program} {Γ : Env} {w : World} {dst : Option Nat} {xT T : TypeId} {pos : String} {after : Array Edge} {g : Option (Nat × Bool)} {x : Operand} (n : Nat) (hx : ev? Γ x = some (.int .u32 (n : Int))) (h : n ≤ 4294967295) : Run P ⟨dst, .unOp .xor xT x, T, pos, after, g⟩ Γ w (.int .u32 ((4294967295 - n : Nat) : Int)) := fun ρ hρ => by
 have e : IntKind.u32.wrap ((4294967295 - n : Nat) : Int) = ((4294967295 - n : Nat) : Int) := by
  rw [qYy, zdb jo]
 have e2 : (Op.unary .xor (.int .u32 (n : Int))).run P w = .ok (.int .u32 ((4294967295 - n : Nat) : Int)) w := by
  show Sem.run P (pure (Value.int .u32 (IntKind.u32.wrap ((BitVec.ofInt 32 4294967295 ^^^ BitVec.ofInt 32 (n : Int)).toNat)))) w = _
  rw [qQy n h, e]
  rfl
 simp only [execOp, hρ _ _ hx, Sem.run_bind, e2, Result.andThen_ok, Sem.run_pure]
theorem qV.make0 {P : Program} {Γ : Env} {w : World} {dst : Option Nat} {T : TypeId} {pos : String} {after : Array Edge} {g : Option (Nat × Bool)} {t e : TypeId} {x y : Operand} {z : Value} {size bytes c : Nat} {k k' : IntKind} (hx : ev? Γ x = some (.int k ((0 : Nat) : Int))) (hy : ev? Γ y = some (.int k' (c : Int)))
  (ht : P.underlying t = some (.slice e)) (hi : (P.info? e).map (fun i => (i.zero, i.size, i.bytes)) = some (some z, size, bytes)) (hb : bytes * c ≤ 281474976710656) (hc : c ≤ 9223372036854775807) :
  qV P ⟨dst, .makeSlice t x y, T, pos, after, g⟩ Γ w (fun r w' => r = .slice (some ⟨w.heap.size, 0, none⟩) 0 c ∧ Own w' e size (some ⟨w.heap.size, 0, none⟩) 0 c [] ∧ Frm [] w w' ∧ w'.heap.size = w.heap.size + 1) := fun ρ hρ => by
 obtain ⟨i, hi1, hi2⟩ := Option.map_eq_some_iff.1 hi
 simp only [Prod.mk.injEq] at hi2
 obtain ⟨hz, hsz, hbt⟩ := hi2
 have hr := run_make (P := P) w t e i z ht hi1 hz k k' ((0 : Nat) : Int) (c : Int) jo jo (by have h := Int.ofNat_le.2 hb; rw [Int.natCast_mul] at h; rw [hbt]; exact h) jo
 simp only [zdt, hsz] at hr
 refine ⟨_, w.alloc (.cells (madeCells z.cells (c * size)) e), ?_, rfl, ?_, (Frm.refl _ _).alloc _, (Fresh.mk' w e _).size⟩
 · simp only [execOp, hρ _ _ hx, hρ _ _ hy, Sem.run_bind, hr, Result.andThen_ok, Sem.run_pure]
 exact ⟨jp, .inr ⟨w.heap.size, c, _, rfl, zj _, Blk.new w e _, zj _, by simp [maxLen]; omega, by rw [size_madeCells], jp⟩⟩
theorem Run.eqNilS {P : Program} {Γ : Env} {w : World} {dst : Option Nat} {T : TypeId} {pos : String} {after : Array Edge} {g : Option (Nat × Bool)} {t yT e : TypeId} {x y : Operand} {A : Option Addr} {n c : Nat} (hx : ev? Γ x = some (.slice A n c)) (hy : ev? Γ y = some (.slice none 0 0)) (ht : P.underlying t = some (.slice e)) :
  Run P ⟨dst, .binOp .eql t x y yT, T, pos, after, g⟩ Γ w (.bool A.isNone) := fun ρ hρ => by
 have h0 : ∀ d : Nat, (Op.equalIn (d + 1) t (.slice A n c) (.slice none 0 0)).run P w = .ok A.isNone w := fun d => by
  cases A <;> simp [Op.equalIn, run_underlying ht]
 have h1 : (Op.equal t (.slice A n c) (.slice none 0 0)).run P w = .ok A.isNone w := h0 9999
 simp [execOp, hρ _ _ hx, hρ _ _ hy, eqGuard, binOp, h1]
theorem Run.slice3 {P : Program} {Γ : Env} {w : World} {dst : Option Nat} {T : TypeId} {pos : String} {after : Array Edge} {g : Option (Nat × Bool)} {t e : TypeId} {x lo hi mx : Operand} {a : Option Addr} {len cap sz : Nat} {k k' k'' : IntKind} (l h m : Nat) (hx : ev? Γ x = some (.slice a len cap)) (ht : P.underlying t = some (.slice e)) (hz : ∀ w, (sizeOf e).run P w = .ok sz w)
  (hlo : ev? Γ lo = some (.int k (l : Int))) (hhi : ev? Γ hi = some (.int k' (h : Int))) (hmx : ev? Γ mx = some (.int k'' (m : Int))) (h1 : l ≤ h) (h2 : h ≤ m) (h3 : m ≤ cap) :
  Run P ⟨dst, .slice t x (some lo) (some hi) (some mx), T, pos, after, g⟩ Γ w (.slice (dS a m l sz) (h - l) (m - l)) := fun ρ hρ => by
 have hb : ∀ (k : IntKind) (r y : Nat) (code : BoundsCode), r ≤ y → (Instr.sliceBound (.int k (r : Int)) y code).run P w = .ok r w := by
  intro k r y code hry
  have := run_sliceBound (P := P) w k (r : Int) y code jo jo
  simpa using this
 have hbb : (Instr.sliceBounds true len cap (some (.int k (l : Int))) (some (.int k' (h : Int))) (some (.int k'' (m : Int)))).run P w = .ok (l, h, m) w := by
  unfold Instr.sliceBounds
  simp [hb _ _ _ _ h1, hb _ _ _ _ h2, hb _ _ _ _ h3]
 simp only [execOp, Instr.sliceAt, Instr.slice, Sem.run_bind, run_underlying ht, Result.andThen_ok, hρ _ _ hx, hρ _ _ hlo, hρ _ _ hhi, hρ _ _ hmx, zdx, hbb, hz, Sem.run_pure]
 rfl
end
end Go.Proofs.YtoniopdkbeogjaaGreat
