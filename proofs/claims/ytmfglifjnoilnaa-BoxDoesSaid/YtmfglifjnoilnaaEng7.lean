/-
  Interfaces and functions as values: made, asked, called.
-/
import Derived.Test.YtmfglifjnoilnaaEng6
namespace Go.Proofs.Ytmfglifjnoilnaa
open Go.RowKit

section
variable {P : Program} {Γ : Env} {w : World} {dst : Option Tmp} {T : TypeId} {pos : String} {after : Array Edge} {g : Option (Nat × Bool)}
def notIface : TypeDesc → Bool
  | .interface _ => false
  | _ => true
theorem Run.mkIface {xT : TypeId} {x : Operand} {v : Value} {d : TypeDesc} (hx : ev? Γ x = some v) (hu : P.underlying xT = some d) (hd : notIface d = true) :
    Run P ⟨dst, .makeInterface xT x, T, pos, after, g⟩ Γ w (.iface xT v) := fun ρ hρ => by
  have e : (Instr.makeInterface xT v).run P w = .ok (.iface xT v) w := by
    unfold Instr.makeInterface
    simp only [Sem.run_bind, run_underlying hu, Result.andThen_ok]
    cases d <;> first | rfl | cases hd
  simp [execOp, hρ _ _ hx, e]
/-- The type that stands in it is asked for, without ok. -/
theorem Run.assertT {xT D : TypeId} {x : Operand} {v : Value} {d : TypeDesc} (hx : ev? Γ x = some (.iface D v)) (hu : P.underlying D = some d) (hd : notIface d = true) :
    Run P ⟨dst, .typeAssert x xT D false, T, pos, after, g⟩ Γ w v := fun ρ hρ => by
  have e : (Instr.typeAssert (.iface D v) xT D false).run P w = .ok v w := by
    unfold Instr.typeAssert
    simp only [Sem.run_bind, run_underlying hu, Result.andThen_ok]
    cases d <;> first | (simp; done) | cases hd
  simp [execOp, hρ _ _ hx, e]
theorem Run.mkFunc {f : FuncId} {xs ys : List Operand} {vs us : List Value} (hx : evs Γ xs vs) (hy : evs Γ ys us) :
    Run P ⟨dst, .makeFunc (.func f) xs.toArray ys.toArray, T, pos, after, g⟩ Γ w (.func (.func f) vs.toArray us.toArray) := fun ρ hρ => by
  have e1 := evs_map hρ xs vs hx
  have e2 := evs_map hρ ys us hy
  simp [execOp, Instr.makeFunc, e1, e2]
/-- A function that stands in a slot is called. -/
theorem Enters.dyn {c : Operand} {f : FuncId} {fs us : List Value} {xs : List Operand} {vs : List Value} {ts : Array TypeId} (hc : ev? Γ c = some (.func (.func f) fs.toArray us.toArray)) (hv : evs Γ xs vs) (hf : ∀ args w, (callFunc f args).run P w = .ok (.enter f args) w) :
    Enters P ⟨dst, .call ⟨.value c, xs.toArray, ts⟩, T, pos, after, g⟩ Γ w f (fs ++ vs ++ us).toArray := fun ρ hρ => by
  have e := evs_map hρ xs vs hv
  have e2 : ρ c = .func (.func f) fs.toArray us.toArray := hρ _ _ hc
  simp [execOp, resolve, e2, Deferred.ofValue, invoke, e, hf]
/-- A method of what stands in an interface. -/
theorem Enters.inv {recv : Operand} {name : String} {t : TypeId} {v v' : Value} {f : FuncId} {xs : List Operand} {vs : List Value} {ts : Array TypeId} (hr : ev? Γ recv = some (.iface t v)) (hv : evs Γ xs vs)
    (hm : ∀ args, (callMethod (.iface t v) name args).run P w = .ok (.enter f (#[v'] ++ args)) w) :
    Enters P ⟨dst, .call ⟨.invoke recv name, xs.toArray, ts⟩, T, pos, after, g⟩ Γ w f (v' :: vs).toArray := fun ρ hρ => by
  have e := evs_map hρ xs vs hv
  have e2 : ρ recv = .iface t v := hρ _ _ hr
  have h2 := hm vs.toArray
  simp [execOp, resolve, e2, invoke, e, Array.extract_append]
  simpa using h2
/-- A method of the value that a pointer points to, asked through the pointer. -/
theorem hm_deref {t e : TypeId} {a : Addr} {name : String} {i : TypeInfo} {m : Method} {f : FuncId} {v : Value} (hi : P.info? t = some i) (hfnd : i.methods.find? (·.name == name) = some m) (hpath : m.path = #[]) (hfun : m.func = some (f, false))
    (hu : P.underlying t = some (.pointer e)) (hv : (loadVar e a).run P w = .ok v w) (hf : ∀ args w, (callFunc f args).run P w = .ok (.enter f args) w) (args : Array Value) :
    (callMethod (.iface t (.pointer (some a))) name args).run P w = .ok (.enter f (#[v] ++ args)) w := by
  have hw : ∀ s, (Builtin.ssaWrapNilChk_ #[t] t #[.pointer (some a), strVal "", strVal s]).run P w = .ok (.pointer (some a)) w := by
    intro s
    rfl
  have ha : (asAddr (.pointer (some a))).run P w = .ok a w := rfl
  have key : ∀ n, (method (n + 1) t (.pointer (some a)) name).run P w = .ok (f, v) w := by
    intro n
    unfold method
    simp [typeInfo, hi, hfnd, hpath, hfun, follow, receiverAt, run_underlying hu, Place.get, ha, hv, hw]
  have e1 : P.types.size + Made.depth = (P.types.size + (Made.depth - 1)) + 1 := rfl
  unfold callMethod
  simp only [Sem.run_bind, run_program, Result.andThen_ok]
  rw [e1, key]
  simp [hf]
/-- What stands at an address, of a type of one cell. -/
theorem loadVar_cell {e : TypeId} {a : Addr} {v : Value} (ht : ∀ w, (isAgg e).run P w = .ok false w) (hc : w.cell? a = some v) : (loadVar e a).run P w = .ok v w := by simp [loadVar, ht, hc]
end

/-! ### reads in a region whose operations come in any order -/
section
variable {P : Program} {n : NF} {Γ : Env} {Pn : List PanicEntry → World → Prop} {w : World} {K : Env → World → Prop} {ops : Array Oper} {S : World → Prop} {L fuel : Nat} {listed : Array Bool}
/-- A read that alone may come up. -/
theorem HOps.r1 {v : Value} {d : Nat} (i : Nat) {oi : Oper} (hi : ops[i]? = some oi) (hr : Region.ready .any ops listed = [i]) (hS : S w) (h : Run P oi Γ w v) (hup : Up ops Γ oi.guard) (hd : oi.dst = some d) (hn : Nat.blt d n.n = true)
    (k : HOps P n ops S Pn L fuel (listed.setIfInBounds i true) ((d, v) :: Γ) w K) : HOps P n ops S Pn L (fuel + 1) listed Γ w K :=
  HOps.of_wp i hi hr hup fun a hs => by
    unfold Oper.wp
    rw [h _ hs.fits, Oper.upon_value, hd]
    exact ⟨hS, k _ (hs.put hn v)⟩
theorem Sat.swap {a : Act} {d e : Nat} {u v : Value} (hne : Nat.beq d e = false) (h : Sat n ((d, u) :: (e, v) :: Γ) a) : Sat n ((e, v) :: (d, u) :: Γ) a :=
  ⟨h.size, h.defers, fun t x ht => by
    refine h.at_ t x ?_
    simp only [get?] at ht ⊢
    cases h1 : Nat.beq d t with
    | true =>
      rw [h1] at ht
      simp only [cond_true] at ht ⊢
      cases h2 : Nat.beq e t with
      | true =>
        have e1 := Nat.eq_of_beq_eq_true h1
        have e2 := Nat.eq_of_beq_eq_true h2
        subst e1 e2
        rw [Nat.beq_refl] at hne
        cases hne
      | false => rw [h2] at ht; simpa using ht
    | false =>
      rw [h1] at ht
      simp only [cond_false] at ht ⊢
      exact ht⟩
/-- Two reads, of which either may come first. -/
theorem HOps.r2 {u v : Value} {d e : Nat} (i j : Nat) {oi oj : Oper} (hi : ops[i]? = some oi) (hj : ops[j]? = some oj) (hr : Region.ready .any ops listed = [i, j]) (hri : Region.ready .any ops (listed.setIfInBounds i true) = [j]) (hrj : Region.ready .any ops (listed.setIfInBounds j true) = [i])
    (hl : (listed.setIfInBounds j true).setIfInBounds i true = (listed.setIfInBounds i true).setIfInBounds j true) (hS : S w) (hgi : oi.guard = none) (hgj : oj.guard = none)
    (h1 : Run P oi Γ w u) (h2 : Run P oj ((d, u) :: Γ) w v) (h3 : Run P oj Γ w v) (h4 : Run P oi ((e, v) :: Γ) w u) (hd : oi.dst = some d) (he : oj.dst = some e) (hdn : Nat.blt d n.n = true) (hen : Nat.blt e n.n = true) (hne : Nat.beq d e = false)
    (k : HOps P n ops S Pn L fuel ((listed.setIfInBounds i true).setIfInBounds j true) ((e, v) :: (d, u) :: Γ) w K) : HOps P n ops S Pn L (fuel + 1 + 1) listed Γ w K := by
  intro a hs
  refine wpAnyE_all hr (by simp) ?_
  intro x hx
  simp only [List.mem_cons, List.not_mem_nil, or_false] at hx
  rcases hx with rfl | rfl
  · unfold wpOp
    simp only [hi]
    rw [if_pos (by unfold Region.wanted; rw [hgi])]
    left
    unfold Oper.wp
    rw [h1 _ hs.fits, Oper.upon_value, hd]
    exact ⟨hS, (HOps.r1 (S := S) j hj hri hS h2 (by rw [hgj]; trivial) he hen k) _ (hs.put hdn u)⟩
  · unfold wpOp
    simp only [hj]
    rw [if_pos (by unfold Region.wanted; rw [hgj])]
    left
    unfold Oper.wp
    rw [h3 _ hs.fits, Oper.upon_value, he]
    refine ⟨hS, (HOps.r1 (S := S) i hi hrj hS h4 (by rw [hgi]; trivial) hd hdn ?_) _ (hs.put hen v)⟩
    rw [hl]
    intro a' hs'
    exact k a' (Sat.swap hne hs')
/-- A read and something made, of which either may come first. -/
theorem HOps.rm {R : Value → World → Prop} {u : Value} {d e : Nat} (i j : Nat) {oi oj : Oper} (hi : ops[i]? = some oi) (hj : ops[j]? = some oj) {l2 : List Nat} (hr : Region.ready .any ops listed = l2) (hl2 : ∀ x ∈ l2, x = i ∨ x = j) (hl0 : l2 ≠ []) (hri : Region.ready .any ops (listed.setIfInBounds i true) = [j]) (hrj : Region.ready .any ops (listed.setIfInBounds j true) = [i])
    (hl : (listed.setIfInBounds j true).setIfInBounds i true = (listed.setIfInBounds i true).setIfInBounds j true) (hS : S w) (hgi : oi.guard = none) (hgj : oj.guard = none)
    (h1 : Run P oi Γ w u) (h2 : Does P oj ((d, u) :: Γ) w R) (h3 : Does P oj Γ w R) (h4 : ∀ v w', R v w' → S w' ∧ Run P oi ((e, v) :: Γ) w' u) (hd : oi.dst = some d) (he : oj.dst = some e) (hdn : Nat.blt d n.n = true) (hen : Nat.blt e n.n = true) (hne : Nat.beq d e = false)
    (k : ∀ v w', R v w' → HOps P n ops S Pn L fuel ((listed.setIfInBounds i true).setIfInBounds j true) ((e, v) :: (d, u) :: Γ) w' K) : HOps P n ops S Pn L (fuel + 1 + 1) listed Γ w K := by
  intro a hs
  refine wpAnyE_all hr hl0 ?_
  intro x hx
  rcases hl2 x hx with rfl | rfl
  · unfold wpOp
    simp only [hi]
    rw [if_pos (by unfold Region.wanted; rw [hgi])]
    left
    unfold Oper.wp
    rw [h1 _ hs.fits, Oper.upon_value, hd]
    exact ⟨hS, (HOps.m (S := S) j hj hri h2 (by rw [hgj]; trivial) he hen (fun v w' hR => ⟨(h4 v w' hR).1, k v w' hR⟩)) _ (hs.put hdn u)⟩
  · unfold wpOp
    simp only [hj]
    rw [if_pos (by unfold Region.wanted; rw [hgj])]
    left
    obtain ⟨v, w', hrun, hR⟩ := h3 _ hs.fits
    unfold Oper.wp
    rw [hrun, Oper.upon_value, he]
    obtain ⟨hS', h4'⟩ := h4 v w' hR
    refine ⟨hS', (HOps.r1 (S := S) i hi hrj hS' h4' (by rw [hgi]; trivial) hd hdn ?_) _ (hs.put hen v)⟩
    rw [hl]
    intro a' hs'
    exact k v w' hR a' (Sat.swap hne hs')
end

/-! ### ways that meet at once, in worlds that R tells of -/
section
variable {P : Program} {n : NF} {Γ : Env} {Pn : List PanicEntry → World → Prop} {w : World} {Q : Exit → Env → World → Prop}
theorem VC.splitR {c : Code} (Γk : Env) (R : World → Prop) (t : Nat) (v : Value) (h : VC P n c Γ w (thenQ (fun Γ1 w1 => Sub Γ1 ((t, v) :: Γk) ∧ R w1) Q)) (k : ∀ Γ1 w1, Sub Γ1 ((t, v) :: Γk) → R w1 → Q .normal Γ1 w1) : VC P n c Γ w Q :=
  h.mono fun e Γ' w' q => by
    cases e with
    | normal => exact k Γ' w' q.1 q.2
    | exit i => exact q
    | goto l => exact q
    | ret => exact q
    | panic c => exact q
    | outgrown => exact q
end
end Go.Proofs.Ytmfglifjnoilnaa
