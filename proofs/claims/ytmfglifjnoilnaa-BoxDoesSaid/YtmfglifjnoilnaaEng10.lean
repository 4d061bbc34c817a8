/-
  Functions that defer a closure which recovers.
-/
import Derived.Test.YtmfglifjnoilnaaEng9
namespace Go.Proofs.Ytmfglifjnoilnaa
open Go.RowKit

def LW (P : Program) (n : NF) (c : Code) (Γ : Env) (w : World) (QQ : Exit → Act → World → Prop) : Prop := n.ro = none → ∀ a, Sat n Γ a → c.wp P QQ a w
def upL (n : NF) (QQ : Exit → Act → World → Prop) : Exit → Env → World → Prop := fun e Γ w => ∀ a, Sat n Γ a → QQ e a w
section
variable {P : Program} {n : NF} {Γ : Env} {w : World} {QQ : Exit → Act → World → Prop} {c x y : Code} {R : Ending → World → Prop} {fn : Func} {res : Array ResultVar}
theorem LW.vc (h : VC P n c Γ w (upL n QQ)) : LW P n c Γ w QQ := fun hro a hs => by
  have h1 := h a hs 0
  rw [hro] at h1
  exact wp_mono (wpIn_wide.1 h1) (fun _ _ _ ⟨_, hs', q⟩ => q _ hs')
theorem LW.seq (h : VC P n x Γ w (thenQ (fun Γ' w' => LW P n y Γ' w' QQ) (upL n QQ))) : LW P n (.seq x y) Γ w QQ := by
  intro hro a hs
  have h1 := h a hs 0
  rw [hro] at h1
  refine wp_seq (wp_mono (wpIn_wide.1 h1) ?_)
  intro e a' w' hq
  obtain ⟨Γ', hs', q⟩ := hq
  cases e with
  | normal => exact q hro a' hs'
  | exit id => exact q a' hs'
  | goto l => exact q a' hs'
  | ret => exact q a' hs'
  | panic ch => exact q a' hs'
  | outgrown => exact q a' hs'
theorem LW.dfr {m : Nat} {D : List Deferred} {id : Nat} {om od : Oper} {t : Nat} {o : Operand} {f : FuncId} {us : List Value} {ts : Array TypeId} (h : Run P om Γ w (.func (.func f) #[] us.toArray)) (hgm : om.guard = none) (hdm : om.dst = some t) (htn : Nat.blt t m = true)
    (ho : od.op = .defer ⟨.value o, #[], ts⟩) (hg : od.guard = none) (hd : od.dst = none) (hc : ev? ((t, .func (.func f) #[] us.toArray) :: Γ) o = some (.func (.func f) #[] us.toArray))
    (k : LW P ⟨m, { target := .fn (.func f) us.toArray, args := #[] } :: D, none⟩ y ((t, .func (.func f) #[] us.toArray) :: Γ) w QQ) : LW P ⟨m, D, none⟩ (.seq (.region id #[om, od] false) y) Γ w QQ := by
  intro _ a hs
  refine wp_seq (wp_region_lit ?_)
  unfold wpList
  rw [if_pos (by unfold Region.wanted; rw [hgm])]
  left
  unfold Oper.wp
  rw [h _ hs.fits, Oper.upon_value, hdm]
  have hs1 := hs.put htn (.func (.func f) #[] us.toArray)
  unfold wpList
  rw [if_pos (by unfold Region.wanted; rw [hg])]
  left
  unfold Oper.wp
  have e2 := hs1.fits _ _ hc
  have hr : (execOp (a.put (some t) (.func (.func f) #[] us.toArray)).eval od).run P w = .ok (.defer { target := .fn (.func f) us.toArray, args := #[] }) w := by
    simp [execOp, ho, resolve, e2, Deferred.ofValue]
  rw [hr, Oper.upon_defer, hd]
  refine wpList_nil (k rfl _ ⟨hs1.size, ?_, hs1.at_⟩)
  show _ :: (a.put (some t) _).defers = _
  rw [hs1.defers]
theorem LW.sub (Γ' : Env) (hs : Sub Γ Γ') (h : LW P n c Γ' w QQ) : LW P n c Γ w QQ := fun hro a ha => h hro a (ha.sub hs)
theorem invoke_clo {f : FuncId} {us : List Value} (hi : ∀ args w, (callFunc f args).run P w = .ok (.enter f args) w) (w : World) : (invoke (.fn (.func f) us.toArray) #[]).run P w = .ok (.enter f us.toArray) w := by
  simp [invoke, hi]
theorem upL_ret0 {m : Nat} (hr : fn.results = res) (h : endQ P res R .ret Γ w) : upL ⟨m, [], none⟩ (bodyPostD P fn R) .ret Γ w := fun a hs => by
  obtain ⟨vs, h1, h2⟩ := resQ_results hs hr h
  show Leaves P fn a.tmps R a.defers .returning w
  rw [hs.defers]
  exact ⟨_, h1, h2⟩
theorem upL_retD {m : Nat} {f : FuncId} {us : List Value} (hr : fn.results = res) (hi : ∀ args w, (callFunc f args).run P w = .ok (.enter f args) w)
    (hc : CallsD P f us.toArray .returning w fun e u w' => (∃ v, e = .returned v) ∧ settle u = .returning ∧ endQ P res R .ret Γ w') : upL ⟨m, [{ target := .fn (.func f) us.toArray, args := #[] }], none⟩ (bodyPostD P fn R) .ret Γ w := fun a hs => by
  show Leaves P fn a.tmps R a.defers .returning w
  rw [hs.defers]
  refine leaves_cons (by simp) (invoke_clo hi w) (hc.mono ?_)
  rintro e u w' ⟨⟨v, rfl⟩, hu, h⟩
  obtain ⟨vs, h1, h2⟩ := resQ_results hs hr h
  dsimp only
  rw [hu]
  exact ⟨_, h1, h2⟩
theorem upL_panD {m : Nat} {f : FuncId} {us : List Value} {ch : List PanicEntry} (hr : fn.results = res) (hi : ∀ args w, (callFunc f args).run P w = .ok (.enter f args) w)
    (hc : CallsD P f us.toArray (.panicking ch) w fun e u w' => (∃ v, e = .returned v) ∧ settle u = .returning ∧ endQ P res R .ret Γ w') : upL ⟨m, [{ target := .fn (.func f) us.toArray, args := #[] }], none⟩ (bodyPostD P fn R) (.panic ch) Γ w := fun a hs => by
  show Leaves P fn a.tmps R a.defers (.panicking ch) w
  rw [hs.defers]
  refine leaves_cons (by simp) (invoke_clo hi w) (hc.mono ?_)
  rintro e u w' ⟨⟨v, rfl⟩, hu, h⟩
  obtain ⟨vs, h1, h2⟩ := resQ_results hs hr h
  dsimp only
  rw [hu]
  exact ⟨_, h1, h2⟩
theorem LW.calls {f : FuncId} {args : List Value} {nt : Nat} (hf : P.funcs[f]? = some fn) (hb : fn.body = some c) (hn : fn.ntmps = nt) (hl0 : Nat.ble args.length nt = true)
    (h : LW P ⟨nt, [], none⟩ c (argEnv 0 args) w (bodyPostD P fn R)) : Calls P f args.toArray w R := by
  have hl : args.length ≤ nt := Nat.le_of_ble_eq_true hl0
  refine calls_of_wp_defers hf hb (h rfl _ ?_)
  refine ⟨?_, rfl, ?_⟩
  · simp only [Array.size_append, List.size_toArray, Array.size_replicate, hn]
    omega
  · intro t v ht
    obtain ⟨_, h2⟩ := argEnv_get args 0 t v ht
    simp only [Nat.sub_zero] at h2
    have hlt : t < args.length := (List.getElem?_eq_some_iff.1 h2).1
    rw [Array.getD_eq_getD_getElem?, Array.getElem?_append_left (by simpa using hlt)]
    simp [h2]
end
/-! ### a deferred closure that recovers first -/
section
variable {P : Program} {Γ : Env} {w : World} {rest : Code} {R : Ending → FrameMode → World → Prop} {fn : Func} {res : Array ResultVar}
theorem VC.recovered {f : FuncId} {args : List Value} {nt id : Nat} {o4 o3 : Oper} {d e : Nat} {u u' : FrameMode} {v : Value} (hf : P.funcs[f]? = some fn) (hb : fn.body = some (.seq (.region id #[o4, o3] false) rest)) (hn : fn.ntmps = nt) (hr : fn.results = res) (hl0 : Nat.ble args.length nt = true)
    (hu : (∃ older, u = .panicking ({ v, recovered := false } :: older) ∧ u' = .panicking ({ v, recovered := true } :: older)) ∨ (u = .returning ∧ u' = u ∧ v = .nilIface))
    (h4 : o4.op = .call ⟨.builtin .recover, #[], #[]⟩) (hg4 : o4.guard = none) (hd4 : o4.dst = some d) (h3 : o3.op = .assign (.tmp d)) (hg3 : o3.guard = none) (hd3 : o3.dst = some e) (hdn : Nat.blt d nt = true) (hen : Nat.blt e nt = true)
    (k : VC P ⟨nt, [], none⟩ rest ((e, v) :: (d, v) :: argEnv 0 args) w (endQ P res (fun x w' => R x u' w'))) : CallsD P f args.toArray u w R := by
  have hl : args.length ≤ nt := Nat.le_of_ble_eq_true hl0
  refine callsD_of_wpS hf hb fun c₀ cs hmode => wpS_seq (wpS_region ?_)
  have hs0 : Sat ⟨nt, [], none⟩ (argEnv 0 args) { tmps := args.toArray ++ Array.replicate (fn.ntmps - args.toArray.size) undef, defers := [] } := by
    refine ⟨?_, rfl, ?_⟩
    · simp only [Array.size_append, List.size_toArray, Array.size_replicate, hn]
      omega
    · intro t v ht
      obtain ⟨_, h2⟩ := argEnv_get args 0 t v ht
      simp only [Nat.sub_zero] at h2
      have hlt : t < args.length := (List.getElem?_eq_some_iff.1 h2).1
      rw [Array.getD_eq_getD_getElem?, Array.getElem?_append_left (by simpa using hlt)]
      simp [h2]
  generalize ({ tmps := args.toArray ++ Array.replicate (fn.ntmps - args.toArray.size) undef, defers := [] } : Act) = a0 at hs0
  have e0 : (execOp a0.eval o4).run P w = .ok .recover w := by
    simp [execOp, h4, resolve, invoke, builtin]
  have fin : ∀ cs', cs' = { c₀ with mode := u' } :: cs → wpOpsS P #[o4, o3] (Exit.thenS (rest.wpS P (bodyPostS P fn c₀ cs R)) (bodyPostS P fn c₀ cs R)) [1] (a0.put o4.dst v) cs' w := by
    rintro cs' rfl
    have hs1 := hs0.put hdn v
    rw [hd4]
    have e1 : (execOp (a0.put (some d) v).eval o3).run P w = .ok (.value v) w := by
      have h5 : (a0.put (some d) v).eval (.tmp d) = v := hs1.fits (.tmp d) v (by simp [ev?, get?])
      simp [execOp, h3, h5]
    have hs2 := hs1.put hen v
    simp only [wpOpsS, show (#[o4, o3] : Array Oper)[1]? = some o3 from rfl]
    rw [if_pos (by unfold Region.wanted; rw [hg3]), e1]
    simp only [Oper.upon_value, hd3]
    refine wpS_of_wp (wp_mono (wpIn_wide.1 (k _ hs2 0)) ?_)
    rintro x a' w' ⟨Γ', hs', q⟩
    have key : endQ P res (fun x w' => R x u' w') .ret Γ' w' → ∃ v, (results fn a'.tmps).run P w' = .ok v w' ∧ R (.returned v) u' w' := by
      intro q
      obtain ⟨vs, h1, h2⟩ := resQ_results hs' hr q
      exact ⟨_, h1, h2⟩
    cases x with
    | normal => obtain ⟨v, h1, h2⟩ := key q; exact ⟨hs'.defers, _, rfl, v, h1, h2⟩
    | ret => obtain ⟨v, h1, h2⟩ := key q; exact ⟨hs'.defers, _, rfl, v, h1, h2⟩
    | panic ch => exact ⟨hs'.defers, _, rfl, q⟩
    | exit id => exact q.elim
    | goto l => exact q.elim
    | outgrown => exact q.elim
  show wpOpsS P #[o4, o3] _ [0, 1] a0 (c₀ :: cs) w
  rw [wpOpsS]
  simp only [show (#[o4, o3] : Array Oper)[0]? = some o4 from rfl]
  rw [if_pos (by unfold Region.wanted; rw [hg4]), e0]
  dsimp only
  rcases hu with ⟨older, rfl, rfl⟩ | ⟨rfl, rfl, rfl⟩
  · have : recoverD (c₀ :: cs) = some (v, { c₀ with mode := .panicking ({ v, recovered := true } :: older) } :: cs) := by simp [recoverD, hmode]
    rw [this]
    exact fin _ rfl
  · have : recoverD (c₀ :: cs) = none := by simp [recoverD, hmode]
    rw [this]
    exact fin _ (by rw [← hmode])
end
section
variable {P : Program} {Γ : Env} {w : World} {dst : Option Tmp} {T : TypeId} {pos : String} {after : Array Edge} {g : Option (Nat × Bool)}
theorem Run.neqNil2 {t yT : TypeId} {x : Operand} {d : TypeDesc} (hx : ev? Γ x = some .nilIface) (ht : P.underlying t = some d) (hd : notIface d = false) :
    Run P ⟨dst, .binOp .neq t x (.const .nilIface) yT, T, pos, after, g⟩ Γ w (.bool false) := fun ρ hρ => by
  have h0 : ∀ k : Nat, (Op.equalIn (k + 1) t .nilIface .nilIface).run P w = .ok true w := fun k => by
    cases d <;> first | (cases hd; done) | simp [Op.equalIn, run_underlying ht]
  have h1 : (Op.equal t .nilIface .nilIface).run P w = .ok true w := h0 9999
  have hy : ρ (.const .nilIface) = .nilIface := hρ _ _ rfl
  simp [execOp, hρ _ _ hx, hy, eqGuard, binOp, h1]
end
/-! ### several operations of which each may come first, walked one by one -/
section
variable {P : Program} {n : NF} {Γ : Env} {w : World} {K : Env → World → Prop} {Pn : List PanicEntry → World → Prop} {ops : Array Oper} {S : World → Prop} {L fuel : Nat} {listed : Array Bool} {i : Nat} {oi : Oper} {d : Nat}
/-- Number i comes first. -/
def HOne (P : Program) (n : NF) (ops : Array Oper) (S : World → Prop) (Pn : List PanicEntry → World → Prop) (L fuel : Nat) (listed : Array Bool) (i : Nat) (Γ : Env) (w : World) (K : Env → World → Prop) : Prop :=
  ∀ a, Sat n Γ a → wpOp P ops (liftN n K Pn) i (fun a' w' => S w' ∧ wpAnyE P ops (liftN n K Pn) S L fuel (listed.setIfInBounds i true) a' w') a w
theorem HOps.or2 (i j : Nat) (hr : Region.ready .any ops listed = [i, j]) (h1 : HOne P n ops S Pn L fuel listed i Γ w K) (h2 : HOne P n ops S Pn L fuel listed j Γ w K) : HOps P n ops S Pn L (fuel + 1) listed Γ w K := fun a hs =>
  wpAnyE_all hr (by simp) (by intro x hx; simp only [List.mem_cons, List.not_mem_nil, or_false] at hx; rcases hx with rfl | rfl; exact h1 a hs; exact h2 a hs)
theorem HOps.or3 (i j k : Nat) (hr : Region.ready .any ops listed = [i, j, k]) (h1 : HOne P n ops S Pn L fuel listed i Γ w K) (h2 : HOne P n ops S Pn L fuel listed j Γ w K) (h3 : HOne P n ops S Pn L fuel listed k Γ w K) : HOps P n ops S Pn L (fuel + 1) listed Γ w K := fun a hs =>
  wpAnyE_all hr (by simp) (by intro x hx; simp only [List.mem_cons, List.not_mem_nil, or_false] at hx; rcases hx with rfl | rfl | rfl; exact h1 a hs; exact h2 a hs; exact h3 a hs)
theorem HOne.of_wp (hi : ops[i]? = some oi) (hup : Up ops Γ oi.guard) (h : ∀ a, Sat n Γ a → oi.wp P a w (fun a' w' => S w' ∧ wpAnyE P ops (liftN n K Pn) S L fuel (listed.setIfInBounds i true) a' w') (liftN n K Pn)) : HOne P n ops S Pn L fuel listed i Γ w K := by
  intro a hs
  unfold wpOp
  simp only [hi]
  rw [if_pos (hup.wanted hs)]
  exact .inl (h a hs)
theorem HOne.m {R : Value → World → Prop} (hi : ops[i]? = some oi) (h : Does P oi Γ w R) (hup : Up ops Γ oi.guard) (hd : oi.dst = some d) (hn : Nat.blt d n.n = true)
    (k : ∀ v w', R v w' → S w' ∧ HOps P n ops S Pn L fuel (listed.setIfInBounds i true) ((d, v) :: Γ) w' K) : HOne P n ops S Pn L fuel listed i Γ w K :=
  HOne.of_wp hi hup fun a hs => by
    obtain ⟨v, w', hrun, hR⟩ := h _ hs.fits
    unfold Oper.wp
    rw [hrun, Oper.upon_value, hd]
    exact ⟨(k v w' hR).1, (k v w' hR).2 _ (hs.put hn v)⟩
theorem HOne.r1 {v : Value} (hi : ops[i]? = some oi) (hS : S w) (h : Run P oi Γ w v) (hup : Up ops Γ oi.guard) (hd : oi.dst = some d) (hn : Nat.blt d n.n = true)
    (k : HOps P n ops S Pn L fuel (listed.setIfInBounds i true) ((d, v) :: Γ) w K) : HOne P n ops S Pn L fuel listed i Γ w K :=
  HOne.of_wp hi hup fun a hs => by
    unfold Oper.wp
    rw [h _ hs.fits, Oper.upon_value, hd]
    exact ⟨hS, k _ (hs.put hn v)⟩
theorem HOne.st {R : World → Prop} (hi : ops[i]? = some oi) (h : Acts P oi Γ w R) (hup : Up ops Γ oi.guard) (hd : oi.dst = none)
    (k : ∀ w', R w' → S w' ∧ HOps P n ops S Pn L fuel (listed.setIfInBounds i true) Γ w' K) : HOne P n ops S Pn L fuel listed i Γ w K :=
  HOne.of_wp hi hup fun a hs => by
    obtain ⟨w', hrun, hR⟩ := h _ hs.fits
    unfold Oper.wp
    rw [hrun, Oper.upon_skip, hd]
    exact ⟨(k w' hR).1, (k w' hR).2 _ hs⟩
theorem HOne.cl {f : FuncId} {args : Array Value} {R : Ending → World → Prop} (hi : ops[i]? = some oi) (he : Enters P oi Γ w f args) (hc : Calls P f args w R) (hup : Up ops Γ oi.guard) (hd : oi.dst = some d) (hn : Nat.blt d n.n = true)
    (k : ∀ e w', R e w' → ∃ v, e = .returned v ∧ S w' ∧ HOps P n ops S Pn L fuel (listed.setIfInBounds i true) ((d, v) :: Γ) w' K) : HOne P n ops S Pn L fuel listed i Γ w K :=
  HOne.of_wp hi hup fun a hs => by
    unfold Oper.wp
    rw [he _ hs.fits, Oper.upon_enter, hd]
    refine hc.mono ?_
    intro e w' hR
    obtain ⟨v, rfl, h1, h2⟩ := k e w' hR
    exact ⟨h1, h2 _ (hs.put hn v)⟩
end
end Go.Proofs.Ytmfglifjnoilnaa
