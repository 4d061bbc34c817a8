/-
  Lemmas on the way, joined: EngB, Eng18, Eng19, BitsW, CanP, CanW, CanC, BitsV, BitsT, CanV, CanT, DefP.
-/
import Derived.Recover
import Derived.Deep.Strs
import Derived.Laws.IdiomStrings
import Derived.Sort.Walk0
import Derived.Sort.EncStr
import Derived.Maps.Keyed
import Derived.DeepKeys4
import Derived.Carry
import Derived.Test.YtndjgmbfkkgpdaaGreatPk0
set_option maxRecDepth 100000
namespace Go.Proofs.YtndjgmbfkkgpdaaGreat
section
open Go.RowKit
section
variable {P : Program} {Γ : Env} {w : World} {dst : Option Tmp} {T : TypeId} {pos : String} {after : Array Edge} {g : Option (Nat × Bool)}
theorem qJs.pn {x : Operand} {t : TypeId} {v : Value} (hx : ev? Γ x = some (.iface t v)) : qJs P ⟨dst, .panic x, T, pos, after, g⟩ Γ w (.iface t v) := fun ρ hρ => by
 simp [execOp, hρ _ _ hx, Instr.panic, goPanic]
theorem Run.maxI {t : TypeId} {x y : Operand} {k : IntKind} {a b : Int} {ts : Array TypeId} (hx : ev? Γ x = some (.int k a)) (hy : ev? Γ y = some (.int k b)) :
  Run P ⟨dst, .call ⟨.builtin .max, #[x, y], ts⟩, t, pos, after, g⟩ Γ w (.int k (if a < b then b else a)) := fun ρ hρ => by
 simp [execOp, resolve, invoke, builtin, Builtin.max_, Builtin.max2, hρ _ _ hx, hρ _ _ hy]
theorem Run.indexArrA {α : Type} (f : α → List Value) {t e : TypeId} {x i : Operand} {n : Nat} {k : IntKind} {sz : Nat} {l : List α} (j : Nat) (hx : ev? Γ x = some (.agg (l.flatMap f).toArray)) (hi : ev? Γ i = some (.int k j)) (ht : P.underlying t = some (.array n e))
  (ha : ∀ w, (isAgg e).run P w = .ok true w) (hz : ∀ w, (sizeOf e).run P w = .ok sz w) (hf : ∀ a, (f a).length = sz) (hl : l.length = n) (hj : j < l.length) : Run P ⟨dst, .index t x i, T, pos, after, g⟩ Γ w (.agg (f l[j]).toArray) := fun ρ hρ => by
 have h1 : (j : Int) < (n : Int) := jo
 have h2 := cI f sz hf l j hj
 have h3 : (l.flatMap f).toArray.extract (j * sz) (j * sz + sz) = (f l[j]).toArray := by
  rw [← h2]
  apply Array.ext'
  simp
 have h4 : j < n := jo
 simp only [List.extract_toArray] at h3
 simp [execOp, hρ _ _ hx, hρ _ _ hi, Instr.index, asIntOf, run_underlying ht, h4, part, ha, hz]
 simpa using h3
theorem Run.buildA {t e : TypeId} {n size : Nat} {parts : List (Nat × Operand)} {vs : List Value} {z cells : Array Value} (hv : evs Γ (parts.map (·.2)) vs) (hz : ∀ w, (zeroValue t).run P w = .ok (.agg z) w)
  (hu : P.underlying t = some (.array n e)) (hsz : ∀ w, (sizeOf e).run P w = .ok size w) (hf : Instr.fill (fun i => some (i * size, size)) z ((parts.map (·.1)).zip vs) = some cells) :
  Run P ⟨dst, .build t parts.toArray, T, pos, after, g⟩ Γ w (.agg cells) := fun ρ hρ => by
 have e1 := hZ hρ _ _ hv
 have e2 : parts.map (fun p => (p.1, ρ p.2)) = (parts.map (·.1)).zip vs := by
  rw [← e1, zeh, List.zip_map']
  rfl
 simp only [execOp, Instr.build, Sem.run_bind, hz, Result.andThen_ok, Value.cells, run_underlying hu, hsz, List.map_toArray, e2, hf, Sem.run_pure]
theorem Run.sliceA {t e : TypeId} {x : Operand} {a : Addr} {n sz : Nat} {lo hi : Option Operand} (l h : Nat) (hx : ev? Γ x = some (.pointer (some a))) (ht : P.underlying t = some (.array n e)) (hz : ∀ w, (sizeOf e).run P w = .ok sz w)
  (hlo : evB Γ lo 0 l) (hhi : evB Γ hi n h) (h1 : l ≤ h) (h2 : h ≤ n) :
  Run P ⟨dst, .slice t x lo hi none, T, pos, after, g⟩ Γ w (.slice (cC (some a) n l sz) (h - l) (n - l)) := fun ρ hρ => by
 have hb : ∀ (k : IntKind) (r y : Nat) (code : BoundsCode), r ≤ y → (Instr.sliceBound (.int k (r : Int)) y code).run P w = .ok r w := by
  intro k r y code hry
  have := run_sliceBound (P := P) w k (r : Int) y code jo jo
  simpa using this
 have hbs : (Instr.sliceBounds false n n (lo.map ρ) (hi.map ρ) none).run P w = .ok (l, h, n) w := zW (P := P) (w := w) hρ n n l h lo hi hlo hhi h1 h2 false
 simp only [execOp, Instr.sliceAt, Sem.run_bind, run_underlying ht, Result.andThen_ok, hρ _ _ hx, Option.map_none, Instr.sureAddr, Sem.run_pure, hbs, hz]
 unfold cC
 split
 · rename_i h0; simp [h0]
 rename_i h0; simp [h0]
theorem Run.neqNilI {t yT : TypeId} {x y : Operand} {u : TypeId} {v : Value} {d : TypeDesc} (hx : ev? Γ x = some (.iface u v)) (hy : ev? Γ y = some .nilIface) (ht : P.underlying t = some d) (hd : sI d = false) :
  Run P ⟨dst, .binOp .neq t x y yT, T, pos, after, g⟩ Γ w (.bool true) := fun ρ hρ => by
 have h0 : ∀ k : Nat, (Op.equalIn (k + 1) t (.iface u v) .nilIface).run P w = .ok false w := fun k => by
  cases d <;> first | (cases hd; done) | simp [Op.equalIn, run_underlying ht]
 have h1 : (Op.equal t (.iface u v) .nilIface).run P w = .ok false w := h0 9999
 simp [execOp, hρ _ _ hx, hρ _ _ hy, eqGuard, binOp, h1]
end
section
variable {P : Program} {n : NF} {Γ : Env} {w : World} {Q : Exit → Env → World → Prop} {K : Env → World → Prop} {Pn : List PanicEntry → World → Prop} {ops : Array Oper} {rest : List Oper} {S : World → Prop} {L fuel : Nat} {listed : Array Bool} {d : Nat} {op : Op} {T : TypeId} {pos : String} {after : Array Edge}
theorem Ops.clp {f : FuncId} {args : Array Value} {R : Ending → World → Prop} (he : bP P ⟨some d, op, T, pos, after, none⟩ Γ w f args) (hc : Calls P f args w R) (hn : Nat.blt d n.n = true)
  (k : ∀ e w', R e w' → (∃ v, e = .returned v ∧ Ops P n ops rest ((d, v) :: Γ) w' Q) ∨ (∃ ch, e = .panicked ch ∧ Q (.panic ch) Γ w')) : Ops P n ops (⟨some d, op, T, pos, after, none⟩ :: rest) Γ w Q :=
 Ops.callP he hc trivial rfl hn k
theorem Ops.pn {x : Operand} {t : TypeId} {v : Value} {dd : Option Tmp} (hx : ev? Γ x = some (.iface t v)) (k : Q (.panic [{ v := .iface t v, recovered := false }]) Γ w) : Ops P n ops (⟨dd, .panic x, T, pos, after, none⟩ :: rest) Γ w Q :=
 Ops.falls (qJs.pn hx) trivial k
theorem qK.clp {f : FuncId} {args : Array Value} {R : Ending → World → Prop} {d : Nat} (i : Nat) {oi : Oper} (hi : ops[i]? = some oi) (hr : Region.ready .any ops listed = [i]) (he : bP P oi Γ w f args) (hc : Calls P f args w R) (hup : Up ops Γ oi.guard) (hd : oi.dst = some d) (hn : Nat.blt d n.n = true)
  (k : ∀ e w', R e w' → (∃ v, e = .returned v ∧ S w' ∧ qK P n ops S Pn L fuel (listed.setIfInBounds i true) ((d, v) :: Γ) w' K) ∨ (∃ ch, e = .panicked ch ∧ Pn ch w')) : qK P n ops S Pn L (fuel + 1) listed Γ w K :=
 qK.of_wp i hi hr hup fun a hs => by
  unfold Oper.wp
  rw [he _ hs.fits, Oper.upon_enter, hd]
  refine hc.mono ?_
  intro e w' hR
  rcases k e w' hR with ⟨v, rfl, h1, h2⟩ | ⟨ch, rfl, h1⟩
  · exact ⟨h1, h2 _ (hs.put hn v)⟩
  exact ⟨⟨hs.size, hs.defers⟩, h1⟩
end
section
variable {P : Program} {n : NF} {Γ : Env} {w : World} {K : Env → World → Prop} {Pn : List PanicEntry → World → Prop} {ops : Array Oper} {S : World → Prop} {L fuel : Nat} {listed : Array Bool}
theorem Sat.perm {Γ Γ' : Env} {a : Act} (h : Sat n Γ a) (hp : ∀ t v, get? Γ' t = some v → get? Γ t = some v) : Sat n Γ' a := ⟨h.size, h.defers, fun t v ht => h.at_ t v (hp t v ht)⟩
end
section
variable {P : Program} {n : Nat} {D : List Deferred} {Γ : Env} {w : World} {Q : Exit → Env → World → Prop}
end
end
section
open Go.RowKit
def LW (P : Program) (n : NF) (c : Code) (Γ : Env) (w : World) (QQ : Exit → Act → World → Prop) : Prop := n.ro = none → ∀ a, Sat n Γ a → c.wp P QQ a w
def upL (n : NF) (QQ : Exit → Act → World → Prop) : Exit → Env → World → Prop := fun e Γ w => ∀ a, Sat n Γ a → QQ e a w
section
variable {P : Program} {n : NF} {Γ : Env} {w : World} {QQ : Exit → Act → World → Prop} {c x y : Code} {R : Ending → World → Prop} {fn : Func} {res : Array ResultVar}
theorem LW.vc (h : VC P n c Γ w (upL n QQ)) : LW P n c Γ w QQ := fun hro a hs => by
 have h1 := h a hs 0
 rw [hro] at h1
 exact wp_mono (wpIn_wide.1 h1) (fun _ _ _ ⟨_, hs', q⟩ => q _ hs')
theorem LW.seq (h : VC P n x Γ w (kM (fun Γ' w' => LW P n y Γ' w' QQ) (upL n QQ))) : LW P n (.seq x y) Γ w QQ := by
 intro hro a hs
 have h1 := h a hs 0
 rw [hro] at h1
 refine wp_seq (wp_mono (wpIn_wide.1 h1) ?_)
 intro e a' w' hq
 obtain ⟨Γ', hs', q⟩ := hq
 cases e with
 | normal => exact q hro a' hs'
 | exit id => exact q a' hs'
 | goto l => exact q a' hs'
 | ret => exact q a' hs'
 | panic ch => exact q a' hs'
 | outgrown => exact q a' hs'
theorem LW.dfr {m : Nat} {D : List Deferred} {id : Nat} {om od : Oper} {t : Nat} {o : Operand} {f : FuncId} {us : List Value} {ts : Array TypeId} (h : Run P om Γ w (.func (.func f) #[] us.toArray)) (hgm : om.guard = none) (hdm : om.dst = some t) (htn : Nat.blt t m = true)
  (ho : od.op = .defer ⟨.value o, #[], ts⟩) (hg : od.guard = none) (hd : od.dst = none) (hc : ev? ((t, .func (.func f) #[] us.toArray) :: Γ) o = some (.func (.func f) #[] us.toArray))
  (k : LW P ⟨m, { target := .fn (.func f) us.toArray, args := #[] } :: D, none⟩ y ((t, .func (.func f) #[] us.toArray) :: Γ) w QQ) : LW P ⟨m, D, none⟩ (.seq (.region id #[om, od] false) y) Γ w QQ := by
 intro _ a hs
 refine wp_seq (wp_region_lit ?_)
 unfold wpList
 rw [if_pos (by unfold Region.wanted; rw [hgm])]
 left
 unfold Oper.wp
 rw [h _ hs.fits, Oper.upon_value, hdm]
 have hs1 := hs.put htn (.func (.func f) #[] us.toArray)
 unfold wpList
 rw [if_pos (by unfold Region.wanted; rw [hg])]
 left
 unfold Oper.wp
 have e2 := hs1.fits _ _ hc
 have hr : (execOp (a.put (some t) (.func (.func f) #[] us.toArray)).eval od).run P w = .ok (.defer { target := .fn (.func f) us.toArray, args := #[] }) w := by
  simp [execOp, ho, resolve, e2, Deferred.ofValue]
 rw [hr, Oper.upon_defer, hd]
 refine wpList_nil (k rfl _ ⟨hs1.size, ?_, hs1.at_⟩)
 show _ :: (a.put (some t) _).defers = _
 rw [hs1.defers]
theorem LW.sub (Γ' : Env) (hs : Sub Γ Γ') (h : LW P n c Γ' w QQ) : LW P n c Γ w QQ := fun hro a ha => h hro a (ha.sub hs)
theorem zR {f : FuncId} {us : List Value} (hi : ∀ args w, (callFunc f args).run P w = .ok (.enter f args) w) (w : World) : (invoke (.fn (.func f) us.toArray) #[]).run P w = .ok (.enter f us.toArray) w := by
 simp [invoke, hi]
theorem qRa {m : Nat} (hr : fn.results = res) (h : gT P res R .ret Γ w) : upL ⟨m, [], none⟩ (bodyPostD P fn R) .ret Γ w := fun a hs => by
 obtain ⟨vs, h1, h2⟩ := gV hs hr h
 show Leaves P fn a.tmps R a.defers .returning w
 rw [hs.defers]
 exact ⟨_, h1, h2⟩
theorem qRb {m : Nat} {f : FuncId} {us : List Value} (hr : fn.results = res) (hi : ∀ args w, (callFunc f args).run P w = .ok (.enter f args) w)
  (hc : CallsD P f us.toArray .returning w fun e u w' => (∃ v, e = .returned v) ∧ settle u = .returning ∧ gT P res R .ret Γ w') : upL ⟨m, [{ target := .fn (.func f) us.toArray, args := #[] }], none⟩ (bodyPostD P fn R) .ret Γ w := fun a hs => by
 show Leaves P fn a.tmps R a.defers .returning w
 rw [hs.defers]
 refine leaves_cons jp (zR hi w) (hc.mono ?_)
 rintro e u w' ⟨⟨v, rfl⟩, hu, h⟩
 obtain ⟨vs, h1, h2⟩ := gV hs hr h
 dsimp only
 rw [hu]
 exact ⟨_, h1, h2⟩
theorem qRc {m : Nat} {f : FuncId} {us : List Value} {ch : List PanicEntry} (hr : fn.results = res) (hi : ∀ args w, (callFunc f args).run P w = .ok (.enter f args) w)
  (hc : CallsD P f us.toArray (.panicking ch) w fun e u w' => (∃ v, e = .returned v) ∧ settle u = .returning ∧ gT P res R .ret Γ w') : upL ⟨m, [{ target := .fn (.func f) us.toArray, args := #[] }], none⟩ (bodyPostD P fn R) (.panic ch) Γ w := fun a hs => by
 show Leaves P fn a.tmps R a.defers (.panicking ch) w
 rw [hs.defers]
 refine leaves_cons jp (zR hi w) (hc.mono ?_)
 rintro e u w' ⟨⟨v, rfl⟩, hu, h⟩
 obtain ⟨vs, h1, h2⟩ := gV hs hr h
 dsimp only
 rw [hu]
 exact ⟨_, h1, h2⟩
theorem LW.calls {f : FuncId} {args : List Value} {nt : Nat} (hf : P.funcs[f]? = some fn) (hb : fn.body = some c) (hn : fn.ntmps = nt) (hl0 : Nat.ble args.length nt = true)
  (h : LW P ⟨nt, [], none⟩ c (argEnv 0 args) w (bodyPostD P fn R)) : Calls P f args.toArray w R := by
 have hl : args.length ≤ nt := zfu hl0
 refine calls_of_wp_defers hf hb (h rfl _ ?_)
 refine ⟨?_, rfl, ?_⟩
 ·
  simp only [zhz, zca, zhm, hn]
  omega
 intro t v ht
 obtain ⟨_, h2⟩ := oM args 0 t v ht
 simp only [zcf] at h2
 have hlt : t < args.length := (List.getElem?_eq_some_iff.1 h2).1
 rw [zcd, zfy (by simpa using hlt)]
 simp [h2]
end
section
variable {P : Program} {Γ : Env} {w : World} {rest : Code} {R : Ending → FrameMode → World → Prop} {fn : Func} {res : Array ResultVar}
theorem VC.recovered {f : FuncId} {args : List Value} {nt id : Nat} {o4 o3 : Oper} {d e : Nat} {u u' : FrameMode} {v : Value} (hf : P.funcs[f]? = some fn) (hb : fn.body = some (.seq (.region id #[o4, o3] false) rest)) (hn : fn.ntmps = nt) (hr : fn.results = res) (hl0 : Nat.ble args.length nt = true)
  (hu : (∃ older, u = .panicking ({ v, recovered := false } :: older) ∧ u' = .panicking ({ v, recovered := true } :: older)) ∨ (u = .returning ∧ u' = u ∧ v = .nilIface))
  (h4 : o4.op = .call ⟨.builtin .recover, #[], #[]⟩) (hg4 : o4.guard = none) (hd4 : o4.dst = some d) (h3 : o3.op = .assign (.tmp d)) (hg3 : o3.guard = none) (hd3 : o3.dst = some e) (hdn : Nat.blt d nt = true) (hen : Nat.blt e nt = true)
  (k : VC P ⟨nt, [], none⟩ rest ((e, v) :: (d, v) :: argEnv 0 args) w (gT P res (fun x w' => R x u' w'))) : CallsD P f args.toArray u w R := by
 have hl : args.length ≤ nt := zfu hl0
 refine callsD_of_wpS hf hb fun c₀ cs hmode => wpS_seq (wpS_region ?_)
 have hs0 : Sat ⟨nt, [], none⟩ (argEnv 0 args) { tmps := args.toArray ++ Array.replicate (fn.ntmps - args.toArray.size) undef, defers := [] } := by
  refine ⟨?_, rfl, ?_⟩
  ·
   simp only [zhz, zca, zhm, hn]
   omega
  intro t v ht
  obtain ⟨_, h2⟩ := oM args 0 t v ht
  simp only [zcf] at h2
  have hlt : t < args.length := (List.getElem?_eq_some_iff.1 h2).1
  rw [zcd, zfy (by simpa using hlt)]
  simp [h2]
 generalize ({ tmps := args.toArray ++ Array.replicate (fn.ntmps - args.toArray.size) undef, defers := [] } : Act) = a0 at hs0
 have e0 : (execOp a0.eval o4).run P w = .ok .recover w := by
  simp [execOp, h4, resolve, invoke, builtin]
 have fin : ∀ cs', cs' = { c₀ with mode := u' } :: cs → wpOpsS P #[o4, o3] (Exit.thenS (rest.wpS P (bodyPostS P fn c₀ cs R)) (bodyPostS P fn c₀ cs R)) [1] (a0.put o4.dst v) cs' w := by
  rintro cs' rfl
  have hs1 := hs0.put hdn v
  rw [hd4]
  have e1 : (execOp (a0.put (some d) v).eval o3).run P w = .ok (.value v) w := by
   have h5 : (a0.put (some d) v).eval (.tmp d) = v := hs1.fits (.tmp d) v (by simp [ev?, get?])
   simp [execOp, h3, h5]
  have hs2 := hs1.put hen v
  simp only [wpOpsS, show (#[o4, o3] : Array Oper)[1]? = some o3 from rfl]
  rw [if_pos (by unfold Region.wanted; rw [hg3]), e1]
  simp only [Oper.upon_value, hd3]
  refine wpS_of_wp (wp_mono (wpIn_wide.1 (k _ hs2 0)) ?_)
  rintro x a' w' ⟨Γ', hs', q⟩
  have key : gT P res (fun x w' => R x u' w') .ret Γ' w' → ∃ v, (results fn a'.tmps).run P w' = .ok v w' ∧ R (.returned v) u' w' := by
   intro q
   obtain ⟨vs, h1, h2⟩ := gV hs' hr q
   exact ⟨_, h1, h2⟩
  cases x with
  | normal => obtain ⟨v, h1, h2⟩ := key q; exact ⟨hs'.defers, _, rfl, v, h1, h2⟩
  | ret => obtain ⟨v, h1, h2⟩ := key q; exact ⟨hs'.defers, _, rfl, v, h1, h2⟩
  | panic ch => exact ⟨hs'.defers, _, rfl, q⟩
  | exit id => exact q.elim
  | goto l => exact q.elim
  | outgrown => exact q.elim
 show wpOpsS P #[o4, o3] _ [0, 1] a0 (c₀ :: cs) w
 rw [wpOpsS]
 simp only [show (#[o4, o3] : Array Oper)[0]? = some o4 from rfl]
 rw [if_pos (by unfold Region.wanted; rw [hg4]), e0]
 dsimp only
 rcases hu with ⟨older, rfl, rfl⟩ | ⟨rfl, rfl, rfl⟩
 ·
  have : recoverD (c₀ :: cs) = some (v, { c₀ with mode := .panicking ({ v, recovered := true } :: older) } :: cs) := by simp [recoverD, hmode]
  rw [this]
  exact fin _ rfl
 have : recoverD (c₀ :: cs) = none := by simp [recoverD, hmode]
 rw [this]
 exact fin _ (by rw [← hmode])
end
section
variable {P : Program} {Γ : Env} {w : World} {dst : Option Tmp} {T : TypeId} {pos : String} {after : Array Edge} {g : Option (Nat × Bool)}
theorem Run.neqNil2 {t yT : TypeId} {x : Operand} {d : TypeDesc} (hx : ev? Γ x = some .nilIface) (ht : P.underlying t = some d) (hd : sI d = false) :
  Run P ⟨dst, .binOp .neq t x (.const .nilIface) yT, T, pos, after, g⟩ Γ w (.bool false) := fun ρ hρ => by
 have h0 : ∀ k : Nat, (Op.equalIn (k + 1) t .nilIface .nilIface).run P w = .ok true w := fun k => by
  cases d <;> first | (cases hd; done) | simp [Op.equalIn, run_underlying ht]
 have h1 : (Op.equal t .nilIface .nilIface).run P w = .ok true w := h0 9999
 have hy : ρ (.const .nilIface) = .nilIface := hρ _ _ rfl
 simp [execOp, hρ _ _ hx, hy, eqGuard, binOp, h1]
end
section
variable {P : Program} {n : NF} {Γ : Env} {w : World} {K : Env → World → Prop} {Pn : List PanicEntry → World → Prop} {ops : Array Oper} {S : World → Prop} {L fuel : Nat} {listed : Array Bool} {i : Nat} {oi : Oper} {d : Nat}
def jV (P : Program) (n : NF) (ops : Array Oper) (S : World → Prop) (Pn : List PanicEntry → World → Prop) (L fuel : Nat) (listed : Array Bool) (i : Nat) (Γ : Env) (w : World) (K : Env → World → Prop) : Prop :=
 ∀ a, Sat n Γ a → wpOp P ops (kR n K Pn) i (fun a' w' => S w' ∧ dI P ops (kR n K Pn) S L fuel (listed.setIfInBounds i true) a' w') a w
theorem qK.or2 (i j : Nat) (hr : Region.ready .any ops listed = [i, j]) (h1 : jV P n ops S Pn L fuel listed i Γ w K) (h2 : jV P n ops S Pn L fuel listed j Γ w K) : qK P n ops S Pn L (fuel + 1) listed Γ w K := fun a hs =>
 kP hr jp (by intro x hx; simp only [zbv, zbm, or_false] at hx; rcases hx with rfl | rfl; exact h1 a hs; exact h2 a hs)
theorem jV.of_wp (hi : ops[i]? = some oi) (hup : Up ops Γ oi.guard) (h : ∀ a, Sat n Γ a → oi.wp P a w (fun a' w' => S w' ∧ dI P ops (kR n K Pn) S L fuel (listed.setIfInBounds i true) a' w') (kR n K Pn)) : jV P n ops S Pn L fuel listed i Γ w K := by
 intro a hs
 unfold wpOp
 simp only [hi]
 rw [if_pos (hup.wanted hs)]
 exact .inl (h a hs)
theorem jV.m {R : Value → World → Prop} (hi : ops[i]? = some oi) (h : qV P oi Γ w R) (hup : Up ops Γ oi.guard) (hd : oi.dst = some d) (hn : Nat.blt d n.n = true)
  (k : ∀ v w', R v w' → S w' ∧ qK P n ops S Pn L fuel (listed.setIfInBounds i true) ((d, v) :: Γ) w' K) : jV P n ops S Pn L fuel listed i Γ w K :=
 jV.of_wp hi hup fun a hs => by
  obtain ⟨v, w', hrun, hR⟩ := h _ hs.fits
  unfold Oper.wp
  rw [hrun, Oper.upon_value, hd]
  exact ⟨(k v w' hR).1, (k v w' hR).2 _ (hs.put hn v)⟩
theorem jV.r1 {v : Value} (hi : ops[i]? = some oi) (hS : S w) (h : Run P oi Γ w v) (hup : Up ops Γ oi.guard) (hd : oi.dst = some d) (hn : Nat.blt d n.n = true)
  (k : qK P n ops S Pn L fuel (listed.setIfInBounds i true) ((d, v) :: Γ) w K) : jV P n ops S Pn L fuel listed i Γ w K :=
 jV.of_wp hi hup fun a hs => by
  unfold Oper.wp
  rw [h _ hs.fits, Oper.upon_value, hd]
  exact ⟨hS, k _ (hs.put hn v)⟩
theorem jV.st {R : World → Prop} (hi : ops[i]? = some oi) (h : qR P oi Γ w R) (hup : Up ops Γ oi.guard) (hd : oi.dst = none)
  (k : ∀ w', R w' → S w' ∧ qK P n ops S Pn L fuel (listed.setIfInBounds i true) Γ w' K) : jV P n ops S Pn L fuel listed i Γ w K :=
 jV.of_wp hi hup fun a hs => by
  obtain ⟨w', hrun, hR⟩ := h _ hs.fits
  unfold Oper.wp
  rw [hrun, Oper.upon_skip, hd]
  exact ⟨(k w' hR).1, (k w' hR).2 _ hs⟩
theorem jV.cl {f : FuncId} {args : Array Value} {R : Ending → World → Prop} (hi : ops[i]? = some oi) (he : bP P oi Γ w f args) (hc : Calls P f args w R) (hup : Up ops Γ oi.guard) (hd : oi.dst = some d) (hn : Nat.blt d n.n = true)
  (k : ∀ e w', R e w' → ∃ v, e = .returned v ∧ S w' ∧ qK P n ops S Pn L fuel (listed.setIfInBounds i true) ((d, v) :: Γ) w' K) : jV P n ops S Pn L fuel listed i Γ w K :=
 jV.of_wp hi hup fun a hs => by
  unfold Oper.wp
  rw [he _ hs.fits, Oper.upon_enter, hd]
  refine hc.mono ?_
  intro e w' hR
  obtain ⟨v, rfl, h1, h2⟩ := k e w' hR
  exact ⟨h1, h2 _ (hs.put hn v)⟩
end
end
section
open Go.RowKit Go.ChangeShapes Go.WideShapes Go.Deep
section
variable {H : Type} {enc : TypeId × Value → H} {P : Program} {w : World} {base : Nat} {spare : Nat → Bool} {held : Bool}
end
end
section
open Go.RowKit
def Fro (w : World) (g : Nat) (e : TypeId) (cs : Array Value) : Prop := w.heap[g]? = some (.cells cs e (cs.size, cs.size + 1))
section
variable {S : List Nat} {w w' : World} {g : Nat} {e : TypeId} {cs : Array Value}
theorem Fro.lt (h : Fro w g e cs) : g < w.heap.size := (Array.getElem?_eq_some_iff.1 h).1
theorem Fro.cell (h : Fro w g e cs) (i : Nat) : w.cell? ⟨g, i, none⟩ = cs[i]? := by
 unfold Fro at h
 simp [World.cell?, h]
theorem Fro.frm (h : Fro w g e cs) (k : Frm S w w') (hg : g ∉ S) : Fro w' g e cs := (k.block g h.lt hg).trans h
theorem Fro.set (h : Fro w g e cs) (i : Nat) (u : Value) : Fro (w.setCell ⟨g, i, none⟩ u) g e (cs.setIfInBounds i u) := by
 unfold Fro at *
 have hlt := (Array.getElem?_eq_some_iff.1 h).1
 have hb := (Array.getElem?_eq_some_iff.1 h).2
 simp [World.setCell, zhg, h]
theorem Fro.rd (h : Fro w g e cs) {l : List UInt8} (hl : cs.toList.take l.length = U8 l) : Rd w 1 (some ⟨g, 0, none⟩) l.length (U8 l) := by
 refine ⟨by simp [U8], fun hn => ⟨_, rfl, h.lt, fun j u hu => ?_⟩⟩
 have e1 : (⟨g, 0, none⟩ : Addr).add j = ⟨g, j, none⟩ := by unfold Addr.add; split <;> simp_all
 rw [e1, h.cell]
 have hj : j < l.length := by have := (List.getElem?_eq_some_iff.1 hu).1; simpa [U8] using this
 rw [← hl, zaq hj] at hu
 simpa using hu
end
section
variable {P : Program} {n : NF} {Γ : Env} {w : World} {dst : Option Tmp} {T : TypeId} {pos : String} {after : Array Edge} {g : Option (Nat × Bool)}
theorem Run.indexArr1 {t e : TypeId} {x i : Operand} {n : Nat} {k : IntKind} {cs : Array Value} {v : Value} (j : Nat) (hx : ev? Γ x = some (.agg cs)) (hi : ev? Γ i = some (.int k j)) (ht : P.underlying t = some (.array n e))
  (ha : ∀ w, (isAgg e).run P w = .ok false w) (hz : ∀ w, (sizeOf e).run P w = .ok 1 w) (hl : cs.size = n) (hj : cs[j]? = some v) : Run P ⟨dst, .index t x i, T, pos, after, g⟩ Γ w v := fun ρ hρ => by
 have hlt := (Array.getElem?_eq_some_iff.1 hj).1
 have h4 : j < n := jo
 simp [execOp, hρ _ _ hx, hρ _ _ hi, Instr.index, asIntOf, run_underlying ht, h4, part, ha, hz, hj]
end
end
section
open Go.RowKit
section
variable {P : Program} {n : NF} {Γ : Env} {w : World} {Q : Exit → Env → World → Prop} {ops : Array Oper} {rest : List Oper} {op : Op} {T : TypeId} {pos : String} {after : Array Edge} {g : Option (Nat × Bool)} {dst : Option Tmp}
theorem Ops.m0 {R : Value → World → Prop} (h : qV P ⟨none, op, T, pos, after, none⟩ Γ w R) (k : ∀ v w', R v w' → Ops P n ops rest Γ w' Q) : Ops P n ops (⟨none, op, T, pos, after, none⟩ :: rest) Γ w Q :=
 Ops.of_wp (show Up ops Γ none from trivial) fun a hs m => by
  obtain ⟨v, w', hr, hR⟩ := h _ hs.fits
  refine ⟨eI, ?_⟩
  rw [jE hr jp, Oper.uponIn_value]
  exact k v w' hR _ hs m
end
end
section
open Go.RowKit
structure PT where
 i : Nat
 d : Nat
 dep : List Nat
 pure : Bool
 Φ : (Nat → Value) → Value → Nat → Nat → World → Prop
def lZ (P : Program) (ops : Array Oper) (n : NF) (t : PT) (ρ : Nat → Value) (Γ : Env) (W : World) : Prop :=
 ∃ oi, ops[t.i]? = some oi ∧ oi.dst = some t.d ∧ Nat.blt t.d n.n = true ∧ oi.guard = none ∧
  ((∃ f args R, bP P oi Γ W f args ∧ Calls P f args W R ∧ ∀ e W', R e W' → ∃ v, e = .returned v ∧ Frm [] W W' ∧ t.Φ ρ v W.heap.size W'.heap.size W') ∨
   (∃ R, qV P oi Γ W R ∧ ∀ v W', R v W' → Frm [] W W' ∧ t.Φ ρ v W.heap.size W'.heap.size W')) ∧
  (t.pure = true → ∃ v, (∀ W', Run P oi Γ W' v) ∧ t.Φ ρ v W.heap.size W.heap.size W)
def yZ (ops : Array Oper) (L : Nat) (target : Array Bool) : Nat → Array Bool → List (Nat × Nat × List Nat × Bool) → Bool
 | 0, listed, rest => rest.isEmpty && (listed.toList == target.toList)
 | k + 1, listed, rest => match rest.find? (fun t => t.2.2.2 && (Region.ready .any ops listed).contains t.1 && Region.free .any ops listed t.1 && (Region.noSelect ops && nA ops L t.1) && !(rest.any fun u => t.2.2.1.any fun x => Nat.beq x u.2.1)) with
  | some t => yZ ops L target k (listed.setIfInBounds t.1 true) (rest.filter fun u => !Nat.beq u.1 t.1)
  | none => !rest.isEmpty && !(Region.ready .any ops listed).isEmpty && (Region.ready .any ops listed).all fun i =>
   rest.any (fun t => Nat.beq t.1 i && !(rest.any fun u => t.2.2.1.any fun x => Nat.beq x u.2.1)) && yZ ops L target k (listed.setIfInBounds i true) (rest.filter fun t => !Nat.beq t.1 i)
structure PD where
 t : PT
 v : Value
 lo : Nat
 hi : Nat
abbrev PT.key (t : PT) : Nat × Nat × List Nat × Bool := (t.i, t.d, t.dep, t.pure)
def uB (done : List PD) (x : Nat) : Value × Nat × Nat := match done.find? (fun y => Nat.beq y.t.d x) with | some y => (y.v, y.lo, y.hi) | none => (undef, 0, 0)
abbrev qXa (done : List PD) (x : Nat) : Value := (uB done x).1
abbrev denv (done : List PD) (Γ : Env) : Env := done.map (fun x => (x.t.d, x.v)) ++ Γ
theorem zS (A Γ : Env) (x : Nat) : get? (A ++ Γ) x = match get? A x with | some v => some v | none => get? Γ x := by
 induction A with
 | nil => rfl
 | cons a r ih =>
  obtain ⟨k, v⟩ := a
  simp only [zcr, get?]
  cases Nat.beq k x with
  | true => rfl
  | false => exact ih
theorem qJ4 {done : List PD} {x : PD} (hn : (done.map fun y => y.t.d).Nodup) (hx : x ∈ done) : get? (done.map fun y => (y.t.d, y.v)) x.t.d = some x.v := by
 induction done with
 | nil => cases hx
 | cons a r ih =>
  simp only [zai, zgm] at hn
  simp only [zai, get?]
  rcases zbv.1 hx with rfl | h
  · simp
  have hne : a.t.d ≠ x.t.d := fun e => hn.1 (by rw [e]; exact List.mem_map.2 ⟨x, h, rfl⟩)
  have : Nat.beq a.t.d x.t.d = false := by
   rw [zeb]; intro hb; exact hne (zau hb)
  rw [this]
  exact ih hn.2 h
theorem qX6 {done : List PD} {x : PD} (hn : (done.map fun y => y.t.d).Nodup) (hx : x ∈ done) : uB done x.t.d = (x.v, x.lo, x.hi) := by
 have hf : done.find? (fun y => Nat.beq y.t.d x.t.d) = some x := by
  induction done with
  | nil => cases hx
  | cons b r ih =>
   simp only [zai, zgm] at hn
   rcases zbv.1 hx with rfl | h
   · simp [List.find?_cons]
   have hne : b.t.d ≠ x.t.d := fun e => hn.1 (by rw [e]; exact List.mem_map.2 ⟨x, h, rfl⟩)
   have hbq : Nat.beq b.t.d x.t.d = false := by rw [zeb]; intro hb; exact hne (zau hb)
   rw [List.find?_cons, hbq]
   exact ih hn.2 h
 unfold uB
 rw [hf]
theorem qH7 {done : List PD} {y : PD} {x : Nat} (h : y.t.d ≠ x) : uB (y :: done) x = uB done x := by
 unfold uB
 have : Nat.beq y.t.d x = false := by rw [zeb]; intro hb; exact h (zau hb)
 rw [List.find?_cons, this]
theorem zT {done : List PD} {x : Nat} (hx : ∀ y ∈ done, y.t.d ≠ x) : get? (done.map fun y => (y.t.d, y.v)) x = none := by
 induction done with
 | nil => rfl
 | cons a r ih =>
  simp only [zai, get?]
  have : Nat.beq a.t.d x = false := by
   rw [zeb]; intro hb; exact hx a jp (zau hb)
  rw [this]
  exact ih fun y hy => hx y (by simp [hy])
theorem rJ {f : PT → Nat} {u t : PT} : ∀ l : List PT, (l.map f).Nodup → u ∈ l → t ∈ l → f u = f t → u = t
 | [], _, h, _, _ => by cases h
 | b :: r, hn, h1, h2, e => by
  simp only [zai, zgm] at hn
  rcases zbv.1 h1 with h3 | h3
  ·
   rcases zbv.1 h2 with h4 | h4
   · rw [h3, h4]
   exact absurd (List.mem_map.2 ⟨t, h4, by rw [← e, h3]⟩) hn.1
  rcases zbv.1 h2 with h4 | h4
  · exact absurd (List.mem_map.2 ⟨u, h3, by rw [e, h4]⟩) hn.1
  exact rJ r hn.2 h3 h4 e
section
variable {P : Program} {n : NF} {Γ : Env} {w : World} {K : Env → World → Prop} {Pn : List PanicEntry → World → Prop} {ops : Array Oper} {S : World → Prop} {L : Nat} {target : Array Bool}
def PAll (ts : List PT) (w : World) (g : Nat → Value × Nat × Nat) (W : World) : Prop :=
 (∀ t ∈ ts, t.Φ (fun x => (g x).1) (g t.d).1 (g t.d).2.1 (g t.d).2.2 W ∧ w.heap.size ≤ (g t.d).2.1 ∧ (g t.d).2.1 ≤ (g t.d).2.2 ∧ (g t.d).2.2 ≤ W.heap.size) ∧
  ∀ t ∈ ts, ∀ u ∈ ts, t.d ≠ u.d → (g t.d).2.2 ≤ (g u.d).2.1 ∨ (g u.d).2.2 ≤ (g t.d).2.1
theorem qW6 (ts : List PT) (hnd : (ts.map PT.d).Nodup) (hndi : (ts.map PT.i).Nodup) (h0 : ∀ t ∈ ts, get? Γ t.d = none) (fuel : Nat)
  (hst : ∀ t ∈ ts, ∀ ρ v lo hi W W', Frm [] W W' → t.Φ ρ v lo hi W → t.Φ ρ v lo hi W')
  (hcg : ∀ t ∈ ts, ∀ ρ ρ' v lo hi W, (∀ x ∈ t.dep, ρ x = ρ' x) → t.Φ ρ v lo hi W → t.Φ ρ' v lo hi W)
  (hok : ∀ t ∈ ts, ∀ W (g : Nat → Value × Nat × Nat), Frm [] w W → (∀ u ∈ ts, u.d ∈ t.dep → u.Φ (fun x => (g x).1) (g u.d).1 (g u.d).2.1 (g u.d).2.2 W) → (∀ x ∈ t.dep, ∃ u ∈ ts, u.d = x) → lZ P ops n t (fun x => (g x).1) (t.dep.map (fun x => (x, (g x).1)) ++ Γ) W)
  (hdep : ∀ t ∈ ts, ∀ x ∈ t.dep, ∃ u ∈ ts, u.d = x)
  (hS : ∀ W, Frm [] w W → S W)
  (k : ∀ g W, Frm [] w W → PAll ts w g W → qK P n ops S Pn L fuel target (ts.map (fun t => (t.d, (g t.d).1)) ++ Γ) W K) :
  ∀ (m : Nat) (done : List PD) (rest : List PT) (listed : Array Bool) (W : World) (a : Act), yZ ops L target m listed (rest.map PT.key) = true → m = rest.length → (∀ t, t ∈ ts ↔ t ∈ done.map PD.t ∨ t ∈ rest) → (done.map fun x => x.t.d).Nodup → (rest.map PT.i).Nodup → (∀ t ∈ rest, ∀ x ∈ done, x.t.d ≠ t.d) →
   (∀ x ∈ done, ∀ z ∈ x.t.dep, ∃ y ∈ done, y.t.d = z) → (∀ x ∈ done, x.t.Φ (qXa done) x.v x.lo x.hi W ∧ w.heap.size ≤ x.lo ∧ x.lo ≤ x.hi ∧ x.hi ≤ W.heap.size) → done.Pairwise (fun x y => y.hi ≤ x.lo) → Frm [] w W → Sat n (denv done Γ) a →
   dI P ops (kR n K Pn) S L (fuel + m) listed a W
 | 0, done, rest, listed, W, a, hb, hm, hts, hdn, _, _, _, hph, hpw, hfr, hs => by
  have hr : rest = [] := zab hm.symm
  subst hr
  simp only [yZ, zhv, List.isEmpty_nil, Bool.true_and, beq_iff_eq] at hb
  have hl : listed = target := Array.toList_inj.1 hb
  subst hl
  let g : Nat → Value × Nat × Nat := uB done
  have hg : ∀ x ∈ done, g x.t.d = (x.v, x.lo, x.hi) := fun x hx => qX6 hdn hx
  have hin : ∀ t ∈ ts, ∃ x ∈ done, x.t = t := by
   intro t ht
   rcases (hts t).1 ht with h | h
   · obtain ⟨x, hx, rfl⟩ := List.mem_map.1 h; exact ⟨x, hx, rfl⟩
   simp at h
  refine k g W hfr ⟨?_, ?_⟩ a ?_
  ·
   intro t ht
   obtain ⟨x, hx, rfl⟩ := hin t ht
   rw [hg x hx]
   exact hph x hx
  ·
   intro t ht u hu hne
   obtain ⟨x, hx, rfl⟩ := hin t ht
   obtain ⟨y, hy, rfl⟩ := hin u hu
   rw [hg x hx, hg y hy]
   have key : ∀ l : List PD, l.Pairwise (fun x y => y.hi ≤ x.lo) → x ∈ l → y ∈ l → x.hi ≤ y.lo ∨ y.hi ≤ x.lo := by
    intro l
    induction l with
    | nil => intro _ h; cases h
    | cons b r ih =>
     intro hp hxb hyb
     obtain ⟨hp1, hp2⟩ := List.pairwise_cons.1 hp
     rcases zbv.1 hxb with rfl | hxr
     ·
      rcases zbv.1 hyb with rfl | hyr
      · exact absurd rfl hne
      exact .inr (hp1 y hyr)
     rcases zbv.1 hyb with rfl | hyr
     · exact .inl (hp1 x hxr)
     exact ih hp2 hxr hyr
   exact key done hpw hx hy
  refine ⟨hs.size, hs.defers, fun x v hv => hs.at_ x v ?_⟩
  rw [zS] at hv ⊢
  by_cases hx : ∃ y ∈ done, y.t.d = x
  ·
   obtain ⟨y, hy, rfl⟩ := hx
   have hyt : y.t ∈ ts := (hts y.t).2 (.inl (List.mem_map.2 ⟨y, hy, rfl⟩))
   have h1 : get? (ts.map fun t => (t.d, (g t.d).1)) y.t.d = some (g y.t.d).1 := by
    clear hv hs k hok hst hcg hts hin h0 hdep hndi
    induction ts with
    | nil => cases hyt
    | cons b r ih =>
     simp only [zai, get?]
     cases hq : Nat.beq b.d y.t.d with
     | true => rw [zau hq]; rfl
     | false =>
      rcases zbv.1 hyt with h | h
      · rw [← h] at hq; simp at hq
      simp only [zai, zgm] at hnd
      exact ih hnd.2 h
   rw [h1] at hv
   rw [qJ4 hdn hy]
   rw [hg y hy] at hv
   exact hv
  have hno : ∀ y ∈ done, y.t.d ≠ x := fun y hy e => hx ⟨y, hy, e⟩
  rw [zT hno]
  have h1 : get? (ts.map fun t => (t.d, (g t.d).1)) x = none := by
   have hno2 : ∀ t ∈ ts, t.d ≠ x := fun t ht e => by
    obtain ⟨y, hy, rfl⟩ := hin t ht
    exact hno y hy e
   clear hv hs k hok hst hcg hts hin hx hno h0 hdep hndi hnd
   induction ts with
   | nil => rfl
   | cons b r ih =>
    simp only [zai, get?]
    have hq : Nat.beq b.d x = false := by rw [zeb]; intro hb; exact hno2 b jp (zau hb)
    rw [hq]
    exact ih fun t ht => hno2 t (by simp [ht])
  rw [h1] at hv
  exact hv
 | m + 1, done, rest, listed, W, a, hb, hm, hts, hdn, hri, hdr, hdc, hph, hpw, hfr, hs => by
  have one : ∀ t ∈ rest, (!((rest.map PT.key).any fun u => t.dep.any fun x => Nat.beq x u.2.1)) = true → yZ ops L target m (listed.setIfInBounds t.i true) ((rest.map PT.key).filter fun u => !Nat.beq u.1 t.i) = true →
    ∃ ρ Γ', lZ P ops n t ρ Γ' W ∧ Sat n Γ' a ∧ ∀ v W', Frm [] W W' → t.Φ ρ v W.heap.size W'.heap.size W' → S W' ∧ dI P ops (kR n K Pn) S L (fuel + m) (listed.setIfInBounds t.i true) (a.put (some t.d) v) W' := by
   intro t ht hq2 hnext
   have htts : t ∈ ts := (hts t).2 (.inr ht)
   have hdd : ∀ x ∈ t.dep, ∃ y ∈ done, y.t.d = x := by
    intro x hx
    obtain ⟨u, hu, rfl⟩ := hdep t htts x hx
    rcases (hts u).1 hu with h | h
    · obtain ⟨y, hy, rfl⟩ := List.mem_map.1 h; exact ⟨y, hy, rfl⟩
    exfalso
    simp only [Bool.not_eq_true', zeb, ne_eq, List.any_eq_true, not_exists, not_and] at hq2
    exact hq2 u.key (List.mem_map.2 ⟨u, h, rfl⟩) u.d hx (zhu u.d)
   let g : Nat → Value × Nat × Nat := uB done
   have hg : ∀ x ∈ done, g x.t.d = (x.v, x.lo, x.hi) := fun x hx => qX6 hdn hx
   have hstep := hok t htts W g hfr (fun u hu hud => by
    obtain ⟨y, hy, hyd⟩ := hdd u.d hud
    have huy : u = y.t := by
     have hyt : y.t ∈ ts := (hts y.t).2 (.inl (List.mem_map.2 ⟨y, hy, rfl⟩))
     exact rJ ts hnd hu hyt hyd.symm
    rw [huy, hg y hy]
    exact (hph y hy).1) (hdep t htts)
   have hsub : Sat n (t.dep.map (fun x => (x, (g x).1)) ++ Γ) a := by
    refine ⟨hs.size, hs.defers, fun x v hv => hs.at_ x v ?_⟩
    rw [zS] at hv ⊢
    by_cases hx : ∃ y ∈ done, y.t.d = x
    ·
     obtain ⟨y, hy, rfl⟩ := hx
     rw [qJ4 hdn hy]
     have hyt : y.t ∈ ts := (hts y.t).2 (.inl (List.mem_map.2 ⟨y, hy, rfl⟩))
     have key : ∀ l : List Nat, get? (l.map fun x => (x, (g x).1)) y.t.d = some y.v ∨ get? (l.map fun x => (x, (g x).1)) y.t.d = none := by
      intro l
      induction l with
      | nil => exact .inr rfl
      | cons b r ih =>
       simp only [zai, get?]
       cases hq : Nat.beq b y.t.d with
       | true => rw [zau hq, hg y hy]; exact .inl rfl
       | false => exact ih
     rcases key t.dep with h1 | h1
     · rw [h1] at hv; exact hv
     rw [h1] at hv
     exact absurd hv (by rw [h0 _ hyt]; simp)
    have hno : ∀ y ∈ done, y.t.d ≠ x := fun y hy e => hx ⟨y, hy, e⟩
    rw [zT hno]
    have h1 : get? (t.dep.map fun x => (x, (g x).1)) x = none := by
     have key : ∀ l : List Nat, (∀ z ∈ l, z ≠ x) → get? (l.map fun x => (x, (g x).1)) x = none := by
      intro l hl
      induction l with
      | nil => rfl
      | cons b r ih =>
       simp only [zai, get?]
       have hq : Nat.beq b x = false := by rw [zeb]; intro hb; exact hl b jp (zau hb)
       rw [hq]
       exact ih fun z hz => hl z (by simp [hz])
     exact key t.dep fun z hz e => by
      obtain ⟨y, hy, hyd⟩ := hdd z hz
      exact hno y hy (hyd.trans e)
    rw [h1] at hv
    exact hv
   have hmr : m = (rest.filter fun u => !Nat.beq u.i t.i).length := by
    have key : ∀ l : List PT, (l.map PT.i).Nodup → t ∈ l → l.length = (l.filter fun u => !Nat.beq u.i t.i).length + 1 := by
     intro l
     induction l with
     | nil => intro _ h; cases h
     | cons b r ih =>
      intro hn h1
      simp only [zai, zgm] at hn
      rcases zbv.1 h1 with rfl | h1
      ·
       have e : (r.filter fun u => !Nat.beq u.i t.i) = r := by
        refine List.filter_eq_self.2 fun u hu => ?_
        have : Nat.beq u.i t.i = false := by
         rw [zeb]; intro hb
         exact hn.1 (List.mem_map.2 ⟨u, hu, zau hb⟩)
        rw [this]; rfl
       rw [List.filter_cons]
       simp only [zhu, Bool.not_true, zdi, if_false, e, zp]
      have hb : Nat.beq b.i t.i = false := by
       rw [zeb]; intro hb
       exact hn.1 (List.mem_map.2 ⟨t, h1, (zau hb).symm⟩)
      rw [List.filter_cons, hb]
      simp only [Bool.not_false, if_true, zp, ih hn.2 h1]
    have := key rest hri ht
    omega
   have hfm : (rest.map PT.key).filter (fun u => !Nat.beq u.1 t.i) = (rest.filter fun u => !Nat.beq u.i t.i).map PT.key := by
    rw [List.filter_map]; rfl
   have again : ∀ v W', Frm [] W W' → t.Φ (qXa done) v W.heap.size W'.heap.size W' → S W' ∧ dI P ops (kR n K Pn) S L (fuel + m) (listed.setIfInBounds t.i true) (a.put (some t.d) v) W' := by
    intro v W' hf hΦ
    have hfr' := hfr.trans hf jp
    refine ⟨hS W' hfr', ?_⟩
    have hnot : t.d ∉ done.map fun x => x.t.d := fun h => by
     obtain ⟨y, hy, hyd⟩ := List.mem_map.1 h
     exact hdr t ht y hy hyd
    obtain ⟨_, _, _, hdn', _, _, _⟩ := hstep
    refine qW6 ts hnd hndi h0 fuel hst hcg hok hdep hS k m (⟨t, v, W.heap.size, W'.heap.size⟩ :: done) (rest.filter fun u => !Nat.beq u.i t.i) _ W' _ (by rw [← hfm]; exact hnext) hmr ?_ ?_ ?_ ?_ ?_ ?_ ?_ hfr' (hs.put hdn' v)
    ·
     intro u
     rw [hts u]
     simp only [zai, zbv, List.mem_filter]
     constructor
     ·
      rintro (h | h)
      · exact .inl (.inr h)
      by_cases hut : u.i = t.i
      ·
       left; left
       exact rJ rest hri h ht hut
      right
      refine ⟨h, ?_⟩
      have : Nat.beq u.i t.i = false := by rw [zeb]; intro hb; exact hut (zau hb)
      rw [this]; rfl
     rintro ((rfl | h) | h)
     · exact .inr ht
     · exact .inl h
     exact .inr h.1
    ·
     simp only [zai, zgm]
     exact ⟨hnot, hdn⟩
    · exact hri.sublist (List.Sublist.map _ List.filter_sublist)
    ·
     intro u hu x hx
     obtain ⟨hu1, hu2⟩ := List.mem_filter.1 hu
     rcases zbv.1 hx with rfl | hx
     ·
      intro e
      have hut : u ∈ ts := (hts u).2 (.inr hu1)
      have := rJ ts hnd hut htts e.symm
      subst this
      simp at hu2
     exact hdr u hu1 x hx
    ·
     intro x hx z hz
     rcases zbv.1 hx with rfl | hx
     ·
      obtain ⟨y, hy, hyz⟩ := hdd z hz
      exact ⟨y, zbu _ hy, hyz⟩
     obtain ⟨y, hy, hyz⟩ := hdc x hx z hz
     exact ⟨y, zbu _ hy, hyz⟩
    ·
     have hsame : ∀ z, (∃ y ∈ done, y.t.d = z) → qXa done z = qXa (⟨t, v, W.heap.size, W'.heap.size⟩ :: done) z := fun z ⟨y, hy, hyz⟩ => by
      unfold qXa
      rw [qH7]
      intro e
      exact hnot (List.mem_map.2 ⟨y, hy, hyz.trans e.symm⟩)
     intro x hx
     rcases zbv.1 hx with rfl | hx
     · exact ⟨hcg t htts _ _ _ _ _ _ (fun z hz => hsame z (hdd z hz)) hΦ, hfr.size, hf.size, zk _⟩
     obtain ⟨h1, h2, h3, h4⟩ := hph x hx
     have hxt : x.t ∈ ts := (hts x.t).2 (.inl (List.mem_map.2 ⟨x, hx, rfl⟩))
     exact ⟨hcg x.t hxt _ _ _ _ _ _ (fun z hz => hsame z (hdc x hx z hz)) (hst x.t hxt _ _ _ _ _ _ hf h1), h2, h3, zn h4 hf.size⟩
    refine List.pairwise_cons.2 ⟨fun y hy => ?_, hpw⟩
    exact (hph y hy).2.2.2
   exact ⟨qXa done, _, hstep, hsub, again⟩
  have all : ∀ (oi : Oper) (t : PT), True := fun _ _ => trivial
  clear all
  unfold yZ at hb
  split at hb
  ·
   rename_i t0 hfind
   have hmem := List.mem_of_find?_eq_some hfind
   have hp := List.find?_some hfind
   simp only [zeq] at hp
   obtain ⟨⟨⟨⟨hpu, hrd⟩, hfree⟩, hsel⟩, hdp⟩ := hp
   obtain ⟨t, ht, rfl⟩ := List.mem_map.1 hmem
   obtain ⟨ρ, Γ', ⟨oi, hoi, hdst, hdn', hgd, _, hpure⟩, hsub, again⟩ := one t ht hdp hb
   obtain ⟨v, hrun, hΦ⟩ := hpure hpu
   obtain ⟨_, hk⟩ := again v W (Frm.refl _ _) hΦ
   refine nD (f := fuel + m) hoi (by simpa using hsel) hfree hrd pL (.inl ⟨by unfold Region.wanted; rw [hgd], fun w' _ => hrun w' _ hsub.fits⟩) (hS W hfr) ?_
   rw [hdst]
   exact hk
  simp only [zeq, Bool.not_eq_true', List.all_eq_true, List.any_eq_true] at hb
  obtain ⟨⟨_, hne⟩, hall⟩ := hb
  refine kP (rs := Region.ready .any ops listed) rfl (by intro e; rw [e] at hne; simp at hne) ?_
  intro i hi
  obtain ⟨⟨t0, ht0, hq⟩, hnext⟩ := hall i hi
  obtain ⟨t, ht, rfl⟩ := List.mem_map.1 ht0
  obtain ⟨hq1, hq2⟩ := hq
  have hti : t.i = i := zau hq1
  subst hti
  obtain ⟨ρ, Γ', ⟨oi, hoi, hdst, hdn', hgd, hstep, _⟩, hsub, again⟩ := one t ht (by rw [Bool.not_eq_true']; exact hq2) hnext
  unfold wpOp
  simp only [hoi]
  rw [if_pos (by unfold Region.wanted; rw [hgd])]
  left
  unfold Oper.wp
  rcases hstep with ⟨f, args, R, he, hc, hR⟩ | ⟨R, hD, hR⟩
  ·
   rw [he _ hsub.fits, Oper.upon_enter, hdst]
   refine hc.mono ?_
   intro e W' hR'
   obtain ⟨v, rfl, hf, hΦ⟩ := hR e W' hR'
   exact again v W' hf hΦ
  obtain ⟨v, W', hrun, hR'⟩ := hD _ hsub.fits
  rw [hrun, Oper.upon_value, hdst]
  obtain ⟨hf, hΦ⟩ := hR v W' hR'
  exact again v W' hf hΦ
theorem qK.par (ts : List PT) (m : Nat) {fuel : Nat} {listed : Array Bool} (hm : ts.length = m) (hb : yZ ops L target m listed (ts.map PT.key) = true) (hnd : (ts.map PT.d).Nodup) (hndi : (ts.map PT.i).Nodup) (h0 : ∀ t ∈ ts, get? Γ t.d = none)
  (hdep : ∀ t ∈ ts, ∀ x ∈ t.dep, ∃ u ∈ ts, u.d = x)
  (hS : ∀ W, Frm [] w W → S W)
  (hst : ∀ t ∈ ts, ∀ ρ v lo hi W W', Frm [] W W' → t.Φ ρ v lo hi W → t.Φ ρ v lo hi W')
  (hcg : ∀ t ∈ ts, ∀ ρ ρ' v lo hi W, (∀ x ∈ t.dep, ρ x = ρ' x) → t.Φ ρ v lo hi W → t.Φ ρ' v lo hi W)
  (hok : ∀ t ∈ ts, ∀ W (g : Nat → Value × Nat × Nat), Frm [] w W → (∀ u ∈ ts, u.d ∈ t.dep → u.Φ (fun x => (g x).1) (g u.d).1 (g u.d).2.1 (g u.d).2.2 W) → (∀ x ∈ t.dep, ∃ u ∈ ts, u.d = x) → lZ P ops n t (fun x => (g x).1) (t.dep.map (fun x => (x, (g x).1)) ++ Γ) W)
  (k : ∀ g W, Frm [] w W → PAll ts w g W → qK P n ops S Pn L fuel target (ts.map (fun t => (t.d, (g t.d).1)) ++ Γ) W K) : qK P n ops S Pn L (fuel + m) listed Γ w K := by
 intro a hs
 exact qW6 ts hnd hndi h0 fuel hst hcg hok hdep hS k m [] ts listed w a hb hm.symm jp jp hndi jp jp jp List.Pairwise.nil (Frm.refl _ _) hs
theorem lZ.cl {t : PT} {ρ : Nat → Value} {W : World} {f : FuncId} {args : Array Value} {R : Ending → World → Prop} {oi : Oper} (hp : t.pure = false) (hi : ops[t.i]? = some oi) (hd : oi.dst = some t.d) (hn : Nat.blt t.d n.n = true) (hg : oi.guard = none) (he : bP P oi Γ W f args) (hc : Calls P f args W R)
  (h : ∀ e W', R e W' → ∃ v, e = .returned v ∧ Frm [] W W' ∧ t.Φ ρ v W.heap.size W'.heap.size W') : lZ P ops n t ρ Γ W := ⟨oi, hi, hd, hn, hg, .inl ⟨f, args, R, he, hc, h⟩, fun h' => by rw [hp] at h'; cases h'⟩
theorem lZ.m {t : PT} {ρ : Nat → Value} {W : World} {R : Value → World → Prop} {oi : Oper} (hp : t.pure = false) (hi : ops[t.i]? = some oi) (hd : oi.dst = some t.d) (hn : Nat.blt t.d n.n = true) (hg : oi.guard = none) (hD : qV P oi Γ W R)
  (h : ∀ v W', R v W' → Frm [] W W' ∧ t.Φ ρ v W.heap.size W'.heap.size W') : lZ P ops n t ρ Γ W := ⟨oi, hi, hd, hn, hg, .inr ⟨R, hD, h⟩, fun h' => by rw [hp] at h'; cases h'⟩
theorem lZ.r {t : PT} {ρ : Nat → Value} {W : World} {v : Value} {oi : Oper} (hi : ops[t.i]? = some oi) (hd : oi.dst = some t.d) (hn : Nat.blt t.d n.n = true) (hg : oi.guard = none) (hD : ∀ W', Run P oi Γ W' v)
  (h : t.Φ ρ v W.heap.size W.heap.size W) : lZ P ops n t ρ Γ W :=
 ⟨oi, hi, hd, hn, hg, .inr ⟨fun r w' => r = v ∧ w' = W, fun ρ hρ => ⟨v, W, hD W ρ hρ, rfl, rfl⟩, by rintro _ _ ⟨rfl, rfl⟩; exact ⟨Frm.refl _ _, h⟩⟩, fun _ => ⟨v, hD, h⟩⟩
abbrev PT.mv (i d src : Nat) (more : List Nat) : PT := ⟨i, d, src :: more, true, fun ρ v _ _ _ => v = ρ src⟩
end
end
section
open Go.RowKit
open Go.Maps (Keyed)
def MpF (P : Program) (k : TypeId) {κ : Type} (enc : κ → Value) (w : World) (g : Nat) (M : κ → Option Value) : Prop :=
 ∃ (es : List MapEntry) (clock : Nat), w.heap[g]? = some (.map es.toArray clock) ∧ (∀ e ∈ es, (∃ l, keyOf P k e.key = some l) ∧ e.born < clock) ∧ es.Pairwise (fun a b => a.born ≠ b.born ∧ a.key ≠ b.key) ∧ ∀ x v, M x = some v ↔ ∃ e ∈ es, e.key = enc x ∧ e.val = v
def MpE (P : Program) (k : TypeId) {κ : Type} (enc : κ → Value) (w : World) (g : Nat) (M : κ → Option Value) (x : κ) (n : Nat) : Prop :=
 ∃ (es : List MapEntry) (clock : Nat), w.heap[g]? = some (.map es.toArray clock) ∧ (∀ e ∈ es, (∃ l, keyOf P k e.key = some l) ∧ e.born < clock) ∧ es.Pairwise (fun a b => a.born ≠ b.born ∧ a.key ≠ b.key) ∧ (∀ x v, M x = some v ↔ ∃ e ∈ es, e.key = enc x ∧ e.val = v) ∧
  ∃ e ∈ es, e.key = enc x ∧ e.born = n
section
variable {P : Program} {k : TypeId} {κ : Type} {enc : κ → Value} {w w' : World} {g : Nat} {M : κ → Option Value} {S : List Nat}
theorem MpE.mp {x : κ} {n : Nat} (h : MpE P k enc w g M x n) : MpF P k enc w g M := by
 obtain ⟨es, clock, h1, h2, h3, h4, _⟩ := h
 exact ⟨es, clock, h1, h2, h3, h4⟩
theorem MpF.lt (h : MpF P k enc w g M) : g < w.heap.size := by
 obtain ⟨es, clock, h1, _⟩ := h
 exact (Array.getElem?_eq_some_iff.1 h1).1
theorem MpF.frm (h : MpF P k enc w g M) (f : Frm S w w') (hS : g ∉ S) : MpF P k enc w' g M := by
 have hl := h.lt
 obtain ⟨es, clock, h1, h2⟩ := h
 exact ⟨es, clock, (f.block g hl hS).trans h1, h2⟩
theorem MpE.frm {x : κ} {n : Nat} (h : MpE P k enc w g M x n) (f : Frm S w w') (hS : g ∉ S) : MpE P k enc w' g M x n := by
 have hl := h.mp.lt
 obtain ⟨es, clock, h1, h2⟩ := h
 exact ⟨es, clock, (f.block g hl hS).trans h1, h2⟩
theorem MpF.drawn (h : MpF P k enc w g M) (hd : qQ w w') : MpF P k enc w' g M := by
 obtain ⟨m, rfl⟩ := hd
 exact h
theorem MpF.ne_blk {b : Nat} {t : TypeId} {cs : Array Value} (h : MpF P k enc w g M) (hb : Blk w b t cs) : g ≠ b := by
 rintro rfl
 obtain ⟨es, clock, h1, _⟩ := h
 rw [show w.heap[g]? = _ from hb] at h1
 cases h1
theorem MpF.new : MpF P k enc (w.alloc (.map #[] 0)) w.heap.size (fun _ : κ => none) := by
 refine ⟨[], 0, (MapKept.heap_alloc w _).1, jp, List.Pairwise.nil, fun x v => ?_⟩
 simp
theorem pK (w : World) (g : Nat) (o : Obj) : Frm [g] w (ChangeMaps.setBlock w g o) :=
 ⟨rfl, rfl, rfl, by simp [ChangeMaps.setBlock], fun i _ hi => by
  unfold ChangeMaps.setBlock
  simp only [Array.getElem?_setIfInBounds]
  rw [if_neg (fun e => hi (by rw [e]; simp))]⟩
theorem qRd {t e : TypeId} {z : Value} {x : κ} {kl : Lit} (h : MpF P k enc w g M) (K : Keyed P k) (ht : P.underlying t = some (.map k e)) (hz : (zeroValue e).run P w = .ok z w) (hkey : keyOf P k (enc x) = some kl) :
  (Instr.lookup t (.map (some g)) (enc x) false).run P w = .ok ((M x).getD z) w := by
 obtain ⟨es, clock, hb, h2, h3, h4⟩ := h
 rcases K.find w hkey es (fun e he => (h2 e he).1) with ⟨h5, h6⟩ | ⟨j, e0, h5, h6, h7⟩
 ·
  have hM : M x = none := by
   cases hm : M x with
   | none => rfl
   | some v =>
    obtain ⟨e1, he1, he2, _⟩ := (h4 x v).1 hm
    exact absurd he2 (h6 e1 he1)
  rw [hM]
  simp [Instr.lookup, run_underlying ht, MapKept.run_getObj_map hb, K.check w _ hkey, h5, hz, Result.andThen]
 have hM : M x = some e0.val := (h4 x e0.val).2 ⟨e0, zdh h6, h7, rfl⟩
 rw [hM]
 simp [Instr.lookup, run_underlying ht, MapKept.run_getObj_map hb, K.check w _ hkey, h5, Result.andThen]
theorem qH8 [DecidableEq κ] {t e : TypeId} {z : Value} {x : κ} {kl : Lit} (h : MpF P k enc w g M) (K : Keyed P k) (henc : ∀ a b, enc a = enc b → a = b) (ht : P.underlying t = some (.map k e)) (hz : ∀ w, (zeroValue e).run P w = .ok z w) (hkey : keyOf P k (enc x) = some kl) :
  ∃ (n : Nat) (w' : World), (Instr.mapEntry t (.map (some g)) (enc x)).run P w = .ok (.tuple #[(M x).getD z, .int .i64 (n : Int)]) w' ∧ MpE P k enc w' g (fun y => if y = x then some ((M x).getD z) else M y) x n ∧ Frm [g] w w' ∧ w'.heap.size = w.heap.size := by
 have hlt := h.lt
 obtain ⟨es, clock, hb, h2, h3, h4⟩ := h
 rcases K.find w hkey es (fun e he => (h2 e he).1) with ⟨h5, h6⟩ | ⟨j, e0, h5, h6, h7⟩
 ·
  have hM : M x = none := by
   cases hm : M x with
   | none => rfl
   | some v =>
    obtain ⟨e1, he1, he2, _⟩ := (h4 x v).1 hm
    exact absurd he2 (h6 e1 he1)
  refine ⟨clock, ChangeMaps.setBlock w g (.map (es ++ [(⟨enc x, z, clock⟩ : MapEntry)]).toArray (clock + 1)), ?_, ⟨es ++ [(⟨enc x, z, clock⟩ : MapEntry)], clock + 1, ?_, ?_, ?_, ?_, ⟨(⟨enc x, z, clock⟩ : MapEntry), jp, rfl, rfl⟩⟩, pK w g _, by simp [ChangeMaps.setBlock]⟩
  ·
   rw [hM]
   simp [Instr.mapEntry, run_underlying ht, MapKept.run_getObj_map hb, K.check w _ hkey, h5, hz, MapKept.run_setObj_map _ hb, Result.andThen, ChangeMaps.setBlock, goInt]
  · simp [ChangeMaps.setBlock, hlt]
  ·
   intro e1 he1
   rcases List.mem_append.1 he1 with he1 | he1
   · exact ⟨(h2 e1 he1).1, by have := (h2 e1 he1).2; omega⟩
   rw [zh] at he1
   subst he1
   exact ⟨⟨kl, hkey⟩, Nat.lt_succ_self _⟩
  ·
   refine List.pairwise_append.2 ⟨h3, jp, fun a ha b hb2 => ?_⟩
   rw [zh] at hb2
   subst hb2
   exact ⟨by have := (h2 a ha).2; dsimp only; omega, h6 a ha⟩
  intro y v
  dsimp only
  by_cases hy : y = x
  ·
   subst hy
   rw [if_pos rfl, hM]
   constructor
   ·
    intro hv
    simp only [Option.getD_none, Option.some.injEq] at hv
    exact ⟨⟨enc y, z, clock⟩, jp, rfl, hv⟩
   rintro ⟨e1, he1, he2, he3⟩
   rcases List.mem_append.1 he1 with he1 | he1
   · exact absurd he2 (h6 e1 he1)
   rw [zh] at he1
   subst he1
   simpa using he3
  rw [if_neg hy]
  constructor
  ·
   intro hv
   obtain ⟨e1, he1, he2⟩ := (h4 y v).1 hv
   exact ⟨e1, by simp [he1], he2⟩
  rintro ⟨e1, he1, he2, he3⟩
  rcases List.mem_append.1 he1 with he1 | he1
  · exact (h4 y v).2 ⟨e1, he1, he2, he3⟩
  rw [zh] at he1
  subst he1
  exact absurd (henc _ _ he2).symm hy
 have hM : M x = some e0.val := (h4 x e0.val).2 ⟨e0, zdh h6, h7, rfl⟩
 have hself : es.modify j (fun e => { e with key := enc x }) = es := by
  rw [ChangeMaps.modify_eq_set _ _ _ _ h6]
  have : ({ e0 with key := enc x } : MapEntry) = e0 := by rw [← h7]
  rw [this]
  apply zao
  intro i
  rw [zew]
  split
  ·
   rename_i hi
   subst hi
   rw [if_pos (List.getElem?_eq_some_iff.1 h6).1, h6]
  rfl
 refine ⟨e0.born, ChangeMaps.setBlock w g (.map es.toArray clock), ?_, ⟨es, clock, ?_, h2, h3, ?_, ⟨e0, zdh h6, h7, rfl⟩⟩, pK w g _, by simp [ChangeMaps.setBlock]⟩
 ·
  rw [hM]
  have hstay := K.stays w hkey
  simp [Instr.mapEntry, run_underlying ht, MapKept.run_getObj_map hb, K.check w _ hkey, h5, h6, h7, hstay, MapKept.run_setObj_map _ hb, Result.andThen, ChangeMaps.setBlock, goInt, hself]
 · simp [ChangeMaps.setBlock, hlt]
 intro y v
 dsimp only
 by_cases hy : y = x
 ·
  subst hy
  rw [if_pos rfl, hM]
  rw [← h4 y v, hM]
  simp
 rw [if_neg hy]
 exact h4 y v
theorem qH9 {es : List MapEntry} {e0 : MapEntry} (h0 : e0 ∈ es) (hp : es.Pairwise (fun a b => a.born ≠ b.born ∧ a.key ≠ b.key)) : ∃ j, es.findIdx? (fun e => (e.born : Int) == (e0.born : Int)) = some j ∧ es[j]? = some e0 := by
 cases hf : es.findIdx? (fun e => (e.born : Int) == (e0.born : Int)) with
 | none =>
  have := List.findIdx?_eq_none_iff.1 hf e0 h0
  simp at this
 | some j =>
  obtain ⟨hj, h1, _⟩ := List.findIdx?_eq_some_iff_getElem.1 hf
  refine ⟨j, rfl, ?_⟩
  obtain ⟨i, hi, he⟩ := zbe h0
  have h2 : es[j].born = e0.born := Int.ofNat.inj (by simpa using h1)
  by_cases hij : i = j
  ·
   subst hij
   rw [zb hi, he]
  exfalso
  rcases Nat.lt_or_gt_of_ne hij with h3 | h3
  · exact (List.pairwise_iff_getElem.1 hp i j hi hj h3).1 (by rw [he, h2])
  exact (List.pairwise_iff_getElem.1 hp j i hj hi h3).1 (by rw [he, h2])
theorem qXb [DecidableEq κ] {t : TypeId} {x : κ} {n : Nat} {v : Value} (h : MpE P k enc w g M x n) (henc : ∀ a b, enc a = enc b → a = b) :
  ∃ w' : World, (Instr.entryStore t (.map (some g)) (.int .i64 (n : Int)) v).run P w = .ok () w' ∧ MpF P k enc w' g (fun y => if y = x then some v else M y) ∧ Frm [g] w w' ∧ w'.heap.size = w.heap.size := by
 have hlt := h.mp.lt
 obtain ⟨es, clock, hb, h2, h3, h4, e0, he0, hk0, hn0⟩ := h
 subst hn0
 obtain ⟨j, hj1, hj2⟩ := qH9 he0 h3
 have hjl := (List.getElem?_eq_some_iff.1 hj2).1
 have hmod : es.modify j (fun e => { e with val := v }) = es.set j { e0 with val := v } := ChangeMaps.modify_eq_set _ _ _ _ hj2
 have who : ∀ e1 ∈ es.set j { e0 with val := v }, e1 = { e0 with val := v } ∨ (e1 ∈ es ∧ e1.key ≠ e0.key ∧ e1.born ≠ e0.born) := by
  intro e1 he1
  obtain ⟨i, hi, ex⟩ := zbe he1
  rw [List.getElem_set] at ex
  split at ex
  · exact .inl ex.symm
  rename_i hne
  have hi' : i < es.length := by simpa using hi
  refine .inr ⟨ex ▸ zt hi', ?_⟩
  have ej : es[j] = e0 := by rw [zb hjl] at hj2; exact Option.some.inj hj2
  rcases Nat.lt_or_gt_of_ne hne with h5 | h5
  ·
   have := List.pairwise_iff_getElem.1 h3 j i hjl hi' h5
   rw [ej, ex] at this
   exact ⟨this.2.symm, this.1.symm⟩
  have := List.pairwise_iff_getElem.1 h3 i j hi' hjl h5
  rw [ej, ex] at this
  exact ⟨this.2, this.1⟩
 have back : ∀ e1 ∈ es, e1.key ≠ e0.key → e1 ∈ es.set j { e0 with val := v } := by
  intro e1 he1 hne
  obtain ⟨i, hi, ex⟩ := zbe he1
  have hij : j ≠ i := by
   rintro rfl
   rw [zb hi, ex] at hj2
   exact hne (by rw [Option.some.inj hj2])
  have : (es.set j { e0 with val := v })[i]? = some e1 := by rw [zef hij, zb hi, ex]
  exact zdh this
 have hmem : ({ e0 with val := v } : MapEntry) ∈ es.set j { e0 with val := v } := by
  have : (es.set j { e0 with val := v })[j]? = some { e0 with val := v } := by rw [zdk hjl]
  exact zdh this
 refine ⟨ChangeMaps.setBlock w g (.map (es.set j { e0 with val := v }).toArray clock), ?_, ⟨es.set j { e0 with val := v }, clock, by simp [ChangeMaps.setBlock, hlt], ?_, ?_, ?_⟩, pK w g _, by simp [ChangeMaps.setBlock]⟩
 ·
  have e5 : (asInt (.int .i64 (e0.born : Int))).run P w = .ok (e0.born : Int) w := rfl
  simp [Instr.entryStore, MapKept.run_getObj_map hb, e5, hj1, MapKept.run_setObj_map _ hb, Result.andThen, ChangeMaps.setBlock, hmod]
 ·
  intro e1 he1
  rcases who e1 he1 with rfl | ⟨h5, _⟩
  · exact h2 e0 he0
  exact h2 e1 h5
 ·
  rw [List.pairwise_iff_getElem]
  intro a b ha hb2 hab
  have ha' : a < es.length := by simpa using ha
  have hb' : b < es.length := by simpa using hb2
  have h5 := List.pairwise_iff_getElem.1 h3 a b ha' hb' hab
  have ej : es[j] = e0 := by rw [zb hjl] at hj2; exact Option.some.inj hj2
  rw [List.getElem_set, List.getElem_set]
  by_cases h6 : j = a
  ·
   subst h6
   rw [if_pos rfl, if_neg jo]
   rw [ej] at h5
   exact h5
  rw [if_neg h6]
  by_cases h7 : j = b
  ·
   subst h7
   rw [if_pos rfl]
   rw [ej] at h5
   exact h5
  rw [if_neg h7]
  exact h5
 intro y u
 dsimp only
 by_cases hy : y = x
 ·
  subst hy
  rw [if_pos rfl]
  constructor
  ·
   intro hu
   exact ⟨_, hmem, hk0, by simpa using hu⟩
  rintro ⟨e1, he1, he2, he3⟩
  rcases who e1 he1 with rfl | ⟨_, h6, _⟩
  · simpa using he3
  exact absurd (he2.trans hk0.symm) h6
 rw [if_neg hy]
 constructor
 ·
  intro hu
  obtain ⟨e1, he1, he2, he3⟩ := (h4 y u).1 hu
  exact ⟨e1, back e1 he1 (fun e => hy (henc _ _ (by rw [← he2, ← hk0, e]))), he2, he3⟩
 rintro ⟨e1, he1, he2, he3⟩
 rcases who e1 he1 with rfl | ⟨h5, _, _⟩
 · exact absurd (henc _ _ (hk0.symm.trans he2)).symm hy
 exact (h4 y u).2 ⟨e1, h5, he2, he3⟩
end
section
variable {P : Program} {k : TypeId} {κ : Type} {enc : κ → Value} {w : World} {g : Nat} {M : κ → Option Value} {Γ : Env} {dst : Option Tmp} {T : TypeId} {pos : String} {after : Array Edge} {gd : Option (Nat × Bool)}
theorem qV.makeMap {t : TypeId} : qV P ⟨dst, .makeMap t none, T, pos, after, gd⟩ Γ w (fun r w' => r = .map (some w.heap.size) ∧ MpF P k enc w' w.heap.size (fun _ : κ => none) ∧ Frm [] w w' ∧ w'.heap.size = w.heap.size + 1) := fun ρ _ =>
 ⟨_, w.alloc (.map #[] 0), by simp [execOp, run_makeMap], rfl, MpF.new, (Frm.refl [] w).alloc _, jp⟩
theorem Run.lookup {t e : TypeId} {a b : Operand} {z : Value} {x : κ} {kl : Lit} (ha : ev? Γ a = some (.map (some g))) (hb : ev? Γ b = some (enc x)) (h : MpF P k enc w g M) (K : Keyed P k) (ht : P.underlying t = some (.map k e)) (hz : ∀ w, (zeroValue e).run P w = .ok z w) (hkey : keyOf P k (enc x) = some kl) :
  Run P ⟨dst, .lookup t a b false, T, pos, after, gd⟩ Γ w ((M x).getD z) := fun ρ hρ => by
 simp [execOp, hρ _ _ ha, hρ _ _ hb, qRd h K ht (hz w) hkey]
theorem qV.mapEntry [DecidableEq κ] {t e : TypeId} {a b : Operand} {z : Value} {x : κ} {kl : Lit} (ha : ev? Γ a = some (.map (some g))) (hb : ev? Γ b = some (enc x)) (h : MpF P k enc w g M) (K : Keyed P k) (henc : ∀ a b, enc a = enc b → a = b) (ht : P.underlying t = some (.map k e)) (hz : ∀ w, (zeroValue e).run P w = .ok z w) (hkey : keyOf P k (enc x) = some kl) :
  qV P ⟨dst, .mapEntry t a b, T, pos, after, gd⟩ Γ w (fun r w' => ∃ n : Nat, r = .tuple #[(M x).getD z, .int .i64 (n : Int)] ∧ MpE P k enc w' g (fun y => if y = x then some ((M x).getD z) else M y) x n ∧ Frm [g] w w' ∧ w'.heap.size = w.heap.size) := fun ρ hρ => by
 obtain ⟨n, w', h1, h2⟩ := qH8 h K henc ht hz hkey
 exact ⟨_, w', by simp [execOp, hρ _ _ ha, hρ _ _ hb, h1], n, rfl, h2⟩
theorem qR.entryStore [DecidableEq κ] {t : TypeId} {a b c : Operand} {x : κ} {n : Nat} {v : Value} (ha : ev? Γ a = some (.map (some g))) (hb : ev? Γ b = some (.int .i64 (n : Int))) (hc : ev? Γ c = some v) (h : MpE P k enc w g M x n) (henc : ∀ a b, enc a = enc b → a = b) :
  qR P ⟨dst, .entryStore t a b c, T, pos, after, gd⟩ Γ w (fun w' => MpF P k enc w' g (fun y => if y = x then some v else M y) ∧ Frm [g] w w' ∧ w'.heap.size = w.heap.size) := fun ρ hρ => by
 obtain ⟨w', h1, h2⟩ := qXb (t := t) (v := v) h henc
 exact ⟨w', by simp [execOp, hρ _ _ ha, hρ _ _ hb, hρ _ _ hc, h1], h2⟩
theorem Run.toArr {t e : TypeId} {a : Operand} {A : Option Addr} {len c n : Nat} (ha : ev? Γ a = some (.slice A len c)) (ht : P.underlying t = some (.array n e)) (hn : n ≤ len) : Run P ⟨dst, .sliceToArrayPointer t a, T, pos, after, gd⟩ Γ w (.pointer A) := fun ρ hρ => by
 have : ¬ len < n := jo
 simp [execOp, hρ _ _ ha, Instr.arrayAt, run_underlying ht, this]
end
end
section
open Go.RowKit
section
variable {P : Program} {n : NF} {ops : Array Oper} {S : World → Prop} {Pn : List PanicEntry → World → Prop} {L fuel : Nat} {listed : Array Bool} {Γ : Env} {w : World} {K : Env → World → Prop}
theorem qK.moreC {a : Addr} {v : Value} (_ : w.cell? a = some v) (h : qK P n ops (fun u => S u ∧ u.cell? a = some v) Pn L fuel listed Γ w K) : qK P n ops S Pn L fuel listed Γ w K := qK.more (fun u => S u ∧ u.cell? a = some v) (fun _ h => h.1) h
end
theorem qR.store0 {P : Program} {Γ : Env} {w : World} {dst : Option Nat} {T : TypeId} {pos : String} {after : Array Edge} {g : Option (Nat × Bool)} {t e : TypeId} {x y : Operand} {gb i : Nat} {cs : Array Value} {v : Value} (hx : ev? Γ x = some (.pointer (some ((⟨gb, 0, none⟩ : Addr).add i)))) (hy : ev? Γ y = some v)
  (hz : ∀ w, (sizeOf t).run P w = .ok 1 w) (hb : Blk w gb e cs) (hi0 : i < cs.size) (h1 : v.oneCell' = true) :
  qR P ⟨dst, .store t x y, T, pos, after, g⟩ Γ w (fun w' => Blk w' gb e (cs.setIfInBounds i v) ∧ Frm [gb] w w' ∧ w'.heap.size = w.heap.size) :=
 qR.store (hx.trans (by rw [fY])) hy hz hb (by rw [zep]; exact hi0) h1
theorem Bin.and_u32 (x y : Nat) (hx : x ≤ 4294967295) (hy : y ≤ 4294967295) : Bin .and .u32 x .u32 y (.int .u32 ((x &&& y : Nat) : Int)) := Bin.andN x y hx hy
theorem Bin.xor_u32 (x y : Nat) (hx : x ≤ 4294967295) (hy : y ≤ 4294967295) : Bin .xor .u32 x .u32 y (.int .u32 ((x ^^^ y : Nat) : Int)) := Bin.xorN x y hx hy
theorem Bin.xor_u8 (x y : Nat) (hx : x ≤ 255) (hy : y ≤ 255) : Bin .xor .u8 x .u8 y (.int .u8 ((x ^^^ y : Nat) : Int)) := Bin.xorN x y hx hy
theorem Bin.shr_u32 {k' : IntKind} (x y : Nat) (h : x ≤ 4294967295) : Bin .shr .u32 x k' y (.int .u32 ((x / 2 ^ y : Nat) : Int)) := Bin.shrN x y h
theorem Bin.sub_u32 (x y : Nat) (hy : y ≤ x) (h : x ≤ 4294967295) : Bin .sub .u32 x .u32 y (.int .u32 ((x - y : Nat) : Int)) := Bin.subN x y hy (by simp only [bmax]; omega)
theorem Bin.quo_u32 (x y : Nat) (hy : y ≠ 0) (h : x ≤ 4294967295) : Bin .quo .u32 x .u32 y (.int .u32 ((x / y : Nat) : Int)) := Bin.quoN x y hy (by simp only [bmax]; exact zn (zcq x y) h)
theorem qJm (n : Nat) (h : n ≤ 4294967295) : (BitVec.ofInt 32 4294967295 ^^^ BitVec.ofInt 32 (n : Int)).toNat = 4294967295 - n := by
 have e1 : BitVec.ofInt 32 4294967295 = BitVec.allOnes 32 := jd
 have e2 : BitVec.ofInt 32 (n : Int) = BitVec.ofNat 32 n := BitVec.ofInt_natCast 32 n
 rw [e1, e2, BitVec.allOnes_xor, BitVec.toNat_not, BitVec.toNat_ofNat]
 have : n % 2 ^ 32 = n := zdz jo
 rw [this]
theorem Run.compl32 {P : Program} {Γ : Env} {w : World} {dst : Option Nat} {xT T : TypeId} {pos : String} {after : Array Edge} {g : Option (Nat × Bool)} {x : Operand} (n : Nat) (hx : ev? Γ x = some (.int .u32 (n : Int))) (h : n ≤ 4294967295) : Run P ⟨dst, .unOp .xor xT x, T, pos, after, g⟩ Γ w (.int .u32 ((4294967295 - n : Nat) : Int)) := fun ρ hρ => by
 have e : IntKind.u32.wrap ((4294967295 - n : Nat) : Int) = ((4294967295 - n : Nat) : Int) := by
  rw [qPz, zdz jo]
 have e2 : (Op.unary .xor (.int .u32 (n : Int))).run P w = .ok (.int .u32 ((4294967295 - n : Nat) : Int)) w := by
  show Sem.run P (pure (Value.int .u32 (IntKind.u32.wrap ((BitVec.ofInt 32 4294967295 ^^^ BitVec.ofInt 32 (n : Int)).toNat)))) w = _
  rw [qJm n h, e]
  rfl
 simp only [execOp, hρ _ _ hx, Sem.run_bind, e2, Result.andThen_ok, Sem.run_pure]
theorem qV.make0 {P : Program} {Γ : Env} {w : World} {dst : Option Nat} {T : TypeId} {pos : String} {after : Array Edge} {g : Option (Nat × Bool)} {t e : TypeId} {x y : Operand} {z : Value} {size bytes c : Nat} {k k' : IntKind} (hx : ev? Γ x = some (.int k ((0 : Nat) : Int))) (hy : ev? Γ y = some (.int k' (c : Int)))
  (ht : P.underlying t = some (.slice e)) (hi : (P.info? e).map (fun i => (i.zero, i.size, i.bytes)) = some (some z, size, bytes)) (hb : bytes * c ≤ 281474976710656) (hc : c ≤ 9223372036854775807) :
  qV P ⟨dst, .makeSlice t x y, T, pos, after, g⟩ Γ w (fun r w' => r = .slice (some ⟨w.heap.size, 0, none⟩) 0 c ∧ Own w' e size (some ⟨w.heap.size, 0, none⟩) 0 c [] ∧ Frm [] w w' ∧ w'.heap.size = w.heap.size + 1) := fun ρ hρ => by
 obtain ⟨i, hi1, hi2⟩ := Option.map_eq_some_iff.1 hi
 simp only [Prod.mk.injEq] at hi2
 obtain ⟨hz, hsz, hbt⟩ := hi2
 have hr := run_make (P := P) w t e i z ht hi1 hz k k' ((0 : Nat) : Int) (c : Int) jo jo (by have h := Int.ofNat_le.2 hb; rw [Int.natCast_mul] at h; rw [hbt]; exact h) jo
 simp only [zac, hsz] at hr
 refine ⟨_, w.alloc (.cells (madeCells z.cells (c * size)) e), ?_, rfl, ?_, (Frm.refl _ _).alloc _, (Fresh.mk' w e _).size⟩
 · simp only [execOp, hρ _ _ hx, hρ _ _ hy, Sem.run_bind, hr, Result.andThen_ok, Sem.run_pure]
 exact ⟨jp, .inr ⟨w.heap.size, c, _, rfl, zak _, Blk.new w e _, zak _, by simp [maxLen]; omega, by rw [size_madeCells], jp⟩⟩
theorem Run.eqNilS {P : Program} {Γ : Env} {w : World} {dst : Option Nat} {T : TypeId} {pos : String} {after : Array Edge} {g : Option (Nat × Bool)} {t yT e : TypeId} {x y : Operand} {A : Option Addr} {n c : Nat} (hx : ev? Γ x = some (.slice A n c)) (hy : ev? Γ y = some (.slice none 0 0)) (ht : P.underlying t = some (.slice e)) :
  Run P ⟨dst, .binOp .eql t x y yT, T, pos, after, g⟩ Γ w (.bool A.isNone) := fun ρ hρ => by
 have h0 : ∀ d : Nat, (Op.equalIn (d + 1) t (.slice A n c) (.slice none 0 0)).run P w = .ok A.isNone w := fun d => by
  cases A <;> simp [Op.equalIn, run_underlying ht]
 have h1 : (Op.equal t (.slice A n c) (.slice none 0 0)).run P w = .ok A.isNone w := h0 9999
 simp [execOp, hρ _ _ hx, hρ _ _ hy, eqGuard, binOp, h1]
theorem Run.slice3 {P : Program} {Γ : Env} {w : World} {dst : Option Nat} {T : TypeId} {pos : String} {after : Array Edge} {g : Option (Nat × Bool)} {t e : TypeId} {x lo hi mx : Operand} {a : Option Addr} {len cap sz : Nat} {k k' k'' : IntKind} (l h m : Nat) (hx : ev? Γ x = some (.slice a len cap)) (ht : P.underlying t = some (.slice e)) (hz : ∀ w, (sizeOf e).run P w = .ok sz w)
  (hlo : ev? Γ lo = some (.int k (l : Int))) (hhi : ev? Γ hi = some (.int k' (h : Int))) (hmx : ev? Γ mx = some (.int k'' (m : Int))) (h1 : l ≤ h) (h2 : h ≤ m) (h3 : m ≤ cap) :
  Run P ⟨dst, .slice t x (some lo) (some hi) (some mx), T, pos, after, g⟩ Γ w (.slice (cC a m l sz) (h - l) (m - l)) := fun ρ hρ => by
 have hb : ∀ (k : IntKind) (r y : Nat) (code : BoundsCode), r ≤ y → (Instr.sliceBound (.int k (r : Int)) y code).run P w = .ok r w := by
  intro k r y code hry
  have := run_sliceBound (P := P) w k (r : Int) y code jo jo
  simpa using this
 have hbb : (Instr.sliceBounds true len cap (some (.int k (l : Int))) (some (.int k' (h : Int))) (some (.int k'' (m : Int)))).run P w = .ok (l, h, m) w := by
  unfold Instr.sliceBounds
  simp [hb _ _ _ _ h1, hb _ _ _ _ h2, hb _ _ _ _ h3]
 simp only [execOp, Instr.sliceAt, Instr.slice, Sem.run_bind, run_underlying ht, Result.andThen_ok, hρ _ _ hx, hρ _ _ hlo, hρ _ _ hhi, hρ _ _ hmx, zhr, hbb, hz, Sem.run_pure]
 rfl
theorem qWa (n : Nat) (h : n ≤ 4611686018427387904) : (BitVec.ofInt 64 (-1) ^^^ BitVec.ofInt 64 (n : Int)).toNat = 18446744073709551615 - n := by
 have e1 : BitVec.ofInt 64 (-1) = BitVec.allOnes 64 := jd
 have e2 : BitVec.ofInt 64 (n : Int) = BitVec.ofNat 64 n := BitVec.ofInt_natCast 64 n
 rw [e1, e2, BitVec.allOnes_xor, BitVec.toNat_not, BitVec.toNat_ofNat]
 have : n % 2 ^ 64 = n := zdz jo
 rw [this]
theorem Run.compl {P : Program} {Γ : Env} {w : World} {dst : Option Nat} {xT T : TypeId} {pos : String} {after : Array Edge} {g : Option (Nat × Bool)} {x : Operand} (n : Nat) (hx : ev? Γ x = some (.int .i64 (n : Int))) (h : n ≤ 4611686018427387904) : Run P ⟨dst, .unOp .xor xT x, T, pos, after, g⟩ Γ w (.int .i64 (-(n : Int) - 1)) := fun ρ hρ => by
 have e : IntKind.i64.wrap ((18446744073709551615 - n : Nat) : Int) = -(n : Int) - 1 := by
  simp only [IntKind.wrap, IntKind.bits, IntKind.signed, Bool.true_and, decide_eq_true_eq, Nat.reduceSub, ge_iff_le]
  have h2 : (9223372036854775808 : Int) ≤ ((18446744073709551615 - n : Nat) : Int) % 18446744073709551616 := jo
  rw [if_pos (by exact h2)]
  omega
 have e2 : (Op.unary .xor (.int .i64 (n : Int))).run P w = .ok (.int .i64 (-(n : Int) - 1)) w := by
  show Sem.run P (pure (Value.int .i64 (IntKind.i64.wrap ((BitVec.ofInt 64 (-1) ^^^ BitVec.ofInt 64 (n : Int)).toNat)))) w = _
  rw [qWa n h, e]
  rfl
 simp only [execOp, hρ _ _ hx, Sem.run_bind, e2, Result.andThen_ok, Sem.run_pure]
theorem qGc (n : Nat) (h : n ≤ 65535) : IntKind.u8.wrap (-(n : Int) - 1) = (((65535 - n) % 256 : Nat) : Int) := by
 simp only [IntKind.wrap, IntKind.bits, IntKind.signed, zhy, zdi, if_false]; omega
theorem qWb (n : Nat) (h : n ≤ 65535) : IntKind.u8.wrap (-((n / 256 : Nat) : Int) - 1) = (((65535 - n) / 256 : Nat) : Int) := by
 simp only [IntKind.wrap, IntKind.bits, IntKind.signed, zhy, zdi, if_false]; omega
theorem Bin.shr_neg8 {k' : IntKind} (n : Nat) : Bin .shr .i64 (-(n : Int) - 1) k' ((8 : Nat) : Int) (.int .i64 (-((n / 256 : Nat) : Int) - 1)) := fun P T w => by
 have h0 : ¬ (((8 : Nat) : Int) < 0) := jo
 have e : (-(n : Int) - 1).fdiv (2 ^ (min ((8 : Nat) : Int).toNat IntKind.i64.bits)) = -((n / 256 : Nat) : Int) - 1 := by
  show (-(n : Int) - 1).fdiv 256 = _
  rw [zhp _ jd]
  omega
 simp only [binOp, Op.shift, h0, if_false, e]
 rfl
end
section
open Go.RowKit
theorem eP (l : List Nat) : ∀ u ∈ NB l, u.oneCell' = true := by
 intro u hu
 obtain ⟨b, _, rfl⟩ := List.mem_map.1 hu
 rfl
theorem fD (a b : List Nat) : NB (a ++ b) = NB a ++ NB b := by simp [NB]
theorem qBd (a : List Nat) (i x : Nat) : NB (a.set i x) = (NB a).set i (.int .u8 (x : Int)) := by simp [NB, List.map_set]
theorem mS (a : List Nat) (i : Nat) (h : i < a.length) : (NB a)[i]? = some (.int .u8 ((a.getD i 0 : Nat) : Int)) := by
 simp [NB, h]
def IsW (w : World) (g : Nat) (A : Option Addr) (l : List Bool) : Prop :=
 ∃ c, Blk w g 154 #[.slice A (qC l).length c, .int .i64 ((l.length : Nat) : Int)] ∧ Own w 5 1 A (qC l).length c (NB (qC l))
theorem IsW.frm {w w' : World} {g : Nat} {A : Option Addr} {l : List Bool} {S : List Nat} (h : IsW w g A l) (k : Frm S w w') (hS : ∀ x ∈ g :: ob A, x ∉ S) : IsW w' g A l := by
 obtain ⟨c, h1, h2⟩ := h
 exact ⟨c, h1.frm k (hS g jp), h2.frm k (fun x hx => hS x (by simp [hx]))⟩
theorem IsW.lt {w : World} {g : Nat} {A : Option Addr} {l : List Bool} (h : IsW w g A l) : ∀ x ∈ g :: ob A, x < w.heap.size := by
 obtain ⟨c, h1, h2⟩ := h
 intro x hx
 rcases zbv.1 hx with rfl | hx
 · exact h1.lt
 exact h2.lt x hx
def IsR (w : World) (g : Nat) (A : Option Addr) (bs : List Nat) (p : Nat) : Prop :=
 ∃ c, Blk w g 189 #[.slice A bs.length c, .int .i64 ((p : Nat) : Int)] ∧ Own w 5 1 A bs.length c (NB bs)
theorem IsR.frm {w w' : World} {g : Nat} {A : Option Addr} {bs : List Nat} {p : Nat} {S : List Nat} (h : IsR w g A bs p) (k : Frm S w w') (hS : ∀ x ∈ g :: ob A, x ∉ S) : IsR w' g A bs p := by
 obtain ⟨c, h1, h2⟩ := h
 exact ⟨c, h1.frm k (hS g jp), h2.frm k (fun x hx => hS x (by simp [hx]))⟩
theorem IsR.lt {w : World} {g : Nat} {A : Option Addr} {bs : List Nat} {p : Nat} (h : IsR w g A bs p) : ∀ x ∈ g :: ob A, x < w.heap.size := by
 obtain ⟨c, h1, h2⟩ := h
 intro x hx
 rcases zbv.1 hx with rfl | hx
 · exact h1.lt
 exact h2.lt x hx
def rightE (v : Nat) (n : Int) : Nat := if n < 0 ∨ 32 < n then 1 else if v / 2 ^ n.toNat = 0 then 0 else 8
theorem yJ (w : World) : Calls Tryz.prog 50 #[] w fun e w' => e = .returned (.pointer (some ⟨w.heap.size, 0, none⟩)) ∧ IsW w' w.heap.size none [] ∧ Frm [] w w' ∧ w'.heap.size = w.heap.size + 1 := by
 refine VC.calls (nt := 3) (res := #[.tmp 0]) Tryz.func50 rfl Tryz.ntmps50 Tryz.results50 rfl ?_
 refine jS (jR (ja rfl (jO (jN ?_))))
 refine VC.sub [] .nil ?_
 refine jS (jR (je (Run.build evs.nil qTo (qX2).choose_spec.1 (qX2).choose_spec.2 rfl) ?_))
 refine Ops.m (qV.box rfl) rfl ?_
 rintro _ w1 ⟨rfl, hFw1⟩
 refine ja rfl (jO (jN (jv1 0 ?_)))
 refine jT ?_
 refine qT rfl ?_
 exact ⟨rfl, ⟨0, hFw1.blk, Own.nil _ _ _⟩, hFw1.frm, hFw1.size⟩
theorem qRe (v n : Nat) (w : World) (hn : n ≤ 32) (hv : v ≤ 18446744073709551615) : Calls Tryz.prog 89 #[.int .u64 v, .int .i64 n] w fun e w' => e = .returned (.int .i64 ((if v / 2 ^ n = 0 then 0 else 8 : Nat) : Int)) ∧ w = w' := by
 refine VC.calls (nt := 17) (res := #[.tmp 4]) Tryz.func89 rfl Tryz.ntmps89 Tryz.results89 rfl ?_
 refine jS (jR (jz 0 (jO (jN (jv2 0 1 ?_)))))
 refine jS (jB (jS (jR (jm rfl (jb rfl rfl (Bin.lssN _ 0) (jM ?_))))))
 refine Ops.rg rfl (decide_eq_false jo) (Run.mv rfl) rfl ?_
 refine Ops.rg rfl (decide_eq_false jo) (Run.bin rfl rfl (Bin.gtrN _ 32)) rfl ?_
 refine je (Run.pickF rfl rfl (decide_eq_false jo)) (ja rfl (jO (jN (jv3 0 1 5 ?_))))
 refine VC.condF rfl (decide_eq_false jo) ?_
 refine jS (jR (jm rfl (jm rfl (jb rfl rfl (Bin.shr_u64 _ _ hv) (jb rfl rfl (Bin.neqN _ 0) (ja rfl (jO (jN (jv1 12 ?_)))))))))
 refine jD rfl (fun hc2 => ?_) fun hc2 => ?_
 ·
  refine jS (jR (jz 8 (jO (jN (jv1 4 ?_)))))
  refine jT ?_
  refine qO (qP (qT rfl ?_))
  exact ⟨by rw [if_neg hc2], rfl⟩
 refine jQ ?_
 refine qJ (jN ?_)
 refine VC.sub [] .nil ?_
 refine jS (jR (jz 0 (jO (jN (jT ?_)))))
 refine qT rfl ?_
 exact ⟨by rw [if_pos (by simpa using hc2)], rfl⟩
theorem qMa (v : Nat) (n : Int) (w : World) (hn : n < 0) : Calls Tryz.prog 89 #[.int .u64 v, .int .i64 n] w fun e w' => e = .returned (.int .i64 ((1 : Nat) : Int)) ∧ w = w' := by
 refine VC.calls (nt := 17) (res := #[.tmp 4]) Tryz.func89 rfl Tryz.ntmps89 Tryz.results89 rfl ?_
 refine jS (jR (jz 0 (jO (jN (jv2 0 1 ?_)))))
 refine jS (jB (jS (jR (jm rfl (jb rfl rfl (Bin.lss _ 0) (jM ?_))))))
 refine Ops.sk rfl (by simpa using hn) rfl ?_
 refine Ops.sk rfl (by simpa using hn) rfl ?_
 refine je (Run.pickT rfl rfl (decide_eq_true hn)) (ja rfl (jO (jN (jv3 0 1 5 ?_))))
 refine VC.condT rfl (rfl) ?_
 refine jS (jR (jz 1 (jO (jN (jv1 4 ?_)))))
 refine jT ?_
 refine qO (qP (qT rfl ?_))
 exact ⟨rfl, rfl⟩
theorem qMb (v : Nat) (n : Int) (w : World) (hn : 32 < n) : Calls Tryz.prog 89 #[.int .u64 v, .int .i64 n] w fun e w' => e = .returned (.int .i64 ((1 : Nat) : Int)) ∧ w = w' := by
 refine VC.calls (nt := 17) (res := #[.tmp 4]) Tryz.func89 rfl Tryz.ntmps89 Tryz.results89 rfl ?_
 refine jS (jR (jz 0 (jO (jN (jv2 0 1 ?_)))))
 refine jS (jB (jS (jR (jm rfl (jb rfl rfl (Bin.lss _ 0) (jM ?_))))))
 refine Ops.rg rfl (decide_eq_false jo) (Run.mv rfl) rfl ?_
 refine Ops.rg rfl (decide_eq_false jo) (Run.bin rfl rfl (Bin.gtr _ 32)) rfl ?_
 refine je (Run.pickF rfl rfl (decide_eq_false jo)) (ja rfl (jO (jN (jv3 0 1 5 ?_))))
 refine VC.condT rfl (decide_eq_true hn) ?_
 refine jS (jR (jz 1 (jO (jN (jv1 4 ?_)))))
 refine jT ?_
 refine qO (qP (qT rfl ?_))
 exact ⟨rfl, rfl⟩
theorem zU (v : Nat) (n : Int) (w : World) (hv : v ≤ 18446744073709551615) : Calls Tryz.prog 89 #[.int .u64 v, .int .i64 n] w fun e w' => e = .returned (.int .i64 ((rightE v n : Nat) : Int)) ∧ w = w' := by
 unfold rightE
 by_cases h1 : n < 0
 · rw [if_pos (.inl h1)]; exact qMa v n w h1
 by_cases h2 : 32 < n
 · rw [if_pos (.inr h2)]; exact qMb v n w h2
 rw [if_neg jo]
 obtain ⟨m, rfl⟩ := Int.eq_ofNat_of_zero_le (jo : 0 ≤ n)
 exact qRe v m w jo hv
theorem qX7 (v m : Nat) (h1 : m ≤ 32) (h2 : v < 2 ^ m) : rightE v (m : Int) = 0 := by
 unfold rightE
 rw [if_neg jo, if_pos (by simp only [zac]; exact zfd h2)]
def kQ (l : List Bool) : List Nat := if l.length % 8 = 0 then qC l ++ [0] else qC l
theorem qJ5 (l : List Bool) : (kQ l).length = l.length / 8 + 1 := by
 unfold kQ; split <;> simp [cM] <;> omega
theorem qTw (l : List Bool) : (kQ l).getD (l.length / 8) 0 < 256 := by
 have hl : ∀ x ∈ kQ l, x < 256 := by
  intro x hx
  unfold kQ at hx
  split at hx
  ·
   rcases List.mem_append.1 hx with h | h
   · exact sH l x h
   simp at h; omega
  exact sH l x hx
 have := qJ5 l
 rw [ze, zb jo]
 exact hl _ (zt _)
theorem qMc (l : List Bool) (b : Bool) : qC (l ++ [b]) = (kQ l).set (l.length / 8) ((kQ l).getD (l.length / 8) 0 ||| (b.toNat * 2 ^ (l.length % 8) % 256)) := by
 have hb : b.toNat * 2 ^ (l.length % 8) % 256 = b.toNat * 2 ^ (l.length % 8) := by
  apply zdz
  have h1 : 2 ^ (l.length % 8) ≤ 2 ^ 7 := zz jo jo
  cases b <;> simp <;> omega
 rw [hb]
 by_cases h : l.length % 8 = 0
 ·
  have h8 : (qC l).length = l.length / 8 := by rw [cM]; omega
  rw [qJj l b h]
  unfold kQ
  rw [if_pos h, h, List.set_append_right _ _ jo, ze, zan jo, h8]
  simp
 rw [qJk l b h]
 unfold kQ
 rw [if_neg h]
 congr 1
 rw [ze, dC _ _ jo]
 simp only [zba]
 rw [zm (by simp; omega)]
 have := sG (l.drop (8 * (l.length / 8)))
 rw [show (l.drop (8 * (l.length / 8))).length = l.length % 8 by simp; omega] at this
 rw [qJ2 _ _ _ this]
theorem qRf (g v : Nat) (A : Option Addr) (l : List Bool) (w : World) (hv : v ≤ 18446744073709551615) (hl : l.length ≤ 1000000000000) (hW : IsW w g A l) :
  Calls Tryz.prog 90 #[.pointer (some ⟨g, 0, none⟩), .int .u64 v] w fun e w' => e = .returned (.tuple #[]) ∧ ∃ A', IsW w' g A' (l ++ [decide (v % 2 = 1)]) ∧ Frm (g :: ob A) w w' ∧ ∀ x ∈ ob A', x ∈ ob A ∨ w.heap.size ≤ x := by
 obtain ⟨c, hb, ho⟩ := hW
 have hpl := cM l
 have hgA := ho.ne_blk hb jd
 have hlt := hb.lt
 refine VC.calls (nt := 48) (res := #[]) Tryz.func90 rfl Tryz.ntmps90 Tryz.results90 rfl ?_
 refine jS (jS (jR (jm rfl (je (Run.nilck rfl) (jf rfl zck rfl zc (jl rfl zg (hb.cell 1) (jb rfl rfl (Bin.remN _ 8 jo) (jb rfl rfl (Bin.eqlN _ 0) (jO (jN (jv3 0 1 9 ?_)))))))))))
 refine VC.meet (σ := Option Addr × Nat) (fun s => [(0, .pointer (some ⟨g, 0, none⟩)), (1, .int .u64 v)]) (fun s wr => Blk wr g 154 #[.slice s.1 (l.length / 8 + 1) s.2, .int .i64 ((l.length : Nat) : Int)] ∧ Own wr 5 1 s.1 (l.length / 8 + 1) s.2 (NB (kQ l)) ∧ Frm (g :: ob A) w wr ∧ ∀ x ∈ ob s.1, x ∈ ob A ∨ w.heap.size ≤ x) ?_ ?_
 ·
  refine jD rfl (fun hc1 => ?_) fun hc1 => ?_
  ·
   refine jR (jm rfl (jm rfl (je (Run.nilck rfl) (jf rfl zck rfl zo (jl rfl zx (hb.cell 0) ?_)))))
   refine Ops.m (qV.buildS1 rfl zf zad pO jd jd rfl rfl) rfl ?_
   rintro _ w1 ⟨rfl, hF⟩
   have ho1 := ho.frm hF.frm jp
   have hrd1 : Rd w1 1 (some ⟨w.heap.size, 0, none⟩) 1 (NB [0]) := Rd.of_blk hF.blk rfl
   refine Ops.m (qV.app rfl rfl zf (eA) rfl jd ho1 hrd1 (eP [0]) jo jo) rfl ?_
   rintro _ w2 ⟨A2, c2, rfl, ho2, hfr2, hob2⟩
   have hb2 := (hb.frm hF.frm jp).frm hfr2 hgA
   refine je (Run.nilck rfl) (jf rfl zck rfl zo ?_)
   refine Ops.st (qR.store rfl rfl zo hb2 rfl rfl) ?_
   rintro w3 ⟨hb3, hfr3, hsz3⟩
   refine jO ?_
   refine jN ⟨(A2, c2), (js2 rfl rfl), ?_⟩
   have h8 : l.length % 8 = 0 := hc1
   have hn : (qC l).length + 1 = l.length / 8 + 1 := jo
   have ho3 := ho2.frm hfr3 (by
    have hne := ho2.ne_blk hb2 jd
    intro x hx hx2
    simp at hx2
    subst hx2
    exact hne hx)
   have hp : NB (qC l) ++ NB [0] = NB (kQ l) := by rw [← fD]; unfold kQ; rw [if_pos h8]
   rw [hp, hn] at ho3
   rw [hn] at hb3
   refine ⟨hb3, ho3, ?_, ?_⟩
   · refine ((hF.frm.mono (T := g :: ob A) jp).trans hfr2 (fun x hx => .inl (by simp [hx]))).trans hfr3 (fun x hx => .inl (by simp at hx; simp [hx]))
   intro x hx
   rcases hob2 with h | h <;> rw [h] at hx
   · exact .inl hx
   right; have := hF.size; simp at hx; omega
  refine jQ ?_
  refine jN ⟨(A, c), (js2 rfl rfl), ?_⟩
  have h8 : ¬ l.length % 8 = 0 := hc1
  have hn : (qC l).length = l.length / 8 + 1 := jo
  have hp : qC l = kQ l := by unfold kQ; rw [if_neg h8]
  rw [hp] at ho hb
  rw [← hp, hn] at hb
  rw [← hp, hn, hp] at ho
  exact ⟨hb, ho, Frm.refl _ _, fun x hx => .inl hx⟩
 rintro ⟨A1, c1⟩ wr ⟨hb1, ho1, hfr1, hA1⟩ Γ hΓ
 dsimp only at hb1 ho1 hfr1 hA1 hΓ
 have hpw := qJ5 l
 obtain ⟨ad, rfl, hadlt, hadc⟩ := ho1.rd.2 jo
 have hcell := hadc _ _ (mS (kQ l) (l.length / 8) jo)
 have holt := qTw l
 have h2 : v &&& 1 = v % 2 := Nat.and_one_is_mod v
 refine jN (VC.sub _ hΓ (jS ?_))
 refine VC.tail 22 jK jK ?_
 simp only [zag, zdt, zdo, zby]
 refine qM ?_
 refine qE (Run.nilck rfl) ?_
 refine qE (Run.fieldAddr rfl zck rfl zo jd) ?_
 refine qE (Run.load rfl zx (hb1.cell 0)) ?_
 refine qM ?_
 refine qE (Run.nilck rfl) ?_
 refine qE (Run.fieldAddr rfl zck rfl zc jd) ?_
 refine qE (Run.load rfl zg (hb1.cell 1)) ?_
 refine qE (Run.bin rfl rfl (Bin.quo_i64 _ 8 jo jo)) ?_
 refine qE (Run.index1 _ rfl rfl zf zad jo) ?_
 refine qE (Run.load rfl zdr hcell) ?_
 refine qM ?_
 refine qE (Run.bin rfl rfl (Bin.and_u64 _ 1 hv jo)) ?_
 refine qE (Run.conv8 _ rfl zv zat) ?_
 refine qM ?_
 refine qE (Run.nilck rfl) ?_
 refine qE (Run.fieldAddr rfl zck rfl zc jd) ?_
 refine qE (Run.load rfl zg (hb1.cell 1)) ?_
 refine qE (Run.bin rfl rfl (Bin.remN _ 8 jo)) ?_
 refine qE (Run.bin rfl rfl (Bin.shl8 _ _ jo)) ?_
 refine qE (Run.bin rfl rfl (Bin.or_u8 _ _ jo jo)) ?_
 refine qE (Run.index1 _ rfl rfl zf zad jo) ?_
 refine qH.nil ?_
 refine Ops.st (qR.storeOwn _ rfl rfl zad (ho1.drawn (qQ.drew _)) rfl jo rfl) ?_
 rintro w4 ⟨ho4, hfr4, hsz4⟩
 have hb4 := (hb1.drawn (qQ.drew _)).frm hfr4 (ho1.ne_blk hb1 jd)
 refine jO (jN (jv1 0 ?_))
 refine jR (jm rfl (je (Run.nilck rfl) (jf rfl zck rfl zc (jl rfl zg (hb4.cell 1) (jb rfl rfl (Bin.add_i64 _ 1 jo) (je (Run.nilck rfl) (jf rfl zck rfl zc ?_)))))))
 refine Ops.st (qR.store rfl rfl zc hb4 rfl rfl) ?_
 rintro w5 ⟨hb5, hfr5, hsz5⟩
 refine jO ?_
 refine eM ?_
 refine ⟨rfl, some ad, ⟨c1, ?_, ?_⟩, ?_, hA1⟩
 ·
  have hp := cM (l ++ [decide (v % 2 = 1)])
  simp only [za, zfv] at hp
  rw [show (qC (l ++ [decide (v % 2 = 1)])).length = l.length / 8 + 1 by omega]
  rw [za]
  exact hb5
 ·
  have hbit : (v &&& 1) % 256 = (decide (v % 2 = 1)).toNat := by
   rw [h2]
   rcases zem v with h | h <;> simp [h]
  rw [hbit] at ho4
  have e : (NB (kQ l)).set (l.length / 8) (.int .u8 (((kQ l).getD (l.length / 8) 0 ||| (decide (v % 2 = 1)).toNat * 2 ^ (l.length % 8) % 256 : Nat) : Int)) = NB (qC (l ++ [decide (v % 2 = 1)])) := by
   rw [qMc, qBd]
  rw [e] at ho4
  have hp := cM (l ++ [decide (v % 2 = 1)])
  simp only [za, zfv] at hp
  rw [show (qC (l ++ [decide (v % 2 = 1)])).length = l.length / 8 + 1 by omega]
  exact ho4.frm hfr5 (by
   have hne := ho4.ne_blk hb4 jd
   intro x hx hx2
   simp at hx2
   subst hx2
   exact hne hx)
 refine ((hfr1.drawn (qQ.drew _)).trans hfr4 (fun x hx => ?_)).trans hfr5 (fun x hx => .inl (by simp at hx; simp [hx]))
 rcases hA1 x hx with h | h
 · exact .inl (by simp [h])
 exact .inr h
theorem gL (g v n : Nat) (A : Option Addr) (l : List Bool) (w : World) (hv : v < 2 ^ n) (hn : n ≤ 32) (hl : l.length ≤ 1000000000) (hW : IsW w g A l) :
  Calls Tryz.prog 51 #[.pointer (some ⟨g, 0, none⟩), .int .u64 v, .int .i64 n] w fun e w' => e = .returned (.int .i64 ((0 : Nat) : Int)) ∧ ∃ A', IsW w' g A' (l ++ bitsL v n) ∧ Frm (g :: ob A) w w' ∧ ∀ x ∈ ob A', x ∈ ob A ∨ w.heap.size ≤ x := by
 have hpow : 2 ^ n ≤ 2 ^ 32 := zz jo hn
 have hv64 : v ≤ 18446744073709551615 := jo
 have he := qX7 v n hn hv
 refine VC.calls (nt := 25) (res := #[.tmp 6]) Tryz.func51 rfl Tryz.ntmps51 Tryz.results51 rfl ?_
 refine jS (jR (jz 0 (jO (jN (jv3 0 1 2 ?_)))))
 refine jS (jS (jR (jm rfl (jM ?_))))
 refine Ops.cl (jE2 Tryz.call89) (zU v n _ hv64) rfl ?_
 rintro e w1 ⟨rfl, rfl⟩
 refine ⟨_, rfl, ?_⟩
 rw [he]
 refine ja rfl (jO (jN (jv4 0 1 2 7 ?_)))
 refine jS (jR (jm rfl (jb rfl rfl (Bin.neqN _ 0) (jO (jN (jv5 0 1 2 7 13 ?_))))))
 refine VC.condF rfl (rfl) ?_
 refine jQ (jN (jv3 0 1 2 ?_))
 refine jS (jS (jR (jM ?_)))
 refine jx .i64 0 ?_
 refine jO (jN (jv4 0 1 15 16 ?_))
 refine jB ?_
 refine VC.loop (σ := Nat × Option Addr) (fun s => [(0, .pointer (some ⟨g, 0, none⟩)), (1, .int .u64 v), (15, .int .i64 n), (16, .int .i64 s.1)]) (fun s wr => s.1 ≤ n ∧ IsW wr g s.2 (l ++ bitsL v s.1) ∧ Frm (g :: ob A) w wr ∧ ∀ x ∈ ob s.2, x ∈ ob A ∨ w.heap.size ≤ x) (fun s => n - s.1) (0, A) (js4 rfl rfl rfl rfl) ⟨jo, by simpa [bitsL] using hW, Frm.refl _ _, fun x hx => .inl hx⟩ ?_
 rintro ⟨k, A1⟩ wr ⟨hk, hW1, hfr1, hA1⟩
 dsimp only at hk hW1 hfr1 hA1 ⊢
 refine jS (jR (jb rfl rfl (Bin.lssN _ _) (jO (jN (jS ?_)))))
 refine jD rfl (fun hc2 => ?_) fun hc2 => ?_
 ·
  refine jQ (jN (jv4 0 1 15 16 ?_))
  refine jS (jB (jS (jR (jm rfl (ja rfl (jO (jN (jv5 0 1 8 15 16 ?_))))))))
  refine jR (jm rfl (jm rfl (jm rfl (jb rfl rfl (Bin.shr_u64 _ _ hv64) ?_))))
  refine Ops.cl (jE2 Tryz.call90) (qRf g (v / 2 ^ k) A1 (l ++ bitsL v k) _ (zn (zcq _ _) hv64) (by rw [za, qN]; omega) hW1) rfl ?_
  rintro e w2 ⟨rfl, A2, hW2, hfr2, hA2⟩
  refine ⟨_, rfl, ?_⟩
  refine jO ?_
  refine qJ (jN ?_)
  refine jv4 0 1 15 16 ?_
  refine jR (jb rfl rfl (Bin.add_i64 _ 1 jo) (jm rfl (jO ?_)))
  refine jN ⟨(k + 1, A2), (js4 rfl rfl rfl rfl), ?_, ?_⟩
  ·
   refine ⟨hc2, ?_, ?_, ?_⟩
   · rw [zj, ← zG] at hW2; exact hW2
   ·
    refine hfr1.trans hfr2 (fun x hx => ?_)
    rcases zbv.1 hx with rfl | hx
    · exact .inl jp
    rcases hA1 x hx with h | h
    · exact .inl (by simp [h])
    exact .inr h
   intro x hx
   rcases hA2 x hx with h | h
   · exact hA1 x h
   have := hfr1.size; right; omega
  first | omega | (dsimp only; omega)
 refine jX ?_
 refine qZ (qZ (qW ?_))
 refine jN ?_
 refine VC.sub [] .nil ?_
 refine jS (jR (jz 0 (jO (jN (jT ?_)))))
 refine qT rfl ?_
 have : k = n := jo
 subst this
 exact ⟨rfl, A1, hW1, hfr1, hA1⟩
theorem qMd (x : Nat) (w : World) (hx : x ≤ 18446744073709551615) :
  Calls Tryz.prog 145 #[.int .u64 x] w fun e w' => e = .returned (.int .u64 ((((cD 16 281470681808895 (cD 8 71777214294589695 x)) / 2 ^ 32) ||| ((cD 16 281470681808895 (cD 8 71777214294589695 x)) * 2 ^ 32 % 18446744073709551616) : Nat) : Int)) ∧ w = w' := by
 refine VC.calls (nt := 22) (res := #[.tmp 2]) Tryz.func145 rfl Tryz.ntmps145 Tryz.results145 rfl ?_
 refine jS (jR ?_)
 refine jy .u64 0 ?_
 refine jO (jN (jv1 0 ?_))
 refine jS (jR (jm rfl (jb rfl rfl (Bin.shr_u64 _ 8 hx) (jb rfl rfl (Bin.and_u64 _ 71777214294589695 (zn (zcq _ _) hx) jo) (jm rfl (jb rfl rfl (Bin.and_u64 _ 71777214294589695 hx jo) (jb rfl rfl (Bin.shlU _ 8) (jb rfl rfl (Bin.or_u64 _ _ (zn zfe jo) jo) ?_))))))))
 have hx := nH 8 71777214294589695 (x) jo
 refine ja rfl (jO (jN (jv1 0 ?_)))
 refine jS (jR (jm rfl (jb rfl rfl (Bin.shr_u64 _ 16 hx) (jb rfl rfl (Bin.and_u64 _ 281470681808895 (zn (zcq _ _) hx) jo) (jm rfl (jb rfl rfl (Bin.and_u64 _ 281470681808895 hx jo) (jb rfl rfl (Bin.shlU _ 16) (jb rfl rfl (Bin.or_u64 _ _ (zn zfe jo) jo) ?_))))))))
 have hx := nH 16 281470681808895 (cD 8 71777214294589695 x) jo
 refine ja rfl (jO (jN (jv1 0 ?_)))
 refine jS (jR (jm rfl (jb rfl rfl (Bin.shr_u64 _ 32 hx) (jm rfl (jb rfl rfl (Bin.shlU _ 32) (jb rfl rfl (Bin.or_u64 _ _ (zn (zcq _ _) hx) jo) (ja rfl (jO (jN (jv1 2 ?_))))))))))
 refine jT ?_
 refine qT rfl ?_
 exact ⟨rfl, rfl⟩
theorem qRg (x : Nat) (w : World) (hx : x ≤ 18446744073709551615) :
  Calls Tryz.prog 140 #[.int .u64 x] w fun e w' => e = .returned (.int .u64 ((rev64 x : Nat) : Int)) ∧ w = w' := by
 refine VC.calls (nt := 26) (res := #[.tmp 2]) Tryz.func140 rfl Tryz.ntmps140 Tryz.results140 rfl ?_
 refine jS (jR ?_)
 refine jy .u64 0 ?_
 refine jO (jN (jv1 0 ?_))
 refine jS (jR (jm rfl (jb rfl rfl (Bin.shr_u64 _ 1 hx) (jb rfl rfl (Bin.and_u64 _ 6148914691236517205 (zn (zcq _ _) hx) jo) (jm rfl (jb rfl rfl (Bin.and_u64 _ 6148914691236517205 hx jo) (jb rfl rfl (Bin.shlU _ 1) (jb rfl rfl (Bin.or_u64 _ _ (zn zfe jo) jo) ?_))))))))
 have hx := nH 1 6148914691236517205 (x) jo
 refine ja rfl (jO (jN (jv1 0 ?_)))
 refine jS (jR (jm rfl (jb rfl rfl (Bin.shr_u64 _ 2 hx) (jb rfl rfl (Bin.and_u64 _ 3689348814741910323 (zn (zcq _ _) hx) jo) (jm rfl (jb rfl rfl (Bin.and_u64 _ 3689348814741910323 hx jo) (jb rfl rfl (Bin.shlU _ 2) (jb rfl rfl (Bin.or_u64 _ _ (zn zfe jo) jo) ?_))))))))
 have hx := nH 2 3689348814741910323 (cD 1 6148914691236517205 x) jo
 refine ja rfl (jO (jN (jv1 0 ?_)))
 refine jS (jR (jm rfl (jb rfl rfl (Bin.shr_u64 _ 4 hx) (jb rfl rfl (Bin.and_u64 _ 1085102592571150095 (zn (zcq _ _) hx) jo) (jm rfl (jb rfl rfl (Bin.and_u64 _ 1085102592571150095 hx jo) (jb rfl rfl (Bin.shlU _ 4) (jb rfl rfl (Bin.or_u64 _ _ (zn zfe jo) jo) ?_))))))))
 have hx := nH 4 1085102592571150095 (cD 2 3689348814741910323 (cD 1 6148914691236517205 x)) jo
 refine ja rfl (jO (jN (jv1 0 ?_)))
 refine jS (jR (jM ?_))
 refine Ops.cl (jE1 Tryz.call145) (qMd (cD 4 1085102592571150095 (cD 2 3689348814741910323 (cD 1 6148914691236517205 x))) _ hx) rfl ?_
 rintro e w1 ⟨rfl, rfl⟩
 refine ⟨_, rfl, ?_⟩
 refine ja rfl (jO (jN (jv1 2 ?_)))
 refine jT ?_
 refine qT rfl ?_
 exact ⟨rfl, rfl⟩
theorem qMe (g v n : Nat) (A : Option Addr) (l : List Bool) (w : World) (hv : v < 2 ^ n) (hn : n ≤ 32) (hl : l.length ≤ 1000000000) (hW : IsW w g A l) :
  Calls Tryz.prog 122 #[.pointer (some ⟨g, 0, none⟩), .int .u64 v, .int .i64 n] w fun e w' => e = .returned (.int .i64 ((0 : Nat) : Int)) ∧ ∃ A', IsW w' g A' (l ++ (bitsL v n).reverse) ∧ Frm (g :: ob A) w w' ∧ ∀ x ∈ ob A', x ∈ ob A ∨ w.heap.size ≤ x := by
 have hpow : 2 ^ n ≤ 2 ^ 32 := zz jo hn
 have hpos := zft n
 have hv64 : v ≤ 18446744073709551615 := jo
 have he := qX7 v n hn hv
 have hrl := qP5 v
 have hrd : rev64 v / 2 ^ (64 - n) ≤ 18446744073709551615 := zn (zcq _ _) hrl
 refine VC.calls (nt := 26) (res := #[.tmp 6]) Tryz.func122 rfl Tryz.ntmps122 Tryz.results122 rfl ?_
 refine jS (jR (jz 0 (jO (jN (jv3 0 1 2 ?_)))))
 refine jS (jS (jR (jm rfl (jM ?_))))
 refine Ops.cl (jE2 Tryz.call89) (zU v n _ hv64) rfl ?_
 rintro e w1 ⟨rfl, rfl⟩
 refine ⟨_, rfl, ?_⟩
 rw [he]
 refine ja rfl (jO (jN (jv4 0 1 2 7 ?_)))
 refine jS (jR (jm rfl (jb rfl rfl (Bin.neqN _ 0) (jO (jN (jv5 0 1 2 7 12 ?_))))))
 refine VC.condF rfl (rfl) ?_
 refine jQ (jN (jv3 0 1 2 ?_))
 refine jS ?_
 refine VC.tail 11 jK jK ?_
 simp only [zag, zdt, zdo, zby]
 refine qM ?_
 refine qM ?_
 refine qH.call (jE1 Tryz.call140) (qRg v _ hv64) trivial rfl rfl ?_
 refine qM ?_
 refine qE (Run.bin rfl rfl (Bin.sub_i64 64 _ jo jo)) ?_
 refine qE (Run.bin rfl rfl (Bin.shr_u64 _ _ hrl)) ?_
 refine qM ?_
 refine qH.r (v := .int .u64 ((2 ^ n : Nat) : Int)) (Run.bin rfl rfl (by have := Bin.shl_u64 (k' := .i64) 1 n jo jo; rwa [zgs] at this)) rfl ?_
 refine qE (Run.bin rfl rfl (Bin.sub_u64 _ 1 jo jo)) ?_
 refine qE (Run.bin rfl rfl (Bin.and_u64 _ _ hrd jo)) ?_
 refine qM ?_
 refine qH.nil ?_
 refine Ops.cl (jE3 zez) (gL g (turn v n) n A l _ (qTu v n) hn hl (hW.frm (qQ.drew _).frm jp)) rfl ?_
 rintro e w2 ⟨rfl, A2, hW2, hfr2, hA2⟩
 refine ⟨_, rfl, ?_⟩
 refine ja rfl (jO (jN (jv1 6 ?_)))
 refine jT ?_
 refine qT rfl ?_
 rw [qH5 v n jo] at hW2
 exact ⟨rfl, A2, hW2, ((qQ.drew _).frm.mono jp).trans hfr2 (fun x hx => .inl hx), hA2⟩
theorem qJ6 (g c0 : Nat) (A B : Option Addr) (l : List Bool) (bs : List Nat) (w : World) (hl : l.length ≤ 1000000000) (hbs : bs.length ≤ 1000000000) (hB : ∀ b ∈ bs, b < 256) (hW : IsW w g A l) (hr : Rd w 1 B bs.length (NB bs)) :
  Calls Tryz.prog 53 #[.pointer (some ⟨g, 0, none⟩), .slice B bs.length c0] w fun e w' => e = .returned (.tuple #[]) ∧ ∃ A', IsW w' g A' (cB l ++ ofB bs) ∧ Frm (g :: ob A) w w' ∧ ∀ x ∈ ob A', x ∈ ob A ∨ w.heap.size ≤ x := by
 obtain ⟨c, hb, ho⟩ := hW
 have hpl := cM l
 have hgA := ho.ne_blk hb jd
 have hp : qC (cB l ++ ofB bs) = qC l ++ bs := by rw [kA _ _ (by rw [gP]; omega), sO, yQ bs hB]
 have hlen : (cB l ++ ofB bs).length = 8 * ((qC l).length + bs.length) := by rw [za, gP, bL, hpl]; omega
 refine VC.calls (nt := 22) (res := #[]) Tryz.func53 rfl Tryz.ntmps53 Tryz.results53 rfl ?_
 refine jS (jR (jm rfl (jm rfl (je (Run.nilck rfl) (jf rfl zck rfl zo (jl rfl zx (hb.cell 0) (jM ?_)))))))
 refine Ops.m (qV.app rfl rfl zf (eA) rfl jd ho hr (eP bs) jo jo) rfl ?_
 rintro _ w1 ⟨A1, c1, rfl, ho1, hfr1, hob1⟩
 have hb1 := hb.frm hfr1 hgA
 refine je (Run.nilck rfl) (jf rfl zck rfl zo ?_)
 refine Ops.st (qR.store rfl rfl zo hb1 rfl rfl) ?_
 rintro w2 ⟨hb2, hfr2, hsz2⟩
 refine jO (jN (jv1 0 ?_))
 refine jR (jm rfl (jm rfl (je (Run.nilck rfl) (jf rfl zck rfl zo (jl rfl zx (hb2.cell 0) (je (Run.lenS rfl zf) (jb rfl rfl (Bin.mul_i64 8 _ jo) (je (Run.nilck rfl) (jf rfl zck rfl zc ?_)))))))))
 refine Ops.st (qR.store rfl rfl zc hb2 rfl rfl) ?_
 rintro w3 ⟨hb3, hfr3, hsz3⟩
 refine jO ?_
 refine eM ?_
 have hne : ∀ x ∈ ob A1, x ∉ [g] := by
  intro x hx hx2
  simp at hx2
  subst hx2
  exact ho1.ne_blk hb1 jd hx
 refine ⟨rfl, A1, ⟨c1, ?_, ?_⟩, ?_, ?_⟩
 · rw [hp, hlen, za]; exact hb3
 · rw [hp, za, fD]; exact (ho1.frm hfr2 hne).frm hfr3 hne
 · exact ((hfr1.mono (T := g :: ob A) (fun x hx => .inl (by simp [hx]))).trans hfr2 (fun x hx => .inl (by simp at hx; simp [hx]))).trans hfr3 (fun x hx => .inl (by simp at hx; simp [hx]))
 intro x hx
 rcases hob1 with h | h <;> rw [h] at hx
 · exact .inl hx
 right; simp at hx; omega
theorem tQ (g : Nat) (A : Option Addr) (l : List Bool) (w : World) (hl : l.length ≤ 1000000000000) (hW : IsW w g A l) :
  Calls Tryz.prog 54 #[.pointer (some ⟨g, 0, none⟩)] w fun e w' => ∃ B c, e = .returned (.slice B (qC l).length c) ∧ Own w' 5 1 B (qC l).length c (NB (qC l)) ∧ Frm [] w w' ∧ ∀ x ∈ ob B, w.heap.size ≤ x := by
 obtain ⟨c, hb, ho⟩ := hW
 have hpl := cM l
 refine VC.calls (nt := 8) (res := #[.tmp 2]) Tryz.func54 rfl Tryz.ntmps54 Tryz.results54 rfl ?_
 refine jS (jR (ja rfl (jO (jN (jv1 0 ?_)))))
 refine jS (jR (jm rfl (je (Run.nilck rfl) (jf rfl zck rfl zo (jl rfl zx (hb.cell 0) ?_)))))
 refine Ops.m (qV.app rfl rfl zf (eA) rfl jd (Own.nil _ _ _) ho.rd (eP _) jo jo) rfl ?_
 rintro _ w1 ⟨A1, c1, rfl, ho1, hfr1, hob1⟩
 refine ja rfl (jO (jN (jv1 2 ?_)))
 refine jT ?_
 refine qT rfl ?_
 rw [zap, zbf] at ho1
 refine ⟨A1, c1, by rw [zap], ho1, hfr1, ?_⟩
 intro x hx
 rcases hob1 with h | h <;> rw [h] at hx <;> simp [ob] at hx
 omega
theorem qMf (B : Option Addr) (c0 : Nat) (bs : List Nat) (w : World) (hbs : bs.length ≤ 1000000000) (hr : Rd w 1 B bs.length (NB bs)) :
  Calls Tryz.prog 85 #[.slice B bs.length c0] w fun e w' => ∃ g A, e = .returned (.pointer (some ⟨g, 0, none⟩)) ∧ IsR w' g A bs 0 ∧ Frm [] w w' ∧ ∀ x ∈ g :: ob A, w.heap.size ≤ x := by
 refine VC.calls (nt := 7) (res := #[.tmp 2]) Tryz.func85 rfl Tryz.ntmps85 Tryz.results85 rfl ?_
 refine jS (jR (ja rfl (jO (jN (jv1 0 ?_)))))
 refine jS (jR (jM ?_))
 refine Ops.m (qV.app rfl rfl zf (eA) rfl jd (Own.nil _ _ _) hr (eP _) jo jo) rfl ?_
 rintro _ w1 ⟨A1, c1, rfl, ho1, hfr1, hob1⟩
 rw [zap, zbf] at ho1
 rw [zap]
 refine je (Run.build (evs.cons rfl evs.nil) qTp (qX3).choose_spec.1 (qX3).choose_spec.2 rfl) ?_
 refine Ops.m (qV.box rfl) rfl ?_
 rintro _ w2 ⟨rfl, hF⟩
 refine ja rfl (jO (jN (jv1 2 ?_)))
 refine jT ?_
 refine qT rfl ?_
 refine ⟨w1.heap.size, A1, rfl, ⟨c1, hF.blk, ho1.frm hF.frm jp⟩, hfr1.trans hF.frm jp, ?_⟩
 intro x hx
 rcases zbv.1 hx with rfl | hx
 · exact hfr1.size
 rcases hob1 with h | h <;> rw [h] at hx <;> simp [ob] at hx
 omega
theorem qTx (g p : Nat) (A : Option Addr) (bs : List Nat) (w : World) (hR : IsR w g A bs p) :
  Calls Tryz.prog 87 #[.pointer (some ⟨g, 0, none⟩)] w fun e w' => e = .returned (.int .i64 ((p : Nat) : Int)) ∧ w = w' := by
 obtain ⟨c, hb, ho⟩ := hR
 refine VC.calls (nt := 7) (res := #[.tmp 2]) Tryz.func87 rfl Tryz.ntmps87 Tryz.results87 rfl ?_
 refine jS (jR (jz 0 (jO (jN (jv1 0 ?_)))))
 refine jS (jR (jm rfl (je (Run.nilck rfl) (jf rfl zcb rfl zc (jl rfl zg (hb.cell 1) (ja rfl (jO (jN (jv1 2 ?_)))))))))
 refine jT ?_
 refine qT rfl ?_
 exact ⟨rfl, rfl⟩
theorem rK (g p : Nat) (A : Option Addr) (bs : List Nat) (w : World) (hp : p ≤ 8 * bs.length) (hbs : bs.length ≤ 1000000000) (hR : IsR w g A bs p) :
  Calls Tryz.prog 143 #[.pointer (some ⟨g, 0, none⟩)] w fun e w' => e = .returned (.int .i64 ((8 * bs.length - p : Nat) : Int)) ∧ qQ w w' := by
 obtain ⟨c, hb, ho⟩ := hR
 refine VC.calls (nt := 14) (res := #[.tmp 2]) Tryz.func143 rfl Tryz.ntmps143 Tryz.results143 rfl ?_
 refine jS (jR (jz 0 (jO (jN (jv1 0 ?_)))))
 refine jS ?_
 refine VC.still jK jK ?_
 refine qM ?_
 refine qE (Run.nilck rfl) ?_
 refine qE (Run.fieldAddr rfl zcb rfl zo jd) ?_
 refine qE (Run.load rfl zx (hb.cell 0)) ?_
 refine qE (Run.lenS rfl zf) ?_
 refine qE (Run.bin rfl rfl (Bin.mul_i64 8 _ jo)) ?_
 refine qM ?_
 refine qE (Run.nilck rfl) ?_
 refine qE (Run.fieldAddr rfl zcb rfl zc jd) ?_
 refine qE (Run.load rfl zg (hb.cell 1)) ?_
 refine qE (Run.bin rfl rfl (Bin.sub_i64 _ _ jo jo)) ?_
 refine qA ?_
 refine qH.nil ?_
 refine jN (jv1 2 ?_)
 refine jT ?_
 refine qT rfl ?_
 exact ⟨rfl, qQ.drew _⟩
theorem oP (g p : Nat) (A : Option Addr) (bs : List Nat) (w : World) (hp : p ≤ 8 * bs.length) (hbs : bs.length ≤ 1000000000) (hR : IsR w g A bs p) :
  Calls Tryz.prog 133 #[.pointer (some ⟨g, 0, none⟩)] w fun e w' => e = .returned (.tuple #[]) ∧ IsR w' g A bs ((p + 7) / 8 * 8) ∧ Frm [g] w w' := by
 obtain ⟨c, hb, ho⟩ := hR
 refine VC.calls (nt := 12) (res := #[]) Tryz.func133 rfl Tryz.ntmps133 Tryz.results133 rfl ?_
 refine jR (jm rfl (jm rfl (je (Run.nilck rfl) (jf rfl zcb rfl zc (jl rfl zg (hb.cell 1) (jb rfl rfl (Bin.add_i64 _ 7 jo) (jb rfl rfl (Bin.quo_i64 _ 8 jo jo) (jb rfl rfl (Bin.mul_i64 _ 8 jo) (je (Run.nilck rfl) (jf rfl zcb rfl zc ?_))))))))))
 refine Ops.st (qR.store rfl rfl zc hb rfl rfl) ?_
 rintro w1 ⟨hb1, hfr1, hsz1⟩
 refine jO ?_
 refine eM ?_
 refine ⟨rfl, ⟨c, hb1, ho.frm hfr1 ?_⟩, hfr1⟩
 intro x hx hx2
 simp at hx2
 subst hx2
 exact ho.ne_blk hb jd hx
theorem qRh (g : Nat) (n : Int) (w : World) (hn : n < 0) :
  Calls Tryz.prog 131 #[.pointer (some ⟨g, 0, none⟩), .int .i64 n] w fun e w' => e = .returned (.tuple #[.int .u64 ((0 : Nat) : Int), .int .i64 ((1 : Nat) : Int)]) ∧ w = w' := by
 refine VC.calls (nt := 56) (res := #[.tmp 4, .tmp 5]) Tryz.func131 rfl Tryz.ntmps131 Tryz.results131 rfl ?_
 refine jS (jR ?_)
 refine jy .u64 0 ?_
 refine jz 0 (jO (jN (jv2 0 1 ?_)))
 refine jS (jB (jS (jR (jm rfl (jb rfl rfl (Bin.lss _ 0) (jM ?_))))))
 refine Ops.sk rfl (by simpa using hn) rfl ?_
 refine Ops.sk rfl (by simpa using hn) rfl ?_
 refine je (Run.pickT rfl rfl (decide_eq_true hn)) (ja rfl (jO (jN (jv3 0 1 8 ?_))))
 refine VC.condT rfl (rfl) ?_
 refine jS (jR ?_)
 refine jy .u64 0 ?_
 refine jz 1 (jO (jN (jv2 4 5 ?_)))
 refine jT ?_
 refine qO (qP (cY rfl rfl ?_))
 exact ⟨rfl, rfl⟩
theorem qRi (g : Nat) (n : Int) (w : World) (hn : 32 < n) :
  Calls Tryz.prog 131 #[.pointer (some ⟨g, 0, none⟩), .int .i64 n] w fun e w' => e = .returned (.tuple #[.int .u64 ((0 : Nat) : Int), .int .i64 ((1 : Nat) : Int)]) ∧ w = w' := by
 refine VC.calls (nt := 56) (res := #[.tmp 4, .tmp 5]) Tryz.func131 rfl Tryz.ntmps131 Tryz.results131 rfl ?_
 refine jS (jR ?_)
 refine jy .u64 0 ?_
 refine jz 0 (jO (jN (jv2 0 1 ?_)))
 refine jS (jB (jS (jR (jm rfl (jb rfl rfl (Bin.lss _ 0) (jM ?_))))))
 refine Ops.rg rfl (decide_eq_false jo) (Run.mv rfl) rfl ?_
 refine Ops.rg rfl (decide_eq_false jo) (Run.bin rfl rfl (Bin.gtr _ 32)) rfl ?_
 refine je (Run.pickF rfl rfl (decide_eq_false jo)) (ja rfl (jO (jN (jv3 0 1 8 ?_))))
 refine VC.condT rfl (decide_eq_true hn) ?_
 refine jS (jR ?_)
 refine jy .u64 0 ?_
 refine jz 1 (jO (jN (jv2 4 5 ?_)))
 refine jT ?_
 refine qO (qP (cY rfl rfl ?_))
 exact ⟨rfl, rfl⟩
theorem qGd (g n p : Nat) (A : Option Addr) (bs : List Nat) (w : World) (hp : p ≤ 8 * bs.length) (hbs : bs.length ≤ 1000000000) (hR : IsR w g A bs p) (hn : n ≤ 32) (hs : 8 * bs.length - p < n) :
  Calls Tryz.prog 131 #[.pointer (some ⟨g, 0, none⟩), .int .i64 n] w fun e w' => e = .returned (.tuple #[.int .u64 ((0 : Nat) : Int), .int .i64 ((2 : Nat) : Int)]) ∧ qQ w w' := by
 refine VC.calls (nt := 56) (res := #[.tmp 4, .tmp 5]) Tryz.func131 rfl Tryz.ntmps131 Tryz.results131 rfl ?_
 refine jS (jR ?_)
 refine jy .u64 0 ?_
 refine jz 0 (jO (jN (jv2 0 1 ?_)))
 refine jS (jB (jS (jR (jm rfl (jb rfl rfl (Bin.lssN _ 0) (jM ?_))))))
 refine Ops.rg rfl (decide_eq_false jo) (Run.mv rfl) rfl ?_
 refine Ops.rg rfl (decide_eq_false jo) (Run.bin rfl rfl (Bin.gtrN _ 32)) rfl ?_
 refine je (Run.pickF rfl rfl (decide_eq_false jo)) (ja rfl (jO (jN (jv3 0 1 8 ?_))))
 refine VC.condF rfl (decide_eq_false jo) ?_
 refine jS (jR (jm rfl (jM ?_)))
 refine Ops.cl (jE1 Tryz.call143) (rK g p A bs _ hp hbs hR) rfl ?_
 rintro e w1 ⟨rfl, hd1⟩
 refine ⟨_, rfl, ?_⟩
 refine jb rfl rfl (Bin.gtrN _ _) (ja rfl (jO (jN (jv3 0 1 15 ?_))))
 refine VC.condT rfl (decide_eq_true hs) ?_
 refine jS (jR ?_)
 refine jy .u64 0 ?_
 refine jz 2 (jO (jN (jv2 4 5 ?_)))
 refine jT ?_
 refine qO (qP (cY rfl rfl ?_))
 exact ⟨rfl, hd1⟩
theorem qTy (g n p : Nat) (A : Option Addr) (bs : List Nat) (w : World) (hp : p ≤ 8 * bs.length) (hbs : bs.length ≤ 1000000000) (hB : ∀ b ∈ bs, b < 256) (hR : IsR w g A bs p) (hn : n ≤ 32) (hs : n ≤ 8 * bs.length - p) :
  Calls Tryz.prog 131 #[.pointer (some ⟨g, 0, none⟩), .int .i64 n] w fun e w' => e = .returned (.tuple #[.int .u64 ((num (((ofB bs).drop p).take n) : Nat) : Int), .int .i64 ((0 : Nat) : Int)]) ∧ IsR w' g A bs (p + n) ∧ Frm [g] w w' := by
 refine VC.calls (nt := 56) (res := #[.tmp 4, .tmp 5]) Tryz.func131 rfl Tryz.ntmps131 Tryz.results131 rfl ?_
 refine jS (jR ?_)
 refine jy .u64 0 ?_
 refine jz 0 (jO (jN (jv2 0 1 ?_)))
 refine jS (jB (jS (jR (jm rfl (jb rfl rfl (Bin.lssN _ 0) (jM ?_))))))
 refine Ops.rg rfl (decide_eq_false jo) (Run.mv rfl) rfl ?_
 refine Ops.rg rfl (decide_eq_false jo) (Run.bin rfl rfl (Bin.gtrN _ 32)) rfl ?_
 refine je (Run.pickF rfl rfl (decide_eq_false jo)) (ja rfl (jO (jN (jv3 0 1 8 ?_))))
 refine VC.condF rfl (decide_eq_false jo) ?_
 refine jS (jR (jm rfl (jM ?_)))
 refine Ops.cl (jE1 Tryz.call143) (rK g p A bs _ hp hbs hR) rfl ?_
 rintro e w1 ⟨rfl, hd1⟩
 refine ⟨_, rfl, ?_⟩
 refine jb rfl rfl (Bin.gtrN _ _) (ja rfl (jO (jN (jv3 0 1 15 ?_))))
 refine VC.condF rfl (decide_eq_false jo) ?_
 refine jQ ?_
 refine qJ (jN ?_)
 refine jv2 0 1 ?_
 refine jS (jR ?_)
 refine jy .u64 0 ?_
 refine jO (jN (jS (jS (jR (jM ?_)))))
 refine jx .i64 0 ?_
 refine jO (jN (jv4 0 6 20 21 ?_))
 refine jB ?_
 refine VC.loop (σ := Nat) (fun s => [(0, .pointer (some ⟨g, 0, none⟩)), (6, .int .u64 ((num (((ofB bs).drop p).take s) : Nat) : Int)), (20, .int .i64 n), (21, .int .i64 s)]) (fun s wr => s ≤ n ∧ IsR wr g A bs (p + s) ∧ Frm [g] w wr) (fun s => n - s) 0 (js4 rfl rfl rfl rfl) ⟨jo, hR.frm hd1.frm jp, hd1.frm.mono jp⟩ ?_
 rintro k wr ⟨hk, hR1, hfr1⟩
 obtain ⟨c, hb, ho⟩ := hR1
 refine jS (jR (jb rfl rfl (Bin.lssN _ _) (jO (jN (jS ?_)))))
 refine jD rfl (fun hc3 => ?_) fun hc3 => ?_
 ·
  obtain ⟨ad, rfl, hadlt, hadc⟩ := ho.rd.2 jo
  have hcell := hadc _ _ (mS bs ((p + k) / 8) jo)
  have hbl : bs.getD ((p + k) / 8) 0 < 256 := by
   rw [ze, zb jo]
   exact hB _ (zt _)
  have hpk : 2 ^ k ≤ 2 ^ 32 := zz jo jo
  have hbit := qTt bs (p + k) jo
  have hnk := sG (((ofB bs).drop p).take k)
  have hnl : (((ofB bs).drop p).take k).length = k := by rw [zi, zr, bL]; omega
  rw [hnl] at hnk
  have hsn := qJl (ofB bs) p k _ hbit
  rw [← qJ2 _ _ _ hnk] at hsn
  have h1m := and1 (bs.getD ((p + k) / 8) 0 / 2 ^ ((p + k) % 8))
  have hdl : bs.getD ((p + k) / 8) 0 / 2 ^ ((p + k) % 8) ≤ 255 := zn (zcq _ _) jo
  have h1l : bs.getD ((p + k) / 8) 0 / 2 ^ ((p + k) % 8) &&& 1 ≤ 1 := zfe
  have h2l : (bs.getD ((p + k) / 8) 0 / 2 ^ ((p + k) % 8) &&& 1) * 2 ^ k ≤ 1 * 2 ^ k := zdg _ h1l
  refine jQ (jN (jv4 0 6 20 21 ?_))
  refine jS (jB (jS (jR (jm rfl (ja rfl (jO (jN (jv5 0 6 7 20 21 ?_))))))))
  refine jS ?_
  refine VC.still jK jK ?_
  refine qM ?_
  refine qM ?_
  refine qE (Run.nilck rfl) ?_
  refine qE (Run.fieldAddr rfl zcb rfl zo jd) ?_
  refine qE (Run.load rfl zx (hb.cell 0)) ?_
  refine qM ?_
  refine qE (Run.nilck rfl) ?_
  refine qE (Run.fieldAddr rfl zcb rfl zc jd) ?_
  refine qE (Run.load rfl zg (hb.cell 1)) ?_
  refine qE (Run.bin rfl rfl (Bin.quo_i64 _ 8 jo jo)) ?_
  refine qE (Run.index1 _ rfl rfl zf zad jo) ?_
  refine qE (Run.load rfl zdr hcell) ?_
  refine qM ?_
  refine qE (Run.nilck rfl) ?_
  refine qE (Run.fieldAddr rfl zcb rfl zc jd) ?_
  refine qE (Run.load rfl zg (hb.cell 1)) ?_
  refine qE (Run.bin rfl rfl (Bin.remN _ 8 jo)) ?_
  refine qE (Run.bin rfl rfl (Bin.shr_u8 _ _ jo)) ?_
  refine qE (Run.bin rfl rfl (Bin.and_u8 _ 1 hdl jo)) ?_
  refine qE (Run.convN _ rfl zat zv (by simp only [bmax]; omega)) ?_
  refine qM ?_
  refine qE (Run.bin rfl rfl (Bin.shl_u64 _ _ jo jo)) ?_
  refine qE (Run.bin rfl rfl (Bin.or_u64 _ _ jo jo)) ?_
  refine qA ?_
  refine qH.nil ?_
  refine jN (jv4 0 6 20 21 ?_)
  refine jR (jm rfl (je (Run.nilck rfl) (jf rfl zcb rfl zc (jl rfl zg ((hb.drawn (qQ.drew _)).cell 1) (jb rfl rfl (Bin.add_i64 _ 1 jo) (je (Run.nilck rfl) (jf rfl zcb rfl zc ?_)))))))
  refine Ops.st (qR.store rfl rfl zc (hb.drawn (qQ.drew _)) rfl rfl) ?_
  rintro w2 ⟨hb2, hfr2, hsz2⟩
  refine jO ?_
  refine qJ (jN ?_)
  refine jv4 0 6 20 21 ?_
  refine jR (jb rfl rfl (Bin.add_i64 _ 1 jo) (jm rfl (jO ?_)))
  refine jN ⟨(k + 1), (js4 rfl (by rw [hsn, ← h1m]; rfl) rfl rfl), ?_, ?_⟩
  ·
   refine ⟨hc3, ⟨c, hb2, (ho.drawn (qQ.drew _)).frm hfr2 ?_⟩, (hfr1.drawn (qQ.drew _)).trans hfr2 (fun x hx => .inl hx)⟩
   intro x hx hx2
   simp at hx2
   subst hx2
   exact ho.ne_blk hb jd hx
  first | omega | (dsimp only; omega)
 refine jX ?_
 refine qZ (qZ (qW ?_))
 refine jN (jv1 6 ?_)
 refine jS (jR (jm rfl (ja rfl (jz 0 (jO (jN (jv2 4 5 ?_)))))))
 refine jT ?_
 refine cY rfl rfl ?_
 have : k = n := jo
 subst this
 exact ⟨rfl, ⟨c, hb, ho⟩, hfr1⟩
theorem qGe (g : Nat) (n : Int) (p : Nat) (A : Option Addr) (bs : List Nat) (w : World) (hp : p ≤ 8 * bs.length) (hbs : bs.length ≤ 1000000000) (hR : IsR w g A bs p) (hn : n < 0) :
  Calls Tryz.prog 134 #[.pointer (some ⟨g, 0, none⟩), .int .i64 n] w fun e w' => e = .returned (.tuple #[.slice none 0 0, .int .i64 ((1 : Nat) : Int)]) ∧ IsR w' g A bs ((p + 7) / 8 * 8) ∧ Frm [g] w w' := by
 refine VC.calls (nt := 42) (res := #[.tmp 4, .tmp 5]) Tryz.func134 rfl Tryz.ntmps134 Tryz.results134 rfl ?_
 refine jS (jR (ja rfl (jz 0 (jO (jN (jv2 0 1 ?_))))))
 refine jS (jR (jM ?_))
 refine Ops.cl (jE1 Tryz.call133) (oP g p A bs _ hp hbs hR) rfl ?_
 rintro e w1 ⟨rfl, hR1, hfr1⟩
 refine ⟨_, rfl, ?_⟩
 have hq : (p + 7) / 8 * 8 ≤ 8 * bs.length := jo
 refine jO (jN (jv2 0 1 ?_))
 refine jS (jB (jS (jR (jm rfl (jb rfl rfl (Bin.lss _ 0) (ja rfl (jO (jN (jv3 0 1 9 ?_)))))))))
 refine VC.condT rfl (decide_eq_true hn) ?_
 refine jS (jR (ja rfl (jz 1 (jO (jN (jv2 4 5 ?_))))))
 refine jT ?_
 refine qO (qP (cY rfl rfl ?_))
 exact ⟨rfl, hR1, hfr1⟩
theorem qJ7 (g n : Nat) (p : Nat) (A : Option Addr) (bs : List Nat) (w : World) (hp : p ≤ 8 * bs.length) (hbs : bs.length ≤ 1000000000) (hR : IsR w g A bs p) (hn : (8 * bs.length - (p + 7) / 8 * 8) / 8 < n) :
  Calls Tryz.prog 134 #[.pointer (some ⟨g, 0, none⟩), .int .i64 n] w fun e w' => e = .returned (.tuple #[.slice none 0 0, .int .i64 ((2 : Nat) : Int)]) ∧ IsR w' g A bs ((p + 7) / 8 * 8) ∧ Frm [g] w w' := by
 refine VC.calls (nt := 42) (res := #[.tmp 4, .tmp 5]) Tryz.func134 rfl Tryz.ntmps134 Tryz.results134 rfl ?_
 refine jS (jR (ja rfl (jz 0 (jO (jN (jv2 0 1 ?_))))))
 refine jS (jR (jM ?_))
 refine Ops.cl (jE1 Tryz.call133) (oP g p A bs _ hp hbs hR) rfl ?_
 rintro e w1 ⟨rfl, hR1, hfr1⟩
 refine ⟨_, rfl, ?_⟩
 have hq : (p + 7) / 8 * 8 ≤ 8 * bs.length := jo
 refine jO (jN (jv2 0 1 ?_))
 refine jS (jB (jS (jR (jm rfl (jb rfl rfl (Bin.lssN _ 0) (ja rfl (jO (jN (jv3 0 1 9 ?_)))))))))
 refine VC.condF rfl (decide_eq_false jo) ?_
 refine jS (jR (jm rfl (jM ?_)))
 refine Ops.cl (jE1 Tryz.call143) (rK g ((p + 7) / 8 * 8) A bs _ hq hbs hR1) rfl ?_
 rintro e w2 ⟨rfl, hd2⟩
 refine ⟨_, rfl, ?_⟩
 refine jb rfl rfl (Bin.quo_i64 _ 8 jo jo) (jb rfl rfl (Bin.gtrN _ _) (ja rfl (jO (jN (jv3 0 1 12 ?_)))))
 refine VC.condT rfl (decide_eq_true hn) ?_
 refine jS (jR (ja rfl (jz 2 (jO (jN (jv2 4 5 ?_))))))
 refine jT ?_
 refine qO (qP (cY rfl rfl ?_))
 exact ⟨rfl, hR1.frm hd2.frm jp, hfr1.drawn hd2⟩
theorem qMg (g n : Nat) (p : Nat) (A : Option Addr) (bs : List Nat) (w : World) (hp : p ≤ 8 * bs.length) (hbs : bs.length ≤ 1000000000) (hR : IsR w g A bs p) (hn : n ≤ (8 * bs.length - (p + 7) / 8 * 8) / 8) :
  Calls Tryz.prog 134 #[.pointer (some ⟨g, 0, none⟩), .int .i64 n] w fun e w' => ∃ B c, e = .returned (.tuple #[.slice B n c, .int .i64 ((0 : Nat) : Int)]) ∧ Own w' 5 1 B n c (NB ((bs.drop ((p + 7) / 8)).take n)) ∧ IsR w' g A bs ((p + 7) / 8 * 8 + 8 * n) ∧ Frm [g] w w' ∧ ∀ x ∈ ob B, w.heap.size ≤ x := by
 refine VC.calls (nt := 42) (res := #[.tmp 4, .tmp 5]) Tryz.func134 rfl Tryz.ntmps134 Tryz.results134 rfl ?_
 refine jS (jR (ja rfl (jz 0 (jO (jN (jv2 0 1 ?_))))))
 refine jS (jR (jM ?_))
 refine Ops.cl (jE1 Tryz.call133) (oP g p A bs _ hp hbs hR) rfl ?_
 rintro e w1 ⟨rfl, hR1, hfr1⟩
 refine ⟨_, rfl, ?_⟩
 have hq : (p + 7) / 8 * 8 ≤ 8 * bs.length := jo
 refine jO (jN (jv2 0 1 ?_))
 refine jS (jB (jS (jR (jm rfl (jb rfl rfl (Bin.lssN _ 0) (ja rfl (jO (jN (jv3 0 1 9 ?_)))))))))
 refine VC.condF rfl (decide_eq_false jo) ?_
 refine jS (jR (jm rfl (jM ?_)))
 refine Ops.cl (jE1 Tryz.call143) (rK g ((p + 7) / 8 * 8) A bs _ hq hbs hR1) rfl ?_
 rintro e w2 ⟨rfl, hd2⟩
 refine ⟨_, rfl, ?_⟩
 obtain ⟨c, hb, ho⟩ := hR1.frm hd2.frm jp
 refine jb rfl rfl (Bin.quo_i64 _ 8 jo jo) (jb rfl rfl (Bin.gtrN _ _) (ja rfl (jO (jN (jv3 0 1 12 ?_)))))
 refine VC.condF rfl (decide_eq_false jo) ?_
 refine jQ ?_
 refine qJ (jN ?_)
 refine jv2 0 1 ?_
 refine jS (jR (jm rfl (je (Run.nilck rfl) (jf rfl zcb rfl zc (jl rfl zg (hb.cell 1) (jb rfl rfl (Bin.quo_i64 _ 8 jo jo) (ja rfl (jO (jN (jv3 0 1 6 ?_))))))))))
 refine jS (jR (jm rfl (je (Run.nilck rfl) (jf rfl zcb rfl zc (jl rfl zg (hb.cell 1) (jm rfl (jb rfl rfl (Bin.mul_i64 8 _ jo) (jb rfl rfl (Bin.add_i64 _ _ jo) (je (Run.nilck rfl) (jf rfl zcb rfl zc ?_))))))))))
 refine Ops.st (qR.store rfl rfl zc hb rfl rfl) ?_
 rintro w3 ⟨hb3, hfr3, hsz3⟩
 have hne : ∀ x ∈ ob A, x ∉ [g] := by
  intro x hx hx2
  simp at hx2
  subst hx2
  exact ho.ne_blk hb jd hx
 have ho3 := ho.frm hfr3 hne
 have hcap := ho3.le
 refine jO (jN (jv3 0 1 6 ?_))
 refine jS (jR (jm rfl (je (Run.nilck rfl) (jf rfl zcb rfl zo (jl rfl zx (hb3.cell 0) (jm rfl (jm rfl (jm rfl (jb rfl rfl (Bin.add_i64 _ _ jo) (je (Run.sliceS _ _ rfl zf zad (evB.some_ rfl) (evB.some_ rfl) jo jo) ?_))))))))))
 refine Ops.m (qV.app rfl rfl zf (eA) rfl jd (Own.nil _ _ _) (ho3.rd.cut (cap := c) (l := (p + 7) / 8 * 8 / 8) (r := (p + 7) / 8 * 8 / 8 + n) jo jo hcap) (fun u hu => eP bs u (zch (zaf hu))) jo jo) rfl ?_
 rintro _ w4 ⟨A4, c4, rfl, ho4, hfr4, hob4⟩
 refine ja rfl (jz 0 (jO (jN (jv2 4 5 ?_))))
 refine jT ?_
 refine cY rfl rfl ?_
 have e1 : (p + 7) / 8 * 8 / 8 = (p + 7) / 8 := jo
 have e2 : 0 + ((p + 7) / 8 * 8 / 8 + n - (p + 7) / 8 * 8 / 8) = n := jo
 have e3 : [] ++ List.take (((p + 7) / 8 * 8 / 8 + n - (p + 7) / 8 * 8 / 8) * 1) (List.drop ((p + 7) / 8 * 8 / 8 * 1) (NB bs)) = NB ((bs.drop ((p + 7) / 8)).take n) := by
  rw [zbf, zdq, zdq, e1, zds]
  simp [NB, zdf, zgk]
 rw [e2, e3] at ho4
 rw [e2]
 refine ⟨A4, c4, rfl, ho4, ⟨c, hb3.frm hfr4 (by simp [ob]), ho3.frm hfr4 (by simp [ob])⟩, ?_, ?_⟩
 · exact ((hfr1.drawn hd2).trans hfr3 (fun x hx => .inl hx)).trans hfr4 (by simp [ob])
 intro x hx
 have := hfr1.size
 have := hd2.frm.size
 have := hfr3.size
 rcases hob4 with h | h <;> rw [h] at hx <;> simp [ob] at hx
 omega
end
section
def cn (l : List Int) (n : Nat) : Nat := if n = 0 then 0 else l.count (n : Int)
def fstF (c : Nat → Nat) : Nat → Nat
 | 0 => 0
 | n + 1 => (fstF c n + c n) * 2
def bC (l : List Int) : Nat → Nat := fstF (cn l)
def atL (l : List Int) : Nat → Nat
 | 0 => 0
 | n + 1 => atL l n + cn l n
def bI (l : List Int) (n m : Nat) : List Nat := if n = 0 then [] else (List.range m).filter fun i => l.getD i 0 = (n : Int)
def qXc (l : List Int) (n : Nat) : List Nat := bI l n l.length
def cR (l : List Int) (m : Nat) : List Nat := (List.range m).flatMap (qXc l)
def bG (l : List Int) : List Nat := cR l 16
def gC (l : List Int) (i : Nat) : Nat := (l.take i).count (l.getD i 0)
def bU (l : List Int) (i : Nat) : Nat := bC l (l.getD i 0).toNat + gC l i
theorem zB {c d : Nat → Nat} : ∀ n, (∀ m, m < n → c m = d m) → fstF c n = fstF d n
 | 0, _ => rfl
 | n + 1, h => by
  rw [fstF, fstF, zB n (fun m hm => h m jo), h n jo]
theorem qW7 (c : Nat → Nat) (b : Nat) (h : ∀ m, c m ≤ b) : ∀ n, fstF c n + 2 * b ≤ 2 * b * 2 ^ n
 | 0 => by simp [fstF]
 | n + 1 => by
  have ih := qW7 c b h n
  have hc := h n
  rw [fstF, zbo, ← zdm]
  omega
theorem uC (l : List Int) : ∀ n, atL l n ≤ l.length := by
 have key : ∀ n, atL l n = l.countP fun x => decide (1 ≤ x ∧ x < (n : Int)) := by
  intro n
  induction n with
  | zero => rw [atL]; symm; rw [List.countP_eq_zero]; intro x _; simp; omega
  | succ n ih =>
   rw [atL, ih, cn]
   split
   ·
    rename_i h
    subst h
    rw [zdu]
    apply List.countP_congr
    intro x _
    simp
    omega
   rename_i h
   clear ih
   induction l with
   | nil => rfl
   | cons a r ih =>
    rw [List.countP_cons, List.countP_cons, zhs]
    by_cases h1 : a = (n : Int)
    ·
     subst h1
     have h2 : (1 ≤ (n : Int) ∧ (n : Int) < (n : Int) + 1) := jo
     simp [h2] at ih ⊢
     omega
    have e : (decide (1 ≤ a ∧ a < ((n + 1 : Nat) : Int))) = decide (1 ≤ a ∧ a < (n : Int)) := by
     rw [decide_eq_decide]; omega
    have e2 : (a == (n : Int)) = false := by simp [h1]
    rw [e, e2]
    simp at ih ⊢
    omega
 intro n
 rw [key n]
 exact List.countP_le_length
theorem qX8 (l : List Int) : ∀ n, bC l n + cn l n ≤ atL l (n + 1) * 2 ^ n
 | 0 => by simp [bC, fstF, atL]
 | n + 1 => by
  have ih := qX8 l n
  have e : bC l (n + 1) = (bC l n + cn l n) * 2 := rfl
  have e2 : atL l (n + 1 + 1) = atL l (n + 1) + cn l (n + 1) := rfl
  have h3 : (atL l (n + 1) + cn l (n + 1)) * (2 ^ n * 2) = atL l (n + 1) * (2 ^ n * 2) + cn l (n + 1) * (2 ^ n * 2) := zgr _ _ _
  rw [e, e2, zbo, h3]
  have h1 : cn l (n + 1) ≤ cn l (n + 1) * (2 ^ n * 2) := Nat.le_mul_of_pos_right _ (by have := zft n; omega)
  have h2 : atL l (n + 1) * (2 ^ n * 2) = atL l (n + 1) * 2 ^ n * 2 := by rw [zdm]
  omega
theorem nL (l : List Int) (n : Nat) (hn : n ≠ 0) : ∀ m, m ≤ l.length → (bI l n m).length = (l.take m).count (n : Int)
 | 0, _ => by simp [bI]
 | m + 1, h => by
  have ih := nL l n hn m jo
  unfold bI at ih ⊢
  rw [if_neg hn] at ih ⊢
  rw [zex, zff, za, ih, zah, zb jo, zaz]
  congr 1
  by_cases h1 : l[m] = (n : Int)
  · simp [List.getD, zb (jo : m < l.length), h1]
  simp [List.getD, zb (jo : m < l.length), h1, List.count_singleton]
theorem uD (l : List Int) (n : Nat) : ∀ m k i, m ≤ l.length → (bI l n m)[k]? = some i → i < m ∧ l.getD i 0 = (n : Int) ∧ gC l i = k ∧ n ≠ 0
 | 0, k, i, _, h => by simp [bI] at h
 | m + 1, k, i, hm, h => by
  by_cases hn : n = 0
  · simp [bI, hn] at h
  have hlen := nL l n hn m jo
  have ih := uD l n m k i jo
  have e : bI l n (m + 1) = bI l n m ++ if l.getD m 0 = (n : Int) then [m] else [] := by
   unfold bI
   rw [if_neg hn, if_neg hn, zex, zff]
   congr 1
   by_cases h1 : l.getD m 0 = (n : Int)
   · rw [if_pos h1, zgi (by simpa using h1)]; rfl
   rw [if_neg h1, zgj (by simpa using h1)]; rfl
  rw [e] at h
  by_cases hk : k < (bI l n m).length
  ·
   rw [zaj hk] at h
   obtain ⟨h1, h2⟩ := ih h
   exact ⟨jo, h2⟩
  rw [zan jo] at h
  split at h
  ·
   rename_i h1
   have hk0 : k - (bI l n m).length = 0 := by
    rcases zda (k - (bI l n m).length) with h | h'
    · exact h
    rw [zu (by simp; omega)] at h; cases h
   rw [hk0] at h
   simp at h
   subst h
   refine ⟨jo, h1, ?_, hn⟩
   unfold gC
   rw [h1, ← hlen]
   omega
  simp at h
theorem yK (l : List Int) (n : Nat) : (qXc l n).length = cn l n := by
 unfold qXc cn
 split
 · rename_i h; simp [bI, h]
 rename_i h; rw [nL l n h _ (zk _), zas]
theorem mT (l : List Int) (m : Nat) : cR l (m + 1) = cR l m ++ qXc l m := by simp [cR, zex]
theorem fE (l : List Int) : ∀ m, (cR l m).length = atL l m
 | 0 => rfl
 | m + 1 => by rw [mT, za, fE l m, yK, atL]
theorem mJ (l : List Int) : ∀ m t i, (cR l m)[t]? = some i → ∃ n, 1 ≤ n ∧ n < m ∧ i < l.length ∧ l.getD i 0 = (n : Int) ∧ t = atL l n + gC l i ∧ gC l i < cn l n
 | 0, t, i, h => by simp [cR] at h
 | m + 1, t, i, h => by
  rw [mT] at h
  by_cases ht : t < (cR l m).length
  ·
   rw [zaj ht] at h
   obtain ⟨n, h1, h2, h3⟩ := mJ l m t i h
   exact ⟨n, h1, jo, h3⟩
  rw [zan jo, fE] at h
  obtain ⟨h1, h2, h3, h4⟩ := uD l m _ _ _ (zk _) h
  have h5 := (List.getElem?_eq_some_iff.1 h).1
  rw [yK] at h5
  rw [fE] at ht
  exact ⟨m, jo, jo, h1, h2, jo, jo⟩
theorem pV (l : List Int) {a b : Nat} (h : a ≤ b) : atL l a ≤ atL l b := by
 induction b with
 | zero =>
  have : a = 0 := jo
  subst this
  exact zk _
 | succ b ih =>
  by_cases hab : a = b + 1
  · subst hab; exact zk _
  have := ih jo
  rw [atL]
  omega
theorem yV (l : List Int) (n k : Nat) (hk : k < cn l n) : ∀ m, n < m → ∃ i, (cR l m)[atL l n + k]? = some i ∧ i < l.length ∧ l.getD i 0 = (n : Int) ∧ gC l i = k
 | 0, h => jo
 | m + 1, h => by
  have hlen := fE l m
  rw [mT]
  by_cases hm : n < m
  ·
   obtain ⟨i, h1, h2⟩ := yV l n k hk m hm
   refine ⟨i, ?_, h2⟩
   rw [zaj (List.getElem?_eq_some_iff.1 h1).1]
   exact h1
  have : n = m := jo
  subst this
  have hk2 : k < (qXc l n).length := by rw [yK]; exact hk
  rw [zan jo, hlen, zds, zb hk2]
  have h3 := zb hk2
  obtain ⟨h4, h5, h6, _⟩ := uD l n _ _ _ (zk _) h3
  exact ⟨_, rfl, h4, h5, h6⟩
theorem yW (l : List Int) (n : Nat) : ∀ d, atL l (n + 1 + d) = atL l (n + 1) → bC l (n + 1 + d) = bC l (n + 1) * 2 ^ d
 | 0, _ => jp
 | d + 1, h => by
  have h1 : atL l (n + 1 + d) ≤ atL l (n + 1 + (d + 1)) := pV l jo
  have h2 : atL l (n + 1) ≤ atL l (n + 1 + d) := pV l jo
  have h3 := yW l n d jo
  have e : atL l (n + 1 + (d + 1)) = atL l (n + 1 + d) + cn l (n + 1 + d) := rfl
  have e2 : bC l (n + 1 + (d + 1)) = (bC l (n + 1 + d) + cn l (n + 1 + d)) * 2 := rfl
  have h4 : cn l (n + 1 + d) = 0 := jo
  rw [e2, h4, h3, zbo, zdu, zdm]
theorem qMh (l : List Int) (m t i j n n' : Nat) (h1 : (cR l m)[t]? = some i) (h2 : (cR l m)[t + 1]? = some j) (hn : l.getD i 0 = (n : Int)) (hn' : l.getD j 0 = (n' : Int)) :
  n ≤ n' ∧ bU l j = (bU l i + 1) * 2 ^ (n' - n) := by
 obtain ⟨a, ha1, ha2, _, ha3, ha4, ha5⟩ := mJ l m t i h1
 obtain ⟨b, hb1, hb2, _, hb3, hb4, hb5⟩ := mJ l m _ j h2
 have : a = n := jo
 subst this
 have : b = n' := jo
 subst this
 have hle : a ≤ b := by
  rcases zha b a with h | h
  ·
   have := pV l (jo : b + 1 ≤ a)
   have e : atL l (b + 1) = atL l b + cn l b := rfl
   omega
  exact h
 refine ⟨hle, ?_⟩
 unfold bU
 rw [ha3, hb3, zac, zac]
 by_cases hab : a = b
 ·
  subst hab
  rw [zgb, zhw]
  omega
 have e : atL l (a + 1) = atL l a + cn l a := rfl
 have hm := pV l (jo : a + 1 ≤ b)
 have h3 : gC l i + 1 = cn l a := jo
 have h4 : gC l j = 0 := jo
 obtain ⟨d, rfl⟩ : ∃ d, b = a + 1 + d := ⟨b - (a + 1), jo⟩
 have hj := yW l a d jo
 have e2 : bC l (a + 1) = (bC l a + cn l a) * 2 := rfl
 rw [hj, h4, e2, ← h3, show a + 1 + d - a = d + 1 by omega, zbo, zdu, zdm, zcw 2, ← zek]
theorem qGf (l : List Int) (m j : Nat) (h : (cR l m)[0]? = some j) : bU l j = 0 := by
 obtain ⟨b, hb1, hb2, _, hb3, hb4, hb5⟩ := mJ l m _ j h
 unfold bU
 rw [hb3, zac]
 obtain ⟨d, rfl⟩ : ∃ d, b = 0 + 1 + d := ⟨b - 1, jo⟩
 have h0 : atL l (0 + 1) = 0 := by simp [atL, cn]
 have := yW l 0 d jo
 rw [this]
 simp [bC, fstF, cn]
 omega
theorem uE (l : List Int) (hl : l.length ≤ 320) (n : Nat) (hn : n ≤ 15) : bC l n + cn l n ≤ 10485760 := by
 have h1 := qX8 l n
 have h2 := uC l (n + 1)
 have h3 : 2 ^ n ≤ 2 ^ 15 := zz jo hn
 have h4 : atL l (n + 1) * 2 ^ n ≤ 320 * 2 ^ 15 := zfl jo h3
 omega
def cA (l : List Int) (i : Nat) : Nat × Int := if l.getD i 0 = 0 then (0, 0) else (bU l i, l.getD i 0)
def cW (l : List Int) : List (Nat × Int) := (List.range l.length).map (cA l)
def eR (l : List Int) (i : Nat) : List (Nat × Int) := (List.range l.length).map fun j => if j < i then cA l j else (0, 0)
theorem qGg (l : List Int) (i : Nat) : (eR l i).set i (cA l i) = eR l (i + 1) := by
 apply zao
 intro j
 unfold eR
 simp only [zew, zl, zfi, zbd]
 by_cases h : i = j
 ·
  subst h
  by_cases h2 : i < l.length
  · simp [h2]
  simp [h2]
 by_cases h2 : j < l.length
 ·
  by_cases h3 : j < i
  · simp [h, h2, h3, show j < i + 1 by omega]
  simp [h, h2, h3, show ¬ j < i + 1 by omega]
 simp [h, h2]
theorem qWc (l : List Int) (i : Nat) (h : l.getD i 0 = 0) : eR l (i + 1) = eR l i := by
 unfold eR
 apply zde
 intro j _
 by_cases h1 : j < i
 · simp [h1, show j < i + 1 by omega]
 by_cases h2 : j = i
 ·
  subst h2
  simp only [Nat.lt_succ_self, if_true, Nat.lt_irrefl, if_false]
  unfold cA
  rw [if_pos h]
 simp [h1, show ¬ j < i + 1 by omega]
theorem qGh (l : List Int) : eR l l.length = cW l := by
 unfold eR cW
 apply zde
 intro j hj
 simp at hj
 simp [hj]
def hit (l : List Int) (n v : Nat) : Option Nat := if bC l n ≤ v ∧ v - bC l n < cn l n then some ((bG l).getD (atL l n + (v - bC l n)) 0) else none
def tk (l : List Int) (L : List Bool) : Nat → Nat → Nat → Nat → Nat × Nat × Nat
 | 0, _, _, p => (0, p, 11)
 | m + 1, n, v, p => match L[p]? with
  | none => (0, p, 2)
  | some b => match hit l n (2 * v + b.toNat) with
   | some i => (i, p + 1, 0)
   | none => tk l L m (n + 1) (2 * v + b.toNat) (p + 1)
theorem qW8 (l : List Int) (i j : Nat) (hij : i < j) (hj : j < l.length) (h : l.getD i 0 = l.getD j 0) : gC l i < gC l j := by
 unfold gC
 rw [← h]
 have h1 : l.take (i + 1) = l.take i ++ [l.getD i 0] := by
  rw [zah, zb jo]
  simp [List.getD, zb (jo : i < l.length)]
 have h2 : (l.take (i + 1)).count (l.getD i 0) ≤ (l.take j).count (l.getD i 0) := by
  have : l.take (i + 1) = (l.take j).take (i + 1) := by rw [zhc, zal jo]
  rw [this]
  exact (zgw _ _).count_le _
 rw [h1, zaz] at h2
 simp at h2 ⊢
 omega
theorem tX (l : List Int) (i n : Nat) (hi : i < l.length) (hn : n ≠ 0) (h : l.getD i 0 = (n : Int)) : gC l i < cn l n := by
 unfold gC cn
 rw [if_neg hn, h]
 have h1 : l.take (i + 1) = l.take i ++ [l.getD i 0] := by
  rw [zah, zb jo]
  simp [List.getD, zb (jo : i < l.length)]
 have h2 : (l.take (i + 1)).count (n : Int) ≤ l.count (n : Int) := (zgw _ _).count_le _
 rw [h1, zaz, h] at h2
 simp at h2 ⊢
 omega
theorem qW9 (l : List Int) (n v i : Nat) (hn1 : 1 ≤ n) (hn15 : n ≤ 15) : hit l n v = some i ↔ i < l.length ∧ cA l i = (v, (n : Int)) := by
 unfold hit
 constructor
 ·
  intro h
  split at h
  ·
   rename_i hc
   obtain ⟨i', h1, h2, h3, h4⟩ := yV l n _ hc.2 16 jo
   simp only [bG, List.getD, h1, zba, Option.some.injEq] at h
   subst h
   refine ⟨h2, ?_⟩
   unfold cA bU
   rw [h3, if_neg jo, zac, h4]
   congr 1
   omega
  cases h
 rintro ⟨h1, h2⟩
 unfold cA at h2
 split at h2
 · simp at h2; omega
 simp only [Prod.mk.injEq] at h2
 obtain ⟨h3, h4⟩ := h2
 unfold bU at h3
 rw [h4, zac] at h3
 have h5 := tX l i n h1 jo h4
 have h6 : v - bC l n = gC l i := jo
 rw [if_pos ⟨jo, jo⟩, h6]
 obtain ⟨j, g1, g2, g3, g4⟩ := yV l n _ h5 16 jo
 simp only [bG, List.getD, g1, zba, Option.some.injEq]
 rcases zgv i j with h | h | h
 · have := qW8 l i j h g2 (by rw [h4, g3]); omega
 · exact h.symm
 have := qW8 l j i h h1 (by rw [h4, g3]); omega
def lQ (l : List Int) (t : Nat) : List (Nat × Int) := (List.range l.length).map fun j => if j ∈ (bG l).take t then cA l j else (0, 0)
theorem qGi (l : List Int) (t j : Nat) (h : (bG l)[t]? = some j) : (lQ l t).set j (cA l j) = lQ l (t + 1) := by
 apply zao
 intro i
 have hmem : ∀ x, x ∈ (bG l).take (t + 1) ↔ x ∈ (bG l).take t ∨ x = j := by
  intro x
  rw [zah, h]
  simp
 unfold lQ
 simp only [zew, zl, zfi, zbd, hmem]
 by_cases hij : j = i
 ·
  subst hij
  by_cases h2 : j < l.length <;> simp [h2]
 have hij' : ¬ i = j := fun e => hij e.symm
 by_cases h2 : i < l.length <;> simp [h2, hij, hij']
theorem qGj (l : List Int) (hg : ∀ x ∈ l, 0 ≤ x ∧ x ≤ 15) : lQ l (bG l).length = cW l := by
 unfold lQ cW
 apply zde
 intro j hj
 simp at hj
 rw [zas]
 split
 · rfl
 rename_i h
 unfold cA
 split
 · rfl
 rename_i h2
 exfalso
 apply h
 have hx := hg l[j] (zt hj)
 have hgt : l.getD j 0 = l[j] := by simp [List.getD, zb hj]
 unfold bG cR
 rw [List.mem_flatMap]
 refine ⟨l[j].toNat, by simp; omega, ?_⟩
 unfold qXc bI
 rw [if_neg jo]
 simp only [List.mem_filter, List.mem_range, decide_eq_true_eq]
 exact ⟨hj, by rw [hgt]; omega⟩
def wasL (l : List Int) (t : Nat) : Nat := if t = 0 then 0 else (l.getD ((bG l).getD (t - 1) 0) 0).toNat
def codeP (l : List Int) (t : Nat) : Nat := if t = 0 then 0 else bU l ((bG l).getD (t - 1) 0)
theorem qGk (l : List Int) (t j n : Nat) (h : (bG l)[t]? = some j) (hn : l.getD j 0 = (n : Int)) : wasL l t ≤ n ∧ (if t = 0 then 0 else codeP l t + 1) * 2 ^ (n - wasL l t) = bU l j := by
 by_cases ht : t = 0
 ·
  subst ht
  simp only [wasL, codeP, if_true]
  exact ⟨jo, by rw [zfo, qGf l 16 j h]⟩
 obtain ⟨s, rfl⟩ : ∃ s, t = s + 1 := ⟨t - 1, jo⟩
 have hs : s < (bG l).length := by have := (List.getElem?_eq_some_iff.1 h).1; omega
 have h1 := zb hs
 obtain ⟨n0, g1, g2, _, g3, _⟩ := mJ l 16 s _ h1
 obtain ⟨k1, k2⟩ := qMh l 16 s _ j n0 n h1 h g3 hn
 have e1 : (bG l).getD (s + 1 - 1) 0 = (bG l)[s] := by simp [List.getD, h1]
 unfold wasL codeP
 rw [if_neg ht, if_neg ht, if_neg ht, e1, g3, zac]
 exact ⟨k1, k2.symm⟩
theorem qMi (l : List Int) (t j : Nat) (h : (bG l)[t]? = some j) : ∃ n : Nat, 1 ≤ n ∧ n ≤ 15 ∧ j < l.length ∧ l.getD j 0 = (n : Int) ∧ t = atL l n + gC l j ∧ gC l j < cn l n := by
 obtain ⟨n, h1, h2, h3⟩ := mJ l 16 t j h
 exact ⟨n, h1, jo, h3⟩
theorem qMj (l : List Int) : (bG l).length = atL l 16 := fE l 16
end
section
open Go.RowKit
def CI (f : Nat → Nat) : List Value := (List.range 16).map fun k => .int .i64 ((f k : Nat) : Int)
def CU (f : Nat → Nat) : List Value := (List.range 16).map fun k => .int .u64 ((f k : Nat) : Int)
theorem uF (f : Nat → Nat) (k : Nat) (h : k < 16) : (CI f)[k]? = some (.int .i64 ((f k : Nat) : Int)) := by simp [CI, h]
theorem qJ8 (f : Nat → Nat) (k : Nat) (h : k < 16) : (CU f)[k]? = some (.int .u64 ((f k : Nat) : Int)) := by simp [CU, h]
theorem qMk (f : Nat → Nat) (m v : Nat) : (CI f).toArray.setIfInBounds m (.int .i64 ((v : Nat) : Int)) = (CI fun k => if k = m then v else f k).toArray := by
 apply Array.toList_inj.1
 rw [zfz]
 apply zao
 intro j
 simp only [CI, zew, zl, zfi, zbd]
 by_cases h : m = j
 ·
  subst h
  by_cases h2 : m < 16 <;> simp [h2]
 have h3 : ¬ j = m := fun e => h e.symm
 by_cases h2 : j < 16 <;> simp [h2, h, h3]
theorem qMl (f : Nat → Nat) (m v : Nat) : (CU f).toArray.setIfInBounds m (.int .u64 ((v : Nat) : Int)) = (CU fun k => if k = m then v else f k).toArray := by
 apply Array.toList_inj.1
 rw [zfz]
 apply zao
 intro j
 simp only [CU, zew, zl, zfi, zbd]
 by_cases h : m = j
 ·
  subst h
  by_cases h2 : m < 16 <;> simp [h2]
 have h3 : ¬ j = m := fun e => h e.symm
 by_cases h2 : j < 16 <;> simp [h2, h, h3]
theorem sM (f : Nat → Nat) : ∀ v ∈ (CI f).toArray.toList, v.oneCell' = true := by
 intro v hv
 obtain ⟨b, _, rfl⟩ := List.mem_map.1 (show v ∈ CI f from hv)
 rfl
theorem qMm (f : Nat → Nat) : ∀ v ∈ (CU f).toArray.toList, v.oneCell' = true := by
 intro v hv
 obtain ⟨b, _, rfl⟩ := List.mem_map.1 (show v ∈ CU f from hv)
 rfl
def fG (l : List Int) : Prop := l.length ≤ 320 ∧ ∀ x ∈ l, 0 ≤ x ∧ x ≤ 15
instance (l : List Int) : Decidable (fG l) := inferInstanceAs (Decidable (_ ∧ _))
def KC (f : Nat → Nat) : Nat → Nat
 | 0 => 0
 | i + 1 => KC f i + f i * 2 ^ (15 - i)
theorem qGl (f : Nat → Nat) (hf : ∀ k, f k ≤ 320) : ∀ i, i ≤ 16 → KC f i + 320 * 2 ^ (16 - i) ≤ 320 * 65536
 | 0, _ => by simp [KC]
 | i + 1, h => by
  have ih := qGl f hf i jo
  have h1 : f i * 2 ^ (15 - i) ≤ 320 * 2 ^ (15 - i) := zdg _ (hf i)
  have h2 : 2 ^ (16 - i) = 2 ^ (15 - i) * 2 := by rw [← zbo]; congr 1; omega
  rw [KC, show 16 - (i + 1) = 15 - i by omega]
  omega
theorem oR {w : World} {A : Option Addr} {l : List Int} {k : Nat} (h : Rd w 1 A l.length (IB l)) (hk : k < l.length) : ∃ ad, A = some ad ∧ w.cell? (ad.add k) = some (.int .i64 l[k]) := by
 obtain ⟨ad, u, hA, hu, hc⟩ := h.at1 hk
 refine ⟨ad, hA, ?_⟩
 rw [hc]
 simp [IB, hk] at hu
 rw [hu]
theorem rI (A : Option Addr) (c0 : Nat) (l : List Int) (w : World) (hl : l.length ≤ 1000000000) (hr : Rd w 1 A l.length (IB l)) :
  Calls Tryz.prog 101 #[.slice A l.length c0] w fun e w' => ∃ f, e = .returned (.tuple #[.agg (CI f).toArray, .bool (decide (fG l))]) ∧ (∀ k, f k ≤ 320) ∧ (fG l → f = cn l) ∧ Frm [] w w' := by
 refine VC.calls (nt := 32) (res := #[.cell 2 173, .tmp 3]) Tryz.func101 rfl Tryz.ntmps101 Tryz.results101 rfl ?_
 refine jS (jR ?_)
 refine Ops.m (qV.alloc sV) rfl ?_
 rintro _ w1 ⟨rfl, hF1⟩
 have hb1 : Blk w1 w.heap.size 173 (CI fun _ => 0).toArray := hF1.blk
 refine ja rfl (jO (jN (jv2 0 2 ?_)))
 refine jS (jR ?_)
 refine Ops.m (qV.alloc sV) rfl ?_
 rintro _ w2 ⟨rfl, hF2⟩
 have hb2 : Blk w2 w1.heap.size 173 (CI fun _ => 0).toArray := hF2.blk
 have hb12 := hb1.frm hF2.frm jp
 have hfr2 := hF1.frm.own hF2.frm jp
 have hg1 : w.heap.size < w1.heap.size := hb1.lt
 generalize hg : w.heap.size = g at hb12 hg1
 generalize hgc : w1.heap.size = gc at *
 refine jO (jN (jS (jS (jR (jm rfl (je (Run.lenS rfl zd) (jb rfl rfl (Bin.gtrN _ 320) (jO (jN (jv4 0 2 4 9 ?_))))))))))
 refine jD rfl (fun hc1 => ?_) fun hc1 => ?_
 ·
  refine jS (jR (je (Run.loadB rfl zfc zce (hb2) rfl) ?_))
  refine Ops.st (qR.storeA rfl rfl zce hb12 rfl (sM _)) ?_
  rintro w3 ⟨hb3, hf3, hs3⟩
  refine ja rfl (jO (jN (jv2 2 3 ?_)))
  refine jT ?_
  refine qP (mR ?_)
  refine fC rfl zfc zce (hb3) rfl ?_
  refine qQ4 rfl ?_
  refine eF ?_
  refine ⟨fun _ => 0, ?_, fun k => jp, fun h => absurd h.1 jo, hfr2.own hf3 (fW jo)⟩
  rw [decide_eq_false (fun h => absurd h.1 jo)]
  rfl
 refine jQ (jN (jv3 0 2 4 ?_))
 refine jS (jS (jR (jm rfl (je (Run.lenS rfl zd) ?_))))
 refine jx .i64 0 ?_
 refine jO (jN (jv5 2 4 11 12 13 ?_))
 refine jB ?_
 refine VC.loop (σ := Nat) (fun s => [(2, .pointer (some ⟨g, 0, none⟩)), (4, .pointer (some ⟨gc, 0, none⟩)), (11, .slice A l.length c0), (12, .int .i64 ((l.length : Nat) : Int)), (13, .int .i64 s)]) (fun s wr => s ≤ l.length ∧ (∀ x ∈ l.take s, 0 ≤ x ∧ x ≤ 15) ∧ Blk wr g 173 (CI fun _ => 0).toArray ∧ Blk wr gc 173 (CI fun k => (l.take s).count (k : Int)).toArray ∧ Frm [] w wr) (fun s => l.length - s) 0 (js5 (by rw [← hg]; rfl) (by rw [← hgc]; rfl) rfl rfl rfl) ⟨jo, jp, hb12, by simpa using hb2, hfr2⟩ ?_
 rintro i wr ⟨hi, hpre, hbr, hbc, hfr⟩
 refine jS (jR (jb rfl rfl (Bin.lssN _ _) (jO (jN (jS ?_)))))
 refine jD rfl (fun hc2 => ?_) fun hc2 => ?_
 ·
  obtain ⟨ad, rfl, hcell⟩ := oR (hr.belowW hfr.below) hc2
  have htk : l.take (i + 1) = l.take i ++ [l[i]] := by rw [zah, zb hc2]; rfl
  generalize hx : l[i] = x at *
  refine jQ (jN (jv5 2 4 11 12 13 ?_))
  refine jS (jB (jS (jR (je (Run.index1 _ rfl rfl zd zc jo) (jl rfl zg hcell (ja rfl (jO (jN (jv6 2 4 6 11 12 13 ?_)))))))))
  refine jS (jS ?_)
  refine VC.split1 [(2, _), (4, _), (6, _), (11, _), (12, _), (13, _)] (js6 rfl rfl rfl rfl rfl rfl) 22 (.bool (decide (x < 0 ∨ 15 < x))) ?_ ?_
  ·
   by_cases hs0 : x < 0
   ·
    refine jR (jm rfl (jb rfl rfl (Bin.lss _ 0) (jM ?_)))
    refine jU ?_
    refine jU ?_
    refine je (Run.pickT rfl rfl au) (jO ?_)
    refine jN ⟨(js7 (by rw [xI hs0]; rfl) rfl rfl rfl rfl rfl rfl), rfl⟩
   refine jR (jm rfl (jb rfl rfl (Bin.lss _ 0) (jM ?_)))
   refine jk (Run.mv rfl) ?_
   refine jk (Run.bin rfl rfl (Bin.gtr _ 15)) ?_
   refine je (Run.pickF rfl rfl au) (jO ?_)
   refine jN ⟨(js7 (by rw [xL hs0]; rfl) rfl rfl rfl rfl rfl rfl), rfl⟩
  intro Γ hΓ
  refine jN (VC.sub _ hΓ ?_)
  refine jD rfl (fun hc3 => ?_) fun hc3 => ?_
  ·
   refine jS (jR (je (Run.loadB rfl zfc zce (hbc) rfl) ?_))
   refine Ops.st (qR.storeA rfl rfl zce hbr rfl (sM _)) ?_
   rintro w3 ⟨hb3, hf3, hs3⟩
   refine ja rfl (jO (jN (jv2 2 3 ?_)))
   refine jT ?_
   refine qP (qO (qP (qP (qO (qP (mR ?_))))))
   refine fC rfl zfc zce (hb3) rfl ?_
   refine qQ4 rfl ?_
   refine eF ?_
   have hng : ¬ fG l := by
    intro h
    have := h.2 x (by rw [← hx]; exact zt hc2)
    omega
   refine ⟨fun k => (l.take i).count (k : Int), ?_, ?_, fun h => absurd h hng, hfr.own hf3 (fW jo)⟩
   ·
    rw [decide_eq_false hng]
    rfl
   intro k
   exact zn zeg (by simp; omega)
  obtain ⟨m, rfl⟩ : ∃ m : Nat, x = m := ⟨x.toNat, jo⟩
  have hcm : (l.take i).count (m : Int) ≤ l.length := zn zeg (by simp; omega)
  refine jQ (jN (jv6 2 4 6 11 12 13 ?_))
  refine jR (jm rfl (je (Run.indexA1 _ rfl rfl zeu zc jo) (jl rfl zg ((hbc.cell _).trans (by simpa using uF _ m jo)) (jb rfl rfl (Bin.add_i64 _ 1 jo) (je (Run.indexA1 _ rfl rfl zeu zc jo) ?_)))))
  refine Ops.st (qR.store rfl rfl zc hbc (by simp [CI, zep]; omega) rfl) ?_
  rintro w3 ⟨hb3, hf3, hs3⟩
  refine jO ?_
  refine qJ (jN ?_)
  refine jv5 2 4 11 12 13 ?_
  refine jR (jb rfl rfl (Bin.add_i64 _ 1 jo) (jm rfl (jO ?_)))
  refine jN ⟨(i + 1), (js5 rfl rfl rfl rfl rfl), ?_, ?_⟩
  ·
   refine ⟨hc2, ?_, hbr.frm hf3 (by simp; omega), ?_, hfr.own hf3 (fW jo)⟩
   ·
    rw [htk]
    intro y hy
    rcases List.mem_append.1 hy with h | h
    · exact hpre y h
    simp at h; subst h; omega
   rw [qMk] at hb3
   have e : (fun k : Nat => if k = 0 + m then (l.take i).count (m : Int) + 1 else (l.take i).count (k : Int)) = fun k : Nat => (l.take (i + 1)).count (k : Int) := by
    funext k
    rw [htk, zaz]
    by_cases hk : k = m
    · subst hk; simp
    have : (m : Int) ≠ (k : Int) := jo
    simp [hk, zhs, this]
   rw [← e]
   simpa using hb3
  first | omega | (dsimp only; omega)
 have hik : i = l.length := jo
 refine jX ?_
 refine qZ (qZ (qW ?_))
 refine jN (jv2 2 4 ?_)
 refine jS (jR (je (Run.indexA1 0 rfl rfl zeu zc jo) ?_))
 refine Ops.st (qR.store rfl rfl zc hbc rfl rfl) ?_
 rintro w5 ⟨hb5, hf5, hs5⟩
 have hb5 : Blk w5 gc 173 (CI fun k => if k = 0 then 0 else (l.take i).count (k : Int)).toArray := by rw [← qMk]; exact hb5
 have hbr5 := hbr.frm hf5 (by simp; omega)
 refine jO (jN (jv2 2 4 ?_))
 refine jS (jR (je (Run.loadB rfl zfc zce (hb5) rfl) ?_))
 refine Ops.st (qR.storeA rfl rfl zce hbr5 rfl (sM _)) ?_
 rintro w6 ⟨hb6, hf6, hs6⟩
 refine ja rfl (jO (jN (jv2 2 3 ?_)))
 refine jT ?_
 refine mR ?_
 refine fC rfl zfc zce (hb6) rfl ?_
 refine qQ4 rfl ?_
 refine eF ?_
 have hgd : fG l := ⟨jo, by rw [hik, zas] at hpre; exact hpre⟩
 refine ⟨cn l, ?_, ?_, fun _ => rfl, (hfr.own hf5 (fW jo)).own hf6 (fW jo)⟩
 ·
  rw [decide_eq_true hgd, hik, zas]
  rfl
 intro k
 unfold cn
 split
 · omega
 exact zn zeg jo
theorem qGm (f : Nat → Nat) (w : World) (hf : ∀ k, f k ≤ 320) :
  Calls Tryz.prog 129 #[.agg (CI f).toArray] w fun e w' => e = .returned (.int .i64 (32768 - ((KC f 16 : Nat) : Int))) ∧ Frm [] w w' := by
 refine VC.calls (nt := 18) (res := #[.tmp 2]) Tryz.func129 rfl Tryz.ntmps129 Tryz.results129 rfl ?_
 refine jS (jR ?_)
 refine Ops.m (qV.box rfl) rfl ?_
 rintro _ w1 ⟨rfl, hF1⟩
 have hb1 : Blk w1 w.heap.size 173 (CI f).toArray := hF1.blk
 have hfr1 := hF1.frm
 generalize hg : w.heap.size = g at hb1
 refine jz 0 (jO (jN (jv1 1 ?_)))
 refine jS (jR (jz 32768 (jO (jN (jS (jS (jR ?_)))))))
 refine jx .i64 0 ?_
 refine jO (jN (jB ?_))
 refine VC.loop (σ := Nat) (fun s => [(1, .pointer (some ⟨g, 0, none⟩)), (3, .int .i64 (32768 - ((KC f s : Nat) : Int))), (5, .int .i64 s)]) (fun s wr => s ≤ 16 ∧ wr = w1) (fun s => 16 - s) 0 (js3 (by rw [← hg]; rfl) rfl rfl) ⟨jo, rfl⟩ ?_
 rintro i _ ⟨hi, rfl⟩
 have hk := qGl f hf i hi
 refine jS (jR (jb rfl rfl (Bin.lssN _ 16) (jO (jN (jS ?_)))))
 refine jD rfl (fun hc1 => ?_) fun hc1 => ?_
 ·
  have hk1 := qGl f hf (i + 1) jo
  have he1 : KC f (i + 1) = KC f i + f i * 2 ^ (15 - i) := rfl
  have hfi := hf i
  refine jQ (jN (jv3 1 3 5 ?_))
  refine jS (jB (jS (jR (jm rfl (ja rfl (jO (jN (jv4 1 3 4 5 ?_))))))))
  refine jR (jm rfl (jm rfl (je (Run.indexA1 _ rfl rfl zeu zc jo) (jl rfl zg ((hb1.cell _).trans (by simpa using uF f i jo)) (jm rfl (jb rfl rfl (Bin.sub_i64 15 _ jo jo) (jb rfl rfl (Bin.shl_i64 _ _ jo jo) (jb rfl rfl (Bin.subZ _ _ jo jo) ?_))))))))
  refine ja rfl (jO ?_)
  refine qJ (jN ?_)
  refine jv3 1 3 5 ?_
  refine jR (jb rfl rfl (Bin.add_i64 _ 1 jo) (jm rfl (jO ?_)))
  refine jN ⟨(i + 1), (js3 rfl (congrArg (fun z => some (Value.int .i64 z)) jo) rfl), ?_, ?_⟩
  · exact ⟨hc1, rfl⟩
  first | omega | (dsimp only; omega)
 have h16 : i = 16 := jo
 subst h16
 refine jX ?_
 refine qZ (qZ (qW ?_))
 refine jN (jv1 3 ?_)
 refine jS (jR (jm rfl (ja rfl (jO (jN (jv1 2 ?_))))))
 refine jT ?_
 refine qT rfl ?_
 exact ⟨rfl, hfr1⟩
def chk (l : List Int) : Nat := if ¬ fG l then 1 else if 32768 < KC (cn l) 16 then 8 else if KC (cn l) 16 < 32768 then 2 else 0
theorem zC (A : Option Addr) (c0 : Nat) (l : List Int) (w : World) (hl : l.length ≤ 1000000000) (hr : Rd w 1 A l.length (IB l)) :
  Calls Tryz.prog 100 #[.slice A l.length c0] w fun e w' => e = .returned (.int .i64 ((chk l : Nat) : Int)) ∧ Frm [] w w' := by
 refine VC.calls (nt := 22) (res := #[.tmp 2]) Tryz.func100 rfl Tryz.ntmps100 Tryz.results100 rfl ?_
 refine jS (jR (jz 0 (jO (jN (jv1 0 ?_)))))
 refine jS (jR (jM ?_))
 refine Ops.cl (jE1 Tryz.call101) (rI A c0 l _ hl hr) rfl ?_
 rintro e w1 ⟨f, rfl, hf, hgd, hf1⟩
 refine ⟨_, rfl, ?_⟩
 refine jm rfl (je (Run.extract rfl rfl) (je (Run.extract rfl rfl) ?_))
 refine Ops.m (qV.alloc sV) rfl ?_
 rintro _ w2 ⟨rfl, hF2⟩
 have hb2 : Blk w2 w1.heap.size 173 (CI fun _ => 0).toArray := hF2.blk
 have hfr2 := hf1.own hF2.frm jp
 have hg1 := hf1.size
 generalize hg : w1.heap.size = g at *
 refine Ops.st (qR.storeA rfl rfl zce hb2 rfl (sM _)) ?_
 rintro w3 ⟨hb3, hf3, hs3⟩
 have hfr3 := hfr2.own hf3 (fW jo)
 refine ja rfl (jO (jN (jv2 3 4 ?_)))
 refine jS (jR (je (Run.loadB rfl zfc zce (hb3) rfl) ?_))
 refine Ops.cl (jE1 Tryz.call129) (qGm f _ hf) rfl ?_
 rintro e w4 ⟨rfl, hf4⟩
 refine ⟨_, rfl, ?_⟩
 have hfr4 := hfr3.own hf4 jp
 refine ja rfl (jO (jN (jv2 4 5 ?_)))
 refine jS (jB (jS (jR (jm rfl (je (Run.not rfl) (ja rfl (jO (jN (jv2 5 13 ?_)))))))))
 refine VC.condB rfl (fun hc1 => ?_) (fun hc1 => ?_)
 ·
  have he : chk l = 1 := by unfold chk; rw [if_pos (by simpa using hc1)]
  refine jS (jR (jz 1 (jO (jN (jv1 2 ?_)))))
  refine jT ?_
  refine qO (qP (qT rfl ?_))
  exact ⟨by rw [he], hfr4⟩
 have hgl : fG l := by simpa using hc1
 rw [hgd hgl] at *
 refine jS (jR (jm rfl (jb rfl rfl (Bin.lss _ 0) (ja rfl (jO (jN (jv2 5 16 ?_)))))))
 refine jD rfl (fun hc2 => ?_) fun hc2 => ?_
 ·
  have he : chk l = 8 := by unfold chk; rw [if_neg (by simpa using hgl), if_pos jo]
  refine jS (jR (jz 8 (jO (jN (jv1 2 ?_)))))
  refine jT ?_
  refine qO (qP (qT rfl ?_))
  exact ⟨by rw [he], hfr4⟩
 refine jS (jR (jm rfl (jb rfl rfl (Bin.gtr _ 0) (ja rfl (jO (jN (jv1 19 ?_)))))))
 refine jD rfl (fun hc3 => ?_) fun hc3 => ?_
 ·
  have he : chk l = 2 := by unfold chk; rw [if_neg (by simpa using hgl), if_neg jo, if_pos jo]
  refine jS (jR (jz 2 (jO (jN (jv1 2 ?_)))))
  refine jT ?_
  refine qO (qP (qT rfl ?_))
  exact ⟨by rw [he], hfr4⟩
 have he : chk l = 0 := by unfold chk; rw [if_neg (by simpa using hgl), if_neg jo, if_neg jo]
 refine jQ ?_
 refine qJ (jN ?_)
 refine VC.sub [] .nil ?_
 refine jS (jR (jz 0 (jO (jN (jT ?_)))))
 refine qT rfl ?_
 exact ⟨by rw [he], hfr4⟩
theorem xJ (f : Nat → Nat) (w : World) (hf : ∀ k, f k ≤ 320) :
  Calls Tryz.prog 102 #[.agg (CI f).toArray] w fun e w' => e = .returned (.agg (CU (fstF f)).toArray) ∧ Frm [] w w' := by
 refine VC.calls (nt := 22) (res := #[.cell 2 176]) Tryz.func102 rfl Tryz.ntmps102 Tryz.results102 rfl ?_
 refine jS (jR ?_)
 refine Ops.m (qV.box rfl) rfl ?_
 rintro _ w1 ⟨rfl, hF1⟩
 have hb1 : Blk w1 w.heap.size 173 (CI f).toArray := hF1.blk
 refine Ops.m (qV.alloc qQ7) rfl ?_
 rintro _ w2 ⟨rfl, hF2⟩
 have hb2 : Blk w2 w1.heap.size 176 (CU fun _ => 0).toArray := hF2.blk
 have hb12 := hb1.frm hF2.frm jp
 refine jO (jN (jv2 1 2 ?_))
 refine jS (jR ?_)
 refine Ops.m (qV.alloc qQ7) rfl ?_
 rintro _ w3 ⟨rfl, hF3⟩
 have hb3 : Blk w3 w2.heap.size 176 (CU fun _ => 0).toArray := hF3.blk
 have hb13 := hb12.frm hF3.frm jp
 have hb23 := hb2.frm hF3.frm jp
 have hfr3 := (hF1.frm.own hF2.frm jp).own hF3.frm jp
 have h1 := hb1.lt
 have h2 := hb2.lt
 generalize hg1 : w.heap.size = g1 at hb13 h1
 generalize hg2 : w1.heap.size = g2 at *
 generalize hg3 : w2.heap.size = g3 at *
 refine jO (jN (jS (jR ?_)))
 refine jy .u64 0 ?_
 refine jO (jN (jS (jS (jR (jz 1 (jO (jN (jB ?_))))))))
 refine VC.loop (σ := Nat) (fun s => [(1, .pointer (some ⟨g1, 0, none⟩)), (2, .pointer (some ⟨g2, 0, none⟩)), (3, .pointer (some ⟨g3, 0, none⟩)), (4, .int .u64 ((fstF f s : Nat) : Int)), (5, .int .i64 ((s + 1 : Nat) : Int))]) (fun s wr => s ≤ 15 ∧ Blk wr g1 173 (CI f).toArray ∧ Blk wr g2 176 (CU fun _ => 0).toArray ∧ Blk wr g3 176 (CU fun k => if k ≤ s then fstF f k else 0).toArray ∧ Frm [] w wr) (fun s => 16 - s) 0 (js5 (by rw [← hg1]; rfl) (by rw [← hg2]; rfl) (by rw [← hg3]; rfl) rfl rfl) ⟨jo, hb13, hb23, by
   have e : (fun k => if k ≤ 0 then fstF f k else 0) = fun _ => 0 := by
    funext k
    split
    ·
     rename_i h; have : k = 0 := jo
     subst this; rfl
    rfl
   rw [e]; exact hb3, hfr3⟩ ?_
 rintro i wr ⟨hi, hbc, hbr, hbf, hfr⟩
 have hfl := qW7 f 320 hf i
 have hp : 2 ^ i ≤ 2 ^ 15 := zz jo hi
 have hfi := hf i
 refine jS (jS (jR (jm rfl (jb rfl rfl (Bin.leqN _ 15) (jO (jN (jv6 1 2 3 4 5 7 ?_)))))))
 refine jD rfl (fun hc1 => ?_) fun hc1 => ?_
 ·
  refine jQ (jN (jv5 1 2 3 4 5 ?_))
  refine jS (jB (jS (jR (jm rfl (jm rfl (jb rfl rfl (Bin.sub_i64 _ 1 jo jo) (je (Run.indexA1 _ rfl rfl zeu zc jo) (jl rfl zg ((hbc.cell _).trans (by simpa using uF f i jo)) (je (Run.convN _ rfl zaa zv (by simp only [bmax]; omega)) (jb rfl rfl (Bin.add_u64 _ _ jo) (jb rfl rfl (Bin.shl_u64 _ 1 jo jo) ?_)))))))))))
  refine ja rfl (jO (jN (jv5 1 2 3 4 5 ?_)))
  refine jR (jm rfl (jm rfl (je (Run.indexA1 _ rfl rfl zfp zbl jo) ?_)))
  refine Ops.st (qR.store rfl rfl zbl hbf (by simp [CU, zep]; omega) rfl) ?_
  rintro w5 ⟨hb5, hf5, hs5⟩
  refine jO ?_
  refine qJ (jN ?_)
  refine jv5 1 2 3 4 5 ?_
  refine jR (jm rfl (jb rfl rfl (Bin.add_i64 _ 1 jo) (ja rfl (jO ?_))))
  refine jN ⟨(i + 1), (js5 rfl rfl rfl (by rw [fstF]; rfl) rfl), ?_, ?_⟩
  ·
   refine ⟨jo, hbc.frm hf5 (by simp; omega), hbr.frm hf5 (by simp; omega), ?_, hfr.own hf5 (fW jo)⟩
   have e : (CU fun k => if k ≤ i + 1 then fstF f k else 0).toArray = (CU fun k => if k = 0 + (i + 1) then (fstF f i + f i) * 2 ^ 1 else if k ≤ i then fstF f k else 0).toArray := by
    congr 2
    funext k
    by_cases hk : k = i + 1
    · subst hk; simp [fstF]
    by_cases hk2 : k ≤ i
    · simp [hk, hk2, show k ≤ i + 1 by omega]
    simp [hk, hk2, show ¬ k ≤ i + 1 by omega]
   rw [e, ← qMl]
   exact hb5
  first | omega | (dsimp only; omega)
 have h15 : i = 15 := jo
 subst h15
 have hfull : (CU fun k => if k ≤ 15 then fstF f k else 0).toArray = (CU (fstF f)).toArray := rfl
 rw [hfull] at hbf
 refine jX ?_
 refine qZ (qZ (qW ?_))
 refine jN (jv2 2 3 ?_)
 refine jS (jR (je (Run.loadB rfl Tryz.isAgg176 zga (hbf) rfl) ?_))
 refine Ops.st (qR.storeA rfl rfl zga hbr rfl (qMm _)) ?_
 rintro w6 ⟨hb6, hf6, hs6⟩
 refine jO (jN (jv1 2 ?_))
 refine jT ?_
 refine mR ?_
 refine fC rfl Tryz.isAgg176 zga (hb6) rfl ?_
 refine eF ?_
 exact ⟨rfl, hfr.own hf6 (fW jo)⟩
end
section
open Go.RowKit
def CB (c : Nat × Int) : List Value := [.int .u64 ((c.1 : Nat) : Int), .int .i64 c.2]
theorem zD (c : Nat × Int) : (CB c).length = 2 := rfl
theorem zE (c : Nat × Int) : ∀ v ∈ CB c, v.oneCell' = true := by
 intro v hv
 simp only [CB, zbv, zbm, or_false] at hv
 rcases hv with rfl | rfl <;> rfl
def NI (l : List Nat) : List Value := l.map fun n : Nat => .int .i64 (n : Int)
theorem fH (l : List Nat) : ∀ u ∈ NI l, u.oneCell' = true := by
 intro u hu
 obtain ⟨b, _, rfl⟩ := List.mem_map.1 hu
 rfl
theorem nO (a b : List Nat) : NI (a ++ b) = NI a ++ NI b := by simp [NI]
theorem rV {w : World} {A : Option Addr} {l : List Nat} {k : Nat} (h : Rd w 1 A l.length (NI l)) (hk : k < l.length) : ∃ ad, A = some ad ∧ w.cell? (ad.add k) = some (.int .i64 ((l[k] : Nat) : Int)) := by
 obtain ⟨ad, u, hA, hu, hc⟩ := h.at1 hk
 refine ⟨ad, hA, ?_⟩
 rw [hc]
 simp [NI, hk] at hu
 rw [hu]
theorem xK (l : List Int) : (List.replicate l.length [Value.int .u64 0, Value.int .i64 0]).flatten = (eR l 0).flatMap CB := by
 have e : eR l 0 = List.replicate l.length (0, 0) := by
  unfold eR
  apply zao
  intro i
  by_cases h : i < l.length <;> simp [h]
 rw [e, List.flatMap_replicate]
 rfl
theorem qGn (l : List Int) (i : Nat) : (eR l i).length = l.length := by simp [eR]
theorem qGo (l : List Int) (i : Nat) (h : i < l.length) (k : Nat) : (l.take (i + 1)).count (k : Int) = (l.take i).count (k : Int) + if l[i] = (k : Int) then 1 else 0 := by
 rw [zah, zb h, zaz]
 simp [List.count_singleton]
theorem wU (l : List Int) (i : Nat) (h : i < l.length) : l.getD i 0 = l[i] := by simp [List.getD, zb h]
def nxt (l : List Int) (i n : Nat) : Nat := bC l n + if n = 0 then 0 else (l.take i).count (n : Int)
theorem pW {l : List Int} (h : chk l ≠ 1) : fG l := by
 unfold chk at h
 by_cases hg : fG l
 · exact hg
 rw [if_pos hg] at h; exact absurd rfl h
theorem qGp (A : Option Addr) (c0 : Nat) (l : List Int) (w : World) (hl : l.length ≤ 1000000) (hr : Rd w 1 A l.length (IB l)) :
  Calls Tryz.prog 66 #[.slice A l.length c0] w fun e w' => Frm [] w w' ∧
   if chk l = 1 ∨ chk l = 8 then e = .returned (.tuple #[.slice none 0 0, .int .i64 ((chk l : Nat) : Int)])
   else ∃ B c, e = .returned (.tuple #[.slice B l.length c, .int .i64 ((0 : Nat) : Int)]) ∧ Own w' 179 2 B l.length c ((cW l).flatMap CB) ∧ ∀ x ∈ ob B, w.heap.size ≤ x := by
 refine VC.calls (nt := 54) (res := #[.tmp 2, .tmp 3]) Tryz.func66 rfl Tryz.ntmps66 Tryz.results66 rfl ?_
 refine jS (jR (ja rfl (jz 0 (jO (jN (jv1 0 ?_))))))
 refine jS (jS (jR (jM ?_)))
 refine Ops.cl (jE1 Tryz.call100) (zC A c0 l _ jo hr) rfl ?_
 rintro e w1 ⟨rfl, hf1⟩
 refine ⟨_, rfl, ?_⟩
 refine ja rfl (jO (jN (jv2 0 4 ?_)))
 refine jS ?_
 refine VC.split1 [(0, _), (4, _)] (js2 rfl rfl) 18 (.bool (decide (chk l = 1 ∨ chk l = 8))) ?_ ?_
 ·
  by_cases hs0 : chk l = 1
  ·
   refine jR (jm rfl (jb rfl rfl (Bin.eqlN _ 1) (jM ?_)))
   refine jU ?_
   refine jU ?_
   refine je (Run.pickT rfl rfl au) (jO ?_)
   refine jN ⟨(js3 (by rw [xI hs0]; rfl) rfl rfl), rfl⟩
  refine jR (jm rfl (jb rfl rfl (Bin.eqlN _ 1) (jM ?_)))
  refine jk (Run.mv rfl) ?_
  refine jk (Run.bin rfl rfl (Bin.eqlN _ 8)) ?_
  refine je (Run.pickF rfl rfl au) (jO ?_)
  refine jN ⟨(js3 (by rw [xL hs0]; rfl) rfl rfl), rfl⟩
 intro Γ hΓ
 refine jN (VC.sub _ hΓ ?_)
 refine jD rfl (fun hc1 => ?_) fun hc1 => ?_
 ·
  refine jS (jR (jm rfl (ja rfl (ja rfl (jO (jN (jv2 2 3 ?_)))))))
  refine jT ?_
  refine qP (cY rfl rfl ?_)
  refine ⟨hf1, ?_⟩
  rw [if_pos hc1]
 have hgl : fG l := pW (fun h => hc1 (.inl h))
 refine jQ (jN (jv1 0 ?_))
 refine jS (jR (jM ?_))
 refine Ops.cl (jE1 Tryz.call101) (rI A c0 l _ jo (hr.belowW hf1.below)) rfl ?_
 rintro e w2 ⟨f, rfl, hf, hgd, hf2⟩
 refine ⟨_, rfl, ?_⟩
 rw [hgd hgl] at hf ⊢
 clear hgd
 have hfr2 := hf1.own hf2 jp
 refine jm rfl (je (Run.extract rfl rfl) (je (Run.extract rfl rfl) ?_))
 refine Ops.m (qV.alloc sV) rfl ?_
 rintro _ w3 ⟨rfl, hF3⟩
 have hb3 : Blk w3 w2.heap.size 173 (CI fun _ => 0).toArray := hF3.blk
 have hfr3 := hfr2.own hF3.frm jp
 have hg3 := hfr2.size
 refine Ops.st (qR.storeA rfl rfl zce hb3 rfl (sM _)) ?_
 rintro w4 ⟨hb4, hf4, hs4⟩
 have hfr4 := hfr3.own hf4 (fW hg3)
 refine ja rfl (jO (jN (jv2 0 5 ?_)))
 refine jS (jR (je (Run.loadB rfl zfc zce (hb4) rfl) ?_))
 refine Ops.cl (jE1 Tryz.call102) (xJ (cn l) _ hf) rfl ?_
 rintro e w5 ⟨rfl, hf5⟩
 refine ⟨_, rfl, ?_⟩
 have hfr5 := hfr4.own hf5 jp
 refine Ops.m (qV.alloc qQ7) rfl ?_
 rintro _ w6 ⟨rfl, hF6⟩
 have hb6 : Blk w6 w5.heap.size 176 (CU fun _ => 0).toArray := hF6.blk
 have hfr6 := hfr5.own hF6.frm jp
 have hg6 := hfr5.size
 refine Ops.st (qR.storeA rfl rfl zga hb6 rfl (qMm _)) ?_
 rintro w7 ⟨hb7, hf7, hs7⟩
 have hfr7 := hfr6.own hf7 (fW hg6)
 generalize hgn : w5.heap.size = gn at *
 refine jO (jN (jv2 0 7 ?_))
 refine jS (jR (jm rfl (je (Run.lenS rfl zd) ?_)))
 refine Ops.m (qV.makeS rfl rfl zdy (qW5) rfl jo jo) rfl ?_
 rintro _ w8 ⟨rfl, ho8, hf8, hs8⟩
 have hb8 := hb7.frm hf8 jp
 have hfr8 := hfr7.own hf8 jp
 have hg8 := hfr7.size
 have ho8 : Own w8 179 2 (some ⟨w7.heap.size, 0, none⟩) l.length l.length ((eR l 0).flatMap CB) := by rw [← xK]; exact ho8
 generalize hgo : w7.heap.size = go at *
 refine ja rfl (jO (jN (jv3 0 7 8 ?_)))
 refine jS (jS (jR (jm rfl (je (Run.lenS rfl zd) ?_))))
 refine jx .i64 0 ?_
 refine jO (jN (jv5 7 8 30 31 32 ?_))
 refine jB ?_
 refine VC.loop (σ := Nat) (fun s => [(7, .pointer (some ⟨gn, 0, none⟩)), (8, .slice (some ⟨go, 0, none⟩) l.length l.length), (30, .slice A l.length c0), (31, .int .i64 ((l.length : Nat) : Int)), (32, .int .i64 s)]) (fun s wr => s ≤ l.length ∧ Blk wr gn 176 (CU (nxt l s)).toArray ∧ Own wr 179 2 (some ⟨go, 0, none⟩) l.length l.length ((eR l s).flatMap CB) ∧ Frm [] w wr) (fun s => l.length - s) 0 (js5 (by rw [← hgn]; rfl) (by rw [← hgo]; rfl) rfl rfl rfl) ⟨jo, by
 have e : nxt l 0 = bC l := by funext n; simp [nxt]
 rw [e]; exact hb8, ho8, hfr8⟩ ?_
 rintro i wr ⟨hi, hbn, ho, hfr⟩
 refine jS (jR (jb rfl rfl (Bin.lssN _ _) (jO (jN (jS ?_)))))
 refine jD rfl (fun hc2 => ?_) fun hc2 => ?_
 ·
  obtain ⟨ad, rfl, hcell⟩ := oR (hr.belowW hfr.below) hc2
  obtain ⟨hx0, hx15⟩ := hgl.2 _ (zt hc2)
  have htc := qGo l i hc2
  have hgt := wU l i hc2
  obtain ⟨m, hm⟩ : ∃ m : Nat, l[i] = (m : Int) := ⟨l[i].toNat, jo⟩
  rw [hm] at hcell htc hgt hx15
  have hsm := uE l hgl.1 m jo
  have hcm : (l.take i).count (m : Int) ≤ l.count (m : Int) := (zgw i l).count_le _
  have hne : gn ≠ go := by
   intro h
   have h1 := ho.lt go (by simp [ob])
   rw [h] at hbn
   have h2 := hbn
   rcases ho.cases with ⟨h0, _⟩ | ⟨g', cur, hA, hbb, _⟩
   · cases h0
   simp only [Option.some.injEq, Addr.mk.injEq, and_true] at hA
   rw [← hA] at hbb
   have := h2.symm.trans hbb
   simp at this
  refine jQ (jN (jv5 7 8 30 31 32 ?_))
  refine jS (jB (jS (jR (jm rfl (je (Run.index1 _ rfl rfl zd zc jo) (jl rfl zg hcell (ja rfl (ja rfl (jO (jN (jv7 7 8 9 10 30 31 32 ?_)))))))))))
  refine jS (jR (jm rfl (jb rfl rfl (Bin.gtr _ 0) (jO (jN (jv8 7 8 9 10 30 31 32 38 ?_))))))
  refine VC.meet (σ := Unit) (fun s => [(7, .pointer (some ⟨gn, 0, none⟩)), (8, .slice (some ⟨go, 0, none⟩) l.length l.length), (30, .slice (some ad) l.length c0), (31, .int .i64 ((l.length : Nat) : Int)), (32, .int .i64 i)]) (fun s w9 => Blk w9 gn 176 (CU (nxt l (i + 1))).toArray ∧ Own w9 179 2 (some ⟨go, 0, none⟩) l.length l.length ((eR l (i + 1)).flatMap CB) ∧ Frm [] w w9) ?_ ?_
  ·
   refine jD rfl (fun hc3 => ?_) fun hc3 => ?_
   ·
    have hm0 : m ≠ 0 := jo
    have hnx : nxt l i m = bC l m + (l.take i).count (m : Int) := by unfold nxt; rw [if_neg hm0]
    have hcn : cn l m = l.count (m : Int) := by unfold cn; rw [if_neg hm0]
    have hcc : cA l i = (nxt l i m, (m : Int)) := by
     unfold cA bU gC
     rw [hgt, if_neg jo, hnx, zac]
    refine jS (jR (jm rfl (jm rfl (jm rfl (je (Run.indexA1 _ rfl rfl zfp zbl jo) (jl rfl zcj ((hbn.cell _).trans (by simpa using qJ8 _ m jo)) (jm rfl (je (Run.build (evs.cons rfl (evs.cons rfl evs.nil)) oI (gN).choose_spec.1 (gN).choose_spec.2 rfl) (je (Run.indexS _ rfl rfl zdy zdl jo) ?_)))))))))
    refine Ops.st (qR.storeOwnA CB (nxt l i m, (m : Int)) i rfl rfl zdl zD (qGn l i) ho rfl hc2 (zE _)) ?_
    rintro w3 ⟨ho3, hf3, hs3⟩
    rw [← hcc, qGg] at ho3
    have hbn3 := hbn.frm hf3 (by simpa [ob] using hne)
    have hfr3 := hfr.own hf3 (by simp [ob]; omega)
    refine jO (jN (jv6 7 8 10 30 31 32 ?_))
    refine jR (jm rfl (je (Run.indexA1 _ rfl rfl zfp zbl jo) (jl rfl zcj ((hbn3.cell _).trans (by simpa using qJ8 _ m jo)) (jb rfl rfl (Bin.add_u64 _ 1 jo) (je (Run.indexA1 _ rfl rfl zfp zbl jo) ?_)))))
    refine Ops.st (qR.store rfl rfl zbl hbn3 (by simp [CU, zep]; omega) rfl) ?_
    rintro w4 ⟨hb4, hf4, hs4⟩
    refine jO ?_
    refine jN ⟨(), (js5 rfl rfl rfl rfl rfl), ?_⟩
    refine ⟨?_, ho3.frm hf4 (by simp [ob]; omega), hfr3.own hf4 (fW jo)⟩
    rw [qMl] at hb4
    have e : (fun k => if k = 0 + m then nxt l i m + 1 else nxt l i k) = nxt l (i + 1) := by
     funext k
     unfold nxt
     rw [htc k]
     by_cases hk : k = m
     · subst hk; simp [hm0]; omega
     have : ¬ (m : Int) = (k : Int) := jo
     simp [hk, this]
    rw [← e]
    exact hb4
   refine jQ ?_
   refine jN ⟨(), (js5 rfl rfl rfl rfl rfl), ?_⟩
   have hm0 : m = 0 := jo
   subst hm0
   refine ⟨?_, by rw [qWc l i (by rw [hgt]; rfl)]; exact ho, hfr⟩
   have e : nxt l (i + 1) = nxt l i := by
    funext k
    unfold nxt
    rw [htc k]
    by_cases hk : k = 0
    · simp [hk]
    have : ¬ ((0 : Nat) : Int) = (k : Int) := jo
    rw [if_neg this, zdu]
   rw [e]
   exact hbn
  rintro _ w9 ⟨hbn9, ho9, hfr9⟩ Γ hΓ
  refine qJ (jN (VC.sub _ hΓ ?_))
  refine jR (jb rfl rfl (Bin.add_i64 _ 1 jo) (jm rfl (jO ?_)))
  refine jN ⟨(i + 1), (js5 rfl rfl rfl rfl rfl), ?_, ?_⟩
  · exact ⟨hc2, hbn9, ho9, hfr9⟩
  first | omega | (dsimp only; omega)
 refine jX ?_
 refine qZ (qZ (qW ?_))
 refine jN (jv1 8 ?_)
 refine jS (jR (jm rfl (ja rfl (jz 0 (jO (jN (jv2 2 3 ?_)))))))
 refine jT ?_
 refine cY rfl rfl ?_
 have hil : i = l.length := jo
 refine ⟨hfr, ?_⟩
 rw [if_neg hc1]
 rw [hil, qGh] at ho
 exact ⟨_, _, rfl, ho, by simp [ob]; omega⟩
def DC (f F : Nat → Nat) (A : Option Addr) (n c : Nat) (most : Nat) : Array Value := (CI f ++ CU F ++ [Value.slice A n c, Value.int .i64 ((most : Nat) : Int)]).toArray
theorem DC_c (f F : Nat → Nat) (A : Option Addr) (n c most k : Nat) (h : k < 16) : (DC f F A n c most)[k]? = some (.int .i64 ((f k : Nat) : Int)) := by
 unfold DC
 rw [zdp, zaj (by simp [CI, CU]; omega), zaj (by simpa [CI] using h), uF f k h]
theorem DC_f (f F : Nat → Nat) (A : Option Addr) (n c most k : Nat) (h : k < 16) : (DC f F A n c most)[16 + k]? = some (.int .u64 ((F k : Nat) : Int)) := by
 unfold DC
 have e : 16 + k - (CI f).length = k := by simp [CI]
 rw [zdp, zaj (by simp [CI, CU]; omega), zan (by simp [CI]), e, qJ8 F k h]
def IsD (w : World) (g : Nat) (A : Option Addr) (c : Nat) (f F : Nat → Nat) (sy : List Nat) (most : Nat) : Prop :=
 Blk w g 233 (DC f F A sy.length c most) ∧ Own w 3 1 A sy.length c (NI sy)
theorem IsD.frm {w w' : World} {g : Nat} {A : Option Addr} {c : Nat} {f F : Nat → Nat} {sy : List Nat} {most : Nat} {S : List Nat} (h : IsD w g A c f F sy most) (k : Frm S w w') (hS : ∀ x ∈ g :: ob A, x ∉ S) : IsD w' g A c f F sy most :=
 ⟨h.1.frm k (hS g jp), h.2.frm k (fun x hx => hS x (by simp [hx]))⟩
def newE (l : List Int) : Nat := if chk l = 2 ∧ ((bG l).length = 0 ∨ (bG l).length = 1 ∧ cn l 1 = 1) then 0 else chk l
def bE (l : List Int) : Nat := if chk l = 2 then (bG l).length else 15
theorem qMn (A : Option Addr) (c0 : Nat) (l : List Int) (w : World) (hl : l.length ≤ 1000000) (hr : Rd w 1 A l.length (IB l)) :
  Calls Tryz.prog 136 #[.slice A l.length c0] w fun e w' => Frm [] w w' ∧
   if newE l = 0 then ∃ g B c, e = .returned (.tuple #[.pointer (some ⟨g, 0, none⟩), .int .i64 ((0 : Nat) : Int)]) ∧ IsD w' g B c (cn l) (bC l) (bG l) (bE l) ∧ ∀ x ∈ g :: ob B, w.heap.size ≤ x
   else e = .returned (.tuple #[.pointer none, .int .i64 ((newE l : Nat) : Int)]) := by
 refine VC.calls (nt := 87) (res := #[.tmp 2, .tmp 3]) Tryz.func136 rfl Tryz.ntmps136 Tryz.results136 rfl ?_
 refine jS (jR (ja rfl (jz 0 (jO (jN (jv1 0 ?_))))))
 refine jS (jR (jM ?_))
 refine Ops.cl (jE1 Tryz.call100) (zC A c0 l _ jo hr) rfl ?_
 rintro e w1 ⟨rfl, hf1⟩
 refine ⟨_, rfl, ?_⟩
 refine ja rfl (jO (jN (jv2 0 4 ?_)))
 refine jS (jR (jM ?_))
 refine Ops.cl (jE1 Tryz.call101) (rI A c0 l _ jo (hr.belowW hf1.below)) rfl ?_
 rintro e w2 ⟨f, rfl, hf, hgd, hf2⟩
 refine ⟨_, rfl, ?_⟩
 have hfr2 := hf1.own hf2 jp
 refine jm rfl (je (Run.extract rfl rfl) (je (Run.extract rfl rfl) ?_))
 refine Ops.m (qV.alloc sV) rfl ?_
 rintro _ w3 ⟨rfl, hF3⟩
 have hb3 : Blk w3 w2.heap.size 173 (CI fun _ => 0).toArray := hF3.blk
 have hfr3 := hfr2.own hF3.frm jp
 have hg3 := hfr2.size
 refine Ops.st (qR.storeA rfl rfl zce hb3 rfl (sM _)) ?_
 rintro w4 ⟨hb4, hf4, hs4⟩
 have hfr4 := hfr3.own hf4 (fW hg3)
 generalize hgc : w2.heap.size = gc at *
 refine ja rfl (jO (jN (jv3 0 4 5 ?_)))
 refine jS ?_
 refine VC.held (fun v => Blk v gc 173 (CI f).toArray ∧ Frm [] w v) jK ?_
 have hS : (fun v => Blk v gc 173 (CI f).toArray ∧ Frm [] w v) w4.drew := ⟨hb4.drawn (qQ.drew _), hfr4.drawn (qQ.drew _)⟩
 refine jH 0 rfl hS (fun w0 hw0 => Run.loadB rfl zfc zce (hw0.1) rfl) ?_
 refine jH 1 rfl hS (fun w0 hw0 => Run.loadB rfl zfc zce (hw0.1) rfl) ?_
 refine qK.cl 2 rfl jK (jE1 Tryz.call102) (xJ f _ hf) trivial rfl rfl ?_
 rintro e w5 ⟨rfl, hf5⟩
 have hS : (fun v => Blk v gc 173 (CI f).toArray ∧ Frm [] w v) w5 := ⟨hS.1.frm hf5 jp, hS.2.own hf5 jp⟩
 refine ⟨_, rfl, hS, ?_⟩
 refine jH 3 rfl hS (fun w0 hw0 => Run.build (evs.cons rfl (evs.cons rfl (evs.cons rfl evs.nil))) qTr (qX4).choose_spec.1 (qX4).choose_spec.2 (cells := DC f (fstF f) none 0 0 15) jK) ?_
 refine qK.m 4 rfl jK (qV.box rfl) trivial rfl rfl ?_
 rintro _ w6 ⟨rfl, hF6⟩
 have hb6 : Blk w6 w5.heap.size 233 (DC f (fstF f) none 0 0 15) := hF6.blk
 have hg6 := hS.2.size
 refine ⟨⟨hS.1.frm hF6.frm jp, hS.2.own hF6.frm jp⟩, ?_⟩
 have hbc := hS.1.frm hF6.frm jp
 have hfr6 := hS.2.own hF6.frm jp
 have hne : gc ≠ w5.heap.size := by have := hS.1.lt; omega
 generalize hgd0 : w5.heap.size = gd at *
 have hS : (fun v => Blk v gc 173 (CI f).toArray ∧ Frm [] w v) w6 := ⟨hbc, hfr6⟩
 refine jH 5 rfl hS (fun w0 hw0 => Run.asg rfl) ?_
 refine qK.done jK ?_
 refine jN (jv4 0 4 5 7 ?_)
 refine jS (jS (jR ?_))
 refine jx .i64 0 ?_
 refine jO (jN (jB ?_))
 refine VC.loop (σ := Nat × Option Addr × Nat) (fun s => [(0, .slice A l.length c0), (4, .int .i64 ((chk l : Nat) : Int)), (5, .pointer (some ⟨gc, 0, none⟩)), (7, .pointer (some ⟨gd, 0, none⟩)), (23, .int .i64 s.1)]) (fun s wr => s.1 ≤ 16 ∧ Blk wr gc 173 (CI f).toArray ∧ IsD wr gd s.2.1 s.2.2 f (fstF f) (cR l s.1) 15 ∧ Frm [] w wr ∧ ∀ x ∈ ob s.2.1, w.heap.size ≤ x) (fun s => 16 - s.1) (0, none, 0) (js5 rfl rfl (by rw [← hgc]; rfl) (by rw [← hgd0]; rfl) rfl) ⟨jo, hbc, ⟨hb6, Own.nil _ _ _⟩, hfr6, jF⟩ ?_
 rintro ⟨n, B, c⟩ wr ⟨hn, hbc, hD, hfr, huB⟩
 dsimp only at hn hbc hD hfr huB ⊢
 refine jS (jR (jb rfl rfl (Bin.lssN _ 16) (jO (jN (jS ?_)))))
 refine jD rfl (fun hc1 => ?_) fun hc1 => ?_
 ·
  refine jQ (jN (jv5 0 4 5 7 23 ?_))
  refine jS (jB (jS (jR (jm rfl (ja rfl (jO (jN (jv6 0 4 5 7 8 23 ?_))))))))
  refine jS (jR (jm rfl (je (Run.lenS rfl zd) ?_)))
  refine jx .i64 0 ?_
  refine jO (jN (jB ?_))
  refine VC.loop (σ := Nat × Option Addr × Nat) (fun s => [(0, .slice A l.length c0), (4, .int .i64 ((chk l : Nat) : Int)), (5, .pointer (some ⟨gc, 0, none⟩)), (7, .pointer (some ⟨gd, 0, none⟩)), (8, .int .i64 n), (23, .int .i64 n), (26, .slice A l.length c0), (27, .int .i64 ((l.length : Nat) : Int)), (28, .int .i64 s.1)]) (fun s wr => s.1 ≤ l.length ∧ Blk wr gc 173 (CI f).toArray ∧ IsD wr gd s.2.1 s.2.2 f (fstF f) (cR l n ++ bI l n s.1) 15 ∧ Frm [] w wr ∧ ∀ x ∈ ob s.2.1, w.heap.size ≤ x) (fun s => l.length - s.1) (0, B, c) (js9 rfl rfl rfl rfl rfl rfl rfl rfl rfl) ⟨jo, hbc, by simpa [bI] using hD, hfr, huB⟩ ?_
  clear hD hbc hfr huB
  rintro ⟨i, B, c⟩ wr ⟨hi, hbc, hD, hfr, huB⟩
  dsimp only at hi hbc hD hfr huB ⊢
  have hsl : (cR l n ++ bI l n i).length ≤ l.length := by
   rw [za, fE]
   have h1 := uC l (n + 1)
   have h2 : atL l (n + 1) = atL l n + cn l n := rfl
   by_cases hn0 : n = 0
   · subst hn0; simp [bI, atL]
   have h3 := nL l n hn0 i hi
   have h4 : (l.take i).count (n : Int) ≤ l.count (n : Int) := (zgw i l).count_le _
   have h5 : cn l n = l.count (n : Int) := by unfold cn; rw [if_neg hn0]
   omega
  refine jS (jR (jb rfl rfl (Bin.lssN _ _) (jO (jN (jS ?_)))))
  refine jD rfl (fun hc2 => ?_) fun hc2 => ?_
  ·
   obtain ⟨ad, rfl, hcell⟩ := oR (hr.belowW hfr.below) hc2
   have hgt := wU l i hc2
   generalize hx : l[i] = x at *
   refine jQ (jN (jv9 0 4 5 7 8 23 26 27 28 ?_))
   refine jS (jB (jS (jR (jm rfl (je (Run.index1 _ rfl rfl zd zc jo) (jl rfl zg hcell (ja rfl (ja rfl (jO (jN (jv11 0 4 5 7 8 9 10 23 26 27 28 ?_)))))))))))
   refine jS ?_
   refine VC.split1 [(0, _), (4, _), (5, _), (7, _), (8, _), (9, _), (23, _), (26, _), (27, _), (28, _)] (js10 rfl rfl rfl rfl rfl rfl rfl rfl rfl rfl) 39 (.bool (decide (x = (n : Int) ∧ 0 < n))) ?_ ?_
   ·
    by_cases hs0 : x = (n : Int)
    ·
     refine jR (jm rfl (jm rfl (jb rfl rfl (Bin.eql _ _) (jM ?_))))
     refine jk (Run.mv rfl) ?_
     refine jk (Run.bin rfl rfl (Bin.gtrN _ 0)) ?_
     refine je (Run.pickT rfl rfl au) (jO ?_)
     refine jN ⟨(js11 (by rw [sE hs0]; rfl) rfl rfl rfl rfl rfl rfl rfl rfl rfl rfl), rfl⟩
    refine jR (jm rfl (jm rfl (jb rfl rfl (Bin.eql _ _) (jM ?_))))
    refine jU ?_
    refine jU ?_
    refine je (Run.pickF rfl rfl au) (jO ?_)
    refine jN ⟨(js11 (by rw [sF hs0]; rfl) rfl rfl rfl rfl rfl rfl rfl rfl rfl rfl), rfl⟩
   intro Γ hΓ
   refine jN (VC.sub _ hΓ ?_)
   refine VC.meet (σ := Option Addr × Nat) (fun s => [(0, .slice (some ad) l.length c0), (4, .int .i64 ((chk l : Nat) : Int)), (5, .pointer (some ⟨gc, 0, none⟩)), (7, .pointer (some ⟨gd, 0, none⟩)), (8, .int .i64 n), (23, .int .i64 n), (26, .slice (some ad) l.length c0), (27, .int .i64 ((l.length : Nat) : Int)), (28, .int .i64 i)]) (fun s w9 => Blk w9 gc 173 (CI f).toArray ∧ IsD w9 gd s.1 s.2 f (fstF f) (cR l n ++ bI l n (i + 1)) 15 ∧ Frm [] w w9 ∧ ∀ x ∈ ob s.1, w.heap.size ≤ x) ?_ ?_
   ·
    refine jD rfl (fun hc3 => ?_) fun hc3 => ?_
    ·
     refine jR (jm rfl (jm rfl (je (Run.nilck rfl) (jf rfl zcu rfl zar (jl rfl zbq (hD.1.cell 32) (jM ?_))))))
     refine Ops.m (qV.buildS1 rfl zd zc fS jd jd rfl rfl) rfl ?_
     rintro _ w7 ⟨rfl, hF7⟩
     have ho7 := hD.2.frm hF7.frm jp
     have hb7 := hD.1.frm hF7.frm jp
     have hrd7 : Rd w7 1 (some ⟨wr.heap.size, 0, none⟩) 1 (NI [i]) := Rd.of_blk hF7.blk rfl
     refine Ops.m (qV.app rfl rfl zd (dX) rfl jd ho7 hrd7 (fH [i]) jo jo) rfl ?_
     rintro _ w8 ⟨A8, c8, rfl, ho8, hf8, hob8⟩
     have hb8 := hb7.frm hf8 (ho7.ne_blk hb7 jd)
     have hbc8 := (hbc.frm hF7.frm jp).frm hf8 (ho7.ne_blk (hbc.frm hF7.frm jp) jd)
     have hfr7 := hfr.own hF7.frm jp
     have hfr8 := hfr7.own hf8 huB
     have hu8 := cG huB hob8 hfr7.size
     refine je (Run.nilck rfl) (jf rfl zcu rfl zar ?_)
     refine Ops.st (qR.store rfl rfl zar hb8 rfl rfl) ?_
     rintro w9 ⟨hb9, hf9, hs9⟩
     have ho9 := ho8.frm hf9 (fun x hx hx2 => by simp at hx2; subst hx2; exact ho8.ne_blk hb8 jd hx)
     refine jO ?_
     refine jN ⟨(A8, c8), (js9 rfl rfl rfl rfl rfl rfl rfl rfl rfl), ?_⟩
     have e : cR l n ++ bI l n (i + 1) = (cR l n ++ bI l n i) ++ [i] := by
      unfold bI
      rw [if_neg jo, if_neg jo, zex, zff, zgi (by rw [hgt]; simpa using hc3.1), zj]
      rfl
     have e2 : (cR l n ++ bI l n i ++ [i]).length = (cR l n ++ bI l n i).length + 1 := za
     refine ⟨hbc8.frm hf9 (by simpa using hne), ?_, hfr8.own hf9 (fW jo), hu8⟩
     rw [e]
     generalize cR l n ++ bI l n i = sy at *
     refine ⟨?_, ?_⟩
     ·
      rw [e2]
      exact hb9
     rw [e2, nO]
     exact ho9
    refine jQ ?_
    refine jN ⟨(B, c), (js9 rfl rfl rfl rfl rfl rfl rfl rfl rfl), ?_⟩
    have e : bI l n (i + 1) = bI l n i := by
     unfold bI
     split
     · rfl
     rw [zex, zff, zgj (by rw [hgt]; simp; omega)]
     simp
    rw [e]
    exact ⟨hbc, hD, hfr, huB⟩
   rintro ⟨B9, c9⟩ w9 ⟨hbc9, hD9, hfr9, hu9⟩ Γ hΓ
   refine qJ (jN (VC.sub _ hΓ ?_))
   refine jR (jb rfl rfl (Bin.add_i64 _ 1 jo) (jm rfl (jO ?_)))
   refine jN ⟨(i + 1, B9, c9), (js9 rfl rfl rfl rfl rfl rfl rfl rfl rfl), ?_, ?_⟩
   · exact ⟨hc2, hbc9, hD9, hfr9, hu9⟩
   first | omega | (dsimp only; omega)
  have hil : i = l.length := jo
  have hord : cR l n ++ bI l n i = cR l (n + 1) := by rw [mT, hil]; rfl
  rw [hord] at hD
  refine jX ?_
  refine qZ (qZ (qW ?_))
  refine qJ (jN ?_)
  refine jv5 0 4 5 7 23 ?_
  refine jR (jb rfl rfl (Bin.add_i64 _ 1 jo) (jm rfl (jO ?_)))
  refine jN ⟨(n + 1, B, c), (js5 rfl rfl rfl rfl rfl), ?_, ?_⟩
  · exact ⟨hc1, hbc, hD, hfr, huB⟩
  first | omega | (dsimp only; omega)
 have hn16 : n = 16 := jo
 subst hn16
 refine jX ?_
 refine qZ (qZ (qW ?_))
 refine jN (jv3 4 5 7 ?_)
 refine jS (jS ?_)
 refine VC.split1 [(4, _), (5, _), (7, _)] (js3 rfl rfl rfl) 61 (.bool (decide (chk l = 2 ∧ (bG l).length = 0))) ?_ ?_
 ·
  by_cases hs0 : chk l = 2
  ·
   refine jR (jm rfl (jb rfl rfl (Bin.eqlN _ 2) (jM ?_)))
   refine jk (Run.mv rfl) ?_
   refine jk (Run.nilck rfl) ?_
   refine jk (Run.fieldAddr rfl zcu rfl zar jd) ?_
   refine jk (Run.load rfl zbq (hD.1.cell 32)) ?_
   refine jk (Run.lenS rfl zd) ?_
   refine jk (Run.bin rfl rfl (Bin.eqlN _ 0)) ?_
   refine je (Run.pickT rfl rfl au) (jO ?_)
   refine jN ⟨(js4 (by rw [sE hs0]; rfl) rfl rfl rfl), rfl⟩
  refine jR (jm rfl (jb rfl rfl (Bin.eqlN _ 2) (jM ?_)))
  refine jU ?_
  refine jU ?_
  refine jU ?_
  refine jU ?_
  refine jU ?_
  refine jU ?_
  refine je (Run.pickF rfl rfl au) (jO ?_)
  refine jN ⟨(js4 (by rw [sF hs0]; rfl) rfl rfl rfl), rfl⟩
 intro Γ hΓ
 refine jN (VC.sub _ hΓ ?_)
 refine VC.meet (σ := Unit) (fun s => [(4, .int .i64 (((if chk l = 2 ∧ (bG l).length = 0 then 0 else chk l) : Nat) : Int)), (5, .pointer (some ⟨gc, 0, none⟩)), (7, .pointer (some ⟨gd, 0, none⟩))]) (fun s w9 => Blk w9 gc 173 (CI f).toArray ∧ IsD w9 gd B c f (fstF f) (bG l) (if chk l = 2 ∧ (bG l).length = 0 then 0 else 15) ∧ Frm [] w w9) ?_ ?_
 ·
  refine jD rfl (fun hc4 => ?_) fun hc4 => ?_
  ·
   refine jR (jm rfl (je (Run.nilck rfl) (jf rfl zcu rfl zc ?_)))
   refine Ops.st (qR.store rfl rfl zc hD.1 rfl rfl) ?_
   rintro w9 ⟨hb9, hf9, hs9⟩
   have ho9 := hD.2.frm hf9 (fun x hx hx2 => by simp at hx2; subst hx2; exact hD.2.ne_blk hD.1 jd hx)
   refine jz 0 (jO ?_)
   refine jN ⟨(), (js3 (by rw [if_pos hc4]; rfl) rfl rfl), ?_⟩
   rw [if_pos hc4]
   exact ⟨hbc.frm hf9 (by simpa using hne), ⟨hb9, ho9⟩, hfr.own hf9 (fW jo)⟩
  refine jQ ?_
  refine jN ⟨(), (js3 (by rw [if_neg hc4]; rfl) rfl rfl), ?_⟩
  rw [if_neg hc4]
  exact ⟨hbc, hD, hfr⟩
 rintro _ w4 ⟨hbc4, hD4, hfr4⟩ Γ hΓ
 generalize he4 : (if chk l = 2 ∧ (bG l).length = 0 then 0 else chk l) = e4 at *
 generalize hm4 : (if chk l = 2 ∧ (bG l).length = 0 then 0 else 15) = m4 at *
 refine jN (VC.sub _ hΓ (jS (jS ?_)))
 refine VC.split1 [(4, _), (7, _)] (js2 rfl rfl) 79 (.bool (decide (e4 = 2 ∧ (bG l).length = 1 ∧ f 1 = 1))) ?_ ?_
 ·
  refine jR ?_
  refine jm rfl (jb rfl rfl (Bin.eqlN _ 2) ?_)
  by_cases hs66 : e4 = 2
  ·
   refine jM ?_
   refine jk (Run.mv rfl) ?_
   refine jk (Run.nilck rfl) ?_
   refine jk (Run.fieldAddr rfl zcu rfl zar jd) ?_
   refine jk (Run.load rfl zbq (hD4.1.cell 32)) ?_
   refine jk (Run.lenS rfl zd) ?_
   refine jk (Run.bin rfl rfl (Bin.eqlN _ 1)) ?_
   by_cases hs73 : (bG l).length = 1
   ·
    refine je (Run.pickT rfl rfl au) (jM ?_)
    refine jk (Run.indexA1 1 rfl rfl zeu zc jo) ?_
    refine jk (Run.load rfl zg ((hbc4.cell _).trans (by simpa using uF f 1 jo))) ?_
    refine jk (Run.bin rfl rfl (Bin.eqlN _ 1)) ?_
    by_cases hs78 : f 1 = 1
    ·
     refine je (Run.pickT rfl rfl au) (jO ?_)
     refine jN ⟨(js3 (jC (by simp [*])) rfl rfl), rfl⟩
    refine je (Run.pickT rfl rfl au) (jO ?_)
    refine jN ⟨(js3 (jC (by simp [*])) rfl rfl), rfl⟩
   refine je (Run.pickT rfl rfl au) (jM ?_)
   refine jU ?_
   refine jU ?_
   refine jU ?_
   refine je (Run.pickF rfl rfl au) (jO ?_)
   refine jN ⟨(js3 (jC (by simp [*])) rfl rfl), rfl⟩
  refine jM ?_
  refine jU ?_
  refine jU ?_
  refine jU ?_
  refine jU ?_
  refine jU ?_
  refine jU ?_
  refine je (Run.pickF rfl rfl au) (jM ?_)
  refine jU ?_
  refine jU ?_
  refine jU ?_
  refine je (Run.pickF rfl rfl au) (jO ?_)
  refine jN ⟨(js3 (jC (by simp [*])) rfl rfl), rfl⟩
 intro Γ hΓ
 refine jN (VC.sub _ hΓ ?_)
 refine jD rfl (fun hc5 => ?_) fun hc5 => ?_
 ·
  obtain ⟨he2, hl1, hf1'⟩ := hc5
  subst he2
  have hch : chk l = 2 := by split at he4 <;> omega
  have hfg := hgd (pW jo)
  subst hfg
  have hnew : newE l = 0 := by unfold newE; rw [if_pos ⟨hch, .inr ⟨hl1, hf1'⟩⟩]
  refine jR (jm rfl (je (Run.nilck rfl) (jf rfl zcu rfl zc ?_)))
  refine Ops.st (qR.store rfl rfl zc hD4.1 rfl rfl) ?_
  rintro w9 ⟨hb9, hf9, hs9⟩
  have ho9 := hD4.2.frm hf9 (fun x hx hx2 => by simp at hx2; subst hx2; exact hD4.2.ne_blk hD4.1 jd hx)
  refine jz 0 (jO (jN (jv2 4 7 ?_)))
  refine jS (jS (jR (jm rfl (jb rfl rfl (Bin.neqN _ 0) (jO (jN (jv3 4 7 84 ?_)))))))
  refine VC.condF rfl jp ?_
  refine jQ (jN (jv1 7 ?_))
  refine jS (jR (jm rfl (ja rfl (jz 0 (jO (jN (jv2 2 3 ?_)))))))
  refine jT ?_
  refine cY rfl rfl ?_
  refine ⟨hfr4.own hf9 (fW jo), ?_⟩
  rw [if_pos hnew]
  refine ⟨gd, B, c, rfl, ⟨?_, ho9⟩, wN jo huB⟩
  have hm : bE l = 1 := by unfold bE; rw [if_pos hch]; exact hl1
  rw [hm]
  exact hb9
 refine jQ (jN (jv2 4 7 ?_))
 refine jS (jS (jR (jm rfl (jb rfl rfl (Bin.neqN _ 0) (jO (jN (jv3 4 7 84 ?_)))))))
 refine jD rfl (fun hc6 => ?_) fun hc6 => ?_
 ·
  have hnew : newE l = e4 := by
   unfold newE
   split at he4
   · omega
   rename_i h
   rw [if_neg, he4]
   rintro ⟨h1, h2⟩
   have hfg := hgd (pW jo)
   rcases h2 with h2 | ⟨h2, h3⟩
   · exact h ⟨h1, h2⟩
   exact hc5 ⟨jo, h2, by rw [hfg]; exact h3⟩
  refine jS (jR (jm rfl (ja rfl (ja rfl (jO (jN (jv2 2 3 ?_)))))))
  refine jT ?_
  refine qP (cY rfl rfl ?_)
  refine ⟨hfr4, ?_⟩
  rw [if_neg jo, hnew]
 have hnew : newE l = 0 := by
  unfold newE
  split
  · rfl
  rename_i h
  split at he4
  · rename_i h2; exact absurd ⟨h2.1, .inl h2.2⟩ h
  omega
 have hch : chk l ≠ 1 := by
  intro h
  unfold newE at hnew
  rw [h, if_neg jo] at hnew
  omega
 have hfg := hgd (pW hch)
 subst hfg
 have hmost : m4 = bE l := by
  unfold bE
  split at he4
  · rename_i h; rw [if_pos h] at hm4; rw [if_pos h.1]; omega
  rename_i h; rw [if_neg h] at hm4; rw [if_neg jo]; omega
 refine jQ (jN (jv1 7 ?_))
 refine jS (jR (jm rfl (ja rfl (jz 0 (jO (jN (jv2 2 3 ?_)))))))
 refine jT ?_
 refine cY rfl rfl ?_
 refine ⟨hfr4, ?_⟩
 rw [if_pos hnew]
 refine ⟨gd, B, c, rfl, ?_, wN jo huB⟩
 rw [← hmost]
 exact hD4
end
section
open Go.RowKit
def BL (l : List Bool) : List Value := l.map Value.bool
theorem oQ (l : List Bool) : ∀ u ∈ BL l, u.oneCell' = true := by
 intro u hu
 obtain ⟨b, _, rfl⟩ := List.mem_map.1 hu
 rfl
theorem kX (a b : List Bool) : BL (a ++ b) = BL a ++ BL b := by simp [BL]
theorem qMo (l : List Bool) (i : Nat) (b : Bool) (h : l[i]? = some b) : (BL l)[i]? = some (.bool b) := by simp [BL, h]
theorem qJt (xs : List Nat) (h : ∀ x ∈ xs, x < 256) : NB xs = U8 (xs.map UInt8.ofNat) := by
 simp only [NB, U8, zeh]
 apply zde
 intro x hx
 have := h x hx
 simp
 omega
def eT (xs : List Nat) : ByteArray := ⟨(xs.map UInt8.ofNat).toArray⟩
theorem cZ (xs : List Nat) : (eT xs).size = xs.length := by simp [eT, ByteArray.size]
theorem dY (a b : List Nat) : eT a ++ eT b = eT (a ++ b) := by
 unfold eT
 rw [ByteArray.mk_append_mk, zbt]
theorem pY (v n : Nat) (w : World) (hv : v ≤ 18446744073709551615) (hn : n ≤ 1000) :
  Calls Tryz.prog 103 #[.int .u64 v, .int .i64 n] w fun e w' => ∃ A c, e = .returned (.slice A n c) ∧ Own w' 4 1 A n c (BL (bitsL v n)) ∧ Frm [] w w' ∧ ∀ x ∈ ob A, w.heap.size ≤ x := by
 refine VC.calls (nt := 21) (res := #[.tmp 4]) Tryz.func103 rfl Tryz.ntmps103 Tryz.results103 rfl ?_
 refine jS (jR (ja rfl (jO (jN (jv2 0 1 ?_)))))
 refine jS (jR (ja rfl (jO (jN (jS (jS (jR (jz 0 (jO (jN (jB ?_)))))))))))
 refine VC.loop (σ := Nat × Option Addr × Nat) (fun s => [(0, .int .u64 ((v / 2 ^ s.1 : Nat) : Int)), (1, .int .i64 n), (5, .slice s.2.1 s.1 s.2.2), (6, .int .i64 s.1)]) (fun s wr => s.1 ≤ n ∧ Own wr 4 1 s.2.1 s.1 s.2.2 (BL (bitsL v s.1)) ∧ Frm [] w wr ∧ ∀ x ∈ ob s.2.1, w.heap.size ≤ x) (fun s => n - s.1) (0, none, 0) (js4 (by rw [show v / 2 ^ 0 = v by simp]; rfl) rfl rfl rfl) ⟨jo, Own.nil _ _ _, Frm.refl _ _, by simp [ob]⟩ ?_
 rintro ⟨k, A, c⟩ wr ⟨hk, hown, hfr, hA⟩
 dsimp only at hk hown hfr hA ⊢
 refine jS (jS (jR (jm rfl (jm rfl (jb rfl rfl (Bin.lssN _ _) (jO (jN (jv5 0 1 5 6 9 ?_))))))))
 refine jD rfl (fun hc1 => ?_) fun hc1 => ?_
 ·
  refine jQ (jN (jv4 0 1 5 6 ?_))
  refine jS (jB (jS (jR (jm rfl (jm rfl (jb rfl rfl (Bin.remN _ 2 jo) (jb rfl rfl (Bin.eqlN _ 1) ?_)))))))
  refine Ops.m (qV.buildS1 rfl zaw zfh qY9 jd jd rfl rfl) rfl ?_
  rintro _ w1 ⟨rfl, hF⟩
  have hown1 := hown.frm hF.frm jp
  have hrd1 : Rd w1 1 (some ⟨wr.heap.size, 0, none⟩) 1 (BL [decide (v / 2 ^ k % 2 = 1)]) := Rd.of_blk hF.blk rfl
  refine Ops.m (qV.app rfl rfl zaw (oN) rfl jd hown1 hrd1 (oQ _) jo jo) rfl ?_
  rintro _ w2 ⟨A2, c2, rfl, hown2, hfr2, hob2⟩
  refine ja rfl (jO (jN (jv4 0 1 5 6 ?_)))
  refine jR (jm rfl (jb rfl rfl (Bin.quo_u64 _ 2 jo (zn (zcq _ _) hv)) (ja rfl (jO ?_))))
  refine qJ (jN ?_)
  refine jv4 0 1 5 6 ?_
  refine jR (jm rfl (jb rfl rfl (Bin.add_i64 _ 1 jo) (ja rfl (jO ?_))))
  refine jN ⟨(k + 1, A2, c2), (js4 (by rw [show v / 2 ^ (k + 1) = v / 2 ^ k / 2 by rw [zbo, zfa]]; rfl) rfl rfl rfl), ?_, ?_⟩
  ·
   refine ⟨hc1, ?_, ?_, ?_⟩
   · rw [zG, kX]; exact hown2
   · exact (hfr.trans hF.frm jp).trans hfr2 (fun x hx => .inr (hA x hx))
   intro x hx
   have := hfr.size
   have := hF.size
   rcases hob2 with h | h <;> rw [h] at hx
   · exact hA x hx
   simp at hx; omega
  first | omega | (dsimp only; omega)
 refine jX ?_
 refine qZ (qZ (qW ?_))
 refine jN (jv1 5 ?_)
 refine jS (jR (jm rfl (ja rfl (jO (jN (jv1 4 ?_))))))
 refine jT ?_
 refine qT rfl ?_
 have : k = n := jo
 subst this
 exact ⟨A, c, rfl, hown, hfr, hA⟩
theorem qMp (B : Option Addr) (c0 : Nat) (l : List Bool) (w : World) (hl : l.length ≤ 1000000) (hr : Rd w 1 B l.length (BL l)) :
  Calls Tryz.prog 112 #[.slice B l.length c0] w fun e w' => ∃ A c, e = .returned (.slice A l.length c) ∧ Own w' 4 1 A l.length c (BL l.reverse) ∧ Frm [] w w' ∧ ∀ x ∈ ob A, w.heap.size ≤ x := by
 refine VC.calls (nt := 20) (res := #[.tmp 2]) Tryz.func112 rfl Tryz.ntmps112 Tryz.results112 rfl ?_
 refine jS (jR (ja rfl (jO (jN (jv1 0 ?_)))))
 refine jS (jR (ja rfl (jO (jN (jS (jS (jR (jm rfl (je (Run.lenS rfl zaw) (jb rfl rfl (Bin.subZ _ 1 jo jo) (ja rfl (jO (jN (jv3 0 3 4 ?_))))))))))))))
 refine jB ?_
 refine VC.loop (σ := Nat × Option Addr × Nat) (fun s => [(0, .slice B l.length c0), (3, .slice s.2.1 (l.length - s.1) s.2.2), (4, .int .i64 ((s.1 : Int) - 1))]) (fun s wr => s.1 ≤ l.length ∧ Own wr 4 1 s.2.1 (l.length - s.1) s.2.2 (BL (l.drop s.1).reverse) ∧ Frm [] w wr ∧ ∀ x ∈ ob s.2.1, w.heap.size ≤ x) (fun s => s.1) (l.length, none, 0) (js3 rfl (by rw [zgb]; rfl) rfl) ⟨jo, by rw [zgb, List.drop_length]; exact Own.nil _ _ _, Frm.refl _ _, by simp [ob]⟩ ?_
 rintro ⟨k, A, c⟩ wr ⟨hk, hown, hfr, hA⟩
 dsimp only at hk hown hfr hA ⊢
 refine jS (jS (jR (jm rfl (jb rfl rfl (Bin.geq _ 0) (jO (jN (jv4 0 3 4 9 ?_)))))))
 refine jD rfl (fun hc1 => ?_) fun hc1 => ?_
 ·
  obtain ⟨m, rfl⟩ : ∃ m, k = m + 1 := ⟨k - 1, jo⟩
  rw [show (((m + 1 : Nat) : Int) - 1) = ((m : Nat) : Int) from by omega]
  have hrw := hr.belowW hfr.below
  obtain ⟨ad, hB, _, hcell⟩ := hrw.2 jo
  subst hB
  have hm : l[m]? = some l[m] := zb jo
  have hcm := hcell m _ (qMo l m _ hm)
  refine jQ (jN (jv3 0 3 4 ?_))
  refine jS (jB (jR (jm rfl (jm rfl (jm rfl (je (Run.index1 _ rfl rfl zaw zfh jo) (jl rfl Tryz.isAgg4 hcm ?_)))))))
  refine Ops.m (qV.buildS1 rfl zaw zfh qY9 jd jd rfl rfl) rfl ?_
  rintro _ w1 ⟨rfl, hF⟩
  have hown1 := hown.frm hF.frm jp
  have hrd1 : Rd w1 1 (some ⟨wr.heap.size, 0, none⟩) 1 (BL [l[m]]) := Rd.of_blk hF.blk rfl
  refine Ops.m (qV.app rfl rfl zaw (oN) rfl jd hown1 hrd1 (oQ _) jo jo) rfl ?_
  rintro _ w2 ⟨A2, c2, rfl, hown2, hfr2, hob2⟩
  refine ja rfl (jO ?_)
  refine qJ (jN ?_)
  refine jv3 0 3 4 ?_
  refine jR (jm rfl (jb rfl rfl (Bin.subZ _ 1 jo jo) (ja rfl (jO ?_))))
  refine jN ⟨(m, A2, c2), (js3 rfl (by rw [show l.length - m = l.length - (m + 1) + 1 by omega]; rfl) rfl), ?_, ?_⟩
  ·
   have e1 : l.length - (m + 1) + 1 = l.length - m := jo
   have e2 : (l.drop m).reverse = (l.drop (m + 1)).reverse ++ [l[m]] := by rw [zcn jo, List.reverse_cons]
   refine ⟨by dsimp only; omega, ?_, ?_, ?_⟩
   · rw [e2, kX, ← e1]; exact hown2
   · exact (hfr.trans hF.frm jp).trans hfr2 (fun x hx => .inr (hA x hx))
   intro x hx
   have := hfr.size
   have := hF.size
   rcases hob2 with h | h <;> rw [h] at hx
   · exact hA x hx
   simp at hx; omega
  first | omega | (dsimp only; omega)
 refine jX ?_
 refine qZ (qZ (qW ?_))
 refine jN (jv1 3 ?_)
 refine jS (jR (jm rfl (ja rfl (jO (jN (jv1 2 ?_))))))
 refine jT ?_
 refine qT rfl ?_
 have : k = 0 := jo
 subst this
 rw [zcf, zby] at hown
 exact ⟨A, c, rfl, hown, hfr, hA⟩
theorem zF (B : Option Addr) (c0 : Nat) (l : List Bool) (w : World) (hl : l.length ≤ 1000000000) (hr : Rd w 1 B l.length (BL l)) :
  Calls Tryz.prog 68 #[.slice B l.length c0] w fun e w' => ∃ A c, e = .returned (.slice A (cB l).length c) ∧ Own w' 4 1 A (cB l).length c (BL (cB l)) ∧ Frm [] w w' ∧ ∀ x ∈ ob A, w.heap.size ≤ x := by
 refine VC.calls (nt := 15) (res := #[.tmp 2]) Tryz.func68 rfl Tryz.ntmps68 Tryz.results68 rfl ?_
 refine jS (jR (ja rfl (jO (jN (jv1 0 ?_)))))
 refine jS (jR ?_)
 refine Ops.m (qV.buildS0 zaw zfh) rfl ?_
 rintro _ w1 ⟨rfl, hF1⟩
 have ho1 : Own w1 4 1 (some ⟨w.heap.size, 0, none⟩) 0 0 [] := Own.of_blk hF1.blk rfl (by simp [maxLen])
 have hr1 := hr.frm hF1.frm jp
 refine jM ?_
 refine Ops.m (qV.app rfl rfl zaw (oN) rfl jd ho1 hr1 (oQ _) jo jo) rfl ?_
 rintro _ w2 ⟨A2, c2, rfl, hown2, hfr2, hob2⟩
 rw [zbf, zap] at hown2
 rw [zap]
 have hA2 : ∀ x ∈ ob A2, w.heap.size ≤ x := by
  intro x hx
  have := hF1.size
  rcases hob2 with h | h <;> rw [h] at hx
  · simp [ob] at hx; omega
  simp at hx; omega
 have hfr02 : Frm [] w w2 := hF1.frm.trans hfr2 (fun x hx => .inr (by simp [ob] at hx; omega))
 refine ja rfl (jO (jN (jv1 3 ?_)))
 refine jS (jB ?_)
 refine VC.loop (σ := List Bool × Option Addr × Nat) (fun s => [(3, .slice s.2.1 s.1.length s.2.2)]) (fun s wr => s.1.length ≤ (cB l).length ∧ cB s.1 = cB l ∧ Own wr 4 1 s.2.1 s.1.length s.2.2 (BL s.1) ∧ Frm [] w wr ∧ ∀ x ∈ ob s.2.1, w.heap.size ≤ x) (fun s => (cB l).length - s.1.length) (l, A2, c2) (js1 rfl) ⟨by rw [gP]; dsimp only; omega, rfl, hown2, hfr02, hA2⟩ ?_
 rintro ⟨o, A, c⟩ wr ⟨hk, hwo, hown, hfr, hA⟩
 dsimp only at hk hwo hown hfr hA ⊢
 have hwl := gP l
 have hwo2 := gP o
 rw [hwo] at hwo2
 refine jS (jS (jR (jm rfl (je (Run.lenS rfl zaw) (jb rfl rfl (Bin.remN _ 8 jo) (jb rfl rfl (Bin.neqN _ 0) (jO (jN (jv2 3 10 ?_)))))))))
 refine jD rfl (fun hc1 => ?_) fun hc1 => ?_
 ·
  refine jQ (jN (jv1 3 ?_))
  refine jB (jR (jM ?_))
  refine Ops.m (qV.buildS1 rfl zaw zfh qY9 jd jd rfl rfl) rfl ?_
  rintro _ w3 ⟨rfl, hF⟩
  have hown3 := hown.frm hF.frm jp
  have hrd3 : Rd w3 1 (some ⟨wr.heap.size, 0, none⟩) 1 (BL [false]) := Rd.of_blk hF.blk rfl
  refine Ops.m (qV.app rfl rfl zaw (oN) rfl jd hown3 hrd3 (oQ _) jo jo) rfl ?_
  rintro _ w4 ⟨A4, c4, rfl, hown4, hfr4, hob4⟩
  refine ja rfl (jO ?_)
  refine qJ (jN ⟨(o ++ [false], A4, c4), (js1 (by rw [za] <;> rfl)), ?_, ?_⟩)
  ·
   have e := qGa o hc1
   refine ⟨by rw [za]; simp; omega, by rw [e]; exact hwo, ?_, ?_, ?_⟩
   · rw [za, kX]; exact hown4
   · exact (hfr.trans hF.frm jp).trans hfr4 (fun x hx => .inr (hA x hx))
   intro x hx
   have := hfr.size
   have := hF.size
   rcases hob4 with h | h <;> rw [h] at hx
   · exact hA x hx
   simp at hx; omega
  simp only [za, zfv]; omega
 refine jX ?_
 refine qZ (qZ (qW ?_))
 refine jN (jv1 3 ?_)
 refine jS (jR (jm rfl (ja rfl (jO (jN (jv1 2 ?_))))))
 refine jT ?_
 refine qT rfl ?_
 have h0 : o.length % 8 = 0 := by simpa using hc1
 rw [qJ3 o h0] at hwo
 subst hwo
 exact ⟨A, c, rfl, hown, hfr, hA⟩
theorem qTz (B : Option Addr) (c0 : Nat) (bs : List Nat) (w : World) (hl : bs.length ≤ 1000000) (hb : ∀ b ∈ bs, b < 256) (hr : Rd w 1 B bs.length (NB bs)) :
  Calls Tryz.prog 69 #[.slice B bs.length c0] w fun e w' => ∃ A c, e = .returned (.slice A (8 * bs.length) c) ∧ Own w' 4 1 A (8 * bs.length) c (BL (ofB bs)) ∧ Frm [] w w' ∧ ∀ x ∈ ob A, w.heap.size ≤ x := by
 refine VC.calls (nt := 20) (res := #[.tmp 2]) Tryz.func69 rfl Tryz.ntmps69 Tryz.results69 rfl ?_
 refine jS (jR (ja rfl (jO (jN (jv1 0 ?_)))))
 refine jS (jR (ja rfl (jO (jN (jS (jS (jR (jz 0 (jO (jN (jB ?_)))))))))))
 refine VC.loop (σ := Nat × Option Addr × Nat) (fun s => [(0, .slice B bs.length c0), (3, .slice s.2.1 (8 * s.1) s.2.2), (4, .int .i64 s.1)]) (fun s wr => s.1 ≤ bs.length ∧ Own wr 4 1 s.2.1 (8 * s.1) s.2.2 (BL (ofB (bs.take s.1))) ∧ Frm [] w wr ∧ ∀ x ∈ ob s.2.1, w.heap.size ≤ x) (fun s => bs.length - s.1) (0, none, 0) (js3 rfl rfl rfl) ⟨jo, Own.nil _ _ _, Frm.refl _ _, by simp [ob]⟩ ?_
 rintro ⟨k, A, c⟩ wr ⟨hk, hown, hfr, hA⟩
 dsimp only at hk hown hfr hA ⊢
 refine jS (jS (jR (jm rfl (jm rfl (je (Run.lenS rfl zf) (jb rfl rfl (Bin.lssN _ _) (jO (jN (jv4 0 3 4 8 ?_)))))))))
 refine jD rfl (fun hc1 => ?_) fun hc1 => ?_
 ·
  have hrw := hr.belowW hfr.below
  obtain ⟨ad, hB, _, hcell⟩ := hrw.2 jo
  subst hB
  have hcm := hcell k _ (mS bs k hc1)
  have hbk : bs.getD k 0 < 256 := by
   rw [ze, zb hc1]
   exact hb _ (zt _)
  refine jQ (jN (jv3 0 3 4 ?_))
  refine jS (jB (jR (jm rfl (jm rfl (jm rfl (je (Run.index1 _ rfl rfl zf zad jo) (jl rfl zdr hcm (je (Run.convN _ rfl zat zv (by simp only [bmax]; omega)) ?_))))))))
  refine Ops.cl (jE2 Tryz.call103) (pY (bs.getD k 0) 8 _ jo jo) rfl ?_
  rintro e w1 ⟨A1, c1, rfl, ho1, hf1, hA1⟩
  refine ⟨_, rfl, ?_⟩
  have hown1 := hown.frm hf1 jp
  refine Ops.m (qV.app rfl rfl zaw (oN) rfl jd hown1 ho1.rd (oQ _) jo jo) rfl ?_
  rintro _ w2 ⟨A2, c2, rfl, hown2, hfr2, hob2⟩
  refine ja rfl (jO ?_)
  refine qJ (jN ?_)
  refine jv3 0 3 4 ?_
  refine jR (jm rfl (jb rfl rfl (Bin.add_i64 _ 1 jo) (ja rfl (jO ?_))))
  refine jN ⟨(k + 1, A2, c2), (js3 rfl (by rw [show 8 * (k + 1) = 8 * k + 8 by omega]; rfl) rfl), ?_, ?_⟩
  ·
   have e2 : ofB (bs.take (k + 1)) = ofB (bs.take k) ++ bitsL (bs.getD k 0) 8 := by
    have e : bs.take (k + 1) = bs.take k ++ [bs.getD k 0] := by
     rw [zah, zb hc1, ze, zb hc1]; rfl
    rw [e, fZ]
    simp [ofB]
   refine ⟨hc1, ?_, ?_, ?_⟩
   · rw [e2, kX, show 8 * (k + 1) = 8 * k + 8 by omega]; exact hown2
   · exact (hfr.trans hf1 jp).trans hfr2 (fun x hx => .inr (hA x hx))
   intro x hx
   have := hfr.size
   have := hf1.size
   rcases hob2 with h | h <;> rw [h] at hx
   · exact hA x hx
   simp at hx; omega
  first | omega | (dsimp only; omega)
 refine jX ?_
 refine qZ (qZ (qW ?_))
 refine jN (jv1 3 ?_)
 refine jS (jR (jm rfl (ja rfl (jO (jN (jv1 2 ?_))))))
 refine jT ?_
 refine qT rfl ?_
 have : k = bs.length := jo
 subst this
 rw [zas] at hown
 exact ⟨A, c, rfl, hown, hfr, hA⟩
theorem qWd (B : Option Addr) (c0 : Nat) (l : List Bool) (w : World) (hl : l.length ≤ 63) (hr : Rd w 1 B l.length (BL l)) :
  Calls Tryz.prog 104 #[.slice B l.length c0] w fun e w' => e = .returned (.int .u64 ((num l : Nat) : Int)) ∧ w = w' := by
 refine VC.calls (nt := 22) (res := #[.tmp 2]) Tryz.func104 rfl Tryz.ntmps104 Tryz.results104 rfl ?_
 refine jS (jR ?_)
 refine jy .u64 0 ?_
 refine jO (jN (jv1 0 ?_))
 refine jS (jR ?_)
 refine jy .u64 0 ?_
 refine jO (jN (jS (jS (jR (jm rfl (je (Run.lenS rfl zaw) (jb rfl rfl (Bin.subZ _ 1 jo jo) (ja rfl (jO (jN (jv3 0 3 4 ?_)))))))))))
 refine jB ?_
 refine VC.loop (σ := Nat) (fun s => [(0, .slice B l.length c0), (3, .int .u64 ((num (l.drop s) : Nat) : Int)), (4, .int .i64 ((s : Int) - 1))]) (fun s wr => s ≤ l.length ∧ wr = w) (fun s => s) l.length (js3 rfl (by rw [List.drop_length]; rfl) rfl) ⟨jo, rfl⟩ ?_
 rintro k wr ⟨hk, rfl⟩
 refine jS (jS (jR (jm rfl (jb rfl rfl (Bin.geq _ 0) (jO (jN (jv4 0 3 4 9 ?_)))))))
 refine jD rfl (fun hc1 => ?_) fun hc1 => ?_
 ·
  obtain ⟨m, rfl⟩ : ∃ m, k = m + 1 := ⟨k - 1, jo⟩
  rw [show (((m + 1 : Nat) : Int) - 1) = ((m : Nat) : Int) from by omega]
  obtain ⟨ad, hB, _, hcell⟩ := hr.2 jo
  subst hB
  have hm : l[m]? = some l[m] := zb jo
  have hcm := hcell m _ (qMo l m _ hm)
  have hnl := sG (l.drop (m + 1))
  have hpw : 2 ^ (l.drop (m + 1)).length ≤ 2 ^ 62 := zz jo (by rw [zr]; omega)
  have hstep : num (l.drop m) = l[m].toNat + 2 * num (l.drop (m + 1)) := by rw [zcn jo]; rfl
  refine jQ (jN (jv3 0 3 4 ?_))
  refine jS (jB (jS (jR (jm rfl (jm rfl (jb rfl rfl (Bin.add_u64 _ _ jo) (ja rfl (jO (jN (jv3 0 3 4 ?_))))))))))
  refine jS (jR (jm rfl (jm rfl (je (Run.index1 _ rfl rfl zaw zfh jo) (jl rfl Tryz.isAgg4 hcm (jO (jN (jv4 0 3 4 18 ?_))))))))
  refine VC.condB rfl (fun hc2 => ?_) (fun hc2 => ?_)
  ·
   rw [hc2, Bool.toNat_true] at hstep
   refine jR (jm rfl (jb rfl rfl (Bin.add_u64 _ 1 jo) (ja rfl (jO ?_))))
   refine qJ (jN ?_)
   refine jv3 0 3 4 ?_
   refine jR (jm rfl (jb rfl rfl (Bin.subZ _ 1 jo jo) (ja rfl (jO ?_))))
   refine jN ⟨m, (js3 rfl (by rw [show num (l.drop m) = num (l.drop (m + 1)) + num (l.drop (m + 1)) + 1 by omega]; rfl) rfl), ?_, ?_⟩
   · exact ⟨jo, rfl⟩
   first | omega | (dsimp only; omega)
  rw [hc2, Bool.toNat_false] at hstep
  refine jQ ?_
  refine qJ (jN ?_)
  refine jv3 0 3 4 ?_
  refine jR (jm rfl (jb rfl rfl (Bin.subZ _ 1 jo jo) (ja rfl (jO ?_))))
  refine jN ⟨m, (js3 rfl (by rw [show num (l.drop m) = num (l.drop (m + 1)) + num (l.drop (m + 1)) by omega]; rfl) rfl), ?_, ?_⟩
  · exact ⟨jo, rfl⟩
  first | omega | (dsimp only; omega)
 refine jX ?_
 refine qZ (qZ (qW ?_))
 refine jN (jv1 3 ?_)
 refine jS (jR (jm rfl (ja rfl (jO (jN (jv1 2 ?_))))))
 refine jT ?_
 refine qT rfl ?_
 have : k = 0 := jo
 subst this
 exact ⟨rfl, rfl⟩
theorem zA (l : List Bool) (k : Nat) {x : Nat} (h : (qC l)[k]? = some x) : eT ((qC l).take k) ++ ⟨#[UInt8.ofNat x]⟩ = eT ((qC l).take (k + 1)) := by
 rw [zah, h, ← dY]
 rfl
theorem oY (B : Option Addr) (c0 : Nat) (l : List Bool) (w : World) (hl : l.length ≤ 1000000000) (hr : Rd w 1 B l.length (BL l)) :
  Calls Tryz.prog 70 #[.slice B l.length c0] w fun e w' => e = .returned (.string (eT (qC l))) ∧ Frm [] w w' := by
 refine VC.calls (nt := 26) (res := #[.tmp 2]) Tryz.func70 rfl Tryz.ntmps70 Tryz.results70 rfl ?_
 refine jS (jR (ja rfl (jO (jN (jv1 0 ?_)))))
 refine jS (jR (jM ?_))
 refine Ops.cl (jE1 Tryz.call68) (zF B c0 l _ hl hr) rfl ?_
 rintro e w1 ⟨A1, c1, rfl, ho1, hf1, hA1⟩
 refine ⟨_, rfl, ?_⟩
 have hwl := gP l
 have hpl := cM l
 refine ja rfl (jO (jN (jv1 3 ?_)))
 refine jS (jR (ja rfl (jO (jN (jS (jS (jR (jz 0 (jO (jN (jB ?_)))))))))))
 refine VC.loop (σ := Nat) (fun s => [(3, .slice A1 (cB l).length c1), (4, .string (eT ((qC l).take s))), (5, .int .i64 ((8 * s : Nat) : Int))]) (fun s wr => s ≤ (qC l).length ∧ Own wr 4 1 A1 (cB l).length c1 (BL (cB l)) ∧ Frm [] w wr) (fun s => (qC l).length - s) 0 (js3 rfl rfl rfl) ⟨jo, ho1, hf1⟩ ?_
 rintro k wr ⟨hk, hown, hfr⟩
 have hcap := hown.le
 refine jS (jS (jR (jm rfl (jm rfl (je (Run.lenS rfl zaw) (jb rfl rfl (Bin.lssN _ _) (jO (jN (jv4 3 4 5 11 ?_)))))))))
 refine jD rfl (fun hc1 => ?_) fun hc1 => ?_
 ·
  refine jQ (jN (jv3 3 4 5 ?_))
  refine jS (jB (jR (jm rfl (jm rfl (jm rfl (jm rfl (jb rfl rfl (Bin.add_i64 _ 8 jo) (je (Run.sliceS _ _ rfl zaw zfh (evB.some_ rfl) (evB.some_ rfl) jo jo) ?_))))))))
  have hrd20 : Rd wr 1 (cC A1 c1 (8 * k) 1) (((cB l).drop (8 * k)).take 8).length (BL (((cB l).drop (8 * k)).take 8)) := by
   have := hown.rd.cut (cap := c1) (l := 8 * k) (r := 8 * k + 8) jo jo hcap
   rw [zdq, zdq, zds] at this
   have hlen : (((cB l).drop (8 * k)).take 8).length = 8 := by rw [zi, zr]; omega
   rw [hlen]
   simpa [BL, zdf, zgk] using this
  rw [show 8 * k + 8 - 8 * k = (((cB l).drop (8 * k)).take 8).length by rw [zi, zr]; omega]
  refine Ops.cl (jE1 Tryz.call104) (qWd _ _ (((cB l).drop (8 * k)).take 8) _ (by rw [zi]; omega) hrd20) rfl ?_
  rintro e w2 ⟨rfl, rfl⟩
  refine ⟨_, rfl, ?_⟩
  refine je (Run.conv8 _ rfl zv zat) ?_
  refine Ops.m (qV.buildS1 rfl zf zad pO jd jd rfl rfl) rfl ?_
  rintro _ w3 ⟨rfl, hF⟩
  have hpk := dC l k jo
  have hpw := dC (cB l) k jo
  rw [sO, hpk] at hpw
  have hnum : num (((cB l).drop (8 * k)).take 8) = num ((l.drop (8 * k)).take 8) := (Option.some.inj hpw).symm
  have hlt := sH l _ (zdh hpk)
  have hrd : Rd w3 1 (some ⟨wr.heap.size, 0, none⟩) 1 (U8 [UInt8.ofNat (num ((l.drop (8 * k)).take 8))]) := by
   have := Rd.of_blk (n := 1) (size := 1) hF.blk rfl
   rw [hnum] at this
   simpa [U8, Value.cells] using this
  refine je (Run.strOf rfl zf zat zci hrd) (je (Run.addStr rfl rfl (by rw [cZ, zi]; simp [ByteArray.size]; omega)) (ja rfl (jO ?_)))
  refine qJ (jN ?_)
  refine jv3 3 4 5 ?_
  refine jR (jm rfl (jb rfl rfl (Bin.add_i64 _ 8 jo) (ja rfl (jO ?_))))
  refine jN ⟨(k + 1), (js3 rfl (by rw [← zA l k hpk]; rfl) (by rw [show 8 * (k + 1) = 8 * k + 8 by omega]; rfl)), ?_, ?_⟩
  · exact ⟨jo, hown.frm hF.frm jp, hfr.trans hF.frm jp⟩
  first | omega | (dsimp only; omega)
 refine jX ?_
 refine qZ (qZ (qW ?_))
 refine jN (jv1 4 ?_)
 refine jS (jR (jm rfl (ja rfl (jO (jN (jv1 2 ?_))))))
 refine jT ?_
 refine qT rfl ?_
 have : k = (qC l).length := jo
 subst this
 rw [zas]
 exact ⟨rfl, hfr⟩
end
section
open Go.RowKit
def qTa (bs : List Nat) (p : Nat) (n : Int) (v e p' : Nat) : Prop :=
 (n < 0 ∨ 32 < n) ∧ v = 0 ∧ e = 1 ∧ p' = p ∨ ∃ m : Nat, n = m ∧ m ≤ 32 ∧ (8 * bs.length - p < m ∧ v = 0 ∧ e = 2 ∧ p' = p ∨ m ≤ 8 * bs.length - p ∧ v = num (((ofB bs).drop p).take m) ∧ e = 0 ∧ p' = p + m)
theorem qJ9 (g p : Nat) (n : Int) (A : Option Addr) (bs : List Nat) (w : World) (hp : p ≤ 8 * bs.length) (hbs : bs.length ≤ 1000000000) (hB : ∀ b ∈ bs, b < 256) (hR : IsR w g A bs p) :
  Calls Tryz.prog 131 #[.pointer (some ⟨g, 0, none⟩), .int .i64 n] w fun e w' => ∃ v k p', e = .returned (.tuple #[.int .u64 ((v : Nat) : Int), .int .i64 ((k : Nat) : Int)]) ∧ qTa bs p n v k p' ∧ p' ≤ 8 * bs.length ∧ IsR w' g A bs p' ∧ Frm [g] w w' := by
 by_cases h1 : n < 0
 · exact (qRh g n w h1).mono fun e w' ⟨he, hw⟩ => by subst hw; exact ⟨0, 1, p, he, .inl ⟨.inl h1, rfl, rfl, rfl⟩, hp, hR, Frm.refl _ _⟩
 by_cases h2 : 32 < n
 · exact (qRi g n w h2).mono fun e w' ⟨he, hw⟩ => by subst hw; exact ⟨0, 1, p, he, .inl ⟨.inr h2, rfl, rfl, rfl⟩, hp, hR, Frm.refl _ _⟩
 obtain ⟨m, rfl⟩ : ∃ m : Nat, n = m := ⟨n.toNat, jo⟩
 by_cases h3 : 8 * bs.length - p < m
 · exact (qGd g m p A bs w hp hbs hR jo h3).mono fun e w' ⟨he, hd⟩ => ⟨0, 2, p, he, .inr ⟨m, rfl, jo, .inl ⟨h3, rfl, rfl, rfl⟩⟩, hp, hR.frm hd.frm jp, hd.frm.mono jp⟩
 exact (qTy g m p A bs w hp hbs hB hR jo jo).mono fun e w' ⟨he, hR', hf⟩ => ⟨_, 0, p + m, he, .inr ⟨m, rfl, jo, .inr ⟨jo, rfl, rfl, rfl⟩⟩, jo, hR', hf⟩
def OctR (w' : World) (bs : List Nat) (p : Nat) (n : Int) (B : Option Addr) (nl c e p' : Nat) : Prop :=
 n < 0 ∧ nl = 0 ∧ e = 1 ∧ p' = (p + 7) / 8 * 8 ∨ ∃ m : Nat, n = m ∧ ((8 * bs.length - (p + 7) / 8 * 8) / 8 < m ∧ nl = 0 ∧ e = 2 ∧ p' = (p + 7) / 8 * 8 ∨ m ≤ (8 * bs.length - (p + 7) / 8 * 8) / 8 ∧ nl = m ∧ e = 0 ∧ p' = (p + 7) / 8 * 8 + 8 * m ∧ Own w' 5 1 B m c (NB ((bs.drop ((p + 7) / 8)).take m)))
theorem qGq (g p : Nat) (n : Int) (A : Option Addr) (bs : List Nat) (w : World) (hp : p ≤ 8 * bs.length) (hbs : bs.length ≤ 1000000000) (hR : IsR w g A bs p) :
  Calls Tryz.prog 134 #[.pointer (some ⟨g, 0, none⟩), .int .i64 n] w fun e w' => ∃ B nl c k p', e = .returned (.tuple #[.slice B nl c, .int .i64 ((k : Nat) : Int)]) ∧ OctR w' bs p n B nl c k p' ∧ p' ≤ 8 * bs.length ∧ IsR w' g A bs p' ∧ Frm [g] w w' := by
 by_cases h1 : n < 0
 · exact (qGe g n p A bs w hp hbs hR h1).mono fun e w' ⟨he, hR', hf⟩ => ⟨none, 0, 0, 1, _, he, .inl ⟨h1, rfl, rfl, rfl⟩, jo, hR', hf⟩
 obtain ⟨m, rfl⟩ : ∃ m : Nat, n = m := ⟨n.toNat, jo⟩
 by_cases h3 : (8 * bs.length - (p + 7) / 8 * 8) / 8 < m
 · exact (qJ7 g m p A bs w hp hbs hR h3).mono fun e w' ⟨he, hR', hf⟩ => ⟨none, 0, 0, 2, _, he, .inr ⟨m, rfl, .inl ⟨h3, rfl, rfl, rfl⟩⟩, jo, hR', hf⟩
 exact (qMg g m p A bs w hp hbs hR jo).mono fun e w' ⟨B, c, he, ho, hR', hf, _⟩ => ⟨B, m, c, 0, _, he, .inr ⟨m, rfl, .inr ⟨jo, rfl, rfl, rfl, ho⟩⟩, jo, hR', hf⟩
theorem oX (l : List Nat) (p m : Nat) (h : p + m ≤ l.length) {w : World} {A : Option Addr} {c : Nat} (hr : Rd w 1 A l.length (NB l)) (hc : l.length ≤ c) :
  Rd w 1 (cC A c p 1) ((l.drop p).take m).length (NB ((l.drop p).take m)) := by
 have e := hr.cut (l := p) (r := p + m) (cap := c) jo h hc
 have e1 : ((l.drop p).take m).length = p + m - p := by simp; omega
 have e2 : NB ((l.drop p).take m) = ((NB l).drop (p * 1)).take ((p + m - p) * 1) := by simp [NB, zdf, zgk]
 rw [e1, e2]
 exact e
end
section
open Go.RowKit
def uA (l : List Int) : Nat := (l.map fun x => if 0 < x then 2 ^ (15 - x.toNat) else 0).sum
theorem tZ {f h : Nat → Nat} : ∀ i, (∀ k, k < i → f k = h k) → KC f i = KC h i
 | 0, _ => rfl
 | i + 1, e => by rw [KC, KC, tZ i (fun k hk => e k jo), e i jo]
theorem qMq (f h : Nat → Nat) : ∀ i, KC (fun k => f k + h k) i = KC f i + KC h i
 | 0 => rfl
 | i + 1 => by rw [KC, KC, KC, qMq f h i, zgr]; omega
theorem qYa : ∀ i, KC (fun _ => 0) i = 0
 | 0 => rfl
 | i + 1 => by rw [KC, qYa i, zfo]
theorem qMr (m : Nat) : ∀ i, KC (fun k => if k = m then 1 else 0) i = if m < i then 2 ^ (15 - m) else 0
 | 0 => by simp [KC]
 | i + 1 => by
  rw [KC, qMr m i]
  by_cases h : i = m
  · subst h; simp
  by_cases h2 : m < i
  · simp [h, h2, show m < i + 1 by omega]
  simp [h, h2, show ¬ m < i + 1 by omega]
theorem qYb (l : List Int) (h : ∀ x ∈ l, 0 ≤ x ∧ x ≤ 15) : KC (cn l) 16 = uA l := by
 induction l with
 | nil =>
  have e : KC (cn []) 16 = KC (fun _ => 0) 16 := tZ 16 (fun k _ => by simp [cn])
  rw [e, qYa]; rfl
 | cons a r ih =>
  have ha := h a jp
  obtain ⟨m, rfl⟩ : ∃ m : Nat, a = m := ⟨a.toNat, jo⟩
  have ih := ih (fun x hx => h x (by simp [hx]))
  by_cases hm : m = 0
  ·
   subst hm
   have e : KC (cn (((0 : Nat) : Int) :: r)) 16 = KC (cn r) 16 := tZ 16 (fun k _ => by
    unfold cn
    split
    · rfl
    rename_i hk
    rw [zhs]
    have : ¬ (((0 : Nat) : Int) == (k : Int)) = true := by simp; omega
    rw [if_neg this, zdu])
   rw [e, ih]
   simp [uA]
  have e : KC (cn ((m : Int) :: r)) 16 = KC (fun k => (if k = m then 1 else 0) + cn r k) 16 := tZ 16 (fun k _ => by
   unfold cn
   by_cases hk : k = 0
   · simp [hk]; omega
   rw [if_neg hk, if_neg hk, zhs]
   by_cases hkm : k = m
   · subst hkm; simp; omega
   have : ¬ ((m : Int) == (k : Int)) = true := by simp; omega
   rw [if_neg this, if_neg hkm]; omega)
  rw [e, qMq, qMr, if_pos jo, ih]
  unfold uA
  rw [zai, zfj, if_pos jo, zac]
theorem qMs (l : List Int) (i : Nat) (h : i < l.length) : uA (l.take (i + 1)) = uA (l.take i) + if 0 < l[i] then 2 ^ (15 - l[i].toNat) else 0 := by
 unfold uA
 rw [zah, zb h]
 simp only [Option.toList_some, zbt, zht, zai, zhv, zfj, List.sum_nil, zdu]
theorem qJn (A : Option Addr) (c0 : Nat) (l : List Int) (w : World) (hl : l.length ≤ 1000000) (hr : Rd w 1 A l.length (IB l)) :
  Calls Tryz.prog 111 #[.slice A l.length c0] w fun e w' => ∃ B c, e = .returned (.slice B (bG l).length c) ∧ Own w' 3 1 B (bG l).length c (NI (bG l)) ∧ Frm [] w w' ∧ ∀ x ∈ ob B, w.heap.size ≤ x := by
 refine VC.calls (nt := 27) (res := #[.tmp 2]) Tryz.func111 rfl Tryz.ntmps111 Tryz.results111 rfl ?_
 refine jS (jR (ja rfl (jO (jN (jv1 0 ?_)))))
 refine jS (jR (ja rfl (jO (jN (jS (jS (jR (jz 1 (jO (jN (jB ?_)))))))))))
 refine VC.loop (σ := Nat × Option Addr × Nat) (fun s => [(0, .slice A l.length c0), (3, .slice s.2.1 (cR l s.1).length s.2.2), (4, .int .i64 ((s.1 : Nat) : Int))]) (fun s wr => 1 ≤ s.1 ∧ s.1 ≤ 16 ∧ Own wr 3 1 s.2.1 (cR l s.1).length s.2.2 (NI (cR l s.1)) ∧ Frm [] w wr ∧ ∀ x ∈ ob s.2.1, w.heap.size ≤ x) (fun s => 16 - s.1) (1, none, 0) (js3 rfl rfl rfl) ⟨zk 1, by dsimp only; omega, Own.nil _ _ _, Frm.refl _ _, jF⟩ ?_
 rintro ⟨n, B, c⟩ wr ⟨hn1, hn, ho, hfr, huB⟩
 dsimp only at hn1 hn ho hfr huB ⊢
 refine jS (jS (jR (jm rfl (jb rfl rfl (Bin.leqN _ 15) (jO (jN (jv4 0 3 4 7 ?_)))))))
 refine jD rfl (fun hc1 => ?_) fun hc1 => ?_
 ·
  refine jQ (jN (jv3 0 3 4 ?_))
  refine jS (jB (jS (jR (jz 0 (jO (jN (jB ?_)))))))
  refine VC.loop (σ := Nat × Option Addr × Nat) (fun s => [(0, .slice A l.length c0), (3, .slice s.2.1 (cR l n ++ bI l n s.1).length s.2.2), (4, .int .i64 ((n : Nat) : Int)), (5, .int .i64 ((s.1 : Nat) : Int))]) (fun s wr => s.1 ≤ l.length ∧ Own wr 3 1 s.2.1 (cR l n ++ bI l n s.1).length s.2.2 (NI (cR l n ++ bI l n s.1)) ∧ Frm [] w wr ∧ ∀ x ∈ ob s.2.1, w.heap.size ≤ x) (fun s => l.length - s.1) (0, B, c) (js4 rfl (by simp [bI]; rfl) rfl rfl) ⟨jo, by simpa [bI] using ho, hfr, huB⟩ ?_
  clear ho hfr huB
  rintro ⟨i, B, c⟩ wr ⟨hi, ho, hfr, huB⟩
  dsimp only at hi ho hfr huB ⊢
  have hsl : (cR l n ++ bI l n i).length ≤ l.length := by
   rw [za, fE]
   have h1 := uC l (n + 1)
   have h2 : atL l (n + 1) = atL l n + cn l n := rfl
   have h3 := nL l n jo i hi
   have h4 : (l.take i).count (n : Int) ≤ l.count (n : Int) := (zgw i l).count_le _
   have h5 : cn l n = l.count (n : Int) := by unfold cn; rw [if_neg jo]
   omega
  refine jS (jS (jR (jm rfl (jm rfl (je (Run.lenS rfl zd) (jb rfl rfl (Bin.lssN _ _) (jO (jN (jv5 0 3 4 5 13 ?_)))))))))
  refine jD rfl (fun hc2 => ?_) fun hc2 => ?_
  ·
   obtain ⟨ad, rfl, hcell⟩ := oR (hr.belowW hfr.below) hc2
   have hgt := wU l i hc2
   generalize hx : l[i] = x at *
   refine jQ (jN (jv4 0 3 4 5 ?_))
   refine jS (jB (jS (jR (jm rfl (jm rfl (je (Run.index1 _ rfl rfl zd zc jo) (jl rfl zg hcell (jm rfl (jb rfl rfl (Bin.eql _ _) (jO (jN (jv5 0 3 4 5 21 ?_))))))))))))
   refine jD rfl (fun hc3 => ?_) fun hc3 => ?_
   ·
    refine jR (jm rfl (jM ?_))
    refine Ops.m (qV.buildS1 rfl zd zc fS jd jd rfl rfl) rfl ?_
    rintro _ w7 ⟨rfl, hF7⟩
    have ho7 := ho.frm hF7.frm jp
    have hrd7 : Rd w7 1 (some ⟨wr.heap.size, 0, none⟩) 1 (NI [i]) := Rd.of_blk hF7.blk rfl
    refine Ops.m (qV.app rfl rfl zd (dX) rfl jd ho7 hrd7 (fH [i]) jo jo) rfl ?_
    rintro _ w8 ⟨A8, c8, rfl, ho8, hf8, hob8⟩
    have hfr7 := hfr.own hF7.frm jp
    have hfr8 := hfr7.own hf8 huB
    have hu8 := cG huB hob8 hfr7.size
    refine ja rfl (jO ?_)
    refine qJ (jN ?_)
    refine jv4 0 3 4 5 ?_
    refine jR (jm rfl (jb rfl rfl (Bin.add_i64 _ 1 jo) (ja rfl (jO ?_))))
    have e : cR l n ++ bI l n (i + 1) = (cR l n ++ bI l n i) ++ [i] := by
     unfold bI
     rw [if_neg jo, if_neg jo, zex, zff, zgi (by rw [hgt]; simpa using hc3), zj]
     rfl
    have e2 : (cR l n ++ bI l n i ++ [i]).length = (cR l n ++ bI l n i).length + 1 := za
    refine jN ⟨(i + 1, A8, c8), (js4 rfl (by dsimp only; rw [e, e2]; rfl) rfl rfl), ?_, ?_⟩
    ·
     refine ⟨hc2, ?_, hfr8, hu8⟩
     dsimp only
     rw [e]
     generalize cR l n ++ bI l n i = sy at *
     rw [e2, nO]
     exact ho8
    first | omega | (dsimp only; omega)
   refine jQ ?_
   refine qJ (jN ?_)
   refine jv4 0 3 4 5 ?_
   refine jR (jm rfl (jb rfl rfl (Bin.add_i64 _ 1 jo) (ja rfl (jO ?_))))
   have e : bI l n (i + 1) = bI l n i := by
    unfold bI
    split
    · rfl
    rw [zex, zff, zgj (by rw [hgt]; simp; omega)]
    simp
   refine jN ⟨(i + 1, B, c), (js4 rfl (by dsimp only; rw [e]; rfl) rfl rfl), ?_, ?_⟩
   ·
    refine ⟨hc2, ?_, hfr, huB⟩
    dsimp only
    rw [e]
    exact ho
   first | omega | (dsimp only; omega)
  have hil : i = l.length := jo
  have hord : cR l n ++ bI l n i = cR l (n + 1) := by rw [mT, hil]; rfl
  rw [hord] at ho
  refine jX ?_
  refine qZ (qZ (qW ?_))
  refine qJ (jN ?_)
  refine jv3 0 3 4 ?_
  refine jR (jm rfl (jb rfl rfl (Bin.add_i64 _ 1 jo) (ja rfl (jO ?_))))
  refine jN ⟨(n + 1, B, c), (js3 rfl (by dsimp only; rw [← hord]; rfl) rfl), ?_, ?_⟩
  · exact ⟨by dsimp only; omega, by dsimp only; omega, ho, hfr, huB⟩
  first | omega | (dsimp only; omega)
 have hn16 : n = 16 := jo
 subst hn16
 refine jX ?_
 refine qZ (qZ (qW ?_))
 refine jN (jv1 3 ?_)
 refine jS (jR (jm rfl (ja rfl (jO (jN (jv1 2 ?_))))))
 refine jT ?_
 refine qT rfl ?_
 exact ⟨B, c, rfl, ho, hfr, huB⟩
theorem qJo (A : Option Addr) (c0 : Nat) (l : List Int) (w : World) (hg : fG l) (hr : Rd w 1 A l.length (IB l)) :
  Calls Tryz.prog 80 #[.slice A l.length c0] w fun e w' => ∃ B c, e = .returned (.slice B l.length c) ∧ Own w' 179 2 B l.length c ((cW l).flatMap CB) ∧ Frm [] w w' ∧ ∀ x ∈ ob B, w.heap.size ≤ x := by
 have hl := hg.1
 refine VC.calls (nt := 48) (res := #[.tmp 2]) Tryz.func80 rfl Tryz.ntmps80 Tryz.results80 rfl ?_
 refine jS (jR (ja rfl (jO (jN (jv1 0 ?_)))))
 refine jS (jR (jm rfl (je (Run.lenS rfl zd) ?_)))
 refine Ops.m (qV.makeS rfl rfl zdy (qW5) rfl jo jo) rfl ?_
 rintro _ w8 ⟨rfl, ho8, hf8, hs8⟩
 have hlt8 : w.heap.size < w8.heap.size := jo
 have ho8 : Own w8 179 2 (some ⟨w.heap.size, 0, none⟩) l.length l.length ((lQ l 0).flatMap CB) := by
  have e : lQ l 0 = eR l 0 := by unfold lQ eR; simp
  rw [e, ← xK]; exact ho8
 generalize hgo0 : w.heap.size = go at ho8 hlt8 ⊢
 refine ja rfl (jO (jN (jv2 0 3 ?_)))
 refine jS (jR (jM ?_))
 refine Ops.cl (jE1 Tryz.call111) (qJn A c0 l _ jo (hr.belowW hf8.below)) rfl ?_
 rintro e w1 ⟨Bo, co, rfl, hord, hf1, huo⟩
 refine ⟨_, rfl, ?_⟩
 have ho1 := ho8.frm hf1 jp
 have hfr1 := hf8.own hf1 jp
 have hgo : go ∉ ob Bo := fun h => by have := huo go h; omega
 refine ja rfl (jO (jN (jv3 0 3 4 ?_)))
 refine jS (jR ?_)
 refine jy .u64 0 ?_
 refine jz 0 (jO (jN (jS (jS (jR (jz 0 (jO (jN (jB ?_)))))))))
 refine VC.loop (σ := Nat) (fun s => [(0, .slice A l.length c0), (3, .slice (some ⟨go, 0, none⟩) l.length l.length), (4, .slice Bo (bG l).length co), (5, .int .u64 ((codeP l s : Nat) : Int)), (6, .int .i64 ((wasL l s : Nat) : Int)), (7, .int .i64 s)]) (fun s wr => s ≤ (bG l).length ∧ Own wr 179 2 (some ⟨go, 0, none⟩) l.length l.length ((lQ l s).flatMap CB) ∧ Own wr 3 1 Bo (bG l).length co (NI (bG l)) ∧ Frm [] w wr) (fun s => (bG l).length - s) 0 (js6 rfl rfl rfl rfl rfl rfl) ⟨jo, ho1, hord, hfr1⟩ ?_
 rintro i w5 ⟨hi, ho, hord, hfr⟩
 refine jS (jS (jR (jm rfl (jm rfl (je (Run.lenS rfl zd) (jb rfl rfl (Bin.lssN _ _) (jO (jN (jv7 0 3 4 5 6 7 17 ?_)))))))))
 refine jD rfl (fun hc1 => ?_) fun hc1 => ?_
 ·
  have hoi := zb hc1
  have holen := qMj l
  have hatl := uC l 16
  obtain ⟨ad, rfl, hcell⟩ := rV hord.rd hc1
  generalize hj : (bG l)[i] = j at *
  obtain ⟨n, hn1, hn15, hjl, hjn, hti, hrk⟩ := qMi l i j hoi
  obtain ⟨ad2, rfl, hcell2⟩ := oR (hr.belowW hfr.below) hjl
  have hgt := wU l j hjl
  rw [hjn] at hgt
  rw [← hgt] at hcell2
  obtain ⟨hwn, hcp⟩ := qGk l i j n hoi hjn
  have hsm := uE l hl n hn15
  have hcj : bU l j = bC l n + gC l j := by unfold bU; rw [hjn, zac]
  have hcb : bU l j ≤ 10485760 := jo
  have hcc : cA l j = (bU l j, (n : Int)) := by unfold cA; rw [hjn, if_neg jo]
  have hpo : 0 < 2 ^ (n - wasL l i) := zft _
  have hc1le : (if i = 0 then 0 else codeP l i + 1) ≤ bU l j := by rw [← hcp]; exact Nat.le_mul_of_pos_right _ hpo
  generalize hc1v : (if i = 0 then 0 else codeP l i + 1) = c1 at *
  refine jQ (jN (jv6 0 3 4 5 6 7 ?_))
  refine jS (jB (jS (jR (jm rfl (jm rfl (jm rfl (je (Run.index1 _ rfl rfl zd zc jo) (jl rfl zg hcell (je (Run.index1 _ rfl rfl zd zc jo) (jl rfl zg hcell2 (ja rfl (jO (jN (jv7 0 3 4 5 6 7 8 ?_))))))))))))))
  refine jS (jS (jR (jm rfl (jb rfl rfl (Bin.gtrN _ 0) (jO (jN (jv8 0 3 4 5 6 7 8 28 ?_)))))))
  refine VC.meet (σ := Unit) (fun s => [(0, .slice (some ad2) l.length c0), (3, .slice (some ⟨go, 0, none⟩) l.length l.length), (4, .slice (some ad) (bG l).length co), (5, .int .u64 ((c1 : Nat) : Int)), (6, .int .i64 ((wasL l i : Nat) : Int)), (7, .int .i64 i), (8, .int .i64 ((n : Nat) : Int))]) (fun s w9 => w5 = w9) ?_ ?_
  ·
   refine jD rfl (fun hc2 => ?_) fun hc2 => ?_
   ·
    rw [if_neg jo] at hc1v
    refine jR (jm rfl (jb rfl rfl (Bin.add_u64 _ 1 jo) (ja rfl (jO ?_))))
    refine jN ⟨(), (js7 rfl rfl rfl (by rw [← hc1v]; rfl) rfl rfl rfl), ?_⟩
    rfl
   refine jQ ?_
   refine jN ⟨(), (js7 rfl rfl rfl (by rw [← hc1v, if_pos jo]; rw [show codeP l i = 0 by unfold codeP; rw [if_pos jo]]; rfl) rfl rfl rfl), ?_⟩
   rfl
  rintro _ _ rfl Γ hΓ
  refine jN (VC.sub _ hΓ (jS (jB ?_)))
  refine VC.loop (σ := Nat) (fun s => [(0, .slice (some ad2) l.length c0), (3, .slice (some ⟨go, 0, none⟩) l.length l.length), (4, .slice (some ad) (bG l).length co), (5, .int .u64 ((c1 * 2 ^ (s - wasL l i) : Nat) : Int)), (6, .int .i64 ((s : Nat) : Int)), (7, .int .i64 i), (8, .int .i64 ((n : Nat) : Int))]) (fun s wr => wasL l i ≤ s ∧ s ≤ n ∧ w5 = wr) (fun s => n - s) (wasL l i) (js7 rfl rfl rfl (by rw [zgb, zhw, zdq]; rfl) rfl rfl rfl) ⟨zk _, hwn, rfl⟩ ?_
  rintro s _ ⟨hs1, hs2, rfl⟩
  refine jS (jS (jR (jm rfl (jm rfl (jb rfl rfl (Bin.lssN _ _) (jO (jN (jv8 0 3 4 5 6 7 8 33 ?_))))))))
  refine jD rfl (fun hc3 => ?_) fun hc3 => ?_
  ·
   have hp1 : 2 ^ (s + 1 - wasL l i) = 2 ^ (s - wasL l i) * 2 := by rw [← zbo]; congr 1; omega
   have hle : c1 * 2 ^ (s + 1 - wasL l i) ≤ bU l j := by rw [← hcp]; exact zge _ (zz jo jo)
   rw [hp1, ← zdm] at hle
   refine jQ (jN (jv7 0 3 4 5 6 7 8 ?_))
   refine jB (jS (jR (jm rfl (jb rfl rfl (Bin.mul_u64 _ 2 jo) (ja rfl (jO (jN (jv7 0 3 4 5 6 7 8 ?_))))))))
   refine jR (jm rfl (jb rfl rfl (Bin.add_i64 _ 1 jo) (ja rfl (jO ?_))))
   refine qJ (jN ⟨(s + 1), (js7 rfl rfl rfl (by rw [hp1, ← zdm]; rfl) rfl rfl rfl), ?_, ?_⟩)
   · exact ⟨jo, jo, rfl⟩
   first | omega | (dsimp only; omega)
  have hsn : s = n := jo
  subst hsn
  rw [hcp]
  refine jX ?_
  refine qZ (qZ (qW ?_))
  refine jN (jv7 0 3 4 5 6 7 8 ?_)
  refine jR (jm rfl (jm rfl (jm rfl (je (Run.index1 _ rfl rfl zd zc jo) (jl rfl zg hcell (jm rfl (jm rfl (je (Run.build (evs.cons rfl (evs.cons rfl evs.nil)) oI (gN).choose_spec.1 (gN).choose_spec.2 rfl) (je (Run.indexS _ rfl rfl zdy zdl jo) ?_)))))))))
  refine Ops.st (qR.storeOwnA CB (bU l j, (s : Int)) j rfl rfl zdl zD (by simp [lQ]) ho rfl hjl (zE _)) ?_
  rintro w3 ⟨ho3, hf3, hs3⟩
  rw [← hcc, qGi l i j hoi] at ho3
  refine jO ?_
  refine qJ (jN ?_)
  refine jv6 0 3 4 5 6 7 ?_
  refine jR (jm rfl (jb rfl rfl (Bin.add_i64 _ 1 jo) (ja rfl (jO ?_))))
  refine jN ⟨(i + 1), (js6 rfl rfl rfl (by rw [show codeP l (i + 1) = bU l j by unfold codeP; simp [List.getD, hoi]]; rfl) (by rw [show wasL l (i + 1) = s by unfold wasL; simp [List.getD, hoi]; rw [List.getD] at hjn; simp [hjn]]; rfl) rfl), ?_, ?_⟩
  · refine ⟨jo, ho3, hord.frm hf3 (fun x hx hx2 => by simp [ob] at hx2; subst hx2; exact hgo hx), hfr.own hf3 (by simp [ob]; omega)⟩
  first | omega | (dsimp only; omega)
 have hio : i = (bG l).length := jo
 subst hio
 rw [qGj l hg.2] at ho
 refine jX ?_
 refine qZ (qZ (qW ?_))
 refine jN (jv1 3 ?_)
 refine jS (jR (jm rfl (ja rfl (jO (jN (jv1 2 ?_))))))
 refine jT ?_
 refine qT rfl ?_
 exact ⟨_, _, rfl, ho, hfr, by first | (simp [ob]; done) | (simp [ob]; omega)⟩
end
section
open Go.RowKit
theorem qKa {l : List Int} {n v : Nat} (h : ¬ (bC l n ≤ v ∧ v - bC l n < cn l n)) : hit l n v = none := by unfold hit; rw [if_neg h]
theorem qRj {l : List Int} {n v : Nat} (h : bC l n ≤ v ∧ v - bC l n < cn l n) : hit l n v = some ((bG l).getD (atL l n + (v - bC l n)) 0) := by unfold hit; rw [if_pos h]
theorem qBe (v : Nat) (b : Bool) : (v * 2 ^ 1) ||| b.toNat = 2 * v + b.toNat := by
 have h := qJ2 b.toNat 1 true (by cases b <;> decide)
 have h2 : (v * 2 ^ 1) ||| b.toNat = v * 2 ^ 1 + b.toNat := by
  rw [zcw, ← zhj (by cases b <;> decide)]
 rw [h2]
 omega
theorem qGr (g gr : Nat) (B Ar : Option Addr) (c : Nat) (l : List Int) (most p : Nat) (bs : List Nat) (w : World) (hl : l.length ≤ 320) (hm : most ≤ 15) (hp : p ≤ 8 * bs.length) (hbs : bs.length ≤ 1000000000) (hB : ∀ b ∈ bs, b < 256)
  (hD : IsD w g B c (cn l) (bC l) (bG l) most) (hR : IsR w gr Ar bs p) :
  Calls Tryz.prog 146 #[.pointer (some ⟨g, 0, none⟩), .pointer (some ⟨gr, 0, none⟩)] w fun e w' => e = .returned (.tuple #[.int .i64 (((tk l (ofB bs) most 1 0 p).1 : Nat) : Int), .int .i64 (((tk l (ofB bs) most 1 0 p).2.2 : Nat) : Int)]) ∧
   (tk l (ofB bs) most 1 0 p).2.1 ≤ 8 * bs.length ∧ IsR w' gr Ar bs (tk l (ofB bs) most 1 0 p).2.1 ∧ Frm [gr] w w' := by
 have hgr : g ≠ gr := hD.1.ne hR.choose_spec.1 jd
 have hgB : gr ∉ ob B := hD.2.ne_blk hR.choose_spec.1 jd
 have hne : ∀ x ∈ g :: ob B, x ∉ [gr] := by
  intro x hx hx2
  simp at hx2
  subst hx2
  rcases zbv.1 hx with h | h
  · exact hgr h.symm
  exact hgB h
 generalize hT : tk l (ofB bs) most 1 0 p = R
 have holen := fE l 16
 have hbl := bL bs
 refine VC.calls (nt := 77) (res := #[.tmp 4, .tmp 5]) Tryz.func146 rfl Tryz.ntmps146 Tryz.results146 rfl ?_
 refine jS (jR (jz 0 (jz 0 (jO (jN (jv2 0 1 ?_))))))
 refine jS (jR ?_)
 refine jy .u64 0 ?_
 refine jz 0 (jO (jN (jS (jS (jR (jz 1 (jO (jN (jB ?_)))))))))
 refine VC.loop (σ := Nat × Nat × Nat × Nat) (fun s => [(0, .pointer (some ⟨g, 0, none⟩)), (1, .pointer (some ⟨gr, 0, none⟩)), (6, .int .u64 ((s.2.2.1 : Nat) : Int)), (7, .int .i64 ((atL l s.2.1 : Nat) : Int)), (8, .int .i64 ((s.2.1 : Nat) : Int))]) (fun s wr => s.1 + s.2.1 = most + 1 ∧ 1 ≤ s.2.1 ∧ s.2.2.1 < 2 ^ (s.2.1 - 1) ∧ s.2.2.2 ≤ 8 * bs.length ∧ tk l (ofB bs) s.1 s.2.1 s.2.2.1 s.2.2.2 = R ∧ IsR wr gr Ar bs s.2.2.2 ∧ IsD wr g B c (cn l) (bC l) (bG l) most ∧ Frm [gr] w wr) (fun s => s.1) (most, 1, 0, p) (js5 rfl rfl rfl (by rw [show atL l 1 = 0 by simp [atL, cn]]; rfl) rfl) ⟨rfl, zk 1, jp, hp, hT, hR, hD, Frm.refl _ _⟩ ?_
 clear hT hR hp hD
 rintro ⟨m, n, v, q⟩ wr ⟨hmn, hn1, hv, hq, hT, hR, hD, hfr⟩
 dsimp only at hmn hn1 hv hq hT hR hD hfr ⊢
 refine jS (jS (jR (jm rfl (jm rfl (je (Run.nilck rfl) (jf rfl zcu rfl zc (jl rfl zg (hD.1.cell 33) (jb rfl rfl (Bin.leqN _ _) (jO (jN (jv6 0 1 6 7 8 17 ?_)))))))))))
 refine jD rfl (fun hc1 => ?_) fun hc1 => ?_
 ·
  obtain ⟨m, rfl⟩ : ∃ k, m = k + 1 := ⟨m - 1, jo⟩
  have hpw : 2 ^ (n - 1) ≤ 2 ^ 14 := zz jo jo
  have hpn : 2 ^ n = 2 ^ (n - 1) * 2 := by rw [← zbo]; congr 1; omega
  have hsm := uE l hl n jo
  have hat := uC l (n + 1)
  have hat2 : atL l (n + 1) = atL l n + cn l n := rfl
  have hat16 := pV l (jo : n + 1 ≤ 16)
  refine jQ (jN (jv5 0 1 6 7 8 ?_))
  refine jS (jB (jS (jR (jM ?_))))
  refine Ops.cl (jE2 Tryz.call131) (qJ9 gr q 1 Ar bs _ hq jo hB hR) rfl ?_
  rintro e w4 ⟨b0, e4, q4, rfl, hTk, hq4, hR4, hf4⟩
  refine ⟨_, rfl, ?_⟩
  have hD4 := hD.frm hf4 hne
  have hfr4 := hfr.trans hf4 jp
  obtain ⟨k1, hk1, _, hTk⟩ := hTk.resolve_left jo
  have hk1 : k1 = 1 := jo
  subst hk1
  refine jm rfl (je (Run.extract rfl rfl) (je (Run.extract rfl rfl) (ja rfl (ja rfl (jO (jN (jv7 0 1 6 7 8 9 10 ?_)))))))
  refine jS (jS (jR (jm rfl (jb rfl rfl (Bin.neqN _ 0) (jO (jN (jv8 0 1 6 7 8 9 10 26 ?_)))))))
  refine jD rfl (fun hc2 => ?_) fun hc2 => ?_
  ·
   obtain ⟨hq5, rfl, rfl, rfl⟩ := hTk.resolve_right (fun h => by have := h.2.2.1; omega)
   have hnone : (ofB bs)[q4]? = none := zu jo
   rw [tk, hnone] at hT
   dsimp only at hT
   subst hT
   refine jS (jR (jm rfl (jz 0 (ja rfl (jO (jN (jv2 4 5 ?_)))))))
   refine jT ?_
   refine qP (qO (qP (qP (qO (qP (cY rfl rfl ?_))))))
   exact ⟨rfl, hq4, hR4, hfr4⟩
  obtain ⟨hq5, hb0, _, rfl⟩ := hTk.resolve_left (fun h => by have := h.2.2.1; omega)
  obtain ⟨b, hb⟩ : ∃ b, (ofB bs)[q]? = some b := ⟨_, zb (jo : q < (ofB bs).length)⟩
  have hb0e : b0 = b.toNat := by rw [hb0, qB1 _ _ _ hb]; simp [num]
  clear hb0
  subst hb0e
  have hb1 : b.toNat ≤ 1 := Bool.toNat_le _
  rw [tk, hb] at hT
  dsimp only at hT
  refine jQ (jN (jv6 0 1 6 7 8 9 ?_))
  refine jS (jR (jm rfl (jb rfl rfl (Bin.shl_u64 _ 1 jo jo) (jm rfl (jb rfl rfl (Bin.or_u64 _ _ jo jo) ?_)))))
  rw [qBe]
  refine ja rfl (jO (jN (jv5 0 1 6 7 8 ?_)))
  refine jS (jS (jR (jm rfl (jm rfl (jm rfl (je (Run.nilck rfl) (jf rfl zcu rfl zga (je (Run.indexA1 _ rfl rfl zfp zbl jo) (jl rfl zcj (by simpa using (hD4.1.cell (16 + n)).trans (DC_f _ _ _ _ _ _ n jo)) (jb rfl rfl (Bin.subU _ _ jo) ?_))))))))))
  refine ja rfl (jO (jN (jv6 0 1 6 7 8 11 ?_)))
  refine jS ?_
  refine VC.split1 [(0, _), (1, _), (6, _), (7, _), (8, _), (11, _)] (js6 rfl rfl rfl rfl rfl rfl) 58 (.bool (decide (bC l n ≤ 2 * v + b.toNat ∧ 2 * v + b.toNat - bC l n < cn l n))) ?_ ?_
  ·
   refine jR ?_
   refine jm rfl (jm rfl (jm rfl (je (Run.nilck rfl) (jf rfl zcu rfl zga (je (Run.indexA1 _ rfl rfl zfp zbl jo) (jl rfl zcj (by simpa using (hD4.1.cell (16 + n)).trans (DC_f _ _ _ _ _ _ n jo)) (jb rfl rfl (Bin.geqN _ _) ?_)))))))
   by_cases hs47 : bC l n ≤ 2 * v + b.toNat
   ·
    have hsub : (2 * v + b.toNat + 18446744073709551616 - bC l n) % 18446744073709551616 = 2 * v + b.toNat - bC l n := jo
    refine jM ?_
    refine jk (Run.mv rfl) ?_
    refine jk (Run.mv rfl) ?_
    refine jk (Run.mv rfl) ?_
    refine jk (Run.nilck rfl) ?_
    refine jk (Run.fieldAddr rfl zcu rfl zce jd) ?_
    refine jk (Run.indexA1 _ rfl rfl zeu zc jo) ?_
    refine jk (Run.load rfl zg (by simpa using (hD4.1.cell n).trans (DC_c _ _ _ _ _ _ n jo))) ?_
    refine jk (Run.convN _ rfl zaa zv (by simp only [bmax]; omega)) ?_
    refine jk (Run.bin rfl rfl (Bin.lssN _ _)) ?_
    by_cases hs57 : 2 * v + b.toNat - bC l n < cn l n
    ·
     refine je (Run.pickT rfl rfl au) (jO ?_)
     refine jN ⟨(js7 (jC (by simp [*])) rfl rfl rfl rfl rfl rfl), rfl⟩
    refine je (Run.pickT rfl rfl au) (jO ?_)
    refine jN ⟨(js7 (jC (by simp [*])) rfl rfl rfl rfl rfl rfl), rfl⟩
   refine jM ?_
   refine jU ?_
   refine jU ?_
   refine jU ?_
   refine jU ?_
   refine jU ?_
   refine jU ?_
   refine jU ?_
   refine jU ?_
   refine jU ?_
   refine je (Run.pickF rfl rfl au) (jO ?_)
   refine jN ⟨(js7 (jC (by simp [*])) rfl rfl rfl rfl rfl rfl), rfl⟩
  intro Γ hΓ
  refine jN (VC.sub _ hΓ ?_)
  refine jD rfl (fun hc3 => ?_) fun hc3 => ?_
  ·
   have hsub : (2 * v + b.toNat + 18446744073709551616 - bC l n) % 18446744073709551616 = 2 * v + b.toNat - bC l n := jo
   rw [qRj hc3] at hT
   dsimp only at hT
   subst hT
   have hlt : atL l n + (2 * v + b.toNat - bC l n) < (bG l).length := by unfold bG; rw [holen]; omega
   obtain ⟨ad, rfl, hcell⟩ := rV hD4.2.rd hlt
   refine jS (jR (jm rfl (je (Run.nilck rfl) (jf rfl zcu rfl zar (jl rfl zbq (hD4.1.cell 32) (jm rfl (jm rfl (je (Run.convN _ rfl zv zaa (by simp only [bmax]; omega)) (jb rfl rfl (Bin.add_i64 _ _ jo) (je (Run.index1 _ rfl rfl zd zc jo) (jl rfl zg (by rw [hsub]; exact hcell) (ja rfl (jz 0 (jO (jN (jv2 4 5 ?_))))))))))))))))
   refine jT ?_
   refine qP (qO (qP (qP (qO (qP (cY rfl rfl ?_))))))
   refine ⟨?_, hq4, hR4, hfr4⟩
   rw [ze, zb hlt]
   rfl
  rw [qKa hc3] at hT
  dsimp only at hT
  refine jQ (jN (jv5 0 1 6 7 8 ?_))
  refine jR (jm rfl (jm rfl (jm rfl (je (Run.nilck rfl) (jf rfl zcu rfl zce (je (Run.indexA1 _ rfl rfl zeu zc jo) (jl rfl zg (by simpa using (hD4.1.cell n).trans (DC_c _ _ _ _ _ _ n jo)) (jb rfl rfl (Bin.add_i64 _ _ jo) ?_))))))))
  refine ja rfl (jO ?_)
  refine qJ (jN ?_)
  refine jv5 0 1 6 7 8 ?_
  refine jR (jm rfl (jb rfl rfl (Bin.add_i64 _ 1 jo) (ja rfl (jO ?_))))
  refine jN ⟨(m, n + 1, 2 * v + b.toNat, q + 1), (js5 rfl rfl rfl rfl rfl), ?_, ?_⟩
  · exact ⟨by dsimp only; omega, by dsimp only; omega, by dsimp only; rw [zgp]; omega, hq4, hT, hR4, hD4, hfr4⟩
  first | omega | (dsimp only; omega)
 have hm0 : m = 0 := jo
 subst hm0
 rw [tk] at hT
 subst hT
 refine jX ?_
 refine qZ (qZ (qW ?_))
 refine jN ?_
 refine VC.sub [] .nil ?_
 refine jS (jR (jz 0 (jz 11 (jO (jN (jT ?_))))))
 refine cY rfl rfl ?_
 exact ⟨rfl, hq, hR, hfr⟩
end
section
open Go.RowKit
def lgM (bs : List Nat) : Nat → Nat → Nat → Nat
 | _, _, 0 => 0
 | f, a, m + 1 => if a < bs.length ∧ bs.getD f 0 = bs.getD a 0 then lgM bs (f + 1) (a + 1) m + 1 else 0
def longM (bs : List Nat) (f a : Nat) : Nat := lgM bs f a 258
theorem qMt (bs : List Nat) : ∀ m f a, lgM bs f a m ≤ m
 | 0, _, _ => zk _
 | m + 1, f, a => by
  unfold lgM
  split
  · have := qMt bs m (f + 1) (a + 1); omega
  omega
theorem qYc (bs : List Nat) : ∀ m f a, a ≤ bs.length → a + lgM bs f a m ≤ bs.length
 | 0, _, _, h => h
 | m + 1, f, a, h => by
  unfold lgM
  split
  ·
   rename_i h1
   have := qYc bs m (f + 1) (a + 1) jo; omega
  omega
theorem qKb (bs : List Nat) : ∀ m f a k, k ≤ m → (k ≤ lgM bs f a m ↔ ∀ j, j < k → a + j < bs.length ∧ bs.getD (f + j) 0 = bs.getD (a + j) 0)
 | 0, f, a, k, hk => by
  obtain rfl : k = 0 := jo
  simp
 | m + 1, f, a, 0, hk => jp
 | m + 1, f, a, k + 1, hk => by
  unfold lgM
  by_cases h : a < bs.length ∧ bs.getD f 0 = bs.getD a 0
  ·
   rw [if_pos h]
   have ih := qKb bs m (f + 1) (a + 1) k jo
   constructor
   ·
    intro h1 j hj
    cases j with
    | zero => exact h
    | succ j =>
     have := ih.1 jo j jo
     rw [show f + 1 + j = f + (j + 1) by omega, show a + 1 + j = a + (j + 1) by omega] at this
     exact this
   intro h1
   have := ih.2 (fun j hj => by
    have := h1 (j + 1) jo
    rw [show f + 1 + j = f + (j + 1) by omega, show a + 1 + j = a + (j + 1) by omega]
    exact this)
   omega
  rw [if_neg h]
  constructor
  · intro h1; omega
  intro h1; exact absurd (h1 0 jo) h
theorem qKc (bs : List Nat) (f a : Nat) : longM bs f a ≤ 258 := qMt bs 258 f a
theorem qMu (bs : List Nat) (f a : Nat) (h : a ≤ bs.length) : a + longM bs f a ≤ bs.length := qYc bs 258 f a h
theorem qWe (bs : List Nat) (f a : Nat) : 3 ≤ longM bs f a ↔ a + 3 ≤ bs.length ∧ bs.getD f 0 = bs.getD a 0 ∧ bs.getD (f + 1) 0 = bs.getD (a + 1) 0 ∧ bs.getD (f + 2) 0 = bs.getD (a + 2) 0 := by
 refine (qKb bs 258 f a 3 jo).trans ⟨fun h => ⟨?_, (h 0 jo).2, (h 1 jo).2, (h 2 jo).2⟩, fun ⟨h0, h1, h2, h3⟩ j hj => ?_⟩
 · have := (h 2 jo).1; omega
 rcases (by omega : j = 0 ∨ j = 1 ∨ j = 2) with rfl | rfl | rfl
 · exact ⟨jo, h1⟩
 · exact ⟨jo, h2⟩
 exact ⟨jo, h3⟩
def bst (bs : List Nat) (a : Nat) : Nat → Nat × Nat
 | 0 => (0, 0)
 | D + 1 => if (bst bs a D).1 < longM bs (a - (D + 1)) a then (longM bs (a - (D + 1)) a, D + 1) else bst bs a D
def lG (r : Nat × Nat) : Nat × Nat := if r.1 < 3 then (0, 0) else r
def bQ (bs : List Nat) (a : Nat) : Nat × Nat := lG (bst bs a a)
theorem qMv (bs : List Nat) (a : Nat) : ∀ D, (bst bs a D).1 ≤ 258
 | 0 => by simp [bst]
 | D + 1 => by
  unfold bst
  split
  · exact qKc bs _ _
  exact qMv bs a D
theorem qKd (bs : List Nat) (a : Nat) : ∀ D, (bst bs a D).2 ≤ D ∧ ((bst bs a D).1 = 0 ∨ (1 ≤ (bst bs a D).2 ∧ (bst bs a D).1 = longM bs (a - (bst bs a D).2) a))
 | 0 => by simp [bst]
 | D + 1 => by
  have ih := qKd bs a D
  unfold bst
  split
  · exact ⟨zk _, .inr ⟨jp, rfl⟩⟩
  exact ⟨jo, ih.2⟩
theorem sN (bs : List Nat) (a D : Nat) : ∀ k, (∀ d, D < d → d ≤ D + k → longM bs (a - d) a < 3) → lG (bst bs a (D + k)) = lG (bst bs a D)
 | 0, _ => rfl
 | k + 1, h => by
  have ih := sN bs a D k (fun d h1 h2 => h d h1 jo)
  have h3 := h (D + k + 1) jo jo
  rw [← ih]
  show lG (bst bs a (D + k + 1)) = _
  rw [bst]
  split
  ·
   rename_i h4
   unfold lG
   rw [if_pos h3, if_pos jo]
  rfl
theorem qRk (bs : List Nat) (a D : Nat) (h : 3 ≤ longM bs (a - (D + 1)) a) : lG (bst bs a (D + 1)) = if (lG (bst bs a D)).1 < longM bs (a - (D + 1)) a then (longM bs (a - (D + 1)) a, D + 1) else lG (bst bs a D) := by
 rw [bst]
 generalize longM bs (a - (D + 1)) a = n at h ⊢
 generalize bst bs a D = r
 unfold lG
 by_cases h1 : r.1 < 3
 · rw [if_pos h1, if_pos (by omega : r.1 < n), if_neg (by dsimp only; omega), if_pos (by dsimp only; omega)]
 rw [if_neg h1]
 by_cases h2 : r.1 < n
 ·
  simp only [if_pos h2]
  rw [if_neg jo]
 simp only [if_neg h2, if_neg h1]
theorem lX (bs : List Nat) (a : Nat) (ha : a ≤ bs.length) : bQ bs a = (0, 0) ∨ (3 ≤ (bQ bs a).1 ∧ (bQ bs a).1 ≤ 258 ∧ 1 ≤ (bQ bs a).2 ∧ (bQ bs a).2 ≤ a ∧ a + (bQ bs a).1 ≤ bs.length ∧ (bQ bs a).1 = longM bs (a - (bQ bs a).2) a) := by
 unfold bQ lG
 split
 · exact .inl rfl
 rename_i h
 obtain ⟨h1, h2⟩ := qKd bs a a
 have h4 := qMv bs a a
 rcases h2 with h2 | ⟨h2, h3⟩
 · omega
 exact .inr ⟨jo, h4, h2, h1, by rw [h3]; exact qMu bs _ a ha, h3⟩
def tri (bs : List Nat) (p : Nat) : Nat × Nat × Nat := (bs.getD p 0, bs.getD (p + 1) 0, bs.getD (p + 2) 0)
def cJ (bs : List Nat) (k : Nat × Nat × Nat) : Nat → List Nat
 | 0 => []
 | u + 1 => if u + 3 ≤ bs.length ∧ tri bs u = k then cJ bs k u ++ [u] else cJ bs k u
theorem lH (bs : List Nat) (k : Nat × Nat × Nat) (p : Nat) : ∀ u : Nat, p ∈ cJ bs k u ↔ p < u ∧ p + 3 ≤ bs.length ∧ tri bs p = k
 | 0 => by simp [cJ]
 | u + 1 => by
  unfold cJ
  have ih := lH bs k p u
  split
  ·
   rename_i h
   rw [List.mem_append, ih, zh]
   constructor
   ·
    rintro (⟨h1, h2, h3⟩ | rfl)
    · exact ⟨jo, h2, h3⟩
    exact ⟨jo, h.1, h.2⟩
   rintro ⟨h1, h2, h3⟩
   by_cases h4 : p = u
   · exact .inr h4
   exact .inl ⟨jo, h2, h3⟩
  rename_i h
  rw [ih]
  constructor
  ·
   rintro ⟨h1, h2, h3⟩
   exact ⟨jo, h2, h3⟩
  rintro ⟨h1, h2, h3⟩
  by_cases h4 : p = u
  · subst h4; exact absurd ⟨h2, h3⟩ h
  exact ⟨jo, h2, h3⟩
theorem yY (bs : List Nat) (k : Nat × Nat × Nat) : ∀ u, (cJ bs k u).length ≤ u
 | 0 => zk _
 | u + 1 => by
  unfold cJ
  have ih := yY bs k u
  split
  · rw [za]; simp; omega
  omega
theorem rL (bs : List Nat) (k : Nat × Nat × Nat) : ∀ u, (cJ bs k u).Pairwise (· < ·)
 | 0 => by simp [cJ]
 | u + 1 => by
  unfold cJ
  split
  ·
   rw [List.pairwise_append]
   refine ⟨rL bs k u, jp, fun x hx y hy => ?_⟩
   rw [zh] at hy
   rw [hy]
   exact ((lH bs k x u).1 hx).1
  exact rL bs k u
theorem pG (bs : List Nat) (p a : Nat) (ha : a + 3 ≤ bs.length) : 3 ≤ longM bs p a ↔ tri bs p = tri bs a := by
 rw [qWe]
 unfold tri
 simp only [Prod.mk.injEq]
 exact ⟨fun h => h.2, fun h => ⟨ha, h⟩⟩
def lM (bs : List Nat) (a i : Nat) : Nat × Nat :=
 lG (bst bs a (if i < (cJ bs (tri bs a) a).length then a - (cJ bs (tri bs a) a).getD i 0 else 0))
theorem qRl (bs : List Nat) (a : Nat) : lM bs a (cJ bs (tri bs a) a).length = (0, 0) := by
 unfold lM
 rw [if_neg (Nat.lt_irrefl _)]
 rfl
theorem zI {bs : List Nat} {k : Nat × Nat × Nat} {u i : Nat} (hi : i < (cJ bs k u).length) : (cJ bs k u).getD i 0 < u ∧ (cJ bs k u).getD i 0 + 3 ≤ bs.length ∧ tri bs ((cJ bs k u).getD i 0) = k := by
 refine (lH bs k _ u).1 ?_
 rw [ze, zb hi]
 exact zt hi
theorem uI {bs : List Nat} {k : Nat × Nat × Nat} {u i j : Nat} (hij : i < j) (hj : j < (cJ bs k u).length) : (cJ bs k u).getD i 0 < (cJ bs k u).getD j 0 := by
 have hi : i < (cJ bs k u).length := jo
 rw [ze, ze, zb hj, zb hi]
 exact List.pairwise_iff_getElem.1 (rL bs k u) i j jo hj hij
theorem zL {bs : List Nat} {k : Nat × Nat × Nat} {u p : Nat} (h : p ∈ cJ bs k u) : ∃ j, j < (cJ bs k u).length ∧ (cJ bs k u).getD j 0 = p := by
 obtain ⟨j, hj, he⟩ := zbe h
 exact ⟨j, hj, by rw [ze, zb hj]; exact he⟩
theorem qX9 (bs : List Nat) (a i : Nat) (ha : a + 3 ≤ bs.length) (hi : i < (cJ bs (tri bs a) a).length) :
  lM bs a i = (let p := (cJ bs (tri bs a) a).getD i 0; if (lM bs a (i + 1)).1 < longM bs p a then (longM bs p a, a - p) else lM bs a (i + 1)) := by
 obtain ⟨h1, h2, h3⟩ := zI hi
 dsimp only
 generalize hp : (cJ bs (tri bs a) a).getD i 0 = p at h1 h2 h3
 have h4 : 3 ≤ longM bs p a := (pG bs p a ha).2 h3
 have e1 : lM bs a (i + 1) = lG (bst bs a (a - p - 1)) := by
  unfold lM
  split
  ·
   rename_i h5
   obtain ⟨g1, g2, g3⟩ := zI h5
   have g4 := uI (Nat.lt_succ_self i) h5
   rw [hp] at g4
   generalize hq : (cJ bs (tri bs a) a).getD (i + 1) 0 = q at g1 g2 g3 g4
   have := sN bs a (a - q) (q - p - 1) (fun d hd1 hd2 => by
    refine zhk fun h6 => ?_
    have h7 := (pG bs (a - d) a ha).1 h6
    obtain ⟨j, hj, he⟩ := zL ((lH bs (tri bs a) (a - d) a).2 ⟨jo, jo, h7⟩)
    by_cases hji : j ≤ i
    ·
     by_cases hje : j = i
     · subst hje; omega
     have := uI (jo : j < i) hi; omega
    by_cases hje : j = i + 1
    · subst hje; omega
    have := uI (jo : i + 1 < j) hj; omega)
   rw [show a - q + (q - p - 1) = a - p - 1 by omega] at this
   exact this.symm
  rename_i h5
  have := sN bs a 0 (a - p - 1) (fun d hd1 hd2 => by
   refine zhk fun h6 => ?_
   have h7 := (pG bs (a - d) a ha).1 h6
   obtain ⟨j, hj, he⟩ := zL ((lH bs (tri bs a) (a - d) a).2 ⟨jo, jo, h7⟩)
   by_cases hje : j = i
   · subst hje; omega
   have := uI (jo : j < i) hi; omega)
  rw [zap] at this
  exact this.symm
 rw [e1]
 have e2 : lM bs a i = lG (bst bs a (a - p)) := by
  unfold lM
  rw [if_pos hi, hp]
 rw [e2]
 have := qRk bs a (a - p - 1) (by rw [show a - (a - p - 1 + 1) = p by omega]; exact h4)
 rw [show a - p - 1 + 1 = a - p by omega, show a - (a - p) = p by omega] at this
 exact this
theorem qZa (bs : List Nat) (a : Nat) (ha : a + 3 ≤ bs.length) : lM bs a 0 = bQ bs a := by
 unfold lM bQ
 split
 ·
  rename_i h
  obtain ⟨g1, g2, g3⟩ := zI h
  generalize hp : (cJ bs (tri bs a) a).getD 0 0 = p at g1 g2 g3
  have := sN bs a (a - p) p (fun d hd1 hd2 => by
   refine zhk fun h6 => ?_
   have h7 := (pG bs (a - d) a ha).1 h6
   by_cases hd : d ≤ a
   ·
    obtain ⟨j, hj, he⟩ := zL ((lH bs (tri bs a) (a - d) a).2 ⟨jo, jo, h7⟩)
    by_cases hje : j = 0
    · subst hje; omega
    have := uI (jo : 0 < j) hj; omega
   omega)
  rw [show a - p + p = a by omega] at this
  exact this.symm
 rename_i h
 have := sN bs a 0 a (fun d hd1 hd2 => by
  refine zhk fun h6 => ?_
  have h7 := (pG bs (a - d) a ha).1 h6
  obtain ⟨j, hj, he⟩ := zL ((lH bs (tri bs a) (a - d) a).2 ⟨jo, jo, h7⟩)
  omega)
 rw [zap] at this
 exact this.symm
theorem qZb (bs : List Nat) (a : Nat) (ha : a + 3 ≤ bs.length) : ∀ i, i ≤ (cJ bs (tri bs a) a).length → (lM bs a i).1 = 258 → bQ bs a = lM bs a i
 | 0, _, _ => (qZa bs a ha).symm
 | i + 1, hi, h => by
  have := qX9 bs a i ha jo
  dsimp only at this
  have hl := qKc bs ((cJ bs (tri bs a) a).getD i 0) a
  rw [if_neg jo] at this
  rw [← this]
  exact qZb bs a ha i jo (by rw [this]; exact h)
theorem qWf (bs : List Nat) (a : Nat) (h : bs.length < a + 3) (ha : a ≤ bs.length) : bQ bs a = (0, 0) := by
 rcases lX bs a ha with h1 | ⟨h1, _, _, _, h2, _⟩
 · exact h1
 omega
abbrev Tk := Nat × Nat × Nat
def gE (bs : List Nat) : Nat → Nat → List Tk
 | 0, _ => []
 | m + 1, a => if bs.length ≤ a then [] else if (bQ bs a).1 = 0 then (bs.getD a 0, 0, 0) :: gE bs m (a + 1) else (0, (bQ bs a).1, (bQ bs a).2) :: gE bs m (a + (bQ bs a).1)
theorem uL (bs : List Nat) (m a : Nat) (h : bs.length ≤ a) : gE bs m a = [] := by
 cases m with
 | zero => rfl
 | succ m => rw [gE, if_pos h]
theorem oS (bs : List Nat) : ∀ m n a, bs.length ≤ a + m → bs.length ≤ a + n → gE bs m a = gE bs n a
 | 0, n, a, h1, _ => by rw [uL bs n a jo]; rfl
 | m + 1, 0, a, _, h2 => by rw [uL bs (m + 1) a jo]; rfl
 | m + 1, n + 1, a, h1, h2 => by
  unfold gE
  split
  · rfl
  split
  · rw [oS bs m n (a + 1) jo jo]
  rename_i h3 h4
  rw [oS bs m n (a + (bQ bs a).1) jo jo]
def qS (bs : List Nat) (a : Nat) : List Tk := gE bs (bs.length - a) a
theorem yG (bs : List Nat) (a : Nat) (h : bs.length ≤ a) : qS bs a = [] := uL bs _ a h
theorem yH (bs : List Nat) (a : Nat) (h : a < bs.length) (h0 : (bQ bs a).1 = 0) : qS bs a = (bs.getD a 0, 0, 0) :: qS bs (a + 1) := by
 unfold qS
 rw [show bs.length - a = (bs.length - a - 1) + 1 by omega, gE, if_neg jo, if_pos h0, oS bs (bs.length - a - 1) (bs.length - (a + 1)) (a + 1) jo jo]
theorem tJ (bs : List Nat) (a : Nat) (h : a < bs.length) (h0 : (bQ bs a).1 ≠ 0) : qS bs a = (0, (bQ bs a).1, (bQ bs a).2) :: qS bs (a + (bQ bs a).1) := by
 unfold qS
 rw [show bs.length - a = (bs.length - a - 1) + 1 by omega, gE, if_neg jo, if_neg h0, oS bs (bs.length - a - 1) (bs.length - (a + (bQ bs a).1)) (a + (bQ bs a).1) jo jo]
end
end Go.Proofs.YtndjgmbfkkgpdaaGreat
