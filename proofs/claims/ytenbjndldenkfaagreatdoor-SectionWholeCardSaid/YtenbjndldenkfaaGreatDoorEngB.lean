/-
  Eng9, Eng10, Open2, Eng11, Eng12, Eng13 in one text.
-/
import Derived.Test.YtenbjndldenkfaaGreatDoorEngA
import Derived.Recover
import Derived.Deep.Strs
import Derived.Laws.IdiomStrings
import Derived.Sort.Walk0
import Derived.Sort.EncStr
/-
  Panics, what is deferred, arrays as values.
-/
namespace Go.Proofs.YtenbjndldenkfaaGreatDoor
open Go.RowKit

section
variable {P : Program} {Γ : Env} {w : World} {dst : Option Tmp} {T : TypeId} {pos : String} {after : Array Edge} {g : Option (Nat × Bool)}
theorem Falls.pn {x : Operand} {t : TypeId} {v : Value} (hx : ev? Γ x = some (.iface t v)) : Falls P ⟨dst, .panic x, T, pos, after, g⟩ Γ w (.iface t v) := fun ρ hρ => by
  simp [execOp, hρ _ _ hx, Instr.panic, goPanic]
theorem Run.maxI {t : TypeId} {x y : Operand} {k : IntKind} {a b : Int} {ts : Array TypeId} (hx : ev? Γ x = some (.int k a)) (hy : ev? Γ y = some (.int k b)) :
    Run P ⟨dst, .call ⟨.builtin .max, #[x, y], ts⟩, t, pos, after, g⟩ Γ w (.int k (if a < b then b else a)) := fun ρ hρ => by
  simp [execOp, resolve, invoke, builtin, Builtin.max_, Builtin.max2, hρ _ _ hx, hρ _ _ hy]
/-- An element of several cells of an array that is a value. -/
theorem Run.indexArrA {α : Type} (f : α → List Value) {t e : TypeId} {x i : Operand} {n : Nat} {k : IntKind} {sz : Nat} {l : List α} (j : Nat) (hx : ev? Γ x = some (.agg (l.flatMap f).toArray)) (hi : ev? Γ i = some (.int k j)) (ht : P.underlying t = some (.array n e))
    (ha : ∀ w, (isAgg e).run P w = .ok true w) (hz : ∀ w, (sizeOf e).run P w = .ok sz w) (hf : ∀ a, (f a).length = sz) (hl : l.length = n) (hj : j < l.length) : Run P ⟨dst, .index t x i, T, pos, after, g⟩ Γ w (.agg (f l[j]).toArray) := fun ρ hρ => by
  have h1 : (j : Int) < (n : Int) := by omega
  have h2 := flat_get f sz hf l j hj
  have h3 : (l.flatMap f).toArray.extract (j * sz) (j * sz + sz) = (f l[j]).toArray := by
    rw [← h2]
    apply Array.ext'
    simp
  have h4 : j < n := by omega
  simp only [List.extract_toArray] at h3
  simp [execOp, hρ _ _ hx, hρ _ _ hi, Instr.index, asIntOf, run_underlying ht, h4, part, ha, hz]
  simpa using h3
/-- An array written out. -/
theorem Run.buildA {t e : TypeId} {n size : Nat} {parts : List (Nat × Operand)} {vs : List Value} {z cells : Array Value} (hv : evs Γ (parts.map (·.2)) vs) (hz : ∀ w, (zeroValue t).run P w = .ok (.agg z) w)
    (hu : P.underlying t = some (.array n e)) (hsz : ∀ w, (sizeOf e).run P w = .ok size w) (hf : Instr.fill (fun i => some (i * size, size)) z ((parts.map (·.1)).zip vs) = some cells) :
    Run P ⟨dst, .build t parts.toArray, T, pos, after, g⟩ Γ w (.agg cells) := fun ρ hρ => by
  have e1 := evs_map hρ _ _ hv
  have e2 : parts.map (fun p => (p.1, ρ p.2)) = (parts.map (·.1)).zip vs := by
    rw [← e1, List.map_map, List.zip_map']
    rfl
  simp only [execOp, Instr.build, Sem.run_bind, hz, Result.andThen_ok, Value.cells, run_underlying hu, hsz, List.map_toArray, e2, hf, Sem.run_pure]
/-- A slice of an array behind a pointer. -/
theorem Run.sliceA {t e : TypeId} {x : Operand} {a : Addr} {n sz : Nat} {lo hi : Option Operand} (l h : Nat) (hx : ev? Γ x = some (.pointer (some a))) (ht : P.underlying t = some (.array n e)) (hz : ∀ w, (sizeOf e).run P w = .ok sz w)
    (hlo : evB Γ lo 0 l) (hhi : evB Γ hi n h) (h1 : l ≤ h) (h2 : h ≤ n) :
    Run P ⟨dst, .slice t x lo hi none, T, pos, after, g⟩ Γ w (.slice (cutA (some a) n l sz) (h - l) (n - l)) := fun ρ hρ => by
  have hb : ∀ (k : IntKind) (r y : Nat) (code : BoundsCode), r ≤ y → (Instr.sliceBound (.int k (r : Int)) y code).run P w = .ok r w := by
    intro k r y code hry
    have := run_sliceBound (P := P) w k (r : Int) y code (by omega) (by omega)
    simpa using this
  have hbs : (Instr.sliceBounds false n n (lo.map ρ) (hi.map ρ) none).run P w = .ok (l, h, n) w := run_bounds (P := P) (w := w) hρ n n l h lo hi hlo hhi h1 h2 false
  simp only [execOp, Instr.sliceAt, Sem.run_bind, run_underlying ht, Result.andThen_ok, hρ _ _ hx, Option.map_none, Instr.sureAddr, Sem.run_pure, hbs, hz]
  unfold cutA
  split
  · rename_i h0; simp [h0]
  · rename_i h0; simp [h0]
theorem Run.neqNilI {t yT : TypeId} {x y : Operand} {u : TypeId} {v : Value} {d : TypeDesc} (hx : ev? Γ x = some (.iface u v)) (hy : ev? Γ y = some .nilIface) (ht : P.underlying t = some d) (hd : notIface d = false) :
    Run P ⟨dst, .binOp .neq t x y yT, T, pos, after, g⟩ Γ w (.bool true) := fun ρ hρ => by
  have h0 : ∀ k : Nat, (Op.equalIn (k + 1) t (.iface u v) .nilIface).run P w = .ok false w := fun k => by
    cases d <;> first | (cases hd; done) | simp [Op.equalIn, run_underlying ht]
  have h1 : (Op.equal t (.iface u v) .nilIface).run P w = .ok false w := h0 9999
  simp [execOp, hρ _ _ hx, hρ _ _ hy, eqGuard, binOp, h1]
end
section
variable {P : Program} {n : NF} {Γ : Env} {w : World} {Q : Exit → Env → World → Prop} {K : Env → World → Prop} {Pn : List PanicEntry → World → Prop} {ops : Array Oper} {rest : List Oper} {S : World → Prop} {L fuel : Nat} {listed : Array Bool} {d : Nat} {op : Op} {T : TypeId} {pos : String} {after : Array Edge}
theorem Ops.clp {f : FuncId} {args : Array Value} {R : Ending → World → Prop} (he : Enters P ⟨some d, op, T, pos, after, none⟩ Γ w f args) (hc : Calls P f args w R) (hn : Nat.blt d n.n = true)
    (k : ∀ e w', R e w' → (∃ v, e = .returned v ∧ Ops P n ops rest ((d, v) :: Γ) w' Q) ∨ (∃ ch, e = .panicked ch ∧ Q (.panic ch) Γ w')) : Ops P n ops (⟨some d, op, T, pos, after, none⟩ :: rest) Γ w Q :=
  Ops.callP he hc trivial rfl hn k
theorem Ops.pn {x : Operand} {t : TypeId} {v : Value} {dd : Option Tmp} (hx : ev? Γ x = some (.iface t v)) (k : Q (.panic [{ v := .iface t v, recovered := false }]) Γ w) : Ops P n ops (⟨dd, .panic x, T, pos, after, none⟩ :: rest) Γ w Q :=
  Ops.falls (Falls.pn hx) trivial k
theorem HOps.clp {f : FuncId} {args : Array Value} {R : Ending → World → Prop} {d : Nat} (i : Nat) {oi : Oper} (hi : ops[i]? = some oi) (hr : Region.ready .any ops listed = [i]) (he : Enters P oi Γ w f args) (hc : Calls P f args w R) (hup : Up ops Γ oi.guard) (hd : oi.dst = some d) (hn : Nat.blt d n.n = true)
    (k : ∀ e w', R e w' → (∃ v, e = .returned v ∧ S w' ∧ HOps P n ops S Pn L fuel (listed.setIfInBounds i true) ((d, v) :: Γ) w' K) ∨ (∃ ch, e = .panicked ch ∧ Pn ch w')) : HOps P n ops S Pn L (fuel + 1) listed Γ w K :=
  HOps.of_wp i hi hr hup fun a hs => by
    unfold Oper.wp
    rw [he _ hs.fits, Oper.upon_enter, hd]
    refine hc.mono ?_
    intro e w' hR
    rcases k e w' hR with ⟨v, rfl, h1, h2⟩ | ⟨ch, rfl, h1⟩
    · exact ⟨h1, h2 _ (hs.put hn v)⟩
    · exact ⟨⟨hs.size, hs.defers⟩, h1⟩
end
section
variable {P : Program} {n : NF} {Γ : Env} {w : World} {K : Env → World → Prop} {Pn : List PanicEntry → World → Prop} {ops : Array Oper} {S : World → Prop} {L fuel : Nat} {listed : Array Bool}
theorem get?_frs {Γ : Env} {d t : Nat} {u v : Value} (hd : get? Γ d = none) (h : get? Γ t = some v) : get? ((d, u) :: Γ) t = some v := by
  simp only [get?]
  cases h1 : Nat.beq d t with
  | true => have e1 := Nat.eq_of_beq_eq_true h1; subst e1; rw [hd] at h; cases h
  | false => exact h
theorem Run.frs {o : Oper} {d : Nat} {u v : Value} (h : Run P o Γ w v) (hd : get? Γ d = none) : Run P o ((d, u) :: Γ) w v := fun ρ hρ => h ρ fun x y hx => hρ x y (by
  cases x with
  | tmp t => exact get?_frs hd hx
  | _ => exact hx)
theorem get?_none {Γ : Env} {d e : Nat} {u : Value} (hd : get? Γ e = none) (hne : Nat.beq d e = false) : get? ((d, u) :: Γ) e = none := by
  simp only [get?]; rw [hne]; exact hd
theorem Sat.perm {Γ Γ' : Env} {a : Act} (h : Sat n Γ a) (hp : ∀ t v, get? Γ' t = some v → get? Γ t = some v) : Sat n Γ' a := ⟨h.size, h.defers, fun t v ht => h.at_ t v (hp t v ht)⟩
theorem get?_perm {d e f : Nat} {u v x : Value} (h1 : Nat.beq d e = false) (h2 : Nat.beq d f = false) (h3 : Nat.beq e f = false) (t : Nat) :
    get? ((f, x) :: (d, u) :: (e, v) :: Γ) t = get? ((f, x) :: (e, v) :: (d, u) :: Γ) t ∧ get? ((e, v) :: (d, u) :: (f, x) :: Γ) t = get? ((f, x) :: (e, v) :: (d, u) :: Γ) t := by
  simp only [get?]
  cases e1 : Nat.beq d t with
  | true =>
    have e2 := Nat.eq_of_beq_eq_true e1
    subst e2
    have e3 : Nat.beq e d = false := by cases h : Nat.beq e d with | false => rfl | true => (have := Nat.eq_of_beq_eq_true h; subst this; rw [Nat.beq_refl] at h1; cases h1)
    have e4 : Nat.beq f d = false := by cases h : Nat.beq f d with | false => rfl | true => (have := Nat.eq_of_beq_eq_true h; subst this; rw [Nat.beq_refl] at h2; cases h2)
    simp [e3, e4]
  | false =>
    cases e2 : Nat.beq e t with
    | true =>
      have e3 := Nat.eq_of_beq_eq_true e2
      subst e3
      have e4 : Nat.beq f e = false := by cases h : Nat.beq f e with | false => rfl | true => (have := Nat.eq_of_beq_eq_true h; subst this; rw [Nat.beq_refl] at h3; cases h3)
      simp [e4]
    | false => simp
/-- Three reads, of which each may come first. -/
theorem HOps.r3 {u v x : Value} {d e f : Nat} (i j k : Nat) {oi oj ok : Oper} (hi : ops[i]? = some oi) (hj : ops[j]? = some oj) (hk : ops[k]? = some ok) (hr : Region.ready .any ops listed = [i, j, k])
    (hri : Region.ready .any ops (listed.setIfInBounds i true) = [j, k]) (hrj : Region.ready .any ops (listed.setIfInBounds j true) = [i, k]) (hrk : Region.ready .any ops (listed.setIfInBounds k true) = [i, j])
    (hrij : Region.ready .any ops ((listed.setIfInBounds i true).setIfInBounds j true) = [k]) (hrik : Region.ready .any ops ((listed.setIfInBounds i true).setIfInBounds k true) = [j]) (hrjk : Region.ready .any ops ((listed.setIfInBounds j true).setIfInBounds k true) = [i])
    (hlij : (listed.setIfInBounds j true).setIfInBounds i true = (listed.setIfInBounds i true).setIfInBounds j true) (hlik : (listed.setIfInBounds k true).setIfInBounds i true = (listed.setIfInBounds i true).setIfInBounds k true)
    (hljk : (listed.setIfInBounds k true).setIfInBounds j true = (listed.setIfInBounds j true).setIfInBounds k true) (hl3 : ((listed.setIfInBounds i true).setIfInBounds k true).setIfInBounds j true = ((listed.setIfInBounds i true).setIfInBounds j true).setIfInBounds k true)
    (hl4 : ((listed.setIfInBounds j true).setIfInBounds k true).setIfInBounds i true = ((listed.setIfInBounds i true).setIfInBounds j true).setIfInBounds k true)
    (hS : S w) (hgi : oi.guard = none) (hgj : oj.guard = none) (hgk : ok.guard = none)
    (h1 : Run P oi Γ w u) (h2 : Run P oj Γ w v) (h3 : Run P ok Γ w x) (hd : oi.dst = some d) (he : oj.dst = some e) (hf : ok.dst = some f) (hdn : Nat.blt d n.n = true) (hen : Nat.blt e n.n = true) (hfn : Nat.blt f n.n = true)
    (hde : Nat.beq d e = false) (hdf : Nat.beq d f = false) (hef : Nat.beq e f = false) (nd : get? Γ d = none) (ne : get? Γ e = none) (nf : get? Γ f = none)
    (kk : HOps P n ops S Pn L fuel (((listed.setIfInBounds i true).setIfInBounds j true).setIfInBounds k true) ((f, x) :: (e, v) :: (d, u) :: Γ) w K) : HOps P n ops S Pn L (fuel + 1 + 1 + 1) listed Γ w K := by
  have hfe : Nat.beq f e = false := by cases h : Nat.beq f e with | false => rfl | true => (have := Nat.eq_of_beq_eq_true h; subst this; rw [Nat.beq_refl] at hef; cases hef)
  have hfd : Nat.beq f d = false := by cases h : Nat.beq f d with | false => rfl | true => (have := Nat.eq_of_beq_eq_true h; subst this; rw [Nat.beq_refl] at hdf; cases hdf)
  have hed : Nat.beq e d = false := by cases h : Nat.beq e d with | false => rfl | true => (have := Nat.eq_of_beq_eq_true h; subst this; rw [Nat.beq_refl] at hde; cases hde)
  intro a hs
  refine wpAnyE_all hr (by simp) ?_
  intro y hy
  simp only [List.mem_cons, List.not_mem_nil, or_false] at hy
  rcases hy with rfl | rfl | rfl
  · unfold wpOp
    simp only [hi]
    rw [if_pos (by unfold Region.wanted; rw [hgi])]
    left
    unfold Oper.wp
    rw [h1 _ hs.fits, Oper.upon_value, hd]
    exact ⟨hS, (HOps.r2 (S := S) j k hj hk hri hrij hrik hl3 hS hgj hgk (h2.frs nd) ((h3.frs nd).frs (get?_none ne hde)) (h3.frs nd) ((h2.frs nd).frs (get?_none nf hdf)) he hf hen hfn hef kk) _ (hs.put hdn u)⟩
  · unfold wpOp
    simp only [hj]
    rw [if_pos (by unfold Region.wanted; rw [hgj])]
    left
    unfold Oper.wp
    rw [h2 _ hs.fits, Oper.upon_value, he]
    refine ⟨hS, (HOps.r2 (S := S) i k hi hk hrj (by rw [hlij]; exact hrij) hrjk (by rw [hl4, hlij]) hS hgi hgk (h1.frs ne) ((h3.frs ne).frs (get?_none nd hed)) (h3.frs ne) ((h1.frs ne).frs (get?_none nf hef)) hd hf hdn hfn hdf ?_) _ (hs.put hen v)⟩
    rw [hlij]
    intro a' hs'
    exact kk a' (hs'.perm fun t y ht => by rw [(get?_perm hde hdf hef t).1]; exact ht)
  · unfold wpOp
    simp only [hk]
    rw [if_pos (by unfold Region.wanted; rw [hgk])]
    left
    unfold Oper.wp
    rw [h3 _ hs.fits, Oper.upon_value, hf]
    refine ⟨hS, (HOps.r2 (S := S) i j hi hj hrk (by rw [hlik]; exact hrik) (by rw [hljk]; exact hrjk) (by rw [hljk, hl4, hlik, hl3]) hS hgi hgj (h1.frs nf) ((h2.frs nf).frs (get?_none nd hfd)) (h2.frs nf) ((h1.frs nf).frs (get?_none ne hfe)) hd he hdn hen hde ?_) _ (hs.put hfn x)⟩
    rw [hlik, hl3]
    intro a' hs'
    exact kk a' (hs'.perm fun t y ht => by rw [(get?_perm hde hdf hef t).2]; exact ht)
end
/-! ### what is deferred -/
section
variable {P : Program} {n : Nat} {D : List Deferred} {Γ : Env} {w : World} {Q : Exit → Env → World → Prop}
/-- A region of pure operations whose last one defers a function of the program without arguments: what follows is walked with it. -/
theorem wp_dfr {id : Nat} {o : Oper} {c : Operand} {f : FuncId} {us : List Value} {rest : Code} {QQ : Exit → Act → World → Prop} {a : Act} {ts : Array TypeId} (hs : Sat ⟨n, D, none⟩ Γ a)
    (ho : o.op = .defer ⟨.value c, #[], ts⟩) (hg : o.guard = none) (hd : o.dst = none) (hc : ev? Γ c = some (.func (.func f) #[] us.toArray))
    (k : ∀ a', Sat ⟨n, { target := .fn (.func f) us.toArray, args := #[] } :: D, none⟩ Γ a' → QQ .normal a' w) : wpList P #[] QQ [o] a w := by
  unfold wpList
  rw [if_pos (by unfold Region.wanted; rw [hg])]
  left
  unfold Oper.wp
  have e2 : a.eval c = .func (.func f) #[] us.toArray := hs.fits _ _ hc
  have hr : (execOp a.eval o).run P w = .ok (.defer { target := .fn (.func f) us.toArray, args := #[] }) w := by
    simp [execOp, ho, resolve, e2, Deferred.ofValue]
  rw [hr, Oper.upon_defer, hd]
  refine wpList_nil (k _ ⟨?_, ?_, hs.at_⟩)
  · exact hs.size
  · show _ :: a.defers = _; rw [hs.defers]
end
end Go.Proofs.YtenbjndldenkfaaGreatDoor

/-
  Functions that defer a closure which recovers.
-/
namespace Go.Proofs.YtenbjndldenkfaaGreatDoor
open Go.RowKit

def LW (P : Program) (n : NF) (c : Code) (Γ : Env) (w : World) (QQ : Exit → Act → World → Prop) : Prop := n.ro = none → ∀ a, Sat n Γ a → c.wp P QQ a w
def upL (n : NF) (QQ : Exit → Act → World → Prop) : Exit → Env → World → Prop := fun e Γ w => ∀ a, Sat n Γ a → QQ e a w
section
variable {P : Program} {n : NF} {Γ : Env} {w : World} {QQ : Exit → Act → World → Prop} {c x y : Code} {R : Ending → World → Prop} {fn : Func} {res : Array ResultVar}
theorem LW.vc (h : VC P n c Γ w (upL n QQ)) : LW P n c Γ w QQ := fun hro a hs => by
  have h1 := h a hs 0
  rw [hro] at h1
  exact wp_mono (wpIn_wide.1 h1) (fun _ _ _ ⟨_, hs', q⟩ => q _ hs')
theorem LW.seq (h : VC P n x Γ w (thenQ (fun Γ' w' => LW P n y Γ' w' QQ) (upL n QQ))) : LW P n (.seq x y) Γ w QQ := by
  intro hro a hs
  have h1 := h a hs 0
  rw [hro] at h1
  refine wp_seq (wp_mono (wpIn_wide.1 h1) ?_)
  intro e a' w' hq
  obtain ⟨Γ', hs', q⟩ := hq
  cases e with
  | normal => exact q hro a' hs'
  | exit id => exact q a' hs'
  | goto l => exact q a' hs'
  | ret => exact q a' hs'
  | panic ch => exact q a' hs'
  | outgrown => exact q a' hs'
theorem LW.dfr {m : Nat} {D : List Deferred} {id : Nat} {om od : Oper} {t : Nat} {o : Operand} {f : FuncId} {us : List Value} {ts : Array TypeId} (h : Run P om Γ w (.func (.func f) #[] us.toArray)) (hgm : om.guard = none) (hdm : om.dst = some t) (htn : Nat.blt t m = true)
    (ho : od.op = .defer ⟨.value o, #[], ts⟩) (hg : od.guard = none) (hd : od.dst = none) (hc : ev? ((t, .func (.func f) #[] us.toArray) :: Γ) o = some (.func (.func f) #[] us.toArray))
    (k : LW P ⟨m, { target := .fn (.func f) us.toArray, args := #[] } :: D, none⟩ y ((t, .func (.func f) #[] us.toArray) :: Γ) w QQ) : LW P ⟨m, D, none⟩ (.seq (.region id #[om, od] false) y) Γ w QQ := by
  intro _ a hs
  refine wp_seq (wp_region_lit ?_)
  unfold wpList
  rw [if_pos (by unfold Region.wanted; rw [hgm])]
  left
  unfold Oper.wp
  rw [h _ hs.fits, Oper.upon_value, hdm]
  have hs1 := hs.put htn (.func (.func f) #[] us.toArray)
  unfold wpList
  rw [if_pos (by unfold Region.wanted; rw [hg])]
  left
  unfold Oper.wp
  have e2 := hs1.fits _ _ hc
  have hr : (execOp (a.put (some t) (.func (.func f) #[] us.toArray)).eval od).run P w = .ok (.defer { target := .fn (.func f) us.toArray, args := #[] }) w := by
    simp [execOp, ho, resolve, e2, Deferred.ofValue]
  rw [hr, Oper.upon_defer, hd]
  refine wpList_nil (k rfl _ ⟨hs1.size, ?_, hs1.at_⟩)
  show _ :: (a.put (some t) _).defers = _
  rw [hs1.defers]
theorem LW.sub (Γ' : Env) (hs : Sub Γ Γ') (h : LW P n c Γ' w QQ) : LW P n c Γ w QQ := fun hro a ha => h hro a (ha.sub hs)
theorem invoke_clo {f : FuncId} {us : List Value} (hi : ∀ args w, (callFunc f args).run P w = .ok (.enter f args) w) (w : World) : (invoke (.fn (.func f) us.toArray) #[]).run P w = .ok (.enter f us.toArray) w := by
  simp [invoke, hi]
theorem upL_ret0 {m : Nat} (hr : fn.results = res) (h : endQ P res R .ret Γ w) : upL ⟨m, [], none⟩ (bodyPostD P fn R) .ret Γ w := fun a hs => by
  obtain ⟨vs, h1, h2⟩ := resQ_results hs hr h
  show Leaves P fn a.tmps R a.defers .returning w
  rw [hs.defers]
  exact ⟨_, h1, h2⟩
theorem upL_retD {m : Nat} {f : FuncId} {us : List Value} (hr : fn.results = res) (hi : ∀ args w, (callFunc f args).run P w = .ok (.enter f args) w)
    (hc : CallsD P f us.toArray .returning w fun e u w' => (∃ v, e = .returned v) ∧ settle u = .returning ∧ endQ P res R .ret Γ w') : upL ⟨m, [{ target := .fn (.func f) us.toArray, args := #[] }], none⟩ (bodyPostD P fn R) .ret Γ w := fun a hs => by
  show Leaves P fn a.tmps R a.defers .returning w
  rw [hs.defers]
  refine leaves_cons (by simp) (invoke_clo hi w) (hc.mono ?_)
  rintro e u w' ⟨⟨v, rfl⟩, hu, h⟩
  obtain ⟨vs, h1, h2⟩ := resQ_results hs hr h
  dsimp only
  rw [hu]
  exact ⟨_, h1, h2⟩
theorem upL_panD {m : Nat} {f : FuncId} {us : List Value} {ch : List PanicEntry} (hr : fn.results = res) (hi : ∀ args w, (callFunc f args).run P w = .ok (.enter f args) w)
    (hc : CallsD P f us.toArray (.panicking ch) w fun e u w' => (∃ v, e = .returned v) ∧ settle u = .returning ∧ endQ P res R .ret Γ w') : upL ⟨m, [{ target := .fn (.func f) us.toArray, args := #[] }], none⟩ (bodyPostD P fn R) (.panic ch) Γ w := fun a hs => by
  show Leaves P fn a.tmps R a.defers (.panicking ch) w
  rw [hs.defers]
  refine leaves_cons (by simp) (invoke_clo hi w) (hc.mono ?_)
  rintro e u w' ⟨⟨v, rfl⟩, hu, h⟩
  obtain ⟨vs, h1, h2⟩ := resQ_results hs hr h
  dsimp only
  rw [hu]
  exact ⟨_, h1, h2⟩
theorem LW.calls {f : FuncId} {args : List Value} {nt : Nat} (hf : P.funcs[f]? = some fn) (hb : fn.body = some c) (hn : fn.ntmps = nt) (hl0 : Nat.ble args.length nt = true)
    (h : LW P ⟨nt, [], none⟩ c (argEnv 0 args) w (bodyPostD P fn R)) : Calls P f args.toArray w R := by
  have hl : args.length ≤ nt := Nat.le_of_ble_eq_true hl0
  refine calls_of_wp_defers hf hb (h rfl _ ?_)
  refine ⟨?_, rfl, ?_⟩
  · simp only [Array.size_append, List.size_toArray, Array.size_replicate, hn]
    omega
  · intro t v ht
    obtain ⟨_, h2⟩ := argEnv_get args 0 t v ht
    simp only [Nat.sub_zero] at h2
    have hlt : t < args.length := (List.getElem?_eq_some_iff.1 h2).1
    rw [Array.getD_eq_getD_getElem?, Array.getElem?_append_left (by simpa using hlt)]
    simp [h2]
end
/-! ### a deferred closure that recovers first -/
section
variable {P : Program} {Γ : Env} {w : World} {rest : Code} {R : Ending → FrameMode → World → Prop} {fn : Func} {res : Array ResultVar}
theorem VC.recovered {f : FuncId} {args : List Value} {nt id : Nat} {o4 o3 : Oper} {d e : Nat} {u u' : FrameMode} {v : Value} (hf : P.funcs[f]? = some fn) (hb : fn.body = some (.seq (.region id #[o4, o3] false) rest)) (hn : fn.ntmps = nt) (hr : fn.results = res) (hl0 : Nat.ble args.length nt = true)
    (hu : (∃ older, u = .panicking ({ v, recovered := false } :: older) ∧ u' = .panicking ({ v, recovered := true } :: older)) ∨ (u = .returning ∧ u' = u ∧ v = .nilIface))
    (h4 : o4.op = .call ⟨.builtin .recover, #[], #[]⟩) (hg4 : o4.guard = none) (hd4 : o4.dst = some d) (h3 : o3.op = .assign (.tmp d)) (hg3 : o3.guard = none) (hd3 : o3.dst = some e) (hdn : Nat.blt d nt = true) (hen : Nat.blt e nt = true)
    (k : VC P ⟨nt, [], none⟩ rest ((e, v) :: (d, v) :: argEnv 0 args) w (endQ P res (fun x w' => R x u' w'))) : CallsD P f args.toArray u w R := by
  have hl : args.length ≤ nt := Nat.le_of_ble_eq_true hl0
  refine callsD_of_wpS hf hb fun c₀ cs hmode => wpS_seq (wpS_region ?_)
  have hs0 : Sat ⟨nt, [], none⟩ (argEnv 0 args) { tmps := args.toArray ++ Array.replicate (fn.ntmps - args.toArray.size) undef, defers := [] } := by
    refine ⟨?_, rfl, ?_⟩
    · simp only [Array.size_append, List.size_toArray, Array.size_replicate, hn]
      omega
    · intro t v ht
      obtain ⟨_, h2⟩ := argEnv_get args 0 t v ht
      simp only [Nat.sub_zero] at h2
      have hlt : t < args.length := (List.getElem?_eq_some_iff.1 h2).1
      rw [Array.getD_eq_getD_getElem?, Array.getElem?_append_left (by simpa using hlt)]
      simp [h2]
  generalize ({ tmps := args.toArray ++ Array.replicate (fn.ntmps - args.toArray.size) undef, defers := [] } : Act) = a0 at hs0
  have e0 : (execOp a0.eval o4).run P w = .ok .recover w := by
    simp [execOp, h4, resolve, invoke, builtin]
  have fin : ∀ cs', cs' = { c₀ with mode := u' } :: cs → wpOpsS P #[o4, o3] (Exit.thenS (rest.wpS P (bodyPostS P fn c₀ cs R)) (bodyPostS P fn c₀ cs R)) [1] (a0.put o4.dst v) cs' w := by
    rintro cs' rfl
    have hs1 := hs0.put hdn v
    rw [hd4]
    have e1 : (execOp (a0.put (some d) v).eval o3).run P w = .ok (.value v) w := by
      have h5 : (a0.put (some d) v).eval (.tmp d) = v := hs1.fits (.tmp d) v (by simp [ev?, get?])
      simp [execOp, h3, h5]
    have hs2 := hs1.put hen v
    simp only [wpOpsS, show (#[o4, o3] : Array Oper)[1]? = some o3 from rfl]
    rw [if_pos (by unfold Region.wanted; rw [hg3]), e1]
    simp only [Oper.upon_value, hd3]
    refine wpS_of_wp (wp_mono (wpIn_wide.1 (k _ hs2 0)) ?_)
    rintro x a' w' ⟨Γ', hs', q⟩
    have key : endQ P res (fun x w' => R x u' w') .ret Γ' w' → ∃ v, (results fn a'.tmps).run P w' = .ok v w' ∧ R (.returned v) u' w' := by
      intro q
      obtain ⟨vs, h1, h2⟩ := resQ_results hs' hr q
      exact ⟨_, h1, h2⟩
    cases x with
    | normal => obtain ⟨v, h1, h2⟩ := key q; exact ⟨hs'.defers, _, rfl, v, h1, h2⟩
    | ret => obtain ⟨v, h1, h2⟩ := key q; exact ⟨hs'.defers, _, rfl, v, h1, h2⟩
    | panic ch => exact ⟨hs'.defers, _, rfl, q⟩
    | exit id => exact q.elim
    | goto l => exact q.elim
    | outgrown => exact q.elim
  show wpOpsS P #[o4, o3] _ [0, 1] a0 (c₀ :: cs) w
  rw [wpOpsS]
  simp only [show (#[o4, o3] : Array Oper)[0]? = some o4 from rfl]
  rw [if_pos (by unfold Region.wanted; rw [hg4]), e0]
  dsimp only
  rcases hu with ⟨older, rfl, rfl⟩ | ⟨rfl, rfl, rfl⟩
  · have : recoverD (c₀ :: cs) = some (v, { c₀ with mode := .panicking ({ v, recovered := true } :: older) } :: cs) := by simp [recoverD, hmode]
    rw [this]
    exact fin _ rfl
  · have : recoverD (c₀ :: cs) = none := by simp [recoverD, hmode]
    rw [this]
    exact fin _ (by rw [← hmode])
end
section
variable {P : Program} {Γ : Env} {w : World} {dst : Option Tmp} {T : TypeId} {pos : String} {after : Array Edge} {g : Option (Nat × Bool)}
theorem Run.neqNil2 {t yT : TypeId} {x : Operand} {d : TypeDesc} (hx : ev? Γ x = some .nilIface) (ht : P.underlying t = some d) (hd : notIface d = false) :
    Run P ⟨dst, .binOp .neq t x (.const .nilIface) yT, T, pos, after, g⟩ Γ w (.bool false) := fun ρ hρ => by
  have h0 : ∀ k : Nat, (Op.equalIn (k + 1) t .nilIface .nilIface).run P w = .ok true w := fun k => by
    cases d <;> first | (cases hd; done) | simp [Op.equalIn, run_underlying ht]
  have h1 : (Op.equal t .nilIface .nilIface).run P w = .ok true w := h0 9999
  have hy : ρ (.const .nilIface) = .nilIface := hρ _ _ rfl
  simp [execOp, hρ _ _ hx, hy, eqGuard, binOp, h1]
end
/-! ### several operations of which each may come first, walked one by one -/
section
variable {P : Program} {n : NF} {Γ : Env} {w : World} {K : Env → World → Prop} {Pn : List PanicEntry → World → Prop} {ops : Array Oper} {S : World → Prop} {L fuel : Nat} {listed : Array Bool} {i : Nat} {oi : Oper} {d : Nat}
/-- Number i comes first. -/
def HOne (P : Program) (n : NF) (ops : Array Oper) (S : World → Prop) (Pn : List PanicEntry → World → Prop) (L fuel : Nat) (listed : Array Bool) (i : Nat) (Γ : Env) (w : World) (K : Env → World → Prop) : Prop :=
  ∀ a, Sat n Γ a → wpOp P ops (liftN n K Pn) i (fun a' w' => S w' ∧ wpAnyE P ops (liftN n K Pn) S L fuel (listed.setIfInBounds i true) a' w') a w
theorem HOps.or2 (i j : Nat) (hr : Region.ready .any ops listed = [i, j]) (h1 : HOne P n ops S Pn L fuel listed i Γ w K) (h2 : HOne P n ops S Pn L fuel listed j Γ w K) : HOps P n ops S Pn L (fuel + 1) listed Γ w K := fun a hs =>
  wpAnyE_all hr (by simp) (by intro x hx; simp only [List.mem_cons, List.not_mem_nil, or_false] at hx; rcases hx with rfl | rfl; exact h1 a hs; exact h2 a hs)
theorem HOps.or3 (i j k : Nat) (hr : Region.ready .any ops listed = [i, j, k]) (h1 : HOne P n ops S Pn L fuel listed i Γ w K) (h2 : HOne P n ops S Pn L fuel listed j Γ w K) (h3 : HOne P n ops S Pn L fuel listed k Γ w K) : HOps P n ops S Pn L (fuel + 1) listed Γ w K := fun a hs =>
  wpAnyE_all hr (by simp) (by intro x hx; simp only [List.mem_cons, List.not_mem_nil, or_false] at hx; rcases hx with rfl | rfl | rfl; exact h1 a hs; exact h2 a hs; exact h3 a hs)
theorem HOne.of_wp (hi : ops[i]? = some oi) (hup : Up ops Γ oi.guard) (h : ∀ a, Sat n Γ a → oi.wp P a w (fun a' w' => S w' ∧ wpAnyE P ops (liftN n K Pn) S L fuel (listed.setIfInBounds i true) a' w') (liftN n K Pn)) : HOne P n ops S Pn L fuel listed i Γ w K := by
  intro a hs
  unfold wpOp
  simp only [hi]
  rw [if_pos (hup.wanted hs)]
  exact .inl (h a hs)
theorem HOne.m {R : Value → World → Prop} (hi : ops[i]? = some oi) (h : Does P oi Γ w R) (hup : Up ops Γ oi.guard) (hd : oi.dst = some d) (hn : Nat.blt d n.n = true)
    (k : ∀ v w', R v w' → S w' ∧ HOps P n ops S Pn L fuel (listed.setIfInBounds i true) ((d, v) :: Γ) w' K) : HOne P n ops S Pn L fuel listed i Γ w K :=
  HOne.of_wp hi hup fun a hs => by
    obtain ⟨v, w', hrun, hR⟩ := h _ hs.fits
    unfold Oper.wp
    rw [hrun, Oper.upon_value, hd]
    exact ⟨(k v w' hR).1, (k v w' hR).2 _ (hs.put hn v)⟩
theorem HOne.r1 {v : Value} (hi : ops[i]? = some oi) (hS : S w) (h : Run P oi Γ w v) (hup : Up ops Γ oi.guard) (hd : oi.dst = some d) (hn : Nat.blt d n.n = true)
    (k : HOps P n ops S Pn L fuel (listed.setIfInBounds i true) ((d, v) :: Γ) w K) : HOne P n ops S Pn L fuel listed i Γ w K :=
  HOne.of_wp hi hup fun a hs => by
    unfold Oper.wp
    rw [h _ hs.fits, Oper.upon_value, hd]
    exact ⟨hS, k _ (hs.put hn v)⟩
theorem HOne.st {R : World → Prop} (hi : ops[i]? = some oi) (h : Acts P oi Γ w R) (hup : Up ops Γ oi.guard) (hd : oi.dst = none)
    (k : ∀ w', R w' → S w' ∧ HOps P n ops S Pn L fuel (listed.setIfInBounds i true) Γ w' K) : HOne P n ops S Pn L fuel listed i Γ w K :=
  HOne.of_wp hi hup fun a hs => by
    obtain ⟨w', hrun, hR⟩ := h _ hs.fits
    unfold Oper.wp
    rw [hrun, Oper.upon_skip, hd]
    exact ⟨(k w' hR).1, (k w' hR).2 _ hs⟩
theorem HOne.cl {f : FuncId} {args : Array Value} {R : Ending → World → Prop} (hi : ops[i]? = some oi) (he : Enters P oi Γ w f args) (hc : Calls P f args w R) (hup : Up ops Γ oi.guard) (hd : oi.dst = some d) (hn : Nat.blt d n.n = true)
    (k : ∀ e w', R e w' → ∃ v, e = .returned v ∧ S w' ∧ HOps P n ops S Pn L fuel (listed.setIfInBounds i true) ((d, v) :: Γ) w' K) : HOne P n ops S Pn L fuel listed i Γ w K :=
  HOne.of_wp hi hup fun a hs => by
    unfold Oper.wp
    rw [he _ hs.fits, Oper.upon_enter, hd]
    refine hc.mono ?_
    intro e w' hR
    obtain ⟨v, rfl, h1, h2⟩ := k e w' hR
    exact ⟨h1, h2 _ (hs.put hn v)⟩
end
end Go.Proofs.YtenbjndldenkfaaGreatDoor

/-
  Arguments that came in, read: slices of whatever takes one cell.
-/
namespace Go.Proofs.YtenbjndldenkfaaGreatDoor
open Go.RowKit Go.ChangeShapes Go.WideShapes Go.Deep
section
variable {H : Type} {enc : TypeId × Value → H} {P : Program} {w : World} {base : Nat} {spare : Nat → Bool} {held : Bool}
theorem rd_slice1 {α : Type} (cell : α → Value) (Q : α → Prop) {t e : TypeId} {fuel len cap : Nat} {a : Option Addr} {x : DataW H × List MemPlace} (ht : P.underlying t = some (.slice e)) (hc : P.cellsOf e = 1)
    (hel : ∀ (v : Value) (n : Nat) (y : DataW H × List MemPlace), DataW.trod enc P w base spare held n e [v] = some y → ∃ s : α, v = cell s ∧ Q s)
    (h : DataW.trod enc P w base spare held fuel t [.slice a len cap] = some x) :
    ∃ ls : List α, ls.length = len ∧ len ≤ cap ∧ cap ≤ 9223372036854775807 ∧ Rd w 1 a len (ls.map cell) ∧ ∀ s ∈ ls, Q s := by
  rcases open_slice1 ht hc h with ⟨hcs, _⟩ | ⟨ad, l, c, m, n, V, D, Pl, hcs, _, hl, hm, hmm, _, hi⟩
  · simp only [List.cons.injEq, Value.slice.injEq, and_true] at hcs
    obtain ⟨rfl, rfl, rfl⟩ := hcs
    exact ⟨[], rfl, Nat.le_refl _, by omega, Rd.nil _ _ _, by simp⟩
  · simp only [List.cons.injEq, Value.slice.injEq, and_true] at hcs
    obtain ⟨rfl, rfl, rfl⟩ := hcs
    have hml : len ≤ m := by rw [hmm]; split <;> omega
    obtain ⟨ls, hll, hq⟩ := list_choose (Q := fun i s => V i = cell s ∧ Q s) len (fun i hil => hel _ _ _ (hi i (by omega)).2)
    have hcell : ∀ j u, (ls.map cell)[j]? = some u → w.cell? (ad.add j) = some u := by
      intro j u hu
      rw [List.getElem?_map] at hu
      obtain ⟨s, hs, rfl⟩ := Option.map_eq_some_iff.1 hu
      have hj : j < ls.length := (List.getElem?_eq_some_iff.1 hs).1
      rw [(hi j (by omega)).1, (hq j s hs).1]
    refine ⟨ls, hll, hl, by simpa [maxLen] using hm, ⟨by simp [hll], fun hn => ⟨ad, rfl, ?_, hcell⟩⟩, fun s hs => ?_⟩
    · have := World.block_lt_of_cell? w _ (hcell 0 _ (List.getElem?_eq_getElem (by simp; omega)))
      rwa [block_add] at this
    · obtain ⟨i, hi', hli⟩ := List.getElem_of_mem hs
      exact (hq i s (by rw [List.getElem?_eq_getElem hi', hli])).2
/-- A slice of texts. -/
theorem rd_strs {t e : TypeId} {fuel len cap : Nat} {a : Option Addr} {x : DataW H × List MemPlace} (ht : P.underlying t = some (.slice e)) (he : P.underlying e = some .string) (hc : P.cellsOf e = 1)
    (h : DataW.trod enc P w base spare held fuel t [.slice a len cap] = some x) :
    ∃ ls : List ByteArray, ls.length = len ∧ len ≤ cap ∧ cap ≤ 9223372036854775807 ∧ Rd w 1 a len (ls.map .string) ∧ ∀ s ∈ ls, s.size ≤ maxLen :=
  rd_slice1 .string (fun s => s.size ≤ maxLen) ht hc (fun v n y hy => by
    obtain ⟨s, h1, _, h3⟩ := DataW.trod_string he hy
    exact ⟨s, by simpa using h1, h3⟩) h
/-- A slice of octets, somewhere: address, capacity, octets. -/
def SL (y : Option Addr × Nat × List Nat) : Value := .slice y.1 y.2.2.length y.2.1
theorem rd_bytess {t e e2 : TypeId} {fuel len cap : Nat} {a : Option Addr} {x : DataW H × List MemPlace} (ht : P.underlying t = some (.slice e)) (he : P.underlying e = some (.slice e2)) (h2 : P.underlying e2 = some (.int .u8)) (hc : P.cellsOf e = 1) (hc2 : P.cellsOf e2 = 1)
    (h : DataW.trod enc P w base spare held fuel t [.slice a len cap] = some x) :
    ∃ ls : List (Option Addr × Nat × List Nat), ls.length = len ∧ len ≤ cap ∧ cap ≤ 9223372036854775807 ∧ Rd w 1 a len (ls.map SL) ∧ ∀ y ∈ ls, y.2.2.length ≤ y.2.1 ∧ (∀ b ∈ y.2.2, b < 256) ∧ Rd w 1 y.1 y.2.2.length (NB y.2.2) :=
  rd_slice1 SL _ ht hc (fun v n y hy => by
    have hv : ∃ A l c, v = .slice A l c := by
      rcases open_slice1 he hc2 hy with ⟨hcs, _⟩ | ⟨ad, l, c, _, _, _, _, _, hcs, _⟩
      · exact ⟨_, _, _, by simpa using hcs⟩
      · exact ⟨_, _, _, by simpa using hcs⟩
    obtain ⟨A, l, c, rfl⟩ := hv
    obtain ⟨bs, rfl, h4, _, h5, h6⟩ := rd_bytes he h2 hc2 hy
    exact ⟨(A, c, bs), rfl, h4, h5, h6⟩) h
end
end Go.Proofs.YtenbjndldenkfaaGreatDoor

/-
  Octets of a text: the copy that a conversion makes (its block bears a mark behind its last cell); texts held against one another.
-/
namespace Go.Proofs.YtenbjndldenkfaaGreatDoor
open Go.RowKit

/-- Block g is known whole, and marked behind its last cell. -/
def Fro (w : World) (g : Nat) (e : TypeId) (cs : Array Value) : Prop := w.heap[g]? = some (.cells cs e (cs.size, cs.size + 1))
section
variable {S : List Nat} {w w' : World} {g : Nat} {e : TypeId} {cs : Array Value}
theorem Fro.lt (h : Fro w g e cs) : g < w.heap.size := (Array.getElem?_eq_some_iff.1 h).1
theorem Fro.cell (h : Fro w g e cs) (i : Nat) : w.cell? ⟨g, i, none⟩ = cs[i]? := by
  unfold Fro at h
  simp [World.cell?, h]
theorem Fro.frozen (h : Fro w g e cs) {i : Nat} (hi : i < cs.size) : w.frozen? ⟨g, i, none⟩ = false := by
  unfold Fro at h
  simp [World.frozen?, h]
  omega
theorem Fro.frm (h : Fro w g e cs) (k : Frm S w w') (hg : g ∉ S) : Fro w' g e cs := (k.block g h.lt hg).trans h
theorem Fro.set (h : Fro w g e cs) (i : Nat) (u : Value) : Fro (w.setCell ⟨g, i, none⟩ u) g e (cs.setIfInBounds i u) := by
  unfold Fro at *
  have hlt := (Array.getElem?_eq_some_iff.1 h).1
  have hb := (Array.getElem?_eq_some_iff.1 h).2
  simp [World.setCell, Array.getElem?_modify, h]
theorem Fro.rd (h : Fro w g e cs) {l : List UInt8} (hl : cs.toList.take l.length = U8 l) : Rd w 1 (some ⟨g, 0, none⟩) l.length (U8 l) := by
  refine ⟨by simp [U8], fun hn => ⟨_, rfl, h.lt, fun j u hu => ?_⟩⟩
  have e1 : (⟨g, 0, none⟩ : Addr).add j = ⟨g, j, none⟩ := by unfold Addr.add; split <;> simp_all
  rw [e1, h.cell]
  have hj : j < l.length := by have := (List.getElem?_eq_some_iff.1 hu).1; simpa [U8] using this
  rw [← hl, List.getElem?_take_of_lt hj] at hu
  simpa using hu
end
section
variable {P : Program} {n : NF} {Γ : Env} {w : World} {dst : Option Tmp} {T : TypeId} {pos : String} {after : Array Edge} {g : Option (Nat × Bool)}
theorem Does.bytesOf {src dstT e : TypeId} {x : Operand} {s : ByteArray} (hx : ev? Γ x = some (.string s)) (hs : P.underlying src = some .string) (hd : P.underlying dstT = some (.slice e)) (he : P.underlying e = some (.int .u8)) :
    Does P ⟨dst, .convert src dstT x, T, pos, after, g⟩ Γ w (fun r w' => ∃ c cs, r = .slice (some ⟨w.heap.size, 0, none⟩) s.data.toList.length c ∧ Fro w' w.heap.size e cs ∧ cs.toList.take s.data.toList.length = U8 s.data.toList ∧ Frm [] w w') := fun ρ hρ => by
  have h := run_bytes_of_string (P := P) w src dstT e s hs hd he
  have hsz : s.data.toList.length = s.size := rfl
  refine ⟨.slice (some ⟨w.heap.size, 0, none⟩) s.size (grownCap w s.size 0 e), w.drew.alloc (.cells (bytesRow s (grownCap w s.size 0 e)) e ((bytesRow s (grownCap w s.size 0 e)).size, (bytesRow s (grownCap w s.size 0 e)).size + 1)), ?_,
    grownCap w s.size 0 e, bytesRow s (grownCap w s.size 0 e), by rw [hsz], ?_, ?_, ?_⟩
  · simp only [execOp, hρ _ _ hx, Sem.run_bind, h, Result.andThen_ok]
    rfl
  · unfold Fro
    show (w.heap.push _)[w.heap.size]? = _
    simp
  · unfold bytesRow U8
    simp
  · exact ((Frm.refl [] w).drew).alloc _
theorem Acts.storeFro {t e : TypeId} {x y : Operand} {gb i : Nat} {cs : Array Value} {v : Value} (hx : ev? Γ x = some (.pointer (some ⟨gb, i, none⟩))) (hy : ev? Γ y = some v)
    (hz : ∀ w, (sizeOf t).run P w = .ok 1 w) (hb : Fro w gb e cs) (hi : i < cs.size) (h1 : v.oneCell' = true) :
    Acts P ⟨dst, .store t x y, T, pos, after, g⟩ Γ w (fun w' => Fro w' gb e (cs.setIfInBounds i v) ∧ Frm [gb] w w' ∧ w'.heap.size = w.heap.size) := fun ρ hρ => by
  have hcells : v.cells = #[v] := by cases v <;> first | rfl | cases h1
  have hc := hb.cell i
  rw [Array.getElem?_eq_getElem hi] at hc
  refine ⟨w.setCell ⟨gb, i, none⟩ v, ?_, hb.set i v, Frm.set1 w ⟨gb, i, none⟩ v, by simp⟩
  simp [execOp, hρ _ _ hx, hρ _ _ hy, Instr.storeAt, Instr.sureAddr, storeVar, hcells, hz, storeCells, run_store P _ _ _ _ h1, add_zero', hc, hb.frozen hi]
theorem Run.lssStr {t yT : TypeId} {x y : Operand} {a b : ByteArray} (hx : ev? Γ x = some (.string a)) (hy : ev? Γ y = some (.string b)) :
    Run P ⟨dst, .binOp .lss t x y yT, T, pos, after, g⟩ Γ w (.bool (decide (a.data.toList < b.data.toList))) := fun ρ hρ => by
  have e : Op.bytesLess a.data.toList b.data.toList = decide (a.data.toList < b.data.toList) := Go.Proofs.bytesLess_eq _ _
  rw [← e]
  simp [execOp, hρ _ _ hx, hρ _ _ hy, eqGuard, binOp, Op.stringOp, ByteArray.toList_eq]
theorem Run.gtrStr {t yT : TypeId} {x y : Operand} {a b : ByteArray} (hx : ev? Γ x = some (.string a)) (hy : ev? Γ y = some (.string b)) :
    Run P ⟨dst, .binOp .gtr t x y yT, T, pos, after, g⟩ Γ w (.bool (decide (b.data.toList < a.data.toList))) := fun ρ hρ => by
  have e : (!(decide (a.data.toList < b.data.toList) || a.data.toList == b.data.toList)) = decide (b.data.toList < a.data.toList) := by
    rw [Bool.eq_iff_iff]
    simp only [Bool.not_eq_true', Bool.or_eq_false_iff, decide_eq_false_iff_not, beq_eq_false_iff_ne, ne_eq, decide_eq_true_eq]
    constructor
    · rintro ⟨h1, h2⟩
      rcases Classical.em (b.data.toList < a.data.toList) with h3 | h3
      · exact h3
      · exact absurd (List.le_antisymm (List.not_lt.1 h3) (List.not_lt.1 h1)) h2
    · intro h
      exact ⟨fun h2 => List.lt_irrefl _ (List.lt_trans h h2), fun h2 => by rw [h2] at h; exact List.lt_irrefl _ h⟩
  rw [← e, ← Go.Proofs.bytesLess_eq]
  simp [execOp, hρ _ _ hx, hρ _ _ hy, eqGuard, binOp, Op.stringOp, ByteArray.toList_eq]
/-! ### texts as lists of octets -/
theorem Does.bytesOfT {src dstT e : TypeId} {x : Operand} {s : List UInt8} (hx : ev? Γ x = some (encStr s)) (hs : P.underlying src = some .string) (hd : P.underlying dstT = some (.slice e)) (he : P.underlying e = some (.int .u8)) :
    Does P ⟨dst, .convert src dstT x, T, pos, after, g⟩ Γ w (fun r w' => ∃ c cs, r = .slice (some ⟨w.heap.size, 0, none⟩) s.length c ∧ Fro w' w.heap.size e cs ∧ cs.toList.take s.length = U8 s ∧ Frm [] w w') := Does.bytesOf hx hs hd he
theorem Run.lenT {t : TypeId} {x : Operand} {s : List UInt8} (hx : ev? Γ x = some (encStr s)) (ht : P.underlying t = some .string) :
    Run P ⟨dst, .call ⟨.builtin .len, #[x], #[t]⟩, T, pos, after, g⟩ Γ w (.int .i64 ((s.length : Nat) : Int)) := Run.lenStr hx ht
theorem Run.eqlT {t yT : TypeId} {x y : Operand} {a b : List UInt8} (hx : ev? Γ x = some (encStr a)) (hy : ev? Γ y = some (encStr b)) : Run P ⟨dst, .binOp .eql t x y yT, T, pos, after, g⟩ Γ w (.bool (decide (a = b))) := Run.eqlStr hx hy
theorem Run.neqT {t yT : TypeId} {x y : Operand} {a b : List UInt8} (hx : ev? Γ x = some (encStr a)) (hy : ev? Γ y = some (encStr b)) : Run P ⟨dst, .binOp .neq t x y yT, T, pos, after, g⟩ Γ w (.bool (decide (a ≠ b))) := Run.neqStr hx hy
theorem Run.lssT {t yT : TypeId} {x y : Operand} {a b : List UInt8} (hx : ev? Γ x = some (encStr a)) (hy : ev? Γ y = some (encStr b)) : Run P ⟨dst, .binOp .lss t x y yT, T, pos, after, g⟩ Γ w (.bool (decide (a < b))) := Run.lssStr hx hy
theorem Run.gtrT {t yT : TypeId} {x y : Operand} {a b : List UInt8} (hx : ev? Γ x = some (encStr a)) (hy : ev? Γ y = some (encStr b)) : Run P ⟨dst, .binOp .gtr t x y yT, T, pos, after, g⟩ Γ w (.bool (decide (b < a))) := Run.gtrStr hx hy
theorem Run.addT {t yT : TypeId} {x y : Operand} {a b : List UInt8} (hx : ev? Γ x = some (encStr a)) (hy : ev? Γ y = some (encStr b)) (hs : a.length + b.length ≤ 9223372036854775807) :
    Run P ⟨dst, .binOp .add t x y yT, T, pos, after, g⟩ Γ w (encStr (a ++ b)) := by
  have h := Run.addStr (P := P) (w := w) (T := T) (dst := dst) (pos := pos) (after := after) (g := g) (t := t) (yT := yT) hx hy hs
  have e : (⟨a.toArray⟩ : ByteArray) ++ ⟨b.toArray⟩ = ⟨(a ++ b).toArray⟩ := by
    apply ByteArray.ext
    rw [ByteArray.data_append]
    simp
  rw [e] at h
  exact h
theorem Run.indexT {t : TypeId} {x i : Operand} {s : List UInt8} {k : IntKind} (j : Nat) {b : UInt8} (hx : ev? Γ x = some (encStr s)) (hi : ev? Γ i = some (.int k j)) (ht : P.underlying t = some .string) (hj : s[j]? = some b) :
    Run P ⟨dst, .index t x i, T, pos, after, g⟩ Γ w (.int .u8 ((b.toNat : Nat) : Int)) := Run.indexStr j b hx hi ht hj
theorem Run.sliceT {t : TypeId} {x : Operand} {s : List UInt8} {lo hi : Option Operand} (l h : Nat) (hx : ev? Γ x = some (encStr s)) (ht : P.underlying t = some .string)
    (hlo : evB Γ lo 0 l) (hhi : evB Γ hi s.length h) (h1 : l ≤ h) (h2 : h ≤ s.length) :
    Run P ⟨dst, .slice t x lo hi none, T, pos, after, g⟩ Γ w (encStr ((s.drop l).take (h - l))) := by
  have h3 := Run.sliceStr (P := P) (w := w) (T := T) (dst := dst) (pos := pos) (after := after) (g := g) (t := t) l h hx ht hlo hhi h1 h2
  have e : (⟨s.toArray⟩ : ByteArray).extract l h = ⟨((s.drop l).take (h - l)).toArray⟩ := by
    apply ByteArray.ext
    simp [ByteArray.data_extract]
  rw [e] at h3
  exact h3
theorem Run.strOfT {src dstT e : TypeId} {x : Operand} {A : Option Addr} {n c : Nat} {l : List UInt8} (hx : ev? Γ x = some (.slice A n c)) (hs : P.underlying src = some (.slice e)) (he : P.underlying e = some (.int .u8)) (hd : P.underlying dstT = some .string)
    (hr : Rd w 1 A n (U8 l)) : Run P ⟨dst, .convert src dstT x, T, pos, after, g⟩ Γ w (encStr l) := Run.strOf hx hs he hd hr
/-- An element of one cell of an array's value. -/
theorem Run.indexArr1 {t e : TypeId} {x i : Operand} {n : Nat} {k : IntKind} {cs : Array Value} {v : Value} (j : Nat) (hx : ev? Γ x = some (.agg cs)) (hi : ev? Γ i = some (.int k j)) (ht : P.underlying t = some (.array n e))
    (ha : ∀ w, (isAgg e).run P w = .ok false w) (hz : ∀ w, (sizeOf e).run P w = .ok 1 w) (hl : cs.size = n) (hj : cs[j]? = some v) : Run P ⟨dst, .index t x i, T, pos, after, g⟩ Γ w v := fun ρ hρ => by
  have hlt := (Array.getElem?_eq_some_iff.1 hj).1
  have h4 : j < n := by omega
  simp [execOp, hρ _ _ hx, hρ _ _ hi, Instr.index, asIntOf, run_underlying ht, h4, part, ha, hz, hj]
end
end Go.Proofs.YtenbjndldenkfaaGreatDoor

/-
  The builtin clear, on the rest of an owned row; operations whose value nobody takes; a call through a value that holds a function.
-/
namespace Go.Proofs.YtenbjndldenkfaaGreatDoor
open Go.RowKit
section
variable {P : Program} {n : NF} {Γ : Env} {w : World} {Q : Exit → Env → World → Prop} {ops : Array Oper} {rest : List Oper} {op : Op} {T : TypeId} {pos : String} {after : Array Edge} {g : Option (Nat × Bool)} {dst : Option Tmp}
theorem Ops.m0 {R : Value → World → Prop} (h : Does P ⟨none, op, T, pos, after, none⟩ Γ w R) (k : ∀ v w', R v w' → Ops P n ops rest Γ w' Q) : Ops P n ops (⟨none, op, T, pos, after, none⟩ :: rest) Γ w Q :=
  Ops.of_wp (show Up ops Γ none from trivial) fun a hs m => by
    obtain ⟨v, w', hr, hR⟩ := h _ hs.fits
    refine ⟨about_wd, ?_⟩
    rw [semAt_run hr (by simp), Oper.uponIn_value]
    exact k v w' hR _ hs m
theorem zeroCells_toList (z : Array Value) (m : Nat) (u : Value) (h : u ∈ (Builtin.zeroCells z m).toList) : u ∈ z.toList := by
  simp only [Builtin.zeroCells, Array.toList_map, List.mem_map] at h
  obtain ⟨i, hi, rfl⟩ := h
  have hp : 0 < z.size := by
    rcases Nat.eq_zero_or_pos z.size with h0 | h0
    · simp [h0] at hi
    · exact h0
  have hlt : i % z.size < z.size := Nat.mod_lt _ hp
  rw [getElem!_pos z _ hlt]
  exact Array.getElem_mem_toList _
theorem Does.clearCut {t e size m cap k : Nat} {x : Operand} {gb : Nat} {xs : List Value} {z : Value} (hx : ev? Γ x = some (.slice (cutA (some ⟨gb, 0, none⟩) cap k size) (m - k) (cap - k))) (ht : P.underlying t = some (.slice e)) (hz : ∀ w, (zeroValue e).run P w = .ok z w)
    (hzs : z.cells.size = size) (h1 : ∀ u ∈ z.cells.toList, u.oneCell' = true) (ho : Own w e size (some ⟨gb, 0, none⟩) m cap xs) (hk : k ≤ m) :
    Does P ⟨dst, .call ⟨.builtin .clear, #[x], #[t]⟩, T, pos, after, g⟩ Γ w (fun _ w' => Own w' e size (some ⟨gb, 0, none⟩) k cap (xs.take (k * size)) ∧ Frm [gb] w w') := fun ρ hρ => by
  have ex : (execOp ρ ⟨dst, .call ⟨.builtin .clear, #[x], #[t]⟩, T, pos, after, g⟩).run P w = ((Builtin.clear_ #[t] T #[.slice (cutA (some ⟨gb, 0, none⟩) cap k size) (m - k) (cap - k)]).run P w).andThen fun a w => .ok (.value a) w := by
    simp [execOp, resolve, invoke, builtin, hρ _ _ hx]
  have hnc := ho.le
  rcases Nat.lt_or_ge k m with hlt | hge
  · rcases ho.cases with ⟨hA, _⟩ | ⟨g', cur, hA, hb, _, hc, hs, htk⟩
    · cases hA
    · injection hA with hA
      injection hA with hA
      subst hA
      have ecut : cutA (some (⟨gb, 0, none⟩ : Addr)) cap k size = some ⟨gb, k * size, none⟩ := by
        unfold cutA
        rw [if_neg (by omega), Option.map_some, add_mk]
      have hmk : m - k ≠ 0 := by omega
      obtain ⟨j, hj⟩ : ∃ j, m - k = j + 1 := ⟨m - k - 1, by omega⟩
      have hzl : (Builtin.zeroCells z.cells (m - k)).toList.length = (m - k) * size := by simp [Builtin.zeroCells, hzs]
      have e1 : (m - k) * size + k * size = m * size := by rw [← Nat.add_mul]; congr 1; omega
      have e2 : m * size ≤ cap * size := Nat.mul_le_mul_right _ hnc
      have hr := run_storeCells_at (P := P) gb (k * size) e (Builtin.zeroCells z.cells (m - k)).toList 0 cur w hb (by rw [hzl, hs]; omega) (fun u hu => h1 u (zeroCells_toList _ _ _ hu))
      simp only [Nat.add_zero, hzl] at hr
      generalize hcs : (List.take (k * size) cur.toList ++ (Builtin.zeroCells z.cells (m - k)).toList ++ List.drop (k * size + (m - k) * size) cur.toList).toArray = cs' at hr
      refine ⟨.tuple #[], w.setRow gb cs', ?_, ⟨?_, .inr ⟨gb, cap, cs', rfl, Nat.zero_le _, setRow_heap w gb cur _ e (0, 0) hb, by omega, hc, ?_, ?_⟩⟩, ?_⟩
      · rw [ex, ecut, hj]
        rw [hj] at hr
        simp [Builtin.clear_, run_underlying ht, hz, hr]
      · rw [List.length_take, ho.len]
        have : k * size ≤ m * size := Nat.mul_le_mul_right _ hk
        omega
      · subst hcs
        simp only [List.size_toArray, List.length_append, List.length_take, List.length_drop, Array.length_toList, hzl, hs]
        omega
      · subst hcs
        have e3 : (cur.toList.take (k * size)).length = k * size := by rw [List.length_take, Array.length_toList, hs]; omega
        simp only [List.append_assoc]
        rw [List.take_append_of_le_length (by rw [e3]; exact Nat.le_refl _), List.take_of_length_le (by rw [e3]; exact Nat.le_refl _), ← htk, List.take_take, Nat.min_eq_left (by omega)]
      · exact ⟨rfl, rfl, rfl, by simp [World.setRow], fun k _ hS => setRow_other w gb k _ (by simpa using hS)⟩
  · have hkm : k = m := by omega
    subst hkm
    refine ⟨.tuple #[], w, ?_, ?_, Frm.refl _ _⟩
    · rw [ex, Nat.sub_self]
      cases hA : cutA (some (⟨gb, 0, none⟩ : Addr)) cap k size <;> simp [Builtin.clear_, run_underlying ht]
    · rw [List.take_of_length_le (by rw [ho.len]; exact Nat.le_refl _)]
      exact ho
end
end Go.Proofs.YtenbjndldenkfaaGreatDoor

/-
  Several operations (calls, makings, reads) of which each may come first: each is shown once, for whatever world the others have left; behind them all facts hold.
-/
namespace Go.Proofs.YtenbjndldenkfaaGreatDoor
open Go.RowKit
/-- An operation among others: its number, its slot, the slots that it needs, what holds behind it (of the others' values, of its value, and of the blocks from lo up to hi, which it has made). -/
structure PT where
  i : Nat
  d : Nat
  dep : List Nat
  pure : Bool
  Φ : (Nat → Value) → Value → Nat → Nat → World → Prop
/-- What an operation does. -/
def PStep (P : Program) (ops : Array Oper) (n : NF) (t : PT) (ρ : Nat → Value) (Γ : Env) (W : World) : Prop :=
  ∃ oi, ops[t.i]? = some oi ∧ oi.dst = some t.d ∧ Nat.blt t.d n.n = true ∧ oi.guard = none ∧
    ((∃ f args R, Enters P oi Γ W f args ∧ Calls P f args W R ∧ ∀ e W', R e W' → ∃ v, e = .returned v ∧ Frm [] W W' ∧ t.Φ ρ v W.heap.size W'.heap.size W') ∨
      (∃ R, Does P oi Γ W R ∧ ∀ v W', R v W' → Frm [] W W' ∧ t.Φ ρ v W.heap.size W'.heap.size W')) ∧
    (t.pure = true → ∃ v, (∀ W', Run P oi Γ W' v) ∧ t.Φ ρ v W.heap.size W.heap.size W)
/-- In whatever order, the others (number, slot, slots needed, is it pure?) are all that may come up, until none is left, and then so many are listed; what is pure is taken as soon as it may come up. -/
def parB (ops : Array Oper) (L : Nat) (target : Array Bool) : Nat → Array Bool → List (Nat × Nat × List Nat × Bool) → Bool
  | 0, listed, rest => rest.isEmpty && (listed.toList == target.toList)
  | k + 1, listed, rest => match rest.find? (fun t => t.2.2.2 && (Region.ready .any ops listed).contains t.1 && Region.free .any ops listed t.1 && (Region.noSelect ops && lastOk ops L t.1) && !(rest.any fun u => t.2.2.1.any fun x => Nat.beq x u.2.1)) with
    | some t => parB ops L target k (listed.setIfInBounds t.1 true) (rest.filter fun u => !Nat.beq u.1 t.1)
    | none => !rest.isEmpty && !(Region.ready .any ops listed).isEmpty && (Region.ready .any ops listed).all fun i =>
      rest.any (fun t => Nat.beq t.1 i && !(rest.any fun u => t.2.2.1.any fun x => Nat.beq x u.2.1)) && parB ops L target k (listed.setIfInBounds i true) (rest.filter fun t => !Nat.beq t.1 i)
/-- A task that is done. -/
structure PD where
  t : PT
  v : Value
  lo : Nat
  hi : Nat
abbrev PT.key (t : PT) : Nat × Nat × List Nat × Bool := (t.i, t.d, t.dep, t.pure)
/-- The values of those that are done. -/
def dget (done : List PD) (x : Nat) : Value × Nat × Nat := match done.find? (fun y => Nat.beq y.t.d x) with | some y => (y.v, y.lo, y.hi) | none => (undef, 0, 0)
abbrev dval (done : List PD) (x : Nat) : Value := (dget done x).1
abbrev denv (done : List PD) (Γ : Env) : Env := done.map (fun x => (x.t.d, x.v)) ++ Γ
theorem get_append (A Γ : Env) (x : Nat) : get? (A ++ Γ) x = match get? A x with | some v => some v | none => get? Γ x := by
  induction A with
  | nil => rfl
  | cons a r ih =>
    obtain ⟨k, v⟩ := a
    simp only [List.cons_append, get?]
    cases Nat.beq k x with
    | true => rfl
    | false => exact ih
theorem get_done {done : List PD} {x : PD} (hn : (done.map fun y => y.t.d).Nodup) (hx : x ∈ done) : get? (done.map fun y => (y.t.d, y.v)) x.t.d = some x.v := by
  induction done with
  | nil => cases hx
  | cons a r ih =>
    simp only [List.map_cons, List.nodup_cons] at hn
    simp only [List.map_cons, get?]
    rcases List.mem_cons.1 hx with rfl | h
    · simp
    · have hne : a.t.d ≠ x.t.d := fun e => hn.1 (by rw [e]; exact List.mem_map.2 ⟨x, h, rfl⟩)
      have : Nat.beq a.t.d x.t.d = false := by
        rw [Bool.eq_false_iff]; intro hb; exact hne (Nat.eq_of_beq_eq_true hb)
      rw [this]
      exact ih hn.2 h
theorem dget_done {done : List PD} {x : PD} (hn : (done.map fun y => y.t.d).Nodup) (hx : x ∈ done) : dget done x.t.d = (x.v, x.lo, x.hi) := by
  have hf : done.find? (fun y => Nat.beq y.t.d x.t.d) = some x := by
    induction done with
    | nil => cases hx
    | cons b r ih =>
      simp only [List.map_cons, List.nodup_cons] at hn
      rcases List.mem_cons.1 hx with rfl | h
      · simp [List.find?_cons]
      · have hne : b.t.d ≠ x.t.d := fun e => hn.1 (by rw [e]; exact List.mem_map.2 ⟨x, h, rfl⟩)
        have hbq : Nat.beq b.t.d x.t.d = false := by rw [Bool.eq_false_iff]; intro hb; exact hne (Nat.eq_of_beq_eq_true hb)
        rw [List.find?_cons, hbq]
        exact ih hn.2 h
  unfold dget
  rw [hf]
theorem dget_cons {done : List PD} {y : PD} {x : Nat} (h : y.t.d ≠ x) : dget (y :: done) x = dget done x := by
  unfold dget
  have : Nat.beq y.t.d x = false := by rw [Bool.eq_false_iff]; intro hb; exact h (Nat.eq_of_beq_eq_true hb)
  rw [List.find?_cons, this]
theorem get_undone {done : List PD} {x : Nat} (hx : ∀ y ∈ done, y.t.d ≠ x) : get? (done.map fun y => (y.t.d, y.v)) x = none := by
  induction done with
  | nil => rfl
  | cons a r ih =>
    simp only [List.map_cons, get?]
    have : Nat.beq a.t.d x = false := by
      rw [Bool.eq_false_iff]; intro hb; exact hx a (by simp) (Nat.eq_of_beq_eq_true hb)
    rw [this]
    exact ih fun y hy => hx y (by simp [hy])
theorem inj_nodup {f : PT → Nat} {u t : PT} : ∀ l : List PT, (l.map f).Nodup → u ∈ l → t ∈ l → f u = f t → u = t
  | [], _, h, _, _ => by cases h
  | b :: r, hn, h1, h2, e => by
    simp only [List.map_cons, List.nodup_cons] at hn
    rcases List.mem_cons.1 h1 with h3 | h3
    · rcases List.mem_cons.1 h2 with h4 | h4
      · rw [h3, h4]
      · exact absurd (List.mem_map.2 ⟨t, h4, by rw [← e, h3]⟩) hn.1
    · rcases List.mem_cons.1 h2 with h4 | h4
      · exact absurd (List.mem_map.2 ⟨u, h3, by rw [e, h4]⟩) hn.1
      · exact inj_nodup r hn.2 h3 h4 e
section
variable {P : Program} {n : NF} {Γ : Env} {w : World} {K : Env → World → Prop} {Pn : List PanicEntry → World → Prop} {ops : Array Oper} {S : World → Prop} {L : Nat} {target : Array Bool}
/-- What is behind all of them. -/
def PAll (ts : List PT) (w : World) (g : Nat → Value × Nat × Nat) (W : World) : Prop :=
  (∀ t ∈ ts, t.Φ (fun x => (g x).1) (g t.d).1 (g t.d).2.1 (g t.d).2.2 W ∧ w.heap.size ≤ (g t.d).2.1 ∧ (g t.d).2.1 ≤ (g t.d).2.2 ∧ (g t.d).2.2 ≤ W.heap.size) ∧
    ∀ t ∈ ts, ∀ u ∈ ts, t.d ≠ u.d → (g t.d).2.2 ≤ (g u.d).2.1 ∨ (g u.d).2.2 ≤ (g t.d).2.1
theorem par_aux (ts : List PT) (hnd : (ts.map PT.d).Nodup) (hndi : (ts.map PT.i).Nodup) (h0 : ∀ t ∈ ts, get? Γ t.d = none) (fuel : Nat)
    (hst : ∀ t ∈ ts, ∀ ρ v lo hi W W', Frm [] W W' → t.Φ ρ v lo hi W → t.Φ ρ v lo hi W')
    (hcg : ∀ t ∈ ts, ∀ ρ ρ' v lo hi W, (∀ x ∈ t.dep, ρ x = ρ' x) → t.Φ ρ v lo hi W → t.Φ ρ' v lo hi W)
    (hok : ∀ t ∈ ts, ∀ W (g : Nat → Value × Nat × Nat), Frm [] w W → (∀ u ∈ ts, u.d ∈ t.dep → u.Φ (fun x => (g x).1) (g u.d).1 (g u.d).2.1 (g u.d).2.2 W) → (∀ x ∈ t.dep, ∃ u ∈ ts, u.d = x) → PStep P ops n t (fun x => (g x).1) (t.dep.map (fun x => (x, (g x).1)) ++ Γ) W)
    (hdep : ∀ t ∈ ts, ∀ x ∈ t.dep, ∃ u ∈ ts, u.d = x)
    (hS : ∀ W, Frm [] w W → S W)
    (k : ∀ g W, Frm [] w W → PAll ts w g W → HOps P n ops S Pn L fuel target (ts.map (fun t => (t.d, (g t.d).1)) ++ Γ) W K) :
    ∀ (m : Nat) (done : List PD) (rest : List PT) (listed : Array Bool) (W : World) (a : Act), parB ops L target m listed (rest.map PT.key) = true → m = rest.length → (∀ t, t ∈ ts ↔ t ∈ done.map PD.t ∨ t ∈ rest) → (done.map fun x => x.t.d).Nodup → (rest.map PT.i).Nodup → (∀ t ∈ rest, ∀ x ∈ done, x.t.d ≠ t.d) →
      (∀ x ∈ done, ∀ z ∈ x.t.dep, ∃ y ∈ done, y.t.d = z) → (∀ x ∈ done, x.t.Φ (dval done) x.v x.lo x.hi W ∧ w.heap.size ≤ x.lo ∧ x.lo ≤ x.hi ∧ x.hi ≤ W.heap.size) → done.Pairwise (fun x y => y.hi ≤ x.lo) → Frm [] w W → Sat n (denv done Γ) a →
      wpAnyE P ops (liftN n K Pn) S L (fuel + m) listed a W
  | 0, done, rest, listed, W, a, hb, hm, hts, hdn, _, _, _, hph, hpw, hfr, hs => by
    have hr : rest = [] := List.eq_nil_of_length_eq_zero hm.symm
    subst hr
    simp only [parB, List.map_nil, List.isEmpty_nil, Bool.true_and, beq_iff_eq] at hb
    have hl : listed = target := Array.toList_inj.1 hb
    subst hl
    let g : Nat → Value × Nat × Nat := dget done
    have hg : ∀ x ∈ done, g x.t.d = (x.v, x.lo, x.hi) := fun x hx => dget_done hdn hx
    have hin : ∀ t ∈ ts, ∃ x ∈ done, x.t = t := by
      intro t ht
      rcases (hts t).1 ht with h | h
      · obtain ⟨x, hx, rfl⟩ := List.mem_map.1 h; exact ⟨x, hx, rfl⟩
      · simp at h
    refine k g W hfr ⟨?_, ?_⟩ a ?_
    · intro t ht
      obtain ⟨x, hx, rfl⟩ := hin t ht
      rw [hg x hx]
      exact hph x hx
    · intro t ht u hu hne
      obtain ⟨x, hx, rfl⟩ := hin t ht
      obtain ⟨y, hy, rfl⟩ := hin u hu
      rw [hg x hx, hg y hy]
      have key : ∀ l : List PD, l.Pairwise (fun x y => y.hi ≤ x.lo) → x ∈ l → y ∈ l → x.hi ≤ y.lo ∨ y.hi ≤ x.lo := by
        intro l
        induction l with
        | nil => intro _ h; cases h
        | cons b r ih =>
          intro hp hxb hyb
          obtain ⟨hp1, hp2⟩ := List.pairwise_cons.1 hp
          rcases List.mem_cons.1 hxb with rfl | hxr
          · rcases List.mem_cons.1 hyb with rfl | hyr
            · exact absurd rfl hne
            · exact .inr (hp1 y hyr)
          · rcases List.mem_cons.1 hyb with rfl | hyr
            · exact .inl (hp1 x hxr)
            · exact ih hp2 hxr hyr
      exact key done hpw hx hy
    · refine ⟨hs.size, hs.defers, fun x v hv => hs.at_ x v ?_⟩
      rw [get_append] at hv ⊢
      by_cases hx : ∃ y ∈ done, y.t.d = x
      · obtain ⟨y, hy, rfl⟩ := hx
        have hyt : y.t ∈ ts := (hts y.t).2 (.inl (List.mem_map.2 ⟨y, hy, rfl⟩))
        have h1 : get? (ts.map fun t => (t.d, (g t.d).1)) y.t.d = some (g y.t.d).1 := by
          clear hv hs k hok hst hcg hts hin h0 hdep hndi
          induction ts with
          | nil => cases hyt
          | cons b r ih =>
            simp only [List.map_cons, get?]
            cases hq : Nat.beq b.d y.t.d with
            | true => rw [Nat.eq_of_beq_eq_true hq]; rfl
            | false =>
              rcases List.mem_cons.1 hyt with h | h
              · rw [← h] at hq; simp at hq
              · simp only [List.map_cons, List.nodup_cons] at hnd
                exact ih hnd.2 h
        rw [h1] at hv
        rw [get_done hdn hy]
        rw [hg y hy] at hv
        exact hv
      · have hno : ∀ y ∈ done, y.t.d ≠ x := fun y hy e => hx ⟨y, hy, e⟩
        rw [get_undone hno]
        have h1 : get? (ts.map fun t => (t.d, (g t.d).1)) x = none := by
          have hno2 : ∀ t ∈ ts, t.d ≠ x := fun t ht e => by
            obtain ⟨y, hy, rfl⟩ := hin t ht
            exact hno y hy e
          clear hv hs k hok hst hcg hts hin hx hno h0 hdep hndi hnd
          induction ts with
          | nil => rfl
          | cons b r ih =>
            simp only [List.map_cons, get?]
            have hq : Nat.beq b.d x = false := by rw [Bool.eq_false_iff]; intro hb; exact hno2 b (by simp) (Nat.eq_of_beq_eq_true hb)
            rw [hq]
            exact ih fun t ht => hno2 t (by simp [ht])
        rw [h1] at hv
        exact hv
  | m + 1, done, rest, listed, W, a, hb, hm, hts, hdn, hri, hdr, hdc, hph, hpw, hfr, hs => by
    -- one of them, t, comes first
    have one : ∀ t ∈ rest, (!((rest.map PT.key).any fun u => t.dep.any fun x => Nat.beq x u.2.1)) = true → parB ops L target m (listed.setIfInBounds t.i true) ((rest.map PT.key).filter fun u => !Nat.beq u.1 t.i) = true →
        ∃ ρ Γ', PStep P ops n t ρ Γ' W ∧ Sat n Γ' a ∧ ∀ v W', Frm [] W W' → t.Φ ρ v W.heap.size W'.heap.size W' → S W' ∧ wpAnyE P ops (liftN n K Pn) S L (fuel + m) (listed.setIfInBounds t.i true) (a.put (some t.d) v) W' := by
      intro t ht hq2 hnext
      have htts : t ∈ ts := (hts t).2 (.inr ht)
      -- what it needs is done
      have hdd : ∀ x ∈ t.dep, ∃ y ∈ done, y.t.d = x := by
        intro x hx
        obtain ⟨u, hu, rfl⟩ := hdep t htts x hx
        rcases (hts u).1 hu with h | h
        · obtain ⟨y, hy, rfl⟩ := List.mem_map.1 h; exact ⟨y, hy, rfl⟩
        · exfalso
          simp only [Bool.not_eq_true', Bool.eq_false_iff, ne_eq, List.any_eq_true, not_exists, not_and] at hq2
          exact hq2 u.key (List.mem_map.2 ⟨u, h, rfl⟩) u.d hx (Nat.beq_refl u.d)
      let g : Nat → Value × Nat × Nat := dget done
      have hg : ∀ x ∈ done, g x.t.d = (x.v, x.lo, x.hi) := fun x hx => dget_done hdn hx
      have hstep := hok t htts W g hfr (fun u hu hud => by
        obtain ⟨y, hy, hyd⟩ := hdd u.d hud
        have huy : u = y.t := by
          have hyt : y.t ∈ ts := (hts y.t).2 (.inl (List.mem_map.2 ⟨y, hy, rfl⟩))
          exact inj_nodup ts hnd hu hyt hyd.symm
        rw [huy, hg y hy]
        exact (hph y hy).1) (hdep t htts)
      have hsub : Sat n (t.dep.map (fun x => (x, (g x).1)) ++ Γ) a := by
        refine ⟨hs.size, hs.defers, fun x v hv => hs.at_ x v ?_⟩
        rw [get_append] at hv ⊢
        by_cases hx : ∃ y ∈ done, y.t.d = x
        · obtain ⟨y, hy, rfl⟩ := hx
          rw [get_done hdn hy]
          have hyt : y.t ∈ ts := (hts y.t).2 (.inl (List.mem_map.2 ⟨y, hy, rfl⟩))
          have key : ∀ l : List Nat, get? (l.map fun x => (x, (g x).1)) y.t.d = some y.v ∨ get? (l.map fun x => (x, (g x).1)) y.t.d = none := by
            intro l
            induction l with
            | nil => exact .inr rfl
            | cons b r ih =>
              simp only [List.map_cons, get?]
              cases hq : Nat.beq b y.t.d with
              | true => rw [Nat.eq_of_beq_eq_true hq, hg y hy]; exact .inl rfl
              | false => exact ih
          rcases key t.dep with h1 | h1
          · rw [h1] at hv; exact hv
          · rw [h1] at hv
            exact absurd hv (by rw [h0 _ hyt]; simp)
        · have hno : ∀ y ∈ done, y.t.d ≠ x := fun y hy e => hx ⟨y, hy, e⟩
          rw [get_undone hno]
          have h1 : get? (t.dep.map fun x => (x, (g x).1)) x = none := by
            have key : ∀ l : List Nat, (∀ z ∈ l, z ≠ x) → get? (l.map fun x => (x, (g x).1)) x = none := by
              intro l hl
              induction l with
              | nil => rfl
              | cons b r ih =>
                simp only [List.map_cons, get?]
                have hq : Nat.beq b x = false := by rw [Bool.eq_false_iff]; intro hb; exact hl b (by simp) (Nat.eq_of_beq_eq_true hb)
                rw [hq]
                exact ih fun z hz => hl z (by simp [hz])
            exact key t.dep fun z hz e => by
              obtain ⟨y, hy, hyd⟩ := hdd z hz
              exact hno y hy (hyd.trans e)
          rw [h1] at hv
          exact hv
      have hmr : m = (rest.filter fun u => !Nat.beq u.i t.i).length := by
        have key : ∀ l : List PT, (l.map PT.i).Nodup → t ∈ l → l.length = (l.filter fun u => !Nat.beq u.i t.i).length + 1 := by
          intro l
          induction l with
          | nil => intro _ h; cases h
          | cons b r ih =>
            intro hn h1
            simp only [List.map_cons, List.nodup_cons] at hn
            rcases List.mem_cons.1 h1 with rfl | h1
            · have e : (r.filter fun u => !Nat.beq u.i t.i) = r := by
                refine List.filter_eq_self.2 fun u hu => ?_
                have : Nat.beq u.i t.i = false := by
                  rw [Bool.eq_false_iff]; intro hb
                  exact hn.1 (List.mem_map.2 ⟨u, hu, Nat.eq_of_beq_eq_true hb⟩)
                rw [this]; rfl
              rw [List.filter_cons]
              simp only [Nat.beq_refl, Bool.not_true, Bool.false_eq_true, if_false, e, List.length_cons]
            · have hb : Nat.beq b.i t.i = false := by
                rw [Bool.eq_false_iff]; intro hb
                exact hn.1 (List.mem_map.2 ⟨t, h1, (Nat.eq_of_beq_eq_true hb).symm⟩)
              rw [List.filter_cons, hb]
              simp only [Bool.not_false, if_true, List.length_cons, ih hn.2 h1]
        have := key rest hri ht
        omega
      have hfm : (rest.map PT.key).filter (fun u => !Nat.beq u.1 t.i) = (rest.filter fun u => !Nat.beq u.i t.i).map PT.key := by
        rw [List.filter_map]; rfl
      have again : ∀ v W', Frm [] W W' → t.Φ (dval done) v W.heap.size W'.heap.size W' → S W' ∧ wpAnyE P ops (liftN n K Pn) S L (fuel + m) (listed.setIfInBounds t.i true) (a.put (some t.d) v) W' := by
        intro v W' hf hΦ
        have hfr' := hfr.trans hf (by simp)
        refine ⟨hS W' hfr', ?_⟩
        have hnot : t.d ∉ done.map fun x => x.t.d := fun h => by
          obtain ⟨y, hy, hyd⟩ := List.mem_map.1 h
          exact hdr t ht y hy hyd
        obtain ⟨_, _, _, hdn', _, _, _⟩ := hstep
        refine par_aux ts hnd hndi h0 fuel hst hcg hok hdep hS k m (⟨t, v, W.heap.size, W'.heap.size⟩ :: done) (rest.filter fun u => !Nat.beq u.i t.i) _ W' _ (by rw [← hfm]; exact hnext) hmr ?_ ?_ ?_ ?_ ?_ ?_ ?_ hfr' (hs.put hdn' v)
        · intro u
          rw [hts u]
          simp only [List.map_cons, List.mem_cons, List.mem_filter]
          constructor
          · rintro (h | h)
            · exact .inl (.inr h)
            · by_cases hut : u.i = t.i
              · left; left
                exact inj_nodup rest hri h ht hut
              · right
                refine ⟨h, ?_⟩
                have : Nat.beq u.i t.i = false := by rw [Bool.eq_false_iff]; intro hb; exact hut (Nat.eq_of_beq_eq_true hb)
                rw [this]; rfl
          · rintro ((rfl | h) | h)
            · exact .inr ht
            · exact .inl h
            · exact .inr h.1
        · simp only [List.map_cons, List.nodup_cons]
          exact ⟨hnot, hdn⟩
        · exact hri.sublist (List.Sublist.map _ List.filter_sublist)
        · intro u hu x hx
          obtain ⟨hu1, hu2⟩ := List.mem_filter.1 hu
          rcases List.mem_cons.1 hx with rfl | hx
          · intro e
            have hut : u ∈ ts := (hts u).2 (.inr hu1)
            have := inj_nodup ts hnd hut htts e.symm
            subst this
            simp at hu2
          · exact hdr u hu1 x hx
        · intro x hx z hz
          rcases List.mem_cons.1 hx with rfl | hx
          · obtain ⟨y, hy, hyz⟩ := hdd z hz
            exact ⟨y, List.mem_cons_of_mem _ hy, hyz⟩
          · obtain ⟨y, hy, hyz⟩ := hdc x hx z hz
            exact ⟨y, List.mem_cons_of_mem _ hy, hyz⟩
        · have hsame : ∀ z, (∃ y ∈ done, y.t.d = z) → dval done z = dval (⟨t, v, W.heap.size, W'.heap.size⟩ :: done) z := fun z ⟨y, hy, hyz⟩ => by
            unfold dval
            rw [dget_cons]
            intro e
            exact hnot (List.mem_map.2 ⟨y, hy, hyz.trans e.symm⟩)
          intro x hx
          rcases List.mem_cons.1 hx with rfl | hx
          · exact ⟨hcg t htts _ _ _ _ _ _ (fun z hz => hsame z (hdd z hz)) hΦ, hfr.size, hf.size, Nat.le_refl _⟩
          · obtain ⟨h1, h2, h3, h4⟩ := hph x hx
            have hxt : x.t ∈ ts := (hts x.t).2 (.inl (List.mem_map.2 ⟨x, hx, rfl⟩))
            exact ⟨hcg x.t hxt _ _ _ _ _ _ (fun z hz => hsame z (hdc x hx z hz)) (hst x.t hxt _ _ _ _ _ _ hf h1), h2, h3, Nat.le_trans h4 hf.size⟩
        · refine List.pairwise_cons.2 ⟨fun y hy => ?_, hpw⟩
          exact (hph y hy).2.2.2
      exact ⟨dval done, _, hstep, hsub, again⟩
    have all : ∀ (oi : Oper) (t : PT), True := fun _ _ => trivial
    clear all
    unfold parB at hb
    split at hb
    · rename_i t0 hfind
      have hmem := List.mem_of_find?_eq_some hfind
      have hp := List.find?_some hfind
      simp only [Bool.and_eq_true] at hp
      obtain ⟨⟨⟨⟨hpu, hrd⟩, hfree⟩, hsel⟩, hdp⟩ := hp
      obtain ⟨t, ht, rfl⟩ := List.mem_map.1 hmem
      obtain ⟨ρ, Γ', ⟨oi, hoi, hdst, hdn', hgd, _, hpure⟩, hsub, again⟩ := one t ht hdp hb
      obtain ⟨v, hrun, hΦ⟩ := hpure hpu
      obtain ⟨_, hk⟩ := again v W (Frm.refl _ _) hΦ
      refine wpAnyE_take (f := fuel + m) hoi (by simpa using hsel) hfree hrd liftN_put (.inl ⟨by unfold Region.wanted; rw [hgd], fun w' _ => hrun w' _ hsub.fits⟩) (hS W hfr) ?_
      rw [hdst]
      exact hk
    · simp only [Bool.and_eq_true, Bool.not_eq_true', List.all_eq_true, List.any_eq_true] at hb
      obtain ⟨⟨_, hne⟩, hall⟩ := hb
      refine wpAnyE_all (rs := Region.ready .any ops listed) rfl (by intro e; rw [e] at hne; simp at hne) ?_
      intro i hi
      obtain ⟨⟨t0, ht0, hq⟩, hnext⟩ := hall i hi
      obtain ⟨t, ht, rfl⟩ := List.mem_map.1 ht0
      obtain ⟨hq1, hq2⟩ := hq
      have hti : t.i = i := Nat.eq_of_beq_eq_true hq1
      subst hti
      obtain ⟨ρ, Γ', ⟨oi, hoi, hdst, hdn', hgd, hstep, _⟩, hsub, again⟩ := one t ht (by rw [Bool.not_eq_true']; exact hq2) hnext
      unfold wpOp
      simp only [hoi]
      rw [if_pos (by unfold Region.wanted; rw [hgd])]
      left
      unfold Oper.wp
      rcases hstep with ⟨f, args, R, he, hc, hR⟩ | ⟨R, hD, hR⟩
      · rw [he _ hsub.fits, Oper.upon_enter, hdst]
        refine hc.mono ?_
        intro e W' hR'
        obtain ⟨v, rfl, hf, hΦ⟩ := hR e W' hR'
        exact again v W' hf hΦ
      · obtain ⟨v, W', hrun, hR'⟩ := hD _ hsub.fits
        rw [hrun, Oper.upon_value, hdst]
        obtain ⟨hf, hΦ⟩ := hR v W' hR'
        exact again v W' hf hΦ
/-- The operations ts, in whatever order. -/
theorem HOps.par (ts : List PT) (m : Nat) {fuel : Nat} {listed : Array Bool} (hm : ts.length = m) (hb : parB ops L target m listed (ts.map PT.key) = true) (hnd : (ts.map PT.d).Nodup) (hndi : (ts.map PT.i).Nodup) (h0 : ∀ t ∈ ts, get? Γ t.d = none)
    (hdep : ∀ t ∈ ts, ∀ x ∈ t.dep, ∃ u ∈ ts, u.d = x)
    (hS : ∀ W, Frm [] w W → S W)
    (hst : ∀ t ∈ ts, ∀ ρ v lo hi W W', Frm [] W W' → t.Φ ρ v lo hi W → t.Φ ρ v lo hi W')
    (hcg : ∀ t ∈ ts, ∀ ρ ρ' v lo hi W, (∀ x ∈ t.dep, ρ x = ρ' x) → t.Φ ρ v lo hi W → t.Φ ρ' v lo hi W)
    (hok : ∀ t ∈ ts, ∀ W (g : Nat → Value × Nat × Nat), Frm [] w W → (∀ u ∈ ts, u.d ∈ t.dep → u.Φ (fun x => (g x).1) (g u.d).1 (g u.d).2.1 (g u.d).2.2 W) → (∀ x ∈ t.dep, ∃ u ∈ ts, u.d = x) → PStep P ops n t (fun x => (g x).1) (t.dep.map (fun x => (x, (g x).1)) ++ Γ) W)
    (k : ∀ g W, Frm [] w W → PAll ts w g W → HOps P n ops S Pn L fuel target (ts.map (fun t => (t.d, (g t.d).1)) ++ Γ) W K) : HOps P n ops S Pn L (fuel + m) listed Γ w K := by
  intro a hs
  exact par_aux ts hnd hndi h0 fuel hst hcg hok hdep hS k m [] ts listed w a hb hm.symm (by simp) (by simp) hndi (by simp) (by simp) (by simp) List.Pairwise.nil (Frm.refl _ _) hs
theorem PStep.cl {t : PT} {ρ : Nat → Value} {W : World} {f : FuncId} {args : Array Value} {R : Ending → World → Prop} {oi : Oper} (hp : t.pure = false) (hi : ops[t.i]? = some oi) (hd : oi.dst = some t.d) (hn : Nat.blt t.d n.n = true) (hg : oi.guard = none) (he : Enters P oi Γ W f args) (hc : Calls P f args W R)
    (h : ∀ e W', R e W' → ∃ v, e = .returned v ∧ Frm [] W W' ∧ t.Φ ρ v W.heap.size W'.heap.size W') : PStep P ops n t ρ Γ W := ⟨oi, hi, hd, hn, hg, .inl ⟨f, args, R, he, hc, h⟩, fun h' => by rw [hp] at h'; cases h'⟩
theorem PStep.m {t : PT} {ρ : Nat → Value} {W : World} {R : Value → World → Prop} {oi : Oper} (hp : t.pure = false) (hi : ops[t.i]? = some oi) (hd : oi.dst = some t.d) (hn : Nat.blt t.d n.n = true) (hg : oi.guard = none) (hD : Does P oi Γ W R)
    (h : ∀ v W', R v W' → Frm [] W W' ∧ t.Φ ρ v W.heap.size W'.heap.size W') : PStep P ops n t ρ Γ W := ⟨oi, hi, hd, hn, hg, .inr ⟨R, hD, h⟩, fun h' => by rw [hp] at h'; cases h'⟩
/-- A block that is made. -/
abbrev PT.made (i d : Nat) (T : TypeId) (cs : Array Value) : PT := ⟨i, d, [], false, fun _ v lo hi W => (v = .pointer (some ⟨lo, 0, none⟩) ∧ lo < hi) ∧ Blk W lo T cs⟩
theorem PT.made_st {i d : Nat} {T : TypeId} {cs : Array Value} : ∀ ρ v lo hi W W', Frm [] W W' → (PT.made i d T cs).Φ ρ v lo hi W → (PT.made i d T cs).Φ ρ v lo hi W' :=
  fun _ _ _ _ _ _ hf h => ⟨h.1, h.2.frm hf (by simp)⟩
theorem PT.made_ok {i d : Nat} {T e : TypeId} {z : Value} {ρ : Nat → Value} {W : World} {pos : String} {after : Array Edge} (hi : ops[i]? = some ⟨some d, .alloc T, e, pos, after, none⟩) (hn : Nat.blt d n.n = true) (hz : ∀ w, (zeroValue T).run P w = .ok z w) : PStep P ops n (PT.made i d T z.cells) ρ Γ W :=
  PStep.m rfl hi rfl hn rfl (Does.alloc hz) fun _ _ h => ⟨h.2.frm, ⟨h.1, by rw [h.2.size]; omega⟩, h.2.blk⟩
/-- A reckoning. -/
theorem PStep.r {t : PT} {ρ : Nat → Value} {W : World} {v : Value} {oi : Oper} (hi : ops[t.i]? = some oi) (hd : oi.dst = some t.d) (hn : Nat.blt t.d n.n = true) (hg : oi.guard = none) (hD : ∀ W', Run P oi Γ W' v)
    (h : t.Φ ρ v W.heap.size W.heap.size W) : PStep P ops n t ρ Γ W :=
  ⟨oi, hi, hd, hn, hg, .inr ⟨fun r w' => r = v ∧ w' = W, fun ρ hρ => ⟨v, W, hD W ρ hρ, rfl, rfl⟩, by rintro _ _ ⟨rfl, rfl⟩; exact ⟨Frm.refl _ _, h⟩⟩, fun _ => ⟨v, hD, h⟩⟩
/-- A value handed on. -/
abbrev PT.mv (i d src : Nat) (more : List Nat) : PT := ⟨i, d, src :: more, true, fun ρ v _ _ _ => v = ρ src⟩
/-- A part of a tuple. -/
abbrev PT.part (i d src k : Nat) (more : List Nat) : PT := ⟨i, d, src :: more, true, fun ρ v _ _ _ => ∃ xs, ρ src = .tuple xs ∧ xs[k]? = some v⟩
end
end Go.Proofs.YtenbjndldenkfaaGreatDoor

