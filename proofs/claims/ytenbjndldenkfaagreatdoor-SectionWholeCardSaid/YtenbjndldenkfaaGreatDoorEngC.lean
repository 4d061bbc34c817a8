/-
  Eng14, Str0, Open3 in one text.
-/
import Derived.Test.YtenbjndldenkfaaGreatDoorEngB
import Derived.RangeFuncLeaves
import Derived.RangeFuncSeq
import Derived.RangeFuncOwn
import Derived.Sort.OwnSorted
import Derived.Deep.Strs
/-
  Ranges over functions: a function that holds one leaves with marks among its deferred calls; an iterator calls what it is given, round after round.
-/
namespace Go.Proofs.YtenbjndldenkfaaGreatDoor
open Go.RowKit

theorem Run.minI {P : Program} {Γ : Env} {w : World} {dst : Option Tmp} {pos : String} {after : Array Edge} {g : Option (Nat × Bool)} {t : TypeId} {x y : Operand} {k : IntKind} {a b : Int} {ts : Array TypeId} (hx : ev? Γ x = some (.int k a)) (hy : ev? Γ y = some (.int k b)) :
    Run P ⟨dst, .call ⟨.builtin .min, #[x, y], ts⟩, t, pos, after, g⟩ Γ w (.int k (if b < a then b else a)) := fun ρ hρ => by
  simp [execOp, resolve, invoke, builtin, Builtin.min_, Builtin.min2, hρ _ _ hx, hρ _ _ hy]
/-- The marks of ranges over functions that have been begun, by their blocks. -/
def marks (ds : List Nat) : List Deferred := ds.map fun d => { target := .collected d, args := #[] }
abbrev DQ := Exit → List Nat → Env → World → Prop
def liftD (m : Nat) (Q : DQ) (e : Exit) (a : Act) (w : World) : Prop := ∃ ds Γ, Sat ⟨m, marks ds, none⟩ Γ a ∧ Q e ds Γ w
/-- Code that may leave marks behind. -/
def DV (P : Program) (m : Nat) (c : Code) (ds : List Nat) (Γ : Env) (w : World) (Q : DQ) : Prop := ∀ a, Sat ⟨m, marks ds, none⟩ Γ a → ∀ k, c.wpIn (wd none) k P (liftD m Q) a w
def thenD (K : List Nat → Env → World → Prop) (Q : DQ) : DQ
  | .normal, ds, Γ, w => K ds Γ w
  | e, ds, Γ, w => Q e ds Γ w
def blockD (id : Nat) (Q : DQ) : DQ
  | .exit i, ds, Γ, w => if i = id then Q .normal ds Γ w else Q (.exit i) ds Γ w
  | e, ds, Γ, w => Q e ds Γ w
section
variable {P : Program} {m : Nat} {ds : List Nat} {Γ : Env} {w : World} {Q : DQ} {K : List Nat → Env → World → Prop} {i id : Nat}
theorem thenD_n (h : K ds Γ w) : thenD K Q .normal ds Γ w := h
theorem thenD_r (h : Q .ret ds Γ w) : thenD K Q .ret ds Γ w := h
theorem thenD_x (h : Q (.exit i) ds Γ w) : thenD K Q (.exit i) ds Γ w := h
theorem thenD_p {ch : List PanicEntry} (h : Q (.panic ch) ds Γ w) : thenD K Q (.panic ch) ds Γ w := h
theorem blockD_n (h : Q .normal ds Γ w) : blockD id Q .normal ds Γ w := h
theorem blockD_r (h : Q .ret ds Γ w) : blockD id Q .ret ds Γ w := h
theorem blockD_p {ch : List PanicEntry} (h : Q (.panic ch) ds Γ w) : blockD id Q (.panic ch) ds Γ w := h
theorem blockD_x (h : Q .normal ds Γ w) : blockD id Q (.exit id) ds Γ w := by simp only [blockD, if_true]; exact h
theorem blockD_o (hne : Nat.beq i id = false) (h : Q (.exit i) ds Γ w) : blockD id Q (.exit i) ds Γ w := by
  have : i ≠ id := fun e => by subst e; rw [Nat.beq_refl] at hne; cases hne
  simp only [blockD, this, if_false]; exact h
theorem DV.vc {c : Code} (h : VC P ⟨m, marks ds, none⟩ c Γ w (fun e Γ' w' => Q e ds Γ' w')) : DV P m c ds Γ w Q := fun a hs k =>
  wpIn_mono (h a hs k) fun _ _ _ ⟨Γ', hs', q⟩ => ⟨ds, Γ', hs', q⟩
theorem DV.sub {c : Code} (Γ' : Env) (hs : Sub Γ Γ') (h : DV P m c ds Γ' w Q) : DV P m c ds Γ w Q := fun a ha => h a (ha.sub hs)
theorem DV.seq {x y : Code} (h : DV P m x ds Γ w (thenD (fun ds' Γ' w' => DV P m y ds' Γ' w' Q) Q)) : DV P m (.seq x y) ds Γ w Q := by
  intro a hs k
  refine wpIn_seq (wpIn_mono (h a hs k) ?_)
  intro e a' w' hq
  obtain ⟨ds', Γ', hs', q⟩ := hq
  cases e with
  | normal => exact q a' hs' k
  | exit id => exact ⟨ds', Γ', hs', q⟩
  | goto l => exact ⟨ds', Γ', hs', q⟩
  | ret => exact ⟨ds', Γ', hs', q⟩
  | panic c => exact ⟨ds', Γ', hs', q⟩
  | outgrown => exact ⟨ds', Γ', hs', q⟩
theorem DV.block {c : Code} (h : DV P m c ds Γ w (blockD id Q)) : DV P m (.block id c) ds Γ w Q := by
  intro a hs k
  refine wpIn_block (wpIn_mono (h a hs k) ?_)
  intro e a' w' hq
  obtain ⟨ds', Γ', hs', q⟩ := hq
  cases e with
  | normal => exact ⟨ds', Γ', hs', q⟩
  | exit i =>
    simp only [blockD] at q
    by_cases hi : i = id
    · rw [if_pos hi] at q; simp only [Exit.inBlock, hi, if_true]; exact ⟨ds', Γ', hs', q⟩
    · rw [if_neg hi] at q; simp only [Exit.inBlock, hi, if_false]; exact ⟨ds', Γ', hs', q⟩
  | goto l => exact ⟨ds', Γ', hs', q⟩
  | ret => exact ⟨ds', Γ', hs', q⟩
  | panic c => exact ⟨ds', Γ', hs', q⟩
  | outgrown => exact ⟨ds', Γ', hs', q⟩
theorem DV.condB {c : Operand} {x y : Code} {b : Bool} (hc : ev? Γ c = some (.bool b)) (ht : b = true → DV P m x ds Γ w Q) (hf : b = false → DV P m y ds Γ w Q) : DV P m (.cond c x y) ds Γ w Q := by
  intro a hs k
  have e := hs.fits _ _ hc
  exact wpIn_cond_split e (fun h => ht h a hs k) (fun h => hf h a hs k)
theorem DV.condD {c : Operand} {x y : Code} {p : Prop} [Decidable p] (hc : ev? Γ c = some (.bool (decide p))) (ht : p → DV P m x ds Γ w Q) (hf : ¬ p → DV P m y ds Γ w Q) : DV P m (.cond c x y) ds Γ w Q :=
  DV.condB hc (fun e => ht (of_decide_eq_true e)) (fun e => hf (of_decide_eq_false e))
theorem DV.condT {c : Operand} {x y : Code} {b : Bool} (hc : ev? Γ c = some (.bool b)) (hb : b = true) (h : DV P m x ds Γ w Q) : DV P m (.cond c x y) ds Γ w Q :=
  DV.condB hc (fun _ => h) (fun e => by rw [hb] at e; cases e)
theorem DV.condF {c : Operand} {x y : Code} {b : Bool} (hc : ev? Γ c = some (.bool b)) (hb : b = false) (h : DV P m y ds Γ w Q) : DV P m (.cond c x y) ds Γ w Q :=
  DV.condB hc (fun e => by rw [hb] at e; cases e) (fun _ => h)
theorem DV.skip (h : Q .normal ds Γ w) : DV P m .skip ds Γ w Q := DV.vc (VC.skip h)
theorem DV.loop {σ : Type} {c : Code} (D : σ → List Nat) (env : σ → Env) (inv : σ → World → Prop) (μ : σ → Nat) (s0 : σ) (hD0 : ds = D s0) (hs0 : Sub Γ (env s0)) (h0 : inv s0 w)
    (round : ∀ s w, inv s w → DV P m c (D s) (env s) w (thenD (fun ds' Γ' w' => ∃ s', ds' = D s' ∧ Sub Γ' (env s') ∧ inv s' w' ∧ μ s' < μ s) Q)) : DV P m (.loop c) ds Γ w Q := by
  subst hD0
  intro a hs m0
  refine wpIn_loop_ghost (fun k a w => ∃ s, μ s = k ∧ Sat ⟨m, marks (D s), none⟩ (env s) a ∧ inv s w) (μ s0) ⟨s0, rfl, hs.sub hs0, h0⟩ ?_
  rintro k a w ⟨s, rfl, hsa, hi⟩
  refine wpIn_mono (round s w hi a hsa m0) ?_
  intro e a' w' hq
  obtain ⟨ds', Γ', hs', q⟩ := hq
  cases e with
  | normal =>
    obtain ⟨s', rfl, hsub, hinv, hlt⟩ := q
    exact ⟨μ s', hlt, s', rfl, hs'.sub hsub, hinv⟩
  | exit id => exact ⟨ds', Γ', hs', q⟩
  | goto l => exact ⟨ds', Γ', hs', q⟩
  | ret => exact ⟨ds', Γ', hs', q⟩
  | panic c => exact ⟨ds', Γ', hs', q⟩
  | outgrown => exact ⟨ds', Γ', hs', q⟩
end
/-! ### the function's end -/
/-- A mark's block, as it must lie. -/
abbrev Mark (w : World) (d : Nat) : Prop := w.heap[d]? = some (.deferred (some []))
theorem Mark.frm {w w' : World} {S : List Nat} {d : Nat} (h : Mark w d) (k : Frm S w w') (hd : d ∉ S) : Mark w' d := (k.block d (Array.getElem?_eq_some_iff.1 h).1 hd).trans h
theorem Mark.ne_blk {w : World} {d g : Nat} {t : TypeId} {cs : Array Value} (h : Mark w d) (hb : Blk w g t cs) : d ≠ g := by
  rintro rfl
  unfold Blk at hb
  rw [h] at hb
  cases hb
theorem Mark.ne_own {w : World} {d e size n c : Nat} {A : Option Addr} {xs : List Value} (h : Mark w d) (ho : Own w e size A n c xs) : d ∉ ob A := by
  rcases ho.cases with ⟨rfl, _⟩ | ⟨g, cur, rfl, hb, _⟩
  · simp [ob]
  · simp only [ob, List.mem_singleton]
    exact h.ne_blk hb
theorem Mark.drew {w : World} {d : Nat} (h : Mark w d) : Mark w.drew d := h
theorem Frm.putObj (w : World) (l : Nat) (o : Obj) : Frm [l] w (w.putObj l o) :=
  ⟨rfl, rfl, rfl, by simp [World.putObj], fun k _ hk => World.putObj_heap_other (fun e => hk (by simp [e]))⟩
def endD (P : Program) (res : Array ResultVar) (R : Ending → World → Prop) : DQ
  | .normal, ds, Γ, w | .ret, ds, Γ, w => ds.Nodup ∧ (∀ d ∈ ds, Mark w d) ∧ ∀ w', Frm ds w w' → endQ P res R .ret Γ w'
  | _, _, _, _ => False
section
variable {P : Program} {m : Nat} {ds : List Nat} {Γ : Env} {w : World} {res : Array ResultVar} {R : Ending → World → Prop}
theorem endD_r (h1 : ds.Nodup) (h2 : ∀ d ∈ ds, Mark w d) (h : ∀ w', Frm ds w w' → endQ P res R .ret Γ w') : endD P res R .ret ds Γ w := ⟨h1, h2, h⟩
theorem endD_n (h1 : ds.Nodup) (h2 : ∀ d ∈ ds, Mark w d) (h : ∀ w', Frm ds w w' → endQ P res R .ret Γ w') : endD P res R .normal ds Γ w := ⟨h1, h2, h⟩
theorem leaves_marks {fn : Func} {tmps : Array Value} {k : Nat} {F : Fence} : ∀ (ds : List Nat) (w : World), ds.Nodup → (∀ d ∈ ds, Mark w d) →
    (∀ w', Frm ds w w' → ∃ v, (results fn tmps).run P w' = .ok v w' ∧ R (.returned v) w') → LeavesInM F k P fn tmps R (marks ds) .returning w
  | [], w, _, _, h => by
    obtain ⟨v, h1, h2⟩ := h w (Frm.refl _ _)
    exact ⟨v, h1, h2⟩
  | d :: ds, w, hn, hm, h => by
    obtain ⟨hn1, hn2⟩ := List.nodup_cons.1 hn
    refine ⟨by simp, .inl ⟨d, w.putObj d (.deferred none), rfl, run_takeDeferred (hm d (by simp)), ?_⟩⟩
    have hf := Frm.putObj w d (.deferred none)
    refine leaves_marks ds _ hn2 (fun x hx => ?_) (fun w' hw' => h w' ?_)
    · exact (hm x (by simp [hx])).frm hf (by simp; rintro rfl; exact hn1 hx)
    · exact (hf.mono (T := d :: ds) (by simp)).trans hw' (fun x hx => .inl (by simp [hx]))
theorem DV.calls {f : FuncId} {fn : Func} {c : Code} {args : List Value} {nt : Nat} (hf : P.funcs[f]? = some fn) (hb : fn.body = some c) (hn : fn.ntmps = nt) (hr : fn.results = res) (hl0 : Nat.ble args.length nt = true)
    (h : DV P nt c [] (argEnv 0 args) w (endD P res R)) : Calls P f args.toArray w R := by
  have hl : args.length ≤ nt := Nat.le_of_ble_eq_true hl0
  refine callsIn_wide.1 (callsIn_of_wp_marks (F := Fence.wide) (n := 0) hf hb trivial ?_)
  refine wpIn_mono (h _ ?_ 0) ?_
  · refine ⟨?_, rfl, ?_⟩
    · simp only [Array.size_append, List.size_toArray, Array.size_replicate, hn]
      omega
    · intro t v ht
      obtain ⟨_, h2⟩ := argEnv_get args 0 t v ht
      simp only [Nat.sub_zero] at h2
      have hlt : t < args.length := (List.getElem?_eq_some_iff.1 h2).1
      rw [Array.getD_eq_getD_getElem?, Array.getElem?_append_left (by simpa using hlt)]
      simp [h2]
  · rintro e a w' ⟨ds, Γ, hs, hq⟩
    have key : ds.Nodup ∧ (∀ d ∈ ds, Mark w' d) ∧ (∀ w'', Frm ds w' w'' → endQ P res R .ret Γ w'') → LeavesInM Fence.wide 0 P fn a.tmps R a.defers .returning w' := by
      rintro ⟨h1, h2, h3⟩
      rw [hs.defers]
      refine leaves_marks ds w' h1 h2 (fun w'' hw'' => ?_)
      obtain ⟨vs, h4, h5⟩ := resQ_results hs hr (h3 w'' hw'')
      exact ⟨_, h4, h5⟩
    cases e with
    | normal => exact key hq
    | ret => exact key hq
    | _ => exact hq.elim
end
/-! ### iterators -/
/-- A call of yield. -/
def YieldsTo (P : Program) (l : Nat) (args : Array Value) (W : World) (R : Ending → World → Prop) : Prop := ∀ k, YieldAt (wd none) k P l args W R
theorem YieldsTo.mono {P : Program} {l : Nat} {args : Array Value} {W : World} {R R' : Ending → World → Prop} (h : YieldsTo P l args W R) (hr : ∀ e w', R e w' → R' e w') : YieldsTo P l args W R' := fun k =>
  let ⟨fn, tmps, assign, body, h1, h2⟩ := h k; ⟨fn, tmps, assign, body, h1, h2.mono hr⟩
/-- A round keeps certain blocks. -/
def Off (Bt : List Nat) (W W' : World) : Prop := ∃ C, Frm C W W' ∧ ∀ b ∈ Bt, b ∉ C
theorem Off.blk {Bt : List Nat} {W W' : World} {g : Nat} {t : TypeId} {cs : Array Value} (h : Off Bt W W') (hb : Blk W g t cs) (hg : g ∈ Bt) : Blk W' g t cs := by
  obtain ⟨C, hf, hC⟩ := h
  exact hb.frm hf (hC g hg)
theorem Off.rd {Bt : List Nat} {W W' : World} {size n : Nat} {A : Option Addr} {xs : List Value} (h : Off Bt W W') (hr : Rd W size A n xs) (hg : 0 < n → ∀ x ∈ ob A, x ∈ Bt) : Rd W' size A n xs := by
  obtain ⟨C, hf, hC⟩ := h
  exact hr.frm hf fun hn x hx => hC x (hg hn x hx)
/-- A function that, given yield, calls it with each of some things in turn, till it is told to stop: it writes blocks B alone, leans on blocks Bt that no round may write, and asks Kp when it begins. -/
def Iter {α : Type} (P : Program) (gf : FuncId) (lb : Array Value) (encs : α → Array Value) (B Bt : List Nat) (Kp : World → Prop) (xs : List α) : Prop :=
  ∀ (l : Nat) (J Jx : List α → World → Prop) (W : World),
    (∀ pre W W', J pre W → Frm B W W' → J pre W') → (∀ pre W W', Jx pre W → Frm B W W' → Jx pre W') → Kp W →
    (∀ pre x W1, J pre W1 → (pre ++ [x]) <+: xs → YieldsTo P l (encs x) W1 fun e W' => Off Bt W1 W' ∧ ((e = .returned (.bool true) ∧ J (pre ++ [x]) W') ∨ (e = .returned (.bool false) ∧ Jx (pre ++ [x]) W'))) →
    J [] W → Calls P gf (#[.func (.yield l) #[] #[]] ++ lb) W fun e W' => (∃ v, e = .returned v) ∧ (J xs W' ∨ ∃ pre, Jx pre W')
theorem Ops.yield {P : Program} {n : NF} {Γ : Env} {w : World} {Q : Exit → Env → World → Prop} {ops : Array Oper} {rest : List Oper} {dst : Option Tmp} {T : TypeId} {pos : String} {after : Array Edge} {l : Nat} {c : Operand} {xs : List Operand} {vs : List Value} {ts : Array TypeId} {R : Ending → World → Prop}
    (hro : n.ro = none) (hc : ev? Γ c = some (.func (.yield l) #[] #[])) (hv : evs Γ xs vs) (hy : YieldsTo P l vs.toArray w R) {d : Nat} (hd : dst = some d) (hn : Nat.blt d n.n = true)
    (k : ∀ e w', R e w' → ∃ v, e = .returned v ∧ Ops P n ops rest ((d, v) :: Γ) w' Q) : Ops P n ops (⟨dst, .call ⟨.value c, xs.toArray, ts⟩, T, pos, after, none⟩ :: rest) Γ w Q :=
  Ops.of_wp trivial fun a hs m => by
    rw [hro]
    refine ⟨about_wd, ?_⟩
    obtain ⟨fn, tmps, assign, body, h1, h2⟩ := hy (m - 1)
    have e1 := evs_map hs.fits xs vs hv
    have e2 : a.eval c = .func (.yield l) #[] #[] := hs.fits _ _ hc
    have hrun : (execOp a.eval ⟨dst, .call ⟨.value c, xs.toArray, ts⟩, T, pos, after, none⟩).run P w = .ok (.round l fn tmps assign body) w := by
      simp [execOp, resolve, e2, Deferred.ofValue, invoke, callFunc, e1, h1]
    rw [semAt_run hrun (by simp), Oper.uponIn_round, hd]
    refine ⟨fun h => by simp [wd, Fence.wide] at h, h2.mono ?_⟩
    intro e w' hR
    obtain ⟨v, rfl, hk⟩ := k e w' hR
    have := hk _ (hs.put hn v) m
    rw [hro] at this
    exact this
/-! ### the range -/
theorem KeepsOthers.of_frm {S : List Nat} {W W' : World} (h : Frm S W W') (hS : ∀ b ∈ S, ∀ o, W.heap[b]? = some o → o.isCells = true) : KeepsOthers W W' :=
  ⟨h.size, fun k o hk ho => (h.block k (Array.getElem?_eq_some_iff.1 hk).1 (fun hx => by have := hS k hx o hk; rw [ho] at this; cases this)).trans hk⟩
theorem KeepsOthers.frm0 {W W' : World} (h : Frm [] W W') : KeepsOthers W W' := KeepsOthers.of_frm h (by simp)
theorem KeepsOthers.blk {W W' : World} {g : Nat} {t : TypeId} {cs : Array Value} (h : Frm [g] W W') (hb : Blk W g t cs) : KeepsOthers W W' := KeepsOthers.of_frm h (fun b hx o ho => by
  simp at hx; subst hx
  unfold Blk at hb
  rw [hb] at ho
  cases ho; rfl)
theorem KeepsOthers.own {W W' : World} {e size n c : Nat} {A : Option Addr} {xs : List Value} (h : Frm (ob A) W W') (ho : Own W e size A n c xs) : KeepsOthers W W' := by
  rcases ho.cases with ⟨rfl, _⟩ | ⟨g, cur, rfl, hb, _⟩
  · exact KeepsOthers.frm0 h
  · exact KeepsOthers.blk h hb
/-- What a round's body leaves: it has written cells alone, and none of Bt. -/
def Wrote (Bt : List Nat) (W W' : World) : Prop := ∃ C, Frm C W W' ∧ ∀ b ∈ C, b ∉ Bt ∧ ∀ o, W.heap[b]? = some o → o.isCells = true
theorem Wrote.frm0 {Bt : List Nat} {W W' : World} (h : Frm [] W W') : Wrote Bt W W' := ⟨[], h, by simp⟩
theorem Wrote.off {Bt : List Nat} {W W' : World} (h : Wrote Bt W W') : Off Bt W W' := by
  obtain ⟨C, hf, hC⟩ := h
  exact ⟨C, hf, fun b hb hx => (hC b hx).1 hb⟩
theorem Wrote.others {Bt : List Nat} {W W' : World} (h : Wrote Bt W W') : KeepsOthers W W' := by
  obtain ⟨C, hf, hC⟩ := h
  exact KeepsOthers.of_frm hf fun b hb o ho => (hC b hb).2 o ho
theorem Blk.isC {W : World} {g : Nat} {t : TypeId} {cs : Array Value} (hb : Blk W g t cs) : ∀ o, W.heap[g]? = some o → o.isCells = true := fun o ho => by
  unfold Blk at hb
  rw [hb] at ho
  cases ho; rfl
theorem Own.isC {W : World} {e size n c : Nat} {A : Option Addr} {xs : List Value} (ho : Own W e size A n c xs) : ∀ g ∈ ob A, ∀ o, W.heap[g]? = some o → o.isCells = true := by
  rcases ho.cases with ⟨rfl, _⟩ | ⟨g, cur, rfl, hb, _⟩
  · simp [ob]
  · intro x hx
    simp only [ob, List.mem_singleton] at hx
    subst hx
    exact hb.isC
def roundQ {α : Type} (Bt : List Nat) (I : List α → World → Prop) (Ix : Exit → List α → World → Prop) (xs : List α) (W : World) : Exit → Env → World → Prop
  | .normal, _, W' => Wrote Bt W W' ∧ I xs W'
  | .ret, _, W' => Wrote Bt W W' ∧ Ix .ret xs W'
  | .exit id, _, W' => Wrote Bt W W' ∧ Ix (.exit id) xs W'
  | _, _, _ => False
theorem foldl_params : ∀ (l : List (Nat × Value)) (tmps : Array Value) (Γ : Env) (N : Nat), tmps.size = N → (∀ t v, get? Γ t = some v → tmps.getD t undef = v) → (∀ x ∈ l, x.1 < N) →
    (l.foldl (fun t (x : Nat × Value) => t.setIfInBounds x.1 x.2) tmps).size = N ∧ ∀ t v, get? (l.reverse ++ Γ) t = some v → (l.foldl (fun t (x : Nat × Value) => t.setIfInBounds x.1 x.2) tmps).getD t undef = v
  | [], tmps, Γ, N, hN, h, _ => ⟨hN, by simpa using h⟩
  | (p, u) :: r, tmps, Γ, N, hN, h, hl => by
    have hp : p < tmps.size := by rw [hN]; exact hl (p, u) (by simp)
    have h1 := foldl_params r (tmps.setIfInBounds p u) ((p, u) :: Γ) N (by simpa using hN) (fun t v ht => by
      simp only [get?] at ht
      cases hq : Nat.beq p t with
      | true =>
        rw [hq] at ht
        simp only [cond_true, Option.some.injEq] at ht
        subst ht
        rw [← Nat.eq_of_beq_eq_true hq]
        simp [Array.getD_eq_getD_getElem?, hp]
      | false =>
        rw [hq] at ht
        simp only [cond_false] at ht
        have hne : p ≠ t := fun e => by subst e; rw [Nat.beq_refl] at hq; cases hq
        have := h t v ht
        rw [Array.getD_eq_getD_getElem?, Array.getElem?_setIfInBounds_ne hne, ← Array.getD_eq_getD_getElem?]
        exact this) (fun x hx => hl x (by simp [hx]))
    rw [List.foldl_cons]
    have e : ((p, u) :: r).reverse ++ Γ = r.reverse ++ (p, u) :: Γ := by simp
    rw [e]
    exact h1
/-- What may turn beside a round: the iterator's own blocks, and what is no cells and was not there. -/
abbrev NC (w W : World) (B S : List Nat) : Prop := ∀ b ∈ S, b ∈ B ∨ (w.heap.size ≤ b ∧ ∀ o, W.heap[b]? = some o → o.isCells = false)
theorem Blk.nc {w W : World} {B S : List Nat} {g : Nat} {t : TypeId} {cs : Array Value} (hb : Blk W g t cs) (hS : NC w W B S) (hg : g ∉ B) : g ∉ S := fun h => by
  rcases hS g h with h1 | ⟨_, h1⟩
  · exact hg h1
  · have := h1 _ hb
    cases this
theorem Own.nc {w W : World} {B S : List Nat} {e size n c : Nat} {A : Option Addr} {xs : List Value} (ho : Own W e size A n c xs) (hS : NC w W B S) (hg : ∀ x ∈ ob A, x ∉ B) : ∀ x ∈ ob A, x ∉ S := by
  rcases ho.cases with ⟨rfl, _⟩ | ⟨g, cur, rfl, hb, _⟩
  · simp [ob]
  · intro x hx
    have hx2 := hg x hx
    simp only [ob, List.mem_singleton] at hx
    subst hx
    exact hb.nc hS hx2
theorem Frm.nc {w0 w W W' : World} {B S : List Nat} (h : Frm [] w0 W) (k : Frm S W W') (hS : NC w W B S) (hB : ∀ b ∈ B, w0.heap.size ≤ b) (hw : w0.heap.size ≤ w.heap.size) : Frm [] w0 W' := h.own k fun b hb => by
  rcases hS b hb with h1 | ⟨h1, _⟩
  · exact hB b h1
  · omega
theorem DV.range {α : Type} {P : Program} {m : Nat} {ds : List Nat} {Γ : Env} {w : World} {Q : DQ} {g : Operand} {ps : List Tmp} {assign body : Code} {gf : FuncId} {lb : Array Value} {Kp : World → Prop} {xs : List α} {B Bt : List Nat} (encs : α → List Value)
    (hit : Iter P gf lb (fun x => (encs x).toArray) B Bt Kp xs) (hg : ev? Γ g = some (.func (.func gf) #[] lb)) (eg : ∀ args w, (callFunc gf args).run P w = .ok (.enter gf args) w) (hps : ∀ x, (encs x).length = ps.length) (hpm : (ps.all fun p => Nat.blt p m) = true)
    (I : List α → World → Prop) (Ix : Exit → List α → World → Prop) (ΓA : α → Env)
    (hI : ∀ pre W W' S, I pre W → Frm S W W' → NC w W B S → I pre W') (hIx : ∀ e pre W W' S, Ix e pre W → Frm S W W' → NC w W B S → Ix e pre W') (hK : ∀ W, Frm [] w W → Kp W) (hB : ∀ b ∈ B, b ∈ Bt) (hBt : ∀ b ∈ Bt, b < w.heap.size) (h0 : I [] w)
    (hassign : ∀ l x W, VC P ⟨m, [], some l⟩ assign ((ps.zip (encs x)).reverse ++ Γ) W (thenQ (fun Γ' W' => W' = W ∧ Sub Γ' (ΓA x)) (fun _ _ _ => False)))
    (hbody : ∀ l pre x W, I pre W → (pre ++ [x]) <+: xs → w.heap.size + 2 ≤ W.heap.size → Mark W w.heap.size → VC P ⟨m, [], some l⟩ body (ΓA x) W (roundQ Bt I Ix (pre ++ [x]) W))
    (hdone : ∀ W, I xs W → w.heap.size + 2 ≤ W.heap.size → Mark W w.heap.size → Q .normal (w.heap.size :: ds) Γ W)
    (hret : ∀ pre W, Ix .ret pre W → w.heap.size + 2 ≤ W.heap.size → Mark W w.heap.size → Q .ret (w.heap.size :: ds) Γ W)
    (hexit : ∀ id pre W, Ix (.exit id) pre W → w.heap.size + 2 ≤ W.heap.size → Mark W w.heap.size → Q (.exit id) (w.heap.size :: ds) Γ W) : DV P m (.rangeFunc g ps.toArray assign body) ds Γ w Q := by
  intro a hs k
  refine wpIn_rangeFunc ?_
  intro fn hfn
  obtain ⟨rec, hrec⟩ : ∃ rec : LoopState → Option Code → Loop, rec = fun st pe => { state := st, pending := pe, fn, tmps := a.tmps, params := ps.toArray, assign, body, defers := w.heap.size } := ⟨_, rfl⟩
  obtain ⟨W1, hW1⟩ : ∃ W1, (w.alloc (.deferred (some []))).alloc (.loop (rec .ready none)) = W1 := ⟨_, rfl⟩
  have hL1 : W1.heap[w.heap.size + 1]? = some (.loop (rec .ready none)) := by
    rw [← hW1]; have := World.alloc_heap_new (w.alloc (.deferred (some []))) (.loop (rec .ready none)); rwa [World.size_alloc] at this
  have hK1 : Mark W1 w.heap.size := by
    rw [← hW1]; exact (Below.heap_alloc _ _ _ (by simp)).trans (World.alloc_heap_new w _)
  have hF1 : Frm [] w W1 := by rw [← hW1]; exact ((Frm.refl [] w).alloc _).alloc _
  have hI1 : I [] W1 := hI [] w W1 [] h0 hF1 (fun b hb => by cases hb)
  have hsz : ∀ W : World, ∀ r, W.heap[w.heap.size + 1]? = some (.loop r) → w.heap.size + 2 ≤ W.heap.size := fun W r h => by
    have := (Array.getElem?_eq_some_iff.1 h).1; omega
  have hnc : ∀ W r, W.heap[w.heap.size + 1]? = some (.loop r) → NC w W B [w.heap.size + 1] := fun W r h b hb => by
    simp only [List.mem_singleton] at hb
    subst hb
    refine .inr ⟨by omega, fun o ho => by rw [h] at ho; cases ho; rfl⟩
  have hmk : ∀ (W : World) o, Mark W w.heap.size → Mark (W.putObj (w.heap.size + 1) o) w.heap.size := fun W o h => (World.putObj_heap_other (by omega)).trans h
  refine ⟨w.heap.size + 1, [{ target := .collected w.heap.size, args := #[] }], W1, { target := .fn (.func gf) lb, args := #[.func (.yield (w.heap.size + 1)) #[] #[]] }, W1, gf,
    #[.func (.yield (w.heap.size + 1)) #[] #[]] ++ lb, W1, ?_, ?_, fun _ _ => trivial, ?_, fun h => by simp [wd, Fence.wide] at h, ?_⟩
  · rw [← hW1, hrec]; exact run_enterLoop_outer _ _ _ _ _
  · have e1 : a.eval g = .func (.func gf) #[] lb := hs.fits _ _ hg
    simp only [resolve, e1]
    simp [go_sem]
  · simp [invoke, go_sem, eg]
  · let J : List α → World → Prop := fun pre W => I pre W ∧ W.heap[w.heap.size + 1]? = some (.loop (rec .ready none)) ∧ Mark W w.heap.size
    let Jx : List α → World → Prop := fun pre W => ((Ix .ret pre W ∧ W.heap[w.heap.size + 1]? = some (.loop (rec .done (some .ret)))) ∨ ∃ id, Ix (.exit id) pre W ∧ W.heap[w.heap.size + 1]? = some (.loop (rec .done (some (.exit id))))) ∧ Mark W w.heap.size
    have keepL : ∀ {W W' : World} {r}, Frm B W W' → W.heap[w.heap.size + 1]? = some (.loop r) → W'.heap[w.heap.size + 1]? = some (.loop r) := fun hf h => (hf.block _ (Array.getElem?_eq_some_iff.1 h).1 (fun hx => by have := hBt _ (hB _ hx); omega)).trans h
    have keepM : ∀ {W W' : World}, Frm B W W' → Mark W w.heap.size → Mark W' w.heap.size := fun hf h => h.frm hf (fun hx => by have := hBt _ (hB _ hx); omega)
    refine callsIn_wd.2 ((hit (w.heap.size + 1) J Jx W1 ?_ ?_ (hK _ hF1) ?_ ⟨hI1, hL1, hK1⟩).mono ?_)
    · rintro pre W W' ⟨h1, h2, h3⟩ hf
      exact ⟨hI pre W W' B h1 hf (fun b hb => .inl hb), keepL hf h2, keepM hf h3⟩
    · rintro pre W W' ⟨h1, h3⟩ hf
      refine ⟨?_, keepM hf h3⟩
      rcases h1 with ⟨h1, h2⟩ | ⟨id, h1, h2⟩
      · exact .inl ⟨hIx _ pre W W' B h1 hf (fun b hb => .inl hb), keepL hf h2⟩
      · exact .inr ⟨id, hIx _ pre W W' B h1 hf (fun b hb => .inl hb), keepL hf h2⟩
    · rintro pre x W ⟨hi, hl, hk⟩ hpre k'
      have hlt : w.heap.size + 1 < W.heap.size := (Array.getElem?_eq_some_iff.1 hl).1
      have hy := run_yield (P := P) (args := (encs x).toArray) hl (by rw [hrec]; simpa using hps x)
      rw [hrec] at hy
      refine ⟨fn, _, assign, body, hy, roundIn_of_wpIn hfn ?_⟩
      have hz : (ps.toArray.zip (encs x).toArray).foldl (fun tmps (t, a) => tmps.setIfInBounds t a) a.tmps = (ps.zip (encs x)).foldl (fun t (x : Nat × Value) => t.setIfInBounds x.1 x.2) a.tmps := by
        simp [List.zip_toArray]
      obtain ⟨hfs, hfg⟩ := foldl_params (ps.zip (encs x)) a.tmps Γ m hs.size hs.at_ (fun y hy => by
        have h1 := (List.of_mem_zip hy).1
        have h2 := List.all_eq_true.1 hpm _ h1
        simpa [Nat.blt_eq] using h2)
      dsimp only
      rw [hz]
      refine wpIn_mono (hassign (w.heap.size + 1) x W { tmps := (ps.zip (encs x)).foldl (fun t (x : Nat × Value) => t.setIfInBounds x.1 x.2) a.tmps, defers := [] } ⟨hfs, rfl, hfg⟩ k') ?_
      rintro e a1 W' ⟨Γ1, hs1, hq1⟩
      cases e with
      | normal =>
        obtain ⟨rfl, hsub⟩ := hq1
        have hl2 : (W'.putObj (w.heap.size + 1) (.loop { rec .ready none with state := .busy })).heap[w.heap.size + 1]? = some (.loop { rec .ready none with state := .busy }) := World.putObj_heap_same hlt
        have hf2 := Frm.putObj W' (w.heap.size + 1) (.loop { rec .ready none with state := .busy })
        have hi2 := hI pre _ _ _ hi hf2 (hnc _ _ hl)
        refine ⟨_, run_beginRound hl (by rw [hrec]), ?_⟩
        refine wpIn_mono (hbody (w.heap.size + 1) pre x _ hi2 hpre (hsz _ _ hl2) (hmk _ _ hk) a1 (hs1.sub hsub) k') ?_
        have fin : ∀ (jump : Option Code) (W3 : World), KeepsOthers (W'.putObj (w.heap.size + 1) (.loop { rec .ready none with state := .busy })) W3 →
            (Instr.endRound (w.heap.size + 1) jump).run P W3 = .ok (.bool jump.isNone) (W3.putObj (w.heap.size + 1) (.loop (rec (if jump.isNone then .ready else .done) jump))) ∧
            W3.heap[w.heap.size + 1]? = some (.loop { rec .ready none with state := .busy }) ∧
            (W3.putObj (w.heap.size + 1) (.loop (rec (if jump.isNone then .ready else .done) jump))).heap[w.heap.size + 1]? = some (.loop (rec (if jump.isNone then .ready else .done) jump)) ∧
            Mark (W3.putObj (w.heap.size + 1) (.loop (rec (if jump.isNone then .ready else .done) jump))) w.heap.size := fun jump W3 hk3 => by
          have hl3 := hk3.same _ _ hl2 rfl
          have := run_endRound (P := P) jump hl3
          rw [hrec] at this ⊢
          exact ⟨this, by rw [hrec] at hl3; exact hl3, World.putObj_heap_same (Array.getElem?_eq_some_iff.1 hl3).1, hmk _ _ (hk3.same _ _ (hmk _ _ hk) rfl)⟩
        have offs : ∀ {W3 : World} {o : Obj}, Wrote Bt (W'.putObj (w.heap.size + 1) (.loop { rec .ready none with state := .busy })) W3 → Off Bt W' (W3.putObj (w.heap.size + 1) o) := fun {W3 o} hw => by
          obtain ⟨C, hf, hC⟩ := hw.off
          refine ⟨(w.heap.size + 1) :: C, ((hf2.mono (T := (w.heap.size + 1) :: C) (by simp)).trans hf (fun x hx => .inl (by simp [hx]))).trans (Frm.putObj W3 _ o) (by simp), fun b hb hx => ?_⟩
          rcases List.mem_cons.1 hx with rfl | hx
          · have := hBt _ hb; omega
          · exact hC b hb hx
        rintro e a3 W3 ⟨Γ3, _, hp⟩
        cases e with
        | normal =>
          obtain ⟨hk3, hi3⟩ := hp
          obtain ⟨hr, hl3, hl4, hk4⟩ := fin none W3 hk3.others
          exact ⟨_, _, hr, offs hk3, .inl ⟨rfl, hI _ _ _ _ hi3 (Frm.putObj W3 _ _) (hnc _ _ hl3), hl4, hk4⟩⟩
        | ret =>
          obtain ⟨hk3, hi3⟩ := hp
          obtain ⟨hr, hl3, hl4, hk4⟩ := fin (some .ret) W3 hk3.others
          exact ⟨_, _, hr, offs hk3, .inr ⟨rfl, .inl ⟨hIx _ _ _ _ _ hi3 (Frm.putObj W3 _ _) (hnc _ _ hl3), hl4⟩, hk4⟩⟩
        | exit id =>
          obtain ⟨hk3, hi3⟩ := hp
          obtain ⟨hr, hl3, hl4, hk4⟩ := fin (some (.exit id)) W3 hk3.others
          exact ⟨_, _, hr, offs hk3, .inr ⟨rfl, .inr ⟨id, hIx _ _ _ _ _ hi3 (Frm.putObj W3 _ _) (hnc _ _ hl3), hl4⟩, hk4⟩⟩
        | goto t => exact hp.elim
        | panic ch => exact hp.elim
        | outgrown => exact hp.elim
      | exit id => exact hq1.elim
      | goto t => exact hq1.elim
      | ret => exact hq1.elim
      | panic ch => exact hq1.elim
      | outgrown => exact hq1.elim
    · have hs' : Sat ⟨m, marks (w.heap.size :: ds), none⟩ Γ { a with defers := [{ target := .collected w.heap.size, args := #[] }] ++ a.defers } := ⟨hs.size, by show [_] ++ a.defers = _; rw [hs.defers]; rfl, hs.at_⟩
      rintro e W2 ⟨⟨v, rfl⟩, (⟨hi, hl, hk⟩ | ⟨pre, h1, hk⟩)⟩
      · have hend := run_endLoop (P := P) hl (by rw [hrec]; simp)
        refine ⟨none, _, by rw [hend, hrec], ?_⟩
        exact ⟨_, Γ, hs', hdone _ (hI _ _ _ _ hi (Frm.putObj _ _ _) (hnc _ _ hl)) (Nat.le_trans (hsz _ _ hl) (Frm.putObj _ _ _).size) (hmk _ _ hk)⟩
      · rcases h1 with ⟨hi, hl⟩ | ⟨id, hi, hl⟩
        · have hend := run_endLoop (P := P) hl (by rw [hrec]; simp)
          refine ⟨some .ret, _, by rw [hend, hrec], ?_⟩
          exact wpIn_ret (Q := liftD m Q) ⟨_, Γ, hs', hret _ _ (hIx _ _ _ _ _ hi (Frm.putObj _ _ _) (hnc _ _ hl)) (Nat.le_trans (hsz _ _ hl) (Frm.putObj _ _ _).size) (hmk _ _ hk)⟩
        · have hend := run_endLoop (P := P) hl (by rw [hrec]; simp)
          refine ⟨some (.exit id), _, by rw [hend, hrec], ?_⟩
          exact wpIn_exit (Q := liftD m Q) ⟨_, Γ, hs', hexit _ _ _ (hIx _ _ _ _ _ hi (Frm.putObj _ _ _) (hnc _ _ hl)) (Nat.le_trans (hsz _ _ hl) (Frm.putObj _ _ _).size) (hmk _ _ hk)⟩
end Go.Proofs.YtenbjndldenkfaaGreatDoor

/-
  Texts, and slices of them.
-/
namespace Go.Proofs.YtenbjndldenkfaaGreatDoor
open Go.RowKit Go.Sort

/-- A text: its octets. -/
abbrev Tx := List UInt8
/-- Texts in cells. -/
def SB (ss : List Tx) : List Value := ss.map encStr
theorem SB_len (ss : List Tx) : (SB ss).length = ss.length := by simp [SB]
theorem SB_one (ss : List Tx) : ∀ u ∈ SB ss, u.oneCell' = true := by
  intro u hu
  obtain ⟨b, _, rfl⟩ := List.mem_map.1 hu
  rfl
theorem SB_append (a b : List Tx) : SB (a ++ b) = SB a ++ SB b := by simp [SB]
theorem SB_at {w : World} {A : Option Addr} {ss : List Tx} {k : Nat} (h : Rd w 1 A ss.length (SB ss)) (hk : k < ss.length) : ∃ ad, A = some ad ∧ w.cell? (ad.add k) = some (encStr ss[k]) := by
  obtain ⟨ad, u, hA, hu, hc⟩ := h.at1 hk
  refine ⟨ad, hA, ?_⟩
  rw [hc, ← hu]
  simp [SB, List.getElem?_eq_getElem hk]
/-- What is read at all lies in a block. -/
theorem Rd.plain {w : World} {A : Option Addr} {n : Nat} {xs : List Value} (h : Rd w 1 A n xs) (hn : 0 < n) : ∃ b o, A = some ⟨b, o, none⟩ ∧ b < w.heap.size ∧ ∀ j u, xs[j]? = some u → w.cell? ⟨b, o + j, none⟩ = some u := by
  obtain ⟨ad, hA, hlt, hc⟩ := h.2 hn
  have hx : 0 < xs.length := by rw [h.1]; omega
  obtain ⟨b, o, t⟩ := ad
  have h0 := hc 0 _ (List.getElem?_eq_getElem hx)
  have ht : t = none := by
    cases t with
    | none => rfl
    | some t =>
      exfalso
      simp [World.cell?, Addr.add] at h0
      cases hb : w.heap[b]? with
      | none => rw [hb] at h0; simp at h0
      | some ob => rw [hb] at h0; cases ob <;> simp at h0
  subst ht
  refine ⟨b, o, hA, hlt, fun j u hu => ?_⟩
  have := hc j u hu
  have e : (⟨b, o, none⟩ : Addr).add j = ⟨b, o + j, none⟩ := by unfold Addr.add; split <;> simp_all
  rwa [e] at this
theorem Own.short {w : World} {e size n c k : Nat} {A : Option Addr} {xs : List Value} (h : Own w e size A n c xs) (hk : k ≤ n) : Own w e size A k c (xs.take (k * size)) := by
  have hl := h.len
  have hmul : k * size ≤ n * size := Nat.mul_le_mul_right _ hk
  refine ⟨by rw [List.length_take]; omega, ?_⟩
  rcases h.cases with ⟨rfl, rfl, rfl, rfl⟩ | ⟨g, cur, rfl, hb, h1, h2, h3, h4⟩
  · have : k = 0 := by omega
    subst this
    simp
  · right
    refine ⟨g, c, cur, rfl, Nat.zero_le _, hb, by omega, h2, h3, ?_⟩
    rw [← h4, List.take_take, Nat.min_eq_left hmul]
/-- Behind a row that the library wrote anew. -/
theorem Own.put {w : World} {g c m : Nat} {e : TypeId} {os : Array Obj} {ss ts : List Tx} (h : Own w e 1 (some ⟨g, 0, none⟩) ss.length c (SB ss)) (hl : ts.length = ss.length) :
    Own (grow (putRow encStr (Sort.ahead w m) g 0 ts.toArray) os) e 1 (some ⟨g, 0, none⟩) ss.length c (SB ts) ∧ Frm [g] w (grow (putRow encStr (Sort.ahead w m) g 0 ts.toArray) os) := by
  rcases h.cases with ⟨h0, _⟩ | ⟨g', cur, hA, hb, h1, h2, h3, h4⟩
  · cases h0
  · cases hA
    refine ⟨ownsRow_sorted hl (Nat.zero_le _) hb h1 h2 (by simpa using h3), ?_⟩
    have := Frm.grown (grownBy_sorted (w := w) (g := g) (n := m) (os := os) ts.toArray)
    simpa using this
theorem Own.holds {w : World} {g c : Nat} {e : TypeId} {ss : List Tx} (h : Own w e 1 (some ⟨g, 0, none⟩) ss.length c (SB ss)) : Holds encStr w g 0 ss.toArray ∧ g < w.heap.size := by
  rcases h.cases with ⟨h0, _⟩ | ⟨g', cur, hA, hb, h1, h2, h3, h4⟩
  · cases h0
  · cases hA
    exact ⟨holds_of_block hb (by rw [Nat.mul_one] at h4; exact h4), hb.lt⟩

theorem grow_nil (w : World) : grow w #[] = w := by cases w; simp [grow]
theorem rd_txs0 {H : Type} {enc : TypeId × Value → H} {P : Program} {w : World} {base : Nat} {spare : Nat → Bool} {held : Bool} {t e : TypeId} {fuel len cap : Nat} {a : Option Addr} {x : DataW H × List MemPlace} (ht : P.underlying t = some (.slice e)) (he : P.underlying e = some .string) (hc : P.cellsOf e = 1)
    (h : DataW.trod enc P w base spare held fuel t [.slice a len cap] = some x) : ∃ l : List Tx, l.length = len ∧ len ≤ cap ∧ cap ≤ 9223372036854775807 ∧ Rd w 1 a len (SB l) := by
  obtain ⟨ls, h1, h2, h3, h4, _⟩ := rd_strs ht he hc h
  refine ⟨ls.map (·.data.toList), by simpa using h1, h2, h3, ?_⟩
  have : SB (ls.map (·.data.toList)) = ls.map Value.string := by simp only [SB, List.map_map]; rfl
  rw [this]
  exact h4
end Go.Proofs.YtenbjndldenkfaaGreatDoor

/-
  Structs as arguments: their fields, one by one.
-/
namespace Go.Proofs.YtenbjndldenkfaaGreatDoor
open Go.RowKit Go.ChangeShapes Go.WideShapes Go.Deep
section
variable {H : Type} {enc : TypeId × Value → H} {P : Program} {w : World} {base : Nat} {spare : Nat → Bool} {held : Bool} {n : Nat} {cs : List Value} {x : DataW H × List MemPlace} {t e : TypeId}
theorem open_field {fs : Array Field} (ht : P.underlying t = some (.struct fs)) (h : DataW.trod enc P w base spare held n t cs = some x) :
    cs.length = P.cellsOf t ∧ ∃ n', ∀ (i : Nat) (f : Field), fs[i]? = some f → ∃ y, DataW.trod enc P w base spare held n' f.type ((cs.drop f.offset).take (P.cellsOf f.type)) = some y := by
  obtain ⟨xs, n', _, _, hl, hxl, hf⟩ := DataW.trod_struct ht h
  refine ⟨hl, n', fun i f hif => ?_⟩
  have hi : i < xs.length := by rw [hxl]; exact (Array.getElem?_eq_some_iff.1 hif).1
  exact ⟨xs[i], (hf i f hif).trans (List.getElem?_eq_getElem hi)⟩
theorem int_form {k : IntKind} (ht : P.underlying t = some (.int k)) (h : DataW.trod enc P w base spare held n t cs = some x) : ∃ z, cs = [.int k z] ∧ (Lit.int k z).wf = true := by
  obtain ⟨z, h1, _, h2⟩ := DataW.trod_int ht h
  exact ⟨z, h1, h2⟩
theorem str_form (ht : P.underlying t = some .string) (h : DataW.trod enc P w base spare held n t cs = some x) : ∃ q : Tx, cs = [encStr q] ∧ q.length ≤ 9223372036854775807 := by
  obtain ⟨s, h1, _, h2⟩ := DataW.trod_string ht h
  exact ⟨s.data.toList, h1, by simpa [maxLen] using h2⟩
theorem slice_form (ht : P.underlying t = some (.slice e)) (h : DataW.trod enc P w base spare held n t cs = some x) : ∃ A l c, cs = [.slice A l c] := by
  rcases open_slice ht h with ⟨hcs, _⟩ | ⟨ad, l, c, _, _, _, _, hcs, _⟩
  · exact ⟨_, _, _, hcs⟩
  · exact ⟨_, _, _, hcs⟩
theorem txs_form (ht : P.underlying t = some (.slice e)) (he : P.underlying e = some .string) (hc : P.cellsOf e = 1) (h : DataW.trod enc P w base spare held n t cs = some x) :
    ∃ A c, ∃ l : List Tx, cs = [.slice A l.length c] ∧ l.length ≤ c ∧ c ≤ 9223372036854775807 ∧ Rd w 1 A l.length (SB l) := by
  obtain ⟨A, len, c, rfl⟩ := slice_form ht h
  obtain ⟨l, rfl, h1, h2, h3⟩ := rd_txs0 ht he hc h
  exact ⟨A, c, l, rfl, h1, h2, h3⟩
theorem ints_form (ht : P.underlying t = some (.slice e)) (he : P.underlying e = some (.int .i64)) (hc : P.cellsOf e = 1) (h : DataW.trod enc P w base spare held n t cs = some x) :
    ∃ A c, ∃ l : List Int, cs = [.slice A l.length c] ∧ l.length ≤ c ∧ c ≤ 9223372036854775807 ∧ Rd w 1 A l.length (IB l) := by
  obtain ⟨A, len, c, rfl⟩ := slice_form ht h
  obtain ⟨l, rfl, h1, h2, h3, _⟩ := rd_ints ht he hc h
  exact ⟨A, c, l, rfl, h1, h2, h3⟩
end
end Go.Proofs.YtenbjndldenkfaaGreatDoor

