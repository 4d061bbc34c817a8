/-
  Lemmas on the way, joined: EngC, MatV, InfP, DefQ, DefR, RefN, CanL, DefW, InfW, InfT, InfS, InfM, InfD, InfK, InfN, InfB, InfJ, InfI.
-/
import Derived.RangeFuncLeaves
import Derived.RangeFuncSeq
import Derived.RangeFuncOwn
import Derived.Sort.OwnSorted
import Derived.Deep.Strs
import Derived.Test.YtnmieihcjjiccaaPk1

namespace Go.Proofs.Ytnmieihcjjiccaa
open Go.RowKit
theorem Run.minI {P : Program} {Γ : Env} {w : World} {dst : Option Tmp} {pos : String} {after : Array Edge} {g : Option (Nat × Bool)} {t : TypeId} {x y : Operand} {k : IntKind} {a b : Int} {ts : Array TypeId} (hx : ev? Γ x = some (.int k a)) (hy : ev? Γ y = some (.int k b)) :
  Run P ⟨dst, .call ⟨.builtin .min, #[x, y], ts⟩, t, pos, after, g⟩ Γ w (.int k (if b < a then b else a)) := fun ρ hρ => by
 simp [execOp, resolve, invoke, builtin, Builtin.min_, Builtin.min2, hρ _ _ hx, hρ _ _ hy]
def marks (ds : List Nat) : List Deferred := ds.map fun d => { target := .collected d, args := #[] }
abbrev DQ := Exit → List Nat → Env → World → Prop
def liftD (m : Nat) (Q : DQ) (e : Exit) (a : Act) (w : World) : Prop := ∃ ds Γ, Sat ⟨m, marks ds, none⟩ Γ a ∧ Q e ds Γ w
def DV (P : Program) (m : Nat) (c : Code) (ds : List Nat) (Γ : Env) (w : World) (Q : DQ) : Prop := ∀ a, Sat ⟨m, marks ds, none⟩ Γ a → ∀ k, c.wpIn (wd none) k P (liftD m Q) a w
def thenD (K : List Nat → Env → World → Prop) (Q : DQ) : DQ
 | .normal, ds, Γ, w => K ds Γ w
 | e, ds, Γ, w => Q e ds Γ w
def blockD (id : Nat) (Q : DQ) : DQ
 | .exit i, ds, Γ, w => if i = id then Q .normal ds Γ w else Q (.exit i) ds Γ w
 | e, ds, Γ, w => Q e ds Γ w
section
variable {P : Program} {m : Nat} {ds : List Nat} {Γ : Env} {w : World} {Q : DQ} {K : List Nat → Env → World → Prop} {i id : Nat}
theorem thenD_n (h : K ds Γ w) : thenD K Q .normal ds Γ w := h
theorem thenD_r (h : Q .ret ds Γ w) : thenD K Q .ret ds Γ w := h
theorem blockD_n (h : Q .normal ds Γ w) : blockD id Q .normal ds Γ w := h
theorem blockD_x (h : Q .normal ds Γ w) : blockD id Q (.exit id) ds Γ w := by simp only [blockD, if_true]; exact h
theorem DV.vc {c : Code} (h : VC P ⟨m, marks ds, none⟩ c Γ w (fun e Γ' w' => Q e ds Γ' w')) : DV P m c ds Γ w Q := fun a hs k =>
 wpIn_mono (h a hs k) fun _ _ _ ⟨Γ', hs', q⟩ => ⟨ds, Γ', hs', q⟩
theorem DV.sub {c : Code} (Γ' : Env) (hs : Sub Γ Γ') (h : DV P m c ds Γ' w Q) : DV P m c ds Γ w Q := fun a ha => h a (ha.sub hs)
theorem DV.seq {x y : Code} (h : DV P m x ds Γ w (thenD (fun ds' Γ' w' => DV P m y ds' Γ' w' Q) Q)) : DV P m (.seq x y) ds Γ w Q := by
 intro a hs k
 refine wpIn_seq (wpIn_mono (h a hs k) ?_)
 intro e a' w' hq
 obtain ⟨ds', Γ', hs', q⟩ := hq
 cases e with
 | normal => exact q a' hs' k
 | exit id => exact ⟨ds', Γ', hs', q⟩
 | goto l => exact ⟨ds', Γ', hs', q⟩
 | ret => exact ⟨ds', Γ', hs', q⟩
 | panic c => exact ⟨ds', Γ', hs', q⟩
 | outgrown => exact ⟨ds', Γ', hs', q⟩
theorem DV.block {c : Code} (h : DV P m c ds Γ w (blockD id Q)) : DV P m (.block id c) ds Γ w Q := by
 intro a hs k
 refine wpIn_block (wpIn_mono (h a hs k) ?_)
 intro e a' w' hq
 obtain ⟨ds', Γ', hs', q⟩ := hq
 cases e with
 | normal => exact ⟨ds', Γ', hs', q⟩
 | exit i =>
  simp only [blockD] at q
  by_cases hi : i = id
  ·
   rw [if_pos hi] at q; simp only [Exit.inBlock, hi, if_true]; exact ⟨ds', Γ', hs', q⟩
  ·
   rw [if_neg hi] at q; simp only [Exit.inBlock, hi, if_false]; exact ⟨ds', Γ', hs', q⟩
 | goto l => exact ⟨ds', Γ', hs', q⟩
 | ret => exact ⟨ds', Γ', hs', q⟩
 | panic c => exact ⟨ds', Γ', hs', q⟩
 | outgrown => exact ⟨ds', Γ', hs', q⟩
theorem DV.condB {c : Operand} {x y : Code} {b : Bool} (hc : ev? Γ c = some (.bool b)) (ht : b = true → DV P m x ds Γ w Q) (hf : b = false → DV P m y ds Γ w Q) : DV P m (.cond c x y) ds Γ w Q := by
 intro a hs k
 have e := hs.fits _ _ hc
 exact wpIn_cond_split e (fun h => ht h a hs k) (fun h => hf h a hs k)
theorem DV.condD {c : Operand} {x y : Code} {p : Prop} [Decidable p] (hc : ev? Γ c = some (.bool (decide p))) (ht : p → DV P m x ds Γ w Q) (hf : ¬ p → DV P m y ds Γ w Q) : DV P m (.cond c x y) ds Γ w Q :=
 DV.condB hc (fun e => ht (of_decide_eq_true e)) (fun e => hf (of_decide_eq_false e))
theorem DV.condT {c : Operand} {x y : Code} {b : Bool} (hc : ev? Γ c = some (.bool b)) (hb : b = true) (h : DV P m x ds Γ w Q) : DV P m (.cond c x y) ds Γ w Q :=
 DV.condB hc (fun _ => h) (fun e => by rw [hb] at e; cases e)
theorem DV.condF {c : Operand} {x y : Code} {b : Bool} (hc : ev? Γ c = some (.bool b)) (hb : b = false) (h : DV P m y ds Γ w Q) : DV P m (.cond c x y) ds Γ w Q :=
 DV.condB hc (fun e => by rw [hb] at e; cases e) (fun _ => h)
theorem DV.skip (h : Q .normal ds Γ w) : DV P m .skip ds Γ w Q := DV.vc (VC.skip h)
theorem DV.loop {σ : Type} {c : Code} (D : σ → List Nat) (env : σ → Env) (inv : σ → World → Prop) (μ : σ → Nat) (s0 : σ) (hD0 : ds = D s0) (hs0 : Sub Γ (env s0)) (h0 : inv s0 w)
  (round : ∀ s w, inv s w → DV P m c (D s) (env s) w (thenD (fun ds' Γ' w' => ∃ s', ds' = D s' ∧ Sub Γ' (env s') ∧ inv s' w' ∧ μ s' < μ s) Q)) : DV P m (.loop c) ds Γ w Q := by
 subst hD0
 intro a hs m0
 refine wpIn_loop_ghost (fun k a w => ∃ s, μ s = k ∧ Sat ⟨m, marks (D s), none⟩ (env s) a ∧ inv s w) (μ s0) ⟨s0, rfl, hs.sub hs0, h0⟩ ?_
 rintro k a w ⟨s, rfl, hsa, hi⟩
 refine wpIn_mono (round s w hi a hsa m0) ?_
 intro e a' w' hq
 obtain ⟨ds', Γ', hs', q⟩ := hq
 cases e with
 | normal =>
  obtain ⟨s', rfl, hsub, hinv, hlt⟩ := q
  exact ⟨μ s', hlt, s', rfl, hs'.sub hsub, hinv⟩
 | exit id => exact ⟨ds', Γ', hs', q⟩
 | goto l => exact ⟨ds', Γ', hs', q⟩
 | ret => exact ⟨ds', Γ', hs', q⟩
 | panic c => exact ⟨ds', Γ', hs', q⟩
 | outgrown => exact ⟨ds', Γ', hs', q⟩
end

abbrev Mark (w : World) (d : Nat) : Prop := w.heap[d]? = some (.deferred (some []))
theorem Mark.frm {w w' : World} {S : List Nat} {d : Nat} (h : Mark w d) (k : Frm S w w') (hd : d ∉ S) : Mark w' d := (k.block d (Array.getElem?_eq_some_iff.1 h).1 hd).trans h
theorem Mark.ne_blk {w : World} {d g : Nat} {t : TypeId} {cs : Array Value} (h : Mark w d) (hb : Blk w g t cs) : d ≠ g := by
 rintro rfl
 unfold Blk at hb
 rw [h] at hb
 cases hb
theorem Mark.ne_own {w : World} {d e size n c : Nat} {A : Option Addr} {xs : List Value} (h : Mark w d) (ho : Own w e size A n c xs) : d ∉ ob A := by
 rcases ho.cases with ⟨rfl, _⟩ | ⟨g, cur, rfl, hb, _⟩
 ·
  simp [ob]
 ·
  simp only [ob, List.mem_singleton]
  exact h.ne_blk hb
theorem Mark.drew {w : World} {d : Nat} (h : Mark w d) : Mark w.drew d := h
theorem Frm.putObj (w : World) (l : Nat) (o : Obj) : Frm [l] w (w.putObj l o) :=
 ⟨rfl, rfl, rfl, by simp [World.putObj], fun k _ hk => World.putObj_heap_other (fun e => hk (by simp [e]))⟩
def endD (P : Program) (res : Array ResultVar) (R : Ending → World → Prop) : DQ
 | .normal, ds, Γ, w | .ret, ds, Γ, w => ds.Nodup ∧ (∀ d ∈ ds, Mark w d) ∧ ∀ w', Frm ds w w' → endQ P res R .ret Γ w'
 | _, _, _, _ => False
section
variable {P : Program} {m : Nat} {ds : List Nat} {Γ : Env} {w : World} {res : Array ResultVar} {R : Ending → World → Prop}
theorem endD_r (h1 : ds.Nodup) (h2 : ∀ d ∈ ds, Mark w d) (h : ∀ w', Frm ds w w' → endQ P res R .ret Γ w') : endD P res R .ret ds Γ w := ⟨h1, h2, h⟩
theorem leaves_marks {fn : Func} {tmps : Array Value} {k : Nat} {F : Fence} : ∀ (ds : List Nat) (w : World), ds.Nodup → (∀ d ∈ ds, Mark w d) →
  (∀ w', Frm ds w w' → ∃ v, (results fn tmps).run P w' = .ok v w' ∧ R (.returned v) w') → LeavesInM F k P fn tmps R (marks ds) .returning w
 | [], w, _, _, h => by
  obtain ⟨v, h1, h2⟩ := h w (Frm.refl _ _)
  exact ⟨v, h1, h2⟩
 | d :: ds, w, hn, hm, h => by
  obtain ⟨hn1, hn2⟩ := List.nodup_cons.1 hn
  refine ⟨by simp, .inl ⟨d, w.putObj d (.deferred none), rfl, run_takeDeferred (hm d (by simp)), ?_⟩⟩
  have hf := Frm.putObj w d (.deferred none)
  refine leaves_marks ds _ hn2 (fun x hx => ?_) (fun w' hw' => h w' ?_)
  ·
   exact (hm x (by simp [hx])).frm hf (by simp; rintro rfl; exact hn1 hx)
  ·
   exact (hf.mono (T := d :: ds) (by simp)).trans hw' (fun x hx => .inl (by simp [hx]))
theorem DV.calls {f : FuncId} {fn : Func} {c : Code} {args : List Value} {nt : Nat} (hf : P.funcs[f]? = some fn) (hb : fn.body = some c) (hn : fn.ntmps = nt) (hr : fn.results = res) (hl0 : Nat.ble args.length nt = true)
  (h : DV P nt c [] (argEnv 0 args) w (endD P res R)) : Calls P f args.toArray w R := by
 have hl : args.length ≤ nt := Nat.le_of_ble_eq_true hl0
 refine callsIn_wide.1 (callsIn_of_wp_marks (F := Fence.wide) (n := 0) hf hb trivial ?_)
 refine wpIn_mono (h _ ?_ 0) ?_
 ·
  refine ⟨?_, rfl, ?_⟩
  ·
   simp only [Array.size_append, List.size_toArray, Array.size_replicate, hn]
   omega
  ·
   intro t v ht
   obtain ⟨_, h2⟩ := argEnv_get args 0 t v ht
   simp only [Nat.sub_zero] at h2
   have hlt : t < args.length := (List.getElem?_eq_some_iff.1 h2).1
   rw [Array.getD_eq_getD_getElem?, Array.getElem?_append_left (by simpa using hlt)]
   simp [h2]
 ·
  rintro e a w' ⟨ds, Γ, hs, hq⟩
  have key : ds.Nodup ∧ (∀ d ∈ ds, Mark w' d) ∧ (∀ w'', Frm ds w' w'' → endQ P res R .ret Γ w'') → LeavesInM Fence.wide 0 P fn a.tmps R a.defers .returning w' := by
   rintro ⟨h1, h2, h3⟩
   rw [hs.defers]
   refine leaves_marks ds w' h1 h2 (fun w'' hw'' => ?_)
   obtain ⟨vs, h4, h5⟩ := resQ_results hs hr (h3 w'' hw'')
   exact ⟨_, h4, h5⟩
  cases e with
  | normal => exact key hq
  | ret => exact key hq
  | _ => exact hq.elim
end

def YieldsTo (P : Program) (l : Nat) (args : Array Value) (W : World) (R : Ending → World → Prop) : Prop := ∀ k, YieldAt (wd none) k P l args W R
theorem YieldsTo.mono {P : Program} {l : Nat} {args : Array Value} {W : World} {R R' : Ending → World → Prop} (h : YieldsTo P l args W R) (hr : ∀ e w', R e w' → R' e w') : YieldsTo P l args W R' := fun k =>
 let ⟨fn, tmps, assign, body, h1, h2⟩ := h k; ⟨fn, tmps, assign, body, h1, h2.mono hr⟩
def Off (Bt : List Nat) (W W' : World) : Prop := ∃ C, Frm C W W' ∧ ∀ b ∈ Bt, b ∉ C
theorem Off.blk {Bt : List Nat} {W W' : World} {g : Nat} {t : TypeId} {cs : Array Value} (h : Off Bt W W') (hb : Blk W g t cs) (hg : g ∈ Bt) : Blk W' g t cs := by
 obtain ⟨C, hf, hC⟩ := h
 exact hb.frm hf (hC g hg)
theorem Off.rd {Bt : List Nat} {W W' : World} {size n : Nat} {A : Option Addr} {xs : List Value} (h : Off Bt W W') (hr : Rd W size A n xs) (hg : 0 < n → ∀ x ∈ ob A, x ∈ Bt) : Rd W' size A n xs := by
 obtain ⟨C, hf, hC⟩ := h
 exact hr.frm hf fun hn x hx => hC x (hg hn x hx)
def Iter {α : Type} (P : Program) (gf : FuncId) (lb : Array Value) (encs : α → Array Value) (B Bt : List Nat) (Kp : World → Prop) (xs : List α) : Prop :=
 ∀ (l : Nat) (J Jx : List α → World → Prop) (W : World),
  (∀ pre W W', J pre W → Frm B W W' → J pre W') → (∀ pre W W', Jx pre W → Frm B W W' → Jx pre W') → Kp W →
  (∀ pre x W1, J pre W1 → (pre ++ [x]) <+: xs → YieldsTo P l (encs x) W1 fun e W' => Off Bt W1 W' ∧ ((e = .returned (.bool true) ∧ J (pre ++ [x]) W') ∨ (e = .returned (.bool false) ∧ Jx (pre ++ [x]) W'))) →
  J [] W → Calls P gf (#[.func (.yield l) #[] #[]] ++ lb) W fun e W' => (∃ v, e = .returned v) ∧ (J xs W' ∨ ∃ pre, Jx pre W')
theorem Ops.yield {P : Program} {n : NF} {Γ : Env} {w : World} {Q : Exit → Env → World → Prop} {ops : Array Oper} {rest : List Oper} {dst : Option Tmp} {T : TypeId} {pos : String} {after : Array Edge} {l : Nat} {c : Operand} {xs : List Operand} {vs : List Value} {ts : Array TypeId} {R : Ending → World → Prop}
  (hro : n.ro = none) (hc : ev? Γ c = some (.func (.yield l) #[] #[])) (hv : evs Γ xs vs) (hy : YieldsTo P l vs.toArray w R) {d : Nat} (hd : dst = some d) (hn : Nat.blt d n.n = true)
  (k : ∀ e w', R e w' → ∃ v, e = .returned v ∧ Ops P n ops rest ((d, v) :: Γ) w' Q) : Ops P n ops (⟨dst, .call ⟨.value c, xs.toArray, ts⟩, T, pos, after, none⟩ :: rest) Γ w Q :=
 Ops.of_wp trivial fun a hs m => by
  rw [hro]
  refine ⟨about_wd, ?_⟩
  obtain ⟨fn, tmps, assign, body, h1, h2⟩ := hy (m - 1)
  have e1 := evs_map hs.fits xs vs hv
  have e2 : a.eval c = .func (.yield l) #[] #[] := hs.fits _ _ hc
  have hrun : (execOp a.eval ⟨dst, .call ⟨.value c, xs.toArray, ts⟩, T, pos, after, none⟩).run P w = .ok (.round l fn tmps assign body) w := by
   simp [execOp, resolve, e2, Deferred.ofValue, invoke, callFunc, e1, h1]
  rw [semAt_run hrun (by simp), Oper.uponIn_round, hd]
  refine ⟨fun h => by simp [wd, Fence.wide] at h, h2.mono ?_⟩
  intro e w' hR
  obtain ⟨v, rfl, hk⟩ := k e w' hR
  have := hk _ (hs.put hn v) m
  rw [hro] at this
  exact this

theorem KeepsOthers.of_frm {S : List Nat} {W W' : World} (h : Frm S W W') (hS : ∀ b ∈ S, ∀ o, W.heap[b]? = some o → o.isCells = true) : KeepsOthers W W' :=
 ⟨h.size, fun k o hk ho => (h.block k (Array.getElem?_eq_some_iff.1 hk).1 (fun hx => by have := hS k hx o hk; rw [ho] at this; cases this)).trans hk⟩
theorem KeepsOthers.frm0 {W W' : World} (h : Frm [] W W') : KeepsOthers W W' := KeepsOthers.of_frm h (by simp)
theorem KeepsOthers.blk {W W' : World} {g : Nat} {t : TypeId} {cs : Array Value} (h : Frm [g] W W') (hb : Blk W g t cs) : KeepsOthers W W' := KeepsOthers.of_frm h (fun b hx o ho => by
 simp at hx; subst hx
 unfold Blk at hb
 rw [hb] at ho
 cases ho; rfl)
theorem KeepsOthers.own {W W' : World} {e size n c : Nat} {A : Option Addr} {xs : List Value} (h : Frm (ob A) W W') (ho : Own W e size A n c xs) : KeepsOthers W W' := by
 rcases ho.cases with ⟨rfl, _⟩ | ⟨g, cur, rfl, hb, _⟩
 ·
  exact KeepsOthers.frm0 h
 ·
  exact KeepsOthers.blk h hb
def Wrote (Bt : List Nat) (W W' : World) : Prop := ∃ C, Frm C W W' ∧ ∀ b ∈ C, b ∉ Bt ∧ ∀ o, W.heap[b]? = some o → o.isCells = true
theorem Wrote.frm0 {Bt : List Nat} {W W' : World} (h : Frm [] W W') : Wrote Bt W W' := ⟨[], h, by simp⟩
theorem Wrote.off {Bt : List Nat} {W W' : World} (h : Wrote Bt W W') : Off Bt W W' := by
 obtain ⟨C, hf, hC⟩ := h
 exact ⟨C, hf, fun b hb hx => (hC b hx).1 hb⟩
theorem Wrote.others {Bt : List Nat} {W W' : World} (h : Wrote Bt W W') : KeepsOthers W W' := by
 obtain ⟨C, hf, hC⟩ := h
 exact KeepsOthers.of_frm hf fun b hb o ho => (hC b hb).2 o ho
theorem Blk.isC {W : World} {g : Nat} {t : TypeId} {cs : Array Value} (hb : Blk W g t cs) : ∀ o, W.heap[g]? = some o → o.isCells = true := fun o ho => by
 unfold Blk at hb
 rw [hb] at ho
 cases ho; rfl
theorem Own.isC {W : World} {e size n c : Nat} {A : Option Addr} {xs : List Value} (ho : Own W e size A n c xs) : ∀ g ∈ ob A, ∀ o, W.heap[g]? = some o → o.isCells = true := by
 rcases ho.cases with ⟨rfl, _⟩ | ⟨g, cur, rfl, hb, _⟩
 ·
  simp [ob]
 ·
  intro x hx
  simp only [ob, List.mem_singleton] at hx
  subst hx
  exact hb.isC
def roundQ {α : Type} (Bt : List Nat) (I : List α → World → Prop) (Ix : Exit → List α → World → Prop) (xs : List α) (W : World) : Exit → Env → World → Prop
 | .normal, _, W' => Wrote Bt W W' ∧ I xs W'
 | .ret, _, W' => Wrote Bt W W' ∧ Ix .ret xs W'
 | .exit id, _, W' => Wrote Bt W W' ∧ Ix (.exit id) xs W'
 | _, _, _ => False
theorem foldl_params : ∀ (l : List (Nat × Value)) (tmps : Array Value) (Γ : Env) (N : Nat), tmps.size = N → (∀ t v, get? Γ t = some v → tmps.getD t undef = v) → (∀ x ∈ l, x.1 < N) →
  (l.foldl (fun t (x : Nat × Value) => t.setIfInBounds x.1 x.2) tmps).size = N ∧ ∀ t v, get? (l.reverse ++ Γ) t = some v → (l.foldl (fun t (x : Nat × Value) => t.setIfInBounds x.1 x.2) tmps).getD t undef = v
 | [], tmps, Γ, N, hN, h, _ => ⟨hN, by simpa using h⟩
 | (p, u) :: r, tmps, Γ, N, hN, h, hl => by
  have hp : p < tmps.size := by rw [hN]; exact hl (p, u) (by simp)
  have h1 := foldl_params r (tmps.setIfInBounds p u) ((p, u) :: Γ) N (by simpa using hN) (fun t v ht => by
   simp only [get?] at ht
   cases hq : Nat.beq p t with
   | true =>
    rw [hq] at ht
    simp only [cond_true, Option.some.injEq] at ht
    subst ht
    rw [← Nat.eq_of_beq_eq_true hq]
    simp [Array.getD_eq_getD_getElem?, hp]
   | false =>
    rw [hq] at ht
    simp only [cond_false] at ht
    have hne : p ≠ t := fun e => by subst e; rw [Nat.beq_refl] at hq; cases hq
    have := h t v ht
    rw [Array.getD_eq_getD_getElem?, Array.getElem?_setIfInBounds_ne hne, ← Array.getD_eq_getD_getElem?]
    exact this) (fun x hx => hl x (by simp [hx]))
  rw [List.foldl_cons]
  have e : ((p, u) :: r).reverse ++ Γ = r.reverse ++ (p, u) :: Γ := by simp
  rw [e]
  exact h1
abbrev NC (w W : World) (B S : List Nat) : Prop := ∀ b ∈ S, b ∈ B ∨ (w.heap.size ≤ b ∧ ∀ o, W.heap[b]? = some o → o.isCells = false)
theorem Blk.nc {w W : World} {B S : List Nat} {g : Nat} {t : TypeId} {cs : Array Value} (hb : Blk W g t cs) (hS : NC w W B S) (hg : g ∉ B) : g ∉ S := fun h => by
 rcases hS g h with h1 | ⟨_, h1⟩
 ·
  exact hg h1
 ·
  have := h1 _ hb
  cases this
theorem Own.nc {w W : World} {B S : List Nat} {e size n c : Nat} {A : Option Addr} {xs : List Value} (ho : Own W e size A n c xs) (hS : NC w W B S) (hg : ∀ x ∈ ob A, x ∉ B) : ∀ x ∈ ob A, x ∉ S := by
 rcases ho.cases with ⟨rfl, _⟩ | ⟨g, cur, rfl, hb, _⟩
 ·
  simp [ob]
 ·
  intro x hx
  have hx2 := hg x hx
  simp only [ob, List.mem_singleton] at hx
  subst hx
  exact hb.nc hS hx2
theorem Frm.nc {w0 w W W' : World} {B S : List Nat} (h : Frm [] w0 W) (k : Frm S W W') (hS : NC w W B S) (hB : ∀ b ∈ B, w0.heap.size ≤ b) (hw : w0.heap.size ≤ w.heap.size) : Frm [] w0 W' := h.own k fun b hb => by
 rcases hS b hb with h1 | ⟨h1, _⟩
 ·
  exact hB b h1
 ·
  omega
theorem DV.range {α : Type} {P : Program} {m : Nat} {ds : List Nat} {Γ : Env} {w : World} {Q : DQ} {g : Operand} {ps : List Tmp} {assign body : Code} {gf : FuncId} {lb : Array Value} {Kp : World → Prop} {xs : List α} {B Bt : List Nat} (encs : α → List Value)
  (hit : Iter P gf lb (fun x => (encs x).toArray) B Bt Kp xs) (hg : ev? Γ g = some (.func (.func gf) #[] lb)) (eg : ∀ args w, (callFunc gf args).run P w = .ok (.enter gf args) w) (hps : ∀ x, (encs x).length = ps.length) (hpm : (ps.all fun p => Nat.blt p m) = true)
  (I : List α → World → Prop) (Ix : Exit → List α → World → Prop) (ΓA : α → Env)
  (hI : ∀ pre W W' S, I pre W → Frm S W W' → NC w W B S → I pre W') (hIx : ∀ e pre W W' S, Ix e pre W → Frm S W W' → NC w W B S → Ix e pre W') (hK : ∀ W, Frm [] w W → Kp W) (hB : ∀ b ∈ B, b ∈ Bt) (hBt : ∀ b ∈ Bt, b < w.heap.size) (h0 : I [] w)
  (hassign : ∀ l x W, VC P ⟨m, [], some l⟩ assign ((ps.zip (encs x)).reverse ++ Γ) W (thenQ (fun Γ' W' => W' = W ∧ Sub Γ' (ΓA x)) (fun _ _ _ => False)))
  (hbody : ∀ l pre x W, I pre W → (pre ++ [x]) <+: xs → w.heap.size + 2 ≤ W.heap.size → Mark W w.heap.size → VC P ⟨m, [], some l⟩ body (ΓA x) W (roundQ Bt I Ix (pre ++ [x]) W))
  (hdone : ∀ W, I xs W → w.heap.size + 2 ≤ W.heap.size → Mark W w.heap.size → Q .normal (w.heap.size :: ds) Γ W)
  (hret : ∀ pre W, Ix .ret pre W → w.heap.size + 2 ≤ W.heap.size → Mark W w.heap.size → Q .ret (w.heap.size :: ds) Γ W)
  (hexit : ∀ id pre W, Ix (.exit id) pre W → w.heap.size + 2 ≤ W.heap.size → Mark W w.heap.size → Q (.exit id) (w.heap.size :: ds) Γ W) : DV P m (.rangeFunc g ps.toArray assign body) ds Γ w Q := by
 intro a hs k
 refine wpIn_rangeFunc ?_
 intro fn hfn
 obtain ⟨rec, hrec⟩ : ∃ rec : LoopState → Option Code → Loop, rec = fun st pe => { state := st, pending := pe, fn, tmps := a.tmps, params := ps.toArray, assign, body, defers := w.heap.size } := ⟨_, rfl⟩
 obtain ⟨W1, hW1⟩ : ∃ W1, (w.alloc (.deferred (some []))).alloc (.loop (rec .ready none)) = W1 := ⟨_, rfl⟩
 have hL1 : W1.heap[w.heap.size + 1]? = some (.loop (rec .ready none)) := by
  rw [← hW1]; have := World.alloc_heap_new (w.alloc (.deferred (some []))) (.loop (rec .ready none)); rwa [World.size_alloc] at this
 have hK1 : Mark W1 w.heap.size := by
  rw [← hW1]; exact (Below.heap_alloc _ _ _ (by simp)).trans (World.alloc_heap_new w _)
 have hF1 : Frm [] w W1 := by rw [← hW1]; exact ((Frm.refl [] w).alloc _).alloc _
 have hI1 : I [] W1 := hI [] w W1 [] h0 hF1 (fun b hb => by cases hb)
 have hsz : ∀ W : World, ∀ r, W.heap[w.heap.size + 1]? = some (.loop r) → w.heap.size + 2 ≤ W.heap.size := fun W r h => by
  have := (Array.getElem?_eq_some_iff.1 h).1; omega
 have hnc : ∀ W r, W.heap[w.heap.size + 1]? = some (.loop r) → NC w W B [w.heap.size + 1] := fun W r h b hb => by
  simp only [List.mem_singleton] at hb
  subst hb
  refine .inr ⟨by omega, fun o ho => by rw [h] at ho; cases ho; rfl⟩
 have hmk : ∀ (W : World) o, Mark W w.heap.size → Mark (W.putObj (w.heap.size + 1) o) w.heap.size := fun W o h => (World.putObj_heap_other (by omega)).trans h
 refine ⟨w.heap.size + 1, [{ target := .collected w.heap.size, args := #[] }], W1, { target := .fn (.func gf) lb, args := #[.func (.yield (w.heap.size + 1)) #[] #[]] }, W1, gf,
  #[.func (.yield (w.heap.size + 1)) #[] #[]] ++ lb, W1, ?_, ?_, fun _ _ => trivial, ?_, fun h => by simp [wd, Fence.wide] at h, ?_⟩
 ·
  rw [← hW1, hrec]; exact run_enterLoop_outer _ _ _ _ _
 ·
  have e1 : a.eval g = .func (.func gf) #[] lb := hs.fits _ _ hg
  simp only [resolve, e1]
  simp [go_sem]
 ·
  simp [invoke, go_sem, eg]
 ·
  let J : List α → World → Prop := fun pre W => I pre W ∧ W.heap[w.heap.size + 1]? = some (.loop (rec .ready none)) ∧ Mark W w.heap.size
  let Jx : List α → World → Prop := fun pre W => ((Ix .ret pre W ∧ W.heap[w.heap.size + 1]? = some (.loop (rec .done (some .ret)))) ∨ ∃ id, Ix (.exit id) pre W ∧ W.heap[w.heap.size + 1]? = some (.loop (rec .done (some (.exit id))))) ∧ Mark W w.heap.size
  have keepL : ∀ {W W' : World} {r}, Frm B W W' → W.heap[w.heap.size + 1]? = some (.loop r) → W'.heap[w.heap.size + 1]? = some (.loop r) := fun hf h => (hf.block _ (Array.getElem?_eq_some_iff.1 h).1 (fun hx => by have := hBt _ (hB _ hx); omega)).trans h
  have keepM : ∀ {W W' : World}, Frm B W W' → Mark W w.heap.size → Mark W' w.heap.size := fun hf h => h.frm hf (fun hx => by have := hBt _ (hB _ hx); omega)
  refine callsIn_wd.2 ((hit (w.heap.size + 1) J Jx W1 ?_ ?_ (hK _ hF1) ?_ ⟨hI1, hL1, hK1⟩).mono ?_)
  ·
   rintro pre W W' ⟨h1, h2, h3⟩ hf
   exact ⟨hI pre W W' B h1 hf (fun b hb => .inl hb), keepL hf h2, keepM hf h3⟩
  ·
   rintro pre W W' ⟨h1, h3⟩ hf
   refine ⟨?_, keepM hf h3⟩
   rcases h1 with ⟨h1, h2⟩ | ⟨id, h1, h2⟩
   ·
    exact .inl ⟨hIx _ pre W W' B h1 hf (fun b hb => .inl hb), keepL hf h2⟩
   ·
    exact .inr ⟨id, hIx _ pre W W' B h1 hf (fun b hb => .inl hb), keepL hf h2⟩
  ·
   rintro pre x W ⟨hi, hl, hk⟩ hpre k'
   have hlt : w.heap.size + 1 < W.heap.size := (Array.getElem?_eq_some_iff.1 hl).1
   have hy := run_yield (P := P) (args := (encs x).toArray) hl (by rw [hrec]; simpa using hps x)
   rw [hrec] at hy
   refine ⟨fn, _, assign, body, hy, roundIn_of_wpIn hfn ?_⟩
   have hz : (ps.toArray.zip (encs x).toArray).foldl (fun tmps (t, a) => tmps.setIfInBounds t a) a.tmps = (ps.zip (encs x)).foldl (fun t (x : Nat × Value) => t.setIfInBounds x.1 x.2) a.tmps := by
    simp [List.zip_toArray]
   obtain ⟨hfs, hfg⟩ := foldl_params (ps.zip (encs x)) a.tmps Γ m hs.size hs.at_ (fun y hy => by
    have h1 := (List.of_mem_zip hy).1
    have h2 := List.all_eq_true.1 hpm _ h1
    simpa [Nat.blt_eq] using h2)
   dsimp only
   rw [hz]
   refine wpIn_mono (hassign (w.heap.size + 1) x W { tmps := (ps.zip (encs x)).foldl (fun t (x : Nat × Value) => t.setIfInBounds x.1 x.2) a.tmps, defers := [] } ⟨hfs, rfl, hfg⟩ k') ?_
   rintro e a1 W' ⟨Γ1, hs1, hq1⟩
   cases e with
   | normal =>
    obtain ⟨rfl, hsub⟩ := hq1
    have hl2 : (W'.putObj (w.heap.size + 1) (.loop { rec .ready none with state := .busy })).heap[w.heap.size + 1]? = some (.loop { rec .ready none with state := .busy }) := World.putObj_heap_same hlt
    have hf2 := Frm.putObj W' (w.heap.size + 1) (.loop { rec .ready none with state := .busy })
    have hi2 := hI pre _ _ _ hi hf2 (hnc _ _ hl)
    refine ⟨_, run_beginRound hl (by rw [hrec]), ?_⟩
    refine wpIn_mono (hbody (w.heap.size + 1) pre x _ hi2 hpre (hsz _ _ hl2) (hmk _ _ hk) a1 (hs1.sub hsub) k') ?_
    have fin : ∀ (jump : Option Code) (W3 : World), KeepsOthers (W'.putObj (w.heap.size + 1) (.loop { rec .ready none with state := .busy })) W3 →
      (Instr.endRound (w.heap.size + 1) jump).run P W3 = .ok (.bool jump.isNone) (W3.putObj (w.heap.size + 1) (.loop (rec (if jump.isNone then .ready else .done) jump))) ∧
      W3.heap[w.heap.size + 1]? = some (.loop { rec .ready none with state := .busy }) ∧
      (W3.putObj (w.heap.size + 1) (.loop (rec (if jump.isNone then .ready else .done) jump))).heap[w.heap.size + 1]? = some (.loop (rec (if jump.isNone then .ready else .done) jump)) ∧
      Mark (W3.putObj (w.heap.size + 1) (.loop (rec (if jump.isNone then .ready else .done) jump))) w.heap.size := fun jump W3 hk3 => by
     have hl3 := hk3.same _ _ hl2 rfl
     have := run_endRound (P := P) jump hl3
     rw [hrec] at this ⊢
     exact ⟨this, by rw [hrec] at hl3; exact hl3, World.putObj_heap_same (Array.getElem?_eq_some_iff.1 hl3).1, hmk _ _ (hk3.same _ _ (hmk _ _ hk) rfl)⟩
    have offs : ∀ {W3 : World} {o : Obj}, Wrote Bt (W'.putObj (w.heap.size + 1) (.loop { rec .ready none with state := .busy })) W3 → Off Bt W' (W3.putObj (w.heap.size + 1) o) := fun {W3 o} hw => by
     obtain ⟨C, hf, hC⟩ := hw.off
     refine ⟨(w.heap.size + 1) :: C, ((hf2.mono (T := (w.heap.size + 1) :: C) (by simp)).trans hf (fun x hx => .inl (by simp [hx]))).trans (Frm.putObj W3 _ o) (by simp), fun b hb hx => ?_⟩
     rcases List.mem_cons.1 hx with rfl | hx
     ·
      have := hBt _ hb; omega
     ·
      exact hC b hb hx
    rintro e a3 W3 ⟨Γ3, _, hp⟩
    cases e with
    | normal =>
     obtain ⟨hk3, hi3⟩ := hp
     obtain ⟨hr, hl3, hl4, hk4⟩ := fin none W3 hk3.others
     exact ⟨_, _, hr, offs hk3, .inl ⟨rfl, hI _ _ _ _ hi3 (Frm.putObj W3 _ _) (hnc _ _ hl3), hl4, hk4⟩⟩
    | ret =>
     obtain ⟨hk3, hi3⟩ := hp
     obtain ⟨hr, hl3, hl4, hk4⟩ := fin (some .ret) W3 hk3.others
     exact ⟨_, _, hr, offs hk3, .inr ⟨rfl, .inl ⟨hIx _ _ _ _ _ hi3 (Frm.putObj W3 _ _) (hnc _ _ hl3), hl4⟩, hk4⟩⟩
    | exit id =>
     obtain ⟨hk3, hi3⟩ := hp
     obtain ⟨hr, hl3, hl4, hk4⟩ := fin (some (.exit id)) W3 hk3.others
     exact ⟨_, _, hr, offs hk3, .inr ⟨rfl, .inr ⟨id, hIx _ _ _ _ _ hi3 (Frm.putObj W3 _ _) (hnc _ _ hl3), hl4⟩, hk4⟩⟩
    | goto t => exact hp.elim
    | panic ch => exact hp.elim
    | outgrown => exact hp.elim
   | exit id => exact hq1.elim
   | goto t => exact hq1.elim
   | ret => exact hq1.elim
   | panic ch => exact hq1.elim
   | outgrown => exact hq1.elim
  ·
   have hs' : Sat ⟨m, marks (w.heap.size :: ds), none⟩ Γ { a with defers := [{ target := .collected w.heap.size, args := #[] }] ++ a.defers } := ⟨hs.size, by show [_] ++ a.defers = _; rw [hs.defers]; rfl, hs.at_⟩
   rintro e W2 ⟨⟨v, rfl⟩, (⟨hi, hl, hk⟩ | ⟨pre, h1, hk⟩)⟩
   ·
    have hend := run_endLoop (P := P) hl (by rw [hrec]; simp)
    refine ⟨none, _, by rw [hend, hrec], ?_⟩
    exact ⟨_, Γ, hs', hdone _ (hI _ _ _ _ hi (Frm.putObj _ _ _) (hnc _ _ hl)) (Nat.le_trans (hsz _ _ hl) (Frm.putObj _ _ _).size) (hmk _ _ hk)⟩
   ·
    rcases h1 with ⟨hi, hl⟩ | ⟨id, hi, hl⟩
    ·
     have hend := run_endLoop (P := P) hl (by rw [hrec]; simp)
     refine ⟨some .ret, _, by rw [hend, hrec], ?_⟩
     exact wpIn_ret (Q := liftD m Q) ⟨_, Γ, hs', hret _ _ (hIx _ _ _ _ _ hi (Frm.putObj _ _ _) (hnc _ _ hl)) (Nat.le_trans (hsz _ _ hl) (Frm.putObj _ _ _).size) (hmk _ _ hk)⟩
    ·
     have hend := run_endLoop (P := P) hl (by rw [hrec]; simp)
     refine ⟨some (.exit id), _, by rw [hend, hrec], ?_⟩
     exact wpIn_exit (Q := liftD m Q) ⟨_, Γ, hs', hexit _ _ _ (hIx _ _ _ _ _ hi (Frm.putObj _ _ _) (hnc _ _ hl)) (Nat.le_trans (hsz _ _ hl) (Frm.putObj _ _ _).size) (hmk _ _ hk)⟩
end Go.Proofs.Ytnmieihcjjiccaa

namespace Go.Proofs.Ytnmieihcjjiccaa
open Go.RowKit Go.Sort
abbrev Tx := List UInt8
def SB (ss : List Tx) : List Value := ss.map encStr
theorem Own.put {w : World} {g c m : Nat} {e : TypeId} {os : Array Obj} {ss ts : List Tx} (h : Own w e 1 (some ⟨g, 0, none⟩) ss.length c (SB ss)) (hl : ts.length = ss.length) :
  Own (grow (putRow encStr (Sort.ahead w m) g 0 ts.toArray) os) e 1 (some ⟨g, 0, none⟩) ss.length c (SB ts) ∧ Frm [g] w (grow (putRow encStr (Sort.ahead w m) g 0 ts.toArray) os) := by
 rcases h.cases with ⟨h0, _⟩ | ⟨g', cur, hA, hb, h1, h2, h3, h4⟩
 ·
  cases h0
 ·
  cases hA
  refine ⟨ownsRow_sorted hl (Nat.zero_le _) hb h1 h2 (by simpa using h3), ?_⟩
  have := Frm.grown (grownBy_sorted (w := w) (g := g) (n := m) (os := os) ts.toArray)
  simpa using this
theorem Own.holds {w : World} {g c : Nat} {e : TypeId} {ss : List Tx} (h : Own w e 1 (some ⟨g, 0, none⟩) ss.length c (SB ss)) : Holds encStr w g 0 ss.toArray ∧ g < w.heap.size := by
 rcases h.cases with ⟨h0, _⟩ | ⟨g', cur, hA, hb, h1, h2, h3, h4⟩
 ·
  cases h0
 ·
  cases hA
  exact ⟨holds_of_block hb (by rw [Nat.mul_one] at h4; exact h4), hb.lt⟩
end Go.Proofs.Ytnmieihcjjiccaa

namespace Go.Proofs.Ytnmieihcjjiccaa
open Go.RowKit Go.ChangeShapes Go.WideShapes Go.Deep
section
variable {H : Type} {enc : TypeId × Value → H} {P : Program} {w : World} {base : Nat} {spare : Nat → Bool} {held : Bool} {n : Nat} {cs : List Value} {x : DataW H × List MemPlace} {t e : TypeId}
end
end Go.Proofs.Ytnmieihcjjiccaa
namespace Go.Proofs.Ytnmieihcjjiccaa
open Go.RowKit
def revF (L : List Nat) : Nat → List (Nat × Nat)
 | 0 => []
 | m + 1 => (m, L.getD m 0) :: revF L m
theorem NI_get (a : List Nat) (i : Nat) (h : i < a.length) : (NI a)[i]? = some (.int .i64 ((a.getD i 0 : Nat) : Int)) := by
 simp [NI, h]
set_option maxRecDepth 100000 in
theorem back_iter (g1 c : Nat) (A : Option Addr) (L : List Nat) (hl : L.length ≤ 1000000) :
  Iter Try.prog 97 #[.pointer (some ⟨g1, 0, none⟩)] (fun x : Nat × Nat => #[.int .i64 ((x.1 : Nat) : Int), .int .i64 ((x.2 : Nat) : Int)]) [] (g1 :: ob A) (fun w => Blk w g1 38 #[.slice A L.length c] ∧ Rd w 1 A L.length (NI L)) (revF L L.length) := by
 rintro l J Jx w hJ hJx ⟨hb1, hrd⟩ hY h0
 refine VC.calls (nt := 19) (res := #[]) Try.func97 rfl Try.ntmps97 Try.results97 rfl ?_
 refine jS (jR ?_)
 refine Ops.r (Run.load rfl Try.isAgg38 (hb1.cell 0)) rfl ?_
 refine Ops.r (Run.lenS rfl Try.underlying38) rfl ?_
 refine Ops.r (Run.bin rfl rfl (Bin.subZ _ 1 (by omega) (by omega))) rfl ?_
 refine jA ?_
 refine jO (jN (jv3 0 1 3 ?_))
 refine jB ?_
 refine VC.loop (σ := Nat × List (Nat × Nat)) (fun s => [(0, .func (.yield l) #[] #[]), (1, .pointer (some ⟨g1, 0, none⟩)), (3, .int .i64 (((s.1 : Nat) : Int) - 1))]) (fun s wr => s.1 ≤ L.length ∧ revF L L.length = s.2 ++ revF L s.1 ∧ Blk wr g1 38 #[.slice A L.length c] ∧ Rd wr 1 A L.length (NI L) ∧ J s.2 wr) (fun s => s.1) (L.length, []) (js3 rfl rfl rfl) ⟨Nat.le_refl _, rfl, hb1, hrd, h0⟩ ?_
 rintro ⟨m, pre⟩ wr ⟨hm, hsp, hb1, hrd, hj⟩
 dsimp only at hm hsp hj ⊢
 refine jS (jS (jR (jM ?_)))
 refine Ops.r (Run.bin rfl rfl (Bin.geq _ 0)) rfl ?_
 refine jO (jN (jv4 0 1 3 8 ?_))
 refine VC.condD rfl (fun hc1 => ?_) (fun hc1 => ?_)
 ·
  obtain ⟨i, rfl⟩ : ∃ i, m = i + 1 := ⟨m - 1, by omega⟩
  have ei : (((i + 1 : Nat) : Int) - 1) = ((i : Nat) : Int) := by omega
  rw [ei]
  obtain ⟨ad, rfl, hadlt, hadc⟩ := hrd.2 (by omega)
  have hcell := hadc i _ (NI_get L i (by omega))
  have hpre : (pre ++ [(i, L.getD i 0)]) <+: revF L L.length := ⟨revF L i, by rw [hsp, revF]; simp⟩
  refine jQ (jN (jv3 0 1 3 ?_))
  refine jS (jB (jS (jR (jM ?_))))
  refine jM ?_
  refine Ops.r (Run.load rfl Try.isAgg38 (hb1.cell 0)) rfl ?_
  refine jM ?_
  refine Ops.r (Run.index1 _ rfl rfl Try.underlying38 Try.sizeOf3 (by omega)) rfl ?_
  refine Ops.r (Run.load rfl Try.isAgg3 hcell) rfl ?_
  refine Ops.yield rfl rfl (evs.cons rfl (evs.cons rfl evs.nil)) ((by simpa using hY pre (i, L.getD i 0) wr hj hpre : YieldsTo Try.prog l #[_, _] wr _)) rfl rfl ?_
  rintro e w1 ⟨hoff, hR0⟩
  obtain ⟨yb, rfl, hR⟩ : ∃ yb : Bool, e = .returned (.bool yb) ∧ ((yb = true ∧ J (pre ++ [(i, L.getD i 0)]) w1) ∨ (yb = false ∧ Jx (pre ++ [(i, L.getD i 0)]) w1)) := by
   rcases hR0 with ⟨rfl, h⟩ | ⟨rfl, h⟩
   ·
    exact ⟨true, rfl, .inl ⟨rfl, h⟩⟩
   ·
    exact ⟨false, rfl, .inr ⟨rfl, h⟩⟩
  refine ⟨_, rfl, ?_⟩
  have hb1 := hoff.blk hb1 (by simp)
  have hrd := hoff.rd hrd (fun _ x hx => by simp [hx])
  refine Ops.r (Run.not rfl) rfl ?_
  refine jO (jN (jv4 0 1 3 18 ?_))
  refine VC.condB rfl (fun hc2 => ?_) (fun hc2 => ?_)
  ·
   refine jT ?_
   refine blockQ_r (thenQ_r (thenQ_r (blockQ_r (end0 ?_))))
   exact ⟨⟨_, rfl⟩, .inr ⟨_, (hR.resolve_left (fun h => by rw [h.1] at hc2; simp at hc2)).2⟩⟩
  ·
   refine jQ ?_
   refine blockQ_n (jN ?_)
   refine jv3 0 1 3 ?_
   refine jR (jM ?_)
   refine Ops.r (Run.bin rfl rfl (Bin.subZ _ 1 (by omega) (by omega))) rfl ?_
   refine jA ?_
   refine jO ?_
   refine jN ⟨(i, pre ++ [(i, L.getD i 0)]), (js3 rfl rfl rfl), ?_, ?_⟩
   ·
    exact ⟨by dsimp only; omega, by rw [hsp, revF]; simp, hb1, hrd, (hR.resolve_right (fun h => by rw [h.1] at hc2; simp at hc2)).2⟩
   ·
    first | omega | (dsimp only; omega)
 ·
  refine jX ?_
  refine thenQ_x (thenQ_x (blockQ_x ?_))
  refine end0n ?_
  have hm0 : m = 0 := by omega
  subst hm0
  refine ⟨⟨_, rfl⟩, .inl ?_⟩
  rw [hsp, revF, List.append_nil]
  exact hj
set_option maxRecDepth 100000 in
theorem backw_spec (A : Option Addr) (n c : Nat) (w : World) :
  Calls Try.prog 80 #[.slice A n c] w fun e w' => ∃ g1, e = .returned (.func (.func 97) #[] #[.pointer (some ⟨g1, 0, none⟩)]) ∧ Blk w' g1 38 #[.slice A n c] ∧ Frm [] w w' ∧ w.heap.size ≤ g1 := by
 refine VC.calls (nt := 4) (res := #[.tmp 2]) Try.func80 rfl Try.ntmps80 Try.results80 rfl ?_
 refine jS (jR ?_)
 refine Ops.m (Does.box rfl) rfl ?_
 rintro _ w1 ⟨rfl, hF⟩
 refine jA ?_
 refine jO (jN (jv1 1 ?_))
 refine jS (jR ?_)
 refine Ops.r (Run.mkFunc evs.nil (evs.cons rfl evs.nil)) rfl ?_
 refine jA ?_
 refine jO (jN (jv1 2 ?_))
 refine jT ?_
 refine end1 rfl ?_
 exact ⟨_, rfl, hF.blk, hF.frm, Nat.le_refl _⟩
theorem revF_pre {L : List Nat} {pre : List (Nat × Nat)} {x : Nat × Nat} : ∀ {m : Nat}, (pre ++ [x]) <+: revF L m → pre.length + x.1 + 1 = m ∧ x.2 = L.getD x.1 0 := by
 induction pre with
 | nil =>
  intro m h
  cases m with
  | zero => have := h.length_le; simp [revF] at this
  | succ m =>
   rw [revF, List.nil_append, List.cons_prefix_cons] at h
   obtain ⟨rfl, _⟩ := h
   exact ⟨by simp, rfl⟩
 | cons y pre ih =>
  intro m h
  cases m with
  | zero => have := h.length_le; simp [revF] at this
  | succ m =>
   rw [revF, List.cons_append, List.cons_prefix_cons] at h
   obtain ⟨h1, h2⟩ := ih h.2
   exact ⟨by rw [List.length_cons]; omega, h2⟩
theorem revF_len (L : List Nat) : ∀ m, (revF L m).length = m
 | 0 => rfl
 | m + 1 => by rw [revF, List.length_cons, revF_len L m]
def BeI (w0 w : World) (gf gm cb a : Nat) (Ab : Option Addr) (bs : List Nat) (F G : Nat × Nat × Nat → Option Addr × Nat) (g2 g3 g6 g7 : Nat) (r : Nat × Nat) (W : World) : Prop :=
 IsF w0 W gf gm Ab cb bs a G ∧ Kpf gf F w W ∧ Blk W g2 90 #[.pointer (some ⟨gf, 0, none⟩)] ∧ Blk W g3 3 #[.int .i64 ((a : Nat) : Int)] ∧ Blk W g6 3 #[.int .i64 ((r.1 : Nat) : Int)] ∧ Blk W g7 3 #[.int .i64 ((r.2 : Nat) : Int)]
theorem BeI.nc {w0 w w1 W W' : World} {gf gm cb a : Nat} {Ab : Option Addr} {bs : List Nat} {F G : Nat × Nat × Nat → Option Addr × Nat} {g2 g3 g6 g7 : Nat} {r : Nat × Nat} {S : List Nat} (h : BeI w0 w gf gm cb a Ab bs F G g2 g3 g6 g7 r W) (f : Frm S W W') (hS : NC w1 W [] S) (hm : gm < w1.heap.size) (hB : w.heap.size ≤ w1.heap.size) (hB0 : w0.heap.size ≤ w1.heap.size) : BeI w0 w gf gm cb a Ab bs F G g2 g3 g6 g7 r W' := by
 obtain ⟨h1, h2, h3, h4, h5, h6⟩ := h
 have hb (x : Nat) (hx : x ∈ S) : w1.heap.size ≤ x := by
  rcases hS x hx with h | ⟨h, _⟩
  ·
   cases h
  ·
   exact h
 refine ⟨⟨h1.blk.frm f (h1.blk.nc hS (by simp)), h1.rd0, f.onto h1.below (fun x hx => by have := hb x hx; omega) h1.below.size, h1.hgf, h1.pl.frm f (fun hx => by have := hb _ hx; omega) (fun x => (h1.pl.own x).nc hS (by simp))⟩,
  h2.step f (fun x hx => .inr (.inl (by have := hb x hx; omega))), h3.frm f (h3.nc hS (by simp)), h4.frm f (h4.nc hS (by simp)), h5.frm f (h5.nc hS (by simp)), h6.frm f (h6.nc hS (by simp))⟩
set_option maxRecDepth 100000 in
theorem best_spec (w0 w : World) (gf gm cb u a : Nat) (Ab : Option Addr) (bs : List Nat) (F : Nat × Nat × Nat → Option Addr × Nat) (hu : u ≤ a) (hl : bs.length ≤ 32768) (hcb : bs.length ≤ cb) (ha : a < bs.length) (hB : ∀ b ∈ bs, b < 256) (hF : IsF w0 w gf gm Ab cb bs u F) :
  Calls Try.prog 49 #[.pointer (some ⟨gf, 0, none⟩), .int .i64 ((a : Nat) : Int)] w fun e w' => e = .returned (.tuple #[.int .i64 (((bestM bs a).1 : Nat) : Int), .int .i64 (((bestM bs a).2 : Nat) : Int)]) ∧ Kpf gf F w w' ∧ ∃ G, RowsOf F G w.heap.size ∧ IsF w0 w' gf gm Ab cb bs a G := by
 obtain ⟨ad, hA, _, _⟩ := hF.rd.2 (by omega)
 subst hA
 have hgfl := hF.blk.lt
 have hgml := hF.pl.map.lt
 have hw0 := hF.below.size
 have hcut (h : a + 3 ≤ bs.length) : cutA (some ad) cb a 1 = some (ad.add (a * 1)) := by unfold cutA; rw [if_neg (by omega)]; rfl
 refine DV.calls (nt := 61) (res := #[.tmp 4, .tmp 5]) Try.func49 rfl Try.ntmps49 Try.results49 rfl ?_
 refine DV.seq ?_
 refine DV.vc ?_
 refine jR ?_
 refine Ops.m (Does.box rfl) rfl ?_
 rintro _ w1 ⟨rfl, hF1⟩
 refine Ops.m (Does.box rfl) rfl ?_
 rintro _ w2 ⟨rfl, hF2⟩
 have hb2 : Blk w2 w.heap.size 90 #[.pointer (some ⟨gf, 0, none⟩)] := hF1.blk.frm hF2.frm (by simp)
 have hb3 : Blk w2 w1.heap.size 3 #[.int .i64 ((a : Nat) : Int)] := hF2.blk
 have hI2 := (hF.frm hF1.frm (by simp)).frm hF2.frm (by simp)
 have K2 : Kpf gf F w w2 := ((Kpf.refl gf F w).step hF1.frm (by simp)).step hF2.frm (by simp)
 have hsz2 : w2.heap.size = w.heap.size + 2 := by rw [hF2.size, hF1.size]
 have hg3' := hF1.size
 generalize hg2 : w.heap.size = g2 at hb2 ⊢
 generalize hg3 : w1.heap.size = g3 at hb3 ⊢
 have hFlt : ∀ y, ∀ z ∈ ob (F y).1, z < w.heap.size := fun y z hz => (hF.pl.own y).lt z hz
 refine Ops.r (v := .int .i64 ((0 : Nat) : Int)) (Run.asg rfl) rfl ?_
 refine Ops.r (v := .int .i64 ((0 : Nat) : Int)) (Run.asg rfl) rfl ?_
 refine jO ?_
 refine thenD_n ?_
 refine DV.sub [(2, _), (3, _), (4, _), (5, _)] (js4 rfl rfl rfl rfl) ?_
 refine DV.seq ?_
 refine DV.vc ?_
 refine jR ?_
 refine Ops.r (Run.load rfl Try.isAgg90 (hb2.cell 0)) rfl ?_
 refine Ops.r (Run.load rfl Try.isAgg3 (hb3.cell 0)) rfl ?_
 refine Ops.cl (Enters.fn (evs.cons rfl (evs.cons rfl evs.nil)) Try.call79) (keep_spec w0 w2 gf gm cb u a (some ad) bs F hu (by omega) hcb (by omega) hB hI2) rfl ?_
 rintro e w3 ⟨rfl, K3, G, hro, hI3⟩
 refine ⟨_, rfl, ?_⟩
 have hb2 := K3.blk hI2 hb2 (by decide) (by decide)
 have hb3 := K3.2 g3 _ _ (by omega) (fun y hy => by have := hFlt y _ hy; omega) hb3
 have K3 : Kpf gf F w w3 := ⟨Nat.le_trans K2.1 K3.1, fun b t cs h1 h2 h3 => K3.2 b t cs h1 h2 (K2.2 b t cs h1 h2 h3)⟩
 have hro3 : RowsOf F G w.heap.size := fun y z hz => by
  rcases hro y z hz with h | h
  ·
   exact .inl h
  ·
   exact .inr (by omega)
 have hG3 : ∀ y, ∀ z ∈ ob (G y).1, z ≠ g3 ∧ z < w3.heap.size := fun y z hz => by
  refine ⟨?_, (hI3.pl.own y).lt z hz⟩
  rcases hro y z hz with h | h
  ·
   have := hFlt y z h; omega
  ·
   omega
 have hl3 := hb3.lt
 have hk3 := K3.1
 refine jO ?_
 refine thenD_n ?_
 refine DV.sub [(2, _), (3, _), (4, _), (5, _)] (js4 rfl rfl rfl rfl) ?_
 refine DV.seq ?_
 refine DV.seq ?_
 refine DV.vc ?_
 refine VC.still jK jK ?_
 refine SOps.r (Run.load rfl Try.isAgg3 (hb3.cell 0)) rfl ?_
 refine SOps.r (Run.bin rfl rfl (Bin.add_i64 _ 3 (by omega))) rfl ?_
 refine SOps.r (Run.load rfl Try.isAgg90 (hb2.cell 0)) rfl ?_
 refine SOps.r (Run.nilck rfl) rfl ?_
 refine SOps.r (Run.fieldAddr rfl Try.underlying93 rfl Try.sizeOf22 (by decide)) rfl ?_
 refine SOps.r (Run.load rfl Try.isAgg22 (hI3.blk.cell 0)) rfl ?_
 refine SOps.r (Run.lenS rfl Try.underlying22) rfl ?_
 refine SOps.r (Run.bin rfl rfl (Bin.gtrN _ _)) rfl ?_
 refine SOps.nil ?_
 refine thenD_n ?_
 refine DV.sub [(2, _), (3, _), (4, _), (5, _), (21, _)] (js5 rfl rfl rfl rfl rfl) ?_
 refine DV.vc ?_
 refine VC.condD rfl (fun hc1 => ?_) (fun hc1 => ?_)
 ·
  refine jS (jR ?_)
  refine Ops.r (v := .int .i64 ((0 : Nat) : Int)) (Run.asg rfl) rfl ?_
  refine Ops.r (v := .int .i64 ((0 : Nat) : Int)) (Run.asg rfl) rfl ?_
  refine jO (jN (jv2 4 5 ?_))
  refine jT ?_
  refine thenD_r (endD_r (by simp) (by simp) (fun wz hsh => ?_))
  have hIz := (hI3.drawn (Drawn.drew _)).frm hsh (by simp)
  have Kz := (K3.step (Drawn.drew w3).frm (by simp)).step hsh (by simp)
  refine end2 rfl rfl ?_
  rw [bestM_short bs a (by omega) (by omega)]
  exact ⟨rfl, Kz, G, hg2 ▸ hro3, hIz⟩
 ·
  refine jQ ?_
  refine thenD_n ?_
  refine DV.sub [(2, _), (3, _), (4, _), (5, _)] (js4 rfl rfl rfl rfl) ?_
  refine DV.seq ?_
  refine DV.vc ?_
  refine jR ?_
  refine Ops.m (Does.alloc zero3) rfl ?_
  rintro _ w4 ⟨rfl, hF4⟩
  have hI4 := (hI3.drawn (Drawn.drew _)).frm hF4.frm (by simp)
  have K4 := (K3.step (Drawn.drew w3).frm (by simp)).step hF4.frm (by simp)
  have hb2 := (hb2.drawn (Drawn.drew _)).frm hF4.frm (by simp)
  have hb3 := (hb3.drawn (Drawn.drew _)).frm hF4.frm (by simp)
  have hs4 : w4.heap.size = w3.heap.size + 1 := hF4.size
  have hb6 : Blk w4 w3.drew.heap.size 3 #[.int .i64 ((0 : Nat) : Int)] := hF4.blk
  have hg6' : w3.drew.heap.size = w3.heap.size := rfl
  generalize hg6 : w3.drew.heap.size = g6 at hb6 hg6' ⊢
  refine Ops.m (Does.alloc zero3) rfl ?_
  rintro _ w5 ⟨rfl, hF5⟩
  have hI5 := hI4.frm hF5.frm (by simp)
  have K5 := K4.step hF5.frm (by simp)
  have hb2 := hb2.frm hF5.frm (by simp)
  have hb3 := hb3.frm hF5.frm (by simp)
  have hb6 := hb6.frm hF5.frm (by simp)
  have hs5 := hF5.size
  have hb7 : Blk w5 w4.heap.size 3 #[.int .i64 ((0 : Nat) : Int)] := hF5.blk
  generalize hg7 : w4.heap.size = g7 at hb7 ⊢
  have hoff (W : World) (S : List Nat) (hS : ∀ x ∈ S, x = g6 ∨ x = g7) : gf ∉ S ∧ gm ∉ S ∧ (∀ y, ∀ z ∈ ob (G y).1, z ∉ S) ∧ (∀ x ∈ S, w0.heap.size ≤ x) ∧ g3 ∉ S ∧ ∀ x ∈ S, w.heap.size ≤ x := by
   refine ⟨fun h => ?_, fun h => ?_, fun y z hz h => ?_, fun x h => ?_, fun h => ?_, fun x h => ?_⟩
   ·
    rcases hS _ h with h | h <;> omega
   ·
    rcases hS _ h with h | h <;> omega
   ·
    have := (hG3 y z hz).2
    rcases hS _ h with h | h <;> omega
   ·
    rcases hS _ h with h | h <;> omega
   ·
    rcases hS _ h with h | h <;> omega
   ·
    rcases hS _ h with h | h <;> omega
  refine Ops.st (Acts.store rfl rfl Try.sizeOf3 hb6 rfl rfl) ?_
  rintro w6 ⟨hb6n, hf6, hs6⟩
  have hb6 : Blk w6 g6 3 #[.int .i64 ((0 : Nat) : Int)] := hb6n
  obtain ⟨o1, o2, o3, o4, o5, o6⟩ := hoff w [g6] (by simp)
  have hI6 := hI5.frm2 hf6 o1 o2 o3 o4
  have K6 := K5.step hf6 (fun x hx => .inr (.inl (o6 x hx)))
  have hb2 := hb2.frm hf6 (by simp; omega)
  have hb3 := hb3.frm hf6 o5
  have hb7 := hb7.frm hf6 (by simp; omega)
  refine Ops.st (Acts.store rfl rfl Try.sizeOf3 hb7 rfl rfl) ?_
  rintro w7 ⟨hb7n, hf7, hs7⟩
  have hb7 : Blk w7 g7 3 #[.int .i64 ((0 : Nat) : Int)] := hb7n
  obtain ⟨o1, o2, o3, o4, o5, o6⟩ := hoff w [g7] (by simp)
  have hI7 := hI6.frm2 hf7 o1 o2 o3 o4
  have K7 := K6.step hf7 (fun x hx => .inr (.inl (o6 x hx)))
  have hb2 := hb2.frm hf7 (by simp; omega)
  have hb3 := hb3.frm hf7 o5
  have hb6 := hb6.frm hf7 (by simp; omega)
  obtain ⟨kl, hkey⟩ := key3 (tri bs a) (getD_lt hB a) (getD_lt hB (a + 1)) (getD_lt hB (a + 2))
  refine jO ?_
  refine thenD_n ?_
  refine DV.seq ?_
  refine DV.seq ?_
  refine DV.vc ?_
  refine VC.tail 15 jK jK ?_
  simp only [List.take_succ_cons, List.take_zero, List.drop_succ_cons, List.drop_zero]
  refine SOps.r (Run.load rfl Try.isAgg90 (hb2.cell 0)) rfl ?_
  refine SOps.r (Run.nilck rfl) rfl ?_
  refine SOps.r (Run.fieldAddr rfl Try.underlying93 rfl Try.sizeOf91 (by decide)) rfl ?_
  refine SOps.r (Run.load rfl Try.isAgg91 (hI7.blk.cell 1)) rfl ?_
  refine SOps.r (Run.load rfl Try.isAgg90 (hb2.cell 0)) rfl ?_
  refine SOps.r (Run.nilck rfl) rfl ?_
  refine SOps.r (Run.fieldAddr rfl Try.underlying93 rfl Try.sizeOf22 (by decide)) rfl ?_
  refine SOps.r (Run.load rfl Try.isAgg22 (hI7.blk.cell 0)) rfl ?_
  refine SOps.r (Run.load rfl Try.isAgg3 (hb3.cell 0)) rfl ?_
  refine SOps.r (Run.load rfl Try.isAgg3 (hb3.cell 0)) rfl ?_
  refine SOps.r (Run.bin rfl rfl (Bin.add_i64 _ 3 (by omega))) rfl ?_
  refine SOps.r (Run.sliceS _ _ rfl Try.underlying22 Try.sizeOf5 (evB.some_ rfl) (evB.some_ rfl) (by omega) (by omega)) rfl ?_
  rw [hcut (by omega)]
  refine SOps.r (Run.toArr rfl Try.underlying139 (by omega)) rfl ?_
  refine SOps.r (Run.loadA (cs := NB [bs.getD a 0, bs.getD (a + 1) 0, bs.getD (a + 2) 0]) rfl Try.isAgg139 Try.sizeOf139 (three_cells hI7.rd (by omega)) rfl) rfl ?_
  refine SOps.r (Run.lookup (x := tri bs a) rfl rfl hI7.pl.map law3 Try.underlying91 zero38 hkey) rfl ?_
  rw [hI7.pl.getD]
  refine SOps.nil ?_
  refine Ops.cl (Enters.fn (evs.cons rfl evs.nil) Try.call80) (backw_spec _ _ _ _) rfl ?_
  rintro e w8 ⟨g1, rfl, hb1, hf8, hg1⟩
  refine ⟨_, rfl, ?_⟩
  have hg1 : w7.heap.size ≤ g1 := hg1
  have hI8 := (hI7.drawn (Drawn.drew _)).frm hf8 (by simp)
  have K8 := (K7.step (Drawn.drew w7).frm (by simp)).step hf8 (by simp)
  have hb2 := (hb2.drawn (Drawn.drew _)).frm hf8 (by simp)
  have hb3 := (hb3.drawn (Drawn.drew _)).frm hf8 (by simp)
  have hb6 := (hb6.drawn (Drawn.drew _)).frm hf8 (by simp)
  have hb7 := (hb7.drawn (Drawn.drew _)).frm hf8 (by simp)
  have hs8 : w7.heap.size ≤ w8.heap.size := hf8.size
  have hrow := hI8.pl.own (tri bs a)
  have hll := posL_len bs (tri bs a) a
  have hUend := Upto_end bs a
  generalize hn : (posL bs (tri bs a) a).length = n at *
  refine jO ?_
  refine thenD_n ?_
  refine DV.sub [(2, _), (3, _), (4, _), (5, _), (6, _), (7, _), (37, _)] (js7 rfl rfl rfl rfl rfl rfl rfl) ?_
  refine DV.block ?_
  refine DV.range (ps := [38, 39]) (fun x : Nat × Nat => [.int .i64 ((x.1 : Nat) : Int), .int .i64 ((x.2 : Nat) : Int)]) (hn ▸ back_iter g1 (G (tri bs a)).2 (G (tri bs a)).1 (posL bs (tri bs a) a) (by omega)) rfl Try.call97 (fun _ => rfl) rfl (fun pre W => BeI w0 w gf gm cb a (some ad) bs F G g2 g3 g6 g7 (Upto bs a (n - pre.length)) W) (fun e pre W => e = .exit 0 ∧ BeI w0 w gf gm cb a (some ad) bs F G g2 g3 g6 g7 (bestM bs a) W) (fun x => [(2, .pointer (some ⟨g2, 0, none⟩)), (3, .pointer (some ⟨g3, 0, none⟩)), (6, .pointer (some ⟨g6, 0, none⟩)), (7, .pointer (some ⟨g7, 0, none⟩)), (9, .int .i64 ((x.2 : Nat) : Int))]) ?_ ?_ ?_ ?_ ?_ ?_ ?_ ?_ ?_ ?_ ?_
  ·
   exact fun pre W W' S h f hS => h.nc f hS (by omega) (by omega) (by omega)
  ·
   exact fun e pre W W' S h f hS => ⟨h.1, h.2.nc f hS (by omega) (by omega) (by omega)⟩
  ·
   exact fun W hf => ⟨hb1.frm hf (by simp), (hrow.frm hf (by simp)).rd⟩
  ·
   simp
  ·
   intro b hb
   rcases List.mem_cons.1 hb with rfl | hb
   ·
    exact hb1.lt
   ·
    exact hrow.lt b hb
  ·
   rw [List.length_nil, Nat.sub_zero, hUend]
   exact ⟨hI8, K8, hb2, hb3, hb6, hb7⟩
  ·
   intro l x W
   refine jv6 2 3 6 7 38 39 ?_
   refine jR (jA ?_)
   refine jO ?_
   refine jN ⟨rfl, (js5 rfl rfl rfl rfl rfl)⟩
  ·
   rintro l pre x W ⟨hIW, hKW, hb2, hb3, hb6, hb7⟩ hpre hsz hmk
   obtain ⟨hlen, hval⟩ := revF_pre hpre
   have hxn : x.1 < (posL bs (tri bs a) a).length := by omega
   obtain ⟨p1, p2, p3⟩ := pos_at hxn
   have hU := Upto_step bs a x.1 (by omega) hxn
   dsimp only at hU
   rw [← hval] at hU p1 p2 p3
   have hfull := Upto_full bs a (by omega) (x.1 + 1) (by omega)
   have e1 : n - pre.length = x.1 + 1 := by omega
   have hb60 := hb6
   have hb70 := hb7
   clear hval
   rw [e1] at hb6 hb7
   generalize Upto bs a (x.1 + 1) = r at hU hfull hb6 hb7
   refine jB (jS (jS ?_))
   refine VC.split1 [(2, _), (3, _), (6, _), (7, _), (9, _)] (js5 rfl rfl rfl rfl rfl) 47 (.bool (decide (32768 < a - x.2 ∨ r.1 = 258))) ?_ ?_
   ·
    refine jR ?_
    refine Ops.r (Run.load rfl Try.isAgg3 (hb3.cell 0)) rfl ?_
    refine jM ?_
    refine Ops.r (Run.bin rfl rfl (Bin.sub_i64 _ _ (by omega) (by omega))) rfl ?_
    refine Ops.r (Run.bin rfl rfl (Bin.gtrN _ 32768)) rfl ?_
    by_cases hs43 : 32768 < a - x.2
    ·
     refine jM ?_
     refine jU ?_
     refine jU ?_
     refine Ops.r (Run.pickT rfl rfl au) rfl ?_
     refine jO ?_
     refine jN ⟨(js6 (jC (by simp [*])) rfl rfl rfl rfl rfl), rfl⟩
    ·
     refine jM ?_
     refine Ops.rg rfl au (Run.load rfl Try.isAgg3 (hb6.cell 0)) rfl ?_
     refine Ops.rg rfl au (Run.bin rfl rfl (Bin.eqlN _ 258)) rfl ?_
     by_cases hs46 : r.1 = 258
     ·
      refine Ops.r (Run.pickF rfl rfl au) rfl ?_
      refine jO ?_
      refine jN ⟨(js6 (jC (by simp [*])) rfl rfl rfl rfl rfl), rfl⟩
     ·
      refine Ops.r (Run.pickF rfl rfl au) rfl ?_
      refine jO ?_
      refine jN ⟨(js6 (jC (by simp [*])) rfl rfl rfl rfl rfl), rfl⟩
   ·
    intro Γ hΓ
    refine jN (VC.sub _ hΓ ?_)
    refine VC.condD rfl (fun hc2 => ?_) (fun hc2 => ?_)
    ·
     refine jX ?_
     refine thenQ_x (blockQ_o rfl (?_))
     refine ⟨Wrote.frm0 (Frm.refl _ _), rfl, ?_⟩
     rw [hfull (hc2.resolve_left (by omega))]
     exact ⟨hIW, hKW, hb2, hb3, hb6, hb7⟩
    ·
     refine jQ (jN (jv5 2 3 6 7 9 ?_))
     refine jS (jR ?_)
     refine Ops.r (Run.load rfl Try.isAgg90 (hb2.cell 0)) rfl ?_
     refine jM ?_
     refine Ops.r (Run.load rfl Try.isAgg3 (hb3.cell 0)) rfl ?_
     refine Ops.cl (Enters.fn (evs.cons rfl (evs.cons rfl (evs.cons rfl evs.nil))) Try.call81) (long_spec w0 W gf gm cb a x.2 a (some ad) bs G p1 (by omega) (by omega) hIW) rfl ?_
     rintro e W2 ⟨rfl, hd2⟩
     refine ⟨_, rfl, ?_⟩
     have hI2W := hIW.drawn hd2
     have hK2W := hKW.step hd2.frm (by simp)
     have hb2 := hb2.drawn hd2
     have hb3 := hb3.drawn hd2
     have hb6 := hb6.drawn hd2
     have hb7 := hb7.drawn hd2
     refine jA ?_
     refine jO (jN (jv5 3 6 7 9 10 ?_))
     refine jS (jR (jM ?_))
     refine Ops.r (Run.load rfl Try.isAgg3 (hb6.cell 0)) rfl ?_
     refine Ops.r (Run.bin rfl rfl (Bin.gtrN _ _)) rfl ?_
     refine jO (jN (jv6 3 6 7 9 10 54 ?_))
     refine VC.condD rfl (fun hc3 => ?_) (fun hc3 => ?_)
     ·
      refine VC.heldL 5 (fun v => Blk v g3 3 #[.int .i64 ((a : Nat) : Int)]) jK ?_
      have hS : (fun v => Blk v g3 3 #[.int .i64 ((a : Nat) : Int)]) W2.drew := hb3.drawn (Drawn.drew _)
      refine jH 0 rfl hS (fun w0 hw0 => Run.mv rfl) ?_
      refine jH 1 rfl hS (fun w0 hw0 => Run.load rfl Try.isAgg3 (hw0.cell 0)) ?_
      refine jH 2 rfl hS (fun w0 hw0 => Run.mv rfl) ?_
      refine jH 3 rfl hS (fun w0 hw0 => Run.bin rfl rfl (Bin.sub_i64 _ _ (by omega) (by omega))) ?_
      refine HOps.st 4 rfl jK (Acts.store rfl rfl Try.sizeOf3 (hb6.drawn (Drawn.drew _)) rfl rfl) trivial rfl ?_
      rintro W3 ⟨hb6n, hf3, hs3⟩
      have hb6n : Blk W3 g6 3 #[.int .i64 ((longM bs x.2 a : Nat) : Int)] := hb6n
      have hb7 := (hb7.drawn (Drawn.drew _)).frm hf3 (by simp; omega)
      have hS3 := hS.frm hf3 (by simp; omega)
      refine ⟨hS3, ?_⟩
      refine HOps.stL rfl jK (Acts.store rfl rfl Try.sizeOf3 hb7 rfl rfl) trivial rfl ?_
      rintro W4 ⟨hb7n, hf4, hs4⟩
      have hb7n : Blk W4 g7 3 #[.int .i64 ((a - x.2 : Nat) : Int)] := hb7n
      refine HOps.done jK ?_
      refine blockQ_n (?_)
      have hf24 : Frm [g6, g7] W2 W4 := (((Drawn.drew W2).frm.mono (T := [g6, g7]) (by simp)).trans hf3 (by simp)).trans hf4 (by simp)
      obtain ⟨o1, o2, o3, o4, o5, o6⟩ := hoff w [g6, g7] (by simp)
      refine ⟨⟨[g6, g7], (hd2.frm.mono (by simp)).trans hf24 (by simp), ?_⟩, ?_⟩
      ·
       intro b hb
       refine ⟨fun h => ?_, fun o ho => ?_⟩
       ·
        rcases List.mem_cons.1 h with h | h
        ·
         subst h; simp only [List.mem_cons, List.not_mem_nil, or_false] at hb; rcases hb with hb | hb <;> omega
        ·
         exact o3 _ b h hb
       ·
        simp only [List.mem_cons, List.not_mem_nil, or_false] at hb
        obtain ⟨m, rfl⟩ := hd2
        rcases hb with rfl | rfl
        ·
         exact hb60.isC o ho
        ·
         exact hb70.isC o ho
      ·
       have e2 : n - (pre ++ [x]).length = x.1 := by rw [List.length_append]; simp; omega
       dsimp only
       rw [e2, hU, if_pos hc3]
       exact ⟨hI2W.frm2 hf24 o1 o2 o3 o4, hK2W.step hf24 (fun x hx => .inr (.inl (o6 x hx))), hb2.frm hf24 (by simp; omega), hb3.frm hf24 o5, hb6n.frm hf4 (by simp; omega), hb7n⟩
     ·
      refine jQ ?_
      refine blockQ_n (?_)
      refine ⟨Wrote.frm0 hd2.frm, ?_⟩
      have e2 : n - (pre ++ [x]).length = x.1 := by rw [List.length_append]; simp; omega
      dsimp only
      rw [e2, hU, if_neg hc3]
      exact ⟨hI2W, hK2W, hb2, hb3, hb6, hb7⟩
  ·
   rintro W ⟨hIW, hKW, hb2, hb3, hb6, hb7⟩ hsz hmk
   rw [revF_len, Nat.sub_self, Upto_zero bs a (by omega)] at hb6 hb7
   refine blockD_n (thenD_n ?_)
   refine DV.sub [(6, _), (7, _)] (js2 rfl rfl) ?_
   refine DV.seq ?_
   refine DV.vc ?_
   refine VC.still jK jK ?_
   refine SOps.r (Run.load rfl Try.isAgg3 (hb6.cell 0)) rfl ?_
   refine SOps.r (Run.load rfl Try.isAgg3 (hb7.cell 0)) rfl ?_
   refine SOps.r (Run.asg rfl) rfl ?_
   refine SOps.r (Run.asg rfl) rfl ?_
   refine SOps.nil ?_
   refine thenD_n ?_
   refine DV.sub [(4, _), (5, _)] (js2 rfl rfl) ?_
   refine DV.vc (jT ?_)
   refine endD_r (by simp) (fun d hd => by simp only [List.mem_singleton] at hd; subst hd; exact hmk) (fun wz hsh => ?_)
   have hIz := (hIW.drawn (Drawn.drew _)).frm2 hsh (by simp; omega) (by simp; omega) (fun y z hz => by have := (hG3 y z hz).2; simp; omega) (by simp; omega)
   have Kz := (hKW.step (Drawn.drew W).frm (by simp)).step hsh (fun x hx => .inr (.inl (by simp at hx; omega)))
   refine end2 rfl rfl ?_
   exact ⟨rfl, Kz, G, hg2 ▸ hro3, hIz⟩
  ·
   exact fun _ _ h => absurd h.1 (by simp)
  ·
   rintro id pre W ⟨he, hIW, hKW, hb2, hb3, hb6, hb7⟩ hsz hmk
   cases he
   refine blockD_x ?_
   refine thenD_n ?_
   refine DV.sub [(6, _), (7, _)] (js2 rfl rfl) ?_
   refine DV.seq ?_
   refine DV.vc ?_
   refine VC.still jK jK ?_
   refine SOps.r (Run.load rfl Try.isAgg3 (hb6.cell 0)) rfl ?_
   refine SOps.r (Run.load rfl Try.isAgg3 (hb7.cell 0)) rfl ?_
   refine SOps.r (Run.asg rfl) rfl ?_
   refine SOps.r (Run.asg rfl) rfl ?_
   refine SOps.nil ?_
   refine thenD_n ?_
   refine DV.sub [(4, _), (5, _)] (js2 rfl rfl) ?_
   refine DV.vc (jT ?_)
   refine endD_r (by simp) (fun d hd => by simp only [List.mem_singleton] at hd; subst hd; exact hmk) (fun wz hsh => ?_)
   have hIz := (hIW.drawn (Drawn.drew _)).frm2 hsh (by simp; omega) (by simp; omega) (fun y z hz => by have := (hG3 y z hz).2; simp; omega) (by simp; omega)
   have Kz := (hKW.step (Drawn.drew W).frm (by simp)).step hsh (fun x hx => .inr (.inl (by simp at hx; omega)))
   refine end2 rfl rfl ?_
   exact ⟨rfl, Kz, G, hg2 ▸ hro3, hIz⟩
def tokC (t : Tk) : List Value := [.int .u8 ((t.1 : Nat) : Int), .int .i64 ((t.2.1 : Nat) : Int), .int .i64 ((t.2.2 : Nat) : Int)]
def TC (l : List Tk) : List Value := l.flatMap tokC
theorem TC_append (a b : List Tk) : TC (a ++ b) = TC a ++ TC b := by simp [TC]
theorem TC_one (l : List Tk) : ∀ u ∈ TC l, u.oneCell' = true := by
 intro u hu
 obtain ⟨t, _, ht⟩ := List.mem_flatMap.1 hu
 simp only [tokC, List.mem_cons, List.not_mem_nil, or_false] at ht
 rcases ht with rfl | rfl | rfl <;> rfl
theorem toks_len (bs : List Nat) : ∀ m a, (findM bs m a).length ≤ m
 | 0, a => Nat.le_refl _
 | m + 1, a => by
  unfold findM
  split
  ·
   simp
  ·
   split
   ·
    have := toks_len bs m (a + 1); simp; omega
   ·
    have := toks_len bs m (a + (bestM bs a).1); simp; omega
theorem zeroFin (w : World) : (zeroValue 93).run Try.prog w = .ok (.agg #[.slice none 0 0, .map none, .int .i64 0]) w := by
 simp only [zeroValue, Sem.run_bind, Try.typeInfo93, Result.andThen_ok]; rfl
theorem placesFin : ∃ fs, Try.prog.underlying 93 = some (.struct fs) ∧ ∀ w, (fs.mapM fun f => do pure (f.offset, ← sizeOf f.type) : Sem (Array (Nat × Nat))).run Try.prog w = .ok #[(0, 1), (1, 1), (2, 1)] w :=
 ⟨_, Try.underlying93, fun w => by simp [Try.sizeOf22, Try.sizeOf91, Try.sizeOf3]⟩
theorem IsF.tok {w0 w w' : World} {gf gm cb u n c : Nat} {Ab B : Option Addr} {bs : List Nat} {F : Nat × Nat × Nat → Option Addr × Nat} {xs : List Value} (h : IsF w0 w gf gm Ab cb bs u F) (ho : Own w 73 3 B n c xs) (hup : ∀ x ∈ ob B, w0.heap.size ≤ x) (f : Frm (ob B) w w') : IsF w0 w' gf gm Ab cb bs u F :=
 h.frm2 f (ho.ne_blk h.blk (by decide)) (by
  rcases ho.cases with ⟨rfl, _⟩ | ⟨g, cur, rfl, hb, _⟩
  ·
   simp [ob]
  ·
   simpa [ob] using h.pl.map.ne_blk hb) (fun x => (h.pl.own x).ne_own ho (by decide)) hup
set_option maxRecDepth 100000 in
theorem find_small (A : Option Addr) (c : Nat) (bs : List Nat) (w : World) (hl : bs.length ≤ 32768) (hc : bs.length ≤ c) (hB : ∀ b ∈ bs, b < 256) (hr : Rd w 1 A bs.length (NB bs)) :
  Calls Try.prog 17 #[.slice A bs.length c] w fun e w' => ∃ B d, e = .returned (.tuple #[.slice B (toks bs 0).length d, .int .i64 ((0 : Nat) : Int)]) ∧ Own w' 73 3 B (toks bs 0).length d (TC (toks bs 0)) ∧ Frm [] w w' ∧ ∀ x ∈ ob B, w.heap.size ≤ x := by
 have h70 : ¬ 65536 < bs.length := by omega
 refine VC.calls (nt := 48) (res := #[.tmp 2, .tmp 3]) Try.func17 rfl Try.ntmps17 Try.results17 rfl ?_
 refine jS (jR (jA ?_))
 refine Ops.r (v := .int .i64 ((0 : Nat) : Int)) (Run.asg rfl) rfl ?_
 refine jO (jN (jv1 0 ?_))
 refine jS (jS (jR (jM ?_)))
 refine Ops.r (Run.lenS rfl Try.underlying22) rfl ?_
 refine Ops.r (Run.bin rfl rfl (Bin.gtrN _ 65536)) rfl ?_
 refine jO (jN (jv2 0 11 ?_))
 refine VC.condF rfl (by simp; omega) ?_
 refine jQ (jN (jv1 0 ?_))
 refine jS (jR (jM ?_))
 refine Ops.m (Does.makeMap (P := Try.prog) (k := 139) (enc := K3)) rfl ?_
 rintro _ w1 ⟨rfl, hM1, hf1, hs1⟩
 refine Ops.r (Run.build (evs.cons rfl (evs.cons rfl evs.nil)) zeroFin placesFin.choose_spec.1 placesFin.choose_spec.2 rfl) rfl ?_
 refine Ops.m (Does.box rfl) rfl ?_
 rintro _ w2 ⟨rfl, hF2⟩
 have hM2 := hM1.frm hF2.frm (by simp)
 have hb0 : Blk w2 w1.heap.size 93 #[.slice A bs.length c, .map (some w.heap.size), .int .i64 ((0 : Nat) : Int)] := hF2.blk
 generalize hgm : w.heap.size = gm at hM2 hb0 ⊢
 generalize hgf : w1.heap.size = gf at hb0 ⊢
 have hI0 : IsF w w2 gf gm A c bs 0 (fun _ => (none, 0)) := by
  refine ⟨hb0, hr, ((hf1.trans hF2.frm (by simp)).below), by omega, ⟨by omega, ?_, fun x => Own.nil _ _ _, fun x => by simp [ob], fun x _ => rfl, fun x y _ => by simp [ob]⟩⟩
  have e : PlM (fun _ => (none, 0)) bs 0 = fun _ => none := by funext x; unfold PlM; rw [if_pos (by rfl)]
  rw [e]
  exact hM2
 have htl0 := toks_len bs bs.length 0
 refine jA ?_
 refine jO (jN (jv2 0 4 ?_))
 refine jS (jR (jA ?_))
 refine jO (jN (jS (jS (jR ?_))))
 refine Ops.r (v := .int .i64 ((0 : Nat) : Int)) (Run.asg rfl) rfl ?_
 refine jO (jN (jB ?_))
 refine VC.loop (σ := Nat × Nat × List Tk × Option Addr × Nat × (Nat × Nat × Nat → Option Addr × Nat)) (fun s => [(0, .slice A bs.length c), (4, .pointer (some ⟨gf, 0, none⟩)), (5, .slice s.2.2.2.1 s.2.2.1.length s.2.2.2.2.1), (6, .int .i64 ((s.1 : Nat) : Int))]) (fun s wr => s.1 ≤ bs.length ∧ s.2.1 ≤ s.1 ∧ s.2.2.1.length ≤ s.1 ∧ toks bs 0 = s.2.2.1 ++ toks bs s.1 ∧ IsF w wr gf gm A c bs s.2.1 s.2.2.2.2.2 ∧ Own wr 73 3 s.2.2.2.1 s.2.2.1.length s.2.2.2.2.1 (TC s.2.2.1) ∧ ∀ x ∈ ob s.2.2.2.1, w.heap.size ≤ x) (fun s => bs.length - s.1) (0, 0, [], none, 0, fun _ => (none, 0)) (js4 rfl rfl rfl rfl) ⟨Nat.zero_le _, Nat.le_refl _, Nat.le_refl _, rfl, hI0, Own.nil _ _ _, by simp [ob]⟩ ?_
 rintro ⟨a, u, pre, B, d, F⟩ wr ⟨ha, hu, hpl, hsp, hI, hO, hup⟩
 dsimp only at ha hu hpl hsp hI hO hup ⊢
 refine jS (jS (jR (jM ?_)))
 refine jM ?_
 refine Ops.r (Run.lenS rfl Try.underlying22) rfl ?_
 refine Ops.r (Run.bin rfl rfl (Bin.lssN _ _)) rfl ?_
 refine jO (jN (jv5 0 4 5 6 19 ?_))
 refine VC.condD rfl (fun hc2 => ?_) (fun hc2 => ?_)
 ·
  refine jQ (jN (jv4 0 4 5 6 ?_))
  refine jB (jS (jR (jM ?_)))
  refine jM ?_
  refine Ops.cl (Enters.fn (evs.cons rfl (evs.cons rfl evs.nil)) Try.call49) (best_spec w wr gf gm c u a A bs F hu (by omega) hc (by omega) hB hI) rfl ?_
  rintro e w3 ⟨rfl, K3, G, hro, hI3⟩
  refine ⟨_, rfl, ?_⟩
  have hO := K3.own hI hO (by decide) (by decide)
  have hbf := bestM_facts bs a (by omega)
  refine jM ?_
  refine Ops.r (Run.extract rfl rfl) rfl ?_
  refine Ops.r (Run.extract rfl rfl) rfl ?_
  refine jA ?_
  refine jA ?_
  refine jO (jN (jv6 0 4 5 6 7 8 ?_))
  refine jS (jS (jR (jM ?_)))
  refine Ops.r (Run.bin rfl rfl (Bin.eqlN _ 0)) rfl ?_
  refine jO (jN (jv7 0 4 5 6 7 8 27 ?_))
  refine VC.condD rfl (fun hc3 => ?_) (fun hc3 => ?_)
  ·
   obtain ⟨ad, rfl, hadlt, hadc⟩ := hI3.rd.2 (by omega)
   have hcell := hadc a _ (NB_get bs a (by omega))
   have hnx := toks_lit bs a (by omega) hc3
   refine jS (jR (jM ?_))
   refine jM ?_
   refine jM ?_
   refine Ops.r (Run.index1 _ rfl rfl Try.underlying22 Try.sizeOf5 (by omega)) rfl ?_
   refine Ops.r (Run.load rfl Try.isAgg5 hcell) rfl ?_
   refine Ops.r (Run.build (evs.cons rfl evs.nil) zero73 (places73).choose_spec.1 (places73).choose_spec.2 rfl) rfl ?_
   refine Ops.m (Does.buildS1 rfl Try.underlying31 Try.sizeOf73 zero73 (by decide) (by decide) rfl rfl) rfl ?_
   rintro _ w4 ⟨rfl, hF4⟩
   have hI4 := hI3.frm hF4.frm (by simp)
   have hO4 := hO.frm hF4.frm (by simp)
   have hrd4 : Rd w4 3 (some ⟨w3.heap.size, 0, none⟩) 1 (TC [(bs.getD a 0, 0, 0)]) := Rd.of_blk (n := 1) (size := 3) hF4.blk rfl
   refine Ops.m (Does.app rfl rfl Try.underlying31 (info73) rfl (by decide) hO4 hrd4 (TC_one _) (by omega) (by omega)) rfl ?_
   rintro _ w5 ⟨B5, d5, rfl, hO5, hf5, hob5⟩
   have hI5 := hI4.tok hO4 hup hf5
   rw [← TC_append] at hO5
   have hup5 := up_app hup hob5 (hI4.below.size)
   refine jA ?_
   refine jO (jN (jv4 0 4 5 6 ?_))
   refine jS (jR (jM ?_))
   refine Ops.r (Run.bin rfl rfl (Bin.add_i64 _ 1 (by omega))) rfl ?_
   refine jA ?_
   refine jO (jN (jv4 0 4 5 6 ?_))
   refine jX ?_
   refine thenQ_x (blockQ_x ?_)
   refine jN ⟨(a + 1, a, pre ++ [(bs.getD a 0, 0, 0)], B5, d5, G), (js4 rfl rfl (by rw [List.length_append]; rfl) rfl), ?_, ?_⟩
   ·
    refine ⟨by dsimp only; omega, by dsimp only; omega, by rw [List.length_append]; simp; omega, by rw [hsp, hnx]; simp, hI5, by rw [List.length_append]; exact hO5, hup5⟩
   ·
    first | omega | (dsimp only; omega)
  ·
   have hnx := toks_match bs a (by omega) hc3
   have hbm : 3 ≤ (bestM bs a).1 ∧ a + (bestM bs a).1 ≤ bs.length := by
    rcases hbf with h | ⟨h1, _, _, _, h2, _⟩
    ·
     rw [h] at hc3; exact absurd rfl hc3
    ·
     exact ⟨h1, h2⟩
   refine jQ (jN (jv6 0 4 5 6 7 8 ?_))
   refine jS (jR (jM ?_))
   refine jM ?_
   refine jM ?_
   refine Ops.r (Run.build (evs.cons rfl (evs.cons rfl evs.nil)) zero73 (places73).choose_spec.1 (places73).choose_spec.2 rfl) rfl ?_
   refine Ops.m (Does.buildS1 rfl Try.underlying31 Try.sizeOf73 zero73 (by decide) (by decide) rfl rfl) rfl ?_
   rintro _ w4 ⟨rfl, hF4⟩
   have hI4 := hI3.frm hF4.frm (by simp)
   have hO4 := hO.frm hF4.frm (by simp)
   have hrd4 : Rd w4 3 (some ⟨w3.heap.size, 0, none⟩) 1 (TC [(0, (bestM bs a).1, (bestM bs a).2)]) := Rd.of_blk (n := 1) (size := 3) hF4.blk rfl
   refine Ops.m (Does.app rfl rfl Try.underlying31 (info73) rfl (by decide) hO4 hrd4 (TC_one _) (by omega) (by omega)) rfl ?_
   rintro _ w5 ⟨B5, d5, rfl, hO5, hf5, hob5⟩
   have hI5 := hI4.tok hO4 hup hf5
   rw [← TC_append] at hO5
   have hup5 := up_app hup hob5 (hI4.below.size)
   refine jA ?_
   refine jO (jN (jv5 0 4 5 6 7 ?_))
   refine jR (jM ?_)
   refine jM ?_
   refine Ops.r (Run.bin rfl rfl (Bin.add_i64 _ _ (by omega))) rfl ?_
   refine jA ?_
   refine jO ?_
   refine blockQ_n (jN ⟨(a + (bestM bs a).1, a, pre ++ [(0, (bestM bs a).1, (bestM bs a).2)], B5, d5, G), (js4 rfl rfl (by rw [List.length_append]; rfl) rfl), ?_, ?_⟩)
   ·
    refine ⟨by dsimp only; omega, by dsimp only; omega, by rw [List.length_append]; simp; omega, by rw [hsp, hnx]; simp, hI5, by rw [List.length_append]; exact hO5, hup5⟩
   ·
    first | omega | (dsimp only; omega)
 ·
  refine jX ?_
  refine thenQ_x (thenQ_x (blockQ_x ?_))
  refine jN (jv1 5 ?_)
  refine jS (jR (jM ?_))
  refine jA ?_
  refine Ops.r (v := .int .i64 ((0 : Nat) : Int)) (Run.asg rfl) rfl ?_
  refine jO (jN (jv2 2 3 ?_))
  refine jT ?_
  refine end2 rfl rfl ?_
  have ea : a = bs.length := by omega
  have et : toks bs 0 = pre := by rw [hsp, ea, toks_end bs bs.length (Nat.le_refl _), List.append_nil]
  rw [et]
  exact ⟨_, _, rfl, hO, Frm.of_below hI.below, fun x hx => by rw [← hgm]; exact hup x hx⟩
set_option maxRecDepth 100000 in
theorem find_big (A : Option Addr) (n c : Nat) (w : World) (hn : 65536 < n) :
  Calls Try.prog 17 #[.slice A n c] w fun e w' => e = .returned (.tuple #[.slice none 0 0, .int .i64 ((5 : Nat) : Int)]) ∧ w = w' := by
 refine VC.calls (nt := 48) (res := #[.tmp 2, .tmp 3]) Try.func17 rfl Try.ntmps17 Try.results17 rfl ?_
 refine jS (jR (jA ?_))
 refine Ops.r (v := .int .i64 ((0 : Nat) : Int)) (Run.asg rfl) rfl ?_
 refine jO (jN (jv1 0 ?_))
 refine jS (jS (jR (jM ?_)))
 refine Ops.r (Run.lenS rfl Try.underlying22) rfl ?_
 refine Ops.r (Run.bin rfl rfl (Bin.gtrN _ 65536)) rfl ?_
 refine jO (jN (jv2 0 11 ?_))
 refine VC.condT rfl (by simp; omega) ?_
 refine jS (jR (jA ?_))
 refine Ops.r (v := .int .i64 ((5 : Nat) : Int)) (Run.asg rfl) rfl ?_
 refine jO (jN (jv2 2 3 ?_))
 refine jT ?_
 refine thenQ_r (end2 rfl rfl ?_)
 exact ⟨rfl, rfl⟩
end Go.Proofs.Ytnmieihcjjiccaa
namespace Go.Proofs.Ytnmieihcjjiccaa
open Go.RowKit
def bnd {α β : Type} : Except Nat α → (α → Except Nat β) → Except Nat β
 | .error c, _ => .error c
 | .ok x, f => f x
@[simp] theorem bnd_e {α β : Type} (c : Nat) (f : α → Except Nat β) : bnd (.error c) f = .error c := rfl
@[simp] theorem bnd_k {α β : Type} (x : α) (f : α → Except Nat β) : bnd (.ok x) f = f x := rfl
def takeF (L : List Bool) (n p : Nat) : Except Nat (Nat × Nat) := if p + n ≤ L.length then .ok (num ((L.drop p).take n), p + n) else .error 2
def symF (L : List Bool) (l : List Int) (p : Nat) : Except Nat (Nat × Nat) := if (tk l L (mostC l) 1 0 p).2.2 = 0 then .ok ((tk l L (mostC l) 1 0 p).1, (tk l L (mostC l) 1 0 p).2.1) else .error (tk l L (mostC l) 1 0 p).2.2
theorem takeF_ok {L : List Bool} {n p v q : Nat} (h : takeF L n p = .ok (v, q)) : q = p + n ∧ p + n ≤ L.length ∧ v < 2 ^ n ∧ v = num ((L.drop p).take n) := by
 unfold takeF at h
 split at h
 ·
  rename_i h1
  simp only [Except.ok.injEq, Prod.mk.injEq] at h
  obtain ⟨rfl, rfl⟩ := h
  have h2 := num_lt ((L.drop p).take n)
  rw [List.length_take, List.length_drop, Nat.min_eq_left (by omega)] at h2
  exact ⟨rfl, h1, h2, rfl⟩
 ·
  cases h
theorem hit_lt {l : List Int} {n v i : Nat} (h : hit l n v = some i) (hn1 : 1 ≤ n) (hn15 : n ≤ 15) : i < l.length := ((hit_iff l n v i hn1 hn15).1 h).1
theorem tk_facts (l : List Int) (L : List Bool) : ∀ m n v p, 1 ≤ n → n + m ≤ 16 → p ≤ L.length → p ≤ (tk l L m n v p).2.1 ∧ (tk l L m n v p).2.1 ≤ L.length ∧ ((tk l L m n v p).2.2 = 0 → p < (tk l L m n v p).2.1 ∧ (tk l L m n v p).1 < l.length) ∧ ((tk l L m n v p).2.2 = 0 ∨ (tk l L m n v p).2.2 = 2 ∨ (tk l L m n v p).2.2 = 11)
 | 0, n, v, p, _, _, hp => by simp [tk, hp]
 | m + 1, n, v, p, h1, h2, hp => by
  unfold tk
  cases hb : L[p]? with
  | none => simp [hp]
  | some b =>
   have hpl : p < L.length := (List.getElem?_eq_some_iff.1 hb).1
   dsimp only
   cases hh : hit l n (2 * v + b.toNat) with
   | some i =>
    dsimp only
    exact ⟨by omega, by omega, fun _ => ⟨by omega, hit_lt hh h1 (by omega)⟩, .inl rfl⟩
   | none =>
    dsimp only
    obtain ⟨h3, h4, h5, h6⟩ := tk_facts l L m (n + 1) (2 * v + b.toNat) (p + 1) (by omega) (by omega) (by omega)
    exact ⟨by omega, h4, fun h => ⟨by have := (h5 h).1; omega, (h5 h).2⟩, h6⟩
theorem symF_ok {L : List Bool} {l : List Int} {p s q : Nat} (hm : mostC l ≤ 15) (hp : p ≤ L.length) (h : symF L l p = .ok (s, q)) : p < q ∧ q ≤ L.length ∧ s < l.length := by
 unfold symF at h
 obtain ⟨h3, h4, h5, h6⟩ := tk_facts l L (mostC l) 1 0 p (by omega) (by omega) hp
 split at h
 ·
  rename_i h0
  simp only [Except.ok.injEq, Prod.mk.injEq] at h
  obtain ⟨rfl, rfl⟩ := h
  exact ⟨(h5 h0).1, h4, (h5 h0).2⟩
 ·
  cases h
def longT : List (Nat × Nat) := [(3, 0), (4, 0), (5, 0), (6, 0), (7, 0), (8, 0), (9, 0), (10, 0), (11, 1), (13, 1), (15, 1), (17, 1), (19, 2), (23, 2), (27, 2), (31, 2), (35, 3), (43, 3), (51, 3), (59, 3), (67, 4), (83, 4), (99, 4), (115, 4), (131, 5), (163, 5), (195, 5), (227, 5), (258, 0)]
def wayT : List (Nat × Nat) := [(1, 0), (2, 0), (3, 0), (4, 0), (5, 1), (7, 1), (9, 2), (13, 2), (17, 3), (25, 3), (33, 4), (49, 4), (65, 5), (97, 5), (129, 6), (193, 6), (257, 7), (385, 7), (513, 8), (769, 8), (1025, 9), (1537, 9), (2049, 10), (3073, 10), (4097, 11), (6145, 11), (8193, 12), (12289, 12), (16385, 13), (24577, 13)]
def orderT : List Nat := [16, 17, 18, 0, 8, 7, 9, 6, 10, 5, 11, 4, 12, 3, 13, 2, 14, 1, 15]
def fixedL : List Int := List.replicate 144 8 ++ List.replicate 112 9 ++ List.replicate 24 7 ++ List.replicate 8 8
def fixedW : List Int := List.replicate 32 5
def storedF (bs : List Nat) (most p : Nat) (out : List Nat) : Except Nat (Nat × List Nat) :=
 bnd (takeF (ofB bs) 16 ((p + 7) / 8 * 8)) fun x => bnd (takeF (ofB bs) 16 x.2) fun y =>
  if x.1 ^^^ y.1 ≠ 65535 then .error 3 else if (8 * bs.length - y.2) / 8 < x.1 then .error 2 else if most < out.length + x.1 then .error 13
  else .ok (y.2 + 8 * x.1, out ++ (bs.drop (y.2 / 8)).take x.1)
def copyF : Nat → Nat → List Nat → List Nat
 | 0, _, out => out
 | n + 1, d, out => copyF n d (out ++ [out.getD (out.length - d) 0])
def tokenF (L : List Bool) (a b : List Int) (most p : Nat) (out : List Nat) : Except Nat (Bool × Nat × List Nat) :=
 bnd (symF L a p) fun x =>
  if x.1 < 256 then (if out.length < most then .ok (true, x.2, out ++ [x.1]) else .error 13)
  else if x.1 = 256 then .ok (false, x.2, out)
  else if 285 < x.1 then .error 11
  else bnd (takeF L (longT.getD (x.1 - 257) (0, 0)).2 x.2) fun v => bnd (symF L b v.2) fun y =>
   if 30 ≤ y.1 then .error 11
   else bnd (takeF L (wayT.getD y.1 (0, 0)).2 y.2) fun u =>
    if out.length < (wayT.getD y.1 (0, 0)).1 + u.1 then .error 12
    else if most < out.length + ((longT.getD (x.1 - 257) (0, 0)).1 + v.1) then .error 13
    else .ok (true, u.2, copyF ((longT.getD (x.1 - 257) (0, 0)).1 + v.1) ((wayT.getD y.1 (0, 0)).1 + u.1) out)
def tokensF (L : List Bool) (a b : List Int) (most : Nat) : Nat → Nat → List Nat → Except Nat (Nat × List Nat)
 | 0, _, _ => .error 99
 | f + 1, p, out => bnd (tokenF L a b most p out) fun x => if x.1 then tokensF L a b most f x.2.1 x.2.2 else .ok x.2
def moreF (L : List Bool) (l : List Int) (p : Nat) (all : List Int) (most : Nat) : Except Nat (Nat × List Int) :=
 bnd (symF L l p) fun x =>
  bnd (if x.1 = 16 then (if all.length = 0 then .error 11 else bnd (takeF L 2 x.2) fun v => .ok (v.2, all.getD (all.length - 1) 0, 3 + v.1))
   else if x.1 = 17 then bnd (takeF L 3 x.2) fun v => .ok (v.2, 0, 3 + v.1)
   else if x.1 = 18 then bnd (takeF L 7 x.2) fun v => .ok (v.2, 0, 11 + v.1)
   else .ok (x.2, (x.1 : Int), 1)) fun (y : Nat × Int × Nat) =>
  if most < all.length + y.2.2 then .error 11 else .ok (y.1, all ++ List.replicate y.2.2 y.2.1)
def moresF (L : List Bool) (l : List Int) (most : Nat) : Nat → Nat → List Int → Except Nat (Nat × List Int)
 | 0, _, _ => .error 99
 | f + 1, p, all => if all.length < most then bnd (moreF L l p all most) fun x => moresF L l most f x.1 x.2 else .ok (p, all)
def thirdF (L : List Bool) : List Nat → Nat → List Int → Except Nat (Nat × List Int)
 | [], p, l => .ok (p, l)
 | s :: r, p, l => bnd (takeF L 3 p) fun v => thirdF L r v.2 (l.set s (v.1 : Int))
def dynH (many : Nat) (u : Nat × List Int) : Except Nat (Nat × List Int × List Int) :=
 if ¬ 0 < u.2.getD 256 0 then .error 11
 else if newE (u.2.take many) ≠ 0 then .error 11
 else if newE (u.2.drop many) ≠ 0 then .error 11
 else .ok (u.1, u.2.take many, u.2.drop many)
def dynG (L : List Bool) (many far : Nat) (t : Nat × List Int) : Except Nat (Nat × List Int × List Int) :=
 if newE t.2 ≠ 0 then .error 11 else bnd (moresF L t.2 (many + far) (L.length + 1) t.1 []) (dynH many)
def dynF (L : List Bool) (p : Nat) : Except Nat (Nat × List Int × List Int) :=
 bnd (takeF L 5 p) fun x => bnd (takeF L 5 x.2) fun y => bnd (takeF L 4 y.2) fun z =>
  if ¬ (257 + x.1 ≤ 286 ∧ 1 + y.1 ≤ 30) then .error 3
  else bnd (thirdF L (orderT.take (4 + z.1)) z.2 (List.replicate 19 0)) (dynG L (257 + x.1) (1 + y.1))
theorem moreF_ok {L : List Bool} {l : List Int} {p q : Nat} {all all' : List Int} {most : Nat} (hm : mostC l ≤ 15) (hp : p ≤ L.length) (h : moreF L l p all most = .ok (q, all')) : p < q ∧ q ≤ L.length ∧ all'.length ≤ most ∧ all.length ≤ all'.length := by
 unfold moreF at h
 rcases hS : symF L l p with k | ⟨s, p1⟩
 ·
  rw [hS] at h; cases h
 ·
  rw [hS, bnd_k] at h
  obtain ⟨h1, h2, _⟩ := symF_ok hm hp hS
  dsimp only at h
  have key : ∀ (E : Except Nat (Nat × Int × Nat)), bnd E (fun (y : Nat × Int × Nat) => if most < all.length + y.2.2 then .error 11 else .ok (y.1, all ++ List.replicate y.2.2 y.2.1)) = .ok (q, all') → ∃ y, E = .ok y ∧ y.1 = q ∧ all'.length ≤ most ∧ all.length ≤ all'.length := by
   intro E hE
   cases E with
   | error k => cases hE
   | ok y =>
    rw [bnd_k] at hE
    split at hE
    ·
     cases hE
    ·
     simp only [Except.ok.injEq, Prod.mk.injEq] at hE
     refine ⟨y, rfl, hE.1, ?_, ?_⟩ <;> (rw [← hE.2, List.length_append, List.length_replicate]; omega)
  obtain ⟨y, hy, rfl, h5, h6⟩ := key _ h
  have tk' : ∀ n (g : Nat × Nat → Nat × Int × Nat), (∀ v, (g v).1 = v.2) → bnd (takeF L n p1) (fun v => .ok (g v)) = .ok y → p1 ≤ y.1 ∧ y.1 ≤ L.length := by
   intro n g hg hE
   rcases hT : takeF L n p1 with k | v
   ·
    rw [hT] at hE; cases hE
   ·
    rw [hT, bnd_k] at hE
    obtain ⟨a, b⟩ := v
    obtain ⟨h7, h8, _, _⟩ := takeF_ok hT
    simp only [Except.ok.injEq] at hE
    rw [← hE, hg]
    dsimp only
    omega
  refine ⟨?_, ?_, h5, h6⟩
  all_goals
   split at hy
   ·
    split at hy
    ·
     cases hy
    ·
     have := tk' 2 _ (fun v => rfl) hy; omega
   ·
    split at hy
    ·
     have := tk' 3 _ (fun v => rfl) hy; omega
    ·
     split at hy
     ·
      have := tk' 7 _ (fun v => rfl) hy; omega
     ·
      simp only [Except.ok.injEq] at hy; rw [← hy]; dsimp only; omega
def blockF (bs : List Nat) (most p : Nat) (out : List Nat) : Except Nat (Bool × Nat × List Nat) :=
 bnd (takeF (ofB bs) 1 p) fun x => bnd (takeF (ofB bs) 2 x.2) fun k =>
  if ¬ k.1 < 3 then .error 3
  else bnd (if k.1 = 0 then storedF bs most k.2 out
   else if k.1 = 1 then tokensF (ofB bs) fixedL fixedW most (8 * bs.length + 1) k.2 out
   else bnd (dynF (ofB bs) k.2) fun c => tokensF (ofB bs) c.2.1 c.2.2 most (8 * bs.length + 1) c.1 out) fun (r : Nat × List Nat) => .ok (decide (x.1 = 0), r)
def blocksF (bs : List Nat) (most : Nat) : Nat → Nat → List Nat → Except Nat (Nat × List Nat)
 | 0, _, _ => .error 99
 | f + 1, p, out => bnd (blockF bs most p out) fun x => if x.1 then blocksF bs most f x.2.1 x.2.2 else .ok x.2
def inflF (bs : List Nat) (most : Int) : Except Nat (List Nat × Nat) :=
 if most < 0 then .error 1 else bnd (blocksF bs most.toNat (8 * bs.length + 1) 0 []) fun x => .ok (x.2, (x.1 + 7) / 8)
end Go.Proofs.Ytnmieihcjjiccaa
namespace Go.Proofs.Ytnmieihcjjiccaa
open Go.RowKit
theorem KC_fst (f : Nat → Nat) : ∀ n, n ≤ 15 → fstF f n * 2 ^ (15 - n) = KC f n
 | 0, _ => by simp [fstF, KC]
 | n + 1, h => by
  have ih := KC_fst f n (by omega)
  have e : 2 ^ (15 - n) = 2 * 2 ^ (15 - (n + 1)) := by rw [show 15 - n = (15 - (n + 1)) + 1 by omega, Nat.pow_succ, Nat.mul_comm]
  rw [KC, ← ih, fstF, e, Nat.mul_assoc, Nat.add_mul]
theorem KC_mono (f : Nat → Nat) : ∀ d n, KC f n ≤ KC f (n + d)
 | 0, n => Nat.le_refl _
 | d + 1, n => by
  have := KC_mono f d n
  show _ ≤ KC f (n + d + 1)
  rw [KC]
  omega
theorem fst_room (l : List Int) (n : Nat) (hn : n ≤ 15) (hk : KC (cn l) 16 ≤ 32768) : fst' l n + cn l n ≤ 2 ^ n := by
 have h1 := KC_fst (cn l) n hn
 have h2 := KC_mono (cn l) (15 - n) (n + 1)
 rw [show n + 1 + (15 - n) = 16 by omega, KC, ← h1, ← Nat.add_mul] at h2
 have h3 : 2 ^ n * 2 ^ (15 - n) = 32768 := by rw [← Nat.pow_add, show n + (15 - n) = 15 by omega]
 have h4 : (fstF (cn l) n + cn l n) * 2 ^ (15 - n) ≤ 2 ^ n * 2 ^ (15 - n) := by omega
 exact Nat.le_of_mul_le_mul_right h4 (Nat.two_pow_pos _)
def cbits (l : List Int) (s : Nat) : List Bool := (bitsL (codeC l s).1 (codeC l s).2.toNat).reverse
theorem codeC_fits {l : List Int} {s : Nat} (hg : good l) (hk : KC (cn l) 16 ≤ 32768) (hs : s < l.length) : codeC l s = (0, 0) ∨ ∃ n : Nat, codeC l s = (codeOf l s, (n : Int)) ∧ l.getD s 0 = (n : Int) ∧ 1 ≤ n ∧ n ≤ 15 ∧ codeOf l s < 2 ^ n := by
 unfold codeC
 split
 ·
  exact .inl rfl
 ·
  rename_i h
  have hx : l.getD s 0 ∈ l := by rw [List.getD_eq_getElem?_getD, List.getElem?_eq_getElem hs]; exact List.getElem_mem hs
  obtain ⟨h1, h2⟩ := hg.2 _ hx
  obtain ⟨n, hn⟩ : ∃ n : Nat, l.getD s 0 = (n : Int) := ⟨(l.getD s 0).toNat, by omega⟩
  have h3 := rank_lt_cn l s n hs (by omega) hn
  have h4 := fst_room l n (by omega) hk
  refine .inr ⟨n, by rw [hn], hn, by omega, by omega, ?_⟩
  unfold codeOf
  rw [hn, Int.toNat_natCast]
  omega
theorem cbits_nil {l : List Int} {s : Nat} (h : codeC l s = (0, 0)) : cbits l s = [] := by unfold cbits; rw [h]; rfl
theorem cbits_len {l : List Int} {s : Nat} (hg : good l) (hk : KC (cn l) 16 ≤ 32768) (hs : s < l.length) : (cbits l s).length ≤ 15 := by
 unfold cbits
 rw [List.length_reverse, bitsL_len]
 rcases codeC_fits hg hk hs with h | ⟨n, h, _, _, h2, _⟩
 ·
  rw [h]; simp
 ·
  rw [h]; simp; omega
def symU (T : List (Nat × Nat)) (n : Nat) : Nat → Nat
 | 0 => 0
 | k + 1 => if (T.getD k (0, 0)).1 ≤ n then k else symU T n k
theorem symU_eq {T : List (Nat × Nat)} {n i : Nat} (h1 : (T.getD i (0, 0)).1 ≤ n) : ∀ k, i < k → (∀ j, i < j → j < k → n < (T.getD j (0, 0)).1) → symU T n k = i
 | 0, h, _ => by omega
 | k + 1, h, h2 => by
  unfold symU
  by_cases hk : i = k
  ·
   subst hk
   rw [if_pos h1]
  ·
   rw [if_neg (by have := h2 k (by omega) (by omega); omega)]
   exact symU_eq h1 k (by omega) (fun j hj1 hj2 => h2 j hj1 (by omega))
def lenS (n : Nat) : Nat := symU longT n 29
def wayS (n : Nat) : Nat := symU wayT n 30
def lenB (l : List Int) (n : Nat) : List Bool := cbits l (257 + lenS n) ++ bitsL (n - (longT.getD (lenS n) (0, 0)).1) (longT.getD (lenS n) (0, 0)).2
def wayB (l : List Int) (n : Nat) : List Bool := cbits l (wayS n) ++ bitsL (n - (wayT.getD (wayS n) (0, 0)).1) (wayT.getD (wayS n) (0, 0)).2
def tokB (a b : List Int) (t : Tk) : List Bool := if t.2.1 = 0 then cbits a t.1 else lenB a t.2.1 ++ wayB b t.2.2
def toksB (a b : List Int) (l : List Tk) : List Bool := l.flatMap (tokB a b) ++ cbits a 256
def TkOk (t : Tk) : Prop := (t.2.1 = 0 ∧ t.2.2 = 0 ∧ t.1 < 256) ∨ (t.1 = 0 ∧ 3 ≤ t.2.1 ∧ t.2.1 ≤ 258 ∧ 1 ≤ t.2.2 ∧ t.2.2 ≤ 32768)
theorem symU_spec {T : List (Nat × Nat)} {n : Nat} (h0 : (T.getD 0 (0, 0)).1 ≤ n) : ∀ k, 0 < k → symU T n k < k ∧ (T.getD (symU T n k) (0, 0)).1 ≤ n ∧ ∀ j, symU T n k < j → j < k → n < (T.getD j (0, 0)).1
 | 0, h => by omega
 | 1, _ => by
  unfold symU
  rw [if_pos h0]
  exact ⟨by omega, h0, fun j h1 h2 => by omega⟩
 | k + 2, _ => by
  have ih := symU_spec h0 (k + 1) (by omega)
  rw [symU]
  split
  ·
   rename_i h
   exact ⟨by omega, h, fun j h1 h2 => by omega⟩
  ·
   rename_i h
   refine ⟨by omega, ih.2.1, fun j h1 h2 => ?_⟩
   by_cases hj : j = k + 1
   ·
    subst hj; omega
   ·
    exact ih.2.2 j h1 (by omega)
theorem lenS_facts {n : Nat} (h1 : 3 ≤ n) (h2 : n ≤ 258) : lenS n < 29 ∧ (longT.getD (lenS n) (0, 0)).1 ≤ n ∧ n - (longT.getD (lenS n) (0, 0)).1 < 2 ^ (longT.getD (lenS n) (0, 0)).2 ∧ (longT.getD (lenS n) (0, 0)).2 ≤ 5 := by
 have h : ∀ n, n < 259 → 3 ≤ n → lenS n < 29 ∧ (longT.getD (lenS n) (0, 0)).1 ≤ n ∧ n - (longT.getD (lenS n) (0, 0)).1 < 2 ^ (longT.getD (lenS n) (0, 0)).2 ∧ (longT.getD (lenS n) (0, 0)).2 ≤ 5 := by decide +kernel
 exact h n (by omega) h1
theorem wayT_next : ∀ i, i < 29 → (wayT.getD (i + 1) (0, 0)).1 = (wayT.getD i (0, 0)).1 + 2 ^ (wayT.getD i (0, 0)).2 := by decide +kernel
theorem wayT_small : ∀ i, i < 30 → (wayT.getD i (0, 0)).2 ≤ 13 := by decide +kernel
theorem wayS_facts {n : Nat} (h1 : 1 ≤ n) (h2 : n ≤ 32768) : wayS n < 30 ∧ (wayT.getD (wayS n) (0, 0)).1 ≤ n ∧ n - (wayT.getD (wayS n) (0, 0)).1 < 2 ^ (wayT.getD (wayS n) (0, 0)).2 ∧ (wayT.getD (wayS n) (0, 0)).2 ≤ 13 := by
 obtain ⟨h3, h4, h5⟩ := symU_spec (T := wayT) (n := n) h1 30 (by omega)
 refine ⟨h3, h4, ?_, wayT_small _ h3⟩
 show n - (wayT.getD (symU wayT n 30) (0, 0)).1 < 2 ^ (wayT.getD (symU wayT n 30) (0, 0)).2
 generalize symU wayT n 30 = s at h3 h4 h5
 by_cases h : s = 29
 ·
  subst h
  have e0 : (wayT.getD 29 (0, 0)).1 = 24577 := rfl
  have e1 : (wayT.getD 29 (0, 0)).2 = 13 := rfl
  rw [e0, e1]
  omega
 ·
  have := wayT_next s (by omega)
  have := h5 (s + 1) (by omega) (by omega)
  omega
def LOk (l : List Int) : Prop := good l ∧ KC (cn l) 16 ≤ 32768
theorem tokB_len {a b : List Int} (ha : LOk a) (hb : LOk b) (hna : 286 ≤ a.length) (hnb : 30 ≤ b.length) {t : Tk} (ht : TkOk t) : (tokB a b t).length ≤ 48 := by
 unfold tokB
 rcases ht with ⟨h1, h2, h3⟩ | ⟨h1, h2, h3, h4, h5⟩
 ·
  rw [if_pos h1]
  have := cbits_len ha.1 ha.2 (show t.1 < a.length by omega)
  omega
 ·
  rw [if_neg (by omega)]
  obtain ⟨h6, _, _, h7⟩ := lenS_facts h2 h3
  obtain ⟨h8, _, _, h9⟩ := wayS_facts h4 h5
  have h10 := cbits_len ha.1 ha.2 (show 257 + lenS t.2.1 < a.length by omega)
  have h11 := cbits_len hb.1 hb.2 (show wayS t.2.2 < b.length by omega)
  unfold lenB wayB
  simp only [List.length_append, bitsL_len]
  omega
theorem toks_flat {a b : List Int} (ha : LOk a) (hb : LOk b) (hna : 286 ≤ a.length) (hnb : 30 ≤ b.length) : ∀ L : List Tk, (∀ t ∈ L, TkOk t) → (L.flatMap (tokB a b)).length ≤ 48 * L.length
 | [], _ => by simp
 | t :: L, h => by
  have h1 := tokB_len ha hb hna hnb (h t (by simp))
  have h2 := toks_flat ha hb hna hnb L (fun x hx => h x (by simp [hx]))
  rw [List.flatMap_cons, List.length_append, List.length_cons]
  omega
end Go.Proofs.Ytnmieihcjjiccaa
namespace Go.Proofs.Ytnmieihcjjiccaa
open Go.RowKit
def cutN (l : List Nat) (least : Nat) : Nat → Nat
 | 0 => 0
 | n + 1 => if least < n + 1 ∧ l.getD n 0 = 0 then cutN l least n else n + 1
theorem cutN_le (l : List Nat) (least : Nat) : ∀ n, cutN l least n ≤ n
 | 0 => Nat.le_refl _
 | n + 1 => by
  unfold cutN
  split
  ·
   have := cutN_le l least n; omega
  ·
   exact Nat.le_refl _
theorem cutN_ge (l : List Nat) (least : Nat) : ∀ n, least ≤ n → least ≤ cutN l least n
 | 0, h => h
 | n + 1, h => by
  unfold cutN
  split
  ·
   rename_i h1; exact cutN_ge l least n (by omega)
  ·
   exact h
theorem cutN_stop {l : List Nat} {least n : Nat} (h : ¬ (least < n ∧ l.getD (n - 1) 0 = 0)) : cutN l least n = n := by
 cases n with
 | zero => rfl
 | succ n => rw [cutN, if_neg (by simpa using h)]
theorem cutN_go {l : List Nat} {least n : Nat} (h1 : least < n) (h2 : l.getD (n - 1) 0 = 0) : cutN l least n = cutN l least (n - 1) := by
 cases n with
 | zero => omega
 | succ n => rw [cutN, if_pos ⟨h1, by simpa using h2⟩]; rfl
def cutL (l : List Nat) (least : Nat) : List Nat := l.take (cutN l least l.length)
theorem cutL_len (l : List Nat) (least : Nat) : (cutL l least).length = cutN l least l.length := by
 unfold cutL
 rw [List.length_take, Nat.min_eq_left (cutN_le l least _)]
def runF (l : List Nat) (v : Nat) : Nat → Nat → Nat
 | 0, _ => 0
 | m + 1, n => if n < l.length ∧ l.getD n 0 = v then runF l v m (n + 1) + 1 else 0
def runN (l : List Nat) (a : Nat) : Nat := runF l (l.getD a 0) (l.length - a) a
theorem runF_le (l : List Nat) (v : Nat) : ∀ m n, runF l v m n ≤ m
 | 0, _ => Nat.le_refl _
 | m + 1, n => by
  unfold runF
  split
  ·
   have := runF_le l v m (n + 1); omega
  ·
   omega
theorem runF_stop {l : List Nat} {v m n : Nat} (h : ¬ (n < l.length ∧ l.getD n 0 = v)) : runF l v m n = 0 := by
 cases m with
 | zero => rfl
 | succ m => rw [runF, if_neg h]
theorem runF_go {l : List Nat} {v m n : Nat} (h1 : n < l.length) (h2 : l.getD n 0 = v) (hm : 0 < m) : runF l v m n = runF l v (m - 1) (n + 1) + 1 := by
 obtain ⟨k, rfl⟩ : ∃ k, m = k + 1 := ⟨m - 1, by omega⟩
 rw [runF, if_pos ⟨h1, h2⟩]
 rfl
theorem runN_pos {l : List Nat} {a : Nat} (h : a < l.length) : 1 ≤ runN l a := by
 unfold runN
 rw [runF_go h rfl (by omega)]
 omega
theorem runN_le {l : List Nat} {a : Nat} : runN l a ≤ l.length - a := runF_le l _ _ _
abbrev Sd := Nat × Nat × Nat
def sayAt (l : List Nat) (a : Nat) : Sd × Nat :=
 if l.getD a 0 = 0 ∧ 11 ≤ runN l a then ((18, 7, min (runN l a) 138 - 11), min (runN l a) 138)
 else if l.getD a 0 = 0 ∧ 3 ≤ runN l a then ((17, 3, min (runN l a) 10 - 3), min (runN l a) 10)
 else if 0 < a ∧ l.getD (a - 1) 0 = l.getD a 0 ∧ 3 ≤ runN l a then ((16, 2, min (runN l a) 6 - 3), min (runN l a) 6)
 else ((l.getD a 0, 0, 0), 1)
theorem sayAt_pos {l : List Nat} {a : Nat} : 1 ≤ (sayAt l a).2 := by
 unfold sayAt
 split
 ·
  dsimp only; omega
 ·
  split
  ·
   dsimp only; omega
  ·
   split
   ·
    dsimp only; omega
   ·
    exact Nat.le_refl _
theorem sayAt_le {l : List Nat} {a : Nat} (h : a < l.length) : a + (sayAt l a).2 ≤ l.length := by
 have := runN_le (l := l) (a := a)
 unfold sayAt
 split
 ·
  dsimp only; omega
 ·
  split
  ·
   dsimp only; omega
  ·
   split
   ·
    dsimp only; omega
   ·
    dsimp only; omega
def sayF (l : List Nat) : Nat → Nat → List Sd
 | 0, _ => []
 | m + 1, a => if l.length ≤ a then [] else (sayAt l a).1 :: sayF l m (a + (sayAt l a).2)
theorem sayF_end (l : List Nat) (m a : Nat) (h : l.length ≤ a) : sayF l m a = [] := by
 cases m with
 | zero => rfl
 | succ m => rw [sayF, if_pos h]
theorem sayF_more (l : List Nat) : ∀ m n a, l.length ≤ a + m → l.length ≤ a + n → sayF l m a = sayF l n a
 | 0, n, a, h1, _ => by rw [sayF_end l n a (by omega)]; rfl
 | m + 1, 0, a, h1, h2 => by rw [sayF_end l (m + 1) a (by omega)]; rfl
 | m + 1, n + 1, a, h1, h2 => by
  have hp := sayAt_pos (l := l) (a := a)
  unfold sayF
  split
  ·
   rfl
  ·
   rw [sayF_more l m n _ (by omega) (by omega)]
def sayM (l : List Nat) (a : Nat) : List Sd := sayF l (l.length - a) a
theorem sayM_end {l : List Nat} {a : Nat} (h : l.length ≤ a) : sayM l a = [] := sayF_end l _ a h
theorem sayM_step {l : List Nat} {a : Nat} (h : a < l.length) : sayM l a = (sayAt l a).1 :: sayM l (a + (sayAt l a).2) := by
 have hp := sayAt_pos (l := l) (a := a)
 unfold sayM
 rw [show l.length - a = (l.length - a - 1) + 1 by omega, sayF, if_neg (by omega), sayF_more l (l.length - a - 1) (l.length - (a + (sayAt l a).2)) _ (by omega) (by omega)]
theorem sayF_len (l : List Nat) : ∀ m a, (sayF l m a).length ≤ m
 | 0, a => Nat.le_refl _
 | m + 1, a => by
  unfold sayF
  split
  ·
   simp
  ·
   have := sayF_len l m (a + (sayAt l a).2); simp; omega
def ordL (l : List Nat) : List Nat := orderT.map fun s => l.getD s 0
end Go.Proofs.Ytnmieihcjjiccaa
namespace Go.Proofs.Ytnmieihcjjiccaa
open Go.RowKit
def IsU (w : World) (g : Nat) (A : Option Addr) (l : List Bool) : Prop := ∃ c, Blk w g 67 #[.slice A l.length c] ∧ Own w 4 1 A l.length c (BL l)
theorem IsU.frm {w w' : World} {g : Nat} {A : Option Addr} {l : List Bool} {S : List Nat} (h : IsU w g A l) (k : Frm S w w') (hS : ∀ x ∈ g :: ob A, x ∉ S) : IsU w' g A l := by
 obtain ⟨c, h1, h2⟩ := h
 exact ⟨c, h1.frm k (hS g (by simp)), h2.frm k (fun x hx => hS x (by simp [hx]))⟩
def UR (w w' : World) (g : Nat) (A : Option Addr) (l : List Bool) : Prop := ∃ A', IsU w' g A' l ∧ Frm (g :: ob A) w w' ∧ ∀ x ∈ ob A', x ∈ ob A ∨ w.heap.size ≤ x
end Go.Proofs.Ytnmieihcjjiccaa
namespace Go.Proofs.Ytnmieihcjjiccaa
open Go.RowKit
theorem code_eq (a b : Nat × Int) (w : World) : (Op.eqFields 9999 (CB a).toArray (CB b).toArray (Try.prog.fieldsOf 116).toList).run Try.prog w = .ok (decide (a = b)) w := by
 obtain ⟨f0, f1, hf, ⟨n0, t0, o0⟩, n1, t1, o1⟩ := fields116
 rw [hf]
 have h := eqF_int (P := Try.prog) (w := w) (d := 9998) (xs := (CB a).toArray) (ys := (CB b).toArray) (f := f0) (fs := [f1]) (k := .u64) (k' := .u64) (a := a.1) (b := b.1) (by rw [n0]; decide) (by rw [t0]; exact Try.isAgg37) (by rw [t0]; exact Try.underlying37) (by rw [o0]; rfl) (by rw [o0]; rfl)
  (eqF_int (k := .i64) (k' := .i64) (a := a.2) (b := b.2) (by rw [n1]; decide) (by rw [t1]; exact Try.isAgg3) (by rw [t1]; exact Try.underlying3) (by rw [o1]; rfl) (by rw [o1]; rfl) eqF_nil)
 have e : decide (a = b) = (decide ((a.1 : Int) = (b.1 : Int)) && (decide (a.2 = b.2) && true)) := by
  obtain ⟨a1, a2⟩ := a
  obtain ⟨b1, b2⟩ := b
  rw [Bool.eq_iff_iff]
  simp
  intro _
  omega
 rw [e]
 exact h
end Go.Proofs.Ytnmieihcjjiccaa
namespace Go.Proofs.Ytnmieihcjjiccaa
open Go.RowKit
def WR (w w' : World) (g : Nat) (A : Option Addr) (l : List Bool) : Prop := ∃ A', IsW w' g A' l ∧ Frm (g :: ob A) w w' ∧ ∀ x ∈ ob A', x ∈ ob A ∨ w.heap.size ≤ x
theorem WR.refl {w : World} {g : Nat} {A : Option Addr} {l : List Bool} (h : IsW w g A l) : WR w w g A l := ⟨A, h, Frm.refl _ _, fun _ hx => .inl hx⟩
theorem flat2 : ∀ (L : List (Nat × Int)) (s : Nat) (h : s < L.length), ((L.flatMap CB).drop (s * 2)).take 2 = CB L[s]
 | a :: L, 0, _ => rfl
 | a :: L, s + 1, h => by
  have := flat2 L s (by simpa using h)
  rw [show (a :: L).flatMap CB = CB a ++ L.flatMap CB from rfl, show (s + 1) * 2 = (CB a).length + s * 2 by rw [CB_len]; omega, List.drop_length_add_append]
  exact this
theorem codesL_cut (l : List Int) (s : Nat) (hs : s < l.length) : (((codesL l).flatMap CB).drop (s * 2)).take 2 = CB (codeC l s) := by
 rw [flat2 _ s (by simpa [codesL] using hs)]
 simp [codesL]
set_option maxRecDepth 100000 in
theorem cput_zero (g s c : Nat) (A B : Option Addr) (l : List Bool) (ls : List Int) (w : World) (hl3 : ls.length ≤ 320) (hs : s < ls.length) (hl : l.length ≤ 1000000000) (hW : IsW w g A l) (hr : Rd w 2 B ls.length ((codesL ls).flatMap CB)) (h0 : codeC ls s = (0, 0)) :
  Calls Try.prog 52 #[.pointer (some ⟨g, 0, none⟩), .slice B ls.length c, .int .i64 ((s : Nat) : Int)] w fun e w' => (∃ k : Int, e = .returned (.int .i64 k)) ∧ WR w w' g A (l ++ cbits ls s) := by
 obtain ⟨ad, rfl, hel⟩ := hr.elem hs
 rw [codesL_cut ls s hs, h0] at hel
 refine VC.calls (nt := 39) (res := #[.tmp 6]) Try.func52 rfl Try.ntmps52 Try.results52 rfl ?_
 refine jS (jR ?_)
 refine Ops.r (v := .int .i64 ((0 : Nat) : Int)) (Run.asg rfl) rfl ?_
 refine jO (jN (jv3 0 1 2 ?_))
 refine jS (jS (jR (jM ?_)))
 refine Ops.r (Run.bin rfl rfl (Bin.lssN _ 0)) rfl ?_
 refine jM ?_
 refine jG ?_
 refine jG ?_
 refine Ops.rg rfl au (Run.lenS rfl Try.underlying60) rfl ?_
 refine Ops.rg rfl au (Run.bin rfl rfl (Bin.geqN _ _)) rfl ?_
 refine Ops.r (Run.pickF rfl rfl au) rfl ?_
 refine jO (jN (jv4 0 1 2 15 ?_))
 refine VC.condF rfl (by first | rfl | (simp; omega)) ?_
 refine jQ (jN (jv3 0 1 2 ?_))
 refine jS (jR (jM ?_))
 refine jM ?_
 refine Ops.r (Run.indexS _ rfl rfl Try.underlying60 Try.sizeOf116 (by omega)) rfl ?_
 refine Ops.r (Run.loadA rfl Try.isAgg116 Try.sizeOf116 hel (by first | rfl | (simp; done))) rfl ?_
 refine Ops.m (Does.alloc zero116) rfl ?_
 rintro _ w1 ⟨rfl, hF1⟩
 have hg1 : g ≠ w.heap.size := by have := hW.lt g (by simp); omega
 have hW1 := hW.frm hF1.frm (by simp)
 have hAl := fun x hx => hW.lt x hx
 refine Ops.st (Acts.storeA rfl rfl Try.sizeOf116 hF1.blk rfl (CB_one _)) ?_
 rintro w2 ⟨hb2, hf12, hs12⟩
 have hW2 := hW1.frm hf12 (fun x hx => by have := hAl x hx; simp; omega)
 have hf2 : Frm [] w w2 := hF1.frm.own hf12 (by simp)
 have hb2 : Blk w2 w.heap.size 116 (CB (0, 0)).toArray := hb2
 refine jO (jN (jv2 0 7 ?_))
 refine jS (jB (jS (jR ?_)))
 refine Ops.r (Run.loadA rfl Try.isAgg116 Try.sizeOf116 (fun j v hj => hb2.cells j v (by simpa using hj)) (by first | rfl | (simp; done))) rfl ?_
 refine Ops.r (Run.build evs.nil zero116 (places116).choose_spec.1 (places116).choose_spec.2 rfl) rfl ?_
 refine Ops.r (Run.eqlAgg rfl rfl jK jK jK ((code_eq (0, 0) (0, 0) _))) rfl ?_
 refine jA ?_
 refine jO (jN (jv3 0 7 20 ?_))
 refine VC.condT rfl (rfl) ?_
 refine jS (jR ?_)
 refine Ops.r (v := .int .i64 ((11 : Nat) : Int)) (Run.asg rfl) rfl ?_
 refine jO (jN (jv1 6 ?_))
 refine jT ?_
 refine blockQ_r (thenQ_r (end1 rfl ?_))
 exact ⟨⟨_, rfl⟩, by rw [cbits_nil h0, List.append_nil]; exact ⟨A, hW2, hf2.mono (by simp), fun x hx => .inl hx⟩⟩
set_option maxRecDepth 100000 in
theorem cput_some (g s c : Nat) (A B : Option Addr) (l : List Bool) (ls : List Int) (w : World) (hl3 : ls.length ≤ 320) (hs : s < ls.length) (hl : l.length ≤ 1000000000) (hW : IsW w g A l) (hr : Rd w 2 B ls.length ((codesL ls).flatMap CB)) (n : Nat) (h0 : codeC ls s = (codeOf ls s, (n : Int))) (h1 : 1 ≤ n) (h2 : n ≤ 15) (h3 : codeOf ls s < 2 ^ n) :
  Calls Try.prog 52 #[.pointer (some ⟨g, 0, none⟩), .slice B ls.length c, .int .i64 ((s : Nat) : Int)] w fun e w' => (∃ k : Int, e = .returned (.int .i64 k)) ∧ WR w w' g A (l ++ cbits ls s) := by
 obtain ⟨ad, rfl, hel⟩ := hr.elem hs
 rw [codesL_cut ls s hs, h0] at hel
 have hpw : 2 ^ n ≤ 2 ^ 15 := Nat.pow_le_pow_right (by omega) h2
 have hne : ¬ ((codeOf ls s, (n : Int)) = ((0, 0) : Nat × Int)) := fun h => by have := (Prod.mk.inj h).2; omega
 refine VC.calls (nt := 39) (res := #[.tmp 6]) Try.func52 rfl Try.ntmps52 Try.results52 rfl ?_
 refine jS (jR ?_)
 refine Ops.r (v := .int .i64 ((0 : Nat) : Int)) (Run.asg rfl) rfl ?_
 refine jO (jN (jv3 0 1 2 ?_))
 refine jS (jS (jR (jM ?_)))
 refine Ops.r (Run.bin rfl rfl (Bin.lssN _ 0)) rfl ?_
 refine jM ?_
 refine jG ?_
 refine jG ?_
 refine Ops.rg rfl au (Run.lenS rfl Try.underlying60) rfl ?_
 refine Ops.rg rfl au (Run.bin rfl rfl (Bin.geqN _ _)) rfl ?_
 refine Ops.r (Run.pickF rfl rfl au) rfl ?_
 refine jO (jN (jv4 0 1 2 15 ?_))
 refine VC.condF rfl (by first | rfl | (simp; omega)) ?_
 refine jQ (jN (jv3 0 1 2 ?_))
 refine jS (jR (jM ?_))
 refine jM ?_
 refine Ops.r (Run.indexS _ rfl rfl Try.underlying60 Try.sizeOf116 (by omega)) rfl ?_
 refine Ops.r (Run.loadA rfl Try.isAgg116 Try.sizeOf116 hel (by first | rfl | (simp; done))) rfl ?_
 refine Ops.m (Does.alloc zero116) rfl ?_
 rintro _ w1 ⟨rfl, hF1⟩
 have hg1 : g ≠ w.heap.size := by have := hW.lt g (by simp); omega
 have hW1 := hW.frm hF1.frm (by simp)
 have hAl := fun x hx => hW.lt x hx
 refine Ops.st (Acts.storeA rfl rfl Try.sizeOf116 hF1.blk rfl (CB_one _)) ?_
 rintro w2 ⟨hb2, hf12, hs12⟩
 have hW2 := hW1.frm hf12 (fun x hx => by have := hAl x hx; simp; omega)
 have hf2 : Frm [] w w2 := hF1.frm.own hf12 (by simp)
 have hb2 : Blk w2 w.heap.size 116 (CB (codeOf ls s, (n : Int))).toArray := hb2
 refine jO (jN (jv2 0 7 ?_))
 refine jS (jB (jS (jR ?_)))
 refine Ops.r (Run.loadA rfl Try.isAgg116 Try.sizeOf116 (fun j v hj => hb2.cells j v (by simpa using hj)) (by first | rfl | (simp; done))) rfl ?_
 refine Ops.r (Run.build evs.nil zero116 (places116).choose_spec.1 (places116).choose_spec.2 rfl) rfl ?_
 refine Ops.r (Run.eqlAgg rfl rfl jK jK jK ((code_eq (codeOf ls s, (n : Int)) (0, 0) _))) rfl ?_
 refine jA ?_
 refine jO (jN (jv3 0 7 20 ?_))
 refine VC.condF rfl (decide_eq_false hne) ?_
 refine jS (jR ?_)
 refine Ops.r (Run.fieldAddr rfl Try.underlying116 rfl Try.sizeOf3 (by decide)) rfl ?_
 refine Ops.r (Run.load rfl Try.isAgg3 (hb2.cell 1)) rfl ?_
 refine Ops.r (Run.bin rfl rfl (Bin.lssN _ 1)) rfl ?_
 refine jM ?_
 refine Ops.rg rfl au (Run.fieldAddr rfl Try.underlying116 rfl Try.sizeOf3 (by decide)) rfl ?_
 refine Ops.rg rfl au (Run.load rfl Try.isAgg3 (hb2.cell 1)) rfl ?_
 refine Ops.rg rfl au (Run.bin rfl rfl (Bin.gtrN _ 15)) rfl ?_
 refine Ops.r (Run.pickF rfl rfl au) rfl ?_
 refine jA ?_
 refine jO (jN (jv3 0 7 24 ?_))
 refine VC.condF rfl (by first | rfl | (simp; omega)) ?_
 refine jQ ?_
 refine blockQ_n (jN ?_)
 refine jv2 0 7 ?_
 refine jS (jR (jM ?_))
 refine Ops.r (Run.fieldAddr rfl Try.underlying116 rfl Try.sizeOf37 (by decide)) rfl ?_
 refine Ops.r (Run.load rfl Try.isAgg37 (hb2.cell 0)) rfl ?_
 refine Ops.r (Run.fieldAddr rfl Try.underlying116 rfl Try.sizeOf3 (by decide)) rfl ?_
 refine Ops.r (Run.load rfl Try.isAgg3 (hb2.cell 1)) rfl ?_
 refine Ops.cl (Enters.fn (evs.cons rfl (evs.cons rfl (evs.cons rfl evs.nil))) Try.call82) (turned_ok g (codeOf ls s) n A l _ h3 (by omega) hl hW2) rfl ?_
 rintro e w3 ⟨rfl, A3, hW3, hf3, hA3⟩
 refine ⟨_, rfl, ?_⟩
 refine jA ?_
 refine jO (jN (jv1 6 ?_))
 refine jT ?_
 refine end1 rfl ?_
 refine ⟨⟨_, rfl⟩, A3, ?_, (hf2.mono (by simp)).trans hf3 (fun x hx => .inl hx), fun x hx => ?_⟩
 ·
  unfold cbits
  rw [h0]
  exact hW3
 ·
  rcases hA3 x hx with h | h
  ·
   exact .inl h
  ·
   exact .inr (Nat.le_trans hf2.size h)
theorem cput_spec (g s c : Nat) (A B : Option Addr) (l : List Bool) (ls : List Int) (w : World) (hg : good ls) (hk : KC (cn ls) 16 ≤ 32768) (hs : s < ls.length) (hl : l.length ≤ 1000000000) (hW : IsW w g A l) (hr : Rd w 2 B ls.length ((codesL ls).flatMap CB)) :
  Calls Try.prog 52 #[.pointer (some ⟨g, 0, none⟩), .slice B ls.length c, .int .i64 ((s : Nat) : Int)] w fun e w' => (∃ k : Int, e = .returned (.int .i64 k)) ∧ WR w w' g A (l ++ cbits ls s) := by
 rcases codeC_fits hg hk hs with h | ⟨n, h1, _, h2, h3, h4⟩
 ·
  exact cput_zero g s c A B l ls w hg.1 hs hl hW hr h
 ·
  exact cput_some g s c A B l ls w hg.1 hs hl hW hr n h1 h2 h3 h4
theorem IsW.keepB {w w' : World} {g x : Nat} {A : Option Addr} {l : List Bool} {t : TypeId} {cs : Array Value} (h : IsW w g A l) (f : Frm (g :: ob A) w w') (hb : Blk w x t cs) (h1 : 97 ≠ t) (h2 : 5 ≠ t) : Blk w' x t cs := by
 obtain ⟨c, h3, h4⟩ := h
 refine hb.frm f (fun hx => ?_)
 rcases List.mem_cons.1 hx with rfl | hx
 ·
  exact h3.ne hb h1 rfl
 ·
  exact h4.ne_blk hb h2 hx
theorem IsW.keepO {w w' : World} {g e size n c : Nat} {A B : Option Addr} {l : List Bool} {xs : List Value} (h : IsW w g A l) (f : Frm (g :: ob A) w w') (ho : Own w e size B n c xs) (h1 : 97 ≠ e) (h2 : 5 ≠ e) : Own w' e size B n c xs := by
 obtain ⟨c2, h3, h4⟩ := h
 refine ho.frm f (fun x hx hx2 => ?_)
 rcases List.mem_cons.1 hx2 with rfl | hx2
 ·
  exact ho.ne_blk h3 (Ne.symm h1) hx
 ·
  exact h4.ne_own ho h2 x hx2 hx
theorem WR.trans {w w1 w2 : World} {g : Nat} {A A1 : Option Addr} {l2 : List Bool} (f : Frm (g :: ob A) w w1) (hA : ∀ x ∈ ob A1, x ∈ ob A ∨ w.heap.size ≤ x) (h : WR w1 w2 g A1 l2) : WR w w2 g A l2 := by
 obtain ⟨A2, h1, h2, h3⟩ := h
 refine ⟨A2, h1, f.trans h2 (fun x hx => ?_), fun x hx => ?_⟩
 ·
  rcases List.mem_cons.1 hx with rfl | hx
  ·
   exact .inl (by simp)
  ·
   rcases hA x hx with h | h
   ·
    exact .inl (by simp [h])
   ·
    exact .inr h
 ·
  rcases h3 x hx with h | h
  ·
   exact hA x h
  ·
   exact .inr (Nat.le_trans f.size h)
set_option maxRecDepth 100000 in
theorem more_spec (v1 v2 : Value) (h1 : v1.cells = #[v1]) (h2 : v2.cells = #[v2]) (w : World) :
  Calls Try.prog 29 #[v1, v2] w fun e w' => ∃ g2 g3, e = .returned (.func (.func 59) #[] #[.pointer (some ⟨g2, 0, none⟩), .pointer (some ⟨g3, 0, none⟩)]) ∧ Blk w' g2 34 #[v1] ∧ Blk w' g3 60 #[v2] ∧ Frm [] w w' := by
 refine VC.calls (nt := 6) (res := #[.tmp 4]) Try.func29 rfl Try.ntmps29 Try.results29 rfl ?_
 refine jS (jR ?_)
 refine Ops.m (Does.box rfl) rfl ?_
 rintro _ w1 ⟨rfl, hF1⟩
 refine Ops.m (Does.box rfl) rfl ?_
 rintro _ w2 ⟨rfl, hF2⟩
 refine jA ?_
 refine jO (jN (jv2 2 3 ?_))
 refine jS (jR ?_)
 refine Ops.r (Run.mkFunc evs.nil (evs.cons rfl (evs.cons rfl evs.nil))) rfl ?_
 refine jA ?_
 refine jO (jN (jv1 4 ?_))
 refine jT ?_
 refine end1 rfl ?_
 have hb1 := hF1.blk
 have hb2 := hF2.blk
 rw [h1] at hb1
 rw [h2] at hb2
 exact ⟨_, _, rfl, hb1.frm hF2.frm (by simp), hb2, hF1.frm.trans hF2.frm (by simp)⟩
set_option maxRecDepth 100000 in
theorem more1_spec (g g2 g3 s n v c : Nat) (A B : Option Addr) (l : List Bool) (ls : List Int) (w : World) (hg : good ls) (hk : KC (cn ls) 16 ≤ 32768) (hs : s < ls.length) (hv : v < 2 ^ n) (hn : n ≤ 32) (hl : l.length ≤ 900000000) (hW : IsW w g A l) (ho : Own w 116 2 B ls.length c ((codesL ls).flatMap CB))
  (hb2 : Blk w g2 34 #[.pointer (some ⟨g, 0, none⟩)]) (hb3 : Blk w g3 60 #[.slice B ls.length c]) :
  Calls Try.prog 59 #[.int .i64 ((s : Nat) : Int), .int .i64 ((n : Nat) : Int), .int .i64 ((v : Nat) : Int), .pointer (some ⟨g2, 0, none⟩), .pointer (some ⟨g3, 0, none⟩)] w fun e w' => e = .returned (.tuple #[]) ∧ WR w w' g A (l ++ cbits ls s ++ bitsL v n) := by
 have hpw : 2 ^ n ≤ 2 ^ 32 := Nat.pow_le_pow_right (by omega) hn
 have hcl := cbits_len hg hk hs
 refine VC.calls (nt := 17) (res := #[]) Try.func59 rfl Try.ntmps59 Try.results59 rfl ?_
 refine jS (jR ?_)
 refine Ops.r (Run.load rfl Try.isAgg34 (hb2.cell 0)) rfl ?_
 refine Ops.r (Run.load rfl Try.isAgg60 (hb3.cell 0)) rfl ?_
 refine jM ?_
 refine Ops.cl (Enters.fn (evs.cons rfl (evs.cons rfl (evs.cons rfl evs.nil))) Try.call52) (cput_spec g s c A B l ls w hg hk hs (by omega) hW ho.rd) rfl ?_
 rintro e w1 ⟨⟨k, rfl⟩, A1, hW1, hf1, hA1⟩
 refine ⟨_, rfl, ?_⟩
 have hb2 := hW.keepB hf1 hb2 (by decide) (by decide)
 refine jO (jN (jv3 1 2 3 ?_))
 refine jR ?_
 refine Ops.r (Run.load rfl Try.isAgg34 (hb2.cell 0)) rfl ?_
 refine jM ?_
 refine Ops.r (Run.convN _ rfl Try.underlying3 Try.underlying37 (by simp only [bmax]; omega)) rfl ?_
 refine jM ?_
 refine Ops.cl (Enters.fn (evs.cons rfl (evs.cons rfl (evs.cons rfl evs.nil))) Try.call19) (put_ok g v n A1 (l ++ cbits ls s) w1 hv hn (by rw [List.length_append]; omega) hW1) rfl ?_
 rintro e w2 ⟨rfl, h2⟩
 refine ⟨_, rfl, ?_⟩
 refine jO ?_
 refine end0n ?_
 exact ⟨rfl, WR.trans hf1 hA1 h2⟩
end Go.Proofs.Ytnmieihcjjiccaa
namespace Go.Proofs.Ytnmieihcjjiccaa
open Go.RowKit
def Pan (c : Nat) : List PanicEntry := [{ v := .iface 24 (.int .i64 ((c : Nat) : Int)), recovered := false }]
def IsX (w : World) (gx gr : Nat) (Ar : Option Addr) (bs : List Nat) (p : Nat) (A : Option Addr) (c : Nat) (out : List Nat) (most : Nat) : Prop :=
 Blk w gx 132 #[.pointer (some ⟨gr, 0, none⟩), .slice A out.length c, .int .i64 ((most : Nat) : Int)] ∧ IsR w gr Ar bs p ∧ Own w 5 1 A out.length c (NB out) ∧ (∀ x ∈ ob A, x ∉ ob Ar) ∧ p ≤ 8 * bs.length ∧ out.length ≤ most ∧ ∀ x ∈ out, x < 256
section
variable {w w' : World} {gx gr : Nat} {Ar : Option Addr} {bs : List Nat} {p : Nat} {A : Option Addr} {c : Nat} {out : List Nat} {most : Nat} {S : List Nat}
theorem IsX.gxr (h : IsX w gx gr Ar bs p A c out most) : gx ≠ gr := h.1.ne h.2.1.choose_spec.1 (by decide)
theorem IsX.grA (h : IsX w gx gr Ar bs p A c out most) : gr ∉ ob A := h.2.2.1.ne_blk h.2.1.choose_spec.1 (by decide)
theorem IsX.gxA (h : IsX w gx gr Ar bs p A c out most) : gx ∉ ob A := h.2.2.1.ne_blk h.1 (by decide)
theorem IsX.gxAr (h : IsX w gx gr Ar bs p A c out most) : gx ∉ ob Ar := h.2.1.choose_spec.2.ne_blk h.1 (by decide)
theorem IsX.lt (h : IsX w gx gr Ar bs p A c out most) : gx < w.heap.size ∧ gr < w.heap.size ∧ (∀ x ∈ ob A, x < w.heap.size) ∧ ∀ x ∈ ob Ar, x < w.heap.size :=
 ⟨h.1.lt, h.2.1.lt gr (by simp), h.2.2.1.lt, fun x hx => h.2.1.lt x (by simp [hx])⟩
theorem IsX.turn {p' : Nat} (h : IsX w gx gr Ar bs p A c out most) (hR : IsR w' gr Ar bs p') (hf : Frm [gr] w w') (hp : p' ≤ 8 * bs.length) : IsX w' gx gr Ar bs p' A c out most :=
 ⟨h.1.frm hf (by simp; exact h.gxr), hR, h.2.2.1.frm hf (fun x hx h2 => h.grA (by simp at h2; subst h2; exact hx)), h.2.2.2.1, hp, h.2.2.2.2.2⟩
theorem IsX.frm (h : IsX w gx gr Ar bs p A c out most) (hf : Frm S w w') (hS : ∀ x ∈ gx :: gr :: (ob A ++ ob Ar), x ∉ S) : IsX w' gx gr Ar bs p A c out most :=
 ⟨h.1.frm hf (hS gx (by simp)), h.2.1.frm hf (fun x hx => hS x (by rcases List.mem_cons.1 hx with rfl | hx <;> simp_all)), h.2.2.1.frm hf (fun x hx => hS x (by simp [hx])), h.2.2.2⟩
theorem IsX.frm0 (h : IsX w gx gr Ar bs p A c out most) (hf : Frm [] w w') : IsX w' gx gr Ar bs p A c out most := h.frm hf (by simp)
end
theorem TakeR_F {bs : List Nat} {p n v k p' : Nat} (h : TakeR bs p (n : Int) v k p') (hn : n ≤ 32) (hp : p ≤ 8 * bs.length) : (k = 0 ∧ takeF (ofB bs) n p = .ok (v, p')) ∨ (k = 2 ∧ takeF (ofB bs) n p = .error 2) := by
 rcases h with ⟨h, _⟩ | ⟨m, hm, _, h⟩
 ·
  omega
 ·
  obtain rfl : n = m := by omega
  unfold takeF
  rw [ofB_len]
  rcases h with ⟨h1, _, h2, _⟩ | ⟨h1, h2, h3, h4⟩
  ·
   exact .inr ⟨h2, by rw [if_neg (by omega)]⟩
  ·
   exact .inl ⟨h3, by rw [if_pos (by omega), h2, h4]⟩
set_option maxRecDepth 100000 in
theorem must_spec (k : Nat) (w : World) : Calls Try.prog 102 #[.int .i64 ((k : Nat) : Int)] w fun e w' => w = w' ∧ e = if k = 0 then .returned (.tuple #[]) else .panicked (Pan k) := by
 refine VC.calls (nt := 6) (res := #[]) Try.func102 rfl Try.ntmps102 Try.results102 rfl ?_
 refine jS (jR (jM ?_))
 refine Ops.r (Run.bin rfl rfl (Bin.neqN _ 0)) rfl ?_
 refine jO (jN (jv2 0 3 ?_))
 refine VC.condD rfl (fun hc1 => ?_) (fun hc1 => ?_)
 ·
  refine jR (jM ?_)
  refine Ops.r (Run.mkIface rfl Try.underlying24 rfl) rfl ?_
  refine Ops.pn rfl (endQ_p ?_)
  exact ⟨rfl, by rw [if_neg hc1]; rfl⟩
 ·
  refine jQ ?_
  refine end0n ?_
  exact ⟨rfl, by rw [if_pos (Classical.not_not.1 hc1)]⟩
set_option maxRecDepth 100000 in
theorem need_spec (b : Bool) (k : Nat) (w : World) : Calls Try.prog 92 #[.bool b, .int .i64 ((k : Nat) : Int)] w fun e w' => w = w' ∧ e = if b = true then .returned (.tuple #[]) else .panicked (Pan k) := by
 refine VC.calls (nt := 8) (res := #[]) Try.func92 rfl Try.ntmps92 Try.results92 rfl ?_
 refine jS (jR (jM ?_))
 refine Ops.r (Run.not rfl) rfl ?_
 refine jO (jN (jv2 1 5 ?_))
 refine VC.condB rfl (fun hc1 => ?_) (fun hc1 => ?_)
 ·
  refine jR (jM ?_)
  refine Ops.r (Run.mkIface rfl Try.underlying24 rfl) rfl ?_
  refine Ops.pn rfl (endQ_p ?_)
  exact ⟨rfl, by cases b <;> simp at hc1 ⊢; rfl⟩
 ·
  refine jQ ?_
  refine end0n ?_
  exact ⟨rfl, by cases b <;> simp at hc1 ⊢⟩
set_option maxRecDepth 100000 in
theorem itake_spec (gx gr n p : Nat) (Ar A : Option Addr) (bs : List Nat) (c : Nat) (out : List Nat) (most : Nat) (w : World) (hn : n ≤ 32) (hbs : bs.length ≤ 1000000) (hB : ∀ b ∈ bs, b < 256) (hX : IsX w gx gr Ar bs p A c out most) :
  Calls Try.prog 91 #[.pointer (some ⟨gx, 0, none⟩), .int .i64 ((n : Nat) : Int)] w fun e w' => Frm [gr] w w' ∧ match takeF (ofB bs) n p with
   | .error k => e = .panicked (Pan k)
   | .ok x => e = .returned (.int .i64 ((x.1 : Nat) : Int)) ∧ IsX w' gx gr Ar bs x.2 A c out most := by
 have hp := hX.2.2.2.2.1
 refine VC.calls (nt := 20) (res := #[.tmp 4]) Try.func91 rfl Try.ntmps91 Try.results91 rfl ?_
 refine jS (jR ?_)
 refine Ops.r (v := .int .i64 ((0 : Nat) : Int)) (Run.asg rfl) rfl ?_
 refine jO (jN (jv2 0 1 ?_))
 refine jS (jR (jM ?_))
 refine Ops.r (Run.nilck rfl) rfl ?_
 refine Ops.r (Run.fieldAddr rfl Try.underlying132 rfl Try.sizeOf129 (by decide)) rfl ?_
 refine Ops.r (Run.load rfl Try.isAgg129 (hX.1.cell 0)) rfl ?_
 refine jM ?_
 refine Ops.cl (Enters.fn (evs.cons rfl (evs.cons rfl evs.nil)) Try.call101) (take_any gr p n Ar bs _ hp (by omega) hB hX.2.1) rfl ?_
 rintro e w1 ⟨v, k, p', rfl, hT, hp', hR1, hf1⟩
 refine ⟨_, rfl, ?_⟩
 have hX1 := hX.turn hR1 hf1 hp'
 refine jM ?_
 refine Ops.r (Run.extract rfl rfl) rfl ?_
 refine Ops.r (Run.extract rfl rfl) rfl ?_
 refine jA ?_
 refine jA ?_
 refine jO (jN (jv2 5 6 ?_))
 refine jS (jR (jM ?_))
 refine Ops.clp (Enters.fn (evs.cons rfl evs.nil) Try.call102) (must_spec k _) rfl ?_
 rintro e _ ⟨rfl, rfl⟩
 rcases TakeR_F hT hn hp with ⟨rfl, hF⟩ | ⟨rfl, hF⟩
 rotate_left
 ·
  exact .inr ⟨_, by rw [if_neg (by decide)], thenQ_p (endQ_p ⟨hf1, by rw [hF]⟩)⟩
 obtain ⟨_, _, hv, _⟩ := takeF_ok hF
 have hv2 : 2 ^ n ≤ 2 ^ 32 := Nat.pow_le_pow_right (by omega) hn
 refine .inl ⟨_, by rw [if_pos rfl], ?_⟩
 refine jO (jN (jv1 5 ?_))
 refine jS (jR (jM ?_))
 refine Ops.r (Run.convN v rfl Try.underlying37 Try.underlying3 (by simp only [bmax]; omega)) rfl ?_
 refine jA ?_
 refine jO (jN (jv1 4 ?_))
 refine jT ?_
 refine end1 rfl ?_
 exact ⟨hf1, by rw [hF]; exact ⟨rfl, hX1⟩⟩
set_option maxRecDepth 100000 in
theorem isym_spec (gx gr p gd : Nat) (Ar A Bd : Option Addr) (cd : Nat) (l : List Int) (bs : List Nat) (c : Nat) (out : List Nat) (most : Nat) (w : World) (hl : l.length ≤ 320) (hm : mostC l ≤ 15) (hbs : bs.length ≤ 1000000) (hB : ∀ b ∈ bs, b < 256) (hX : IsX w gx gr Ar bs p A c out most)
  (hD : IsD w gd Bd cd (cn l) (fst' l) (order l) (mostC l)) :
  Calls Try.prog 111 #[.pointer (some ⟨gx, 0, none⟩), .pointer (some ⟨gd, 0, none⟩)] w fun e w' => Frm [gr] w w' ∧ match symF (ofB bs) l p with
   | .error k => e = .panicked (Pan k)
   | .ok x => e = .returned (.int .i64 ((x.1 : Nat) : Int)) ∧ IsX w' gx gr Ar bs x.2 A c out most := by
 have hp := hX.2.2.2.2.1
 refine VC.calls (nt := 19) (res := #[.tmp 4]) Try.func111 rfl Try.ntmps111 Try.results111 rfl ?_
 refine jS (jR ?_)
 refine Ops.r (v := .int .i64 ((0 : Nat) : Int)) (Run.asg rfl) rfl ?_
 refine jO (jN (jv2 0 1 ?_))
 refine jS (jR (jM ?_))
 refine jM ?_
 refine Ops.r (Run.nilck rfl) rfl ?_
 refine Ops.r (Run.fieldAddr rfl Try.underlying132 rfl Try.sizeOf129 (by decide)) rfl ?_
 refine Ops.r (Run.load rfl Try.isAgg129 (hX.1.cell 0)) rfl ?_
 refine Ops.cl (Enters.fn (evs.cons rfl (evs.cons rfl evs.nil)) Try.call112) (takeD_spec gd gr Bd Ar cd l (mostC l) p bs _ hl hm hp (by omega) hB hD hX.2.1) rfl ?_
 rintro e w1 ⟨rfl, hp', hR1, hf1⟩
 refine ⟨_, rfl, ?_⟩
 have hX1 := hX.turn hR1 hf1 hp'
 have hF : symF (ofB bs) l p = if (tk l (ofB bs) (mostC l) 1 0 p).2.2 = 0 then .ok ((tk l (ofB bs) (mostC l) 1 0 p).1, (tk l (ofB bs) (mostC l) 1 0 p).2.1) else .error (tk l (ofB bs) (mostC l) 1 0 p).2.2 := rfl
 generalize tk l (ofB bs) (mostC l) 1 0 p = R at *
 obtain ⟨s, p', k⟩ := R
 dsimp only at hF hX1 ⊢
 refine jM ?_
 refine Ops.r (Run.extract rfl rfl) rfl ?_
 refine Ops.r (Run.extract rfl rfl) rfl ?_
 refine jA ?_
 refine jA ?_
 refine jO (jN (jv2 5 6 ?_))
 refine jS (jR (jM ?_))
 refine Ops.clp (Enters.fn (evs.cons rfl evs.nil) Try.call102) (must_spec k _) rfl ?_
 rintro e _ ⟨rfl, rfl⟩
 by_cases hk : k = 0
 rotate_left
 ·
  exact .inr ⟨_, by rw [if_neg hk], thenQ_p (endQ_p ⟨hf1, by rw [hF, if_neg hk]⟩)⟩
 subst hk
 refine .inl ⟨_, by rw [if_pos rfl], ?_⟩
 refine jO (jN (jv1 5 ?_))
 refine jS (jR (jM ?_))
 refine jA ?_
 refine jO (jN (jv1 4 ?_))
 refine jT ?_
 refine end1 rfl ?_
 exact ⟨hf1, by rw [hF, if_pos rfl]; exact ⟨rfl, hX1⟩⟩
set_option maxRecDepth 100000 in
theorem code_spec (A : Option Addr) (c0 : Nat) (l : List Int) (w : World) (hl : l.length ≤ 1000000) (hr : Rd w 1 A l.length (IB l)) :
  Calls Try.prog 95 #[.slice A l.length c0] w fun e w' => Frm [] w w' ∧ if newE l = 0 then ∃ g B c, e = .returned (.pointer (some ⟨g, 0, none⟩)) ∧ IsD w' g B c (cn l) (fst' l) (order l) (mostC l) ∧ ∀ x ∈ g :: ob B, w.heap.size ≤ x
   else e = .panicked (Pan 11) := by
 refine VC.calls (nt := 14) (res := #[.tmp 2]) Try.func95 rfl Try.ntmps95 Try.results95 rfl ?_
 refine jS (jR (jA ?_))
 refine jO (jN (jv1 0 ?_))
 refine jS (jR (jM ?_))
 refine Ops.cl (Enters.fn (evs.cons rfl evs.nil) Try.call106) (newD_spec A c0 l _ hl hr) rfl ?_
 rintro e w1 ⟨hf1, he⟩
 obtain ⟨P, k, hee, hk, hPk⟩ : ∃ P k, e = .returned (.tuple #[.pointer P, .int .i64 ((k : Nat) : Int)]) ∧ (k = newE l) ∧ (k = 0 → ∃ g B c, P = some ⟨g, 0, none⟩ ∧ IsD w1 g B c (cn l) (fst' l) (order l) (mostC l) ∧ ∀ x ∈ g :: ob B, w.heap.size ≤ x) := by
  by_cases h : newE l = 0
  ·
   rw [if_pos h] at he
   obtain ⟨g, B, c, h1, h2, h3⟩ := he
   exact ⟨_, 0, h1, h.symm, fun _ => ⟨g, B, c, rfl, h2, h3⟩⟩
  ·
   rw [if_neg h] at he
   exact ⟨_, _, he, rfl, fun h2 => absurd h2 h⟩
 clear he
 subst hee
 refine ⟨_, rfl, ?_⟩
 refine jM ?_
 refine Ops.r (Run.extract rfl rfl) rfl ?_
 refine Ops.r (Run.extract rfl rfl) rfl ?_
 refine jA ?_
 refine jA ?_
 refine jO (jN (jv2 3 4 ?_))
 refine jS (jR (jM ?_))
 refine Ops.r (Run.bin rfl rfl (Bin.eqlN _ 0)) rfl ?_
 refine Ops.clp (Enters.fn (evs.cons rfl (evs.cons rfl evs.nil)) Try.call92) (need_spec (decide (k = 0)) 11 _) rfl ?_
 rintro e _ ⟨rfl, rfl⟩
 by_cases hk0 : k = 0
 rotate_left
 ·
  exact .inr ⟨_, by rw [if_neg (by simpa using hk0)], thenQ_p (endQ_p ⟨hf1, by rw [if_neg (by omega)]⟩)⟩
 refine .inl ⟨_, by rw [if_pos (by simpa using hk0)], ?_⟩
 obtain ⟨g, B, c, rfl, h2, h3⟩ := hPk hk0
 refine jO (jN (jv1 3 ?_))
 refine jS (jR (jM ?_))
 refine jA ?_
 refine jO (jN (jv1 2 ?_))
 refine jT ?_
 refine end1 rfl ?_
 exact ⟨hf1, by rw [if_pos (by omega)]; exact ⟨g, B, c, rfl, h2, h3⟩⟩
end Go.Proofs.Ytnmieihcjjiccaa
namespace Go.Proofs.Ytnmieihcjjiccaa
open Go.RowKit
def LC (p : Nat × Nat) : List Value := [.int .i64 ((p.1 : Nat) : Int), .int .i64 ((p.2 : Nat) : Int)]
theorem LC_len (p : Nat × Nat) : (LC p).length = 2 := rfl
theorem LC_one (p : Nat × Nat) : ∀ v ∈ LC p, v.oneCell' = true := by
 intro v hv
 simp only [LC, List.mem_cons, List.not_mem_nil, or_false] at hv
 rcases hv with rfl | rfl <;> rfl
def nextL (i : Nat) : Nat := if i < 28 then (longT.getD i (0, 0)).1 else 259
theorem long_step : ∀ i, i < 28 → (if (0 : Int) < ((i / 4 : Nat) : Int) - 1 then ((i / 4 : Nat) : Int) - 1 else 0) = (((longT.getD i (0, 0)).2 : Nat) : Int) ∧ nextL i + 2 ^ (longT.getD i (0, 0)).2 = nextL (i + 1) ∧ (longT.getD i (0, 0)).2 ≤ 5 ∧ nextL i ≤ 258 ∧ longT.getD i (0, 0) = (nextL i, (longT.getD i (0, 0)).2) := by decide +kernel
def nextW (i : Nat) : Nat := if i < 30 then (wayT.getD i (0, 0)).1 else 32769
theorem way_step : ∀ i, i < 30 → (if (0 : Int) < ((i / 2 : Nat) : Int) - 1 then ((i / 2 : Nat) : Int) - 1 else 0) = (((wayT.getD i (0, 0)).2 : Nat) : Int) ∧ nextW i + 2 ^ (wayT.getD i (0, 0)).2 = nextW (i + 1) ∧ (wayT.getD i (0, 0)).2 ≤ 13 ∧ nextW i ≤ 24577 ∧ wayT.getD i (0, 0) = (nextW i, (wayT.getD i (0, 0)).2) := by decide +kernel
def upto (t : List (Nat × Nat)) (n i : Nat) : List (Nat × Nat) := (List.range n).map fun k => if k < i then t.getD k (0, 0) else (0, 0)
theorem upto_len (t : List (Nat × Nat)) (n i : Nat) : (upto t n i).length = n := by simp [upto]
theorem upto_set (t : List (Nat × Nat)) (n i : Nat) (h : i < n) : (upto t n i).set i (t.getD i (0, 0)) = upto t n (i + 1) := by
 apply List.ext_getElem?
 intro j
 by_cases hj : j = i
 ·
  subst hj
  rw [List.getElem?_set_self (by simp [upto, h])]
  simp [upto, h]
 ·
  rw [List.getElem?_set_ne (Ne.symm hj)]
  by_cases hn : j < n
  ·
   simp [upto, hn, show j < i + 1 ↔ j < i by omega]
  ·
   simp [upto, hn]
theorem Own_cells {w : World} {e size n c g : Nat} {xs : List Value} (h : Own w e size (some ⟨g, 0, none⟩) n c xs) (hn : 0 < n) : ∀ j v, xs[j]? = some v → w.cell? ((⟨g, 0, none⟩ : Addr).add j) = some v := by
 obtain ⟨ad, hA, _, hc⟩ := h.rd.2 hn
 injection hA with hA
 subst hA
 exact hc
set_option maxRecDepth 100000 in
theorem ilengths_spec (w : World) : Calls Try.prog 83 #[] w fun e w' => e = .returned (.agg (longT.flatMap LC).toArray) ∧ Frm [] w w' := by
 refine VC.calls (nt := 25) (res := #[.cell 0 143]) Try.func83 rfl Try.ntmps83 Try.results83 rfl ?_
 refine jS (jR ?_)
 refine Ops.m (Does.alloc zero143) rfl ?_
 rintro _ w1 ⟨rfl, hF1⟩
 have hb1 := hF1.blk
 refine jO (jN (jS (jR ?_)))
 refine Ops.m (Does.alloc zero143) rfl ?_
 rintro _ w2 ⟨rfl, hF2⟩
 have hb12 := hb1.frm hF2.frm (by simp)
 have hfr2 := hF1.frm.own hF2.frm (by simp)
 have ho2 : Own w2 143 2 (some ⟨w1.heap.size, 0, none⟩) 29 29 ((upto longT 29 0).flatMap LC) := Own.of_blk (n := 29) hF2.blk rfl (by decide)
 have hne : w.heap.size ≠ w1.heap.size := by have := hb1.lt; omega
 have hge : w.heap.size ≤ w1.heap.size := hF1.frm.size
 generalize hg1 : w1.heap.size = g1 at *
 generalize hg0 : w.heap.size = g0 at hb12 hne hge ⊢
 refine jO (jN (jS (jR ?_)))
 refine Ops.r (v := .int .i64 ((3 : Nat) : Int)) (Run.asg rfl) rfl ?_
 refine jO (jN (jS (jS (jR ?_))))
 refine Ops.r (v := .int .i64 ((0 : Nat) : Int)) (Run.mv rfl) rfl ?_
 refine jO (jN (jB ?_))
 refine VC.loop (σ := Nat) (fun s => [(0, .pointer (some ⟨g0, 0, none⟩)), (1, .pointer (some ⟨g1, 0, none⟩)), (2, .int .i64 ((nextL s : Nat) : Int)), (5, .int .i64 ((s : Nat) : Int))]) (fun s wr => s ≤ 28 ∧ Blk wr g0 143 (Value.agg #[.int .i64 0, .int .i64 0, .int .i64 0, .int .i64 0, .int .i64 0, .int .i64 0, .int .i64 0, .int .i64 0, .int .i64 0, .int .i64 0, .int .i64 0, .int .i64 0, .int .i64 0, .int .i64 0, .int .i64 0, .int .i64 0, .int .i64 0, .int .i64 0, .int .i64 0, .int .i64 0, .int .i64 0, .int .i64 0, .int .i64 0, .int .i64 0, .int .i64 0, .int .i64 0, .int .i64 0, .int .i64 0, .int .i64 0, .int .i64 0, .int .i64 0, .int .i64 0, .int .i64 0, .int .i64 0, .int .i64 0, .int .i64 0, .int .i64 0, .int .i64 0, .int .i64 0, .int .i64 0, .int .i64 0, .int .i64 0, .int .i64 0, .int .i64 0, .int .i64 0, .int .i64 0, .int .i64 0, .int .i64 0, .int .i64 0, .int .i64 0, .int .i64 0, .int .i64 0, .int .i64 0, .int .i64 0, .int .i64 0, .int .i64 0, .int .i64 0, .int .i64 0]).cells ∧ Own wr 143 2 (some ⟨g1, 0, none⟩) 29 29 ((upto longT 29 s).flatMap LC) ∧ Frm [] w wr) (fun s => 28 - s) 0 (js4 rfl rfl rfl rfl) ⟨by omega, hb12, ho2, hfr2⟩ ?_
 rintro i wr ⟨hi, hbr, hor, hfr⟩
 refine jS (jR ?_)
 refine Ops.r (Run.bin rfl rfl (Bin.lssN _ 28)) rfl ?_
 refine jO (jN (jS ?_))
 refine VC.condD rfl (fun hc1 => ?_) (fun hc1 => ?_)
 ·
  obtain ⟨hs1, hs2, hs3, hs4, hs5⟩ := long_step i hc1
  refine jQ (jN (jv4 0 1 2 5 ?_))
  refine jS (jB (jS (jR (jM ?_))))
  refine jA ?_
  refine jO (jN (jv5 0 1 2 3 5 ?_))
  refine jS (jR (jM ?_))
  refine Ops.r (Run.bin rfl rfl (Bin.quo_i64 _ 4 (by omega) (by omega))) rfl ?_
  refine Ops.r (Run.bin rfl rfl (Bin.subZ _ 1 (by omega) (by omega))) rfl ?_
  refine Ops.r (Run.maxI rfl rfl) rfl ?_
  rw [hs1]
  refine jA ?_
  refine jO (jN (jv6 0 1 2 3 4 5 ?_))
  refine jS (jR (jM ?_))
  refine jM ?_
  refine jM ?_
  refine Ops.r (Run.build (evs.cons rfl (evs.cons rfl evs.nil)) zero142 (places142).choose_spec.1 (places142).choose_spec.2 (cells := (LC (nextL i, (longT.getD i (0, 0)).2)).toArray) rfl) rfl ?_
  refine Ops.r (Run.indexA i rfl rfl Try.underlying143 Try.sizeOf142 (by omega)) rfl ?_
  refine Ops.st (Acts.storeOwnA LC (nextL i, (longT.getD i (0, 0)).2) i rfl rfl Try.sizeOf142 LC_len (upto_len _ _ _) hor rfl (by omega) (LC_one _)) ?_
  rintro w3 ⟨ho3, hf3, hs3'⟩
  rw [← hs5, upto_set _ _ _ (by omega)] at ho3
  refine jO (jN (jv5 0 1 2 4 5 ?_))
  refine jR (jM ?_)
  refine jM ?_
  refine Ops.r (Run.bin rfl rfl (Bin.shl_i64 1 (longT.getD i (0, 0)).2 (by omega) (by have := Nat.pow_le_pow_right (n := 2) (by omega) hs3; omega))) rfl ?_
  refine Ops.r (Run.bin rfl rfl (Bin.add_i64 (nextL i) (1 * 2 ^ (longT.getD i (0, 0)).2) (by have := Nat.pow_le_pow_right (n := 2) (by omega) hs3; omega))) rfl ?_
  rw [Nat.one_mul, hs2]
  refine jA ?_
  refine jO ?_
  refine blockQ_n (jN ?_)
  refine jv4 0 1 2 5 ?_
  refine jR ?_
  refine Ops.r (Run.bin rfl rfl (Bin.add_i64 _ 1 (by omega))) rfl ?_
  refine jM ?_
  refine jO ?_
  refine jN ⟨(i + 1), (js4 rfl rfl rfl rfl), ?_, ?_⟩
  ·
   exact ⟨hc1, hbr.frm hf3 (by simp [ob]; exact hne), ho3, hfr.own hf3 (fun x hx => by simp [ob] at hx; omega)⟩
  ·
   first | omega | (dsimp only; omega)
 ·
  have him : i = 28 := by omega
  subst him
  refine jX ?_
  refine thenQ_x (thenQ_x (blockQ_x ?_))
  refine jN (jv2 0 1 ?_)
  refine jS (jR ?_)
  refine Ops.r (Run.build (evs.cons rfl (evs.cons rfl evs.nil)) zero142 (places142).choose_spec.1 (places142).choose_spec.2 (cells := (LC (258, 0)).toArray) rfl) rfl ?_
  refine Ops.r (Run.indexA 28 rfl rfl Try.underlying143 Try.sizeOf142 (by omega)) rfl ?_
  refine Ops.st (Acts.storeOwnA LC (258, 0) 28 rfl rfl Try.sizeOf142 LC_len (upto_len _ _ _) hor rfl (by omega) (LC_one _)) ?_
  rintro w4 ⟨ho4, hf4, hs4⟩
  have hup : (upto longT 29 28).set 28 (258, 0) = longT := by decide +kernel
  rw [hup] at ho4
  have hb4 := hbr.frm hf4 (by simp [ob]; exact hne)
  have hfr4 := hfr.own hf4 (fun x hx => by simp [ob] at hx; omega)
  refine jO (jN (jv2 0 1 ?_))
  refine jS (jR ?_)
  refine Ops.r (Run.loadA rfl Try.isAgg143 Try.sizeOf143 (Own_cells ho4 (by omega)) rfl) rfl ?_
  refine Ops.st (Acts.storeA rfl rfl Try.sizeOf143 hb4 rfl (flat_one LC LC_one longT)) ?_
  rintro w5 ⟨hb5, hf5, hs5⟩
  refine jO (jN (jv1 0 ?_))
  refine jT ?_
  refine endR ?_
  refine res_cellB rfl Try.isAgg143 Try.sizeOf143 (hb5) rfl ?_
  refine res_nil ?_
  exact ⟨rfl, hfr4.own hf5 (fun x hx => by simp at hx; omega)⟩
set_option maxRecDepth 100000 in
theorem iways_spec (w : World) : Calls Try.prog 84 #[] w fun e w' => e = .returned (.agg (wayT.flatMap LC).toArray) ∧ Frm [] w w' := by
 refine VC.calls (nt := 23) (res := #[.cell 0 145]) Try.func84 rfl Try.ntmps84 Try.results84 rfl ?_
 refine jS (jR ?_)
 refine Ops.m (Does.alloc zero145) rfl ?_
 rintro _ w1 ⟨rfl, hF1⟩
 have hb1 := hF1.blk
 refine jO (jN (jS (jR ?_)))
 refine Ops.m (Does.alloc zero145) rfl ?_
 rintro _ w2 ⟨rfl, hF2⟩
 have hb12 := hb1.frm hF2.frm (by simp)
 have hfr2 := hF1.frm.own hF2.frm (by simp)
 have ho2 : Own w2 145 2 (some ⟨w1.heap.size, 0, none⟩) 30 30 ((upto wayT 30 0).flatMap LC) := Own.of_blk (n := 30) hF2.blk rfl (by decide)
 have hne : w.heap.size ≠ w1.heap.size := by have := hb1.lt; omega
 have hge : w.heap.size ≤ w1.heap.size := hF1.frm.size
 generalize hg1 : w1.heap.size = g1 at *
 generalize hg0 : w.heap.size = g0 at hb12 hne hge ⊢
 refine jO (jN (jS (jR ?_)))
 refine Ops.r (v := .int .i64 ((1 : Nat) : Int)) (Run.asg rfl) rfl ?_
 refine jO (jN (jS (jS (jR ?_))))
 refine Ops.r (v := .int .i64 ((0 : Nat) : Int)) (Run.mv rfl) rfl ?_
 refine jO (jN (jB ?_))
 refine VC.loop (σ := Nat) (fun s => [(0, .pointer (some ⟨g0, 0, none⟩)), (1, .pointer (some ⟨g1, 0, none⟩)), (2, .int .i64 ((nextW s : Nat) : Int)), (5, .int .i64 ((s : Nat) : Int))]) (fun s wr => s ≤ 30 ∧ Blk wr g0 145 (Value.agg #[.int .i64 0, .int .i64 0, .int .i64 0, .int .i64 0, .int .i64 0, .int .i64 0, .int .i64 0, .int .i64 0, .int .i64 0, .int .i64 0, .int .i64 0, .int .i64 0, .int .i64 0, .int .i64 0, .int .i64 0, .int .i64 0, .int .i64 0, .int .i64 0, .int .i64 0, .int .i64 0, .int .i64 0, .int .i64 0, .int .i64 0, .int .i64 0, .int .i64 0, .int .i64 0, .int .i64 0, .int .i64 0, .int .i64 0, .int .i64 0, .int .i64 0, .int .i64 0, .int .i64 0, .int .i64 0, .int .i64 0, .int .i64 0, .int .i64 0, .int .i64 0, .int .i64 0, .int .i64 0, .int .i64 0, .int .i64 0, .int .i64 0, .int .i64 0, .int .i64 0, .int .i64 0, .int .i64 0, .int .i64 0, .int .i64 0, .int .i64 0, .int .i64 0, .int .i64 0, .int .i64 0, .int .i64 0, .int .i64 0, .int .i64 0, .int .i64 0, .int .i64 0, .int .i64 0, .int .i64 0]).cells ∧ Own wr 145 2 (some ⟨g1, 0, none⟩) 30 30 ((upto wayT 30 s).flatMap LC) ∧ Frm [] w wr) (fun s => 30 - s) 0 (js4 rfl rfl rfl rfl) ⟨by omega, hb12, ho2, hfr2⟩ ?_
 rintro i wr ⟨hi, hbr, hor, hfr⟩
 refine jS (jR ?_)
 refine Ops.r (Run.bin rfl rfl (Bin.lssN _ 30)) rfl ?_
 refine jO (jN (jS ?_))
 refine VC.condD rfl (fun hc1 => ?_) (fun hc1 => ?_)
 ·
  obtain ⟨hs1, hs2, hs3, hs4, hs5⟩ := way_step i hc1
  refine jQ (jN (jv4 0 1 2 5 ?_))
  refine jS (jB (jS (jR (jM ?_))))
  refine jA ?_
  refine jO (jN (jv5 0 1 2 3 5 ?_))
  refine jS (jR (jM ?_))
  refine Ops.r (Run.bin rfl rfl (Bin.quo_i64 _ 2 (by omega) (by omega))) rfl ?_
  refine Ops.r (Run.bin rfl rfl (Bin.subZ _ 1 (by omega) (by omega))) rfl ?_
  refine Ops.r (Run.maxI rfl rfl) rfl ?_
  rw [hs1]
  refine jA ?_
  refine jO (jN (jv6 0 1 2 3 4 5 ?_))
  refine jS (jR (jM ?_))
  refine jM ?_
  refine jM ?_
  refine Ops.r (Run.build (evs.cons rfl (evs.cons rfl evs.nil)) zero142 (places142).choose_spec.1 (places142).choose_spec.2 (cells := (LC (nextW i, (wayT.getD i (0, 0)).2)).toArray) rfl) rfl ?_
  refine Ops.r (Run.indexA i rfl rfl Try.underlying145 Try.sizeOf142 (by omega)) rfl ?_
  refine Ops.st (Acts.storeOwnA LC (nextW i, (wayT.getD i (0, 0)).2) i rfl rfl Try.sizeOf142 LC_len (upto_len _ _ _) hor rfl (by omega) (LC_one _)) ?_
  rintro w3 ⟨ho3, hf3, hs3'⟩
  rw [← hs5, upto_set _ _ _ (by omega)] at ho3
  refine jO (jN (jv5 0 1 2 4 5 ?_))
  refine jR (jM ?_)
  refine jM ?_
  refine Ops.r (Run.bin rfl rfl (Bin.shl_i64 1 (wayT.getD i (0, 0)).2 (by omega) (by have := Nat.pow_le_pow_right (n := 2) (by omega) hs3; omega))) rfl ?_
  refine Ops.r (Run.bin rfl rfl (Bin.add_i64 (nextW i) (1 * 2 ^ (wayT.getD i (0, 0)).2) (by have := Nat.pow_le_pow_right (n := 2) (by omega) hs3; omega))) rfl ?_
  rw [Nat.one_mul, hs2]
  refine jA ?_
  refine jO ?_
  refine blockQ_n (jN ?_)
  refine jv4 0 1 2 5 ?_
  refine jR ?_
  refine Ops.r (Run.bin rfl rfl (Bin.add_i64 _ 1 (by omega))) rfl ?_
  refine jM ?_
  refine jO ?_
  refine jN ⟨(i + 1), (js4 rfl rfl rfl rfl), ?_, ?_⟩
  ·
   exact ⟨hc1, hbr.frm hf3 (by simp [ob]; exact hne), ho3, hfr.own hf3 (fun x hx => by simp [ob] at hx; omega)⟩
  ·
   first | omega | (dsimp only; omega)
 ·
  have him : i = 30 := by omega
  subst him
  refine jX ?_
  refine thenQ_x (thenQ_x (blockQ_x ?_))
  refine jN (jv2 0 1 ?_)
  refine jS (jR ?_)
  have hup : upto wayT 30 30 = wayT := by decide +kernel
  rw [hup] at hor
  refine Ops.r (Run.loadA rfl Try.isAgg145 Try.sizeOf145 (Own_cells hor (by omega)) rfl) rfl ?_
  refine Ops.st (Acts.storeA rfl rfl Try.sizeOf145 hbr rfl (flat_one LC LC_one wayT)) ?_
  rintro w5 ⟨hb5, hf5, hs5⟩
  refine jO (jN (jv1 0 ?_))
  refine jT ?_
  refine endR ?_
  refine res_cellB rfl Try.isAgg145 Try.sizeOf145 (hb5) rfl ?_
  refine res_nil ?_
  exact ⟨rfl, hfr.own hf5 (fun x hx => by simp at hx; omega)⟩
set_option maxRecDepth 100000 in
theorem iorder_spec (w : World) : Calls Try.prog 107 #[] w fun e w' => e = .returned (.agg (NI orderT).toArray) ∧ Frm [] w w' := by
 refine VC.calls (nt := 2) (res := #[.cell 0 54]) Try.func107 rfl Try.ntmps107 Try.results107 rfl ?_
 refine jS (jR ?_)
 refine Ops.m (Does.alloc zero54) rfl ?_
 rintro _ w1 ⟨rfl, hF1⟩
 have hb1 := hF1.blk
 generalize hg0 : w.heap.size = g0 at *
 refine jO (jN (jS (jR ?_)))
 refine Ops.r (Run.buildA (evs.cons rfl (evs.cons rfl (evs.cons rfl (evs.cons rfl (evs.cons rfl (evs.cons rfl (evs.cons rfl (evs.cons rfl (evs.cons rfl (evs.cons rfl (evs.cons rfl (evs.cons rfl (evs.cons rfl (evs.cons rfl (evs.cons rfl (evs.cons rfl (evs.cons rfl (evs.cons rfl (evs.cons rfl evs.nil))))))))))))))))))) zero54 Try.underlying54 Try.sizeOf3 (cells := (NI orderT).toArray) jK) rfl ?_
 refine Ops.st (Acts.storeA rfl rfl Try.sizeOf54 hb1 rfl (NI_one orderT)) ?_
 rintro w5 ⟨hb5, hf5, hs5⟩
 refine jO (jN (jv1 0 ?_))
 refine jT ?_
 refine endR ?_
 refine res_cellB rfl Try.isAgg54 Try.sizeOf54 (hb5) rfl ?_
 refine res_nil ?_
 exact ⟨rfl, hF1.frm.own hf5 (fun x hx => by simp at hx; omega)⟩
end Go.Proofs.Ytnmieihcjjiccaa
namespace Go.Proofs.Ytnmieihcjjiccaa
open Go.RowKit
theorem fixed_at : ∀ i, i < 288 → fixedL.getD i 0 = if 144 ≤ i ∧ i < 256 then 9 else if 256 ≤ i ∧ i < 280 then 7 else 8 := by decide +kernel
theorem fixed_take (i : Nat) (h : i < 288) : fixedL.take (i + 1) = fixedL.take i ++ [if 144 ≤ i ∧ i < 256 then 9 else if 256 ≤ i ∧ i < 280 then 7 else 8] := by
 have hl : i < fixedL.length := by rw [show fixedL.length = 288 by decide +kernel]; exact h
 rw [List.take_add_one, List.getElem?_eq_getElem hl, ← fixed_at i h]
 simp [List.getD, List.getElem?_eq_getElem hl]
theorem fixedW_take (i : Nat) (h : i < 32) : fixedW.take (i + 1) = fixedW.take i ++ [5] := by
 have : ∀ i, i < 32 → fixedW.take (i + 1) = fixedW.take i ++ [5] := by decide +kernel
 exact this i h
theorem fixed_good : newE fixedL = 0 ∧ newE fixedW = 0 ∧ mostC fixedL = 15 ∧ mostC fixedW = 15 := by decide +kernel
theorem IB_snoc (l : List Int) (x : Int) : IB (l ++ [x]) = IB l ++ [.int .i64 x] := by simp [IB]
theorem NB_app (a b : List Nat) : NB (a ++ b) = NB a ++ NB b := by simp [NB]
theorem IsX.app {w w1 w2 : World} {gx gr : Nat} {Ar A A' : Option Addr} {bs : List Nat} {p c c' m : Nat} {out news : List Nat} {most : Nat} (h : IsX w gx gr Ar bs p A c out most) (ho : Own w1 5 1 A' (out.length + m) c' (NB out ++ NB news)) (hf1 : Frm (ob A) w w1) (hob : ob A' = ob A ∨ ob A' = [w.heap.size])
  (hb : Blk w2 gx 132 #[.pointer (some ⟨gr, 0, none⟩), .slice A' (out.length + m) c', .int .i64 ((most : Nat) : Int)]) (hf2 : Frm [gx] w1 w2) (hm : news.length = m) (hle : out.length + m ≤ most) (hlt : ∀ x ∈ news, x < 256) :
  IsX w2 gx gr Ar bs p A' c' (out ++ news) most ∧ Frm (gx :: ob A) w w2 ∧ ∀ x ∈ ob A', x ∈ ob A ∨ w.heap.size ≤ x := by
 have hl : (out ++ news).length = out.length + m := by rw [List.length_append, hm]
 have hu : ∀ x ∈ ob A', x ∈ ob A ∨ w.heap.size ≤ x := fun x hx => by
  rcases hob with h5 | h5 <;> rw [h5] at hx
  ·
   exact .inl hx
  ·
   simp at hx; exact .inr (by omega)
 have hlw := h.lt
 have hfr : Frm (gx :: ob A) w w2 := (hf1.mono (T := gx :: ob A) (fun x hx => .inl (by simp [hx]))).trans hf2 (fun x hx => .inl (by simp at hx; simp [hx]))
 refine ⟨⟨by rw [hl]; exact hb, ?_, ?_, ?_, h.2.2.2.2.1, by rw [hl]; exact hle, fun x hx => ?_⟩, hfr, hu⟩
 ·
  refine h.2.1.frm hfr (fun x hx h5 => ?_)
  rcases List.mem_cons.1 hx with rfl | hx
  ·
   rcases List.mem_cons.1 h5 with h6 | h6
   ·
    exact h.gxr h6.symm
   ·
    exact h.grA h6
  ·
   rcases List.mem_cons.1 h5 with h6 | h6
   ·
    subst h6; exact h.gxAr hx
   ·
    exact h.2.2.2.1 x h6 hx
 ·
  rw [hl, NB_app]
  refine ho.frm hf2 (fun x hx h5 => ?_)
  simp at h5
  subst h5
  rcases hu x hx with h6 | h6
  ·
   exact h.gxA h6
  ·
   omega
 ·
  intro x hx h5
  rcases hu x hx with h6 | h6
  ·
   exact h.2.2.2.1 x h6 h5
  ·
   have := hlw.2.2.2 x h5; omega
 ·
  rcases List.mem_append.1 hx with h5 | h5
  ·
   exact h.2.2.2.2.2.2 x h5
  ·
   exact hlt x h5
set_option maxRecDepth 100000 in
theorem ifixed_spec (w : World) : Calls Try.prog 20 #[] w fun e w' => ∃ A c B d, e = .returned (.tuple #[.slice A 288 c, .slice B 32 d]) ∧ Own w' 3 1 A 288 c (IB fixedL) ∧ Own w' 3 1 B 32 d (IB fixedW) ∧ Frm [] w w' := by
 refine VC.calls (nt := 36) (res := #[.tmp 0, .tmp 1]) Try.func20 rfl Try.ntmps20 Try.results20 rfl ?_
 refine jS (jR (jA ?_))
 refine jA ?_
 refine jO (jN ?_)
 refine VC.sub [] .nil ?_
 refine jS (jR (jA ?_))
 refine jA ?_
 refine jO (jN (jS (jS (jR ?_))))
 refine Ops.r (v := .int .i64 ((0 : Nat) : Int)) (Run.mv rfl) rfl ?_
 refine jO (jN (jB ?_))
 refine VC.loop (σ := Nat × Option Addr × Nat) (fun s => [(2, .slice s.2.1 s.1 s.2.2), (3, .slice none 0 0), (6, .int .i64 ((s.1 : Nat) : Int))]) (fun s wr => s.1 ≤ 288 ∧ Own wr 3 1 s.2.1 s.1 s.2.2 (IB (fixedL.take s.1)) ∧ Frm [] w wr ∧ ∀ x ∈ ob s.2.1, w.heap.size ≤ x) (fun s => 288 - s.1) (0, none, 0) (js3 rfl rfl rfl) ⟨by omega, Own.nil _ _ _, Frm.refl _ _, up_nil⟩ ?_
 rintro ⟨i, A, c⟩ wr ⟨hi, hor, hfr, hu⟩
 dsimp only at hi hor hfr hu ⊢
 refine jS (jR ?_)
 refine Ops.r (Run.bin rfl rfl (Bin.lssN _ 288)) rfl ?_
 refine jO (jN (jS ?_))
 refine VC.condD rfl (fun hc1 => ?_) (fun hc1 => ?_)
 ·
  refine jQ (jN (jv3 2 3 6 ?_))
  refine jS (jB (jS (jR (jM ?_))))
  refine jA ?_
  refine jO (jN (jv4 2 3 4 6 ?_))
  refine jS (jR ?_)
  refine Ops.r (v := .int .i64 ((8 : Nat) : Int)) (Run.asg rfl) rfl ?_
  refine jO (jN (jS (jB (jS ?_))))
  refine VC.split1 [(2, _), (3, _), (4, _), (5, _), (6, _)] (js5 rfl rfl rfl rfl rfl) 9 (.bool (decide ((144 ≤ i) ∧ (i < 256)))) ?_ ?_
  ·
   by_cases hs0 : 144 ≤ i
   ·
    refine jR (jM ?_)
    refine Ops.r (Run.bin rfl rfl (Bin.geqN _ 144)) rfl ?_
    refine jM ?_
    refine jG ?_
    refine Ops.rg rfl au (Run.bin rfl rfl (Bin.lssN _ 256)) rfl ?_
    refine Ops.r (Run.pickT rfl rfl au) rfl ?_
    refine jA ?_
    refine jO ?_
    refine jN ⟨(js6 (by rw [dand1 hs0]; rfl) rfl rfl rfl rfl rfl), rfl⟩
   ·
    refine jR (jM ?_)
    refine Ops.r (Run.bin rfl rfl (Bin.geqN _ 144)) rfl ?_
    refine jM ?_
    refine jU ?_
    refine jU ?_
    refine Ops.r (Run.pickF rfl rfl au) rfl ?_
    refine jA ?_
    refine jO ?_
    refine jN ⟨(js6 (by rw [dand0 hs0]; rfl) rfl rfl rfl rfl rfl), rfl⟩
  ·
   intro Γ hΓ
   refine jN (VC.sub _ hΓ ?_)
   refine VC.condD rfl (fun hc2 => ?_) (fun hc2 => ?_)
   ·
    refine jR ?_
    refine Ops.r (v := .int .i64 ((9 : Nat) : Int)) (Run.asg rfl) rfl ?_
    refine jO ?_
    refine blockQ_n (jN ?_)
    refine jv4 2 3 5 6 ?_
    refine jR (jM ?_)
    refine jM ?_
    refine Ops.m (Does.buildS1 rfl Try.underlying38 Try.sizeOf3 zero3 (by decide) (by decide) rfl rfl) rfl ?_
    rintro _ w3 ⟨rfl, hF3⟩
    have hrd3 : Rd w3 1 (some ⟨_, 0, none⟩) 1 [.int .i64 9] := Rd.of_blk (n := 1) (size := 1) hF3.blk rfl
    refine Ops.m (Does.app rfl rfl Try.underlying38 (info3) rfl (by decide) (hor.frm hF3.frm (by simp)) hrd3 (by simp [Value.oneCell']) (by omega) (by omega)) rfl ?_
    rintro _ w4 ⟨B4, c4, rfl, ho4, hf4, hob4⟩
    have hsz := (hfr.own hF3.frm (by simp)).size
    have hfr4 : Frm [] w w4 := (hfr.own hF3.frm (by simp)).own hf4 hu
    refine jA ?_
    refine jO ?_
    refine blockQ_n (jN ?_)
    refine jv3 2 3 6 ?_
    refine jR ?_
    refine Ops.r (Run.bin rfl rfl (Bin.add_i64 _ 1 (by omega))) rfl ?_
    refine jM ?_
    refine jO ?_
    refine jN ⟨(i + 1, B4, c4), (js3 rfl rfl rfl), ?_, ?_⟩
    ·
     refine ⟨by dsimp only; omega, ?_, hfr4, up_app hu hob4 hsz⟩
     dsimp only
     rw [fixed_take i hc1, if_pos hc2, IB_snoc]
     exact ho4
    ·
     first | omega | (dsimp only; omega)
   ·
    refine jS ?_
    refine VC.split1 [(2, _), (3, _), (5, _), (6, _)] (js4 rfl rfl rfl rfl) 16 (.bool (decide ((256 ≤ i) ∧ (i < 280)))) ?_ ?_
    ·
     by_cases hs0 : 256 ≤ i
     ·
      refine jR (jM ?_)
      refine Ops.r (Run.bin rfl rfl (Bin.geqN _ 256)) rfl ?_
      refine jM ?_
      refine jG ?_
      refine Ops.rg rfl au (Run.bin rfl rfl (Bin.lssN _ 280)) rfl ?_
      refine Ops.r (Run.pickT rfl rfl au) rfl ?_
      refine jA ?_
      refine jO ?_
      refine jN ⟨(js5 (by rw [dand1 hs0]; rfl) rfl rfl rfl rfl), rfl⟩
     ·
      refine jR (jM ?_)
      refine Ops.r (Run.bin rfl rfl (Bin.geqN _ 256)) rfl ?_
      refine jM ?_
      refine jU ?_
      refine jU ?_
      refine Ops.r (Run.pickF rfl rfl au) rfl ?_
      refine jA ?_
      refine jO ?_
      refine jN ⟨(js5 (by rw [dand0 hs0]; rfl) rfl rfl rfl rfl), rfl⟩
    ·
     intro Γ hΓ
     refine jN (VC.sub _ hΓ ?_)
     refine VC.condD rfl (fun hc3 => ?_) (fun hc3 => ?_)
     ·
      refine jR ?_
      refine Ops.r (v := .int .i64 ((7 : Nat) : Int)) (Run.asg rfl) rfl ?_
      refine jO ?_
      refine blockQ_n (jN ?_)
      refine jv4 2 3 5 6 ?_
      refine jR (jM ?_)
      refine jM ?_
      refine Ops.m (Does.buildS1 rfl Try.underlying38 Try.sizeOf3 zero3 (by decide) (by decide) rfl rfl) rfl ?_
      rintro _ w3 ⟨rfl, hF3⟩
      have hrd3 : Rd w3 1 (some ⟨_, 0, none⟩) 1 [.int .i64 7] := Rd.of_blk (n := 1) (size := 1) hF3.blk rfl
      refine Ops.m (Does.app rfl rfl Try.underlying38 (info3) rfl (by decide) (hor.frm hF3.frm (by simp)) hrd3 (by simp [Value.oneCell']) (by omega) (by omega)) rfl ?_
      rintro _ w4 ⟨B4, c4, rfl, ho4, hf4, hob4⟩
      have hsz := (hfr.own hF3.frm (by simp)).size
      have hfr4 : Frm [] w w4 := (hfr.own hF3.frm (by simp)).own hf4 hu
      refine jA ?_
      refine jO ?_
      refine blockQ_n (jN ?_)
      refine jv3 2 3 6 ?_
      refine jR ?_
      refine Ops.r (Run.bin rfl rfl (Bin.add_i64 _ 1 (by omega))) rfl ?_
      refine jM ?_
      refine jO ?_
      refine jN ⟨(i + 1, B4, c4), (js3 rfl rfl rfl), ?_, ?_⟩
      ·
       refine ⟨by dsimp only; omega, ?_, hfr4, up_app hu hob4 hsz⟩
       dsimp only
       rw [fixed_take i hc1, if_neg hc2, if_pos hc3, IB_snoc]
       exact ho4
      ·
       first | omega | (dsimp only; omega)
     ·
      refine jQ ?_
      refine blockQ_n (jN ?_)
      refine jv4 2 3 5 6 ?_
      refine jR (jM ?_)
      refine jM ?_
      refine Ops.m (Does.buildS1 rfl Try.underlying38 Try.sizeOf3 zero3 (by decide) (by decide) rfl rfl) rfl ?_
      rintro _ w3 ⟨rfl, hF3⟩
      have hrd3 : Rd w3 1 (some ⟨_, 0, none⟩) 1 [.int .i64 8] := Rd.of_blk (n := 1) (size := 1) hF3.blk rfl
      refine Ops.m (Does.app rfl rfl Try.underlying38 (info3) rfl (by decide) (hor.frm hF3.frm (by simp)) hrd3 (by simp [Value.oneCell']) (by omega) (by omega)) rfl ?_
      rintro _ w4 ⟨B4, c4, rfl, ho4, hf4, hob4⟩
      have hsz := (hfr.own hF3.frm (by simp)).size
      have hfr4 : Frm [] w w4 := (hfr.own hF3.frm (by simp)).own hf4 hu
      refine jA ?_
      refine jO ?_
      refine blockQ_n (jN ?_)
      refine jv3 2 3 6 ?_
      refine jR ?_
      refine Ops.r (Run.bin rfl rfl (Bin.add_i64 _ 1 (by omega))) rfl ?_
      refine jM ?_
      refine jO ?_
      refine jN ⟨(i + 1, B4, c4), (js3 rfl rfl rfl), ?_, ?_⟩
      ·
       refine ⟨by dsimp only; omega, ?_, hfr4, up_app hu hob4 hsz⟩
       dsimp only
       rw [fixed_take i hc1, if_neg hc2, if_neg hc3, IB_snoc]
       exact ho4
      ·
       first | omega | (dsimp only; omega)
 ·
  have hin : i = 288 := by omega
  subst hin
  have hb : Own wr 3 1 none 0 0 (IB (fixedW.take 0)) := Own.nil _ _ _
  rw [show fixedL.take 288 = fixedL from rfl] at hor
  refine jX ?_
  refine thenQ_x (thenQ_x (blockQ_x ?_))
  refine jN (jv2 2 3 ?_)
  refine jS (jS (jR ?_))
  refine Ops.r (v := .int .i64 ((0 : Nat) : Int)) (Run.mv rfl) rfl ?_
  refine jO (jN (jB ?_))
  refine VC.loop (σ := Nat × Option Addr × Nat) (fun s => [(2, .slice A 288 c), (3, .slice s.2.1 s.1 s.2.2), (28, .int .i64 ((s.1 : Nat) : Int))]) (fun s wr => s.1 ≤ 32 ∧ Own wr 3 1 A 288 c (IB fixedL) ∧ Own wr 3 1 s.2.1 s.1 s.2.2 (IB (fixedW.take s.1)) ∧ Frm [] w wr ∧ (∀ x ∈ ob s.2.1, w.heap.size ≤ x) ∧ ∀ x ∈ ob s.2.1, x ∉ ob A) (fun s => 32 - s.1) (0, none, 0) (js3 rfl rfl rfl) ⟨by omega, hor, hb, hfr, up_nil, by simp [ob]⟩ ?_
  rintro ⟨i, B, d⟩ wr2 ⟨hi, hoa, hor, hfr, hu, hne⟩
  dsimp only at hi hoa hor hfr hu hne ⊢
  have hltA := hoa.lt
  refine jS (jR ?_)
  refine Ops.r (Run.bin rfl rfl (Bin.lssN _ 32)) rfl ?_
  refine jO (jN (jS ?_))
  refine VC.condD rfl (fun hc4 => ?_) (fun hc4 => ?_)
  ·
   refine jQ (jN (jv3 2 3 28 ?_))
   refine jS (jB (jR (jM ?_)))
   refine Ops.m (Does.buildS1 rfl Try.underlying38 Try.sizeOf3 zero3 (by decide) (by decide) rfl rfl) rfl ?_
   rintro _ w3 ⟨rfl, hF3⟩
   have hrd3 : Rd w3 1 (some ⟨_, 0, none⟩) 1 [.int .i64 5] := Rd.of_blk (n := 1) (size := 1) hF3.blk rfl
   refine Ops.m (Does.app rfl rfl Try.underlying38 (info3) rfl (by decide) (hor.frm hF3.frm (by simp)) hrd3 (by simp [Value.oneCell']) (by omega) (by omega)) rfl ?_
   rintro _ w4 ⟨B4, c4, rfl, ho4, hf4, hob4⟩
   have hsz := (hfr.own hF3.frm (by simp)).size
   have hfr4 : Frm [] w w4 := (hfr.own hF3.frm (by simp)).own hf4 hu
   refine jA ?_
   refine jO ?_
   refine blockQ_n (jN ?_)
   refine jv3 2 3 28 ?_
   refine jR ?_
   refine Ops.r (Run.bin rfl rfl (Bin.add_i64 _ 1 (by omega))) rfl ?_
   refine jM ?_
   refine jO ?_
   refine jN ⟨(i + 1, B4, c4), (js3 rfl rfl rfl), ?_, ?_⟩
   ·
    have hs3 := hF3.frm.size
    refine ⟨by dsimp only; omega, (hoa.frm hF3.frm (by simp)).frm hf4 (fun x hx h5 => hne x h5 hx), ?_, hfr4, up_app hu hob4 hsz, fun x hx h5 => ?_⟩
    ·
     dsimp only
     rw [fixedW_take i (by omega), IB_snoc]
     exact ho4
    ·
     rcases hob4 with h6 | h6 <;> rw [h6] at hx
     ·
      exact hne x hx h5
     ·
      simp at hx
      have := hltA x h5
      omega
   ·
    first | omega | (dsimp only; omega)
  ·
   have hin : i = 32 := by omega
   subst hin
   rw [show fixedW.take 32 = fixedW from rfl] at hor
   refine jX ?_
   refine thenQ_x (thenQ_x (blockQ_x ?_))
   refine jN (jv2 2 3 ?_)
   refine jS (jR (jM ?_))
   refine jM ?_
   refine jA ?_
   refine jA ?_
   refine jO (jN (jv2 0 1 ?_))
   refine jT ?_
   refine end2 rfl rfl ?_
   exact ⟨A, c, B, d, rfl, hoa, hor, hfr⟩
set_option maxRecDepth 100000 in
theorem istored_spec (gx gr p : Nat) (Ar A : Option Addr) (bs : List Nat) (c : Nat) (out : List Nat) (most : Nat) (w : World) (hmo : most ≤ 1000000) (hbs : bs.length ≤ 1000000) (hB : ∀ b ∈ bs, b < 256) (hX : IsX w gx gr Ar bs p A c out most) :
  Calls Try.prog 93 #[.pointer (some ⟨gx, 0, none⟩)] w fun e w' => Frm (gx :: gr :: ob A) w w' ∧ match storedF bs most p out with
   | .error k => e = .panicked (Pan k)
   | .ok x => ∃ A' c', e = .returned (.tuple #[]) ∧ IsX w' gx gr Ar bs x.1 A' c' x.2 most ∧ ∀ y ∈ ob A', y ∈ ob A ∨ w.heap.size ≤ y := by
 generalize hF : storedF bs most p out = F
 unfold storedF at hF
 have hp := hX.2.2.2.2.1
 have hom := hX.2.2.2.2.2.1
 refine VC.calls (nt := 53) (res := #[]) Try.func93 rfl Try.ntmps93 Try.results93 rfl ?_
 refine jS (jR (jM ?_))
 refine Ops.r (Run.nilck rfl) rfl ?_
 refine Ops.r (Run.fieldAddr rfl Try.underlying132 rfl Try.sizeOf129 (by decide)) rfl ?_
 refine Ops.r (Run.load rfl Try.isAgg129 (hX.1.cell 0)) rfl ?_
 refine Ops.cl (Enters.fn (evs.cons rfl evs.nil) Try.call103) (align_spec gr p Ar bs _ hp (by omega) hX.2.1) rfl ?_
 rintro e w1 ⟨rfl, hR1, hf1⟩
 refine ⟨_, rfl, ?_⟩
 have hX1 := hX.turn hR1 hf1 (by omega)
 refine jO (jN (jv1 0 ?_))
 refine jS (jR (jM ?_))
 refine Ops.clp (Enters.fn (evs.cons rfl (evs.cons rfl evs.nil)) Try.call91) (itake_spec gx gr 16 ((p + 7) / 8 * 8) Ar A bs c out most _ (by omega) hbs hB hX1) rfl ?_
 rintro e w2 ⟨hf2, he⟩
 have hfr2 := hf1.trans hf2 (fun x hx => .inl hx)
 rcases hT2 : takeF (ofB bs) 16 ((p + 7) / 8 * 8) with kk | ⟨v2, p2⟩
 ·
  rw [hT2] at he
  simp only [hT2, bnd_e] at hF
  subst hF
  exact .inr ⟨_, he, thenQ_p (endQ_p ⟨hfr2.mono (by simp), rfl⟩)⟩
 rw [hT2] at he
 simp only [hT2, bnd_k] at hF
 obtain ⟨rfl, hX2⟩ := he
 obtain ⟨hp2, hpl2, hv2, _⟩ := takeF_ok hT2
 refine .inl ⟨_, rfl, ?_⟩
 refine jM ?_
 refine Ops.clp (Enters.fn (evs.cons rfl (evs.cons rfl evs.nil)) Try.call91) (itake_spec gx gr 16 p2 Ar A bs c out most _ (by omega) hbs hB hX2) rfl ?_
 rintro e w3 ⟨hf3, he⟩
 have hfr3 := hfr2.trans hf3 (fun x hx => .inl hx)
 rcases hT3 : takeF (ofB bs) 16 p2 with kk | ⟨v3, p3⟩
 ·
  rw [hT3] at he
  simp only [hT3, bnd_e] at hF
  subst hF
  exact .inr ⟨_, he, thenQ_p (endQ_p ⟨hfr3.mono (by simp), rfl⟩)⟩
 rw [hT3] at he
 simp only [hT3, bnd_k] at hF
 obtain ⟨rfl, hX3⟩ := he
 obtain ⟨hp3, hpl3, hv3, _⟩ := takeF_ok hT3
 refine .inl ⟨_, rfl, ?_⟩
 rw [ofB_len] at hpl2 hpl3
 refine jA ?_
 refine jA ?_
 refine jO (jN (jv3 0 2 3 ?_))
 refine jS (jR (jM ?_))
 refine jM ?_
 refine Ops.r (Run.bin rfl rfl (Bin.xor_i64 _ _ (by omega) (by omega))) rfl ?_
 refine Ops.r (Run.bin rfl rfl (Bin.eqlN _ 65535)) rfl ?_
 refine Ops.clp (Enters.fn (evs.cons rfl (evs.cons rfl evs.nil)) Try.call92) (need_spec (decide (v2 ^^^ v3 = 65535)) 3 _) rfl ?_
 rintro e _ ⟨rfl, rfl⟩
 by_cases hN1 : v2 ^^^ v3 = 65535
 rotate_left
 ·
  refine .inr ⟨_, by rw [if_neg (by simpa using hN1)], thenQ_p (endQ_p ?_)⟩
  rw [if_pos hN1] at hF
  subst hF
  exact ⟨hfr3.mono (by simp), rfl⟩
 refine .inl ⟨_, by rw [if_pos (by simpa using hN1)], ?_⟩
 refine jO (jN (jv2 0 2 ?_))
 refine jS (jR (jM ?_))
 refine Ops.r (Run.nilck rfl) rfl ?_
 refine Ops.r (Run.fieldAddr rfl Try.underlying132 rfl Try.sizeOf129 (by decide)) rfl ?_
 refine Ops.r (Run.load rfl Try.isAgg129 (hX3.1.cell 0)) rfl ?_
 refine jM ?_
 refine Ops.cl (Enters.fn (evs.cons rfl (evs.cons rfl evs.nil)) Try.call104) (octets_any gr p3 v2 Ar bs _ (by omega) (by omega) hX3.2.1) rfl ?_
 rintro e w4 ⟨B4, nl, c4, k, p4, rfl, hO, hp4, hR4, hf4⟩
 refine ⟨_, rfl, ?_⟩
 have hX4 := hX3.turn hR4 hf4 hp4
 have hfr4 := hfr3.trans hf4 (fun x hx => .inl hx)
 rw [if_neg (by simpa using hN1)] at hF
 have hO2 : (k = 2 ∧ (8 * bs.length - p3) / 8 < v2) ∨ (k = 0 ∧ nl = v2 ∧ ¬ (8 * bs.length - p3) / 8 < v2 ∧ p4 = p3 + 8 * v2 ∧ Own w4 5 1 B4 v2 c4 (NB ((bs.drop (p3 / 8)).take v2))) := by
  have h8 : (p3 + 7) / 8 * 8 = p3 := by omega
  have h9 : (p3 + 7) / 8 = p3 / 8 := by omega
  rcases hO with ⟨h, _⟩ | ⟨m, hm, h⟩
  ·
   omega
  ·
   obtain rfl : v2 = m := by omega
   rw [h8, h9] at h
   rcases h with ⟨h1, _, h2, _⟩ | ⟨h1, h2, h3, h4, h5⟩
   ·
    exact .inl ⟨h2, h1⟩
   ·
    exact .inr ⟨h3, h2, by omega, h4, h5⟩
 refine jM ?_
 refine Ops.r (Run.extract rfl rfl) rfl ?_
 refine Ops.r (Run.extract rfl rfl) rfl ?_
 refine jA ?_
 refine jA ?_
 refine jO (jN (jv4 0 2 4 5 ?_))
 refine jS (jR (jM ?_))
 refine Ops.clp (Enters.fn (evs.cons rfl evs.nil) Try.call102) (must_spec k _) rfl ?_
 rintro e _ ⟨rfl, rfl⟩
 rcases hO2 with ⟨rfl, hO3⟩ | ⟨rfl, hnl, hO3, rfl, ho4⟩
 ·
  refine .inr ⟨_, by rw [if_neg (by decide)], thenQ_p (endQ_p ?_)⟩
  rw [if_pos hO3] at hF
  subst hF
  exact ⟨hfr4.mono (by simp), rfl⟩
 obtain rfl : v2 = nl := hnl.symm
 refine .inl ⟨_, by rw [if_pos rfl], ?_⟩
 rw [if_neg hO3] at hF
 have hd5 := Drawn.drew w4
 have hXd := hX4.frm0 hd5.frm
 have hlb : ((bs.drop (p3 / 8)).take v2).length = v2 := by rw [List.length_take, List.length_drop]; omega
 refine jO (jN (jv3 0 2 4 ?_))
 refine jS ?_
 refine VC.tail 12 jK jK ?_
 simp only [List.take_succ_cons, List.take_zero, List.drop_succ_cons, List.drop_zero]
 refine SOps.r (Run.mv rfl) rfl ?_
 refine SOps.r (Run.mv rfl) rfl ?_
 refine SOps.r (Run.nilck rfl) rfl ?_
 refine SOps.r (Run.fieldAddr rfl Try.underlying132 rfl Try.sizeOf3 (by decide)) rfl ?_
 refine SOps.r (Run.load rfl Try.isAgg3 (hXd.1.cell 2)) rfl ?_
 refine SOps.r (Run.mv rfl) rfl ?_
 refine SOps.r (Run.nilck rfl) rfl ?_
 refine SOps.r (Run.fieldAddr rfl Try.underlying132 rfl Try.sizeOf22 (by decide)) rfl ?_
 refine SOps.r (Run.load rfl Try.isAgg22 (hXd.1.cell 1)) rfl ?_
 refine SOps.r (Run.lenS rfl Try.underlying22) rfl ?_
 refine SOps.r (Run.bin rfl rfl (Bin.sub_i64 _ _ (by omega) (by omega))) rfl ?_
 refine SOps.r (Run.bin rfl rfl (Bin.leqN _ _)) rfl ?_
 refine SOps.nil ?_
 refine Ops.clp (Enters.fn (evs.cons rfl (evs.cons rfl evs.nil)) Try.call92) (need_spec (decide (v2 ≤ most - out.length)) 13 _) rfl ?_
 rintro e _ ⟨rfl, rfl⟩
 by_cases hN2 : v2 ≤ most - out.length
 rotate_left
 ·
  refine .inr ⟨_, by rw [if_neg (by simpa using hN2)], thenQ_p (endQ_p ?_)⟩
  rw [if_pos (by omega)] at hF
  subst hF
  exact ⟨(hfr4.drawn hd5).mono (by simp), rfl⟩
 refine .inl ⟨_, by rw [if_pos (by simpa using hN2)], ?_⟩
 rw [if_neg (by omega)] at hF
 refine jO (jN (jv2 0 4 ?_))
 refine jR (jM ?_)
 refine jM ?_
 refine Ops.r (Run.nilck rfl) rfl ?_
 refine Ops.r (Run.fieldAddr rfl Try.underlying132 rfl Try.sizeOf22 (by decide)) rfl ?_
 refine Ops.r (Run.load rfl Try.isAgg22 (hXd.1.cell 1)) rfl ?_
 refine jM ?_
 refine Ops.m (Does.app rfl rfl Try.underlying22 (info5) rfl (by decide) hXd.2.2.1 (ho4.drawn hd5).rd (NB_one _) (by omega) (by omega)) rfl ?_
 rintro _ w6 ⟨B6, c6, rfl, ho6, hf6, hob6⟩
 have hb6 := hXd.1.frm hf6 hXd.gxA
 refine Ops.r (Run.nilck rfl) rfl ?_
 refine Ops.r (Run.fieldAddr rfl Try.underlying132 rfl Try.sizeOf22 (by decide)) rfl ?_
 refine Ops.st (Acts.store (i := 1) rfl rfl Try.sizeOf22 hb6 rfl rfl) ?_
 rintro w7 ⟨hb7, hf7, hs7⟩
 obtain ⟨hX7, hf67, hu7⟩ := hXd.app ho6 hf6 hob6 hb7 hf7 hlb (by omega) (fun x hx => hB x (List.mem_of_mem_drop (List.mem_of_mem_take hx)))
 have hsz4 := hfr4.size
 have hfr7 : Frm (gx :: gr :: ob A) w w7 := ((hfr4.drawn hd5).mono (T := gx :: gr :: ob A) (by simp)).trans hf67 (fun x hx => .inl (by rcases List.mem_cons.1 hx with rfl | hx <;> simp_all))
 refine jO ?_
 refine end0n ?_
 subst hF
 refine ⟨hfr7, B6, c6, rfl, hX7, fun y hy => (hu7 y hy).imp id (fun h => Nat.le_trans hsz4 h)⟩
end Go.Proofs.Ytnmieihcjjiccaa
namespace Go.Proofs.Ytnmieihcjjiccaa
open Go.RowKit
theorem cutA_0 (A : Option Addr) (c sz : Nat) : cutA A c 0 sz = A := by
 unfold cutA
 split
 ·
  rfl
 ·
  cases A with
  | none => rfl
  | some a => simp [Addr.add]
set_option maxRecDepth 100000 in
theorem imore_spec (gx gr p gd : Nat) (Ar A Bd : Option Addr) (cd : Nat) (l : List Int) (bs : List Nat) (c : Nat) (out : List Nat) (most : Nat) (Al : Option Addr) (cl : Nat) (all : List Int) (M : Nat) (w : World) (hl : l.length ≤ 320) (hm : mostC l ≤ 15) (hbs : bs.length ≤ 1000000) (hB : ∀ b ∈ bs, b < 256) (hM : M ≤ 1000) (hal : all.length ≤ M) (hX : IsX w gx gr Ar bs p A c out most)
  (hD : IsD w gd Bd cd (cn l) (fst' l) (order l) (mostC l)) (hO : Own w 3 1 Al all.length cl (IB all)) :
  Calls Try.prog 108 #[.pointer (some ⟨gx, 0, none⟩), .pointer (some ⟨gd, 0, none⟩), .slice Al all.length cl, .int .i64 ((M : Nat) : Int)] w fun e w' => Frm (gr :: ob Al) w w' ∧ match moreF (ofB bs) l p all M with
   | .error k => e = .panicked (Pan k)
   | .ok x => ∃ A' c', e = .returned (.slice A' x.2.length c') ∧ IsX w' gx gr Ar bs x.1 A c out most ∧ Own w' 3 1 A' x.2.length c' (IB x.2) ∧ ∀ y ∈ ob A', y ∈ ob Al ∨ w.heap.size ≤ y := by
 generalize hF : moreF (ofB bs) l p all M = F
 unfold moreF at hF
 have hgrl : gr ∉ ob Al := hO.ne_blk hX.2.1.choose_spec.1 (by decide)
 have hgxl : gx ∉ ob Al := hO.ne_blk hX.1 (by decide)
 have hlA : ∀ x ∈ ob A, x ∉ ob Al := hX.2.2.1.ne_own hO (by decide)
 have hlAr : ∀ x ∈ ob Ar, x ∉ ob Al := hX.2.1.choose_spec.2.ne_own hO (by decide)
 have hS0 : ∀ x ∈ gx :: gr :: (ob A ++ ob Ar), x ∉ ob Al := fun x hx => by
  rcases List.mem_cons.1 hx with rfl | hx
  ·
   exact hgxl
  rcases List.mem_cons.1 hx with rfl | hx
  ·
   exact hgrl
  rcases List.mem_append.1 hx with hx | hx
  ·
   exact hlA x hx
  ·
   exact hlAr x hx
 refine VC.calls (nt := 58) (res := #[.tmp 8]) Try.func108 rfl Try.ntmps108 Try.results108 rfl ?_
 refine jS (jR (jA ?_))
 refine jO (jN (jv4 0 1 2 3 ?_))
 refine jS (jR (jM ?_))
 refine jM ?_
 refine Ops.clp (Enters.fn (evs.cons rfl (evs.cons rfl evs.nil)) Try.call111) (isym_spec gx gr p gd Ar A _ _ l bs c out most _ hl hm hbs hB hX hD) rfl ?_
 rintro e w1 ⟨hf1, he⟩
 have hfr1 := hf1
 rcases hT1 : symF (ofB bs) l p with kk | ⟨v1, p1⟩
 ·
  rw [hT1] at he
  simp only [hT1, bnd_e] at hF
  subst hF
  exact .inr ⟨_, he, thenQ_p (endQ_p ⟨hfr1.mono (by simp), rfl⟩)⟩
 rw [hT1] at he
 simp only [hT1, bnd_k] at hF
 obtain ⟨rfl, hX1⟩ := he
 obtain ⟨hp1, hpl1, hv1⟩ := symF_ok hm (by rw [ofB_len]; exact hX.2.2.2.2.1) hT1
 refine .inl ⟨_, rfl, ?_⟩
 have hO1 := hO.frm hf1 (fun x hx h5 => hgrl (by simp at h5; subst h5; exact hx))
 rw [ofB_len] at hpl1
 refine jA ?_
 refine jO (jN (jv4 0 2 3 9 ?_))
 refine jS (jR (jM ?_))
 refine jA ?_
 refine Ops.r (v := .int .i64 ((1 : Nat) : Int)) (Run.asg rfl) rfl ?_
 refine jO (jN (jv6 0 2 3 9 10 11 ?_))
 refine jS (jS (jR (jM ?_)))
 refine jO (jN (jv6 0 2 3 10 11 16 ?_))
 refine jB (jS (jR ?_))
 refine Ops.r (Run.bin rfl rfl (Bin.eqlN _ 16)) rfl ?_
 refine jA ?_
 refine jO (jN (jv7 0 2 3 10 11 16 17 ?_))
 refine VC.meet (σ := Nat × Int × Nat) (fun s => [(2, .slice Al all.length cl), (3, .int .i64 ((M : Nat) : Int)), (10, .int .i64 s.2.1), (11, .int .i64 ((s.2.2 : Nat) : Int))]) (fun s wr => IsX wr gx gr Ar bs s.1 A c out most ∧ Frm [gr] w wr ∧ (if M < all.length + s.2.2 then .error 11 else .ok (s.1, all ++ List.replicate s.2.2 s.2.1)) = F ∧ s.2.2 ≤ 200) ?_ ?_
 ·
  refine VC.condD rfl (fun hc1 => ?_) (fun hc1 => ?_)
  ·
   rw [if_pos hc1] at hF
   refine jS (jR (jM ?_))
   refine Ops.r (Run.lenS rfl Try.underlying38) rfl ?_
   refine Ops.r (Run.bin rfl rfl (Bin.gtrN _ 0)) rfl ?_
   refine Ops.clp (Enters.fn (evs.cons rfl (evs.cons rfl evs.nil)) Try.call92) (need_spec (decide (0 < all.length)) 11 _) rfl ?_
   rintro e _ ⟨rfl, rfl⟩
   by_cases hN1 : 0 < all.length
   rotate_left
   ·
    refine .inr ⟨_, by rw [if_neg (by simpa using hN1)], thenQ_p (thenQ_p (blockQ_p (thenQ_p (endQ_p ?_))))⟩
    rw [if_pos (by omega), bnd_e] at hF
    subst hF
    exact ⟨hfr1.mono (by simp), rfl⟩
   refine .inl ⟨_, by rw [if_pos (by simpa using hN1)], ?_⟩
   rw [if_neg (by omega)] at hF
   have hal2 : all.length - 1 < all.length := by omega
   obtain ⟨adl, rfl, hcl⟩ := IB_at hO1.rd hal2
   have hgetD : all.getD (all.length - 1) 0 = all[all.length - 1] := by simp [List.getD, List.getElem?_eq_getElem hal2]
   rw [hgetD] at hF
   generalize all[all.length - 1] = xl at *
   have hgla : adl.block ≠ gr := fun h => hgrl (by simp [ob, h])
   refine jO (jN (jv3 0 2 3 ?_))
   refine VC.held (fun v => v.cell? (adl.add (all.length - 1)) = some (.int .i64 xl)) jK ?_
   have hd1 := Drawn.drew w1
   have hX1d := hX1.frm0 hd1.frm
   have hfr1d := hfr1.drawn hd1
   have hS : (fun v : World => v.cell? (adl.add (all.length - 1)) = some (.int .i64 xl)) w1.drew := hcl
   refine jH 0 rfl hS (fun w0 hw0 => Run.mv rfl) ?_
   refine jH 1 rfl hS (fun w0 hw0 => Run.mv rfl) ?_
   refine jH 2 rfl hS (fun w0 hw0 => Run.lenS rfl Try.underlying38) ?_
   refine jH 3 rfl hS (fun w0 hw0 => Run.bin rfl rfl (Bin.sub_i64 _ 1 (by omega) (by omega))) ?_
   refine jH 4 rfl hS (fun w0 hw0 => Run.index1 _ rfl rfl Try.underlying38 Try.sizeOf3 (by omega)) ?_
   refine jH 5 rfl hS (fun w0 hw0 => Run.load rfl Try.isAgg3 hw0) ?_
   refine jH 6 rfl hS (fun w0 hw0 => Run.mv rfl) ?_
   refine HOps.clp 7 rfl jK (Enters.fn (evs.cons rfl (evs.cons rfl evs.nil)) Try.call91) (itake_spec gx gr 2 p1 Ar A bs c out most _ (by omega) hbs hB hX1d) trivial rfl rfl ?_
   rintro e w2 ⟨hf2, he⟩
   have hfr2 := hfr1d.trans hf2 (fun x hx => .inl hx)
   rcases hT2 : takeF (ofB bs) 2 p1 with kk | ⟨v2, p2⟩
   ·
    rw [hT2] at he
    simp only [hT2, bnd_e] at hF
    subst hF
    exact .inr ⟨_, he, thenQ_p (blockQ_p (thenQ_p (endQ_p ⟨hfr2.mono (by simp), rfl⟩)))⟩
   rw [hT2] at he
   simp only [hT2, bnd_k] at hF
   obtain ⟨rfl, hX2⟩ := he
   obtain ⟨hp2, hpl2, hv2, _⟩ := takeF_ok hT2
   have hS : (fun v : World => v.cell? (adl.add (all.length - 1)) = some (.int .i64 xl)) w2 := hf2.cell hcl (by rw [block_add]; simp; exact hgla)
   refine .inl ⟨_, rfl, hS, ?_⟩
   refine jH 8 rfl hS (fun w0 hw0 => Run.bin rfl rfl (Bin.add_i64 3 _ (by omega))) ?_
   refine jH 9 rfl hS (fun w0 hw0 => Run.asg rfl) ?_
   refine jH 10 rfl hS (fun w0 hw0 => Run.asg rfl) ?_
   refine HOps.done jK ?_
   refine jN ⟨(p2, xl, 3 + v2), (js4 rfl rfl rfl rfl), ?_⟩
   exact ⟨hX2, hfr2, hF, by dsimp only; omega⟩
  ·
   rw [if_neg hc1] at hF
   refine jS (jR ?_)
   refine Ops.r (Run.bin rfl rfl (Bin.eqlN _ 17)) rfl ?_
   refine jA ?_
   refine jO (jN (jv7 0 2 3 10 11 16 32 ?_))
   refine VC.condD rfl (fun hc2 => ?_) (fun hc2 => ?_)
   ·
    rw [if_pos hc2] at hF
    refine jR (jM ?_)
    refine Ops.clp (Enters.fn (evs.cons rfl (evs.cons rfl evs.nil)) Try.call91) (itake_spec gx gr 3 p1 Ar A bs c out most _ (by omega) hbs hB hX1) rfl ?_
    rintro e w2 ⟨hf2, he⟩
    have hfr2 := hfr1.trans hf2 (fun x hx => .inl hx)
    rcases hT2 : takeF (ofB bs) 3 p1 with kk | ⟨v2, p2⟩
    ·
     rw [hT2] at he
     simp only [hT2, bnd_e] at hF
     subst hF
     exact .inr ⟨_, he, thenQ_p (blockQ_p (thenQ_p (endQ_p ⟨hfr2.mono (by simp), rfl⟩)))⟩
    rw [hT2] at he
    simp only [hT2, bnd_k] at hF
    obtain ⟨rfl, hX2⟩ := he
    obtain ⟨hp2, hpl2, hv2, _⟩ := takeF_ok hT2
    refine .inl ⟨_, rfl, ?_⟩
    refine Ops.r (Run.bin rfl rfl (Bin.add_i64 3 _ (by omega))) rfl ?_
    refine Ops.r (v := .int .i64 ((0 : Nat) : Int)) (Run.asg rfl) rfl ?_
    refine jA ?_
    refine jO ?_
    refine jN ⟨(p2, 0, 3 + v2), (js4 rfl rfl rfl rfl), ?_⟩
    exact ⟨hX2, hfr2, hF, by dsimp only; omega⟩
   ·
    rw [if_neg hc2] at hF
    refine jS (jR ?_)
    refine Ops.r (Run.bin rfl rfl (Bin.eqlN _ 18)) rfl ?_
    refine jA ?_
    refine jO (jN (jv6 0 2 3 10 11 37 ?_))
    refine VC.condD rfl (fun hc3 => ?_) (fun hc3 => ?_)
    ·
     rw [if_pos hc3] at hF
     refine jR (jM ?_)
     refine Ops.clp (Enters.fn (evs.cons rfl (evs.cons rfl evs.nil)) Try.call91) (itake_spec gx gr 7 p1 Ar A bs c out most _ (by omega) hbs hB hX1) rfl ?_
     rintro e w2 ⟨hf2, he⟩
     have hfr2 := hfr1.trans hf2 (fun x hx => .inl hx)
     rcases hT2 : takeF (ofB bs) 7 p1 with kk | ⟨v2, p2⟩
     ·
      rw [hT2] at he
      simp only [hT2, bnd_e] at hF
      subst hF
      exact .inr ⟨_, he, thenQ_p (blockQ_p (thenQ_p (endQ_p ⟨hfr2.mono (by simp), rfl⟩)))⟩
     rw [hT2] at he
     simp only [hT2, bnd_k] at hF
     obtain ⟨rfl, hX2⟩ := he
     obtain ⟨hp2, hpl2, hv2, _⟩ := takeF_ok hT2
     refine .inl ⟨_, rfl, ?_⟩
     refine Ops.r (Run.bin rfl rfl (Bin.add_i64 11 _ (by omega))) rfl ?_
     refine Ops.r (v := .int .i64 ((0 : Nat) : Int)) (Run.asg rfl) rfl ?_
     refine jA ?_
     refine jO ?_
     refine jN ⟨(p2, 0, 11 + v2), (js4 rfl rfl rfl rfl), ?_⟩
     exact ⟨hX2, hfr2, hF, by dsimp only; omega⟩
    ·
     rw [if_neg hc3, bnd_k] at hF
     refine jQ ?_
     refine jN ⟨(p1, (v1 : Int), 1), (js4 rfl rfl rfl rfl), ?_⟩
     exact ⟨hX1, hfr1, hF, by dsimp only; omega⟩
 ·
  clear hF
  rintro ⟨p2, n, times⟩ w2 ⟨hX2, hfr2, hF, ht⟩ Γ hΓ
  dsimp only at hX2 hfr2 hF ht
  have hO2 := hO.frm hfr2 (fun x hx h5 => hgrl (by simp at h5; subst h5; exact hx))
  have hsz2 := hfr2.size
  refine blockQ_n (jN (VC.sub _ hΓ ?_))
  refine jS (jR (jM ?_))
  refine jM ?_
  refine jM ?_
  refine Ops.r (Run.lenS rfl Try.underlying38) rfl ?_
  refine Ops.r (Run.bin rfl rfl (Bin.sub_i64 _ _ (by omega) (by omega))) rfl ?_
  refine Ops.r (Run.bin rfl rfl (Bin.leqN _ _)) rfl ?_
  refine Ops.clp (Enters.fn (evs.cons rfl (evs.cons rfl evs.nil)) Try.call92) (need_spec (decide (times ≤ M - all.length)) 11 _) rfl ?_
  rintro e _ ⟨rfl, rfl⟩
  by_cases hN2 : times ≤ M - all.length
  rotate_left
  ·
   refine .inr ⟨_, by rw [if_neg (by simpa using hN2)], thenQ_p (endQ_p ?_)⟩
   rw [if_pos (by omega)] at hF
   subst hF
   exact ⟨hfr2.mono (by simp), rfl⟩
  refine .inl ⟨_, by rw [if_pos (by simpa using hN2)], ?_⟩
  rw [if_neg (by omega)] at hF
  refine jO (jN (jv3 2 10 11 ?_))
  refine jS (jS (jR (jM ?_)))
  refine Ops.r (v := .int .i64 ((0 : Nat) : Int)) (Run.mv rfl) rfl ?_
  refine jO (jN (jv4 2 10 49 50 ?_))
  refine jB ?_
  refine VC.loop (σ := Nat × Option Addr × Nat) (fun s => [(2, .slice s.2.1 (all.length + s.1) s.2.2), (10, .int .i64 n), (49, .int .i64 ((times : Nat) : Int)), (50, .int .i64 ((s.1 : Nat) : Int))]) (fun s wr => s.1 ≤ times ∧ Own wr 3 1 s.2.1 (all.length + s.1) s.2.2 (IB (all ++ List.replicate s.1 n)) ∧ Frm (ob Al) w2 wr ∧ ∀ x ∈ ob s.2.1, x ∈ ob Al ∨ w2.heap.size ≤ x) (fun s => times - s.1) (0, Al, cl) (js4 rfl rfl rfl rfl) ⟨by omega, by simpa using hO2, Frm.refl _ _, fun x hx => .inl hx⟩ ?_
  rintro ⟨i, B, d⟩ wr ⟨hi, hor, hfr, hu⟩
  dsimp only at hi hor hfr hu ⊢
  refine jS (jR ?_)
  refine Ops.r (Run.bin rfl rfl (Bin.lssN _ _)) rfl ?_
  refine jO (jN (jS ?_))
  refine VC.condD rfl (fun hc4 => ?_) (fun hc4 => ?_)
  ·
   refine jQ (jN (jv4 2 10 49 50 ?_))
   refine jS (jB (jR (jM ?_)))
   refine jM ?_
   refine Ops.m (Does.buildS1 rfl Try.underlying38 Try.sizeOf3 zero3 (by decide) (by decide) rfl rfl) rfl ?_
   rintro _ w3 ⟨rfl, hF3⟩
   have hrd3 : Rd w3 1 (some ⟨_, 0, none⟩) 1 [.int .i64 n] := Rd.of_blk (n := 1) (size := 1) hF3.blk rfl
   refine Ops.m (Does.app rfl rfl Try.underlying38 (info3) rfl (by decide) (hor.frm hF3.frm (by simp)) hrd3 (by simp [Value.oneCell']) (by omega) (by omega)) rfl ?_
   rintro _ w4 ⟨B4, c4, rfl, ho4, hf4, hob4⟩
   have hs3 := hfr.size
   have hs4 := hF3.frm.size
   have hfr4 : Frm (ob Al) w2 w4 := (hfr.trans hF3.frm (by simp)).trans hf4 (fun x hx => (hu x hx))
   refine jA ?_
   refine jO ?_
   refine blockQ_n (jN ?_)
   refine jv4 2 10 49 50 ?_
   refine jR ?_
   refine Ops.r (Run.bin rfl rfl (Bin.add_i64 _ 1 (by omega))) rfl ?_
   refine jM ?_
   refine jO ?_
   refine jN ⟨(i + 1, B4, c4), (js4 rfl rfl rfl rfl), ?_, ?_⟩
   ·
    refine ⟨by dsimp only; omega, ?_, hfr4, fun x hx => ?_⟩
    ·
     dsimp only
     rw [List.replicate_succ', ← List.append_assoc, IB_snoc]
     exact ho4
    ·
     rcases hob4 with h6 | h6 <;> rw [h6] at hx
     ·
      exact hu x hx
     ·
      simp at hx; exact .inr (by omega)
   ·
    first | omega | (dsimp only; omega)
  ·
   have hit : i = times := by omega
   subst hit
   refine jX ?_
   refine thenQ_x (thenQ_x (blockQ_x ?_))
   refine jN (jv1 2 ?_)
   refine jS (jR (jM ?_))
   refine jA ?_
   refine jO (jN (jv1 8 ?_))
   refine jT ?_
   refine end1 rfl ?_
   subst hF
   refine ⟨(hfr2.mono (T := gr :: ob Al) (by simp)).trans hfr (fun x hx => .inl (by simp [hx])), B, d, ?_, hX2.frm hfr hS0, ?_, fun x hx => (hu x hx).imp id (fun h => Nat.le_trans hsz2 h)⟩
   ·
    rw [List.length_append, List.length_replicate]
   ·
    rw [List.length_append, List.length_replicate]; exact hor
end Go.Proofs.Ytnmieihcjjiccaa
namespace Go.Proofs.Ytnmieihcjjiccaa
open Go.RowKit
theorem third_take (k i : Nat) (h : i < k) (hk : k ≤ 19) : (orderT.take k).drop i = orderT.getD i 0 :: (orderT.take k).drop (i + 1) ∧ orderT.getD i 0 < 19 := by
 have hl : orderT.length = 19 := rfl
 refine ⟨?_, ?_⟩
 ·
  rw [List.drop_eq_getElem_cons (by rw [List.length_take]; omega), List.getElem_take]
  simp [List.getD, List.getElem?_eq_getElem (show i < orderT.length by omega)]
 ·
  have : ∀ i, i < 19 → orderT.getD i 0 < 19 := by decide
  exact this i (by omega)
theorem IB_set (l : List Int) (k : Nat) (x : Int) : (IB l).set k (.int .i64 x) = IB (l.set k x) := by simp [IB, List.map_set]
theorem code_at (A : Option Addr) (c0 : Nat) (l : List Int) (n : Nat) (w : World) (hl : l.length ≤ 1000000) (hn : l.length = n) (hr : Rd w 1 A n (IB l)) :
  Calls Try.prog 95 #[.slice A n c0] w fun e w' => Frm [] w w' ∧ if newE l = 0 then ∃ g B c, e = .returned (.pointer (some ⟨g, 0, none⟩)) ∧ IsD w' g B c (cn l) (fst' l) (order l) (mostC l) ∧ ∀ x ∈ g :: ob B, w.heap.size ≤ x
   else e = .panicked (Pan 11) := by
 subst hn
 exact code_spec A c0 l w hl hr
theorem IB_cutL {w : World} {A : Option Addr} {c : Nat} {l : List Int} (h : Rd w 1 A l.length (IB l)) (k : Nat) (hk : k ≤ l.length) (hc : l.length ≤ c) : Rd w 1 (cutA A c 0 1) (k - 0) (IB (l.take k)) := by
 have e := h.cut (l := 0) (r := k) (cap := c) (by omega) hk hc
 have e2 : IB (l.take k) = ((IB l).drop (0 * 1)).take ((k - 0) * 1) := by simp [IB, List.map_take]
 rw [e2]
 exact e
theorem IB_cutD {w : World} {A : Option Addr} {c : Nat} {l : List Int} (h : Rd w 1 A l.length (IB l)) (k : Nat) (hk : k ≤ l.length) (hc : l.length ≤ c) : Rd w 1 (cutA A c k 1) (l.length - k) (IB (l.drop k)) := by
 have e := h.cut (l := k) (r := l.length) (cap := c) hk (Nat.le_refl _) hc
 have e2 : IB (l.drop k) = ((IB l).drop (k * 1)).take ((l.length - k) * 1) := by
  rw [Nat.mul_one, Nat.mul_one, List.take_of_length_le (by simp [IB])]
  simp [IB, List.map_drop]
 rw [e2]
 exact e
theorem newE_good {l : List Int} (h : newE l = 0) : l.length ≤ 320 ∧ mostC l ≤ 15 := by
 have hch : chk l ≠ 1 := by
  intro h1
  unfold newE at h
  rw [h1, if_neg (by omega)] at h
  omega
 have hg := chk_good hch
 refine ⟨hg.1, ?_⟩
 unfold mostC
 split
 ·
  rename_i h2
  unfold newE at h
  split at h
  ·
   rename_i h3
   rcases h3.2 with h4 | h4 <;> omega
  ·
   omega
 ·
  exact Nat.le_refl _
set_option maxRecDepth 100000 in
theorem idyn_spec (gx gr p : Nat) (Ar A : Option Addr) (bs : List Nat) (c : Nat) (out : List Nat) (most : Nat) (w : World) (hbs : bs.length ≤ 1000000) (hB : ∀ b ∈ bs, b < 256) (hX : IsX w gx gr Ar bs p A c out most) :
  Calls Try.prog 96 #[.pointer (some ⟨gx, 0, none⟩)] w fun e w' => Frm [gr] w w' ∧ match dynF (ofB bs) p with
   | .error k => e = .panicked (Pan k)
   | .ok x => ∃ ga Ba ca gb Bb cb, e = .returned (.tuple #[.pointer (some ⟨ga, 0, none⟩), .pointer (some ⟨gb, 0, none⟩)]) ∧ IsX w' gx gr Ar bs x.1 A c out most ∧ IsD w' ga Ba ca (cn x.2.1) (fst' x.2.1) (order x.2.1) (mostC x.2.1) ∧ IsD w' gb Bb cb (cn x.2.2) (fst' x.2.2) (order x.2.2) (mostC x.2.2) ∧ newE x.2.1 = 0 ∧ newE x.2.2 = 0 := by
 generalize hF : dynF (ofB bs) p = F
 unfold dynF at hF
 refine VC.calls (nt := 72) (res := #[.tmp 2, .tmp 3]) Try.func96 rfl Try.ntmps96 Try.results96 rfl ?_
 refine jS (jR (jA ?_))
 refine jA ?_
 refine jO (jN (jv1 0 ?_))
 refine jS (jR (jM ?_))
 refine Ops.clp (Enters.fn (evs.cons rfl (evs.cons rfl evs.nil)) Try.call91) (itake_spec gx gr 5 p Ar A bs c out most _ (by omega) hbs hB hX) rfl ?_
 rintro e w1 ⟨hf1, he⟩
 have hfr1 := hf1
 rcases hT1 : takeF (ofB bs) 5 p with kk | ⟨v1, p1⟩
 ·
  rw [hT1] at he
  simp only [hT1, bnd_e] at hF
  subst hF
  exact .inr ⟨_, he, thenQ_p (endQ_p ⟨hfr1, rfl⟩)⟩
 rw [hT1] at he
 simp only [hT1, bnd_k] at hF
 obtain ⟨rfl, hX1⟩ := he
 obtain ⟨hp1, hpl1, hv1, _⟩ := takeF_ok hT1
 refine .inl ⟨_, rfl, ?_⟩
 refine Ops.r (Run.bin rfl rfl (Bin.add_i64 257 _ (by omega))) rfl ?_
 refine jM ?_
 refine Ops.clp (Enters.fn (evs.cons rfl (evs.cons rfl evs.nil)) Try.call91) (itake_spec gx gr 5 p1 Ar A bs c out most _ (by omega) hbs hB hX1) rfl ?_
 rintro e w2 ⟨hf2, he⟩
 have hfr2 := hfr1.trans hf2 (fun x hx => .inl hx)
 rcases hT2 : takeF (ofB bs) 5 p1 with kk | ⟨v2, p2⟩
 ·
  rw [hT2] at he
  simp only [hT2, bnd_e] at hF
  subst hF
  exact .inr ⟨_, he, thenQ_p (endQ_p ⟨hfr2, rfl⟩)⟩
 rw [hT2] at he
 simp only [hT2, bnd_k] at hF
 obtain ⟨rfl, hX2⟩ := he
 obtain ⟨hp2, hpl2, hv2, _⟩ := takeF_ok hT2
 refine .inl ⟨_, rfl, ?_⟩
 refine Ops.r (Run.bin rfl rfl (Bin.add_i64 1 _ (by omega))) rfl ?_
 refine jM ?_
 refine Ops.clp (Enters.fn (evs.cons rfl (evs.cons rfl evs.nil)) Try.call91) (itake_spec gx gr 4 p2 Ar A bs c out most _ (by omega) hbs hB hX2) rfl ?_
 rintro e w3 ⟨hf3, he⟩
 have hfr3 := hfr2.trans hf3 (fun x hx => .inl hx)
 rcases hT3 : takeF (ofB bs) 4 p2 with kk | ⟨v3, p3⟩
 ·
  rw [hT3] at he
  simp only [hT3, bnd_e] at hF
  subst hF
  exact .inr ⟨_, he, thenQ_p (endQ_p ⟨hfr3, rfl⟩)⟩
 rw [hT3] at he
 simp only [hT3, bnd_k] at hF
 obtain ⟨rfl, hX3⟩ := he
 obtain ⟨hp3, hpl3, hv3, _⟩ := takeF_ok hT3
 refine .inl ⟨_, rfl, ?_⟩
 rw [ofB_len] at hpl1 hpl2 hpl3
 refine Ops.r (Run.bin rfl rfl (Bin.add_i64 4 _ (by omega))) rfl ?_
 refine jA ?_
 refine jA ?_
 refine jA ?_
 refine jO (jN (jv4 0 4 5 6 ?_))
 refine jS (jR (jM ?_))
 refine Ops.r (Run.bin rfl rfl (Bin.leqN _ 286)) rfl ?_
 refine jM ?_
 by_cases hs24 : 257 + v1 ≤ 286
 rotate_left
 ·
  refine jU ?_
  refine jU ?_
  refine Ops.r (Run.pickF rfl rfl au) rfl ?_
  refine Ops.clp (Enters.fn (evs.cons rfl (evs.cons rfl evs.nil)) Try.call92) (need_spec false 3 _) rfl ?_
  rintro e _ ⟨rfl, rfl⟩
  refine .inr ⟨_, by rw [if_neg (by decide)], thenQ_p (endQ_p ?_)⟩
  rw [if_pos (fun h => hs24 h.1)] at hF
  subst hF
  exact ⟨hfr3, rfl⟩
 refine jG ?_
 refine Ops.rg rfl au (Run.bin rfl rfl (Bin.leqN _ 30)) rfl ?_
 refine Ops.r (Run.pickT rfl rfl au) rfl ?_
 refine Ops.clp (Enters.fn (evs.cons rfl (evs.cons rfl evs.nil)) Try.call92) (need_spec (decide (1 + v2 ≤ 30)) 3 _) rfl ?_
 rintro e _ ⟨rfl, rfl⟩
 by_cases hN1 : 1 + v2 ≤ 30
 rotate_left
 ·
  refine .inr ⟨_, by rw [if_neg (by simpa using hN1)], thenQ_p (endQ_p ?_)⟩
  rw [if_pos (fun h => hN1 h.2)] at hF
  subst hF
  exact ⟨hfr3, rfl⟩
 refine .inl ⟨_, by rw [if_pos (by simpa using hN1)], ?_⟩
 refine jO (jN (jv4 0 4 5 6 ?_))
 refine jS (jR ?_)
 refine Ops.m (Does.makeS (n := 19) rfl rfl Try.underlying38 (info3) rfl (by decide) (by decide)) rfl ?_
 rintro _ w4 ⟨rfl, ho4, hf4, hs4⟩
 have hX4 := hX3.frm0 hf4
 have hfr4 := hfr3.trans hf4 (by simp)
 have ho4 : Own w4 3 1 (some ⟨w3.heap.size, 0, none⟩) 19 19 (IB (List.replicate 19 0)) := ho4
 have hg3 := hfr3.size
 have hlt3 := hX3.lt
 generalize hgl : w3.heap.size = gl at *
 refine jA ?_
 refine jO (jN (jv5 0 4 5 6 7 ?_))
 refine jS (jR ?_)
 refine Ops.cl (Enters.fn evs.nil Try.call107) (iorder_spec _) rfl ?_
 rintro e w5 ⟨rfl, hf5⟩
 refine ⟨_, rfl, ?_⟩
 have hX5 := hX4.frm0 hf5
 have ho5 := ho4.frm hf5 (by simp)
 have hfr5 := hfr4.trans hf5 (by simp)
 refine Ops.m (Does.alloc zero54) rfl ?_
 rintro _ w6 ⟨rfl, hF6⟩
 have hX6 := hX5.frm0 hF6.frm
 have ho6 := ho5.frm hF6.frm (by simp)
 have hfr6 := hfr5.trans hF6.frm (by simp)
 have hg5 := hfr5.size
 have hlt5 := hX5.lt
 have hb6 := hF6.blk
 refine Ops.st (Acts.storeA rfl rfl Try.sizeOf54 hb6 rfl (NI_one orderT)) ?_
 rintro w7 ⟨hb7, hf7, hs7⟩
 have hb7 : Blk w7 w5.heap.size 54 (NI orderT).toArray := hb7
 have hX7 := hX6.frm hf7 (fun x hx h5 => by
  simp at h5
  subst h5
  rcases List.mem_cons.1 hx with h6 | hx
  ·
   have := hlt5.1; omega
  rcases List.mem_cons.1 hx with h6 | hx
  ·
   have := hlt5.2.1; omega
  rcases List.mem_append.1 hx with hx | hx
  ·
   have := hlt5.2.2.1 _ hx; omega
  ·
   have := hlt5.2.2.2 _ hx; omega)
 have hfr7 : Frm [gr] w w7 := hfr6.trans hf7 (fun x hx => .inr (by simp at hx; omega))
 have hltl := ho5.lt gl (by simp [ob])
 have ho7 := ho6.frm hf7 (fun x hx h5 => by simp [ob] at hx h5; omega)
 rw [if_neg (fun h => h ⟨hs24, hN1⟩)] at hF
 generalize hgo : w5.heap.size = go at *
 refine jO (jN (jv6 0 4 5 6 7 8 ?_))
 refine jS (jS (jR (jM ?_)))
 refine Ops.r (Run.sliceA 0 _ rfl Try.underlying54 Try.sizeOf3 evB.none_ (evB.some_ rfl) (by omega) (by omega)) rfl ?_
 rw [cutA_0, Nat.sub_zero, Nat.sub_zero]
 refine Ops.r (Run.lenS rfl Try.underlying38) rfl ?_
 refine Ops.r (v := .int .i64 ((0 : Nat) : Int)) (Run.mv rfl) rfl ?_
 refine jO (jN (jv7 0 4 5 7 32 33 34 ?_))
 refine jB ?_
 refine VC.loop (σ := Nat × Nat × List Int) (fun s => [(0, .pointer (some ⟨gx, 0, none⟩)), (4, .int .i64 ((257 + v1 : Nat) : Int)), (5, .int .i64 ((1 + v2 : Nat) : Int)), (7, .slice (some ⟨gl, 0, none⟩) 19 19), (32, .slice (some ⟨go, 0, none⟩) (4 + v3) 19), (33, .int .i64 ((4 + v3 : Nat) : Int)), (34, .int .i64 ((s.1 : Nat) : Int))]) (fun s wr => s.1 ≤ 4 + v3 ∧ bnd (thirdF (ofB bs) ((orderT.take (4 + v3)).drop s.1) s.2.1 s.2.2) (dynG (ofB bs) (257 + v1) (1 + v2)) = F ∧ s.2.2.length = 19 ∧ IsX wr gx gr Ar bs s.2.1 A c out most ∧ Own wr 3 1 (some ⟨gl, 0, none⟩) 19 19 (IB s.2.2) ∧ Blk wr go 54 (NI orderT).toArray ∧ Frm [gr] w wr) (fun s => 4 + v3 - s.1) (0, p3, List.replicate 19 0) (js7 rfl rfl rfl rfl rfl rfl rfl) ⟨by omega, hF, rfl, hX7, ho7, hb7, hfr7⟩ ?_
 clear hF hX7 ho7 hb7 hfr7
 rintro ⟨i, q, l⟩ w8 ⟨hi, hF, hll, hX8, ho8, hb8, hfr8⟩
 dsimp only at hi hF hll hX8 ho8 hb8 hfr8 ⊢
 refine jS (jR ?_)
 refine Ops.r (Run.bin rfl rfl (Bin.lssN _ _)) rfl ?_
 refine jO (jN (jS ?_))
 refine VC.condD rfl (fun hc1 => ?_) (fun hc1 => ?_)
 ·
  obtain ⟨htk, hs19⟩ := third_take (4 + v3) i hc1 (by omega)
  rw [htk] at hF
  simp only [thirdF] at hF
  have hcell : w8.cell? ((⟨go, 0, none⟩ : Addr).add i) = some (.int .i64 ((orderT.getD i 0 : Nat) : Int)) := by
   rw [add_mk, hb8.cell]
   have h5 : i < orderT.length := by have : orderT.length = 19 := rfl; omega
   simp [NI, List.getD, List.getElem?_eq_getElem h5]
  generalize orderT.getD i 0 = si at *
  refine jQ (jN (jv7 0 4 5 7 32 33 34 ?_))
  refine jS (jB (jS (jR ?_)))
  refine Ops.r (Run.index1 _ rfl rfl Try.underlying38 Try.sizeOf3 (by omega)) rfl ?_
  refine Ops.r (Run.load rfl Try.isAgg3 hcell) rfl ?_
  refine jA ?_
  refine jO (jN (jv8 0 4 5 7 10 32 33 34 ?_))
  refine jR (jM ?_)
  refine jM ?_
  refine jM ?_
  refine Ops.clp (Enters.fn (evs.cons rfl (evs.cons rfl evs.nil)) Try.call91) (itake_spec gx gr 3 q Ar A bs c out most _ (by omega) hbs hB hX8) rfl ?_
  rintro e w9 ⟨hf9, he⟩
  have hfr9 := hfr8.trans hf9 (fun x hx => .inl hx)
  rcases hT9 : takeF (ofB bs) 3 q with kk | ⟨v9, p9⟩
  ·
   rw [hT9] at he
   rw [hT9] at hF
   simp only [bnd_e] at hF
   subst hF
   exact .inr ⟨_, he, blockQ_p (thenQ_p (thenQ_p (blockQ_p (thenQ_p (endQ_p ⟨hfr9, rfl⟩)))))⟩
  rw [hT9] at he
  rw [hT9] at hF
  simp only [bnd_k] at hF
  obtain ⟨rfl, hX9⟩ := he
  obtain ⟨hp9, hpl9, hv9, _⟩ := takeF_ok hT9
  refine .inl ⟨_, rfl, ?_⟩
  have hgrl : gr ≠ gl := fun h => by have := hlt3.2.1; omega
  have hgro : gr ≠ go := fun h => by have := hlt5.2.1; omega
  have ho9 := ho8.frm hf9 (fun x hx h5 => by simp [ob] at hx h5; omega)
  have hb9 := hb8.frm hf9 (by simp; omega)
  refine Ops.r (Run.index1 _ rfl rfl Try.underlying38 Try.sizeOf3 (by omega)) rfl ?_
  refine Ops.st (Acts.storeOwn si rfl rfl Try.sizeOf3 ho9 rfl (by omega) rfl) ?_
  rintro w10 ⟨ho10, hf10, hs10⟩
  rw [IB_set] at ho10
  have hX10 := hX9.frm hf10 (fun x hx h5 => by
   simp [ob] at h5
   subst h5
   rcases List.mem_cons.1 hx with h6 | hx
   ·
    have := hlt3.1; omega
   rcases List.mem_cons.1 hx with h6 | hx
   ·
    have := hlt3.2.1; omega
   rcases List.mem_append.1 hx with hx | hx
   ·
    have := hlt3.2.2.1 _ hx; omega
   ·
    have := hlt3.2.2.2 _ hx; omega)
  refine jO ?_
  refine blockQ_n (jN ?_)
  refine jv7 0 4 5 7 32 33 34 ?_
  refine jR ?_
  refine Ops.r (Run.bin rfl rfl (Bin.add_i64 _ 1 (by omega))) rfl ?_
  refine jM ?_
  refine jO ?_
  refine jN ⟨(i + 1, p9, l.set si (v9 : Int)), (js7 rfl rfl rfl rfl rfl rfl rfl), ?_, ?_⟩
  ·
   refine ⟨by dsimp only; omega, hF, by dsimp only; rw [List.length_set]; exact hll, hX10, ho10, hb9.frm hf10 (by simp [ob]; omega), hfr9.trans hf10 (fun x hx => .inr (by simp [ob] at hx; omega))⟩
  ·
   first | omega | (dsimp only; omega)
 ·
  have hiv : i = 4 + v3 := by omega
  subst hiv
  rw [List.drop_eq_nil_of_le (by rw [List.length_take]; omega)] at hF
  simp only [thirdF, bnd_k] at hF
  refine jX ?_
  refine thenQ_x (thenQ_x (blockQ_x ?_))
  refine jN (jv4 0 4 5 7 ?_)
  refine jS (jR (jM ?_))
  refine Ops.clp (Enters.fn (evs.cons rfl evs.nil) Try.call95) (code_at _ 19 l 19 _ (by omega) hll ho8.rd) rfl ?_
  rintro e w11 ⟨hf11, he⟩
  by_cases hn11 : newE l = 0
  rotate_left
  ·
   rw [if_neg hn11] at he
   refine .inr ⟨_, he, thenQ_p (endQ_p ?_)⟩
   simp only [dynG] at hF
   rw [if_pos hn11] at hF
   subst hF
   exact ⟨hfr8.trans hf11 (by simp), rfl⟩
  rw [if_pos hn11] at he
  obtain ⟨gd11, Bd11, cd11, rfl, hD11, hgd11⟩ := he
  refine .inl ⟨_, rfl, ?_⟩
  simp only [dynG] at hF
  rw [if_neg (by simpa using hn11)] at hF
  have hX11 := hX8.frm0 hf11
  have hfr11 := hfr8.trans hf11 (by simp)
  obtain ⟨hl11, hm11⟩ := newE_good hn11
  rw [ofB_len] at hF
  refine jA ?_
  refine jO (jN (jv4 0 4 5 11 ?_))
  refine jS (jR (jA ?_))
  refine jO (jN (jS (jB ?_)))
  refine VC.loop (σ := Nat × Nat × List Int × Option Addr × Nat) (fun s => [(0, .pointer (some ⟨gx, 0, none⟩)), (4, .int .i64 ((257 + v1 : Nat) : Int)), (5, .int .i64 ((1 + v2 : Nat) : Int)), (11, .pointer (some ⟨gd11, 0, none⟩)), (12, .slice s.2.2.2.1 s.2.2.1.length s.2.2.2.2)]) (fun s wr => bnd (moresF (ofB bs) l (257 + v1 + (1 + v2)) s.1 s.2.1 s.2.2.1) (dynH (257 + v1)) = F ∧ 8 * bs.length < s.1 + s.2.1 ∧ s.2.2.1.length ≤ 257 + v1 + (1 + v2) ∧ IsX wr gx gr Ar bs s.2.1 A c out most ∧ IsD wr gd11 Bd11 cd11 (cn l) (fst' l) (order l) (mostC l) ∧ Own wr 3 1 s.2.2.2.1 s.2.2.1.length s.2.2.2.2 (IB s.2.2.1) ∧ Frm [gr] w wr ∧ (∀ x ∈ ob s.2.2.2.1, w.heap.size ≤ x) ∧ ∀ x ∈ gd11 :: ob Bd11, x ∉ ob s.2.2.2.1) (fun s => 8 * bs.length + 1 - s.2.1) (8 * bs.length + 1, q, [], none, 0) (js5 rfl rfl rfl rfl rfl) ⟨hF, by dsimp only; omega, by simp, hX11, hD11, Own.nil _ _ _, hfr11, up_nil, by simp [ob]⟩ ?_
  clear hF hX11 hfr11
  rintro ⟨f, q2, all, Al, cl⟩ w12 ⟨hF, hfq, hal, hX12, hD12, hO12, hfr, hul, hdl⟩
  dsimp only at hF hfq hal hX12 hD12 hO12 hfr hul hdl ⊢
  have hp12 := hX12.2.2.2.2.1
  obtain ⟨f, rfl⟩ : ∃ f', f = f' + 1 := ⟨f - 1, by omega⟩
  simp only [moresF] at hF
  have hs12 := hfr.size
  have hltD := hD12.2.lt
  have hltd := hD12.1.lt
  refine jS (jS (jR (jM ?_)))
  refine Ops.r (Run.lenS rfl Try.underlying38) rfl ?_
  refine jM ?_
  refine jM ?_
  refine Ops.r (Run.bin rfl rfl (Bin.add_i64 _ _ (by omega))) rfl ?_
  refine Ops.r (Run.bin rfl rfl (Bin.lssN _ _)) rfl ?_
  refine jO (jN (jv6 0 4 5 11 12 51 ?_))
  refine VC.condD rfl (fun hc2 => ?_) (fun hc2 => ?_)
  ·
   rw [if_pos hc2] at hF
   refine jQ (jN (jv5 0 4 5 11 12 ?_))
   refine jB (jR (jM ?_))
   refine jM ?_
   refine jM ?_
   refine jM ?_
   refine jM ?_
   refine Ops.r (Run.bin rfl rfl (Bin.add_i64 _ _ (by omega))) rfl ?_
   refine Ops.clp (Enters.fn (evs.cons rfl (evs.cons rfl (evs.cons rfl (evs.cons rfl evs.nil)))) Try.call108) (imore_spec gx gr q2 gd11 Ar A Bd11 cd11 l bs c out most Al cl all (257 + v1 + (1 + v2)) _ hl11 hm11 hbs hB (by omega) hal hX12 hD12 hO12) rfl ?_
   rintro e w13 ⟨hf13, he⟩
   have hfr13 : Frm [gr] w w13 := hfr.trans hf13 (fun x hx => by rcases List.mem_cons.1 hx with rfl | hx; exact .inl (by simp); exact .inr (hul x hx))
   rcases hT13 : moreF (ofB bs) l q2 all (257 + v1 + (1 + v2)) with kk | ⟨q3, all3⟩
   ·
    rw [hT13] at he hF
    simp only [bnd_e] at hF
    subst hF
    exact .inr ⟨_, he, blockQ_p (thenQ_p (blockQ_p (thenQ_p (endQ_p ⟨hfr13, rfl⟩))))⟩
   rw [hT13] at he hF
   simp only [bnd_k] at hF
   obtain ⟨B13, c13, rfl, hX13, hO13, hu13⟩ := he
   dsimp only at hX13 hO13 hu13
   obtain ⟨hq1, hq2, hq3, hq4⟩ := moreF_ok hm11 (by rw [ofB_len]; exact hp12) hT13
   refine .inl ⟨_, rfl, ?_⟩
   refine jA ?_
   refine jO ?_
   refine blockQ_n (jN ⟨(f, q3, all3, B13, c13), (js5 rfl rfl rfl rfl rfl), ?_, ?_⟩)
   ·
    have hgrd : ∀ x ∈ gd11 :: ob Bd11, x ∉ gr :: ob Al := fun x hx h5 => by
     rcases List.mem_cons.1 h5 with rfl | h5
     ·
      rcases List.mem_cons.1 hx with h6 | hx
      ·
       exact hD12.1.ne hX12.2.1.choose_spec.1 (by decide) h6.symm
      ·
       exact hD12.2.ne_blk hX12.2.1.choose_spec.1 (by decide) hx
     ·
      exact hdl x hx h5
    refine ⟨hF, by dsimp only; omega, hq3, hX13, hD12.frm hf13 hgrd, hO13, hfr13, fun x hx => (hu13 x hx).elim (hul x) (fun h => Nat.le_trans hs12 h), fun x hx h5 => ?_⟩
    rcases hu13 x h5 with h6 | h6
    ·
     exact hdl x hx h6
    ·
     rcases List.mem_cons.1 hx with rfl | hx
     ·
      omega
     ·
      have := hltD x hx; omega
   ·
    dsimp only; rw [ofB_len] at hq2; omega
  ·
   rw [if_neg hc2] at hF
   simp only [bnd_k] at hF
   have hle : all.length = 257 + v1 + (1 + v2) := by omega
   obtain ⟨ad, rfl, hc256⟩ := IB_at hO12.rd (k := 256) (by omega)
   have hg256 : all.getD 256 0 = all[256] := by simp [List.getD, List.getElem?_eq_getElem (show 256 < all.length by omega)]
   refine jX ?_
   refine thenQ_x (thenQ_x (blockQ_x ?_))
   refine jN (jv2 4 12 ?_)
   refine jS (jR (jM ?_))
   refine Ops.r (Run.index1 256 rfl rfl Try.underlying38 Try.sizeOf3 (by omega)) rfl ?_
   refine Ops.r (Run.load rfl Try.isAgg3 hc256) rfl ?_
   refine Ops.r (Run.bin rfl rfl (Bin.gtr _ 0)) rfl ?_
   refine Ops.clp (Enters.fn (evs.cons rfl (evs.cons rfl evs.nil)) Try.call92) (need_spec (decide (0 < all[256])) 11 _) rfl ?_
   rintro e _ ⟨rfl, rfl⟩
   by_cases hN2 : 0 < all[256]
   rotate_left
   ·
    refine .inr ⟨_, by rw [if_neg (by simpa using hN2)], thenQ_p (endQ_p ?_)⟩
    simp only [dynH, hg256] at hF
    rw [if_pos (by simpa using hN2)] at hF
    subst hF
    exact ⟨hfr, rfl⟩
   refine .inl ⟨_, by rw [if_pos (by simpa using hN2)], ?_⟩
   simp only [dynH, hg256] at hF
   rw [if_neg (by simpa using hN2)] at hF
   have hcap := hO12.le
   refine jO (jN (jv2 4 12 ?_))
   refine jS ?_
   refine VC.held (fun _ => True) jK ?_
   refine jH 0 rfl trivial (fun w0 hw0 => Run.mv rfl) ?_
   refine jH 1 rfl trivial (fun w0 hw0 => Run.mv rfl) ?_
   refine jH 2 rfl trivial (fun w0 hw0 => Run.sliceS 0 _ rfl Try.underlying38 Try.sizeOf3 evB.none_ (evB.some_ rfl) (by omega) (by omega)) ?_
   refine jH 4 rfl trivial (fun w0 hw0 => Run.mv rfl) ?_
   refine jH 5 rfl trivial (fun w0 hw0 => Run.mv rfl) ?_
   refine jH 6 rfl trivial (fun w0 hw0 => Run.sliceS _ _ rfl Try.underlying38 Try.sizeOf3 (evB.some_ rfl) evB.none_ (by omega) (by omega)) ?_
   refine HOps.clp 3 rfl jK (Enters.fn (evs.cons rfl evs.nil) Try.call95) (code_at _ _ (all.take (257 + v1)) _ _ (by simp; omega) (by first | (simp; done) | (simp; omega)) (IB_cutL ((hO12.rd).drawn (Drawn.drew w12)) (257 + v1) (by omega) hcap)) trivial rfl rfl ?_
   rintro e w14 ⟨hf14, he⟩
   have hfr14 := (hfr.drawn (Drawn.drew w12)).trans hf14 (by simp)
   by_cases hn14 : newE (all.take (257 + v1)) = 0
   rotate_left
   ·
    rw [if_neg hn14] at he
    refine .inr ⟨_, he, thenQ_p (endQ_p ?_)⟩
    rw [if_pos hn14] at hF
    subst hF
    exact ⟨hfr14, rfl⟩
   rw [if_pos hn14] at he
   rw [if_neg (by simpa using hn14)] at hF
   obtain ⟨gd14, Bd14, cd14, rfl, hD14, hgd14⟩ := he
   refine .inl ⟨_, rfl, trivial, ?_⟩
   refine HOps.clp 7 rfl jK (Enters.fn (evs.cons rfl evs.nil) Try.call95) (code_at _ _ (all.drop (257 + v1)) _ _ (by simp; omega) (by first | (simp; done) | (simp; omega)) ((IB_cutD ((hO12.rd).drawn (Drawn.drew w12)) (257 + v1) (by omega) hcap).frm hf14 (by simp))) trivial rfl rfl ?_
   rintro e w15 ⟨hf15, he⟩
   have hfr15 := (hfr14).trans hf15 (by simp)
   by_cases hn15 : newE (all.drop (257 + v1)) = 0
   rotate_left
   ·
    rw [if_neg hn15] at he
    refine .inr ⟨_, he, thenQ_p (endQ_p ?_)⟩
    rw [if_pos hn15] at hF
    subst hF
    exact ⟨hfr15, rfl⟩
   rw [if_pos hn15] at he
   rw [if_neg (by simpa using hn15)] at hF
   obtain ⟨gd15, Bd15, cd15, rfl, hD15, hgd15⟩ := he
   refine .inl ⟨_, rfl, trivial, ?_⟩
   refine jH 8 rfl trivial (fun w0 hw0 => Run.asg rfl) ?_
   refine jH 9 rfl trivial (fun w0 hw0 => Run.asg rfl) ?_
   refine HOps.done jK ?_
   refine jN (jv2 2 3 ?_)
   refine jT ?_
   refine end2 rfl rfl ?_
   subst hF
   exact ⟨hfr15, gd14, Bd14, cd14, gd15, Bd15, cd15, rfl, (hX12.frm0 (Drawn.drew w12).frm).frm0 (hf14.trans hf15 (by simp)), hD14.frm hf15 (by simp), hD15, hn14, hn15⟩
end Go.Proofs.Ytnmieihcjjiccaa
namespace Go.Proofs.Ytnmieihcjjiccaa
open Go.RowKit
theorem long_b : ∀ i, i < 29 → (longT.getD i (0, 0)).2 ≤ 5 ∧ (longT.getD i (0, 0)).1 ≤ 258 := by decide
theorem way_b : ∀ i, i < 30 → (wayT.getD i (0, 0)).2 ≤ 13 ∧ 1 ≤ (wayT.getD i (0, 0)).1 ∧ (wayT.getD i (0, 0)).1 ≤ 24577 := by decide
theorem nb_at {w : World} {A : Option Addr} {l : List Nat} {k : Nat} (h : Rd w 1 A l.length (NB l)) (hk : k < l.length) : ∃ ad, A = some ad ∧ w.cell? (ad.add k) = some (.int .u8 ((l.getD k 0 : Nat) : Int)) := by
 obtain ⟨ad, u, hA, hu, hc⟩ := h.at1 hk
 refine ⟨ad, hA, ?_⟩
 rw [hc]
 simp [NB, hk] at hu
 rw [← hu]
 simp [List.getD, List.getElem?_eq_getElem hk]
theorem copyF_len : ∀ (n d : Nat) (out : List Nat), (copyF n d out).length = out.length + n
 | 0, _, _ => rfl
 | n + 1, d, out => by rw [copyF, copyF_len n d]; simp; omega
theorem IsX.ob_ne {w : World} {gx gr : Nat} {Ar : Option Addr} {bs : List Nat} {p : Nat} {A : Option Addr} {c : Nat} {out : List Nat} {most g : Nat} (h : IsX w gx gr Ar bs p A c out most) (hg : w.heap.size ≤ g) : ∀ x ∈ gx :: gr :: (ob A ++ ob Ar), x ∉ [g] := fun x hx h5 => by
 have hl := h.lt
 simp at h5
 subst h5
 rcases List.mem_cons.1 hx with h6 | hx
 ·
  have := hl.1; omega
 rcases List.mem_cons.1 hx with h6 | hx
 ·
  have := hl.2.1; omega
 rcases List.mem_append.1 hx with hx | hx
 ·
  have := hl.2.2.1 _ hx; omega
 ·
  have := hl.2.2.2 _ hx; omega
set_option maxRecDepth 100000 in
theorem itoken_spec (gx gr p ga gb : Nat) (Ar A Ba Bb : Option Addr) (ca cb : Nat) (a b : List Int) (bs : List Nat) (c : Nat) (out : List Nat) (most : Nat) (w : World) (hna : newE a = 0) (hnb : newE b = 0) (hmo : most ≤ 1000000) (hbs : bs.length ≤ 1000000) (hB : ∀ b ∈ bs, b < 256) (hX : IsX w gx gr Ar bs p A c out most)
  (hDa : IsD w ga Ba ca (cn a) (fst' a) (order a) (mostC a)) (hDb : IsD w gb Bb cb (cn b) (fst' b) (order b) (mostC b)) :
  Calls Try.prog 105 #[.pointer (some ⟨gx, 0, none⟩), .pointer (some ⟨ga, 0, none⟩), .pointer (some ⟨gb, 0, none⟩)] w fun e w' => Frm (gx :: gr :: ob A) w w' ∧ match tokenF (ofB bs) a b most p out with
   | .error k => e = .panicked (Pan k)
   | .ok x => ∃ A' c', e = .returned (.bool x.1) ∧ IsX w' gx gr Ar bs x.2.1 A' c' x.2.2 most ∧ ∀ y ∈ ob A', y ∈ ob A ∨ w.heap.size ≤ y := by
 generalize hF : tokenF (ofB bs) a b most p out = F
 unfold tokenF at hF
 obtain ⟨hal, ham⟩ := newE_good hna
 obtain ⟨hbl, hbm⟩ := newE_good hnb
 have hom := hX.2.2.2.2.2.1
 have hgbr : ∀ x ∈ gb :: ob Bb, x ∉ [gr] := fun x hx h5 => by
  simp at h5
  rcases List.mem_cons.1 hx with h6 | hx
  ·
   exact hDb.1.ne hX.2.1.choose_spec.1 (by decide) (by omega)
  ·
   subst h5; exact hDb.2.ne_blk hX.2.1.choose_spec.1 (by decide) hx
 refine VC.calls (nt := 119) (res := #[.tmp 6]) Try.func105 rfl Try.ntmps105 Try.results105 rfl ?_
 refine jS (jR (jA ?_))
 refine jO (jN (jv3 0 1 2 ?_))
 refine jS (jR (jM ?_))
 refine jM ?_
 refine Ops.clp (Enters.fn (evs.cons rfl (evs.cons rfl evs.nil)) Try.call111) (isym_spec gx gr p ga Ar A _ _ a bs c out most _ hal ham hbs hB hX hDa) rfl ?_
 rintro e w1 ⟨hf1, he⟩
 have hfr1 := hf1
 rcases hT1 : symF (ofB bs) a p with kk | ⟨v1, p1⟩
 ·
  rw [hT1] at he
  simp only [hT1, bnd_e] at hF
  subst hF
  exact .inr ⟨_, he, thenQ_p (endQ_p ⟨hfr1.mono (by simp), rfl⟩)⟩
 rw [hT1] at he
 simp only [hT1, bnd_k] at hF
 obtain ⟨rfl, hX1⟩ := he
 obtain ⟨hp1, hpl1, hv1⟩ := symF_ok ham (by rw [ofB_len]; exact hX.2.2.2.2.1) hT1
 refine .inl ⟨_, rfl, ?_⟩
 have hDb1 := hDb.frm hf1 hgbr
 have hd1 := Drawn.drew w1
 refine jA ?_
 refine jO (jN (jv3 0 2 7 ?_))
 refine jS (jS (jR (jM ?_)))
 refine Ops.r (Run.bin rfl rfl (Bin.lssN _ 256)) rfl ?_
 refine jO (jN (jv4 0 2 7 17 ?_))
 refine VC.condD rfl (fun hc1 => ?_) (fun hc1 => ?_)
 ·
  rw [if_pos hc1] at hF
  have hXd := hX1.frm0 hd1.frm
  have hfrd := hfr1.drawn hd1
  refine jS ?_
  refine VC.tail 10 jK jK ?_
  simp only [List.take_succ_cons, List.take_zero, List.drop_succ_cons, List.drop_zero]
  refine SOps.r (Run.mv rfl) rfl ?_
  refine SOps.r (Run.nilck rfl) rfl ?_
  refine SOps.r (Run.fieldAddr rfl Try.underlying132 rfl Try.sizeOf22 (by decide)) rfl ?_
  refine SOps.r (Run.load rfl Try.isAgg22 (hXd.1.cell 1)) rfl ?_
  refine SOps.r (Run.lenS rfl Try.underlying22) rfl ?_
  refine SOps.r (Run.mv rfl) rfl ?_
  refine SOps.r (Run.nilck rfl) rfl ?_
  refine SOps.r (Run.fieldAddr rfl Try.underlying132 rfl Try.sizeOf3 (by decide)) rfl ?_
  refine SOps.r (Run.load rfl Try.isAgg3 (hXd.1.cell 2)) rfl ?_
  refine SOps.r (Run.bin rfl rfl (Bin.lssN _ _)) rfl ?_
  refine SOps.nil ?_
  refine Ops.clp (Enters.fn (evs.cons rfl (evs.cons rfl evs.nil)) Try.call92) (need_spec (decide (out.length < most)) 13 _) rfl ?_
  rintro e _ ⟨rfl, rfl⟩
  by_cases hN1 : out.length < most
  rotate_left
  ·
   refine .inr ⟨_, by rw [if_neg (by simpa using hN1)], thenQ_p (thenQ_p (endQ_p ?_))⟩
   rw [if_neg hN1] at hF
   subst hF
   exact ⟨hfrd.mono (by simp), rfl⟩
  refine .inl ⟨_, by rw [if_pos (by simpa using hN1)], ?_⟩
  rw [if_pos hN1] at hF
  refine jO (jN (jv2 0 7 ?_))
  refine jS (jR (jM ?_))
  refine jM ?_
  refine Ops.r (Run.nilck rfl) rfl ?_
  refine Ops.r (Run.fieldAddr rfl Try.underlying132 rfl Try.sizeOf22 (by decide)) rfl ?_
  refine Ops.r (Run.load rfl Try.isAgg22 (hXd.1.cell 1)) rfl ?_
  refine jM ?_
  refine Ops.r (Run.conv8 _ rfl Try.underlying3 Try.underlying5) rfl ?_
  refine Ops.m (Does.buildS1 rfl Try.underlying22 Try.sizeOf5 zero5 (by decide) (by decide) rfl rfl) rfl ?_
  rintro _ w3 ⟨rfl, hF3⟩
  have hm : ((v1 % 256 : Nat) : Int) = ((v1 : Nat) : Int) := by rw [Nat.mod_eq_of_lt hc1]
  have hrd3 : Rd w3 1 (some ⟨w1.drew.heap.size, 0, none⟩) 1 (NB [v1]) := by
   have h5 : Rd w3 1 (some ⟨w1.drew.heap.size, 0, none⟩) 1 [.int .u8 ((v1 % 256 : Nat) : Int)] := Rd.of_blk (n := 1) (size := 1) hF3.blk rfl
   rw [hm] at h5
   exact h5
  have hX3 := hXd.frm0 hF3.frm
  have hfr3 := hfrd.trans hF3.frm (by simp)
  refine Ops.m (Does.app rfl rfl Try.underlying22 (info5) rfl (by decide) hX3.2.2.1 hrd3 (NB_one _) (by omega) (by omega)) rfl ?_
  rintro _ w4 ⟨B4, c4, rfl, ho4, hf4, hob4⟩
  have hb4 := hX3.1.frm hf4 hX3.gxA
  refine Ops.r (Run.nilck rfl) rfl ?_
  refine Ops.r (Run.fieldAddr rfl Try.underlying132 rfl Try.sizeOf22 (by decide)) rfl ?_
  refine Ops.st (Acts.store (i := 1) rfl rfl Try.sizeOf22 hb4 rfl rfl) ?_
  rintro w5 ⟨hb5, hf5, hs5⟩
  obtain ⟨hX5, hf35, hu5⟩ := hX3.app ho4 hf4 hob4 hb5 hf5 rfl (by omega) (fun x hx => by simp at hx; omega)
  have hsz3 := hfr3.size
  have hfr5 : Frm (gx :: gr :: ob A) w w5 := (hfr3.mono (T := gx :: gr :: ob A) (by simp)).trans hf35 (fun x hx => .inl (by rcases List.mem_cons.1 hx with rfl | hx <;> simp_all))
  refine jO (jN ?_)
  refine VC.sub [] .nil ?_
  refine jS (jR (jA ?_))
  refine jO (jN (jT ?_))
  refine thenQ_r (end1 rfl ?_)
  subst hF
  exact ⟨hfr5, B4, c4, rfl, hX5, fun y hy => (hu5 y hy).imp id (fun h => Nat.le_trans hsz3 h)⟩
 ·
  rw [if_neg hc1] at hF
  refine jQ (jN (jv3 0 2 7 ?_))
  refine jS (jS (jR (jM ?_)))
  refine Ops.r (Run.bin rfl rfl (Bin.eqlN _ 256)) rfl ?_
  refine jO (jN (jv4 0 2 7 41 ?_))
  refine VC.condD rfl (fun hc2 => ?_) (fun hc2 => ?_)
  ·
   rw [if_pos hc2] at hF
   refine jS (jR (jA ?_))
   refine jO (jN (jv1 6 ?_))
   refine jT ?_
   refine thenQ_r (end1 rfl ?_)
   subst hF
   exact ⟨hfr1.mono (by simp), A, c, rfl, hX1, fun y hy => .inl hy⟩
  ·
   rw [if_neg hc2] at hF
   refine jQ (jN (jv3 0 2 7 ?_))
   refine jS (jR (jM ?_))
   refine Ops.r (Run.bin rfl rfl (Bin.leqN _ 285)) rfl ?_
   refine Ops.clp (Enters.fn (evs.cons rfl (evs.cons rfl evs.nil)) Try.call92) (need_spec (decide (v1 ≤ 285)) 11 _) rfl ?_
   rintro e _ ⟨rfl, rfl⟩
   by_cases hN2 : v1 ≤ 285
   rotate_left
   ·
    refine .inr ⟨_, by rw [if_neg (by simpa using hN2)], thenQ_p (endQ_p ?_)⟩
    rw [if_pos (by omega)] at hF
    subst hF
    exact ⟨hfr1.mono (by simp), rfl⟩
   refine .inl ⟨_, by rw [if_pos (by simpa using hN2)], ?_⟩
   rw [if_neg (by omega)] at hF
   have hi29 : v1 - 257 < 29 := by omega
   obtain ⟨hlb, hll⟩ := long_b (v1 - 257) hi29
   have hlg : longT[v1 - 257]'(by have : longT.length = 29 := rfl; omega) = longT.getD (v1 - 257) (0, 0) := by simp [List.getD, List.getElem?_eq_getElem (show v1 - 257 < longT.length by have : longT.length = 29 := rfl; omega)]
   refine jO (jN (jv3 0 2 7 ?_))
   refine jS (jR ?_)
   refine Ops.cl (Enters.fn evs.nil Try.call83) (ilengths_spec _) rfl ?_
   rintro e w2 ⟨rfl, hf2⟩
   refine ⟨_, rfl, ?_⟩
   have hX2 := hX1.frm0 hf2
   have hDb2 := hDb1.frm hf2 (by simp)
   have hfr2 := hfr1.trans hf2 (by simp)
   refine jM ?_
   refine Ops.r (Run.bin rfl rfl (Bin.sub_i64 _ 257 (by omega) (by omega))) rfl ?_
   refine Ops.r (Run.indexArrA LC (v1 - 257) rfl rfl Try.underlying143 Try.isAgg142 Try.sizeOf142 LC_len rfl (by have : longT.length = 29 := rfl; omega)) rfl ?_
   rw [hlg]
   generalize longT.getD (v1 - 257) (0, 0) = lg at *
   refine Ops.m (Does.alloc zero142) rfl ?_
   rintro _ w3 ⟨rfl, hF3⟩
   have hb3 := hF3.blk
   have hX3 := hX2.frm0 hF3.frm
   have hDb3 := hDb2.frm hF3.frm (by simp)
   have hfr3 := hfr2.trans hF3.frm (by simp)
   have hlt2 := hX2.lt
   have hs2 := hfr2.size
   refine Ops.st (Acts.storeA rfl rfl Try.sizeOf142 hb3 rfl (LC_one lg)) ?_
   rintro w4 ⟨hb4, hf4, hs4⟩
   have hb4 : Blk w4 w2.heap.size 142 (LC lg).toArray := hb4
   have hX4 := hX3.frm hf4 (hX2.ob_ne (Nat.le_refl _))
   have hDb4 := hDb3.frm hf4 (fun x hx h5 => by have := (hDb2.1.lt); have h7 := hDb2.2.lt; simp at h5; rcases List.mem_cons.1 hx with h6 | hx; omega; have := h7 x hx; omega)
   have hfr4 : Frm [gr] w w4 := hfr3.trans hf4 (fun x hx => .inr (by simp at hx; omega))
   generalize hg2 : w2.heap.size = g2 at *
   refine jO (jN (jv3 0 2 8 ?_))
   refine jS ?_
   refine VC.held (fun v => Blk v g2 142 (LC lg).toArray) jK ?_
   have hd4 := Drawn.drew w4
   have hX4d := hX4.frm0 hd4.frm
   have hfr4d := hfr4.drawn hd4
   have hDb4d := hDb4.frm hd4.frm (by simp)
   have hS : (fun v => Blk v g2 142 (LC lg).toArray) w4.drew := hb4.drawn hd4
   refine jH 0 rfl hS (fun w0 hw0 => Run.fieldAddr rfl Try.underlying142 rfl Try.sizeOf3 (by decide)) ?_
   refine jH 1 rfl hS (fun w0 hw0 => Run.load rfl Try.isAgg3 (hw0.cell 0)) ?_
   refine jH 2 rfl hS (fun w0 hw0 => Run.mv rfl) ?_
   refine jH 3 rfl hS (fun w0 hw0 => Run.fieldAddr rfl Try.underlying142 rfl Try.sizeOf3 (by decide)) ?_
   refine jH 4 rfl hS (fun w0 hw0 => Run.load rfl Try.isAgg3 (hw0.cell 1)) ?_
   refine HOps.clp 5 rfl jK (Enters.fn (evs.cons rfl (evs.cons rfl evs.nil)) Try.call91) (itake_spec gx gr lg.2 p1 Ar A bs c out most _ (by omega) hbs hB hX4d) trivial rfl rfl ?_
   rintro e w5 ⟨hf5, he⟩
   have hfr5 := hfr4d.trans hf5 (fun x hx => .inl hx)
   rcases hT5 : takeF (ofB bs) lg.2 p1 with kk | ⟨v5, p5⟩
   ·
    rw [hT5] at he
    simp only [hT5, bnd_e] at hF
    subst hF
    exact .inr ⟨_, he, thenQ_p (endQ_p ⟨hfr5.mono (by simp), rfl⟩)⟩
   rw [hT5] at he
   simp only [hT5, bnd_k] at hF
   obtain ⟨rfl, hX5⟩ := he
   obtain ⟨hp5, hpl5, hv5, _⟩ := takeF_ok hT5
   have hS : (fun v => Blk v g2 142 (LC lg).toArray) w5 := (hb4.drawn hd4).frm hf5 (by simp; omega)
   have hv5b : 2 ^ lg.2 ≤ 2 ^ 5 := Nat.pow_le_pow_right (by omega) hlb
   have hDb5 := hDb4d.frm hf5 hgbr
   refine .inl ⟨_, rfl, hS, ?_⟩
   refine jH 6 rfl hS (fun w0 hw0 => Run.bin rfl rfl (Bin.add_i64 _ _ (by omega))) ?_
   refine jH 7 rfl hS (fun w0 hw0 => Run.asg rfl) ?_
   refine HOps.done jK ?_
   refine jN (jv3 0 2 9 ?_)
   refine jS (jR (jM ?_))
   refine jM ?_
   refine Ops.clp (Enters.fn (evs.cons rfl (evs.cons rfl evs.nil)) Try.call111) (isym_spec gx gr p5 gb Ar A _ _ b bs c out most _ hbl hbm hbs hB hX5 hDb5) rfl ?_
   rintro e w6 ⟨hf6, he⟩
   have hfr6 := hfr5.trans hf6 (fun x hx => .inl hx)
   rcases hT6 : symF (ofB bs) b p5 with kk | ⟨v6, p6⟩
   ·
    rw [hT6] at he
    simp only [hT6, bnd_e] at hF
    subst hF
    exact .inr ⟨_, he, thenQ_p (endQ_p ⟨hfr6.mono (by simp), rfl⟩)⟩
   rw [hT6] at he
   simp only [hT6, bnd_k] at hF
   obtain ⟨rfl, hX6⟩ := he
   obtain ⟨hp6, hpl6, hv6⟩ := symF_ok hbm (by rw [ofB_len]; exact hX5.2.2.2.2.1) hT6
   refine .inl ⟨_, rfl, ?_⟩
   refine jA ?_
   refine jO (jN (jv3 0 9 10 ?_))
   refine jS (jR (jM ?_))
   refine Ops.r (Run.bin rfl rfl (Bin.lssN _ 30)) rfl ?_
   refine Ops.clp (Enters.fn (evs.cons rfl (evs.cons rfl evs.nil)) Try.call92) (need_spec (decide (v6 < 30)) 11 _) rfl ?_
   rintro e _ ⟨rfl, rfl⟩
   by_cases hN3 : v6 < 30
   rotate_left
   ·
    refine .inr ⟨_, by rw [if_neg (by simpa using hN3)], thenQ_p (endQ_p ?_)⟩
    rw [if_pos (by omega)] at hF
    subst hF
    exact ⟨hfr6.mono (by simp), rfl⟩
   refine .inl ⟨_, by rw [if_pos (by simpa using hN3)], ?_⟩
   rw [if_neg (by omega)] at hF
   obtain ⟨hwb, hw1, hwl⟩ := way_b v6 hN3
   have hwg : wayT[v6]'(by have : wayT.length = 30 := rfl; omega) = wayT.getD v6 (0, 0) := by simp [List.getD, List.getElem?_eq_getElem (show v6 < wayT.length by have : wayT.length = 30 := rfl; omega)]
   refine jO (jN (jv3 0 9 10 ?_))
   refine jS (jR ?_)
   refine Ops.cl (Enters.fn evs.nil Try.call84) (iways_spec _) rfl ?_
   rintro e w7 ⟨rfl, hf7⟩
   refine ⟨_, rfl, ?_⟩
   have hX7 := hX6.frm0 hf7
   have hfr7 := hfr6.trans hf7 (by simp)
   refine jM ?_
   refine Ops.r (Run.indexArrA LC v6 rfl rfl Try.underlying145 Try.isAgg142 Try.sizeOf142 LC_len rfl (by have : wayT.length = 30 := rfl; omega)) rfl ?_
   rw [hwg]
   generalize wayT.getD v6 (0, 0) = wg at *
   refine Ops.m (Does.alloc zero142) rfl ?_
   rintro _ w8 ⟨rfl, hF8⟩
   have hb8 := hF8.blk
   have hX8 := hX7.frm0 hF8.frm
   have hfr8 := hfr7.trans hF8.frm (by simp)
   have hlt7 := hX7.lt
   have hs7 := hfr7.size
   refine Ops.st (Acts.storeA rfl rfl Try.sizeOf142 hb8 rfl (LC_one wg)) ?_
   rintro w9 ⟨hb9, hf9, hs9⟩
   have hb9 : Blk w9 w7.heap.size 142 (LC wg).toArray := hb9
   have hX9 := hX8.frm hf9 (hX7.ob_ne (Nat.le_refl _))
   have hfr9 : Frm [gr] w w9 := hfr8.trans hf9 (fun x hx => .inr (by simp at hx; omega))
   generalize hg7 : w7.heap.size = g7 at *
   refine jO (jN (jv3 0 9 11 ?_))
   refine jS ?_
   refine VC.held (fun v => Blk v g7 142 (LC wg).toArray) jK ?_
   have hd9 := Drawn.drew w9
   have hX9d := hX9.frm0 hd9.frm
   have hfr9d := hfr9.drawn hd9
   have hS : (fun v => Blk v g7 142 (LC wg).toArray) w9.drew := hb9.drawn hd9
   refine jH 0 rfl hS (fun w0 hw0 => Run.fieldAddr rfl Try.underlying142 rfl Try.sizeOf3 (by decide)) ?_
   refine jH 1 rfl hS (fun w0 hw0 => Run.load rfl Try.isAgg3 (hw0.cell 0)) ?_
   refine jH 2 rfl hS (fun w0 hw0 => Run.mv rfl) ?_
   refine jH 3 rfl hS (fun w0 hw0 => Run.fieldAddr rfl Try.underlying142 rfl Try.sizeOf3 (by decide)) ?_
   refine jH 4 rfl hS (fun w0 hw0 => Run.load rfl Try.isAgg3 (hw0.cell 1)) ?_
   refine HOps.clp 5 rfl jK (Enters.fn (evs.cons rfl (evs.cons rfl evs.nil)) Try.call91) (itake_spec gx gr wg.2 p6 Ar A bs c out most _ (by omega) hbs hB hX9d) trivial rfl rfl ?_
   rintro e w10 ⟨hf10, he⟩
   have hfr10 := hfr9d.trans hf10 (fun x hx => .inl hx)
   rcases hT10 : takeF (ofB bs) wg.2 p6 with kk | ⟨v10, p10⟩
   ·
    rw [hT10] at he
    simp only [hT10, bnd_e] at hF
    subst hF
    exact .inr ⟨_, he, thenQ_p (endQ_p ⟨hfr10.mono (by simp), rfl⟩)⟩
   rw [hT10] at he
   simp only [hT10, bnd_k] at hF
   obtain ⟨rfl, hX10⟩ := he
   obtain ⟨hp10, hpl10, hv10, _⟩ := takeF_ok hT10
   have hS : (fun v => Blk v g7 142 (LC wg).toArray) w10 := (hb9.drawn hd9).frm hf10 (by simp; omega)
   have hv10b : 2 ^ wg.2 ≤ 2 ^ 13 := Nat.pow_le_pow_right (by omega) hwb
   refine .inl ⟨_, rfl, hS, ?_⟩
   refine jH 6 rfl hS (fun w0 hw0 => Run.bin rfl rfl (Bin.add_i64 _ _ (by omega))) ?_
   refine jH 7 rfl hS (fun w0 hw0 => Run.asg rfl) ?_
   refine HOps.done jK ?_
   refine jN (jv3 0 9 12 ?_)
   refine jS (jR (jM ?_))
   refine jM ?_
   refine Ops.r (Run.nilck rfl) rfl ?_
   refine Ops.r (Run.fieldAddr rfl Try.underlying132 rfl Try.sizeOf22 (by decide)) rfl ?_
   refine Ops.r (Run.load rfl Try.isAgg22 (hX10.1.cell 1)) rfl ?_
   refine Ops.r (Run.lenS rfl Try.underlying22) rfl ?_
   refine Ops.r (Run.bin rfl rfl (Bin.leqN _ _)) rfl ?_
   refine Ops.clp (Enters.fn (evs.cons rfl (evs.cons rfl evs.nil)) Try.call92) (need_spec (decide (wg.1 + v10 ≤ out.length)) 12 _) rfl ?_
   rintro e _ ⟨rfl, rfl⟩
   by_cases hN4 : wg.1 + v10 ≤ out.length
   rotate_left
   ·
    refine .inr ⟨_, by rw [if_neg (by simpa using hN4)], thenQ_p (endQ_p ?_)⟩
    rw [if_pos (by omega)] at hF
    subst hF
    exact ⟨hfr10.mono (by simp), rfl⟩
   refine .inl ⟨_, by rw [if_pos (by simpa using hN4)], ?_⟩
   rw [if_neg (by omega)] at hF
   have hd10 := Drawn.drew w10
   have hX10d := hX10.frm0 hd10.frm
   have hfr10d := hfr10.drawn hd10
   refine jO (jN (jv3 0 9 12 ?_))
   refine jS ?_
   refine VC.tail 12 jK jK ?_
   simp only [List.take_succ_cons, List.take_zero, List.drop_succ_cons, List.drop_zero]
   refine SOps.r (Run.mv rfl) rfl ?_
   refine SOps.r (Run.mv rfl) rfl ?_
   refine SOps.r (Run.nilck rfl) rfl ?_
   refine SOps.r (Run.fieldAddr rfl Try.underlying132 rfl Try.sizeOf3 (by decide)) rfl ?_
   refine SOps.r (Run.load rfl Try.isAgg3 (hX10d.1.cell 2)) rfl ?_
   refine SOps.r (Run.mv rfl) rfl ?_
   refine SOps.r (Run.nilck rfl) rfl ?_
   refine SOps.r (Run.fieldAddr rfl Try.underlying132 rfl Try.sizeOf22 (by decide)) rfl ?_
   refine SOps.r (Run.load rfl Try.isAgg22 (hX10d.1.cell 1)) rfl ?_
   refine SOps.r (Run.lenS rfl Try.underlying22) rfl ?_
   refine SOps.r (Run.bin rfl rfl (Bin.sub_i64 _ _ (by omega) (by omega))) rfl ?_
   refine SOps.r (Run.bin rfl rfl (Bin.leqN _ _)) rfl ?_
   refine SOps.nil ?_
   refine Ops.clp (Enters.fn (evs.cons rfl (evs.cons rfl evs.nil)) Try.call92) (need_spec (decide (lg.1 + v5 ≤ most - out.length)) 13 _) rfl ?_
   rintro e _ ⟨rfl, rfl⟩
   by_cases hN5 : lg.1 + v5 ≤ most - out.length
   rotate_left
   ·
    refine .inr ⟨_, by rw [if_neg (by simpa using hN5)], thenQ_p (endQ_p ?_)⟩
    rw [if_pos (by omega)] at hF
    subst hF
    exact ⟨hfr10d.mono (by simp), rfl⟩
   refine .inl ⟨_, by rw [if_pos (by simpa using hN5)], ?_⟩
   rw [if_neg (by omega)] at hF
   have hs10 := hfr10d.size
   have hfr11 : Frm (gx :: gr :: ob A) w w10.drew := hfr10d.mono (by simp)
   refine jO (jN (jv3 0 9 12 ?_))
   refine jS (jS (jR (jM ?_)))
   refine Ops.r (v := .int .i64 ((0 : Nat) : Int)) (Run.mv rfl) rfl ?_
   refine jO (jN (jv4 0 12 93 94 ?_))
   refine jB ?_
   refine VC.loop (σ := Nat × List Nat × Option Addr × Nat) (fun s => [(0, .pointer (some ⟨gx, 0, none⟩)), (12, .int .i64 ((wg.1 + v10 : Nat) : Int)), (93, .int .i64 ((lg.1 + v5 : Nat) : Int)), (94, .int .i64 ((s.1 : Nat) : Int))]) (fun s wr => s.1 ≤ lg.1 + v5 ∧ copyF (lg.1 + v5 - s.1) (wg.1 + v10) s.2.1 = copyF (lg.1 + v5) (wg.1 + v10) out ∧ s.2.1.length = out.length + s.1 ∧ IsX wr gx gr Ar bs p10 s.2.2.1 s.2.2.2 s.2.1 most ∧ Frm (gx :: gr :: ob A) w wr ∧ ∀ y ∈ ob s.2.2.1, y ∈ ob A ∨ w.heap.size ≤ y) (fun s => lg.1 + v5 - s.1) (0, out, A, c) (js4 rfl rfl rfl rfl) ⟨by omega, rfl, rfl, hX10d, hfr11, fun y hy => .inl hy⟩ ?_
   rintro ⟨i, o, A2, c2⟩ wr ⟨hi, hcp, hol, hXr, hfr, hu⟩
   dsimp only at hi hcp hol hXr hfr hu ⊢
   have hdr := Drawn.drew wr
   have hXs := hXr.frm0 hdr.frm
   have hfrs := hfr.drawn hdr
   refine jS (jR ?_)
   refine Ops.r (Run.bin rfl rfl (Bin.lssN _ _)) rfl ?_
   refine jO (jN (jS ?_))
   refine VC.condD rfl (fun hc3 => ?_) (fun hc3 => ?_)
   ·
    obtain ⟨adk, hAk, hck⟩ := nb_at hXs.2.2.1.rd (k := o.length - (wg.1 + v10)) (by omega)
    subst hAk
    obtain ⟨k, hk⟩ : ∃ k, lg.1 + v5 - i = k + 1 := ⟨lg.1 + v5 - i - 1, by omega⟩
    have hlo : o.getD (o.length - (wg.1 + v10)) 0 < 256 := by
     have h5 : o.length - (wg.1 + v10) < o.length := by omega
     simp only [List.getD, List.getElem?_eq_getElem h5, Option.getD_some]
     exact hXs.2.2.2.2.2.2 _ (List.getElem_mem _)
    rw [hk, copyF] at hcp
    generalize o.getD (o.length - (wg.1 + v10)) 0 = xo at *
    refine jQ (jN (jv4 0 12 93 94 ?_))
    refine jS (jB ?_)
    refine VC.heldL 22 (fun v => Blk v gx 132 #[.pointer (some ⟨gr, 0, none⟩), .slice (some adk) o.length c2, .int .i64 ((most : Nat) : Int)]) jK ?_
    have hS : (fun v => Blk v gx 132 #[.pointer (some ⟨gr, 0, none⟩), .slice (some adk) o.length c2, .int .i64 ((most : Nat) : Int)]) wr.drew := hXs.1
    refine jH 0 rfl hS (fun w0 hw0 => Run.mv rfl) ?_
    refine jH 1 rfl hS (fun w0 hw0 => Run.mv rfl) ?_
    refine jH 2 rfl hS (fun w0 hw0 => Run.nilck rfl) ?_
    refine jH 3 rfl hS (fun w0 hw0 => Run.fieldAddr rfl Try.underlying132 rfl Try.sizeOf22 (by decide)) ?_
    refine jH 4 rfl hS (fun w0 hw0 => Run.load rfl Try.isAgg22 (hw0.cell 1)) ?_
    refine jH 5 rfl hS (fun w0 hw0 => Run.mv rfl) ?_
    refine jH 6 rfl hS (fun w0 hw0 => Run.nilck rfl) ?_
    refine jH 7 rfl hS (fun w0 hw0 => Run.fieldAddr rfl Try.underlying132 rfl Try.sizeOf22 (by decide)) ?_
    refine jH 8 rfl hS (fun w0 hw0 => Run.load rfl Try.isAgg22 (hw0.cell 1)) ?_
    refine jH 9 rfl hS (fun w0 hw0 => Run.mv rfl) ?_
    refine jH 10 rfl hS (fun w0 hw0 => Run.nilck rfl) ?_
    refine jH 11 rfl hS (fun w0 hw0 => Run.fieldAddr rfl Try.underlying132 rfl Try.sizeOf22 (by decide)) ?_
    refine jH 12 rfl hS (fun w0 hw0 => Run.load rfl Try.isAgg22 (hw0.cell 1)) ?_
    refine jH 13 rfl hS (fun w0 hw0 => Run.lenS rfl Try.underlying22) ?_
    refine HOps.r1 14 rfl jK hS (Run.mv rfl) trivial rfl rfl ?_
    refine HOps.r1 15 rfl jK hS (Run.bin rfl rfl (Bin.sub_i64 _ _ (by omega) (by omega))) trivial rfl rfl ?_
    refine HOps.r1 16 rfl jK hS (Run.index1 _ rfl rfl Try.underlying22 Try.sizeOf5 (by omega)) trivial rfl rfl ?_
    refine HOps.r1 17 rfl jK hS (Run.load rfl Try.isAgg5 hck) trivial rfl rfl ?_
    refine HOps.m 18 rfl jK (Does.buildS1 rfl Try.underlying22 Try.sizeOf5 zero5 (by decide) (by decide) rfl rfl) trivial rfl rfl ?_
    rintro _ w3 ⟨rfl, hF3⟩
    have hrd3 : Rd w3 1 (some ⟨wr.drew.heap.size, 0, none⟩) 1 (NB [xo]) := Rd.of_blk (n := 1) (size := 1) hF3.blk rfl
    have hX3 := hXs.frm0 hF3.frm
    have hfr3 := hfrs.trans hF3.frm (by simp)
    have hS : (fun v => Blk v gx 132 #[.pointer (some ⟨gr, 0, none⟩), .slice (some adk) o.length c2, .int .i64 ((most : Nat) : Int)]) w3 := hX3.1
    refine ⟨hS, ?_⟩
    refine HOps.m 19 rfl jK (Does.app rfl rfl Try.underlying22 (info5) rfl (by decide) hX3.2.2.1 hrd3 (NB_one _) (by omega) (by omega)) trivial rfl rfl ?_
    rintro _ w4 ⟨B4, c4, rfl, ho4, hf4, hob4⟩
    have hb4 := hX3.1.frm hf4 hX3.gxA
    have hS := hb4
    refine ⟨hS, ?_⟩
    refine HOps.r1 20 rfl jK hS (Run.nilck rfl) trivial rfl rfl ?_
    refine HOps.r1 21 rfl jK hS (Run.fieldAddr rfl Try.underlying132 rfl Try.sizeOf22 (by decide)) trivial rfl rfl ?_
    refine HOps.stL rfl jK (Acts.store (i := 1) rfl rfl Try.sizeOf22 hb4 rfl rfl) trivial rfl ?_
    rintro w5 ⟨hb5, hf5, hs5⟩
    obtain ⟨hX5, hf35, hu5⟩ := hX3.app ho4 hf4 hob4 hb5 hf5 rfl (by omega) (fun x hx => by simp at hx; omega)
    have hsz3 := hfr3.size
    have hfr5 : Frm (gx :: gr :: ob A) w w5 := hfr3.trans hf35 (fun x hx => by rcases List.mem_cons.1 hx with rfl | hx; exact .inl (by simp); rcases hu x hx with h6 | h6; exact .inl (by simp [h6]); exact .inr h6)
    refine HOps.done jK ?_
    refine blockQ_n (jN ?_)
    refine jv4 0 12 93 94 ?_
    refine jR ?_
    refine Ops.r (Run.bin rfl rfl (Bin.add_i64 _ 1 (by omega))) rfl ?_
    refine jM ?_
    refine jO ?_
    refine jN ⟨(i + 1, o ++ [xo], B4, c4), (js4 rfl rfl rfl rfl), ?_, ?_⟩
    ·
     refine ⟨by dsimp only; omega, ?_, by dsimp only; rw [List.length_append]; simp; omega, hX5, hfr5, fun y hy => (hu5 y hy).elim (hu y) (fun h => .inr (Nat.le_trans hsz3 h))⟩
     dsimp only
     rw [← hcp, show lg.1 + v5 - (i + 1) = k by omega]
    ·
     first | omega | (dsimp only; omega)
   ·
    have hin : i = lg.1 + v5 := by omega
    subst hin
    rw [Nat.sub_self] at hcp
    simp only [copyF] at hcp
    refine jX ?_
    refine thenQ_x (thenQ_x (blockQ_x ?_))
    refine jN ?_
    refine VC.sub [] .nil ?_
    refine jS (jR (jA ?_))
    refine jO (jN (jT ?_))
    refine end1 rfl ?_
    subst hF
    exact ⟨hfr, A2, c2, rfl, by rw [← hcp]; exact hXr, hu⟩
end Go.Proofs.Ytnmieihcjjiccaa
namespace Go.Proofs.Ytnmieihcjjiccaa
open Go.RowKit
theorem tokenF_lt {L : List Bool} {a b : List Int} {most p : Nat} {out : List Nat} {x : Bool × Nat × List Nat} (hm : mostC a ≤ 15) (hm2 : mostC b ≤ 15) (hp : p ≤ L.length) (h : tokenF L a b most p out = .ok x) : p < x.2.1 ∧ x.2.1 ≤ L.length := by
 unfold tokenF at h
 rcases hS : symF L a p with k | ⟨s, p1⟩
 ·
  rw [hS] at h; cases h
 rw [hS, bnd_k] at h
 obtain ⟨h1, h2, _⟩ := symF_ok hm hp hS
 dsimp only at h
 split at h
 ·
  split at h
  ·
   injection h with h; subst h; exact ⟨h1, h2⟩
  ·
   cases h
 split at h
 ·
  injection h with h; subst h; exact ⟨h1, h2⟩
 split at h
 ·
  cases h
 generalize longT.getD (s - 257) (0, 0) = lg at h
 rcases hT : takeF L lg.2 p1 with k | ⟨v, p2⟩
 ·
  rw [hT] at h; cases h
 rw [hT, bnd_k] at h
 obtain ⟨h3, h4, _, _⟩ := takeF_ok hT
 dsimp only at h
 rcases hS2 : symF L b p2 with k | ⟨s2, p3⟩
 ·
  rw [hS2] at h; cases h
 rw [hS2, bnd_k] at h
 obtain ⟨h5, h6, _⟩ := symF_ok hm2 (by omega) hS2
 dsimp only at h
 split at h
 ·
  cases h
 generalize wayT.getD s2 (0, 0) = wg at h
 rcases hT2 : takeF L wg.2 p3 with k | ⟨v2, p4⟩
 ·
  rw [hT2] at h; cases h
 rw [hT2, bnd_k] at h
 obtain ⟨h7, h8, _, _⟩ := takeF_ok hT2
 dsimp only at h
 split at h
 ·
  cases h
 split at h
 ·
  cases h
 injection h with h; subst h
 show p < p4 ∧ p4 ≤ L.length
 omega
theorem IsX.ofD {w : World} {gx gr : Nat} {Ar : Option Addr} {bs : List Nat} {p : Nat} {A : Option Addr} {c : Nat} {out : List Nat} {most g : Nat} {B : Option Addr} {d : Nat} {f F : Nat → Nat} {sy : List Nat} {m : Nat} (h : IsX w gx gr Ar bs p A c out most) (hD : IsD w g B d f F sy m) : ∀ x ∈ g :: ob B, x ∉ gx :: gr :: ob A := fun x hx h5 => by
 rcases List.mem_cons.1 h5 with rfl | h5
 ·
  rcases List.mem_cons.1 hx with h6 | hx
  ·
   exact hD.1.ne h.1 (by decide) h6.symm
  ·
   exact hD.2.ne_blk h.1 (by decide) hx
 rcases List.mem_cons.1 h5 with rfl | h5
 ·
  rcases List.mem_cons.1 hx with h6 | hx
  ·
   exact hD.1.ne h.2.1.choose_spec.1 (by decide) h6.symm
  ·
   exact hD.2.ne_blk h.2.1.choose_spec.1 (by decide) hx
 rcases List.mem_cons.1 hx with h6 | hx
 ·
  subst h6; exact h.2.2.1.ne_blk hD.1 (by decide) h5
 ·
  exact hD.2.ne_own h.2.2.1 (by decide) x hx h5
set_option maxRecDepth 100000 in
theorem itokens_spec (gx gr p ga gb f : Nat) (Ar A Ba Bb : Option Addr) (ca cb : Nat) (a b : List Int) (bs : List Nat) (c : Nat) (out : List Nat) (most : Nat) (w : World) (hna : newE a = 0) (hnb : newE b = 0) (hfp : 8 * bs.length < f + p) (hmo : most ≤ 1000000) (hbs : bs.length ≤ 1000000) (hB : ∀ b ∈ bs, b < 256) (hX : IsX w gx gr Ar bs p A c out most)
  (hDa : IsD w ga Ba ca (cn a) (fst' a) (order a) (mostC a)) (hDb : IsD w gb Bb cb (cn b) (fst' b) (order b) (mostC b)) :
  Calls Try.prog 94 #[.pointer (some ⟨gx, 0, none⟩), .pointer (some ⟨ga, 0, none⟩), .pointer (some ⟨gb, 0, none⟩)] w fun e w' => Frm (gx :: gr :: ob A) w w' ∧ match tokensF (ofB bs) a b most f p out with
   | .error k => e = .panicked (Pan k)
   | .ok x => ∃ A' c', e = .returned (.tuple #[]) ∧ IsX w' gx gr Ar bs x.1 A' c' x.2 most ∧ ∀ y ∈ ob A', y ∈ ob A ∨ w.heap.size ≤ y := by
 generalize hF : tokensF (ofB bs) a b most f p out = F
 obtain ⟨hal, ham⟩ := newE_good hna
 obtain ⟨hbl, hbm⟩ := newE_good hnb
 refine VC.calls (nt := 10) (res := #[]) Try.func94 rfl Try.ntmps94 Try.results94 rfl ?_
 refine jB ?_
 refine VC.loop (σ := Nat × Nat × List Nat × Option Addr × Nat) (fun s => [(0, .pointer (some ⟨gx, 0, none⟩)), (1, .pointer (some ⟨ga, 0, none⟩)), (2, .pointer (some ⟨gb, 0, none⟩))]) (fun s wr => tokensF (ofB bs) a b most s.1 s.2.1 s.2.2.1 = F ∧ 8 * bs.length < s.1 + s.2.1 ∧ IsX wr gx gr Ar bs s.2.1 s.2.2.2.1 s.2.2.2.2 s.2.2.1 most ∧ IsD wr ga Ba ca (cn a) (fst' a) (order a) (mostC a) ∧ IsD wr gb Bb cb (cn b) (fst' b) (order b) (mostC b) ∧ Frm (gx :: gr :: ob A) w wr ∧ ∀ y ∈ ob s.2.2.2.1, y ∈ ob A ∨ w.heap.size ≤ y) (fun s => 8 * bs.length + 1 - s.2.1) (f, p, out, A, c) (js3 rfl rfl rfl) ⟨hF, hfp, hX, hDa, hDb, Frm.refl _ _, fun y hy => .inl hy⟩ ?_
 clear hF hX hDa hDb
 rintro ⟨f, q, o, A2, c2⟩ wr ⟨hF, hfq, hX, hDa, hDb, hfr, hu⟩
 dsimp only at hF hfq hX hDa hDb hfr hu ⊢
 have hp := hX.2.2.2.2.1
 have hp2 : q ≤ (ofB bs).length := by rw [ofB_len]; exact hp
 obtain ⟨f, rfl⟩ : ∃ f', f = f' + 1 := ⟨f - 1, by omega⟩
 simp only [tokensF] at hF
 have hs := hfr.size
 refine jS (jS (jR (jM ?_)))
 refine jM ?_
 refine jM ?_
 refine Ops.clp (Enters.fn (evs.cons rfl (evs.cons rfl (evs.cons rfl evs.nil))) Try.call105) (itoken_spec gx gr q ga gb Ar A2 Ba Bb ca cb a b bs c2 o most _ hna hnb hmo hbs hB hX hDa hDb) rfl ?_
 rintro e w1 ⟨hf1, he⟩
 have hfr1 : Frm (gx :: gr :: ob A) w w1 := hfr.trans hf1 (fun x hx => by
  rcases List.mem_cons.1 hx with rfl | hx
  ·
   exact .inl (by simp)
  rcases List.mem_cons.1 hx with rfl | hx
  ·
   exact .inl (by simp)
  rcases hu x hx with h6 | h6
  ·
   exact .inl (by simp [h6])
  ·
   exact .inr h6)
 rcases hT : tokenF (ofB bs) a b most q o with kk | ⟨go, q2, o2⟩
 ·
  rw [hT] at he hF
  simp only [bnd_e] at hF
  subst hF
  exact .inr ⟨_, he, thenQ_p (thenQ_p (thenQ_p (blockQ_p (endQ_p ⟨hfr1, rfl⟩))))⟩
 have hlt := (tokenF_lt ham hbm hp2 hT).1
 rw [hT] at he hF
 simp only [bnd_k] at hF
 obtain ⟨A3, c3, rfl, hX1, hu1⟩ := he
 dsimp only at hX1 hu1 hF hlt
 have hDa1 := hDa.frm hf1 (hX.ofD hDa)
 have hDb1 := hDb.frm hf1 (hX.ofD hDb)
 have hp3 := hX1.2.2.2.2.1
 refine .inl ⟨_, rfl, ?_⟩
 refine jO (jN (jv4 0 1 2 9 ?_))
 refine VC.condB rfl (fun hc1 => ?_) (fun hc1 => ?_)
 ·
  refine jQ (jN (jv3 0 1 2 ?_))
  refine jB (jQ ?_)
  refine blockQ_n (jN ⟨(f, q2, o2, A3, c3), (js3 rfl rfl rfl), ?_, ?_⟩)
  ·
   rw [if_pos hc1] at hF
   exact ⟨hF, by dsimp only; omega, hX1, hDa1, hDb1, hfr1, fun y hy => (hu1 y hy).elim (hu y) (fun h => .inr (Nat.le_trans hs h))⟩
  ·
   dsimp only; omega
 ·
  refine jX ?_
  refine thenQ_x (thenQ_x (blockQ_x ?_))
  refine end0n ?_
  rw [if_neg (by simpa using hc1)] at hF
  subst hF
  exact ⟨hfr1, A3, c3, rfl, hX1, fun y hy => (hu1 y hy).elim (hu y) (fun h => .inr (Nat.le_trans hs h))⟩
end Go.Proofs.Ytnmieihcjjiccaa
namespace Go.Proofs.Ytnmieihcjjiccaa
open Go.RowKit
theorem storedF_le {bs : List Nat} {most p : Nat} {out : List Nat} {x : Nat × List Nat} (h : storedF bs most p out = .ok x) : p < x.1 := by
 unfold storedF at h
 rcases hT : takeF (ofB bs) 16 ((p + 7) / 8 * 8) with k | ⟨v, p2⟩
 ·
  rw [hT] at h; cases h
 rw [hT, bnd_k] at h
 obtain ⟨h3, h4, _, _⟩ := takeF_ok hT
 dsimp only at h
 rcases hT2 : takeF (ofB bs) 16 p2 with k | ⟨v2, p3⟩
 ·
  rw [hT2] at h; cases h
 rw [hT2, bnd_k] at h
 obtain ⟨h7, h8, _, _⟩ := takeF_ok hT2
 dsimp only at h
 split at h
 ·
  cases h
 split at h
 ·
  cases h
 split at h
 ·
  cases h
 simp only [Except.ok.injEq] at h
 subst h
 show p < p3 + 8 * v
 omega
theorem fixedL_len : fixedL.length = 288 := by decide +kernel
theorem fixedW_len : fixedW.length = 32 := by decide +kernel
set_option maxRecDepth 100000 in
theorem iblock_spec (gx gr p : Nat) (Ar A : Option Addr) (bs : List Nat) (c : Nat) (out : List Nat) (most : Nat) (w : World) (hmo : most ≤ 1000000) (hbs : bs.length ≤ 1000000) (hB : ∀ b ∈ bs, b < 256) (hX : IsX w gx gr Ar bs p A c out most) :
  Calls Try.prog 77 #[.pointer (some ⟨gx, 0, none⟩)] w fun e w' => Frm (gx :: gr :: ob A) w w' ∧ match blockF bs most p out with
   | .error k => e = .panicked (Pan k)
   | .ok x => ∃ A' c', e = .returned (.bool x.1) ∧ IsX w' gx gr Ar bs x.2.1 A' c' x.2.2 most ∧ ∀ y ∈ ob A', y ∈ ob A ∨ w.heap.size ≤ y := by
 generalize hF : blockF bs most p out = F
 unfold blockF at hF
 refine VC.calls (nt := 43) (res := #[.tmp 2]) Try.func77 rfl Try.ntmps77 Try.results77 rfl ?_
 refine jS (jR (jA ?_))
 refine jO (jN (jv1 0 ?_))
 refine jS (jR (jM ?_))
 refine Ops.clp (Enters.fn (evs.cons rfl (evs.cons rfl evs.nil)) Try.call91) (itake_spec gx gr 1 p Ar A bs c out most _ (by omega) hbs hB hX) rfl ?_
 rintro e w1 ⟨hf1, he⟩
 have hfr1 := hf1
 rcases hT1 : takeF (ofB bs) 1 p with kk | ⟨v1, p1⟩
 ·
  rw [hT1] at he
  simp only [hT1, bnd_e] at hF
  subst hF
  exact .inr ⟨_, he, thenQ_p (endQ_p ⟨hfr1.mono (by simp), rfl⟩)⟩
 rw [hT1] at he
 simp only [hT1, bnd_k] at hF
 obtain ⟨rfl, hX1⟩ := he
 obtain ⟨hp1, hpl1, hv1, _⟩ := takeF_ok hT1
 refine .inl ⟨_, rfl, ?_⟩
 refine jM ?_
 refine Ops.clp (Enters.fn (evs.cons rfl (evs.cons rfl evs.nil)) Try.call91) (itake_spec gx gr 2 p1 Ar A bs c out most _ (by omega) hbs hB hX1) rfl ?_
 rintro e w2 ⟨hf2, he⟩
 have hfr2 := hfr1.trans hf2 (fun x hx => .inl hx)
 rcases hT2 : takeF (ofB bs) 2 p1 with kk | ⟨v2, p2⟩
 ·
  rw [hT2] at he
  simp only [hT2, bnd_e] at hF
  subst hF
  exact .inr ⟨_, he, thenQ_p (endQ_p ⟨hfr2.mono (by simp), rfl⟩)⟩
 rw [hT2] at he
 simp only [hT2, bnd_k] at hF
 obtain ⟨rfl, hX2⟩ := he
 obtain ⟨hp2, hpl2, hv2, _⟩ := takeF_ok hT2
 refine .inl ⟨_, rfl, ?_⟩
 rw [ofB_len] at hpl1 hpl2
 have hs2 := hfr2.size
 refine jA ?_
 refine jA ?_
 refine jO (jN (jv3 0 3 4 ?_))
 refine jS (jR (jM ?_))
 refine Ops.r (Run.bin rfl rfl (Bin.lssN _ 3)) rfl ?_
 refine Ops.clp (Enters.fn (evs.cons rfl (evs.cons rfl evs.nil)) Try.call92) (need_spec (decide (v2 < 3)) 3 _) rfl ?_
 rintro e _ ⟨rfl, rfl⟩
 by_cases hN1 : v2 < 3
 rotate_left
 ·
  refine .inr ⟨_, by rw [if_neg (by simpa using hN1)], thenQ_p (endQ_p ?_)⟩
  rw [if_pos hN1] at hF
  subst hF
  exact ⟨hfr2.mono (by simp), rfl⟩
 refine .inl ⟨_, by rw [if_pos (by simpa using hN1)], ?_⟩
 rw [if_neg (by simpa using hN1)] at hF
 refine jO (jN (jv3 0 3 4 ?_))
 refine jS (jS (jR (jM ?_)))
 refine jO (jN (jv3 0 3 14 ?_))
 refine jB (jS (jR ?_))
 refine Ops.r (Run.bin rfl rfl (Bin.eqlN _ 0)) rfl ?_
 refine jA ?_
 refine jO (jN (jv4 0 3 14 15 ?_))
 refine VC.condD rfl (fun hc1 => ?_) (fun hc1 => ?_)
 ·
  rw [if_pos hc1] at hF
  refine jS (jR (jM ?_))
  refine Ops.clp (Enters.fn (evs.cons rfl evs.nil) Try.call93) (istored_spec gx gr p2 Ar A bs c out most _ hmo hbs hB hX2) rfl ?_
  rintro e w3 ⟨hf3, he⟩
  have hfr3 : Frm (gx :: gr :: ob A) w w3 := (hfr2.mono (T := gx :: gr :: ob A) (by simp)).trans hf3 (fun x hx => .inl hx)
  rcases hT3 : storedF bs most p2 out with kk | ⟨q3, o3⟩
  ·
   rw [hT3] at he hF
   simp only [bnd_e] at hF
   subst hF
   exact .inr ⟨_, he, thenQ_p (blockQ_p (thenQ_p (endQ_p ⟨hfr3, rfl⟩)))⟩
  rw [hT3] at he hF
  simp only [bnd_k] at hF
  obtain ⟨A3, c3, rfl, hX3, hu3⟩ := he
  dsimp only at hX3 hu3 hF
  subst hF
  refine .inl ⟨_, rfl, ?_⟩
  refine jO (jN (jv1 3 ?_))
  refine jS (jR (jM ?_))
  refine Ops.r (Run.bin rfl rfl (Bin.eqlN _ 0)) rfl ?_
  refine jA ?_
  refine jO (jN (jv1 2 ?_))
  refine jT ?_
  refine blockQ_r (thenQ_r (end1 rfl ?_))
  exact ⟨hfr3, A3, c3, rfl, hX3, fun y hy => (hu3 y hy).imp id (fun h => Nat.le_trans hs2 h)⟩
 ·
  rw [if_neg hc1] at hF
  refine jS (jR ?_)
  refine Ops.r (Run.bin rfl rfl (Bin.eqlN _ 1)) rfl ?_
  refine jA ?_
  refine jO (jN (jv4 0 3 14 21 ?_))
  refine VC.condD rfl (fun hc2 => ?_) (fun hc2 => ?_)
  ·
   rw [if_pos hc2] at hF
   obtain ⟨hg1, hg2, _⟩ := fixed_good
   refine jS (jR ?_)
   refine Ops.cl (Enters.fn evs.nil Try.call20) (ifixed_spec _) rfl ?_
   rintro e w3 ⟨A3, c3, B3, d3, rfl, hO3, hQ3, hf3⟩
   refine ⟨_, rfl, ?_⟩
   have hX3 := hX2.frm0 hf3
   have hfr3 := hfr2.trans hf3 (by simp)
   refine jM ?_
   refine Ops.r (Run.extract rfl rfl) rfl ?_
   refine Ops.r (Run.extract rfl rfl) rfl ?_
   refine jA ?_
   refine jA ?_
   refine jO (jN (jv4 0 3 5 6 ?_))
   refine jR (jM ?_)
   refine jM ?_
   refine Ops.clp (Enters.fn (evs.cons rfl evs.nil) Try.call95) (code_at _ _ fixedL 288 _ (by rw [fixedL_len]; omega) fixedL_len hO3.rd) rfl ?_
   rintro e w4 ⟨hf4, he⟩
   have hfr4 := (hfr3).trans hf4 (by simp)
   rw [if_pos hg1] at he
   obtain ⟨gd4, Bd4, cd4, rfl, hD4, hgd4⟩ := he
   refine .inl ⟨_, rfl, ?_⟩
   have hX4 := hX3.frm0 hf4
   have hQ4 := hQ3.frm hf4 (by simp)
   refine jM ?_
   refine Ops.clp (Enters.fn (evs.cons rfl evs.nil) Try.call95) (code_at _ _ fixedW 32 _ (by rw [fixedW_len]; omega) fixedW_len hQ4.rd) rfl ?_
   rintro e w5 ⟨hf5, he⟩
   have hfr5 := (hfr4).trans hf5 (by simp)
   rw [if_pos hg2] at he
   obtain ⟨gd5, Bd5, cd5, rfl, hD5, hgd5⟩ := he
   refine .inl ⟨_, rfl, ?_⟩
   have hX5 := hX4.frm0 hf5
   have hD45 := hD4.frm hf5 (by simp)
   refine Ops.clp (Enters.fn (evs.cons rfl (evs.cons rfl (evs.cons rfl evs.nil))) Try.call94) (itokens_spec gx gr p2 gd4 gd5 (8 * bs.length + 1) Ar A Bd4 Bd5 _ _ fixedL fixedW bs c out most _ hg1 hg2 (by omega) hmo hbs hB hX5 hD45 hD5) rfl ?_
   rintro e w6 ⟨hf6, he⟩
   have hfr6 : Frm (gx :: gr :: ob A) w w6 := (hfr5.mono (T := gx :: gr :: ob A) (by simp)).trans hf6 (fun x hx => .inl hx)
   rcases hT6 : tokensF (ofB bs) fixedL fixedW most (8 * bs.length + 1) p2 out with kk | ⟨q6, o6⟩
   ·
    rw [hT6] at he hF
    simp only [bnd_e] at hF
    subst hF
    exact .inr ⟨_, he, blockQ_p (thenQ_p (endQ_p ⟨hfr6, rfl⟩))⟩
   rw [hT6] at he hF
   simp only [bnd_k] at hF
   obtain ⟨A6, c6, rfl, hX6, hu6⟩ := he
   dsimp only at hX6 hu6 hF
   subst hF
   refine .inl ⟨_, rfl, ?_⟩
   refine jO ?_
   refine blockQ_n (jN ?_)
   refine jv1 3 ?_
   refine jS (jR (jM ?_))
   refine Ops.r (Run.bin rfl rfl (Bin.eqlN _ 0)) rfl ?_
   refine jA ?_
   refine jO (jN (jv1 2 ?_))
   refine jT ?_
   refine end1 rfl ?_
   exact ⟨hfr6, A6, c6, rfl, hX6, fun y hy => (hu6 y hy).imp id (fun h => Nat.le_trans hfr5.size h)⟩
  ·
   rw [if_neg hc2] at hF
   refine jS (jR ?_)
   refine Ops.r (Run.bin rfl rfl (Bin.eqlN _ 2)) rfl ?_
   refine jA ?_
   refine jO (jN (jv3 0 3 33 ?_))
   refine VC.condD rfl (fun hc3 => ?_) (fun hc3 => ?_)
   ·
    refine jR (jM ?_)
    refine jM ?_
    refine Ops.clp (Enters.fn (evs.cons rfl evs.nil) Try.call96) (idyn_spec gx gr p2 Ar A bs c out most _ hbs hB hX2) rfl ?_
    rintro e w3 ⟨hf3, he⟩
    have hfr3 := hfr2.trans hf3 (fun x hx => .inl hx)
    rcases hT3 : dynF (ofB bs) p2 with kk | ⟨q3, la, lb⟩
    ·
     rw [hT3] at he hF
     simp only [bnd_e] at hF
     subst hF
     exact .inr ⟨_, he, blockQ_p (thenQ_p (endQ_p ⟨hfr3.mono (by simp), rfl⟩))⟩
    rw [hT3] at he hF
    simp only [bnd_k] at hF
    obtain ⟨ga, Ba, ca, gb, Bb, cb, rfl, hX3, hDa, hDb, hna, hnb⟩ := he
    dsimp only at hX3 hDa hDb hna hnb hF
    refine .inl ⟨_, rfl, ?_⟩
    refine Ops.r (Run.extract rfl rfl) rfl ?_
    refine Ops.r (Run.extract rfl rfl) rfl ?_
    refine Ops.clp (Enters.fn (evs.cons rfl (evs.cons rfl (evs.cons rfl evs.nil))) Try.call94) (itokens_spec gx gr q3 ga gb (8 * bs.length + 1) Ar A Ba Bb _ _ la lb bs c out most _ hna hnb (by omega) hmo hbs hB hX3 hDa hDb) rfl ?_
    rintro e w6 ⟨hf6, he⟩
    have hfr6 : Frm (gx :: gr :: ob A) w w6 := (hfr3.mono (T := gx :: gr :: ob A) (by simp)).trans hf6 (fun x hx => .inl hx)
    rcases hT6 : tokensF (ofB bs) la lb most (8 * bs.length + 1) q3 out with kk | ⟨q6, o6⟩
    ·
     rw [hT6] at he hF
     simp only [bnd_e] at hF
     subst hF
     exact .inr ⟨_, he, blockQ_p (thenQ_p (endQ_p ⟨hfr6, rfl⟩))⟩
    rw [hT6] at he hF
    simp only [bnd_k] at hF
    obtain ⟨A6, c6, rfl, hX6, hu6⟩ := he
    dsimp only at hX6 hu6 hF
    subst hF
    refine .inl ⟨_, rfl, ?_⟩
    refine jO ?_
    refine blockQ_n (jN ?_)
    refine jv1 3 ?_
    refine jS (jR (jM ?_))
    refine Ops.r (Run.bin rfl rfl (Bin.eqlN _ 0)) rfl ?_
    refine jA ?_
    refine jO (jN (jv1 2 ?_))
    refine jT ?_
    refine end1 rfl ?_
    exact ⟨hfr6, A6, c6, rfl, hX6, fun y hy => (hu6 y hy).imp id (fun h => Nat.le_trans hfr3.size h)⟩
   ·
    omega
end Go.Proofs.Ytnmieihcjjiccaa
namespace Go.Proofs.Ytnmieihcjjiccaa
open Go.RowKit
theorem tokensF_le {L : List Bool} {a b : List Int} {most : Nat} (hm : mostC a ≤ 15) (hm2 : mostC b ≤ 15) : ∀ f p out x, p ≤ L.length → tokensF L a b most f p out = .ok x → p ≤ x.1 ∧ x.1 ≤ L.length
 | 0, _, _, _, _, h => by cases h
 | f + 1, p, out, x, hp, h => by
  unfold tokensF at h
  rcases hT : tokenF L a b most p out with k | y
  ·
   rw [hT] at h; cases h
  rw [hT, bnd_k] at h
  obtain ⟨h1, h2⟩ := tokenF_lt hm hm2 hp hT
  split at h
  ·
   obtain ⟨h3, h4⟩ := tokensF_le hm hm2 f _ _ x h2 h
   exact ⟨by omega, h4⟩
  ·
   simp only [Except.ok.injEq] at h
   rw [← h]
   exact ⟨by omega, h2⟩
theorem thirdF_le {L : List Bool} : ∀ r p l x, p ≤ L.length → thirdF L r p l = .ok x → p ≤ x.1 ∧ x.1 ≤ L.length
 | [], p, l, x, hp, h => by simp only [thirdF, Except.ok.injEq] at h; rw [← h]; exact ⟨Nat.le_refl _, hp⟩
 | s :: r, p, l, x, hp, h => by
  unfold thirdF at h
  rcases hT : takeF L 3 p with k | ⟨v, q⟩
  ·
   rw [hT] at h; cases h
  rw [hT, bnd_k] at h
  obtain ⟨h1, h2, _, _⟩ := takeF_ok hT
  obtain ⟨h3, h4⟩ := thirdF_le r q _ x (by omega) h
  exact ⟨by omega, h4⟩
theorem moresF_le {L : List Bool} {l : List Int} {most : Nat} (hm : mostC l ≤ 15) : ∀ f p all x, p ≤ L.length → moresF L l most f p all = .ok x → p ≤ x.1 ∧ x.1 ≤ L.length
 | 0, _, _, _, _, h => by cases h
 | f + 1, p, all, x, hp, h => by
  unfold moresF at h
  split at h
  ·
   rcases hT : moreF L l p all most with k | ⟨q, all2⟩
   ·
    rw [hT] at h; cases h
   rw [hT, bnd_k] at h
   obtain ⟨h1, h2, _, _⟩ := moreF_ok hm hp hT
   obtain ⟨h3, h4⟩ := moresF_le hm f q _ x h2 h
   exact ⟨by omega, h4⟩
  ·
   simp only [Except.ok.injEq] at h
   rw [← h]
   exact ⟨Nat.le_refl _, hp⟩
theorem dynF_le {L : List Bool} {p : Nat} {x : Nat × List Int × List Int} (hp : p ≤ L.length) (h : dynF L p = .ok x) : p ≤ x.1 ∧ x.1 ≤ L.length ∧ newE x.2.1 = 0 ∧ newE x.2.2 = 0 := by
 unfold dynF at h
 rcases hT : takeF L 5 p with k | ⟨v, q⟩
 ·
  rw [hT] at h; cases h
 rw [hT, bnd_k] at h
 obtain ⟨h1, h2, _, _⟩ := takeF_ok hT
 dsimp only at h
 rcases hT2 : takeF L 5 q with k | ⟨v2, q2⟩
 ·
  rw [hT2] at h; cases h
 rw [hT2, bnd_k] at h
 obtain ⟨h3, h4, _, _⟩ := takeF_ok hT2
 dsimp only at h
 rcases hT3 : takeF L 4 q2 with k | ⟨v3, q3⟩
 ·
  rw [hT3] at h; cases h
 rw [hT3, bnd_k] at h
 obtain ⟨h5, h6, _, _⟩ := takeF_ok hT3
 dsimp only at h
 split at h
 ·
  cases h
 rcases hT4 : thirdF L (orderT.take (4 + v3)) q3 (List.replicate 19 0) with k | t
 ·
  rw [hT4] at h; cases h
 rw [hT4, bnd_k] at h
 obtain ⟨h7, h8⟩ := thirdF_le _ _ _ _ (by omega) hT4
 unfold dynG at h
 split at h
 ·
  cases h
 rename_i hn
 rcases hT5 : moresF L t.2 (257 + v + (1 + v2)) (L.length + 1) t.1 [] with k | u
 ·
  rw [hT5] at h; cases h
 rw [hT5, bnd_k] at h
 obtain ⟨h9, h10⟩ := moresF_le (newE_good (by simpa using hn)).2 _ _ _ _ h8 hT5
 unfold dynH at h
 split at h
 ·
  cases h
 split at h
 ·
  cases h
 split at h
 ·
  cases h
 rename_i hn1 hn2
 simp only [Except.ok.injEq] at h
 rw [← h]
 exact ⟨by dsimp only; omega, h10, by simpa using hn1, by simpa using hn2⟩
theorem blockF_lt {bs : List Nat} {most p : Nat} {out : List Nat} {x : Bool × Nat × List Nat} (h : blockF bs most p out = .ok x) : p < x.2.1 := by
 unfold blockF at h
 rcases hT : takeF (ofB bs) 1 p with k | ⟨v, q⟩
 ·
  rw [hT] at h; cases h
 rw [hT, bnd_k] at h
 obtain ⟨h1, h2, _, _⟩ := takeF_ok hT
 dsimp only at h
 rcases hT2 : takeF (ofB bs) 2 q with k | ⟨v2, q2⟩
 ·
  rw [hT2] at h; cases h
 rw [hT2, bnd_k] at h
 obtain ⟨h3, h4, _, _⟩ := takeF_ok hT2
 dsimp only at h
 split at h
 ·
  cases h
 have key : ∀ E : Except Nat (Nat × List Nat), (∀ r, E = .ok r → q2 ≤ r.1) → (bnd E fun r => (.ok (decide (v = 0), r) : Except Nat (Bool × Nat × List Nat))) = .ok x → p < x.2.1 := by
  intro E hE h
  cases E with
  | error k => cases h
  | ok r =>
   rw [bnd_k] at h
   simp only [Except.ok.injEq] at h
   have := hE r rfl
   rw [← h]
   dsimp only
   omega
 refine key _ ?_ h
 intro r hr
 split at hr
 ·
  exact Nat.le_of_lt (storedF_le hr)
 split at hr
 ·
  obtain ⟨_, _, h5, h6⟩ := fixed_good
  exact (tokensF_le (by omega) (by omega) _ _ _ _ (by omega) hr).1
 ·
  rcases hT3 : dynF (ofB bs) q2 with k | c
  ·
   rw [hT3] at hr; cases hr
  rw [hT3, bnd_k] at hr
  obtain ⟨h5, h6, h7, h8⟩ := dynF_le (by omega) hT3
  have := (tokensF_le (newE_good h7).2 (newE_good h8).2 _ _ _ _ h6 hr).1
  omega
end Go.Proofs.Ytnmieihcjjiccaa
namespace Go.Proofs.Ytnmieihcjjiccaa
open Go.RowKit
def IsO (w : World) (g4 g5 g6 : Nat) (v4 v5 v6 : Value) : Prop := Blk w g4 22 #[v4] ∧ Blk w g5 3 #[v5] ∧ Blk w g6 24 #[v6]
theorem IsO.frm {w w' : World} {g4 g5 g6 : Nat} {v4 v5 v6 : Value} {S : List Nat} (h : IsO w g4 g5 g6 v4 v5 v6) (hf : Frm S w w') (hS : ∀ x ∈ S, x ≠ g4 ∧ x ≠ g5 ∧ x ≠ g6) : IsO w' g4 g5 g6 v4 v5 v6 :=
 ⟨h.1.frm hf (fun h2 => (hS _ h2).1 rfl), h.2.1.frm hf (fun h2 => (hS _ h2).2.1 rfl), h.2.2.frm hf (fun h2 => (hS _ h2).2.2 rfl)⟩
theorem IsO.ne {w : World} {g4 g5 g6 : Nat} {v4 v5 v6 : Value} (h : IsO w g4 g5 g6 v4 v5 v6) : g4 ≠ g5 ∧ g4 ≠ g6 ∧ g5 ≠ g6 := ⟨h.1.ne h.2.1 (by decide), h.1.ne h.2.2 (by decide), h.2.1.ne h.2.2 (by decide)⟩
theorem IsO.ofX {w : World} {g4 g5 g6 : Nat} {v4 v5 v6 : Value} {gx gr : Nat} {Ar : Option Addr} {bs : List Nat} {p : Nat} {A : Option Addr} {c : Nat} {out : List Nat} {most : Nat} (h : IsO w g4 g5 g6 v4 v5 v6) (hX : IsX w gx gr Ar bs p A c out most) : ∀ x ∈ gx :: gr :: ob A, x ≠ g4 ∧ x ≠ g5 ∧ x ≠ g6 := fun x hx => by
 rcases List.mem_cons.1 hx with rfl | hx
 ·
  exact ⟨hX.1.ne h.1 (by decide), hX.1.ne h.2.1 (by decide), hX.1.ne h.2.2 (by decide)⟩
 rcases List.mem_cons.1 hx with rfl | hx
 ·
  have hb := hX.2.1.choose_spec.1
  exact ⟨hb.ne h.1 (by decide), hb.ne h.2.1 (by decide), hb.ne h.2.2 (by decide)⟩
 ·
  have hO := hX.2.2.1
  exact ⟨fun e => hO.ne_blk h.1 (by decide) (e ▸ hx), fun e => hO.ne_blk h.2.1 (by decide) (e ▸ hx), fun e => hO.ne_blk h.2.2 (by decide) (e ▸ hx)⟩
theorem IsO.ofXx {w : World} {g4 g5 g6 : Nat} {v4 v5 v6 : Value} {gx gr : Nat} {Ar : Option Addr} {bs : List Nat} {p : Nat} {A : Option Addr} {c : Nat} {out : List Nat} {most : Nat} (h : IsO w g4 g5 g6 v4 v5 v6) (hX : IsX w gx gr Ar bs p A c out most) : ∀ x ∈ gx :: gr :: (ob A ++ ob Ar), x ≠ g4 ∧ x ≠ g5 ∧ x ≠ g6 := fun x hx => by
 have h0 := h.ofX hX
 rcases List.mem_cons.1 hx with rfl | hx
 ·
  exact h0 _ (by simp)
 rcases List.mem_cons.1 hx with rfl | hx
 ·
  exact h0 _ (by simp)
 rcases List.mem_append.1 hx with hx | hx
 ·
  exact h0 _ (by simp [hx])
 ·
  have hO := hX.2.1.choose_spec.2
  exact ⟨fun e => hO.ne_blk h.1 (by decide) (e ▸ hx), fun e => hO.ne_blk h.2.1 (by decide) (e ▸ hx), fun e => hO.ne_blk h.2.2 (by decide) (e ▸ hx)⟩
theorem infl_end {Γ : Env} {w : World} {R : Ending → World → Prop} {g4 g5 g6 : Nat} {v4 v5 v6 : Value} (e4 : get? Γ 4 = some (.pointer (some ⟨g4, 0, none⟩))) (e5 : get? Γ 5 = some (.pointer (some ⟨g5, 0, none⟩))) (e6 : get? Γ 6 = some (.pointer (some ⟨g6, 0, none⟩)))
  (h : IsO w g4 g5 g6 v4 v5 v6) (k : R (.returned (.tuple #[v4, v5, v6])) w) : endQ Try.prog #[.cell 4 22, .cell 5 3, .cell 6 24] R .ret Γ w :=
 endR (res_cell e4 Try.isAgg22 (h.1.cell 0) (res_cell e5 Try.isAgg3 (h.2.1.cell 0) (res_cell e6 Try.isAgg24 (h.2.2.cell 0) (res_nil k))))
set_option maxRecDepth 100000 in
theorem inflP_spec (g4 g5 g6 k : Nat) (v4 v5 v6 : Value) (w : World) (hO : IsO w g4 g5 g6 v4 v5 v6) :
  CallsD Try.prog 75 #[.pointer (some ⟨g4, 0, none⟩), .pointer (some ⟨g5, 0, none⟩), .pointer (some ⟨g6, 0, none⟩)] (.panicking (Pan k)) w fun e u w' => (∃ v, e = .returned v) ∧ settle u = .returning ∧ IsO w' g4 g5 g6 (.slice none 0 0) (.int .i64 ((0 : Nat) : Int)) (.int .i64 ((k : Nat) : Int)) ∧ Frm [g4, g5, g6] w w' := by
 obtain ⟨hn1, hn2, hn3⟩ := hO.ne
 obtain ⟨hb4, hb5, hb6⟩ := hO
 refine VC.recovered (nt := 9) (res := #[]) (u' := .panicking [{ v := .iface 24 (.int .i64 ((k : Nat) : Int)), recovered := true }]) (v := .iface 24 (.int .i64 ((k : Nat) : Int))) Try.func75 rfl Try.ntmps75 Try.results75 rfl (.inl ⟨[], rfl, rfl⟩) rfl rfl rfl rfl rfl rfl rfl rfl ?_
 refine jS (jR (jM ?_))
 refine Ops.r (Run.neqNilI rfl rfl Try.underlying20 rfl) rfl ?_
 refine jO (jN (jv5 0 1 2 3 6 ?_))
 refine VC.condT rfl (rfl) ?_
 refine VC.held (fun _ => True) jK ?_
 refine jH 0 rfl trivial (fun w0 hw0 => Run.mv rfl) ?_
 refine jH 1 rfl trivial (fun w0 hw0 => Run.assertT rfl Try.underlying24 rfl) ?_
 have hd := Drawn.drew w
 have hb4 := hb4.drawn hd
 have hb5 := hb5.drawn hd
 have hb6 := hb6.drawn hd
 refine HOps.st 2 rfl jK (Acts.store (i := 0) (v := .slice none 0 0) rfl rfl Try.sizeOf22 hb4 rfl rfl) trivial rfl ?_
 rintro w1 ⟨hb1, hf1, hs1⟩
 refine ⟨trivial, ?_⟩
 refine HOps.st 3 rfl jK (Acts.store (i := 0) (v := .int .i64 ((0 : Nat) : Int)) rfl rfl Try.sizeOf3 (hb5.frm hf1 (by simp; omega)) rfl rfl) trivial rfl ?_
 rintro w2 ⟨hb2, hf2, hs2⟩
 refine ⟨trivial, ?_⟩
 refine HOps.st 4 rfl jK (Acts.store (i := 0) (v := .int .i64 ((k : Nat) : Int)) rfl rfl Try.sizeOf24 ((hb6.frm hf1 (by simp; omega)).frm hf2 (by simp; omega)) rfl rfl) trivial rfl ?_
 rintro w3 ⟨hb3, hf3, hs3⟩
 refine ⟨trivial, ?_⟩
 refine HOps.done jK ?_
 refine end0n ?_
 exact ⟨⟨_, rfl⟩, rfl, ⟨(hb1.frm hf2 (by simp; omega)).frm hf3 (by simp; omega), hb2.frm hf3 (by simp; omega), hb3⟩, (hd.frm.mono (T := [g4, g5, g6]) (by simp)).trans ((hf1.mono (T := [g4, g5, g6]) (by simp)).trans ((hf2.mono (T := [g4, g5, g6]) (by simp)).trans (hf3.mono (T := [g4, g5, g6]) (by simp)) (fun x hx => .inl hx)) (fun x hx => .inl hx)) (fun x hx => .inl hx)⟩
set_option maxRecDepth 100000 in
theorem inflR_spec (g4 g5 g6 : Nat) (w : World) :
  CallsD Try.prog 75 #[.pointer (some ⟨g4, 0, none⟩), .pointer (some ⟨g5, 0, none⟩), .pointer (some ⟨g6, 0, none⟩)] .returning w fun e u w' => (∃ v, e = .returned v) ∧ settle u = .returning ∧ w' = w := by
 refine VC.recovered (nt := 9) (res := #[]) (u' := .returning) (v := .nilIface) Try.func75 rfl Try.ntmps75 Try.results75 rfl (.inr ⟨rfl, rfl, rfl⟩) rfl rfl rfl rfl rfl rfl rfl rfl ?_
 refine jS (jR (jM ?_))
 refine Ops.r (Run.neqNil2 rfl Try.underlying20 rfl) rfl ?_
 refine jO (jN (jv5 0 1 2 3 6 ?_))
 refine VC.condF rfl (rfl) ?_
 refine jQ ?_
 refine end0n ?_
 exact ⟨⟨_, rfl⟩, rfl, rfl⟩
end Go.Proofs.Ytnmieihcjjiccaa
