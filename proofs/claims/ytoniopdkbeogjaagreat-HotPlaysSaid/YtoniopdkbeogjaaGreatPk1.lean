/-
  Lemmas on the way, joined: EngC, Oct0, OctP, CrcP, DskP, DskW, Eng23, DskV, DskT, DskS, JouP, CrcW, OctW, JouA, JouB, SpaP, Shelf, SpaW, Eng24, SpaV.
-/
import Derived.RangeFuncLeaves
import Derived.RangeFuncSeq
import Derived.RangeFuncOwn
import Derived.Sort.OwnSorted
import Derived.Deep.Strs
import Derived.Lib.MakeNoZero
import Derived.Lib.BitFns
import Derived.Shelf.Small.Bits
import Derived.Shelf.Bytes.SlSearch0
import Derived.Ground.SlbNamesProg
import Derived.Shelf.Bytes.SlJoin
import Derived.Shelf.Bytes.SlEqualAll
import Derived.Shelf.Bytes.Small
import Derived.Test.YtoniopdkbeogjaaGreatProg
import Derived.Test.YtoniopdkbeogjaaGreatPk0
set_option maxRecDepth 100000
set_option linter.unusedVariables false
set_option linter.unusedSimpArgs false
set_option maxHeartbeats 8000000
namespace Go.Proofs.YtoniopdkbeogjaaGreat
section
open Go.RowKit
theorem Run.minI {P : Program} {Γ : Env} {w : World} {dst : Option Tmp} {pos : String} {after : Array Edge} {g : Option (Nat × Bool)} {t : TypeId} {x y : Operand} {k : IntKind} {a b : Int} {ts : Array TypeId} (hx : ev? Γ x = some (.int k a)) (hy : ev? Γ y = some (.int k b)) :
  Run P ⟨dst, .call ⟨.builtin .min, #[x, y], ts⟩, t, pos, after, g⟩ Γ w (.int k (if b < a then b else a)) := fun ρ hρ => by
 simp [execOp, resolve, invoke, builtin, Builtin.min_, Builtin.min2, hρ _ _ hx, hρ _ _ hy]
def sM (ds : List Nat) : List Deferred := ds.map fun d => { target := .collected d, args := #[] }
abbrev DQ := Exit → List Nat → Env → World → Prop
def xR (m : Nat) (Q : DQ) (e : Exit) (a : Act) (w : World) : Prop := ∃ ds Γ, Sat ⟨m, sM ds, none⟩ Γ a ∧ Q e ds Γ w
def DV (P : Program) (m : Nat) (c : Code) (ds : List Nat) (Γ : Env) (w : World) (Q : DQ) : Prop := ∀ a, Sat ⟨m, sM ds, none⟩ Γ a → ∀ k, c.wpIn (wd none) k P (xR m Q) a w
def xU (K : List Nat → Env → World → Prop) (Q : DQ) : DQ
 | .normal, ds, Γ, w => K ds Γ w
 | e, ds, Γ, w => Q e ds Γ w
def rC (id : Nat) (Q : DQ) : DQ
 | .exit i, ds, Γ, w => if i = id then Q .normal ds Γ w else Q (.exit i) ds Γ w
 | e, ds, Γ, w => Q e ds Γ w
section
variable {P : Program} {m : Nat} {ds : List Nat} {Γ : Env} {w : World} {Q : DQ} {K : List Nat → Env → World → Prop} {i id : Nat}
theorem bL (h : K ds Γ w) : xU K Q .normal ds Γ w := h
theorem rD (h : Q .ret ds Γ w) : xU K Q .ret ds Γ w := h
theorem qJ1 (h : Q (.exit i) ds Γ w) : xU K Q (.exit i) ds Γ w := h
theorem sN (h : Q .normal ds Γ w) : rC id Q .normal ds Γ w := h
theorem qY5 (h : Q .ret ds Γ w) : rC id Q .ret ds Γ w := h
theorem qXh (h : Q .normal ds Γ w) : rC id Q (.exit id) ds Γ w := by simp only [rC, if_true]; exact h
theorem DV.vc {c : Code} (h : VC P ⟨m, sM ds, none⟩ c Γ w (fun e Γ' w' => Q e ds Γ' w')) : DV P m c ds Γ w Q := fun a hs k =>
 wpIn_mono (h a hs k) fun _ _ _ ⟨Γ', hs', q⟩ => ⟨ds, Γ', hs', q⟩
theorem DV.sub {c : Code} (Γ' : Env) (hs : Sub Γ Γ') (h : DV P m c ds Γ' w Q) : DV P m c ds Γ w Q := fun a ha => h a (ha.sub hs)
theorem DV.seq {x y : Code} (h : DV P m x ds Γ w (xU (fun ds' Γ' w' => DV P m y ds' Γ' w' Q) Q)) : DV P m (.seq x y) ds Γ w Q := by
 intro a hs k
 refine wpIn_seq (wpIn_mono (h a hs k) ?_)
 intro e a' w' hq
 obtain ⟨ds', Γ', hs', q⟩ := hq
 cases e with
 | normal => exact q a' hs' k
 | exit id => exact ⟨ds', Γ', hs', q⟩
 | goto l => exact ⟨ds', Γ', hs', q⟩
 | ret => exact ⟨ds', Γ', hs', q⟩
 | panic c => exact ⟨ds', Γ', hs', q⟩
 | outgrown => exact ⟨ds', Γ', hs', q⟩
theorem DV.block {c : Code} (h : DV P m c ds Γ w (rC id Q)) : DV P m (.block id c) ds Γ w Q := by
 intro a hs k
 refine wpIn_block (wpIn_mono (h a hs k) ?_)
 intro e a' w' hq
 obtain ⟨ds', Γ', hs', q⟩ := hq
 cases e with
 | normal => exact ⟨ds', Γ', hs', q⟩
 | exit i =>
  simp only [rC] at q
  by_cases hi : i = id
  · rw [if_pos hi] at q; simp only [Exit.inBlock, hi, if_true]; exact ⟨ds', Γ', hs', q⟩
  rw [if_neg hi] at q; simp only [Exit.inBlock, hi, if_false]; exact ⟨ds', Γ', hs', q⟩
 | goto l => exact ⟨ds', Γ', hs', q⟩
 | ret => exact ⟨ds', Γ', hs', q⟩
 | panic c => exact ⟨ds', Γ', hs', q⟩
 | outgrown => exact ⟨ds', Γ', hs', q⟩
theorem DV.loop {σ : Type} {c : Code} (D : σ → List Nat) (env : σ → Env) (inv : σ → World → Prop) (μ : σ → Nat) (s0 : σ) (hD0 : ds = D s0) (hs0 : Sub Γ (env s0)) (h0 : inv s0 w)
  (round : ∀ s w, inv s w → DV P m c (D s) (env s) w (xU (fun ds' Γ' w' => ∃ s', ds' = D s' ∧ Sub Γ' (env s') ∧ inv s' w' ∧ μ s' < μ s) Q)) : DV P m (.loop c) ds Γ w Q := by
 subst hD0
 intro a hs m0
 refine wpIn_loop_ghost (fun k a w => ∃ s, μ s = k ∧ Sat ⟨m, sM (D s), none⟩ (env s) a ∧ inv s w) (μ s0) ⟨s0, rfl, hs.sub hs0, h0⟩ ?_
 rintro k a w ⟨s, rfl, hsa, hi⟩
 refine wpIn_mono (round s w hi a hsa m0) ?_
 intro e a' w' hq
 obtain ⟨ds', Γ', hs', q⟩ := hq
 cases e with
 | normal =>
  obtain ⟨s', rfl, hsub, hinv, hlt⟩ := q
  exact ⟨μ s', hlt, s', rfl, hs'.sub hsub, hinv⟩
 | exit id => exact ⟨ds', Γ', hs', q⟩
 | goto l => exact ⟨ds', Γ', hs', q⟩
 | ret => exact ⟨ds', Γ', hs', q⟩
 | panic c => exact ⟨ds', Γ', hs', q⟩
 | outgrown => exact ⟨ds', Γ', hs', q⟩
end
abbrev cG (w : World) (d : Nat) : Prop := w.heap[d]? = some (.deferred (some []))
theorem cG.frm {w w' : World} {S : List Nat} {d : Nat} (h : cG w d) (k : Frm S w w') (hd : d ∉ S) : cG w' d := (k.block d (Array.getElem?_eq_some_iff.1 h).1 hd).trans h
theorem cG.ne_blk {w : World} {d g : Nat} {t : TypeId} {cs : Array Value} (h : cG w d) (hb : Blk w g t cs) : d ≠ g := by
 rintro rfl
 unfold Blk at hb
 rw [h] at hb
 cases hb
theorem cG.ne_own {w : World} {d e size n c : Nat} {A : Option Addr} {xs : List Value} (h : cG w d) (ho : Own w e size A n c xs) : d ∉ ob A := by
 rcases ho.cases with ⟨rfl, _⟩ | ⟨g, cur, rfl, hb, _⟩
 · simp [ob]
 simp only [ob, za]
 exact h.ne_blk hb
theorem Frm.putObj (w : World) (l : Nat) (o : Obj) : Frm [l] w (w.putObj l o) :=
 ⟨rfl, rfl, rfl, by simp [World.putObj], fun k _ hk => World.putObj_heap_other (fun e => hk (by simp [e]))⟩
def endD (P : Program) (res : Array ResultVar) (R : Ending → World → Prop) : DQ
 | .normal, ds, Γ, w | .ret, ds, Γ, w => ds.Nodup ∧ (∀ d ∈ ds, cG w d) ∧ ∀ w', Frm ds w w' → nU P res R .ret Γ w'
 | _, _, _, _ => False
section
variable {P : Program} {m : Nat} {ds : List Nat} {Γ : Env} {w : World} {res : Array ResultVar} {R : Ending → World → Prop}
theorem lC (h1 : ds.Nodup) (h2 : ∀ d ∈ ds, cG w d) (h : ∀ w', Frm ds w w' → nU P res R .ret Γ w') : endD P res R .ret ds Γ w := ⟨h1, h2, h⟩
theorem tS {fn : Func} {tmps : Array Value} {k : Nat} {F : Fence} : ∀ (ds : List Nat) (w : World), ds.Nodup → (∀ d ∈ ds, cG w d) →
  (∀ w', Frm ds w w' → ∃ v, (results fn tmps).run P w' = .ok v w' ∧ R (.returned v) w') → LeavesInM F k P fn tmps R (sM ds) .returning w
 | [], w, _, _, h => by
  obtain ⟨v, h1, h2⟩ := h w (Frm.refl _ _)
  exact ⟨v, h1, h2⟩
 | d :: ds, w, hn, hm, h => by
  obtain ⟨hn1, hn2⟩ := zft.1 hn
  refine ⟨jp, .inl ⟨d, w.putObj d (.deferred none), rfl, run_takeDeferred (hm d jp), ?_⟩⟩
  have hf := Frm.putObj w d (.deferred none)
  refine tS ds _ hn2 (fun x hx => ?_) (fun w' hw' => h w' ?_)
  · exact (hm x (by simp [hx])).frm hf (by simp; rintro rfl; exact hn1 hx)
  exact (hf.mono (T := d :: ds) jp).trans hw' (fun x hx => .inl (by simp [hx]))
theorem DV.calls {f : FuncId} {fn : Func} {c : Code} {args : List Value} {nt : Nat} (hf : P.funcs[f]? = some fn) (hb : fn.body = some c) (hn : fn.ntmps = nt) (hr : fn.results = res) (hl0 : Nat.ble args.length nt = true)
  (h : DV P nt c [] (argEnv 0 args) w (endD P res R)) : Calls P f args.toArray w R := by
 have hl : args.length ≤ nt := Nat.le_of_ble_eq_true hl0
 refine callsIn_wide.1 (callsIn_of_wp_marks (F := Fence.wide) (n := 0) hf hb trivial ?_)
 refine wpIn_mono (h _ ?_ 0) ?_
 ·
  refine ⟨?_, rfl, ?_⟩
  ·
   simp only [Array.size_append, zbg, Array.size_replicate, hn]
   omega
  intro t v ht
  obtain ⟨_, h2⟩ := xM args 0 t v ht
  simp only [zcc] at h2
  have hlt : t < args.length := (List.getElem?_eq_some_iff.1 h2).1
  rw [zdj, Array.getElem?_append_left (by simpa using hlt)]
  simp [h2]
 rintro e a w' ⟨ds, Γ, hs, hq⟩
 have key : ds.Nodup ∧ (∀ d ∈ ds, cG w' d) ∧ (∀ w'', Frm ds w' w'' → nU P res R .ret Γ w'') → LeavesInM Fence.wide 0 P fn a.tmps R a.defers .returning w' := by
  rintro ⟨h1, h2, h3⟩
  rw [hs.defers]
  refine tS ds w' h1 h2 (fun w'' hw'' => ?_)
  obtain ⟨vs, h4, h5⟩ := tM hs hr (h3 w'' hw'')
  exact ⟨_, h4, h5⟩
 cases e with
 | normal => exact key hq
 | ret => exact key hq
 | _ => exact hq.elim
end
def mP (P : Program) (l : Nat) (args : Array Value) (W : World) (R : Ending → World → Prop) : Prop := ∀ k, YieldAt (wd none) k P l args W R
def Off (Bt : List Nat) (W W' : World) : Prop := ∃ C, Frm C W W' ∧ ∀ b ∈ Bt, b ∉ C
theorem Off.blk {Bt : List Nat} {W W' : World} {g : Nat} {t : TypeId} {cs : Array Value} (h : Off Bt W W') (hb : Blk W g t cs) (hg : g ∈ Bt) : Blk W' g t cs := by
 obtain ⟨C, hf, hC⟩ := h
 exact hb.frm hf (hC g hg)
theorem Off.rd {Bt : List Nat} {W W' : World} {size n : Nat} {A : Option Addr} {xs : List Value} (h : Off Bt W W') (hr : Rd W size A n xs) (hg : 0 < n → ∀ x ∈ ob A, x ∈ Bt) : Rd W' size A n xs := by
 obtain ⟨C, hf, hC⟩ := h
 exact hr.frm hf fun hn x hx => hC x (hg hn x hx)
def qXi {α : Type} (P : Program) (gf : FuncId) (lb : Array Value) (encs : α → Array Value) (B Bt : List Nat) (Kp : World → Prop) (xs : List α) : Prop :=
 ∀ (l : Nat) (J Jx : List α → World → Prop) (W : World),
  (∀ pre W W', J pre W → Frm B W W' → J pre W') → (∀ pre W W', Jx pre W → Frm B W W' → Jx pre W') → Kp W →
  (∀ pre x W1, J pre W1 → (pre ++ [x]) <+: xs → mP P l (encs x) W1 fun e W' => Off Bt W1 W' ∧ ((e = .returned (.bool true) ∧ J (pre ++ [x]) W') ∨ (e = .returned (.bool false) ∧ Jx (pre ++ [x]) W'))) →
  J [] W → Calls P gf (#[.func (.yield l) #[] #[]] ++ lb) W fun e W' => (∃ v, e = .returned v) ∧ (J xs W' ∨ ∃ pre, Jx pre W')
theorem Ops.yield {P : Program} {n : NF} {Γ : Env} {w : World} {Q : Exit → Env → World → Prop} {ops : Array Oper} {rest : List Oper} {dst : Option Tmp} {T : TypeId} {pos : String} {after : Array Edge} {l : Nat} {c : Operand} {xs : List Operand} {vs : List Value} {ts : Array TypeId} {R : Ending → World → Prop}
  (hro : n.ro = none) (hc : ev? Γ c = some (.func (.yield l) #[] #[])) (hv : evs Γ xs vs) (hy : mP P l vs.toArray w R) {d : Nat} (hd : dst = some d) (hn : Nat.blt d n.n = true)
  (k : ∀ e w', R e w' → ∃ v, e = .returned v ∧ Ops P n ops rest ((d, v) :: Γ) w' Q) : Ops P n ops (⟨dst, .call ⟨.value c, xs.toArray, ts⟩, T, pos, after, none⟩ :: rest) Γ w Q :=
 Ops.of_wp trivial fun a hs m => by
  rw [hro]
  refine ⟨eL, ?_⟩
  obtain ⟨fn, tmps, assign, body, h1, h2⟩ := hy (m - 1)
  have e1 := gV hs.fits xs vs hv
  have e2 : a.eval c = .func (.yield l) #[] #[] := hs.fits _ _ hc
  have hrun : (execOp a.eval ⟨dst, .call ⟨.value c, xs.toArray, ts⟩, T, pos, after, none⟩).run P w = .ok (.round l fn tmps assign body) w := by
   simp [execOp, resolve, e2, Deferred.ofValue, invoke, callFunc, e1, h1]
  rw [gT hrun jp, Oper.uponIn_round, hd]
  refine ⟨fun h => by simp [wd, Fence.wide] at h, h2.mono ?_⟩
  intro e w' hR
  obtain ⟨v, rfl, hk⟩ := k e w' hR
  have := hk _ (hs.put hn v) m
  rw [hro] at this
  exact this
theorem KeepsOthers.of_frm {S : List Nat} {W W' : World} (h : Frm S W W') (hS : ∀ b ∈ S, ∀ o, W.heap[b]? = some o → o.isCells = true) : KeepsOthers W W' :=
 ⟨h.size, fun k o hk ho => (h.block k (Array.getElem?_eq_some_iff.1 hk).1 (fun hx => by have := hS k hx o hk; rw [ho] at this; cases this)).trans hk⟩
def kV (Bt : List Nat) (W W' : World) : Prop := ∃ C, Frm C W W' ∧ ∀ b ∈ C, b ∉ Bt ∧ ∀ o, W.heap[b]? = some o → o.isCells = true
theorem kV.frm0 {Bt : List Nat} {W W' : World} (h : Frm [] W W') : kV Bt W W' := ⟨[], h, jp⟩
theorem kV.off {Bt : List Nat} {W W' : World} (h : kV Bt W W') : Off Bt W W' := by
 obtain ⟨C, hf, hC⟩ := h
 exact ⟨C, hf, fun b hb hx => (hC b hx).1 hb⟩
theorem kV.others {Bt : List Nat} {W W' : World} (h : kV Bt W W') : KeepsOthers W W' := by
 obtain ⟨C, hf, hC⟩ := h
 exact KeepsOthers.of_frm hf fun b hb o ho => (hC b hb).2 o ho
theorem Blk.isC {W : World} {g : Nat} {t : TypeId} {cs : Array Value} (hb : Blk W g t cs) : ∀ o, W.heap[g]? = some o → o.isCells = true := fun o ho => by
 unfold Blk at hb
 rw [hb] at ho
 cases ho; rfl
theorem Own.isC {W : World} {e size n c : Nat} {A : Option Addr} {xs : List Value} (ho : Own W e size A n c xs) : ∀ g ∈ ob A, ∀ o, W.heap[g]? = some o → o.isCells = true := by
 rcases ho.cases with ⟨rfl, _⟩ | ⟨g, cur, rfl, hb, _⟩
 · simp [ob]
 intro x hx
 simp only [ob, za] at hx
 subst hx
 exact hb.isC
def qV3 {α : Type} (Bt : List Nat) (I : List α → World → Prop) (Ix : Exit → List α → World → Prop) (xs : List α) (W : World) : Exit → Env → World → Prop
 | .normal, _, W' => kV Bt W W' ∧ I xs W'
 | .ret, _, W' => kV Bt W W' ∧ Ix .ret xs W'
 | .exit id, _, W' => kV Bt W W' ∧ Ix (.exit id) xs W'
 | _, _, _ => False
theorem oR : ∀ (l : List (Nat × Value)) (tmps : Array Value) (Γ : Env) (N : Nat), tmps.size = N → (∀ t v, get? Γ t = some v → tmps.getD t undef = v) → (∀ x ∈ l, x.1 < N) →
  (l.foldl (fun t (x : Nat × Value) => t.setIfInBounds x.1 x.2) tmps).size = N ∧ ∀ t v, get? (l.reverse ++ Γ) t = some v → (l.foldl (fun t (x : Nat × Value) => t.setIfInBounds x.1 x.2) tmps).getD t undef = v
 | [], tmps, Γ, N, hN, h, _ => ⟨hN, by simpa using h⟩
 | (p, u) :: r, tmps, Γ, N, hN, h, hl => by
  have hp : p < tmps.size := by rw [hN]; exact hl (p, u) jp
  have h1 := oR r (tmps.setIfInBounds p u) ((p, u) :: Γ) N (by simpa using hN) (fun t v ht => by
   simp only [get?] at ht
   cases hq : Nat.beq p t with
   | true =>
    rw [hq] at ht
    simp only [cond_true, Option.some.injEq] at ht
    subst ht
    rw [← zef hq]
    simp [zdj, hp]
   | false =>
    rw [hq] at ht
    simp only [cond_false] at ht
    have hne : p ≠ t := fun e => by subst e; rw [Nat.beq_refl] at hq; cases hq
    have := h t v ht
    rw [zdj, Array.getElem?_setIfInBounds_ne hne, ← zdj]
    exact this) (fun x hx => hl x (by simp [hx]))
  rw [zee]
  have e : ((p, u) :: r).reverse ++ Γ = r.reverse ++ (p, u) :: Γ := jp
  rw [e]
  exact h1
abbrev NC (w W : World) (B S : List Nat) : Prop := ∀ b ∈ S, b ∈ B ∨ (w.heap.size ≤ b ∧ ∀ o, W.heap[b]? = some o → o.isCells = false)
theorem Blk.nc {w W : World} {B S : List Nat} {g : Nat} {t : TypeId} {cs : Array Value} (hb : Blk W g t cs) (hS : NC w W B S) (hg : g ∉ B) : g ∉ S := fun h => by
 rcases hS g h with h1 | ⟨_, h1⟩
 · exact hg h1
 have := h1 _ hb
 cases this
theorem Own.nc {w W : World} {B S : List Nat} {e size n c : Nat} {A : Option Addr} {xs : List Value} (ho : Own W e size A n c xs) (hS : NC w W B S) (hg : ∀ x ∈ ob A, x ∉ B) : ∀ x ∈ ob A, x ∉ S := by
 rcases ho.cases with ⟨rfl, _⟩ | ⟨g, cur, rfl, hb, _⟩
 · simp [ob]
 intro x hx
 have hx2 := hg x hx
 simp only [ob, za] at hx
 subst hx
 exact hb.nc hS hx2
theorem Frm.nc {w0 w W W' : World} {B S : List Nat} (h : Frm [] w0 W) (k : Frm S W W') (hS : NC w W B S) (hB : ∀ b ∈ B, w0.heap.size ≤ b) (hw : w0.heap.size ≤ w.heap.size) : Frm [] w0 W' := h.own k fun b hb => by
 rcases hS b hb with h1 | ⟨h1, _⟩
 · exact hB b h1
 omega
theorem DV.range {α : Type} {P : Program} {m : Nat} {ds : List Nat} {Γ : Env} {w : World} {Q : DQ} {g : Operand} {ps : List Tmp} {assign body : Code} {gf : FuncId} {lb : Array Value} {Kp : World → Prop} {xs : List α} {B Bt : List Nat} (encs : α → List Value)
  (hit : qXi P gf lb (fun x => (encs x).toArray) B Bt Kp xs) (hg : ev? Γ g = some (.func (.func gf) #[] lb)) (eg : ∀ args w, (callFunc gf args).run P w = .ok (.enter gf args) w) (hps : ∀ x, (encs x).length = ps.length) (hpm : (ps.all fun p => Nat.blt p m) = true)
  (I : List α → World → Prop) (Ix : Exit → List α → World → Prop) (ΓA : α → Env)
  (hI : ∀ pre W W' S, I pre W → Frm S W W' → NC w W B S → I pre W') (hIx : ∀ e pre W W' S, Ix e pre W → Frm S W W' → NC w W B S → Ix e pre W') (hK : ∀ W, Frm [] w W → Kp W) (hB : ∀ b ∈ B, b ∈ Bt) (hBt : ∀ b ∈ Bt, b < w.heap.size) (h0 : I [] w)
  (hassign : ∀ l x W, VC P ⟨m, [], some l⟩ assign ((ps.zip (encs x)).reverse ++ Γ) W (lR (fun Γ' W' => W' = W ∧ Sub Γ' (ΓA x)) (fun _ _ _ => False)))
  (hbody : ∀ l pre x W, I pre W → (pre ++ [x]) <+: xs → w.heap.size + 2 ≤ W.heap.size → cG W w.heap.size → VC P ⟨m, [], some l⟩ body (ΓA x) W (qV3 Bt I Ix (pre ++ [x]) W))
  (hdone : ∀ W, I xs W → w.heap.size + 2 ≤ W.heap.size → cG W w.heap.size → Q .normal (w.heap.size :: ds) Γ W)
  (hret : ∀ pre W, Ix .ret pre W → w.heap.size + 2 ≤ W.heap.size → cG W w.heap.size → Q .ret (w.heap.size :: ds) Γ W)
  (hexit : ∀ id pre W, Ix (.exit id) pre W → w.heap.size + 2 ≤ W.heap.size → cG W w.heap.size → Q (.exit id) (w.heap.size :: ds) Γ W) : DV P m (.rangeFunc g ps.toArray assign body) ds Γ w Q := by
 intro a hs k
 refine wpIn_rangeFunc ?_
 intro fn hfn
 obtain ⟨rec, hrec⟩ : ∃ rec : LoopState → Option Code → Loop, rec = fun st pe => { state := st, pending := pe, fn, tmps := a.tmps, params := ps.toArray, assign, body, defers := w.heap.size } := ⟨_, rfl⟩
 obtain ⟨W1, hW1⟩ : ∃ W1, (w.alloc (.deferred (some []))).alloc (.loop (rec .ready none)) = W1 := ⟨_, rfl⟩
 have hL1 : W1.heap[w.heap.size + 1]? = some (.loop (rec .ready none)) := by
  rw [← hW1]; have := World.alloc_heap_new (w.alloc (.deferred (some []))) (.loop (rec .ready none)); rwa [World.size_alloc] at this
 have hK1 : cG W1 w.heap.size := by
  rw [← hW1]; exact (Below.heap_alloc _ _ _ jp).trans (World.alloc_heap_new w _)
 have hF1 : Frm [] w W1 := by rw [← hW1]; exact ((Frm.refl [] w).alloc _).alloc _
 have hI1 : I [] W1 := hI [] w W1 [] h0 hF1 (fun b hb => by cases hb)
 have hsz : ∀ W : World, ∀ r, W.heap[w.heap.size + 1]? = some (.loop r) → w.heap.size + 2 ≤ W.heap.size := fun W r h => by
  have := (Array.getElem?_eq_some_iff.1 h).1; omega
 have hnc : ∀ W r, W.heap[w.heap.size + 1]? = some (.loop r) → NC w W B [w.heap.size + 1] := fun W r h b hb => by
  simp only [za] at hb
  subst hb
  refine .inr ⟨jo, fun o ho => by rw [h] at ho; cases ho; rfl⟩
 have hmk : ∀ (W : World) o, cG W w.heap.size → cG (W.putObj (w.heap.size + 1) o) w.heap.size := fun W o h => (World.putObj_heap_other jo).trans h
 refine ⟨w.heap.size + 1, [{ target := .collected w.heap.size, args := #[] }], W1, { target := .fn (.func gf) lb, args := #[.func (.yield (w.heap.size + 1)) #[] #[]] }, W1, gf,
  #[.func (.yield (w.heap.size + 1)) #[] #[]] ++ lb, W1, ?_, ?_, fun _ _ => trivial, ?_, fun h => by simp [wd, Fence.wide] at h, ?_⟩
 · rw [← hW1, hrec]; exact run_enterLoop_outer _ _ _ _ _
 ·
  have e1 : a.eval g = .func (.func gf) #[] lb := hs.fits _ _ hg
  simp only [resolve, e1]
  simp [go_sem]
 · simp [invoke, go_sem, eg]
 let J : List α → World → Prop := fun pre W => I pre W ∧ W.heap[w.heap.size + 1]? = some (.loop (rec .ready none)) ∧ cG W w.heap.size
 let Jx : List α → World → Prop := fun pre W => ((Ix .ret pre W ∧ W.heap[w.heap.size + 1]? = some (.loop (rec .done (some .ret)))) ∨ ∃ id, Ix (.exit id) pre W ∧ W.heap[w.heap.size + 1]? = some (.loop (rec .done (some (.exit id))))) ∧ cG W w.heap.size
 have keepL : ∀ {W W' : World} {r}, Frm B W W' → W.heap[w.heap.size + 1]? = some (.loop r) → W'.heap[w.heap.size + 1]? = some (.loop r) := fun hf h => (hf.block _ (Array.getElem?_eq_some_iff.1 h).1 (fun hx => by have := hBt _ (hB _ hx); omega)).trans h
 have keepM : ∀ {W W' : World}, Frm B W W' → cG W w.heap.size → cG W' w.heap.size := fun hf h => h.frm hf (fun hx => by have := hBt _ (hB _ hx); omega)
 refine nD.2 ((hit (w.heap.size + 1) J Jx W1 ?_ ?_ (hK _ hF1) ?_ ⟨hI1, hL1, hK1⟩).mono ?_)
 ·
  rintro pre W W' ⟨h1, h2, h3⟩ hf
  exact ⟨hI pre W W' B h1 hf (fun b hb => .inl hb), keepL hf h2, keepM hf h3⟩
 ·
  rintro pre W W' ⟨h1, h3⟩ hf
  refine ⟨?_, keepM hf h3⟩
  rcases h1 with ⟨h1, h2⟩ | ⟨id, h1, h2⟩
  · exact .inl ⟨hIx _ pre W W' B h1 hf (fun b hb => .inl hb), keepL hf h2⟩
  exact .inr ⟨id, hIx _ pre W W' B h1 hf (fun b hb => .inl hb), keepL hf h2⟩
 ·
  rintro pre x W ⟨hi, hl, hk⟩ hpre k'
  have hlt : w.heap.size + 1 < W.heap.size := (Array.getElem?_eq_some_iff.1 hl).1
  have hy := run_yield (P := P) (args := (encs x).toArray) hl (by rw [hrec]; simpa using hps x)
  rw [hrec] at hy
  refine ⟨fn, _, assign, body, hy, roundIn_of_wpIn hfn ?_⟩
  have hz : (ps.toArray.zip (encs x).toArray).foldl (fun tmps (t, a) => tmps.setIfInBounds t a) a.tmps = (ps.zip (encs x)).foldl (fun t (x : Nat × Value) => t.setIfInBounds x.1 x.2) a.tmps := by
   simp [List.zip_toArray]
  obtain ⟨hfs, hfg⟩ := oR (ps.zip (encs x)) a.tmps Γ m hs.size hs.at_ (fun y hy => by
   have h1 := (List.of_mem_zip hy).1
   have h2 := List.all_eq_true.1 hpm _ h1
   simpa [Nat.blt_eq] using h2)
  dsimp only
  rw [hz]
  refine wpIn_mono (hassign (w.heap.size + 1) x W { tmps := (ps.zip (encs x)).foldl (fun t (x : Nat × Value) => t.setIfInBounds x.1 x.2) a.tmps, defers := [] } ⟨hfs, rfl, hfg⟩ k') ?_
  rintro e a1 W' ⟨Γ1, hs1, hq1⟩
  cases e with
  | normal =>
   obtain ⟨rfl, hsub⟩ := hq1
   have hl2 : (W'.putObj (w.heap.size + 1) (.loop { rec .ready none with state := .busy })).heap[w.heap.size + 1]? = some (.loop { rec .ready none with state := .busy }) := World.putObj_heap_same hlt
   have hf2 := Frm.putObj W' (w.heap.size + 1) (.loop { rec .ready none with state := .busy })
   have hi2 := hI pre _ _ _ hi hf2 (hnc _ _ hl)
   refine ⟨_, run_beginRound hl (by rw [hrec]), ?_⟩
   refine wpIn_mono (hbody (w.heap.size + 1) pre x _ hi2 hpre (hsz _ _ hl2) (hmk _ _ hk) a1 (hs1.sub hsub) k') ?_
   have fin : ∀ (jump : Option Code) (W3 : World), KeepsOthers (W'.putObj (w.heap.size + 1) (.loop { rec .ready none with state := .busy })) W3 →
     (Instr.endRound (w.heap.size + 1) jump).run P W3 = .ok (.bool jump.isNone) (W3.putObj (w.heap.size + 1) (.loop (rec (if jump.isNone then .ready else .done) jump))) ∧
     W3.heap[w.heap.size + 1]? = some (.loop { rec .ready none with state := .busy }) ∧
     (W3.putObj (w.heap.size + 1) (.loop (rec (if jump.isNone then .ready else .done) jump))).heap[w.heap.size + 1]? = some (.loop (rec (if jump.isNone then .ready else .done) jump)) ∧
     cG (W3.putObj (w.heap.size + 1) (.loop (rec (if jump.isNone then .ready else .done) jump))) w.heap.size := fun jump W3 hk3 => by
    have hl3 := hk3.same _ _ hl2 rfl
    have := run_endRound (P := P) jump hl3
    rw [hrec] at this ⊢
    exact ⟨this, by rw [hrec] at hl3; exact hl3, World.putObj_heap_same (Array.getElem?_eq_some_iff.1 hl3).1, hmk _ _ (hk3.same _ _ (hmk _ _ hk) rfl)⟩
   have offs : ∀ {W3 : World} {o : Obj}, kV Bt (W'.putObj (w.heap.size + 1) (.loop { rec .ready none with state := .busy })) W3 → Off Bt W' (W3.putObj (w.heap.size + 1) o) := fun {W3 o} hw => by
    obtain ⟨C, hf, hC⟩ := hw.off
    refine ⟨(w.heap.size + 1) :: C, ((hf2.mono (T := (w.heap.size + 1) :: C) jp).trans hf (fun x hx => .inl (by simp [hx]))).trans (Frm.putObj W3 _ o) jp, fun b hb hx => ?_⟩
    rcases zaq.1 hx with rfl | hx
    · have := hBt _ hb; omega
    exact hC b hb hx
   rintro e a3 W3 ⟨Γ3, _, hp⟩
   cases e with
   | normal =>
    obtain ⟨hk3, hi3⟩ := hp
    obtain ⟨hr, hl3, hl4, hk4⟩ := fin none W3 hk3.others
    exact ⟨_, _, hr, offs hk3, .inl ⟨rfl, hI _ _ _ _ hi3 (Frm.putObj W3 _ _) (hnc _ _ hl3), hl4, hk4⟩⟩
   | ret =>
    obtain ⟨hk3, hi3⟩ := hp
    obtain ⟨hr, hl3, hl4, hk4⟩ := fin (some .ret) W3 hk3.others
    exact ⟨_, _, hr, offs hk3, .inr ⟨rfl, .inl ⟨hIx _ _ _ _ _ hi3 (Frm.putObj W3 _ _) (hnc _ _ hl3), hl4⟩, hk4⟩⟩
   | exit id =>
    obtain ⟨hk3, hi3⟩ := hp
    obtain ⟨hr, hl3, hl4, hk4⟩ := fin (some (.exit id)) W3 hk3.others
    exact ⟨_, _, hr, offs hk3, .inr ⟨rfl, .inr ⟨id, hIx _ _ _ _ _ hi3 (Frm.putObj W3 _ _) (hnc _ _ hl3), hl4⟩, hk4⟩⟩
   | goto t => exact hp.elim
   | panic ch => exact hp.elim
   | outgrown => exact hp.elim
  | exit id => exact hq1.elim
  | goto t => exact hq1.elim
  | ret => exact hq1.elim
  | panic ch => exact hq1.elim
  | outgrown => exact hq1.elim
 have hs' : Sat ⟨m, sM (w.heap.size :: ds), none⟩ Γ { a with defers := [{ target := .collected w.heap.size, args := #[] }] ++ a.defers } := ⟨hs.size, by show [_] ++ a.defers = _; rw [hs.defers]; rfl, hs.at_⟩
 rintro e W2 ⟨⟨v, rfl⟩, (⟨hi, hl, hk⟩ | ⟨pre, h1, hk⟩)⟩
 ·
  have hend := run_endLoop (P := P) hl (by rw [hrec]; simp)
  refine ⟨none, _, by rw [hend, hrec], ?_⟩
  exact ⟨_, Γ, hs', hdone _ (hI _ _ _ _ hi (Frm.putObj _ _ _) (hnc _ _ hl)) (zbd (hsz _ _ hl) (Frm.putObj _ _ _).size) (hmk _ _ hk)⟩
 rcases h1 with ⟨hi, hl⟩ | ⟨id, hi, hl⟩
 ·
  have hend := run_endLoop (P := P) hl (by rw [hrec]; simp)
  refine ⟨some .ret, _, by rw [hend, hrec], ?_⟩
  exact wpIn_ret (Q := xR m Q) ⟨_, Γ, hs', hret _ _ (hIx _ _ _ _ _ hi (Frm.putObj _ _ _) (hnc _ _ hl)) (zbd (hsz _ _ hl) (Frm.putObj _ _ _).size) (hmk _ _ hk)⟩
 have hend := run_endLoop (P := P) hl (by rw [hrec]; simp)
 refine ⟨some (.exit id), _, by rw [hend, hrec], ?_⟩
 exact wpIn_exit (Q := xR m Q) ⟨_, Γ, hs', hexit _ _ _ (hIx _ _ _ _ _ hi (Frm.putObj _ _ _) (hnc _ _ hl)) (zbd (hsz _ _ hl) (Frm.putObj _ _ _).size) (hmk _ _ hk)⟩
end
section
open Go.RowKit Go.Sort
theorem Own.short {w : World} {e size n c k : Nat} {A : Option Addr} {xs : List Value} (h : Own w e size A n c xs) (hk : k ≤ n) : Own w e size A k c (xs.take (k * size)) := by
 have hl := h.len
 have hmul : k * size ≤ n * size := zdf _ hk
 refine ⟨by rw [zk]; omega, ?_⟩
 rcases h.cases with ⟨rfl, rfl, rfl, rfl⟩ | ⟨g, cur, rfl, hb, h1, h2, h3, h4⟩
 ·
  have : k = 0 := jo
  subst this
  simp
 right
 refine ⟨g, c, cur, rfl, zj _, hb, jo, h2, h3, ?_⟩
 rw [← h4, zex, zbh hmul]
end
section
open Go.RowKit Go.ChangeShapes Go.WideShapes Go.Deep
section
variable {H : Type} {enc : TypeId × Value → H} {P : Program} {w : World} {base : Nat} {spare : Nat → Bool} {held : Bool} {n : Nat} {cs : List Value} {x : DataW H × List MemPlace} {t e : TypeId}
theorem xB {fs : Array Field} (ht : P.underlying t = some (.struct fs)) (h : DataW.trod enc P w base spare held n t cs = some x) :
  cs.length = P.cellsOf t ∧ ∃ n', ∀ (i : Nat) (f : Field), fs[i]? = some f → ∃ y, DataW.trod enc P w base spare held n' f.type ((cs.drop f.offset).take (P.cellsOf f.type)) = some y := by
 obtain ⟨xs, n', _, _, hl, hxl, hf⟩ := DataW.trod_struct ht h
 refine ⟨hl, n', fun i f hif => ?_⟩
 have hi : i < xs.length := by rw [hxl]; exact (Array.getElem?_eq_some_iff.1 hif).1
 exact ⟨xs[i], (hf i f hif).trans (ze hi)⟩
theorem oS {k : IntKind} (ht : P.underlying t = some (.int k)) (h : DataW.trod enc P w base spare held n t cs = some x) : ∃ z, cs = [.int k z] ∧ (Lit.int k z).wf = true := by
 obtain ⟨z, h1, _, h2⟩ := DataW.trod_int ht h
 exact ⟨z, h1, h2⟩
theorem sP (ht : P.underlying t = some (.slice e)) (h : DataW.trod enc P w base spare held n t cs = some x) : ∃ A l c, cs = [.slice A l c] := by
 rcases open_slice ht h with ⟨hcs, _⟩ | ⟨ad, l, c, _, _, _, _, hcs, _⟩
 · exact ⟨_, _, _, hcs⟩
 exact ⟨_, _, _, hcs⟩
end
end
section
open Go.RowKit
theorem eZ (l : List Nat) : ∀ u ∈ NB l, u.oneCell' = true := by
 intro u hu
 obtain ⟨b, _, rfl⟩ := List.mem_map.1 hu
 rfl
theorem gK (l : List Nat) : (NB l).length = l.length := by simp [NB]
theorem dM (a b : List Nat) : NB (a ++ b) = NB a ++ NB b := by simp [NB]
theorem qMt (a : List Nat) (i : Nat) (h : i < a.length) : (NB a)[i]? = some (.int .u8 ((a.getD i 0 : Nat) : Int)) := by
 simp [NB, h]
theorem qKz (xs : List Nat) (h : ∀ x ∈ xs, x < 256) : NB xs = U8 (xs.map UInt8.ofNat) := by
 simp only [NB, U8, zeh]
 apply zfm
 intro x hx
 have := h x hx
 simp
 omega
def qF (xs : List Nat) : ByteArray := ⟨(xs.map UInt8.ofNat).toArray⟩
theorem lW (xs : List Nat) : (qF xs).size = xs.length := by simp [qF, ByteArray.size]
theorem vR (a b : List Nat) : qF a ++ qF b = qF (a ++ b) := by
 unfold qF
 rw [ByteArray.mk_append_mk, zv]
theorem mR {L : List Nat} {i : Nat} (h : i < L.length) : L.take (i + 1) = L.take i ++ [L.getD i 0] := by
 rw [zcq, ze h, zb, ze h]
 rfl
theorem kL {l : List Nat} (hB : ∀ b ∈ l, b < 256) (i : Nat) : l.getD i 0 < 256 := by
 rw [zb]
 cases h : l[i]? with
 | none => simp
 | some x => exact hB x (zen h)
theorem gF {w : World} {A : Option Addr} {n : Nat} {bs : List Nat} (hr : Rd w 1 A n (NB bs)) (hn : bs.length = n) {i : Nat} (hi : i < n) : ∃ ad, A = some ad ∧ w.cell? (ad.add i) = some (.int .u8 ((bs.getD i 0 : Nat) : Int)) := by
 obtain ⟨ad, h1, _, hc⟩ := hr.2 jo
 exact ⟨ad, h1, hc i _ (qMt bs i jo)⟩
end
section
def qC : Nat → Nat → List Nat
 | _, 0 => []
 | v, n + 1 => v % 256 :: qC (v / 256) n
def cT : List Nat → Nat
 | [] => 0
 | b :: r => b + 256 * cT r
theorem numL_len : ∀ v n, (qC v n).length = n
 | _, 0 => rfl
 | v, n + 1 => by rw [qC, zad, numL_len]
theorem numL_lt : ∀ v n, ∀ b ∈ qC v n, b < 256
 | _, 0, b, h => by cases h
 | v, n + 1, b, h => by
  rcases zaq.1 h with rfl | h
  · omega
  exact numL_lt _ n b h
theorem rE : ∀ l : List Nat, (∀ b ∈ l, b < 256) → cT l < 256 ^ l.length
 | [], _ => by simp [cT]
 | b :: r, h => by
  have h1 := rE r (fun x hx => h x (zdg _ hx))
  have h2 := h b zcl
  rw [cT, zad, Nat.pow_succ]
  omega
theorem qXj : ∀ l : List Nat, (∀ b ∈ l, b < 256) → qC (cT l) l.length = l
 | [], _ => rfl
 | b :: r, h => by
  have h2 := h b zcl
  rw [cT, zad, qC, show (b + 256 * cT r) / 256 = cT r by omega, show (b + 256 * cT r) % 256 = b by omega, qXj r (fun x hx => h x (zdg _ hx))]
theorem tT : ∀ n v, qC v (n + 1) = qC v n ++ [v / 256 ^ n % 256]
 | 0, v => by simp [qC]
 | n + 1, v => by
  have ih := tT n (v / 256)
  rw [qC, ih, zfq, ← Nat.pow_succ']
  rfl
theorem vS : ∀ a b : List Nat, cT (a ++ b) = cT a + 256 ^ a.length * cT b
 | [], b => by simp [cT]
 | x :: a, b => by
  rw [zcx, cT, cT, vS a b, zad, Nat.pow_succ, Nat.mul_add, zff (256 ^ a.length) 256, Nat.mul_assoc, Nat.add_assoc]
end
section
def gR (w : Nat) : Nat := if w % 2 = 1 then (w / 2) ^^^ 3988292384 else w / 2
def stepN : Nat → Nat → Nat
 | 0, w => w
 | n + 1, w => stepN n (gR w)
def goM (w : Nat) (bs : List Nat) : Nat := bs.foldl (fun w b => stepN 8 (w ^^^ b)) w
def crcM (bs : List Nat) : Nat := 4294967295 - goM 4294967295 bs
theorem qY6 (x y : Nat) : (x ^^^ y) / 2 = x / 2 ^^^ y / 2 := by
 have := Nat.shiftRight_xor_distrib (a := x) (b := y) (i := 1)
 simpa [Nat.shiftRight_eq_div_pow] using this
theorem qHs (x y : Nat) : (x ^^^ y) % 2 = (x + y) % 2 := by
 have h1 := Nat.xor_mod_two_pow (a := x) (b := y) (n := 1)
 rw [Nat.pow_one] at h1
 rw [h1]
 rcases Nat.mod_two_eq_zero_or_one x with hx | hx <;> rcases Nat.mod_two_eq_zero_or_one y with hy | hy <;> rw [hx, hy] <;> simp <;> omega
theorem wP {x y : Nat} (hx : x < 4294967296) (hy : y < 4294967296) : x ^^^ y < 4294967296 := zgj (n := 32) hx hy
theorem qY7 {w : Nat} (h : w < 4294967296) : gR w < 4294967296 := by
 unfold gR
 split
 · exact wP jo jo
 omega
theorem mS : ∀ n {w : Nat}, w < 4294967296 → stepN n w < 4294967296
 | 0, _, h => h
 | n + 1, _, h => mS n (qY7 h)
theorem qV4 (x y : Nat) : gR (x ^^^ y) = gR x ^^^ gR y := by
 have hm : (x ^^^ y) % 2 = (x + y) % 2 := qHs x y
 unfold gR
 rw [qY6, hm]
 by_cases hx : x % 2 = 1 <;> by_cases hy : y % 2 = 1
 ·
  rw [if_pos hx, if_pos hy, if_neg jo]
  rw [zgy, Nat.xor_comm 3988292384, zgy, Nat.xor_self, Nat.xor_zero]
 · rw [if_pos hx, if_neg hy, if_pos jo, zgy, Nat.xor_comm (y / 2), ← zgy]
 · rw [if_neg hx, if_pos hy, if_pos jo, zgy]
 rw [if_neg hx, if_neg hy, if_neg jo]
theorem zE : ∀ n x y, stepN n (x ^^^ y) = stepN n x ^^^ stepN n y
 | 0, _, _ => rfl
 | n + 1, x, y => by rw [stepN, qV4, zE n]; rfl
theorem qK0 (m : Nat) : gR (2 * m) = m := by
 unfold gR
 rw [if_neg jo]
 omega
theorem xC : ∀ n m, stepN n (2 ^ n * m) = m
 | 0, m => by simp [stepN]
 | n + 1, m => by
  rw [stepN, show 2 ^ (n + 1) * m = 2 * (2 ^ n * m) by rw [Nat.pow_succ, zff (2 ^ n) 2, Nat.mul_assoc], qK0, xC n m]
theorem qY8 (w : Nat) : w = (256 * (w / 256)) ^^^ (w % 256) := by
 apply Nat.eq_of_testBit_eq
 intro i
 rw [Nat.testBit_xor, show (256 : Nat) = 2 ^ 8 from rfl, Nat.testBit_mod_two_pow, Nat.testBit_two_pow_mul]
 by_cases hi : i < 8
 · simp [hi, show ¬ 8 ≤ i by omega]
 rw [Nat.testBit_div_two_pow]
 simp [hi, show 8 ≤ i by omega]
theorem qXk (w c : Nat) : stepN 8 ((w % 256) ^^^ c) ^^^ (w / 256) = stepN 8 (w ^^^ c) := by
 have h1 : stepN 8 (256 * (w / 256)) = w / 256 := xC 8 _
 have h2 := qY8 w
 have h3 : stepN 8 (w ^^^ c) = stepN 8 (256 * (w / 256)) ^^^ stepN 8 ((w % 256) ^^^ c) := by rw [← zE, ← zgy, ← h2]
 rw [h3, h1, Nat.xor_comm]
theorem rF : ∀ (bs : List Nat) {w : Nat}, w < 4294967296 → (∀ b ∈ bs, b < 256) → goM w bs < 4294967296
 | [], _, h, _ => h
 | b :: bs, w, h, hB => rF bs (mS 8 (wP h (by have := hB b zcl; omega))) (fun x hx => hB x (zdg _ hx))
theorem qK1 (w : Nat) (a b : List Nat) : goM w (a ++ b) = goM (goM w a) b := by unfold goM; rw [zfx]
theorem kW (bs : List Nat) : crcM bs < 4294967296 := by unfold crcM; omega
end
section
structure Dk where
 has : List (List Nat)
 wts : List (Nat × List Nat)
 bud : Int
 off : Bool
def noM (n : Nat) : List Nat := List.replicate n 0
def eX (i : Nat) : List (Nat × List Nat) → Option (List Nat)
 | [] => none
 | (a, b) :: r => match eX i r with
  | some s => some s
  | none => if a = i then some b else none
def Dk.sec (d : Dk) (i : Nat) : List Nat := (eX i d.wts).getD (d.has.getD i [])
def Dk.read (d : Dk) (i : Nat) : Nat × List Nat := if ¬ i < d.has.length then (4, []) else if d.off then (10, []) else (0, d.sec i)
def Dk.fails (d : Dk) : Prop := d.off = true ∨ d.bud = 0
instance (d : Dk) : Decidable d.fails := by unfold Dk.fails; infer_instance
def Dk.dead (d : Dk) : Dk := { d with off := true }
def Dk.less (d : Dk) : Dk := { d with bud := if 0 < d.bud then d.bud - 1 else d.bud }
def Dk.write (d : Dk) (i : Nat) (b : List Nat) : Nat × Dk :=
 if ¬ i < d.has.length then (4, d) else if b.length ≠ 128 then (1, d) else if d.fails then (10, d.dead)
 else (0, { d.less with wts := d.wts ++ [(i, b)] })
def bB (hold : Nat → Bool) : Nat → List (List Nat) → List (Nat × List Nat) → List (List Nat)
 | _, h, [] => h
 | k, h, (a, b) :: r => bB hold (k + 1) (if hold k then h.set a b else h) r
def Dk.flush (d : Dk) : Nat × Dk := if d.fails then (10, d.dead) else (0, { d.less with has := bB (fun _ => true) 0 d.has d.wts, wts := [] })
def Dk.cut (d : Dk) (keep : List Bool) : Dk := { d with has := bB (fun k => keep.getD k false) 0 d.has d.wts, wts := [], off := true }
def Dk.on (d : Dk) : Dk := { d with wts := [], bud := -1, off := false }
def Dk.new (n : Nat) : Dk := ⟨List.replicate n (noM 128), [], -1, false⟩
inductive Stp
 | wr (i : Nat) (b : List Nat)
 | fl
def Stp.run (d : Dk) : Stp → Nat × Dk
 | .wr i b => d.write i b
 | .fl => d.flush
def qL (d : Dk) : List Stp → Nat × Dk
 | [] => (0, d)
 | s :: r => if (s.run d).1 ≠ 0 then s.run d else qL (s.run d).2 r
structure Dk.ok (d : Dk) : Prop where
 sec : ∀ s ∈ d.has, s.length = 128 ∧ ∀ b ∈ s, b < 256
 wt : ∀ x ∈ d.wts, x.1 < d.has.length ∧ x.2.length = 128 ∧ ∀ b ∈ x.2, b < 256
 bud : -1 ≤ d.bud
 big : d.has.length ≤ 2048
 bmax : d.bud ≤ 9223372036854775807
theorem eQ (hold : Nat → Bool) : ∀ (r : List (Nat × List Nat)) (k : Nat) (h : List (List Nat)), (bB hold k h r).length = h.length
 | [], _, _ => rfl
 | (a, b) :: r, k, h => by
  rw [bB, eQ hold r]
  split
  · rw [List.length_set]
  rfl
theorem pP (hold : Nat → Bool) (P : List Nat → Prop) : ∀ (r : List (Nat × List Nat)) (k : Nat) (h : List (List Nat)), (∀ s ∈ h, P s) → (∀ x ∈ r, P x.2) → ∀ s ∈ bB hold k h r, P s
 | [], _, _, hh, _ => hh
 | (a, b) :: r, k, h, hh, hr => by
  rw [bB]
  refine pP hold P r (k + 1) _ ?_ (fun x hx => hr x (zdg _ hx))
  split
  ·
   intro s hs
   rcases List.mem_or_eq_of_mem_set hs with h1 | h1
   · exact hh s h1
   rw [h1]; exact hr (a, b) zcl
  exact hh
theorem tU {i : Nat} {s : List Nat} : ∀ {l : List (Nat × List Nat)}, eX i l = some s → (i, s) ∈ l
 | [], h => by cases h
 | (a, b) :: r, h => by
  unfold eX at h
  split at h
  ·
   rename_i s' hs
   cases h
   exact zdg _ (tU hs)
  split at h
  ·
   cases h
   rename_i e
   subst e
   exact zcl
  cases h
theorem kY (i : Nat) (x : Nat × List Nat) : ∀ l : List (Nat × List Nat), eX i (l ++ [x]) = if x.1 = i then some x.2 else eX i l
 | [] => by
  obtain ⟨a, b⟩ := x
  simp only [zbu, eX]
 | (a, b) :: r => by
  rw [zcx, eX, kY i x r]
  by_cases h : x.1 = i
  · rw [if_pos h, if_pos h]
  rw [if_neg h, if_neg h, eX]
theorem Dk.ok.secAt {d : Dk} (h : d.ok) {i : Nat} (hi : i < d.has.length) : (d.sec i).length = 128 ∧ ∀ b ∈ d.sec i, b < 256 := by
 unfold Dk.sec
 cases hl : eX i d.wts with
 | none =>
  rw [Option.getD_none, zb, ze hi]
  exact h.sec _ (zbp hi)
 | some s => exact ⟨(h.wt _ (tU hl)).2.1, (h.wt _ (tU hl)).2.2⟩
theorem Dk.ok.less_ok {d : Dk} (h : d.ok) : d.less.ok := ⟨h.sec, h.wt, by have := h.bud; unfold Dk.less; dsimp only; split <;> omega, h.big, by have := h.bmax; unfold Dk.less; dsimp only; split <;> omega⟩
theorem Dk.ok.dead_ok {d : Dk} (h : d.ok) : d.dead.ok := ⟨h.sec, h.wt, h.bud, h.big, h.bmax⟩
theorem Dk.write_len (d : Dk) (i : Nat) (b : List Nat) : (d.write i b).2.has.length = d.has.length := by
 unfold Dk.write
 split
 · rfl
 split
 · rfl
 split <;> rfl
theorem Dk.ok.write_ok {d : Dk} (h : d.ok) (i : Nat) (b : List Nat) (hb : ∀ x ∈ b, x < 256) : (d.write i b).2.ok := by
 unfold Dk.write
 split
 · exact h
 split
 · exact h
 split
 · exact h.dead_ok
 refine ⟨h.sec, fun x hx => ?_, h.less_ok.bud, h.big, h.less_ok.bmax⟩
 rcases zcp.1 hx with hx | hx
 · exact h.wt x hx
 rw [za] at hx
 subst hx
 exact ⟨by simpa using ‹¬¬_›, by simpa using ‹¬ b.length ≠ 128›, hb⟩
theorem Dk.flush_len (d : Dk) : d.flush.2.has.length = d.has.length := by
 unfold Dk.flush
 split
 · rfl
 exact eQ _ _ _ _
theorem Dk.ok.cut_ok {d : Dk} (h : d.ok) (keep : List Bool) : (d.cut keep).ok := by
 refine ⟨pP _ (fun s => s.length = 128 ∧ ∀ b ∈ s, b < 256) _ _ _ h.sec (fun x hx => (h.wt x hx).2), by simp [Dk.cut], h.bud, ?_, h.bmax⟩
 show (bB _ 0 d.has d.wts).length ≤ 2048
 rw [eQ]
 exact h.big
theorem Dk.ok.on_ok {d : Dk} (h : d.ok) : d.on.ok := ⟨h.sec, by simp [Dk.on], by simp [Dk.on], h.big, by simp [Dk.on]⟩
theorem Stp.run_len (d : Dk) : ∀ s : Stp, (s.run d).2.has.length = d.has.length
 | .wr i b => d.write_len i b
 | .fl => d.flush_len
theorem mT : ∀ (l : List Stp) (d : Dk), (qL d l).2.has.length = d.has.length
 | [], _ => rfl
 | s :: r, d => by
  rw [qL]
  split
  · exact Stp.run_len d s
  rw [mT r, Stp.run_len]
theorem nQ : ∀ (a b : List Stp) (d : Dk), qL d (a ++ b) = if (qL d a).1 ≠ 0 then qL d a else qL (qL d a).2 b
 | [], b, d => by rw [zbu, qL]; simp
 | s :: a, b, d => by
  rw [zcx, qL, qL]
  by_cases h : (s.run d).1 ≠ 0
  · rw [if_pos h, if_pos h, if_pos h]
  rw [if_neg h, if_neg h, nQ a b]
theorem nY (a : List Stp) (s : Stp) (d : Dk) (h : (qL d a).1 = 0) : qL d (a ++ [s]) = s.run (qL d a).2 := by
 rw [nQ, if_neg (by simp [h]), qL]
 split
 · rfl
 rename_i h2
 rw [qL]
 have : (s.run (qL d a).2).1 = 0 := by simpa using h2
 rw [← this]
end
section
open Go.RowKit
def sx (s : List Nat) : List Value := NB ((s ++ noM 128).take 128)
theorem eP (s : List Nat) : (sx s).length = 128 := by simp [sx, NB, noM]
theorem qQ6 {s : List Nat} (h : s.length = 128) : sx s = NB s := by rw [sx, zfj h]
theorem qV5 (s : List Nat) : ∀ u ∈ sx s, u.oneCell' = true := eZ _
def wx (x : Nat × List Nat) : List Value := jI1 x.1 :: sx x.2
theorem kT (x : Nat × List Nat) : (wx x).length = 129 := by simp [wx, eP]
theorem qXl (x : Nat × List Nat) : ∀ u ∈ wx x, u.oneCell' = true := fun u hu => by
 rcases zaq.1 hu with rfl | hu
 · rfl
 exact qV5 _ u hu
structure IsDk (w : World) (g : Nat) (F : List Nat) (d : Dk) : Prop where
 ok : d.ok
 ex : ∃ A c B cb, Blk w g 81 #[.slice A d.has.length c, .slice B d.wts.length cb, .int .i64 d.bud, .bool d.off] ∧ Own w 149 128 A d.has.length c (d.has.flatMap sx) ∧ Own w 151 129 B d.wts.length cb (d.wts.flatMap wx) ∧ F = g :: (ob A ++ ob B)
theorem IsDk.lt {w : World} {g : Nat} {F : List Nat} {d : Dk} (h : IsDk w g F d) : ∀ x ∈ F, x < w.heap.size := by
 obtain ⟨A, c, B, cb, hb, hA, hB, rfl⟩ := h.ex
 intro x hx
 rcases zaq.1 hx with rfl | hx
 · exact hb.lt
 rcases zcp.1 hx with hx | hx
 · exact hA.lt x hx
 exact hB.lt x hx
theorem IsDk.mem {w : World} {g : Nat} {F : List Nat} {d : Dk} (h : IsDk w g F d) : g ∈ F := by
 obtain ⟨A, c, B, cb, hb, hA, hB, rfl⟩ := h.ex
 exact zcl
theorem IsDk.frm {w w' : World} {g : Nat} {F S : List Nat} {d : Dk} (h : IsDk w g F d) (k : Frm S w w') (hS : ∀ x ∈ F, x ∉ S) : IsDk w' g F d := by
 obtain ⟨A, c, B, cb, hb, hA, hB, rfl⟩ := h.ex
 exact ⟨h.ok, A, c, B, cb, hb.frm k (hS g zcl), hA.frm k (fun x hx => hS x (by simp [hx])), hB.frm k (fun x hx => hS x (by simp [hx])), rfl⟩
theorem IsDk.drawn {w w' : World} {g : Nat} {F : List Nat} {d : Dk} (h : IsDk w g F d) (k : qP w w') : IsDk w' g F d := h.frm k.frm jp
def Fk (F : List Nat) (w w' : World) (F' : List Nat) : Prop := Frm F w w' ∧ ∀ x ∈ F', x ∈ F ∨ w.heap.size ≤ x
theorem Fk.refl (F : List Nat) (w : World) : Fk F w w F := ⟨Frm.refl F w, fun x hx => .inl hx⟩
theorem Fk.trans {F F' F'' : List Nat} {a b c : World} (h : Fk F a b F') (k : Fk F' b c F'') : Fk F a c F'' := ⟨h.1.trans k.1 h.2, fun x hx => by
 rcases k.2 x hx with h1 | h1
 · exact h.2 x h1
 exact .inr (zbd h.1.size h1)⟩
theorem Fk.frm {F F' S : List Nat} {a b c : World} (h : Fk F a b F') (k : Frm S b c) (hS : ∀ x ∈ S, x ∈ F ∨ a.heap.size ≤ x) : Fk F a c F' := ⟨h.1.trans k hS, h.2⟩
theorem Fk.pre {F F' : List Nat} {a b c : World} (k : Frm [] a b) (h : Fk F b c F') : Fk F a c F' := ⟨(k.mono (T := F) jp).trans h.1 (fun x hx => .inl hx), fun x hx => by
 rcases h.2 x hx with h1 | h1
 · exact .inl h1
 exact .inr (zbd k.size h1)⟩
theorem Fk.out {F F' : List Nat} {w w' : World} (h : Fk F w w' F') {x : Nat} (h1 : x < w.heap.size) (h2 : x ∉ F) : x ∉ F' := fun hx => by
 rcases h.2 x hx with h3 | h3
 · exact h2 h3
 omega
theorem dU (g : Nat) (F : List Nat) (d : Dk) (w : World) (hD : IsDk w g F d) : Calls Tryz.prog 38 #[jI0 g] w fun e w' => e = .returned (jI1 d.has.length) ∧ w = w' := by
 obtain ⟨A, c, B, cb, hb, hA, hB, rfl⟩ := hD.ex
 have hbig := hD.ok.big
 refine jV Tryz.func38 Tryz.ntmps38 Tryz.results38 ?_
 refine jS (jR (jz 0 (jO (jN (jv1 0 ?_)))))
 refine jS (jR (jm rfl (jZ rfl (jf rfl zbn rfl zgw (jl rfl Tryz.isAgg78 (hb.cell 0) (jL rfl zfy (ja rfl (jO (jN (jv1 2 ?_))))))))))
 refine jT ?_
 refine qS rfl ?_
 exact ⟨rfl, rfl⟩
theorem wR (g i : Nat) (F : List Nat) (d : Dk) (w : World) (hD : IsDk w g F d) : Calls Tryz.prog 76 #[jI0 g, jI1 i] w fun e w' => e = .returned (.bool (decide (i < d.has.length))) ∧ w = w' := by
 obtain ⟨A, c, B, cb, hb, hA, hB, rfl⟩ := hD.ex
 have hbig := hD.ok.big
 refine jV Tryz.func76 Tryz.ntmps76 Tryz.results76 ?_
 refine jS (jR (ja rfl (jO (jN (jv2 0 1 ?_)))))
 refine jS (jR (jm rfl (jb rfl rfl (Bin.geqN _ 0) (jM ?_))))
 refine Ops.rg rfl (decide_eq_true (zj _)) (Run.mv rfl) rfl ?_
 refine Ops.rg rfl (decide_eq_true (zj _)) (Run.mv rfl) rfl ?_
 refine Ops.rg rfl (decide_eq_true (zj _)) (Run.nilck rfl) rfl ?_
 refine Ops.rg rfl (decide_eq_true (zj _)) (Run.fieldAddr rfl zbn rfl zgw jd) rfl ?_
 refine Ops.rg rfl (decide_eq_true (zj _)) (Run.load rfl Tryz.isAgg78 (hb.cell 0)) rfl ?_
 refine Ops.rg rfl (decide_eq_true (zj _)) (Run.lenS rfl zfy) rfl ?_
 refine Ops.rg rfl (decide_eq_true (zj _)) (Run.bin rfl rfl (Bin.lssN _ _)) rfl ?_
 refine jW rfl rfl (decide_eq_true (zj _)) (ja rfl (jO (jN (jv1 4 ?_))))
 refine jT ?_
 refine qS rfl ?_
 exact ⟨rfl, rfl⟩
theorem tC (vs : List Value) (w : World) (hv : vs.length = 128) : Calls Tryz.prog 78 #[.agg vs.toArray] w fun e w' => e = .returned (.slice (some ⟨w.heap.size, 0, none⟩) 128 128) ∧ Blk w' w.heap.size 149 vs.toArray ∧ Frm [] w w' ∧ w'.heap.size = w.heap.size + 1 := by
 refine jV Tryz.func78 Tryz.ntmps78 Tryz.results78 ?_
 refine jS (jR ?_)
 refine Ops.m (qV.box rfl) rfl ?_
 rintro _ w1 ⟨rfl, hF1⟩
 refine ja rfl (jO (jN (jv1 1 ?_)))
 refine jS (jR (je (Run.sliceA 0 _ rfl Tryz.underlying149 zam evB.none_ evB.none_ jo jo) (ja rfl (jO (jN (jv1 2 ?_))))))
 refine jT ?_
 refine qS rfl ?_
 exact ⟨rfl, hF1.blk, hF1.frm, hF1.size⟩
theorem xD (g : Nat) (F : List Nat) (d : Dk) (w : World) (hD : IsDk w g F d) : Calls Tryz.prog 79 #[jI0 g] w fun e w' => e = .returned (.bool (decide (¬ d.fails))) ∧ IsDk w' g F (if d.fails then d.dead else d.less) ∧ Frm [g] w w' ∧ w'.heap.size = w.heap.size := by
 obtain ⟨A, c, B, cb, hb, hA, hB, rfl⟩ := hD.ex
 have hbig := hD.ok.big
 have hgA := hA.ne_blk hb jd
 have hgB := hB.ne_blk hb jd
 have hbud := hD.ok.bud
 have hbm := hD.ok.bmax
 have fin : ∀ (w' : World) (b : Int) (o : Bool), Blk w' g 81 #[.slice A d.has.length c, .slice B d.wts.length cb, .int .i64 b, .bool o] → Frm [g] w w' → (-1 ≤ b ∧ b ≤ 9223372036854775807) → IsDk w' g (g :: (ob A ++ ob B)) { d with bud := b, off := o } := fun w' b o h k hbb =>
  ⟨⟨hD.ok.sec, hD.ok.wt, hbb.1, hD.ok.big, hbb.2⟩, A, c, B, cb, h, hA.frm k (fun x hx => by simp; rintro rfl; exact hgA hx), hB.frm k (fun x hx => by simp; rintro rfl; exact hgB hx), rfl⟩
 refine jV Tryz.func79 Tryz.ntmps79 Tryz.results79 ?_
 refine jS (jR (ja rfl (jO (jN (jv1 0 ?_)))))
 refine jS (jS (jR (jm rfl (jZ rfl (jf rfl zbn rfl zm (jl rfl zaa (hb.cell 2) (jb rfl rfl (Bin.eql _ 0) (jO (jN (jv2 0 7 ?_))))))))))
 refine VC.meet (σ := Unit) (fun s => [(0, jI0 g)]) (fun s wr => Blk wr g 81 #[.slice A d.has.length c, .slice B d.wts.length cb, .int .i64 d.bud, .bool (decide (d.fails))] ∧ Frm [g] w wr ∧ wr.heap.size = w.heap.size) ?_ ?_
 ·
  refine jD rfl (fun hc1 => ?_) fun hc1 => ?_
  ·
   refine jR (jm rfl (jZ rfl (jf rfl zbn rfl zat ?_)))
   refine Ops.st (qT.store rfl rfl zat hb rfl rfl) ?_
   rintro w1 ⟨hb1, hf1, hs1⟩
   refine jO ?_
   refine jN ⟨(), (js1 rfl), ?_⟩
   rw [show decide d.fails = true by simp [Dk.fails, hc1]]
   exact ⟨hb1, hf1, hs1⟩
  refine jQ ?_
  refine jN ⟨(), (js1 rfl), ?_⟩
  rw [show decide d.fails = d.off by simp [Dk.fails, hc1]]
  exact ⟨hb, (Frm.refl _ _), rfl⟩
 rintro _ wr ⟨hb, K, hsz⟩ Γ hΓ
 refine jN (VC.sub _ hΓ (jS (jS (jR (jm rfl (jZ rfl (jf rfl zbn rfl zat (jl rfl zcr (hb.cell 3) (jO (jN (jv2 0 14 ?_)))))))))))
 refine VC.condB rfl (fun hc2 => ?_) (fun hc2 => ?_)
 ·
  have hfl : d.fails := of_decide_eq_true hc2
  refine jS (jR (ja rfl (jO (jN (jv1 2 ?_)))))
  refine jT ?_
  refine qQ (qS rfl ?_)
  rw [if_pos hfl, decide_eq_false (not_not_intro hfl)]
  refine ⟨rfl, ?_, K, hsz⟩
  have := fin wr d.bud (decide d.fails) hb K ⟨hbud, hbm⟩
  rw [decide_eq_true hfl] at this
  exact this
 have hfl : ¬ d.fails := of_decide_eq_false hc2
 have ho : d.off = false := by simpa [Dk.fails] using fun h => hfl (.inl h)
 refine jQ (jN (jv1 0 ?_))
 refine jS (jS (jR (jm rfl (jZ rfl (jf rfl zbn rfl zm (jl rfl zaa (hb.cell 2) (jb rfl rfl (Bin.gtr _ 0) (jO (jN (jv2 0 19 ?_))))))))))
 refine jD rfl (fun hc3 => ?_) fun hc3 => ?_
 ·
  refine jR (jm rfl (jZ rfl (jf rfl zbn rfl zm (jl rfl zaa (hb.cell 2) (jb rfl rfl (Bin.subZ _ 1 jo jo) (jZ rfl (jf rfl zbn rfl zm ?_)))))))
  refine Ops.st (qT.store rfl rfl zm hb rfl rfl) ?_
  rintro w2 ⟨hb2, hf2, hs2⟩
  refine jO (jN ?_)
  refine VC.sub [] .nil ?_
  refine jS (jR (ja rfl (jO (jN (jT ?_)))))
  refine qS rfl ?_
  rw [if_neg hfl, decide_eq_true hfl]
  have K2 := K.trans hf2 jp
  refine ⟨rfl, ?_, K2, hs2.trans hsz⟩
  have := fin _ (d.bud - 1) (decide d.fails) hb2 K2 ⟨jo, jo⟩
  rw [decide_eq_false hfl, ← ho] at this
  simp only [Dk.less, if_pos hc3]
  exact this
 refine jQ (jN ?_)
 refine VC.sub [] .nil ?_
 refine jS (jR (ja rfl (jO (jN (jT ?_)))))
 refine qS rfl ?_
 rw [if_neg hfl, decide_eq_true hfl]
 refine ⟨rfl, ?_, K, hsz⟩
 have := fin wr d.bud (decide d.fails) hb K ⟨hbud, hbm⟩
 rw [decide_eq_false hfl, ← ho] at this
 simp only [Dk.less, if_neg hc3]
 exact this
theorem DV.rangeA {α : Type} {P : Program} {m : Nat} {ds : List Nat} {Γ : Env} {w : World} {Q : DQ} {g : Operand} {ps : List Tmp} {assign body : Code} {gf : FuncId} {lb : Array Value} {Kp : World → Prop} {xs : List α} {B Bt : List Nat} (encs : α → List Value)
  (hit : qXi P gf lb (fun x => (encs x).toArray) B Bt Kp xs) (hg : ev? Γ g = some (.func (.func gf) #[] lb)) (eg : ∀ args w, (callFunc gf args).run P w = .ok (.enter gf args) w) (hps : ∀ x, (encs x).length = ps.length) (hpm : (ps.all fun p => Nat.blt p m) = true)
  (I : List α → World → Prop) (Ix : Exit → List α → World → Prop) (AS : α → World → Env → Prop)
  (hI : ∀ pre W W' S, I pre W → Frm S W W' → NC w W B S → I pre W') (hIx : ∀ e pre W W' S, Ix e pre W → Frm S W W' → NC w W B S → Ix e pre W') (hK : ∀ W, Frm [] w W → Kp W) (hB : ∀ b ∈ B, b ∈ Bt) (hBt : ∀ b ∈ Bt, b < w.heap.size) (h0 : I [] w)
  (hAS : ∀ x W W' S Γ', AS x W Γ' → Frm S W W' → NC w W B S → AS x W' Γ')
  (hassign : ∀ l pre x W, I pre W → w.heap.size + 2 ≤ W.heap.size → VC P ⟨m, [], some l⟩ assign ((ps.zip (encs x)).reverse ++ Γ) W (lR (fun Γ' W' => Frm [] W W' ∧ AS x W' Γ') (fun _ _ _ => False)))
  (hbody : ∀ l pre x W Γ', I pre W → AS x W Γ' → (pre ++ [x]) <+: xs → w.heap.size + 2 ≤ W.heap.size → cG W w.heap.size → VC P ⟨m, [], some l⟩ body Γ' W (qV3 Bt I Ix (pre ++ [x]) W))
  (hdone : ∀ W, I xs W → w.heap.size + 2 ≤ W.heap.size → cG W w.heap.size → Q .normal (w.heap.size :: ds) Γ W)
  (hret : ∀ pre W, Ix .ret pre W → w.heap.size + 2 ≤ W.heap.size → cG W w.heap.size → Q .ret (w.heap.size :: ds) Γ W)
  (hexit : ∀ id pre W, Ix (.exit id) pre W → w.heap.size + 2 ≤ W.heap.size → cG W w.heap.size → Q (.exit id) (w.heap.size :: ds) Γ W) : DV P m (.rangeFunc g ps.toArray assign body) ds Γ w Q := by
 intro a hs k
 refine wpIn_rangeFunc ?_
 intro fn hfn
 obtain ⟨rec, hrec⟩ : ∃ rec : LoopState → Option Code → Loop, rec = fun st pe => { state := st, pending := pe, fn, tmps := a.tmps, params := ps.toArray, assign, body, defers := w.heap.size } := ⟨_, rfl⟩
 obtain ⟨W1, hW1⟩ : ∃ W1, (w.alloc (.deferred (some []))).alloc (.loop (rec .ready none)) = W1 := ⟨_, rfl⟩
 have hL1 : W1.heap[w.heap.size + 1]? = some (.loop (rec .ready none)) := by
  rw [← hW1]; have := World.alloc_heap_new (w.alloc (.deferred (some []))) (.loop (rec .ready none)); rwa [World.size_alloc] at this
 have hK1 : cG W1 w.heap.size := by
  rw [← hW1]; exact (Below.heap_alloc _ _ _ jp).trans (World.alloc_heap_new w _)
 have hF1 : Frm [] w W1 := by rw [← hW1]; exact ((Frm.refl [] w).alloc _).alloc _
 have hI1 : I [] W1 := hI [] w W1 [] h0 hF1 (fun b hb => by cases hb)
 have hsz : ∀ W : World, ∀ r, W.heap[w.heap.size + 1]? = some (.loop r) → w.heap.size + 2 ≤ W.heap.size := fun W r h => by
  have := (Array.getElem?_eq_some_iff.1 h).1; omega
 have hnc : ∀ W r, W.heap[w.heap.size + 1]? = some (.loop r) → NC w W B [w.heap.size + 1] := fun W r h b hb => by
  simp only [za] at hb
  subst hb
  refine .inr ⟨jo, fun o ho => by rw [h] at ho; cases ho; rfl⟩
 have hmk : ∀ (W : World) o, cG W w.heap.size → cG (W.putObj (w.heap.size + 1) o) w.heap.size := fun W o h => (World.putObj_heap_other jo).trans h
 refine ⟨w.heap.size + 1, [{ target := .collected w.heap.size, args := #[] }], W1, { target := .fn (.func gf) lb, args := #[.func (.yield (w.heap.size + 1)) #[] #[]] }, W1, gf,
  #[.func (.yield (w.heap.size + 1)) #[] #[]] ++ lb, W1, ?_, ?_, fun _ _ => trivial, ?_, fun h => by simp [wd, Fence.wide] at h, ?_⟩
 · rw [← hW1, hrec]; exact run_enterLoop_outer _ _ _ _ _
 ·
  have e1 : a.eval g = .func (.func gf) #[] lb := hs.fits _ _ hg
  simp only [resolve, e1]
  simp [go_sem]
 · simp [invoke, go_sem, eg]
 let J : List α → World → Prop := fun pre W => I pre W ∧ W.heap[w.heap.size + 1]? = some (.loop (rec .ready none)) ∧ cG W w.heap.size
 let Jx : List α → World → Prop := fun pre W => ((Ix .ret pre W ∧ W.heap[w.heap.size + 1]? = some (.loop (rec .done (some .ret)))) ∨ ∃ id, Ix (.exit id) pre W ∧ W.heap[w.heap.size + 1]? = some (.loop (rec .done (some (.exit id))))) ∧ cG W w.heap.size
 have keepL : ∀ {W W' : World} {r}, Frm B W W' → W.heap[w.heap.size + 1]? = some (.loop r) → W'.heap[w.heap.size + 1]? = some (.loop r) := fun hf h => (hf.block _ (Array.getElem?_eq_some_iff.1 h).1 (fun hx => by have := hBt _ (hB _ hx); omega)).trans h
 have keep0 : ∀ {W W' : World} {r}, Frm [] W W' → W.heap[w.heap.size + 1]? = some (.loop r) → W'.heap[w.heap.size + 1]? = some (.loop r) := fun hf h => (hf.block _ (Array.getElem?_eq_some_iff.1 h).1 jp).trans h
 have keepM : ∀ {W W' : World}, Frm B W W' → cG W w.heap.size → cG W' w.heap.size := fun hf h => h.frm hf (fun hx => by have := hBt _ (hB _ hx); omega)
 refine nD.2 ((hit (w.heap.size + 1) J Jx W1 ?_ ?_ (hK _ hF1) ?_ ⟨hI1, hL1, hK1⟩).mono ?_)
 ·
  rintro pre W W' ⟨h1, h2, h3⟩ hf
  exact ⟨hI pre W W' B h1 hf (fun b hb => .inl hb), keepL hf h2, keepM hf h3⟩
 ·
  rintro pre W W' ⟨h1, h3⟩ hf
  refine ⟨?_, keepM hf h3⟩
  rcases h1 with ⟨h1, h2⟩ | ⟨id, h1, h2⟩
  · exact .inl ⟨hIx _ pre W W' B h1 hf (fun b hb => .inl hb), keepL hf h2⟩
  exact .inr ⟨id, hIx _ pre W W' B h1 hf (fun b hb => .inl hb), keepL hf h2⟩
 ·
  rintro pre x W ⟨hi, hl, hk⟩ hpre k'
  have hlt : w.heap.size + 1 < W.heap.size := (Array.getElem?_eq_some_iff.1 hl).1
  have hy := run_yield (P := P) (args := (encs x).toArray) hl (by rw [hrec]; simpa using hps x)
  rw [hrec] at hy
  refine ⟨fn, _, assign, body, hy, roundIn_of_wpIn hfn ?_⟩
  have hz : (ps.toArray.zip (encs x).toArray).foldl (fun tmps (t, a) => tmps.setIfInBounds t a) a.tmps = (ps.zip (encs x)).foldl (fun t (x : Nat × Value) => t.setIfInBounds x.1 x.2) a.tmps := by
   simp [List.zip_toArray]
  obtain ⟨hfs, hfg⟩ := oR (ps.zip (encs x)) a.tmps Γ m hs.size hs.at_ (fun y hy => by
   have h1 := (List.of_mem_zip hy).1
   have h2 := List.all_eq_true.1 hpm _ h1
   simpa [Nat.blt_eq] using h2)
  dsimp only
  rw [hz]
  refine wpIn_mono (hassign (w.heap.size + 1) pre x W hi (hsz _ _ hl) { tmps := (ps.zip (encs x)).foldl (fun t (x : Nat × Value) => t.setIfInBounds x.1 x.2) a.tmps, defers := [] } ⟨hfs, rfl, hfg⟩ k') ?_
  rintro e a1 W' ⟨Γ1, hs1, hq1⟩
  cases e with
  | normal =>
   obtain ⟨hfa, has⟩ := hq1
   have hi := hI pre W W' [] hi hfa (fun b hb => by cases hb)
   have hl := keep0 hfa hl
   have hk := hk.frm hfa jp
   have hlt := (Array.getElem?_eq_some_iff.1 hl).1
   have hl2 : (W'.putObj (w.heap.size + 1) (.loop { rec .ready none with state := .busy })).heap[w.heap.size + 1]? = some (.loop { rec .ready none with state := .busy }) := World.putObj_heap_same hlt
   have hf2 := Frm.putObj W' (w.heap.size + 1) (.loop { rec .ready none with state := .busy })
   have hi2 := hI pre _ _ _ hi hf2 (hnc _ _ hl)
   have has2 := hAS x _ _ _ Γ1 has hf2 (hnc _ _ hl)
   refine ⟨_, run_beginRound hl (by rw [hrec]), ?_⟩
   refine wpIn_mono (hbody (w.heap.size + 1) pre x _ Γ1 hi2 has2 hpre (hsz _ _ hl2) (hmk _ _ hk) a1 hs1 k') ?_
   have fin : ∀ (jump : Option Code) (W3 : World), KeepsOthers (W'.putObj (w.heap.size + 1) (.loop { rec .ready none with state := .busy })) W3 →
     (Instr.endRound (w.heap.size + 1) jump).run P W3 = .ok (.bool jump.isNone) (W3.putObj (w.heap.size + 1) (.loop (rec (if jump.isNone then .ready else .done) jump))) ∧
     W3.heap[w.heap.size + 1]? = some (.loop { rec .ready none with state := .busy }) ∧
     (W3.putObj (w.heap.size + 1) (.loop (rec (if jump.isNone then .ready else .done) jump))).heap[w.heap.size + 1]? = some (.loop (rec (if jump.isNone then .ready else .done) jump)) ∧
     cG (W3.putObj (w.heap.size + 1) (.loop (rec (if jump.isNone then .ready else .done) jump))) w.heap.size := fun jump W3 hk3 => by
    have hl3 := hk3.same _ _ hl2 rfl
    have := run_endRound (P := P) jump hl3
    rw [hrec] at this ⊢
    exact ⟨this, by rw [hrec] at hl3; exact hl3, World.putObj_heap_same (Array.getElem?_eq_some_iff.1 hl3).1, hmk _ _ (hk3.same _ _ (hmk _ _ hk) rfl)⟩
   have offs : ∀ {W3 : World} {o : Obj}, kV Bt (W'.putObj (w.heap.size + 1) (.loop { rec .ready none with state := .busy })) W3 → Off Bt W (W3.putObj (w.heap.size + 1) o) := fun {W3 o} hw => by
    obtain ⟨C, hf, hC⟩ := hw.off
    refine ⟨(w.heap.size + 1) :: C, (((hfa.mono (T := (w.heap.size + 1) :: C) jp).trans (hf2.mono (T := (w.heap.size + 1) :: C) jp) (fun x hx => .inl hx)).trans hf (fun x hx => .inl (by simp [hx]))).trans (Frm.putObj W3 _ o) jp, fun b hb hx => ?_⟩
    rcases zaq.1 hx with rfl | hx
    · have := hBt _ hb; omega
    exact hC b hb hx
   rintro e a3 W3 ⟨Γ3, _, hp⟩
   cases e with
   | normal =>
    obtain ⟨hk3, hi3⟩ := hp
    obtain ⟨hr, hl3, hl4, hk4⟩ := fin none W3 hk3.others
    exact ⟨_, _, hr, offs hk3, .inl ⟨rfl, hI _ _ _ _ hi3 (Frm.putObj W3 _ _) (hnc _ _ hl3), hl4, hk4⟩⟩
   | ret =>
    obtain ⟨hk3, hi3⟩ := hp
    obtain ⟨hr, hl3, hl4, hk4⟩ := fin (some .ret) W3 hk3.others
    exact ⟨_, _, hr, offs hk3, .inr ⟨rfl, .inl ⟨hIx _ _ _ _ _ hi3 (Frm.putObj W3 _ _) (hnc _ _ hl3), hl4⟩, hk4⟩⟩
   | exit id =>
    obtain ⟨hk3, hi3⟩ := hp
    obtain ⟨hr, hl3, hl4, hk4⟩ := fin (some (.exit id)) W3 hk3.others
    exact ⟨_, _, hr, offs hk3, .inr ⟨rfl, .inr ⟨id, hIx _ _ _ _ _ hi3 (Frm.putObj W3 _ _) (hnc _ _ hl3), hl4⟩, hk4⟩⟩
   | goto t => exact hp.elim
   | panic ch => exact hp.elim
   | outgrown => exact hp.elim
  | exit id => exact hq1.elim
  | goto t => exact hq1.elim
  | ret => exact hq1.elim
  | panic ch => exact hq1.elim
  | outgrown => exact hq1.elim
 have hs' : Sat ⟨m, sM (w.heap.size :: ds), none⟩ Γ { a with defers := [{ target := .collected w.heap.size, args := #[] }] ++ a.defers } := ⟨hs.size, by show [_] ++ a.defers = _; rw [hs.defers]; rfl, hs.at_⟩
 rintro e W2 ⟨⟨v, rfl⟩, (⟨hi, hl, hk⟩ | ⟨pre, h1, hk⟩)⟩
 ·
  have hend := run_endLoop (P := P) hl (by rw [hrec]; simp)
  refine ⟨none, _, by rw [hend, hrec], ?_⟩
  exact ⟨_, Γ, hs', hdone _ (hI _ _ _ _ hi (Frm.putObj _ _ _) (hnc _ _ hl)) (zbd (hsz _ _ hl) (Frm.putObj _ _ _).size) (hmk _ _ hk)⟩
 rcases h1 with ⟨hi, hl⟩ | ⟨id, hi, hl⟩
 ·
  have hend := run_endLoop (P := P) hl (by rw [hrec]; simp)
  refine ⟨some .ret, _, by rw [hend, hrec], ?_⟩
  exact wpIn_ret (Q := xR m Q) ⟨_, Γ, hs', hret _ _ (hIx _ _ _ _ _ hi (Frm.putObj _ _ _) (hnc _ _ hl)) (zbd (hsz _ _ hl) (Frm.putObj _ _ _).size) (hmk _ _ hk)⟩
 have hend := run_endLoop (P := P) hl (by rw [hrec]; simp)
 refine ⟨some (.exit id), _, by rw [hend, hrec], ?_⟩
 exact wpIn_exit (Q := xR m Q) ⟨_, Γ, hs', hexit _ _ _ (hIx _ _ _ _ _ hi (Frm.putObj _ _ _) (hnc _ _ hl)) (zbd (hsz _ _ hl) (Frm.putObj _ _ _).size) (hmk _ _ hk)⟩
theorem rdF {α : Type} (f : α → List Value) (sz : Nat) (hf : ∀ a, (f a).length = sz) {w : World} {A : Option Addr} {n : Nat} {l : List α} (h : Rd w sz A n (l.flatMap f)) (hn : l.length = n) {k : Nat} (hk : k < n) (d : α) : ∃ ad, A = some ad ∧ ∀ j v, (f (l.getD k d))[j]? = some v → w.cell? ((ad.add (k * sz)).add j) = some v := by
 obtain ⟨ad, h1, h2⟩ := h.elem hk
 rw [qY1 f sz hf l k jo] at h2
 refine ⟨ad, h1, ?_⟩
 rw [zb, ze jo]
 exact h2
theorem sR {α : Type} (f : α → List Value) (sz : Nat) (hf : ∀ a, (f a).length = sz) : ∀ (l : List α) (k : Nat), (l.flatMap f).take (k * sz) = (l.take k).flatMap f ∧ (l.flatMap f).drop (k * sz) = (l.drop k).flatMap f
 | l, 0 => jp
 | [], k + 1 => jp
 | x :: l, k + 1 => by
  have ih := sR f sz hf l k
  rw [zaw, show (k + 1) * sz = (f x).length + k * sz by rw [hf, Nat.succ_mul, zgp], List.take_length_add_append, List.drop_length_add_append, ih.1, ih.2]
  exact ⟨rfl, rfl⟩
theorem qXm : ∀ (vs : List Value) (off k : Nat) (cs : Array Value), off + k + vs.length ≤ cs.size → ((vs.zipIdx k).foldl (fun (cs : Array Value) (x : Value × Nat) => cs.setIfInBounds (off + x.2) x.1) cs).toList = cs.toList.take (off + k) ++ vs ++ cs.toList.drop (off + k + vs.length)
 | [], off, k, cs, h => jp
 | v :: vs, off, k, cs, h => by
  rw [zad] at h
  rw [List.zipIdx_cons, zee, qXm vs off (k + 1) _ (by simp; omega)]
  dsimp only
  have hL : cs.toList.length = cs.size := jp
  rw [zfw, ← Nat.add_assoc, zcq, List.take_set_of_le (zag _), List.getElem?_set_self jo, List.drop_set_of_lt jo, Option.toList_some, zad, show off + k + (vs.length + 1) = off + k + 1 + vs.length by omega]
  simp only [zab, zcx, zbu]
theorem qXn {place : Nat → Option (Nat × Nat)} {i off sz : Nat} {v : Value} {cs : Array Value} {r : List (Nat × Value)} (hp : place i = some (off, sz)) (hv : v.cells.size = sz) (hs : off + sz ≤ cs.size) :
  Instr.fill place cs ((i, v) :: r) = Instr.fill place (cs.toList.take off ++ v.cells.toList ++ cs.toList.drop (off + sz)).toArray r := by
 rw [Instr.fill, hp]
 dsimp only
 rw [if_neg (by rw [hv]; simp; omega)]
 congr 1
 apply Array.toList_inj.1
 rw [← Array.foldl_toList, Array.toList_zipIdx, qXm v.cells.toList off 0 cs (by simp; omega)]
 simp [hv]
theorem qHt (a : Int) (z vs : Array Value) (hz : z.size = 129) (hv : vs.size = 128) : Instr.fill (fun i => (#[(0, 1), (1, 128)] : Array (Nat × Nat))[i]?) z [(0, .int .i64 a), (1, .agg vs)] = some (.int .i64 a :: vs.toList).toArray := by
 obtain ⟨l⟩ := z
 match l, hz with
 | y :: r, hz =>
  have hr : r.length = 128 := by simpa using hz
  rw [qXn (off := 0) (sz := 1) rfl rfl jp, qXn (off := 1) (sz := 128) rfl (show (Value.agg vs).cells.size = 128 from hv) (by simp [Value.cells, hr])]
  simp [Instr.fill, Value.cells, hr, zdh]
theorem nE (hold : Nat → Bool) (x : Nat × List Nat) : ∀ (r : List (Nat × List Nat)) (k : Nat) (h : List (List Nat)), bB hold k h (r ++ [x]) = if hold (k + r.length) then (bB hold k h r).set x.1 x.2 else bB hold k h r
 | [], k, h => by
  obtain ⟨a, b⟩ := x
  simp [bB]
 | (a, b) :: r, k, h => by
  rw [zcx, bB, nE hold x r, bB, zad, show k + 1 + r.length = k + (r.length + 1) by omega]
def lD (L : List (Nat × List Nat)) : Nat → List (Nat × (Nat × List Nat))
 | 0 => []
 | m + 1 => (m, L.getD m (0, [])) :: lD L m
theorem nF {L : List (Nat × List Nat)} {m : Nat} (h : m < L.length) : L.take (m + 1) = L.take m ++ [L.getD m (0, [])] := by
 rw [zcq, ze h, zb, ze h]
 rfl
theorem zF {L : List (Nat × List Nat)} {i : Nat} {x : Nat × (Nat × List Nat)} (hx : x.2.1 = i) : ∀ {m : Nat} {pre : List (Nat × (Nat × List Nat))}, m ≤ L.length → (pre ++ [x]) <+: lD L m → (∀ y ∈ pre, y.2.1 ≠ i) → eX i (L.take m) = some x.2.2
 | 0, pre, _, h, _ => by have := h.length_le; simp [lD] at this
 | m + 1, [], hm, h, _ => by
  rw [lD, zbu, List.cons_prefix_cons] at h
  obtain ⟨rfl, _⟩ := h
  rw [nF jo, kY, if_pos hx]
 | m + 1, y :: pre, hm, h, hp => by
  rw [lD, zcx, List.cons_prefix_cons] at h
  obtain ⟨rfl, h2⟩ := h
  rw [nF jo, kY, if_neg (hp _ zcl)]
  exact zF hx jo h2 (fun z hz => hp z (zdg _ hz))
theorem zI {L : List (Nat × List Nat)} {i : Nat} : ∀ {m : Nat}, m ≤ L.length → (∀ y ∈ lD L m, y.2.1 ≠ i) → eX i (L.take m) = none
 | 0, _, _ => rfl
 | m + 1, hm, h => by
  rw [nF jo, kY, if_neg (h (m, L.getD m (0, [])) zcl)]
  exact zI jo (fun z hz => h z (zdg _ hz))
theorem Blk.tailC {w : World} {g : Nat} {t : TypeId} {a : Value} {cs : List Value} (h : Blk w g t (a :: cs).toArray) : ∀ j v, cs[j]? = some v → w.cell? (((⟨g, 0, none⟩ : Addr).add 1).add j) = some v := fun j v hj => by
 rw [add_add]
 exact h.cells (1 + j) v (by rw [zgp]; simpa using hj)
theorem qK2 (g1 c : Nat) (A : Option Addr) (L : List (Nat × List Nat)) (hl : L.length ≤ 1000000) :
  qXi Tryz.prog 124 #[jI0 g1] (fun x : Nat × (Nat × List Nat) => #[jI1 x.1, .agg (wx x.2).toArray]) [] (g1 :: ob A) (fun w => Blk w g1 79 #[.slice A L.length c] ∧ Rd w 129 A L.length (L.flatMap wx)) (lD L L.length) := by
 rintro l J Jx w hJ hJx ⟨hb1, hrd⟩ hY h0
 refine jV Tryz.func124 Tryz.ntmps124 Tryz.results124 ?_
 refine jS (jR (jl rfl Tryz.isAgg79 (hb1.cell 0) (jL rfl zfz (jb rfl rfl (Bin.subZ _ 1 jo jo) (ja rfl (jO (jN (jv3 0 1 3 ?_))))))))
 refine jB ?_
 refine VC.loop (σ := Nat × List (Nat × (Nat × List Nat))) (fun s => [(0, .func (.yield l) #[] #[]), (1, jI0 g1), (3, .int .i64 (((s.1 : Nat) : Int) - 1))]) (fun s wr => s.1 ≤ L.length ∧ lD L L.length = s.2 ++ lD L s.1 ∧ Blk wr g1 79 #[.slice A L.length c] ∧ Rd wr 129 A L.length (L.flatMap wx) ∧ J s.2 wr) (fun s => s.1) (L.length, []) (js3 rfl rfl rfl) ⟨zag _, rfl, hb1, hrd, h0⟩ ?_
 rintro ⟨m, pre⟩ wr ⟨hm, hsp, hb1, hrd, hj⟩
 dsimp only at hm hsp hj ⊢
 refine jS (jS (jR (jm rfl (jb rfl rfl (Bin.geq _ 0) (jO (jN (jv4 0 1 3 8 ?_)))))))
 refine jD rfl (fun hc1 => ?_) fun hc1 => ?_
 ·
  obtain ⟨i, rfl⟩ : ∃ i, m = i + 1 := ⟨m - 1, jo⟩
  have ei : (((i + 1 : Nat) : Int) - 1) = ((i : Nat) : Int) := jo
  rw [ei]
  obtain ⟨ad, rfl, hel⟩ := rdF wx 129 kT hrd rfl (jo : i < L.length) (0, [])
  have hpre : (pre ++ [(i, L.getD i (0, []))]) <+: lD L L.length := ⟨lD L i, by rw [hsp, lD]; simp⟩
  refine jQ (jN (jv3 0 1 3 ?_))
  refine jS (jB (jS (jR (jm rfl (jm rfl (jl rfl Tryz.isAgg79 (hb1.cell 0) (jm rfl (je (Run.indexS _ rfl rfl zfz zgc jo) (je (Run.loadA (cs := wx (L.getD i (0, []))) rfl Tryz.isAgg151 zgc hel (kT _)) ?_)))))))))
  refine Ops.yield rfl rfl (evs.cons rfl (evs.cons rfl evs.nil)) ((by simpa using hY pre (i, L.getD i (0, [])) wr hj hpre : mP Tryz.prog l #[_, _] wr _)) rfl rfl ?_
  rintro e w1 ⟨hoff, hR0⟩
  obtain ⟨yb, rfl, hR⟩ : ∃ yb : Bool, e = .returned (.bool yb) ∧ ((yb = true ∧ J (pre ++ [(i, L.getD i (0, []))]) w1) ∨ (yb = false ∧ Jx (pre ++ [(i, L.getD i (0, []))]) w1)) := by
   rcases hR0 with ⟨rfl, h⟩ | ⟨rfl, h⟩
   · exact ⟨true, rfl, .inl ⟨rfl, h⟩⟩
   exact ⟨false, rfl, .inr ⟨rfl, h⟩⟩
  refine ⟨_, rfl, ?_⟩
  have hb1 := hoff.blk hb1 jp
  have hrd := hoff.rd hrd (fun _ x hx => by simp [hx])
  refine je (Run.not rfl) (jO (jN (jv4 0 1 3 18 ?_)))
  refine VC.condB rfl (fun hc2 => ?_) (fun hc2 => ?_)
  ·
   refine jT ?_
   refine qR (qQ (qQ (qR (qY0 ?_))))
   exact ⟨⟨_, rfl⟩, .inr ⟨_, (hR.resolve_left (fun h => by rw [h.1] at hc2; simp at hc2)).2⟩⟩
  refine jQ ?_
  refine qH (jN ?_)
  refine jv3 0 1 3 ?_
  refine jR (jm rfl (jb rfl rfl (Bin.subZ _ 1 jo jo) (ja rfl (jO ?_))))
  refine jN ⟨(i, pre ++ [(i, L.getD i (0, []))]), (js3 rfl rfl rfl), ?_, ?_⟩
  · exact ⟨by dsimp only; omega, by rw [hsp, lD]; simp, hb1, hrd, (hR.resolve_right (fun h => by rw [h.1] at hc2; simp at hc2)).2⟩
  exact jq
 refine jX ?_
 refine qZ (qZ (qN ?_))
 refine pY ?_
 have hm0 : m = 0 := jo
 subst hm0
 refine ⟨⟨_, rfl⟩, .inl ?_⟩
 rw [hsp, lD, zav]
 exact hj
theorem qK3 (A : Option Addr) (n c : Nat) (w : World) :
  Calls Tryz.prog 77 #[.slice A n c] w fun e w' => ∃ g1, e = .returned (.func (.func 124) #[] #[jI0 g1]) ∧ Blk w' g1 79 #[.slice A n c] ∧ Frm [] w w' ∧ w.heap.size ≤ g1 := by
 refine jV Tryz.func77 Tryz.ntmps77 Tryz.results77 ?_
 refine jS (jR ?_)
 refine Ops.m (qV.box rfl) rfl ?_
 rintro _ w1 ⟨rfl, hF⟩
 refine ja rfl (jO (jN (jv1 1 ?_)))
 refine jS (jR (je (Run.mkFunc evs.nil (evs.cons rfl evs.nil)) (ja rfl (jO (jN (jv1 2 ?_))))))
 refine jT ?_
 refine qS rfl ?_
 exact ⟨_, rfl, hF.blk, hF.frm, zag _⟩
theorem kH (g i : Nat) (F : List Nat) (d : Dk) (w : World) (hD : IsDk w g F d) (hwl : d.wts.length ≤ 1000000) :
  Calls Tryz.prog 28 #[jI0 g, jI1 i] w fun e w' => ∃ B, e = .returned (.tuple #[.slice B (d.read i).2.length (d.read i).2.length, jI1 ((d.read i).1)]) ∧ Rd w' 1 B (d.read i).2.length (NB (d.read i).2) ∧ Frm [] w w' ∧ (∀ x ∈ ob B, w.heap.size ≤ x) ∧ ((d.read i).1 = 0 → ∃ b, B = some ⟨b, 0, none⟩ ∧ Blk w' b 149 (NB (d.read i).2).toArray) := by
 have hbig := hD.ok.big
 have hD0 := hD
 have K := Frm.refl [] w
 refine DV.calls (nt := 40) (res := #[.cell 4 63, .cell 5 24]) Tryz.func28 rfl Tryz.ntmps28 Tryz.results28 rfl ?_
 refine DV.seq ?_
 refine DV.vc ?_
 refine jR ?_
 refine Ops.m (qV.box rfl) rfl ?_
 rintro _ w1 ⟨rfl, hF1⟩
 have hb3 := hF1.blk
 have hD := hD.frm hF1.frm jp
 have K := K.trans hF1.frm jp
 generalize hg3 : w.heap.size = g3 at *
 refine Ops.m (qV.alloc tP) rfl ?_
 rintro _ w2 ⟨rfl, hF2⟩
 have hb4 := hF2.blk
 have hb3 := hb3.frm hF2.frm jp
 have hD := hD.frm hF2.frm jp
 have K := K.trans hF2.frm jp
 have l13 : g3 < w1.heap.size := by have := hF1.blk.lt; omega
 generalize hg4 : w1.heap.size = g4 at *
 refine Ops.m (qV.alloc qMo) rfl ?_
 rintro _ w3 ⟨rfl, hF3⟩
 have hb5 := hF3.blk
 have hb4 := hb4.frm hF3.frm jp
 have hb3 := hb3.frm hF3.frm jp
 have hD := hD.frm hF3.frm jp
 have K := K.trans hF3.frm jp
 have l24 : g4 < w2.heap.size := by have := hF2.blk.lt; omega
 generalize hg5 : w2.heap.size = g5 at *
 have n34 : g3 ≠ g4 := jo
 have n45 : g4 ≠ g5 := jo
 have n35 : g3 ≠ g5 := jo
 have Fl : ∀ x ∈ F, x < g3 := fun x hx => by have := hD0.lt x hx; omega
 have l5 : g5 < w3.heap.size := by have := hF3.blk.lt; omega
 refine jO ?_
 refine bL ?_
 refine DV.sub [(0, _), (3, _), (4, _), (5, _)] (js4 rfl rfl rfl rfl) ?_
 refine DV.seq ?_
 refine DV.vc ?_
 refine jB (jS (jR (jm rfl (jl rfl zaa (hb3.cell 0) ?_))))
 refine jc (jE2 Tryz.call76) (wR g i F d _ hD) ?_
 rintro e w4 ⟨rfl, rfl⟩
 refine ⟨_, rfl, ?_⟩
 refine je (Run.not rfl) (ja rfl (jO (jN (jv5 0 3 4 5 8 ?_))))
 refine VC.condB rfl (fun hc1 => ?_) (fun hc1 => ?_)
 ·
  have hi : ¬ i < d.has.length := by simpa using hc1
  refine jS (jR ?_)
  refine Ops.st (qT.store rfl rfl zah hb4 rfl rfl) ?_
  rintro w4 ⟨hb4, hf4, hs4⟩
  have hb5 := hb5.frm hf4 (by simp; omega)
  have K4 := K.own hf4 (by simp; omega)
  refine Ops.st (qT.store rfl rfl Tryz.sizeOf24 hb5 rfl rfl) ?_
  rintro w5 ⟨hb5, hf5, hs5⟩
  have hb4 := hb4.frm hf5 (by simp; omega)
  have K5 := K4.own hf5 (by simp; omega)
  refine jO (jN (jv2 4 5 ?_))
  refine jT ?_
  refine qR (rD (lC jp jp (fun wz hsh => ?_)))
  refine eO ?_
  refine gB rfl zba ((hb4.frm hsh jp).cell 0) ?_
  refine gB rfl Tryz.isAgg24 ((hb5.frm hsh jp).cell 0) ?_
  refine cY ?_
  have er : d.read i = (4, []) := by unfold Dk.read; rw [if_pos hi]
  rw [er]
  exact ⟨none, rfl, Rd.nil _ _ _, K5.own hsh jp, by simp [ob], fun h => absurd h jd⟩
 have hi : i < d.has.length := by simpa using hc1
 obtain ⟨A, c, B, cb, hb, hA, hB, rfl⟩ := hD.ex
 refine jS (jR (jm rfl (jZ rfl (jf rfl zbn rfl zat (jl rfl zcr (hb.cell 3) (ja rfl (jO (jN (jv5 0 3 4 5 13 ?_)))))))))
 refine VC.condB rfl (fun hc2 => ?_) (fun hc2 => ?_)
 ·
  have ho : d.off = true := hc2
  refine jS (jR ?_)
  refine Ops.st (qT.store rfl rfl zah hb4 rfl rfl) ?_
  rintro w4 ⟨hb4, hf4, hs4⟩
  have hb5 := hb5.frm hf4 (by simp; omega)
  have K4 := K.own hf4 (by simp; omega)
  refine Ops.st (qT.store rfl rfl Tryz.sizeOf24 hb5 rfl rfl) ?_
  rintro w5 ⟨hb5, hf5, hs5⟩
  have hb4 := hb4.frm hf5 (by simp; omega)
  have K5 := K4.own hf5 (by simp; omega)
  refine jO (jN (jv2 4 5 ?_))
  refine jT ?_
  refine qR (rD (lC jp jp (fun wz hsh => ?_)))
  refine eO ?_
  refine gB rfl zba ((hb4.frm hsh jp).cell 0) ?_
  refine gB rfl Tryz.isAgg24 ((hb5.frm hsh jp).cell 0) ?_
  refine cY ?_
  have er : d.read i = (10, []) := by unfold Dk.read; rw [if_neg jo, if_pos ho]
  rw [er]
  exact ⟨none, rfl, Rd.nil _ _ _, K5.own hsh jp, by simp [ob], fun h => absurd h jd⟩
 have ho : d.off = false := by simpa using hc2
 refine jQ ?_
 refine qH (bL ?_)
 refine DV.sub [(0, _), (3, _), (4, _), (5, _)] (js4 rfl rfl rfl rfl) ?_
 refine DV.seq ?_
 refine DV.seq ?_
 refine DV.vc ?_
 refine jR (jm rfl (jZ rfl (jf rfl zbn rfl zet (jl rfl Tryz.isAgg79 (hb.cell 1) ?_))))
 refine jc (jE1 Tryz.call77) (qK3 _ _ _ _) ?_
 rintro e w4 ⟨g1, rfl, hb1, hf4, hg1⟩
 refine ⟨_, rfl, ?_⟩
 have hb3 := hb3.frm hf4 jp
 have hb4 := hb4.frm hf4 jp
 have hb5 := hb5.frm hf4 jp
 have hb := hb.frm hf4 jp
 have hA4 := hA.frm hf4 jp
 have hB4 := hB.frm hf4 jp
 have K := K.trans hf4 jp
 have hs4 := hf4.size
 have Ag : ∀ x ∈ ob A, x < g3 := fun x hx => Fl x (by simp [hx])
 have Bg : ∀ x ∈ ob B, x < g3 := fun x hx => Fl x (by simp [hx])
 have gg : g < g3 := Fl g jp
 refine jO ?_
 refine bL ?_
 refine DV.sub [(0, _), (3, _), (4, _), (5, _), (22, _)] (js5 rfl rfl rfl rfl rfl) ?_
 refine DV.block ?_
 refine DV.rangeA (ps := [23, 24]) (fun x : Nat × (Nat × List Nat) => [jI1 x.1, .agg (wx x.2).toArray]) (qK2 g1 cb B d.wts hwl) rfl Tryz.call124 (fun _ => rfl) rfl (fun pre W => Blk W g3 3 #[jI1 i] ∧ Blk W g4 63 #[.slice none 0 0] ∧ Blk W g5 24 #[.int .i64 0] ∧ Blk W g 81 #[.slice A d.has.length c, .slice B d.wts.length cb, .int .i64 d.bud, .bool d.off] ∧ Own W 149 128 A d.has.length c (d.has.flatMap sx) ∧ Frm [] w4 W ∧ ∀ y ∈ pre, y.2.1 ≠ i) (fun e pre W => e = .ret ∧ ∃ b0, eX i d.wts = some (d.sec i) ∧ Blk W g4 63 #[.slice (some ⟨b0, 0, none⟩) 128 128] ∧ Blk W g5 24 #[.int .i64 0] ∧ Blk W b0 149 (sx (d.sec i)).toArray ∧ Frm [g4, g5] w4 W ∧ w4.heap.size + 2 ≤ b0) (fun x W Γ => ∃ g7, w4.heap.size ≤ g7 ∧ Blk W g7 151 (wx x.2).toArray ∧ Sub Γ [(3, jI0 g3), (4, jI0 g4), (5, jI0 g5), (7, jI0 g7)]) ?_ ?_ ?_ ?_ ?_ ?_ ?_ ?_ ?_ ?_ ?_ ?_
 ·
  rintro pre W W' S ⟨h3, h4, h5, h6, h6b, h7, h8⟩ hf hS
  exact ⟨h3.frm hf (h3.nc hS jp), h4.frm hf (h4.nc hS jp), h5.frm hf (h5.nc hS jp), h6.frm hf (h6.nc hS jp), h6b.frm hf (h6b.nc hS jp), h7.nc hf hS jp (zag _), h8⟩
 ·
  rintro e pre W W' S ⟨h3, b0, h4, h5, h6, h7, h8, h9⟩ hf hS
  refine ⟨h3, b0, h4, h5.frm hf (h5.nc hS jp), h6.frm hf (h6.nc hS jp), h7.frm hf (h7.nc hS jp), h8.trans hf (fun x hx => ?_), h9⟩
  rcases hS x hx with h | ⟨h, _⟩
  · cases h
  exact .inr h
 · exact fun W hf => ⟨hb1.frm hf jp, (hB4.frm hf jp).rd⟩
 · simp
 ·
  intro b hb
  rcases zaq.1 hb with rfl | hb
  · exact hb1.lt
  exact hB4.lt b hb
 · exact ⟨hb3, hb4, hb5, hb, hA4, Frm.refl _ _, jp⟩
 ·
  rintro x W W' S Γ' ⟨g7, h1, h2, h3⟩ hf hS
  exact ⟨g7, h1, h2.frm hf (h2.nc hS jp), h3⟩
 ·
  intro l pre x W hIW hszW
  refine jv5 3 4 5 23 24 ?_
  refine jR ?_
  refine Ops.m (qV.alloc vX) rfl ?_
  rintro _ W1 ⟨rfl, hFa⟩
  refine Ops.st (qT.storeA rfl rfl (by rw [zbg, kT]; exact zgc) hFa.blk (by rw [zbg, kT]; rfl) (qXl _)) ?_
  rintro W2 ⟨hb7, hf7, hs7⟩
  have hfa := hFa.frm.own hf7 jp
  have hga : w4.heap.size ≤ W.heap.size := jo
  refine jO ?_
  refine jN ⟨hfa, _, hga, hb7, (js4 rfl rfl rfl rfl)⟩
 ·
  rintro l pre x W Γ' ⟨hb3, hb4, hb5, hbW, hAW, KW, hne⟩ ⟨g7, hga, hb7, hsub⟩ hpre hsz hmk
  have hb40 := hb4
  have hb50 := hb5
  have ksW := KW.size
  refine VC.sub _ hsub ?_
  refine jB (jS (jR (jf rfl zgk rfl zm (jl rfl zaa (hb7.cell 0) (jl rfl zaa (hb3.cell 0) (jb rfl rfl (Bin.eqlN _ _) (jO (jN (jv4 4 5 7 28 ?_)))))))))
  refine jD rfl (fun hc3 => ?_) fun hc3 => ?_
  ·
   refine jS (jR (jf rfl zgk rfl zdw (je (Run.loadA (cs := sx x.2.2) rfl Tryz.isAgg149 zdw (Blk.tailC hb7) (eP _)) ?_)))
   refine jc (jE1 Tryz.call78) (tC (sx x.2.2) _ (eP _)) ?_
   rintro e W3 ⟨rfl, hbb, hf3, hs3⟩
   refine ⟨_, rfl, ?_⟩
   have hb4 := hb4.frm hf3 jp
   have hb5 := hb5.frm hf3 jp
   refine Ops.st (qT.store rfl rfl zah hb4 rfl rfl) ?_
   rintro W4 ⟨hb4n, hf4n, hs4n⟩
   have hb5 := hb5.frm hf4n (by simp; omega)
   have hbb := hbb.frm hf4n (by simp; omega)
   refine Ops.st (qT.store rfl rfl Tryz.sizeOf24 hb5 rfl rfl) ?_
   rintro W5 ⟨hb5n, hf5n, hs5n⟩
   have hb4n := hb4n.frm hf5n (by simp; omega)
   have hbb := hbb.frm hf5n (by simp; omega)
   refine jO (jN (jv2 4 5 ?_))
   refine jT ?_
   refine qR (?_)
   have hls : eX i d.wts = some x.2.2 := by
    have := zF hc3 (zag _) hpre hne
    rwa [zbw] at this
   have hds : d.sec i = x.2.2 := by unfold Dk.sec; rw [hls]; rfl
   have g3s := hf3.size
   refine ⟨⟨[g4, g5], ((hf3.mono (T := [g4, g5]) jp).trans (hf4n.mono (T := [g4, g5]) jp) (fun x hx => .inl hx)).trans (hf5n.mono (T := [g4, g5]) jp) (fun x hx => .inl hx), fun b hb => ?_⟩, rfl, W.heap.size, ?_, ?_, ?_, ?_, ?_, ?_⟩
   ·
    simp only [zaq, zaz, or_false] at hb
    refine ⟨fun h => ?_, fun o ho => ?_⟩
    ·
     rcases zaq.1 h with h | h
     · omega
     have := Bg b h; omega
    rcases hb with rfl | rfl
    · exact hb40.isC o ho
    exact hb50.isC o ho
   · rw [hls, hds]
   · exact hb4n
   · exact hb5n
   · rw [hds]; exact hbb
   · exact (KW.mono (T := [g4, g5]) jp).trans (((hf3.mono (T := [g4, g5]) jp).trans (hf4n.mono (T := [g4, g5]) jp) (fun x hx => .inl hx)).trans (hf5n.mono (T := [g4, g5]) jp) (fun x hx => .inl hx)) (fun x hx => .inl hx)
   omega
  refine jQ ?_
  refine qH (?_)
  refine ⟨kV.frm0 (Frm.refl _ _), hb3, hb4, hb5, hbW, hAW, KW, fun y hy => ?_⟩
  rcases zcp.1 hy with hy | hy
  · exact hne y hy
  rw [za] at hy
  subst hy
  exact hc3
 ·
  rintro W ⟨hb3, hb4, hb5, hbW, hAW, KW, hne⟩ hsz hmk
  have hln : eX i d.wts = none := by
   have := zI (zag _) hne
   rwa [zbw] at this
  refine sN (bL ?_)
  refine DV.sub [(0, _), (3, _), (4, _), (5, _)] (js4 rfl rfl rfl rfl) ?_
  refine DV.seq ?_
  refine DV.vc ?_
  refine VC.held (fun V => Frm [g4, g5] W V) jK ?_
  have hS : Frm [g4, g5] W W.drew := (Frm.refl _ _).drew
  obtain ⟨ad, rfl, _⟩ := rdF sx 128 eP hAW.rd rfl hi []
  have hel : ∀ V, Frm [g4, g5] W V → ∀ j v, (sx (d.has.getD i []))[j]? = some v → V.cell? ((ad.add (i * 128)).add j) = some v := fun V hV => by
   obtain ⟨ad2, he, h2⟩ := rdF sx 128 eP (hAW.frm hV (fun x hx => by have := Ag x hx; simp; omega)).rd rfl hi []
   cases he
   exact h2
  refine jh 0 hS ?_
  refine jH 1 rfl hS (fun w0 hw0 => Run.nilck rfl) ?_
  refine jH 2 rfl hS (fun w0 hw0 => Run.fieldAddr rfl zbn rfl zgw jd) ?_
  refine jH 3 rfl hS (fun w0 hw0 => Run.load rfl Tryz.isAgg78 ((hbW.frm hw0 (by simp; omega)).cell 0)) ?_
  refine jH 4 rfl hS (fun w0 hw0 => Run.load rfl zaa ((hb3.frm hw0 (by simp; omega)).cell 0)) ?_
  refine jH 5 rfl hS (fun w0 hw0 => Run.indexS _ rfl rfl zfy zdw jo) ?_
  refine jH 6 rfl hS (fun w0 hw0 => Run.loadA (cs := sx (d.has.getD i [])) rfl Tryz.isAgg149 zdw (hel w0 hw0) (eP _)) ?_
  refine qJ.cl 7 rfl jK (jE1 Tryz.call78) (tC (sx (d.has.getD i [])) _ (eP _)) trivial rfl rfl ?_
  rintro e W3 ⟨rfl, hbb, hf3, hs3⟩
  have hS := hS.trans hf3 jp
  refine ⟨_, rfl, hS, ?_⟩
  have hb4 := (hb4.drawn (qP.drew _)).frm hf3 jp
  have hb5 := (hb5.drawn (qP.drew _)).frm hf3 jp
  refine qJ.st 8 rfl jK (qT.store rfl rfl zah hb4 rfl rfl) trivial rfl ?_
  rintro W4 ⟨hb4n, hf4n, hs4n⟩
  have hS := hS.trans (hf4n.mono (T := [g4, g5]) jp) (fun x hx => .inl hx)
  refine ⟨hS, ?_⟩
  have hb5 := hb5.frm hf4n (by simp; omega)
  have hbb := hbb.frm hf4n (by simp; omega)
  refine qJ.st 9 rfl jK (qT.store rfl rfl Tryz.sizeOf24 hb5 rfl rfl) trivial rfl ?_
  rintro W5 ⟨hb5n, hf5n, hs5n⟩
  have hS := hS.trans (hf5n.mono (T := [g4, g5]) jp) (fun x hx => .inl hx)
  refine ⟨hS, ?_⟩
  have hb4n := hb4n.frm hf5n (by simp; omega)
  have hbb := hbb.frm hf5n (by simp; omega)
  refine qJ.done jK ?_
  refine bL ?_
  refine DV.sub [(4, _), (5, _)] (js2 rfl rfl) ?_
  refine DV.vc (jT ?_)
  refine lC jp (fun d hd => by simp only [za] at hd; subst hd; exact hmk.frm hS (by simp; omega)) (fun wz hsh => ?_)
  refine eO ?_
  refine gB rfl zba ((hb4n.frm hsh (by simp; omega)).cell 0) ?_
  refine gB rfl Tryz.isAgg24 ((hb5n.frm hsh (by simp; omega)).cell 0) ?_
  refine cY ?_
  have hsec : d.sec i = d.has.getD i [] := by unfold Dk.sec; rw [hln]; rfl
  have er : d.read i = (0, d.sec i) := by unfold Dk.read; rw [if_neg jo, if_neg (by simp [ho])]
  have hl := (hD0.ok.secAt hi).1
  rw [er]
  dsimp only
  rw [hl]
  rw [← hsec, qQ6 hl] at hbb
  have hbz := hbb.frm hsh (by simp; omega)
  exact ⟨_, rfl, by simpa using Rd.of_blk (n := 128) (size := 1) hbz (by simp [NB, hl]), ((K.trans KW jp).own hS (by simp; omega)).own hsh (by simp; omega), by simp [ob]; omega, fun _ => ⟨_, rfl, hbz⟩⟩
 ·
  rintro pre W ⟨_, b0, hla, hb4, hb5, hbb, KW, hgb⟩ hsz hmk
  refine qY5 (rD (lC jp (fun d hd => by simp only [za] at hd; subst hd; exact hmk) (fun wz hsh => ?_)))
  refine eO ?_
  refine gB rfl zba ((hb4.frm hsh (by simp; omega)).cell 0) ?_
  refine gB rfl Tryz.isAgg24 ((hb5.frm hsh (by simp; omega)).cell 0) ?_
  refine cY ?_
  have er : d.read i = (0, d.sec i) := by unfold Dk.read; rw [if_neg jo, if_neg (by simp [ho])]
  have hl := (hD0.ok.secAt hi).1
  rw [er]
  dsimp only
  rw [hl]
  rw [qQ6 hl] at hbb
  have hbz := hbb.frm hsh (by simp; omega)
  exact ⟨_, rfl, by simpa using Rd.of_blk (n := 128) (size := 1) hbz (by simp [NB, hl]), (K.own KW (by simp; omega)).own hsh (by simp; omega), by simp [ob]; omega, fun _ => ⟨_, rfl, hbz⟩⟩
 rintro id pre W ⟨he, _⟩
 cases he
theorem IsDk.parts {w : World} {g : Nat} {F : List Nat} {d : Dk} (h : IsDk w g F d) : ∃ A c B cb, Blk w g 81 #[.slice A d.has.length c, .slice B d.wts.length cb, .int .i64 d.bud, .bool d.off] ∧ Own w 149 128 A d.has.length c (d.has.flatMap sx) ∧ Own w 151 129 B d.wts.length cb (d.wts.flatMap wx) ∧ F = g :: (ob A ++ ob B) ∧ g ∉ ob A ∧ g ∉ ob B ∧ (∀ x ∈ ob A, x ∉ ob B) := by
 obtain ⟨A, c, B, cb, hb, hA, hB, rfl⟩ := h.ex
 exact ⟨A, c, B, cb, hb, hA, hB, rfl, hA.ne_blk hb jd, hB.ne_blk hb jd, hA.ne_own hB jd⟩
theorem vT (g i n cs : Nat) (S : Option Addr) (b : List Nat) (F : List Nat) (d : Dk) (w : World) (hD : IsDk w g F d) (hwl : d.wts.length ≤ 1000000) (hn : b.length = n) (hl : n ≤ 1000000000) (hB : ∀ x ∈ b, x < 256) (hr : Rd w 1 S n (NB b)) (hS : 0 < n → ∀ x ∈ ob S, x ∉ F) :
  Calls Tryz.prog 29 #[jI0 g, jI1 i, .slice S n cs] w fun e w' => ∃ F', e = .returned (jI1 ((d.write i b).1)) ∧ IsDk w' g F' (d.write i b).2 ∧ Fk F w w' F' := by
 have hok := hD.ok
 have hwl2 : d.less.wts.length ≤ 1000000 := hwl
 refine jV Tryz.func29 Tryz.ntmps29 Tryz.results29 ?_
 refine jS (jR (jz 0 (jO (jN (jv3 0 1 2 ?_)))))
 refine jS (jB (jS (jR (jm rfl (jM ?_)))))
 refine jc (jE2 Tryz.call76) (wR g i F d _ hD) ?_
 rintro e w1 ⟨rfl, rfl⟩
 refine ⟨_, rfl, ?_⟩
 refine je (Run.not rfl) (ja rfl (jO (jN (jv4 0 1 2 7 ?_))))
 refine VC.condB rfl (fun hc1 => ?_) (fun hc1 => ?_)
 ·
  have hi : ¬ i < d.has.length := by simpa using hc1
  have ew : d.write i b = (4, d) := by unfold Dk.write; rw [if_pos hi]
  rw [ew]
  refine jS (jR (jz 4 (jO (jN (jv1 6 ?_)))))
  refine jT ?_
  refine qR (qQ (qS rfl ?_))
  exact ⟨_, rfl, hD, Fk.refl _ _⟩
 have hi : i < d.has.length := by simpa using hc1
 refine jS (jR (jm rfl (jL rfl zg (jb rfl rfl (Bin.neqN _ 128) (ja rfl (jO (jN (jv4 0 1 2 12 ?_))))))))
 refine jD rfl (fun hc2 => ?_) fun hc2 => ?_
 ·
  have ew : d.write i b = (1, d) := by unfold Dk.write; rw [if_neg jo, if_pos jo]
  rw [ew]
  refine jS (jR (jz 1 (jO (jN (jv1 6 ?_)))))
  refine jT ?_
  refine qR (qQ (qS rfl ?_))
  exact ⟨_, rfl, hD, Fk.refl _ _⟩
 have h128 : b.length = 128 := jo
 refine jS (jR (jM ?_))
 refine jc (jE1 Tryz.call79) (xD g F d _ hD) ?_
 rintro e w2 ⟨rfl, hD2, hf2, hs2⟩
 refine ⟨_, rfl, ?_⟩
 refine je (Run.not rfl) (ja rfl (jO (jN (jv4 0 1 2 16 ?_))))
 refine VC.condB rfl (fun hc3 => ?_) (fun hc3 => ?_)
 ·
  have hf : d.fails := by simpa using hc3
  have ew : d.write i b = (10, d.dead) := by unfold Dk.write; rw [if_neg jo, if_neg jo, if_pos hf]
  rw [ew]
  rw [if_pos hf] at hD2
  refine jS (jR (jz 10 (jO (jN (jv1 6 ?_)))))
  refine jT ?_
  refine qR (qQ (qS rfl ?_))
  exact ⟨_, rfl, hD2, hf2.mono (by simp [hD.mem]), fun x hx => .inl hx⟩
 have hf : ¬ d.fails := by simpa using hc3
 have ew : d.write i b = (0, { d.less with wts := d.wts ++ [(i, b)] }) := by unfold Dk.write; rw [if_neg jo, if_neg jo, if_neg hf]
 rw [ew]
 rw [if_neg hf] at hD2
 obtain ⟨A, c, B, cb, hb, hA, hB2, rfl, hgA, hgB, hAB⟩ := hD2.parts
 have hr2 := hr.frm hf2 (fun hn x hx => by simp; rintro rfl; exact hS hn x hx hD.mem)
 have hok2 := hD2.ok
 obtain rfl : n = 128 := jo
 obtain ⟨ad, rfl, _⟩ := hr2.2 jo
 have hSd := hS jo
 refine jQ ?_
 refine qH (jN ?_)
 refine jv3 0 1 2 ?_
 refine jS ?_
 refine VC.heldL 14 (fun V => Frm (ob B) w2 V) jK ?_
 have hS : Frm (ob B) w2 w2.drew := (Frm.refl _ _).drew
 have hSB : ∀ x ∈ ob (some ad), x ∉ ob B := fun x hx hx2 => hSd x hx (by simp [hx2])
 have hadr : ∀ V, Frm (ob B) w2 V → ∀ j v, (NB b)[j]? = some v → V.cell? (ad.add j) = some v := fun V hV => by
  obtain ⟨ad2, he, hc⟩ := (hr2.frm hV (fun _ => hSB)).2 jo
  cases he
  exact hc.2
 refine jh 0 hS ?_
 refine jh 1 hS ?_
 refine jH 2 rfl hS (fun w0 hw0 => Run.nilck rfl) ?_
 refine jH 3 rfl hS (fun w0 hw0 => Run.fieldAddr rfl zbn rfl zet jd) ?_
 refine jH 4 rfl hS (fun w0 hw0 => Run.load rfl Tryz.isAgg79 ((hb.frm hw0 hgB).cell 1)) ?_
 refine jh 5 hS ?_
 refine qJ.r1 6 rfl jK hS (Run.mv rfl) trivial rfl rfl ?_
 refine qJ.r1 7 rfl jK hS (Run.toArr rfl Tryz.underlying149 jo) trivial rfl rfl ?_
 refine qJ.r1 8 rfl jK hS (Run.loadA (cs := NB b) rfl Tryz.isAgg149 zdw (hadr _ hS) (by simp [NB, h128])) trivial rfl rfl ?_
 refine qJ.r1 9 rfl jK hS (Run.build (evs.cons rfl (evs.cons rfl evs.nil)) vX (zD).choose_spec.1 (zD).choose_spec.2 (cells := (wx (i, b)).toArray) (by rw [show wx (i, b) = jI1 i :: NB b by rw [wx, qQ6 h128]]; exact qHt _ _ _ rfl (by simp [NB, h128]))) trivial rfl rfl ?_
 refine qJ.m 10 rfl jK (qV.buildS1 rfl zfz zgc vX jd jd (by rw [show (Value.agg (wx (i, b)).toArray).cells = (wx (i, b)).toArray from rfl, zbg, kT]) rfl) trivial rfl rfl ?_
 rintro _ w3 ⟨rfl, hF3⟩
 have hS := hS.trans hF3.frm jp
 refine ⟨hS, ?_⟩
 have hrd3 : Rd w3 129 (some ⟨w2.drew.heap.size, 0, none⟩) 1 (wx (i, b)) := by
  have := Rd.of_blk (n := 1) (size := 129) hF3.blk (by rw [show (Value.agg (wx (i, b)).toArray).cells = (wx (i, b)).toArray from rfl, zbg, kT])
  exact this
 have hB3 := (hB2.drawn (qP.drew _)).frm hF3.frm jp
 have hA3 := (hA.drawn (qP.drew _)).frm hF3.frm jp
 have hb3 := (hb.drawn (qP.drew _)).frm hF3.frm jp
 have lA := hA.lt
 have lB := hB2.lt
 have lg := hb.lt
 have e2 : w2.drew.heap.size = w2.heap.size := rfl
 have s3 := hF3.frm.size
 refine qJ.m 11 rfl jK (qV.app rfl rfl zfz (qHo) rfl jd hB3 hrd3 (qXl _) jo jo) trivial rfl rfl ?_
 rintro _ w4 ⟨B4, c4, rfl, hB4, hf4, hob4⟩
 have hS := hS.trans hf4 (fun x hx => .inl hx)
 refine ⟨hS, ?_⟩
 have hA4 := hA3.frm hf4 hAB
 have hb4 := hb3.frm hf4 hgB
 have hgB4 : g ∉ ob B4 := hB4.ne_blk hb4 jd
 have hAB4 : ∀ x ∈ ob A, x ∉ ob B4 := hA4.ne_own hB4 jd
 refine qJ.r1 12 rfl jK hS (Run.nilck rfl) trivial rfl rfl ?_
 refine qJ.r1 13 rfl jK hS (Run.fieldAddr rfl zbn rfl zet jd) trivial rfl rfl ?_
 refine qJ.stL rfl jK (qT.store rfl rfl zet hb4 rfl rfl) trivial rfl ?_
 rintro w5 ⟨hb5, hf5, hs5⟩
 have hA5 := hA4.frm hf5 (fun x hx => by simp; rintro rfl; exact hgA hx)
 have hB5 := hB4.frm hf5 (fun x hx => by simp; rintro rfl; exact hgB4 hx)
 refine qJ.done jK ?_
 refine jN ?_
 refine VC.sub [] .nil ?_
 refine jS (jR (jz 0 (jO (jN (jT ?_)))))
 refine qS rfl ?_
 have hlen : (d.wts ++ [(i, b)]).length = d.wts.length + 1 := jp
 have hok3 := hok.write_ok i b hB
 rw [ew] at hok3
 refine ⟨g :: (ob A ++ ob B4), rfl, ⟨hok3, A, c, B4, c4, ?_, hA5, ?_, rfl⟩, ?_, ?_⟩
 ·
  dsimp only
  rw [hlen]
  exact hb5
 ·
  dsimp only
  rw [hlen, zan, zaw, zek, zav]
  exact hB5
 ·
  have k1 : Frm (g :: (ob A ++ ob B)) w w2.drew := (hf2.mono (T := g :: (ob A ++ ob B)) jp).drew
  have k2 := k1.trans (hF3.frm.mono (T := g :: (ob A ++ ob B)) jp) (fun x hx => .inl hx)
  have k3 := k2.trans (hf4.mono (T := g :: (ob A ++ ob B)) (fun x hx => .inl (by simp [hx]))) (fun x hx => .inl hx)
  exact k3.trans (hf5.mono (T := g :: (ob A ++ ob B)) jp) (fun x hx => .inl hx)
 intro x hx
 rcases zaq.1 hx with rfl | hx
 · exact .inl zcl
 rcases zcp.1 hx with hx | hx
 · exact .inl (by simp [hx])
 rcases hob4 with h | h
 · rw [h] at hx; exact .inl (by simp [hx])
 rw [h, za] at hx; have := hf2.size; exact .inr jo
theorem xE (g f : Nat) (us : List Value) (hold : Nat → Bool) (F : List Nat) (d : Dk) (w : World) (hD : IsDk w g F d) (hwl : d.wts.length ≤ 1000000) (hf : ∀ args w, (callFunc f args).run Tryz.prog w = .ok (.enter f args) w)
  (hcl : ∀ W k, Frm F w W → k < d.wts.length → Calls Tryz.prog f (jI1 k :: us).toArray W fun e w' => e = .returned (.bool (hold k)) ∧ W = w') :
  Calls Tryz.prog 53 #[jI0 g, .func (.func f) ([] : List Value).toArray us.toArray] w fun e w' => ∃ F', e = .returned (.tuple #[]) ∧ IsDk w' g F' { d with has := bB hold 0 d.has d.wts, wts := [] } ∧ Fk F w w' F' := by
 obtain ⟨A, c, B, cb, hb, hA, hB, rfl, hgA, hgB, hAB⟩ := hD.parts
 have hbig := hD.ok.big
 have hok := hD.ok
 have hFg : ∀ x ∈ g :: (ob A ++ ob B), x < w.heap.size := hD.lt
 have key : ∀ {α : Prop}, α → α := fun h => h
 refine jV Tryz.func53 Tryz.ntmps53 Tryz.results53 ?_
 refine jS (jS (jR (jm rfl (jZ rfl (jf rfl zbn rfl zet (jl rfl Tryz.isAgg79 (hb.cell 1) (jL rfl zfz ?_)))))))
 refine jx .i64 0 ?_
 refine jO (jN (jv5 0 1 9 10 11 ?_))
 refine jB ?_
 refine VC.loop (σ := Nat) (fun s => [(0, jI0 g), (1, .func (.func f) ([] : List Value).toArray us.toArray), (9, .slice B d.wts.length cb), (10, jI1 d.wts.length), (11, jI1 s)]) (fun s wr => s ≤ d.wts.length ∧ Blk wr g 81 #[.slice A d.has.length c, .slice B d.wts.length cb, .int .i64 d.bud, .bool d.off] ∧ Own wr 149 128 A d.has.length c ((bB hold 0 d.has (d.wts.take s)).flatMap sx) ∧ Own wr 151 129 B d.wts.length cb (d.wts.flatMap wx) ∧ Frm (g :: (ob A ++ ob B)) w wr) (fun s => d.wts.length - s) 0 (js5 rfl rfl rfl rfl rfl) ⟨zj _, hb, by rw [zcs]; exact hA, hB, Frm.refl _ _⟩ ?_
 rintro k wr ⟨hk, hb, hA, hB, K⟩
 have ks := K.size
 refine jS (jR (jb rfl rfl (Bin.lssN _ _) (jO (jN (jS ?_)))))
 refine jD rfl (fun hc1 => ?_) fun hc1 => ?_
 ·
  obtain ⟨ad, rfl, hel⟩ := rdF wx 129 kT hB.rd rfl hc1 (0, [])
  have hwk := hok.wt _ (show d.wts.getD k (0, []) ∈ d.wts by rw [zb, ze hc1]; exact zbp hc1)
  have hdl := eQ hold (d.wts.take k) 0 d.has
  have hsn := nE hold (d.wts.getD k (0, [])) (d.wts.take k) 0 d.has
  rw [← nF hc1, zk, zbh (Nat.le_of_lt hc1), zch] at hsn
  generalize d.wts.getD k (0, []) = x at hel hwk hsn
  refine jQ (jN (jv5 0 1 9 10 11 ?_))
  refine jS (jB (jS (jR (jm rfl (je (Run.indexS _ rfl rfl zfz zgc jo) (je (Run.loadA (cs := wx x) rfl Tryz.isAgg151 zgc hel (kT _)) ?_))))))
  refine Ops.m (qV.alloc vX) rfl ?_
  rintro _ w1 ⟨rfl, hF1⟩
  refine jA ?_
  refine Ops.st (qT.storeA rfl rfl (by rw [zbg, kT]; exact zgc) hF1.blk (by rw [zbg, kT]; rfl) (qXl _)) ?_
  rintro w2 ⟨hb5, hf2, hs2⟩
  have k2 := (hF1.frm.own hf2 jp)
  have s2 := k2.size
  have hb := hb.frm k2 jp
  have hA := hA.frm k2 jp
  have hB := hB.frm k2 jp
  have K := K.trans k2 jp
  have s1 := hF1.size
  generalize hg5 : wr.heap.size = g5 at *
  refine jO (jN (jv7 0 1 4 5 9 10 11 ?_))
  refine jS (jR (jm rfl (jM ?_)))
  refine Ops.cl (cM.dyn rfl (evs.cons rfl evs.nil) hf) (hcl _ k K hc1) rfl ?_
  rintro e w3 ⟨rfl, rfl⟩
  refine ⟨_, rfl, ?_⟩
  refine jO (jN (jv7 0 1 5 9 10 11 18 ?_))
  refine VC.meet (σ := Unit) (fun s => [(0, jI0 g), (1, .func (.func f) ([] : List Value).toArray us.toArray), (9, .slice (some ad) d.wts.length cb), (10, jI1 d.wts.length), (11, jI1 k)]) (fun s wz => Blk wz g 81 #[.slice A d.has.length c, .slice (some ad) d.wts.length cb, .int .i64 d.bud, .bool d.off] ∧ Own wz 149 128 A d.has.length c ((bB hold 0 d.has (d.wts.take (k + 1))).flatMap sx) ∧ Own wz 151 129 (some ad) d.wts.length cb (d.wts.flatMap wx) ∧ Frm (g :: (ob A ++ ob (some ad))) w wz) ?_ ?_
  ·
   refine VC.condB rfl (fun hc2 => ?_) (fun hc2 => ?_)
   ·
    rw [if_pos hc2] at hsn
    obtain ⟨ga, rfl⟩ : ∃ ga, A = some ⟨ga, 0, none⟩ := by
     rcases hA.cases with ⟨_, h0, _⟩ | ⟨ga, cur, h, _⟩
     · omega
     exact ⟨ga, h⟩
    refine VC.tail 9 jK jK ?_
    simp only [zed, zcs, zfn, zbz]
    refine qM ?_
    refine qE (Run.nilck rfl) ?_
    refine qE (Run.fieldAddr rfl zbn rfl zgw jd) ?_
    refine qE (Run.load rfl Tryz.isAgg78 ((hb.drawn (qP.drew _)).cell 0)) ?_
    refine qE (Run.fieldAddr rfl zgk rfl zm jd) ?_
    refine qE (Run.load rfl zaa ((hb5.drawn (qP.drew _)).cell 0)) ?_
    refine qE (Run.fieldAddr rfl zgk rfl zdw jd) ?_
    refine qE (Run.loadA (cs := sx x.2) rfl Tryz.isAgg149 zdw (Blk.tailC (hb5.drawn (qP.drew _))) (eP _)) ?_
    refine qE (Run.indexS _ rfl rfl zfy zdw jo) ?_
    refine bJ.nil ?_
    refine Ops.st (qT.storeSub (vs := (sx x.2).toArray) (o := x.1 * 128) ((show ev? _ _ = some (.pointer (some (((⟨ga, 0, none⟩ : Addr).add 0).add (x.1 * 128)))) from rfl).trans (by rw [pW, oM])) rfl (by rw [zbg, eP]; exact zdw) (hA.drawn (qP.drew _)) (by rw [oP sx 128 eP, hdl, zbg, eP]; omega) (qV5 _)) ?_
    rintro w4 ⟨hA4, hf4, hs4⟩
    have hK4 := K.trans (qP.drew _).frm jp
    rw [zbg, eP, ← qXb sx 128 eP _ _ _ (by rw [hdl]; exact hwk.1), ← hsn] at hA4
    refine jO ?_
    refine jN ⟨(), (js5 rfl rfl rfl rfl rfl), ?_⟩
    have hb := (hb.drawn (qP.drew _)).frm hf4 (by simp; rintro rfl; exact hgA (by simp [ob]))
    have hB := (hB.drawn (qP.drew _)).frm hf4 (fun y hy => by simp; rintro rfl; exact hAB y (by simp [ob]) hy)
    exact ⟨hb, hA4, hB, hK4.trans (hf4.mono (T := g :: (ob (some ⟨ga, 0, none⟩) ++ ob (some ad))) (by simp [ob])) (fun y hy => .inl hy)⟩
   rw [if_neg (by simp [hc2])] at hsn
   refine jQ ?_
   refine jN ⟨(), (js5 rfl rfl rfl rfl rfl), ?_⟩
   rw [hsn]
   exact ⟨hb, hA, hB, K⟩
  rintro _ wz ⟨hb, hA, hB, K⟩ Γ hΓ
  refine qH (jN (VC.sub _ hΓ ?_))
  refine jR (jb rfl rfl (Bin.add_i64 _ 1 jo) (jm rfl (jO ?_)))
  refine jN ⟨k + 1, (js5 rfl rfl rfl rfl rfl), ?_, ?_⟩
  · exact ⟨hc1, hb, hA, hB, K⟩
  exact jq
 refine jX ?_
 refine qZ (qZ (qN ?_))
 refine jN (jv1 0 ?_)
 refine jR (jm rfl (jZ rfl (jf rfl zbn rfl zet ?_)))
 refine Ops.st (qT.store rfl rfl zet hb rfl rfl) ?_
 rintro w5 ⟨hb5, hf5, hs5⟩
 refine jO ?_
 refine pY ?_
 obtain rfl : k = d.wts.length := jo
 rw [zbw] at hA
 have hdl := eQ hold d.wts 0 d.has
 have hA5 := hA.frm hf5 (fun x hx => by simp; rintro rfl; exact hgA hx)
 refine ⟨g :: (ob A ++ []), rfl, ⟨?_, A, c, none, 0, ?_, ?_, Own.nil _ _ _, rfl⟩, K.trans (hf5.mono (T := g :: (ob A ++ ob B)) jp) (fun x hx => .inl hx), fun x hx => .inl (by
  simp at hx ⊢
  rcases hx with h | h
  · exact .inl h
  exact .inr (.inl h))⟩
 ·
  refine ⟨pP _ (fun s => s.length = 128 ∧ ∀ b ∈ s, b < 256) _ _ _ hok.sec (fun x hx => (hok.wt x hx).2), jp, hok.bud, ?_, hok.bmax⟩
  rw [hdl]; exact hok.big
 ·
  dsimp only
  rw [hdl]; exact hb5
 dsimp only
 rw [hdl]; exact hA5
def BL (l : List Bool) : List Value := l.map .bool
theorem qMu (l : List Bool) (k : Nat) (h : k < l.length) : (BL l)[k]? = some (.bool (l.getD k false)) := by
 simp [BL, h]
theorem oV {w : World} {A : Option Addr} {n : Nat} {l : List Bool} (hr : Rd w 1 A n (BL l)) (hn : l.length = n) {i : Nat} (hi : i < n) : ∃ ad, A = some ad ∧ w.cell? (ad.add i) = some (.bool (l.getD i false)) := by
 obtain ⟨ad, h1, _, hc⟩ := hr.2 jo
 exact ⟨ad, h1, hc i _ (qMu l i jo)⟩
theorem qZ7 (k : Nat) (w : World) : Calls Tryz.prog 81 #[jI1 k] w fun e w' => e = .returned (.bool true) ∧ w = w' := by
 refine jV Tryz.func81 Tryz.ntmps81 Tryz.results81 ?_
 refine jS (jR (ja rfl (jO (jN ?_))))
 refine VC.sub [] .nil ?_
 refine jS (jR (ja rfl (jO (jN (jT ?_)))))
 refine qS rfl ?_
 exact ⟨rfl, rfl⟩
theorem vU (g : Nat) (F : List Nat) (d : Dk) (w : World) (hD : IsDk w g F d) (hwl : d.wts.length ≤ 1000000) :
  Calls Tryz.prog 31 #[jI0 g] w fun e w' => ∃ F', e = .returned (jI1 ((d.flush).1)) ∧ IsDk w' g F' d.flush.2 ∧ Fk F w w' F' := by
 refine jV Tryz.func31 Tryz.ntmps31 Tryz.results31 ?_
 refine jS (jR (jz 0 (jO (jN (jv1 0 ?_)))))
 refine jS (jS (jR (jM ?_)))
 refine jc (jE1 Tryz.call79) (xD g F d _ hD) ?_
 rintro e w2 ⟨rfl, hD2, hf2, hs2⟩
 refine ⟨_, rfl, ?_⟩
 refine je (Run.not rfl) (jO (jN (jv2 0 5 ?_)))
 refine VC.condB rfl (fun hc1 => ?_) (fun hc1 => ?_)
 ·
  have hf : d.fails := by simpa using hc1
  have ew : d.flush = (10, d.dead) := by unfold Dk.flush; rw [if_pos hf]
  rw [ew]
  rw [if_pos hf] at hD2
  refine jS (jR (jz 10 (jO (jN (jv1 2 ?_)))))
  refine jT ?_
  refine qQ (qS rfl ?_)
  exact ⟨_, rfl, hD2, hf2.mono (by simp [hD.mem]), fun x hx => .inl hx⟩
 have hf : ¬ d.fails := by simpa using hc1
 have ew : d.flush = (0, { d.less with has := bB (fun _ => true) 0 d.has d.wts, wts := [] }) := by unfold Dk.flush; rw [if_neg hf]
 rw [ew]
 rw [if_neg hf] at hD2
 refine jQ (jN (jv1 0 ?_))
 refine jS (jR (jM ?_))
 refine jc (jE2 Tryz.call53) (xE g 81 [] (fun _ => true) F d.less _ hD2 hwl Tryz.call81 (fun W k _ _ => qZ7 k W)) ?_
 rintro e w3 ⟨F3, rfl, hD3, k3⟩
 refine ⟨_, rfl, ?_⟩
 refine jO (jN ?_)
 refine VC.sub [] .nil ?_
 refine jS (jR (jz 0 (jO (jN (jT ?_)))))
 refine qS rfl ?_
 have k1 : Fk F w w2 F := ⟨hf2.mono (by simp [hD.mem]), fun x hx => .inl hx⟩
 exact ⟨F3, rfl, hD3, k1.trans k3⟩
theorem qV6 (k gk n c : Nat) (A : Option Addr) (l : List Bool) (w : World) (hb : Blk w gk 43 #[.slice A n c]) (hn : l.length = n) (hr : Rd w 1 A n (BL l)) : Calls Tryz.prog 54 #[jI1 k, jI0 gk] w fun e w' => e = .returned (.bool (l.getD k false)) ∧ w = w' := by
 have hlast : ∀ (P : Prop), P → P := fun _ h => h
 refine jV Tryz.func54 Tryz.ntmps54 Tryz.results54 ?_
 refine jS (jR (ja rfl (jO (jN (jv2 0 1 ?_)))))
 refine jS ?_
 refine VC.split1 [] .nil 3 (.bool (decide (k < n ∧ l.getD k false = true))) ?_ ?_
 ·
  refine jR ?_
  refine jm rfl (jl rfl Tryz.isAgg43 (hb.cell 0) (jL rfl zcd (jb rfl rfl (Bin.lssN _ _) ?_)))
  by_cases hs7 : k < n
  ·
   obtain ⟨ad, rfl, hc⟩ := oV hr hn hs7
   refine jM ?_
   refine jk (Run.load rfl Tryz.isAgg43 (hb.cell 0)) ?_
   refine jG ?_
   refine jk (Run.index1 _ rfl rfl zcd zat jo) ?_
   refine jk (Run.load rfl zcr hc) ?_
   refine jW rfl rfl au (ja rfl (jO ?_))
   refine jN ⟨(js1 (jC (by simp [*]))), rfl⟩
  refine jM ?_
  refine jU ?_
  refine jU ?_
  refine jU ?_
  refine jU ?_
  refine jF rfl rfl au (ja rfl (jO ?_))
  refine jN ⟨(js1 (jC (by simp [*]))), rfl⟩
 intro Γ hΓ
 refine jN (VC.sub _ hΓ ?_)
 refine jT ?_
 refine qS rfl ?_
 by_cases h : k < n
 ·
  rw [show decide (k < n ∧ l.getD k false = true) = l.getD k false by simp [h]]
  exact ⟨rfl, rfl⟩
 rw [show decide (k < n ∧ l.getD k false = true) = false by simp [h], show l.getD k false = false by rw [zb, zct jo]; rfl]
 exact ⟨rfl, rfl⟩
theorem qV7 (g n c : Nat) (S : Option Addr) (l : List Bool) (F : List Nat) (d : Dk) (w : World) (hD : IsDk w g F d) (hwl : d.wts.length ≤ 1000000) (hn : l.length = n) (hr : Rd w 1 S n (BL l)) (hS : 0 < n → ∀ x ∈ ob S, x ∉ F) :
  Calls Tryz.prog 16 #[jI0 g, .slice S n c] w fun e w' => ∃ F', e = .returned (.tuple #[]) ∧ IsDk w' g F' (d.cut l) ∧ Fk F w w' F' := by
 refine jV Tryz.func16 Tryz.ntmps16 Tryz.results16 ?_
 refine jS (jR ?_)
 refine Ops.m (qV.box rfl) rfl ?_
 rintro _ w1 ⟨rfl, hF1⟩
 have hD1 := hD.frm hF1.frm jp
 have hr1 := hr.frm hF1.frm jp
 have hlF : w.heap.size ∉ F := fun h => by have := hD.lt _ h; omega
 have hb3 := hF1.blk
 refine jO (jN (jv2 0 3 ?_))
 refine jS (jR (jm rfl (je (Run.mkFunc evs.nil (evs.cons rfl evs.nil)) ?_)))
 refine jc (jE2 Tryz.call53) (xE g 54 [jI0 w.heap.size] (fun k => l.getD k false) F d _ hD1 hwl Tryz.call54 (fun W k hf _ => qV6 k _ n c S l W (hb3.frm hf hlF) hn (hr1.frm hf hS))) ?_
 rintro e w3 ⟨F3, rfl, hD3, k3⟩
 refine ⟨_, rfl, ?_⟩
 obtain ⟨A, c, B, cb, hb, hA, hB, rfl, hgA, hgB, hAB⟩ := hD3.parts
 refine jO (jN (jv1 0 ?_))
 refine jR (jm rfl (jZ rfl (jf rfl zbn rfl zat ?_)))
 refine Ops.st (qT.store rfl rfl zat hb rfl rfl) ?_
 rintro w4 ⟨hb4, hf4, hs4⟩
 have hA4 := hA.frm hf4 (fun x hx => by simp; rintro rfl; exact hgA hx)
 have hB4 := hB.frm hf4 (fun x hx => by simp; rintro rfl; exact hgB hx)
 refine jO ?_
 refine pY ?_
 refine ⟨_, rfl, ⟨hD.ok.cut_ok l, A, c, B, cb, hb4, hA4, hB4, rfl⟩, ?_⟩
 exact (Fk.pre hF1.frm (k3.trans ⟨hf4.mono jp, fun x hx => .inl hx⟩))
theorem qY9 (g : Nat) (F : List Nat) (d : Dk) (w : World) (hD : IsDk w g F d) :
  Calls Tryz.prog 17 #[jI0 g] w fun e w' => ∃ F', e = .returned (.tuple #[]) ∧ IsDk w' g F' d.on ∧ Fk F w w' F' := by
 obtain ⟨A, c, B, cb, hb, hA, hB, rfl, hgA, hgB, hAB⟩ := hD.parts
 have hbig := hD.ok.big
 have hok := hD.ok
 refine jV Tryz.func17 Tryz.ntmps17 Tryz.results17 ?_
 refine jR (jm rfl (jm rfl (jm rfl (jZ rfl (jf rfl zbn rfl zet ?_)))))
 refine Ops.st (qT.store rfl rfl zet hb rfl rfl) ?_
 rintro w1 ⟨hb1, hf1, hs1⟩
 refine jZ rfl (jf rfl zbn rfl zm ?_)
 refine Ops.st (qT.store rfl rfl zm hb1 rfl rfl) ?_
 rintro w2 ⟨hb2, hf2, hs2⟩
 refine jZ rfl (jf rfl zbn rfl zat ?_)
 refine Ops.st (qT.store rfl rfl zat hb2 rfl rfl) ?_
 rintro w3 ⟨hb3, hf3, hs3⟩
 refine jO ?_
 refine pY ?_
 have K := (hf1.trans hf2 jp).trans hf3 jp
 have hA3 := hA.frm K (fun x hx => by simp; rintro rfl; exact hgA hx)
 exact ⟨g :: (ob A ++ []), rfl, ⟨hok.on_ok, A, c, none, 0, hb3, hA3, Own.nil _ _ _, rfl⟩, K.mono jp, fun x hx => .inl (by
  simp at hx ⊢
  rcases hx with h | h
  · exact .inl h
  exact .inr (.inl h))⟩
theorem qXo (g : Nat) (n : Int) (F : List Nat) (d : Dk) (w : World) (hD : IsDk w g F d) (hn1 : -9223372036854775808 ≤ n) (hn2 : n ≤ 9223372036854775807) :
  Calls Tryz.prog 15 #[jI0 g, .int .i64 n] w fun e w' => e = .returned (.int .i64 (if n < -1 then 1 else 0)) ∧ IsDk w' g F (if n < -1 then d else { d with bud := n }) ∧ Frm F w w' := by
 obtain ⟨A, c, B, cb, hb, hA, hB, rfl, hgA, hgB, hAB⟩ := hD.parts
 have hbig := hD.ok.big
 have hok := hD.ok
 refine jV Tryz.func15 Tryz.ntmps15 Tryz.results15 ?_
 refine jS (jR (jz 0 (jO (jN (jv2 0 1 ?_)))))
 refine jS (jS (jR (jm rfl (jb rfl rfl (Bin.lss _ (-1)) (jO (jN (jv3 0 1 6 ?_)))))))
 refine jD rfl (fun hc1 => ?_) fun hc1 => ?_
 ·
  refine jS (jR (jz 1 (jO (jN (jv1 4 ?_)))))
  refine jT ?_
  refine qQ (qS rfl ?_)
  rw [if_pos hc1, if_pos hc1]
  exact ⟨rfl, hD, Frm.refl _ _⟩
 refine jQ (jN (jv2 0 1 ?_))
 refine jS (jR (jm rfl (jm rfl (jZ rfl (jf rfl zbn rfl zm ?_)))))
 refine Ops.st (qT.store rfl rfl zm hb rfl rfl) ?_
 rintro w1 ⟨hb1, hf1, hs1⟩
 refine jO (jN ?_)
 refine VC.sub [] .nil ?_
 refine jS (jR (jz 0 (jO (jN (jT ?_)))))
 refine qS rfl ?_
 rw [if_neg hc1, if_neg hc1]
 have hA3 := hA.frm hf1 (fun x hx => by simp; rintro rfl; exact hgA hx)
 have hB3 := hB.frm hf1 (fun x hx => by simp; rintro rfl; exact hgB hx)
 exact ⟨rfl, ⟨⟨hok.sec, hok.wt, (by show -1 ≤ n; omega), hok.big, hn2⟩, A, c, B, cb, hb1, hA3, hB3, rfl⟩, hf1.mono jp⟩
theorem qV8 (g i : Nat) (F : List Nat) (d : Dk) (w : World) (hD : IsDk w g F d) (hi : i < d.has.length) :
  Calls Tryz.prog 86 #[jI0 g, jI1 i] w fun e w' => ∃ B, e = .returned (.tuple #[.slice B 128 128, .int .i64 0]) ∧ Rd w' 1 B 128 (NB (d.has.getD i [])) ∧ Frm [] w w' := by
 obtain ⟨A, c, B, cb, hb, hA, hB, rfl, hgA, hgB, hAB⟩ := hD.parts
 have hbig := hD.ok.big
 have hok := hD.ok
 obtain ⟨ad, rfl, hel⟩ := rdF sx 128 eP hA.rd rfl hi []
 refine jV Tryz.func86 Tryz.ntmps86 Tryz.results86 ?_
 refine jS (jR (ja rfl (jz 0 (jO (jN (jv2 0 1 ?_))))))
 refine jS (jS (jR (jm rfl (jM ?_))))
 refine jc (jE2 Tryz.call76) (wR g i _ d _ hD) ?_
 rintro e w1 ⟨rfl, rfl⟩
 refine ⟨_, rfl, ?_⟩
 refine je (Run.not rfl) (jO (jN (jv3 0 1 9 ?_)))
 refine VC.condF rfl (by simp [hi]) ?_
 refine jQ (jN (jv2 0 1 ?_))
 refine jS (jR (jm rfl (jZ rfl (jf rfl zbn rfl zgw (jl rfl Tryz.isAgg78 (hb.cell 0) (jm rfl (je (Run.indexS _ rfl rfl zfy zdw jo) (je (Run.loadA (cs := sx (d.has.getD i [])) rfl Tryz.isAgg149 zdw hel (eP _)) ?_))))))))
 refine jc (jE1 Tryz.call78) (tC (sx (d.has.getD i [])) _ (eP _)) ?_
 rintro e W3 ⟨rfl, hbb, hf3, hs3⟩
 refine ⟨_, rfl, ?_⟩
 refine ja rfl (jz 0 (jO (jN (jv2 4 5 ?_))))
 refine jT ?_
 refine bX rfl rfl ?_
 have hl : (d.has.getD i []).length = 128 := by
  rw [zb, ze hi]
  exact (hok.sec _ (zbp hi)).1
 rw [qQ6 hl] at hbb
 exact ⟨_, rfl, by simpa using Rd.of_blk (n := 128) (size := 1) hbb (by rw [NB, zbg, zae, hl]), hf3⟩
theorem qZ8 (g : Nat) (F : List Nat) (d : Dk) (w : World) (hD : IsDk w g F d) : Calls Tryz.prog 72 #[jI0 g] w fun e w' => e = .returned (.bool (! d.off)) ∧ w = w' := by
 obtain ⟨A, c, B, cb, hb, hA, hB, rfl, hgA, hgB, hAB⟩ := hD.parts
 have hbig := hD.ok.big
 have hok := hD.ok
 refine jV Tryz.func72 Tryz.ntmps72 Tryz.results72 ?_
 refine jS (jR (ja rfl (jO (jN (jv1 0 ?_)))))
 refine jS (jR (jm rfl (jZ rfl (jf rfl zbn rfl zat (jl rfl zcr (hb.cell 3) (je (Run.not rfl) (ja rfl (jO (jN (jv1 2 ?_))))))))))
 refine jT ?_
 refine qS rfl ?_
 exact ⟨rfl, rfl⟩
theorem tD (n : Nat) (w : World) (h1 : 1 ≤ n) (h2 : n ≤ 2048) : Calls Tryz.prog 6 #[jI1 n] w fun e w' => ∃ g F, e = .returned (.tuple #[jI0 g, .int .i64 0]) ∧ IsDk w' g F (Dk.new n) ∧ Frm [] w w' ∧ ∀ x ∈ F, w.heap.size ≤ x := by
 refine jV Tryz.func6 Tryz.ntmps6 Tryz.results6 ?_
 refine jS (jR (ja rfl (jz 0 (jO (jN (jv1 0 ?_))))))
 refine jS (jS ?_)
 refine VC.split1 [(0, _)] (js1 rfl) 9 (.bool (decide (False))) ?_ ?_
 ·
  refine jR ?_
  refine jm rfl (jb rfl rfl (Bin.lssN _ 1) ?_)
  by_cases hs5 : n < 1
  ·
   refine jM ?_
   refine jU ?_
   refine jU ?_
   refine jW rfl rfl au (jO ?_)
   refine jN ⟨(js2 (jC (by simp; omega)) rfl), rfl⟩
  refine jM ?_
  refine jG ?_
  refine jk (Run.bin rfl rfl (Bin.gtrN _ 2048)) ?_
  by_cases hs8 : 2048 < n
  ·
   refine jF rfl rfl au (jO ?_)
   refine jN ⟨(js2 (jC (by simp; omega)) rfl), rfl⟩
  refine jF rfl rfl au (jO ?_)
  refine jN ⟨(js2 (jC (by simp; omega)) rfl), rfl⟩
 intro Γ hΓ
 refine jN (VC.sub _ hΓ ?_)
 refine VC.condF rfl jp ?_
 refine jQ (jN (jv1 0 ?_))
 refine jS (jR (jM ?_))
 refine Ops.m (qV.makeS rfl rfl zfy (qHn) rfl jo jo) rfl ?_
 rintro _ w1 ⟨rfl, ho1, hf1, hs1⟩
 have e1 : (Dk.new n).has.flatMap sx = (List.replicate n (sx (noM 128))).flatten := by
  show (List.replicate n (noM 128)).flatMap sx = _
  rw [List.flatMap_def, zdr]
 have ho2 : Own w1 149 128 (some ⟨w.heap.size, 0, none⟩) n n ((Dk.new n).has.flatMap sx) := by
  rw [e1]
  exact ho1
 refine je (Run.build (evs.cons rfl (evs.cons rfl evs.nil)) qMr (qXg).choose_spec.1 (qXg).choose_spec.2 rfl) ?_
 refine Ops.m (qV.box rfl) rfl ?_
 rintro _ w2 ⟨rfl, hF2⟩
 have hb2 := hF2.blk
 have ho3 := ho2.frm hF2.frm jp
 have e3 : (Dk.new n).has.length = n := by simp [Dk.new]
 have sn : ∀ s ∈ (Dk.new n).has, s.length = 128 ∧ ∀ b ∈ s, b < 256 := fun s hs => by
  obtain ⟨_, rfl⟩ := List.mem_replicate.1 hs
  exact ⟨by simp [noM], fun b hb => by obtain ⟨_, rfl⟩ := List.mem_replicate.1 hb; omega⟩
 refine ja rfl (jz 0 (jO (jN (jv2 2 3 ?_))))
 refine jT ?_
 refine bX rfl rfl ?_
 refine ⟨w1.heap.size, w1.heap.size :: (ob (some ⟨w.heap.size, 0, none⟩) ++ []), rfl, ⟨⟨sn, by simp [Dk.new], by simp [Dk.new], jo, by simp [Dk.new]⟩, some ⟨w.heap.size, 0, none⟩, n, none, 0, ?_, ?_, Own.nil _ _ _, rfl⟩, hf1.trans hF2.frm jp, fun x hx => ?_⟩
 · rw [e3]; exact hb2
 · rw [e3]; exact ho3
 simp [ob] at hx; omega
end
section
def moreM (s : Nat) (bs : List Nat) : Nat := 4294967295 - goM (4294967295 - s) bs
theorem qV9 (bs : List Nat) : crcM bs = moreM 0 bs := rfl
theorem qXp (s : Nat) (bs : List Nat) : moreM s bs < 4294967296 := by unfold moreM; omega
theorem qXq (s : Nat) (a b : List Nat) (ha : ∀ x ∈ a, x < 256) : moreM s (a ++ b) = moreM (moreM s a) b := by
 have := rF a (w := 4294967295 - s) jo ha
 unfold moreM
 rw [qK1, show 4294967295 - (4294967295 - goM (4294967295 - s) a) = goM (4294967295 - s) a by omega]
def fW (bs : List Nat) : List Nat := bs ++ qC (crcM bs) 4
theorem fY (bs : List Nat) : (fW bs).length = bs.length + 4 := by rw [fW, zf, numL_len]
theorem sS {bs : List Nat} (h : ∀ b ∈ bs, b < 256) : ∀ b ∈ fW bs, b < 256 := fun b hb => by
 rcases zcp.1 hb with hb | hb
 · exact h b hb
 exact numL_lt _ _ b hb
def eS (bs : List Nat) (n : Nat) : List Nat := if n < bs.length then [] else bs ++ noM (n - bs.length)
theorem oT {bs : List Nat} {n : Nat} (h : bs.length ≤ n) : (eS bs n).length = n := by
 rw [eS, if_neg jo, zf, noM, zeg]; omega
theorem noM_lt (n : Nat) : ∀ b ∈ noM n, b < 256 := fun b hb => by obtain ⟨_, rfl⟩ := List.mem_replicate.1 hb; omega
theorem yD {bs : List Nat} {n : Nat} (h : ∀ b ∈ bs, b < 256) : ∀ b ∈ eS bs n, b < 256 := fun b hb => by
 unfold eS at hb
 split at hb
 · cases hb
 rcases zcp.1 hb with hb | hb
 · exact h b hb
 exact noM_lt _ b hb
abbrev Pu := Nat × List Nat
def cH (l : List Pu) (size : Nat) : Prop := (1 ≤ l.length ∧ l.length ≤ 40) ∧ (∀ x ∈ l, (41 ≤ x.1 ∧ x.1 < size) ∧ x.2.length = 128) ∧ (l.map (·.1)).Nodup
instance (l : List Pu) (size : Nat) : Decidable (cH l size) := by unfold cH; infer_instance
theorem cH.mono {l : List Pu} {a b : Nat} (h : cH l a) (hab : a ≤ b) : cH l b := ⟨h.1, fun x hx => ⟨⟨(h.2.1 x hx).1.1, zas (h.2.1 x hx).1.2 hab⟩, (h.2.1 x hx).2⟩, h.2.2⟩
def mU (l : List Pu) : Nat := l.foldl (fun s x => moreM s x.2) 0
def kM (l : List Pu) : List Nat := qC 1785491060 4 ++ qC l.length 2 ++ qC (mU l) 4 ++ l.flatMap fun x => qC x.1 2
def dC (l : List Pu) : List Nat := eS (fW (kM l)) 128
theorem qHu (l : List Pu) : (l.flatMap fun x => qC x.1 2).length = 2 * l.length := by
 induction l with
 | nil => rfl
 | cons a r ih => rw [zaw, zf, numL_len, ih, zad]; omega
theorem pR (l : List Pu) : (kM l).length = 10 + 2 * l.length := by
 simp only [kM, zf, numL_len, qHu]
theorem sU (l : List Pu) : ∀ b ∈ kM l, b < 256 := fun b hb => by
 simp only [kM, zcp, List.mem_flatMap] at hb
 rcases hb with ((hb | hb) | hb) | ⟨x, _, hb⟩ <;> exact numL_lt _ _ b hb
theorem headJ_lt (l : List Pu) : ∀ b ∈ dC l, b < 256 := yD (sS (sU l))
theorem tE {l : List Pu} (h : l.length ≤ 40) : (dC l).length = 128 := oT (by rw [fY, pR]; omega)
theorem yE (l : List Pu) : mU l < 4294967296 := by
 unfold mU
 rcases List.eq_nil_or_concat l with rfl | ⟨r, x, rfl⟩
 · exact (by decide : (0 : Nat) < 4294967296)
 rw [List.concat_eq_append, zfx]
 exact qXp _ _
def bF (l : List Pu) : List Stp := l.map (fun x => Stp.wr x.1 x.2) ++ [.fl, .wr 0 (noM 128), .fl]
def fD (k : Nat) : List Pu → List Stp
 | [] => []
 | x :: r => .wr (1 + k) x.2 :: fD (k + 1) r
def bO (l : List Pu) : List Stp := fD 0 l ++ [.fl, .wr 0 (dC l), .fl] ++ bF l
def dV : List Stp := [.wr 0 (noM 128), .fl]
theorem zL (x : Pu) : ∀ (l : List Pu) (k : Nat), fD k (l ++ [x]) = fD k l ++ [.wr (1 + (k + l.length)) x.2]
 | [], k => rfl
 | y :: l, k => by rw [zcx, fD, zL x l, fD, zcx, zad, show k + 1 + l.length = k + (l.length + 1) by omega]
theorem qXr : ∀ (l : List Pu) (k : Nat), (fD k l).length = l.length
 | [], _ => rfl
 | x :: r, k => by rw [fD, zad, qXr r, zad]
theorem nX (l : List Pu) : (bF l).length = l.length + 3 := by simp [bF]
theorem rV (l : List Pu) : (bO l).length = 2 * l.length + 6 := by simp [bO, nX, qXr]; omega
def bY (d : Dk) : Nat × Dk := if d.has.length ≤ 41 then (1, d) else qL d dV
def bK (d : Dk) (l : List Pu) : Nat × Dk := if d.has.length ≤ 41 ∨ ¬ cH l d.has.length then (1, d) else qL d (bO l)
def dY (d : Dk) (hd : List Nat) (n : Nat) : List Pu := (List.range n).map fun i => (cT ((hd.drop (10 + 2 * i)).take 2), d.sec (1 + i))
def headN (hd : List Nat) : Nat := cT ((hd.drop 4).take 2)
def dD (d : Dk) (hd : List Nat) : Prop := (1 ≤ headN hd ∧ headN hd ≤ 40) ∧ cH (dY d hd (headN hd)) d.has.length ∧ dC (dY d hd (headN hd)) = hd
instance (d : Dk) (hd : List Nat) : Decidable (dD d hd) := by unfold dD; infer_instance
def bW (d : Dk) : Nat × Nat × Dk :=
 if d.has.length ≤ 41 then (0, 1, d) else if d.off then (0, 10, d)
 else if dD d (d.sec 0) then
  if (qL d (bF (dY d (d.sec 0) (headN (d.sec 0))))).1 ≠ 0 then (0, qL d (bF (dY d (d.sec 0) (headN (d.sec 0))))) else (headN (d.sec 0), qL d (bF (dY d (d.sec 0) (headN (d.sec 0)))))
 else if d.sec 0 ≠ noM 128 then (0, qL d dV) else (0, 0, d)
end
section
open Go.RowKit
theorem sC : ∀ n w, stepN (n + 1) w = gR (stepN n w)
 | 0, _ => rfl
 | n + 1, w => by
  rw [show stepN (n + 1 + 1) w = stepN (n + 1) (gR w) from rfl, sC n (gR w)]
  rfl
theorem wS (w : Nat) (l : List Nat) (b : Nat) : goM w (l ++ [b]) = stepN 8 (goM w l ^^^ b) := by unfold goM; rw [zfx]; rfl
def WB (l : List Nat) : List Value := l.map fun n => .int .u32 ((n : Nat) : Int)
theorem qWa (a : List Nat) (i : Nat) (h : i < a.length) : (WB a)[i]? = some (.int .u32 ((a.getD i 0 : Nat) : Int)) := by
 simp [WB, zb, ze h]
theorem qXs (l : List Nat) : ∀ u ∈ WB l, u.oneCell' = true := by
 intro u hu
 obtain ⟨x, _, rfl⟩ := List.mem_map.1 hu
 rfl
theorem qMv (a : List Nat) (i x : Nat) : (WB a).toArray.setIfInBounds i (.int .u32 ((x : Nat) : Int)) = (WB (a.set i x)).toArray := by simp [WB, zfg]
def gI (n : Nat) : List Nat := (List.range 256).map fun i => if i < n then stepN 8 i else 0
theorem fT (n : Nat) : (gI n).length = 256 := by simp [gI]
theorem qGa (n : Nat) : (gI n).set n (stepN 8 n) = gI (n + 1) := by
 apply zgn
 intro i
 unfold gI
 simp only [List.getElem?_set, zae, zdd, zbr]
 by_cases h1 : n = i
 ·
  subst h1
  by_cases h2 : n < 256
  · simp [h2]
  simp [h2]
 by_cases h2 : i < 256
 ·
  simp only [h1, if_false, zgg h2, zdx]
  by_cases h3 : i < n
  · rw [if_pos h3, if_pos jo]
  rw [if_neg h3, if_neg jo]
 simp [h1, zct, h2]
theorem qXt {i : Nat} (h : i < 256) : (gI 256).getD i 0 = stepN 8 i := by
 unfold gI
 rw [zb, zbr, zgg h]
 simp [h]
theorem qK4 (w0 : Nat) (w : World) (h : w0 < 4294967296) : Calls Tryz.prog 161 #[.int .u32 ((w0 : Nat) : Int)] w fun e w' => e = .returned (.int .u32 ((stepN 8 w0 : Nat) : Int)) ∧ w = w' := by
 refine jV Tryz.func161 Tryz.ntmps161 Tryz.results161 ?_
 refine jS (jR ?_)
 refine jy .u32 0 ?_
 refine jO (jN (jv1 0 ?_))
 refine jS (jS (jR ?_))
 refine jx .i64 0 ?_
 refine jO (jN (jB ?_))
 refine VC.loop (σ := Nat) (fun s => [(0, .int .u32 ((stepN s w0 : Nat) : Int)), (4, jI1 s)]) (fun s wr => s ≤ 8 ∧ w = wr) (fun s => 8 - s) 0 (js2 rfl rfl) ⟨jo, rfl⟩ ?_
 rintro i wr ⟨hi, rfl⟩
 have hlt := mS i h
 have hnx := sC i w0
 generalize hv : stepN i w0 = v at hlt hnx ⊢
 unfold gR at hnx
 refine jS (jR (jb rfl rfl (Bin.lssN _ 8) (jO (jN (jS ?_)))))
 refine jD rfl (fun hc1 => ?_) fun hc1 => ?_
 ·
  refine jQ (jN (jv2 0 4 ?_))
  refine jS (jB (jS (jR (jm rfl (jb rfl rfl (Bin.and_u32 _ 1 jo jo) ?_)))))
  rw [Nat.and_one_is_mod]
  refine ja rfl (jO (jN (jv3 0 3 4 ?_)))
  refine jS (jR (jm rfl (jb rfl rfl (Bin.shr_u32 _ 1 jo) ?_)))
  rw [Nat.pow_one]
  refine ja rfl (jO (jN (jv3 0 3 4 ?_)))
  refine jS (jR (jm rfl (jb rfl rfl (Bin.eqlN _ 1) (jO (jN (jv3 0 4 11 ?_))))))
  refine jD rfl (fun hc2 => ?_) fun hc2 => ?_
  ·
   refine jR (jm rfl (jb rfl rfl (Bin.xor_u32 _ 3988292384 jo jo) (ja rfl (jO ?_))))
   refine qH (jN ?_)
   refine jv2 0 4 ?_
   refine jR (jb rfl rfl (Bin.add_i64 _ 1 jo) (jm rfl (jO ?_)))
   refine jN ⟨i + 1, (js2 (by rw [hnx, if_pos hc2]; rfl) rfl), ?_, ?_⟩
   · exact ⟨jo, rfl⟩
   exact jq
  refine jQ ?_
  refine qH (jN ?_)
  refine jv2 0 4 ?_
  refine jR (jb rfl rfl (Bin.add_i64 _ 1 jo) (jm rfl (jO ?_)))
  refine jN ⟨i + 1, (js2 (by rw [hnx, if_neg hc2]; rfl) rfl), ?_, ?_⟩
  · exact ⟨jo, rfl⟩
  exact jq
 refine jX ?_
 refine qZ (qZ (qN ?_))
 refine jN (jv1 0 ?_)
 refine jS (jR (jm rfl (ja rfl (jO (jN (jv1 2 ?_))))))
 refine jT ?_
 refine qS rfl ?_
 obtain rfl : i = 8 := jo
 exact ⟨by rw [hv], rfl⟩
theorem xF (w : World) : (zeroValue 226).run Tryz.prog w = .ok (.agg (WB (gI 0)).toArray) w := by
 simp only [zeroValue, Sem.run_bind, Tryz.typeInfo226, Result.andThen_ok]; rfl
theorem vB (w : World) : Calls Tryz.prog 150 #[] w fun e w' => e = .returned (.agg (WB (gI 256)).toArray) ∧ Frm [] w w' := by
 refine jV Tryz.func150 Tryz.ntmps150 Tryz.results150 ?_
 refine jS (jR ?_)
 refine Ops.m (qV.alloc xF) rfl ?_
 rintro _ w1 ⟨rfl, hF1⟩
 have hb0 : Blk w1 w.heap.size 226 (WB (gI 0)).toArray := hF1.blk
 have hgs := hF1.size
 refine jO (jN (jS (jR ?_)))
 refine Ops.m (qV.alloc xF) rfl ?_
 rintro _ w2 ⟨rfl, hF2⟩
 have hb0 := hb0.frm hF2.frm jp
 have hb1 : Blk w2 w1.heap.size 226 (WB (gI 0)).toArray := hF2.blk
 have K := hF1.frm.trans hF2.frm jp
 have hgl : w.heap.size < w1.heap.size := jo
 obtain ⟨g0, hg0⟩ : ∃ g, g = w.heap.size := ⟨_, rfl⟩
 obtain ⟨g1, hg1⟩ : ∃ g, g = w1.heap.size := ⟨_, rfl⟩
 rw [← hg0] at hb0 hgl
 rw [← hg1] at hb1 hgl
 have hk0 : w.heap.size ≤ g0 := jo
 have hk1 : w.heap.size ≤ g1 := jo
 refine jO (jN (jS (jS (jR ?_))))
 refine jx .i64 0 ?_
 refine jO (jN (jB ?_))
 refine VC.loop (σ := Nat) (fun s => [(0, jI0 g0), (1, jI0 g1), (3, jI1 s)]) (fun s wr => s ≤ 256 ∧ Blk wr g0 226 (WB (gI 0)).toArray ∧ Blk wr g1 226 (WB (gI s)).toArray ∧ Frm [] w wr) (fun s => 256 - s) 0 (js3 (by rw [hg0]; rfl) (by rw [hg1]; rfl) rfl) ⟨jo, hb0, hb1, K⟩ ?_
 rintro i wr ⟨hi, hb0, hb1, K⟩
 refine jS (jR (jb rfl rfl (Bin.lssN _ 256) (jO (jN (jS ?_)))))
 refine jD rfl (fun hc1 => ?_) fun hc1 => ?_
 ·
  refine jQ (jN (jv3 0 1 3 ?_))
  refine jS (jB (jS (jR (jm rfl (ja rfl (jO (jN (jv4 0 1 2 3 ?_))))))))
  refine jR (jm rfl (jm rfl (je (Run.convN _ rfl zz zby (by simp only [bmax]; omega)) ?_)))
  refine jc0 (jE1 Tryz.call161) (qK4 i _ jo) ?_
  refine je (Run.indexA1 _ rfl rfl Tryz.underlying226 zgb jo) ?_
  refine Ops.st (qT.store rfl rfl zgb hb1 (by rw [Nat.blt_eq]; simp only [zbg, WB, zae, fT]; omega) rfl) ?_
  rintro w3 ⟨hb1, hf3, hs3⟩
  rw [zch, qMv, qGa] at hb1
  refine jO ?_
  refine qH (jN ?_)
  refine jv3 0 1 3 ?_
  refine jR (jb rfl rfl (Bin.add_i64 _ 1 jo) (jm rfl (jO ?_)))
  refine jN ⟨i + 1, (js3 rfl rfl rfl), ?_, ?_⟩
  · exact ⟨jo, hb0.frm hf3 (by simp; omega), hb1, K.own hf3 (by simp; omega)⟩
  exact jq
 refine jX ?_
 refine qZ (qZ (qN ?_))
 refine jN (jv2 0 1 ?_)
 refine jS (jR (je (Run.loadB rfl Tryz.isAgg226 zhm hb1 (by simp only [zbg, WB, zae, fT])) ?_))
 refine Ops.st (qT.storeA rfl rfl (fun w => by simp only [zbg, WB, zae, fT]; exact zhm w) hb0 (by simp only [zbg, WB, zae, fT]) (by simpa using qXs _)) ?_
 rintro w4 ⟨hb0, hf4, hs4⟩
 have ei : i = 256 := jo
 subst ei
 refine jO (jN (jv1 0 ?_))
 refine jT ?_
 refine eO ?_
 refine zT rfl Tryz.isAgg226 zhm (hb0) rfl ?_
 refine cY ?_
 exact ⟨rfl, K.own hf4 (by simp; omega)⟩
theorem qK5 (A : Option Addr) (c n : Nat) (bs : List Nat) (w : World) (hn : bs.length = n) (hl : n ≤ 1000000000) (hB : ∀ b ∈ bs, b < 256) (hr : Rd w 1 A n (NB bs)) :
  Calls Tryz.prog 123 #[.int .u32 ((0 : Nat) : Int), .slice A n c] w fun e w' => e = .returned (.int .u32 ((crcM bs : Nat) : Int)) ∧ Frm [] w w' := by
 refine jV Tryz.func123 Tryz.ntmps123 Tryz.results123 ?_
 refine jS (jR ?_)
 refine jy .u32 0 ?_
 refine jO (jN (jv2 0 1 ?_))
 refine jS (jR ?_)
 refine jc (jE0 Tryz.call150) (vB w) ?_
 rintro e w1 ⟨rfl, K⟩
 refine ⟨_, rfl, ?_⟩
 refine Ops.m (qV.alloc xF) rfl ?_
 rintro _ w2 ⟨rfl, hF2⟩
 have hb2 := hF2.blk
 have hg5 := K.size
 have K := K.trans hF2.frm jp
 generalize w1.heap.size = g5 at hb2 hg5 ⊢
 refine Ops.st (qT.storeA rfl rfl (fun w => by simp only [zbg, WB, zae, fT]; exact zhm w) hb2 (by show (WB (gI 256)).toArray.size = (WB (gI 0)).toArray.size; simp only [zbg, WB, zae, fT]) (by simpa using qXs _)) ?_
 rintro w3 ⟨hb3, hf3, hs3⟩
 have K := K.own hf3 (by simp; omega)
 refine jO (jN (jv3 0 1 5 ?_))
 refine jS (jR (jm rfl (je (Run.compl32 _ rfl jo) ?_)))
 rw [zcc]
 refine ja rfl (jO (jN (jv3 1 5 6 ?_)))
 refine jS (jS (jR (jm rfl (jL rfl zg ?_))))
 refine jx .i64 0 ?_
 refine jO (jN (jv5 5 6 12 13 14 ?_))
 refine jB ?_
 refine VC.loop (σ := Nat) (fun s => [(5, jI0 g5), (6, .int .u32 ((goM 4294967295 (bs.take s) : Nat) : Int)), (12, .slice A n c), (13, jI1 n), (14, jI1 s)]) (fun s wr => s ≤ n ∧ w3 = wr) (fun s => n - s) 0 (js5 rfl rfl rfl rfl rfl) ⟨jo, rfl⟩ ?_
 rintro i _ ⟨hi, rfl⟩
 have hgl := rF (bs.take i) (w := 4294967295) jo (fun b hb => hB b (zo hb))
 refine jS (jR (jb rfl rfl (Bin.lssN _ _) (jO (jN (jS ?_)))))
 refine jD rfl (fun hc1 => ?_) fun hc1 => ?_
 ·
  obtain ⟨ad, rfl, hcell⟩ := gF (hr.frm K jp) hn hc1
  have hs := mR (jo : i < bs.length)
  have hsn := wS 4294967295 (bs.take i) (bs.getD i 0)
  rw [← hs] at hsn
  have hb8 := kL hB i
  generalize bs.getD i 0 = b at hcell hsn hb8
  generalize goM 4294967295 (bs.take i) = v at hgl hsn ⊢
  have hbt := qXk v b
  have hx8 : v % 256 ^^^ b < 256 := zgj (n := 8) jo hb8
  have hx32 := mS 8 (jo : v % 256 ^^^ b < 4294967296)
  refine jQ (jN (jv5 5 6 12 13 14 ?_))
  refine jS (jB (jS (jR (je (Run.index1 _ rfl rfl zg zam jo) (jl rfl zdk hcell (ja rfl (jO (jN (jv6 5 6 8 12 13 14 ?_)))))))))
  refine jR (jm rfl (je (Run.conv8 _ rfl zby zac) (jm rfl (jb rfl rfl (Bin.xor_u8 _ _ jo jo) (je (Run.indexA1 _ rfl rfl Tryz.underlying226 zgb jo) ?_)))))
  refine jl rfl Tryz.isAgg109 ((hb3.cell _).trans (by rw [zch, List.getElem?_toArray, qWa _ _ (by rw [fT]; exact hx8), qXt hx8])) ?_
  refine jm rfl (jb rfl rfl (Bin.shr_u32 _ 8 jo) (jb rfl rfl (Bin.xor_u32 _ _ jo jo) ?_))
  rw [show (2 : Nat) ^ 8 = 256 from rfl, hbt, ← hsn]
  refine ja rfl (jO ?_)
  refine qH (jN ?_)
  refine jv5 5 6 12 13 14 ?_
  refine jR (jb rfl rfl (Bin.add_i64 _ 1 jo) (jm rfl (jO ?_)))
  refine jN ⟨i + 1, (js5 rfl rfl rfl rfl rfl), ?_, ?_⟩
  · exact ⟨jo, rfl⟩
  exact jq
 refine jX ?_
 refine qZ (qZ (qN ?_))
 refine jN (jv1 6 ?_)
 refine jS (jR (jm rfl (je (Run.compl32 _ rfl jo) (ja rfl (jO (jN (jv1 4 ?_)))))))
 refine jT ?_
 refine qS rfl ?_
 obtain rfl : i = n := jo
 rw [zh jo]
 exact ⟨rfl, K⟩
theorem tF (A : Option Addr) (c n : Nat) (bs : List Nat) (w : World) (hn : bs.length = n) (hl : n ≤ 1000000000) (hB : ∀ b ∈ bs, b < 256) (hr : Rd w 1 A n (NB bs)) :
  Calls Tryz.prog 74 #[.slice A n c] w fun e w' => e = .returned (.int .u32 ((crcM bs : Nat) : Int)) ∧ Frm [] w w' := by
 refine jV Tryz.func74 Tryz.ntmps74 Tryz.results74 ?_
 refine jS (jR ?_)
 refine jy .u32 0 ?_
 refine jO (jN (jv1 0 ?_))
 refine jS (jR (jM ?_))
 refine jc (jE2 Tryz.call123) (qK5 A c n bs w hn hl hB hr) ?_
 rintro e w1 ⟨rfl, K⟩
 refine ⟨_, rfl, ?_⟩
 refine ja rfl (jO (jN (jv1 2 ?_)))
 refine jT ?_
 refine qS rfl ?_
 exact ⟨rfl, K⟩
theorem qGb (A : Option Addr) (c n : Nat) (bs : List Nat) (w : World) (hn : bs.length = n) (hl : n ≤ 1000000000) (hB : ∀ b ∈ bs, b < 256) (hr : Rd w 1 A n (NB bs)) :
  Calls Tryz.prog 119 #[.int .u32 ((4294967295 : Nat) : Int), .slice A n c] w fun e w' => e = .returned (.int .u32 ((goM 4294967295 bs : Nat) : Int)) ∧ w = w' := by
 refine jV Tryz.func119 Tryz.ntmps119 Tryz.results119 ?_
 refine jS (jR ?_)
 refine jy .u32 0 ?_
 refine jO (jN (jv2 0 1 ?_))
 refine jS (jS (jR (jz 0 (jO (jN (jB ?_))))))
 refine VC.loop (σ := Nat) (fun s => [(0, .int .u32 ((goM 4294967295 (bs.take s) : Nat) : Int)), (1, .slice A n c), (5, jI1 s)]) (fun s wr => s ≤ n ∧ w = wr) (fun s => n - s) 0 (js3 rfl rfl rfl) ⟨jo, rfl⟩ ?_
 rintro i _ ⟨hi, rfl⟩
 have hgl := rF (bs.take i) (w := 4294967295) jo (fun b hb => hB b (zo hb))
 refine jS (jS (jR (jm rfl (jm rfl (jL rfl zg (jb rfl rfl (Bin.lssN _ _) (jO (jN (jv4 0 1 5 11 ?_)))))))))
 refine jD rfl (fun hc1 => ?_) fun hc1 => ?_
 ·
  obtain ⟨ad, rfl, hcell⟩ := gF hr hn hc1
  have hs := mR (jo : i < bs.length)
  have hsn := wS 4294967295 (bs.take i) (bs.getD i 0)
  rw [← hs] at hsn
  have hb8 := kL hB i
  generalize bs.getD i 0 = b at hcell hsn hb8
  generalize goM 4294967295 (bs.take i) = v at hgl hsn ⊢
  have hx32 : v ^^^ b < 4294967296 := wP hgl jo
  refine jQ (jN (jv3 0 1 5 ?_))
  refine jS (jB (jS (jR (jm rfl (jm rfl (jm rfl (je (Run.index1 _ rfl rfl zg zam jo) (jl rfl zdk hcell (je (Run.convN _ rfl zac zby (by simp only [bmax]; omega)) (jb rfl rfl (Bin.xor_u32 _ _ jo jo) (ja rfl (jO (jN (jv3 0 1 5 ?_))))))))))))))
  refine jS (jR (jz 0 (jO (jN (jB ?_)))))
  refine VC.loop (σ := Nat) (fun s => [(0, .int .u32 ((stepN s (v ^^^ b) : Nat) : Int)), (1, .slice (some ad) n c), (5, jI1 i), (6, jI1 s)]) (fun s wr => s ≤ 8 ∧ w = wr) (fun s => 8 - s) 0 (js4 rfl rfl rfl rfl) ⟨jo, rfl⟩ ?_
  rintro k _ ⟨hk, rfl⟩
  have hlt := mS k hx32
  have hnx := sC k (v ^^^ b)
  generalize hu : stepN k (v ^^^ b) = u at hlt hnx ⊢
  unfold gR at hnx
  refine jS (jS (jR (jm rfl (jb rfl rfl (Bin.lssN _ 8) (jO (jN (jv5 0 1 5 6 22 ?_)))))))
  refine jD rfl (fun hc2 => ?_) fun hc2 => ?_
  ·
   refine jQ (jN (jv4 0 1 5 6 ?_))
   refine jS (jB (jS (jR (jm rfl (jb rfl rfl (Bin.remN _ 2 jo) (jb rfl rfl (Bin.eqlN _ 1) (ja rfl (jO (jN (jv5 0 1 5 6 7 ?_))))))))))
   refine jS (jR (jm rfl (jb rfl rfl (Bin.quo_u32 _ 2 jo jo) (ja rfl (jO (jN (jv5 0 1 5 6 7 ?_)))))))
   refine jS (jR (jm rfl (jO (jN (jv5 0 1 5 6 30 ?_)))))
   refine jD rfl (fun hc3 => ?_) fun hc3 => ?_
   ·
    refine jR (jm rfl (jb rfl rfl (Bin.xor_u32 _ 3988292384 jo jo) (ja rfl (jO ?_))))
    refine qH (jN ?_)
    refine jv4 0 1 5 6 ?_
    refine jR (jm rfl (jb rfl rfl (Bin.add_i64 _ 1 jo) (ja rfl (jO ?_))))
    refine jN ⟨k + 1, (js4 (by rw [hnx, if_pos hc3]; rfl) rfl rfl rfl), ?_, ?_⟩
    · exact ⟨jo, rfl⟩
    exact jq
   refine jQ ?_
   refine qH (jN ?_)
   refine jv4 0 1 5 6 ?_
   refine jR (jm rfl (jb rfl rfl (Bin.add_i64 _ 1 jo) (ja rfl (jO ?_))))
   refine jN ⟨k + 1, (js4 (by rw [hnx, if_neg hc3]; rfl) rfl rfl rfl), ?_, ?_⟩
   · exact ⟨jo, rfl⟩
   exact jq
  refine jX ?_
  refine qZ (qZ (qN ?_))
  refine qH (jN ?_)
  refine jv3 0 1 5 ?_
  refine jR (jm rfl (jb rfl rfl (Bin.add_i64 _ 1 jo) (ja rfl (jO ?_))))
  obtain rfl : k = 8 := jo
  refine jN ⟨i + 1, (js3 (by rw [hsn, hu]; rfl) rfl rfl), ?_, ?_⟩
  · exact ⟨jo, rfl⟩
  exact jq
 refine jX ?_
 refine qZ (qZ (qN ?_))
 refine jN (jv1 0 ?_)
 refine jS (jR (jm rfl (ja rfl (jO (jN (jv1 4 ?_))))))
 refine jT ?_
 refine qS rfl ?_
 obtain rfl : i = n := jo
 rw [zh jo]
 exact ⟨rfl, rfl⟩
theorem nG (A : Option Addr) (c n : Nat) (bs : List Nat) (w : World) (hn : bs.length = n) (hl : n ≤ 1000000000) (hB : ∀ b ∈ bs, b < 256) (hr : Rd w 1 A n (NB bs)) :
  Calls Tryz.prog 61 #[.slice A n c] w fun e w' => e = .returned (.int .u32 ((crcM bs : Nat) : Int)) ∧ w = w' := by
 have hgl := rF bs (w := 4294967295) jo hB
 refine jV Tryz.func61 Tryz.ntmps61 Tryz.results61 ?_
 refine jS (jR ?_)
 refine jy .u32 0 ?_
 refine jO (jN (jv1 0 ?_))
 refine jS (jR (jM ?_))
 refine jc0 (jE2 Tryz.call119) (qGb A c n bs w hn hl hB hr) ?_
 refine jb rfl rfl (Bin.sub_u32 4294967295 _ jo jo) (ja rfl (jO (jN (jv1 2 ?_))))
 refine jT ?_
 refine qS rfl ?_
 exact ⟨rfl, rfl⟩
theorem qGc {v b k : Nat} (hv : v < 2 ^ k) : v ||| (b * 2 ^ k) = v + 2 ^ k * b := by
 rw [Nat.or_comm, zff b, zgp, ← Nat.two_pow_add_eq_or_of_lt hv]
theorem qWb (a : List Nat) (b : Nat) : cT (a ++ [b]) = cT a + 256 ^ a.length * b := by rw [vS]; simp [cT]
theorem qWc (i : Nat) : (256 : Nat) ^ i = 2 ^ (8 * i) := by rw [show (256 : Nat) = 2 ^ 8 from rfl, ← Nat.pow_mul]
def nA (bs : List Nat) (a n : Nat) : Nat := cT ((bs.drop a).take n)
theorem qK6 (bs : List Nat) (a i : Nat) (h : a + i < bs.length) : nA bs a (i + 1) = nA bs a i + 2 ^ (8 * i) * bs.getD (a + i) 0 := by
 have e : (bs.drop a).take (i + 1) = (bs.drop a).take i ++ [bs.getD (a + i) 0] := by
  rw [mR (L := bs.drop a) (by rw [zq]; omega)]
  congr 2
  rw [zb, zdp, ← zb]
 unfold nA
 rw [e, qWb, zk, zq, zbh jo, qWc]
theorem qXu (bs : List Nat) (hB : ∀ b ∈ bs, b < 256) (a i : Nat) : nA bs a i < 2 ^ (8 * i) := by
 have h := rE ((bs.drop a).take i) (fun b hb => hB b (zau (zo hb)))
 have h2 : ((bs.drop a).take i).length ≤ i := by rw [zk]; omega
 unfold nA
 rw [← qWc]
 exact zas h (zcg jo h2)
theorem sD (v n : Nat) (w : World) (hn1 : 1 ≤ n) (hn8 : n ≤ 8) (hv : v < 256 ^ n) :
  Calls Tryz.prog 155 #[jI2 v, jI1 n] w fun e w' => ∃ B d, e = .returned (.tuple #[.slice B n d, jI1 0]) ∧ Own w' 5 1 B n d (NB (qC v n)) ∧ Frm [] w w' ∧ ∀ x ∈ ob B, w.heap.size ≤ x := by
 have hv64 : v < 18446744073709551616 := zas hv (by
  have : (256 : Nat) ^ n ≤ 256 ^ 8 := zcg jo hn8
  exact this)
 refine jV Tryz.func155 Tryz.ntmps155 Tryz.results155 ?_
 refine jS (jR (ja rfl (jz 0 (jO (jN (jv2 0 1 ?_))))))
 refine jS (jS ?_)
 refine VC.split1 [(0, _), (1, _)] (js2 rfl rfl) 12 (.bool (decide (n < 1 ∨ 8 < n))) ?_ ?_
 ·
  refine jR ?_
  refine jm rfl (jb rfl rfl (Bin.lssN _ 1) ?_)
  by_cases hs8 : n < 1
  ·
   refine jM ?_
   refine jU ?_
   refine jU ?_
   refine jW rfl rfl au (jO ?_)
   refine jN ⟨(js3 (jC (by first | (simp [*]; done) | (simp; omega))) rfl rfl), rfl⟩
  refine jM ?_
  refine jG ?_
  refine jk (Run.bin rfl rfl (Bin.gtrN _ 8)) ?_
  by_cases hs11 : 8 < n
  ·
   refine jF rfl rfl au (jO ?_)
   refine jN ⟨(js3 (jC (by first | (simp [*]; done) | (simp; omega))) rfl rfl), rfl⟩
  refine jF rfl rfl au (jO ?_)
  refine jN ⟨(js3 (jC (by first | (simp [*]; done) | (simp; omega))) rfl rfl), rfl⟩
 intro Γ hΓ
 refine jN (VC.sub _ hΓ ?_)
 refine VC.condF rfl jdf ?_
 refine jQ (jN (jv2 0 1 ?_))
 refine jS (jR (jM ?_))
 refine Ops.m (qV.make0 rfl rfl zg (eY) jo jo) rfl ?_
 rintro _ w1 ⟨rfl, ho1, hf1, hs1⟩
 refine ja rfl (jO (jN (jv3 0 1 6 ?_)))
 refine jS (jS (jR (jM ?_)))
 refine jx .i64 0 ?_
 refine jO (jN (jv4 0 6 15 16 ?_))
 refine jB ?_
 refine VC.loop (σ := Nat × Option Addr × Nat) (fun s => [(0, jI2 (v / 256 ^ s.1)), (6, .slice s.2.1 s.1 s.2.2), (15, jI1 n), (16, jI1 s.1)]) (fun s wr => s.1 ≤ n ∧ Own wr 5 1 s.2.1 s.1 s.2.2 (NB (qC v s.1)) ∧ Frm [] w wr ∧ ∀ x ∈ ob s.2.1, w.heap.size ≤ x) (fun s => n - s.1) (0, _, n) (js4 (by rw [Nat.pow_zero, Nat.div_one]; rfl) rfl rfl rfl) ⟨jo, ho1, hf1, by simp [ob]⟩ ?_
 rintro ⟨i, B, d⟩ wr ⟨hi, ho, K, hu⟩
 dsimp only at hi ho hu ⊢
 have hvl : v / 256 ^ i ≤ v := zgh _ _
 refine jS (jR (jb rfl rfl (Bin.lssN _ _) (jO (jN (jS ?_)))))
 refine jD rfl (fun hc2 => ?_) fun hc2 => ?_
 ·
  refine jQ (jN (jv4 0 6 15 16 ?_))
  refine jS (jB (jS (jR (jm rfl (jm rfl (je (Run.conv8 _ rfl zr zac) ?_))))))
  refine Ops.m (qV.buildS1 rfl zg zam pM jd jd rfl rfl) rfl ?_
  rintro _ w2 ⟨rfl, hF2⟩
  have ho2 := ho.frm hF2.frm jp
  have hrd2 : Rd w2 1 (some ⟨_, 0, none⟩) 1 (NB [v / 256 ^ i % 256]) := Rd.of_blk (n := 1) (size := 1) hF2.blk rfl
  refine Ops.m (qV.app rfl rfl zg (eY) rfl jd ho2 hrd2 (eZ _) jo jo) rfl ?_
  rintro _ w3 ⟨B3, d3, rfl, ho3, hf3, hob3⟩
  rw [← dM, ← tT] at ho3
  have K3 := (K.trans hF2.frm jp).own hf3 hu
  have hu3 := qMn hu hob3 (by have := K.size; have := hF2.size; omega)
  refine ja rfl (jO (jN (jv4 0 6 15 16 ?_)))
  refine jR (jm rfl (jb rfl rfl (Bin.shr_u64 _ 8 jo) ?_))
  rw [zfq, show (256 : Nat) ^ i * 2 ^ 8 = 256 ^ (i + 1) from (Nat.pow_succ ..).symm]
  refine ja rfl (jO ?_)
  refine qH (jN ?_)
  refine jv4 0 6 15 16 ?_
  refine jR (jb rfl rfl (Bin.add_i64 _ 1 jo) (jm rfl (jO ?_)))
  refine jN ⟨(i + 1, B3, d3), (js4 rfl rfl rfl rfl), ?_, ?_⟩
  · exact ⟨jo, ho3, K3, hu3⟩
  exact jq
 refine jX ?_
 refine qZ (qZ (qN ?_))
 refine jN (jv2 0 6 ?_)
 refine jS (jS (jR (jm rfl (jb rfl rfl (Bin.neqN _ 0) (jO (jN (jv2 6 27 ?_)))))))
 refine VC.condF rfl (decide_eq_false (by rw [show i = n by omega, zgs hv]; simp)) ?_
 refine jQ (jN (jv1 6 ?_))
 refine jS (jR (jm rfl (ja rfl (jz 0 (jO (jN (jv2 4 5 ?_)))))))
 refine jT ?_
 refine bX rfl rfl ?_
 obtain rfl : i = n := jo
 exact ⟨B, d, rfl, ho, K, hu⟩
def oU (L a n : Nat) : Nat := if L < a then 4 else if L - a < n then 2 else 0
def bC (bs : List Nat) (a n : Nat) : Nat := if oU bs.length a n = 0 then nA bs a n else 0
theorem qMw {b i : Nat} (hb : b < 256) (hi : i < 8) : b * 2 ^ (8 * i) ≤ 18446744073709551615 := by
 have h1 : 2 ^ (8 * i) ≤ 2 ^ 56 := zcg jo jo
 have h2 : b * 2 ^ (8 * i) ≤ 255 * 2 ^ 56 := Nat.mul_le_mul jo h1
 omega
theorem qGd (bs : List Nat) (hB : ∀ b ∈ bs, b < 256) (a i : Nat) (hi : i ≤ 8) : nA bs a i < 18446744073709551616 := by
 have h1 : 2 ^ (8 * i) ≤ 2 ^ 64 := zcg jo jo
 exact zas (qXu bs hB a i) h1
theorem lY (A : Option Addr) (c L a n : Nat) (bs : List Nat) (w : World) (hL : bs.length = L) (hl : L ≤ 1000000000) (ha : a ≤ 1000000000) (hn1 : 1 ≤ n) (hn8 : n ≤ 8) (hB : ∀ b ∈ bs, b < 256) (hr : Rd w 1 A L (NB bs)) :
  Calls Tryz.prog 147 #[.slice A L c, jI1 a, jI1 n] w fun e w' => e = .returned (.tuple #[jI2 (bC bs a n), jI1 (oU L a n)]) ∧ w = w' := by
 refine jV Tryz.func147 Tryz.ntmps147 Tryz.results147 ?_
 refine jS (jR ?_)
 refine jy .u64 0 ?_
 refine jz 0 (jO (jN (jv3 0 1 2 ?_)))
 refine jS (jB (jS ?_))
 refine VC.split1 [(0, _), (1, _), (2, _)] (js3 rfl rfl rfl) 10 (.bool (decide (n < 1 ∨ 8 < n))) ?_ ?_
 ·
  refine jR ?_
  refine jm rfl (jb rfl rfl (Bin.lssN _ 1) ?_)
  by_cases hs12 : n < 1
  ·
   refine jM ?_
   refine jU ?_
   refine jU ?_
   refine jW rfl rfl au (ja rfl (jO ?_))
   refine jN ⟨(js4 (jC (by first | (simp [*]; done) | (simp; omega))) rfl rfl rfl), rfl⟩
  refine jM ?_
  refine jG ?_
  refine jk (Run.bin rfl rfl (Bin.gtrN _ 8)) ?_
  by_cases hs15 : 8 < n
  ·
   refine jF rfl rfl au (ja rfl (jO ?_))
   refine jN ⟨(js4 (jC (by first | (simp [*]; done) | (simp; omega))) rfl rfl rfl), rfl⟩
  refine jF rfl rfl au (ja rfl (jO ?_))
  refine jN ⟨(js4 (jC (by first | (simp [*]; done) | (simp; omega))) rfl rfl rfl), rfl⟩
 intro Γ hΓ
 refine jN (VC.sub _ hΓ ?_)
 refine VC.condF rfl jdf ?_
 refine jS ?_
 refine VC.split1 [(0, _), (1, _), (2, _)] (js3 rfl rfl rfl) 17 (.bool (decide (a < 0 ∨ L < a))) ?_ ?_
 ·
  refine jR ?_
  refine jm rfl (jb rfl rfl (Bin.lssN _ 0) ?_)
  by_cases hs19 : a < 0
  ·
   refine jM ?_
   refine jU ?_
   refine jU ?_
   refine jU ?_
   refine jU ?_
   refine jW rfl rfl au (ja rfl (jO ?_))
   refine jN ⟨(js4 (jC (by first | (simp [*]; done) | (simp; omega))) rfl rfl rfl), rfl⟩
  refine jM ?_
  refine jG ?_
  refine jG ?_
  refine jk (Run.lenS rfl zg) ?_
  refine jk (Run.bin rfl rfl (Bin.gtrN _ _)) ?_
  by_cases hs24 : L < a
  ·
   refine jF rfl rfl au (ja rfl (jO ?_))
   refine jN ⟨(js4 (jC (by first | (simp [*]; done) | (simp; omega))) rfl rfl rfl), rfl⟩
  refine jF rfl rfl au (ja rfl (jO ?_))
  refine jN ⟨(js4 (jC (by first | (simp [*]; done) | (simp; omega))) rfl rfl rfl), rfl⟩
 intro Γ hΓ
 refine jN (VC.sub _ hΓ ?_)
 refine jD rfl (fun hc2 => ?_) fun hc2 => ?_
 ·
  refine jS (jR ?_)
  refine jy .u64 0 ?_
  refine jz 4 (jO (jN (jv2 6 7 ?_)))
  refine jT ?_
  refine qR (qQ (bX rfl rfl ?_))
  have e1 : oU L a n = 4 := by unfold oU; rw [if_pos jo]
  have e2 : bC bs a n = 0 := by unfold bC; rw [hL, e1, if_neg jd]
  rw [e1, e2]
  exact ⟨rfl, rfl⟩
 refine jS (jR (jm rfl (jL rfl zg (jm rfl (jb rfl rfl (Bin.sub_i64 _ _ jo jo) (jm rfl (jb rfl rfl (Bin.lssN _ _) (ja rfl (jO (jN (jv4 0 1 2 26 ?_)))))))))))
 refine jD rfl (fun hc3 => ?_) fun hc3 => ?_
 ·
  refine jS (jR ?_)
  refine jy .u64 0 ?_
  refine jz 2 (jO (jN (jv2 6 7 ?_)))
  refine jT ?_
  refine qR (qQ (bX rfl rfl ?_))
  have e1 : oU L a n = 2 := by unfold oU; rw [if_neg jo, if_pos hc3]
  have e2 : bC bs a n = 0 := by unfold bC; rw [hL, e1, if_neg jd]
  rw [e1, e2]
  exact ⟨rfl, rfl⟩
 refine jQ ?_
 refine qH (jN ?_)
 refine jv3 0 1 2 ?_
 refine jS (jR ?_)
 refine jy .u64 0 ?_
 refine jO (jN (jS (jS (jR (jM ?_)))))
 refine jx .i64 0 ?_
 refine jO (jN (jv5 0 1 8 33 34 ?_))
 refine jB ?_
 refine VC.loop (σ := Nat) (fun s => [(0, .slice A L c), (1, jI1 a), (8, jI2 (nA bs a s)), (33, jI1 n), (34, jI1 s)]) (fun s wr => s ≤ n ∧ w = wr) (fun s => n - s) 0 (js5 rfl rfl rfl rfl rfl) ⟨jo, rfl⟩ ?_
 rintro i _ ⟨hi, rfl⟩
 have hlt := qXu bs hB a i
 have h64 := qGd bs hB a i jo
 refine jS (jR (jb rfl rfl (Bin.lssN _ _) (jO (jN (jS ?_)))))
 refine jD rfl (fun hc4 => ?_) fun hc4 => ?_
 ·
  obtain ⟨ad, rfl, hcell⟩ := gF hr hL (jo : a + i < L)
  have hsn := qK6 bs a i jo
  have hb8 := kL hB (a + i)
  generalize bs.getD (a + i) 0 = b at hcell hsn hb8
  have hsh := qMw hb8 (jo : i < 8)
  refine jQ (jN (jv5 0 1 8 33 34 ?_))
  refine jS (jB (jS (jR (jm rfl (ja rfl (jO (jN (jv6 0 1 8 9 33 34 ?_))))))))
  refine jR (jm rfl (jm rfl (jm rfl (jm rfl (jb rfl rfl (Bin.add_i64 _ _ jo) (je (Run.index1 _ rfl rfl zg zam jo) (jl rfl zdk hcell (je (Run.convN _ rfl zac zr (by simp only [bmax]; omega)) ?_))))))))
  refine jm rfl (jb rfl rfl (Bin.mul_i64 8 _ jo) (jb rfl rfl (Bin.shl_u64 _ _ jo hsh) (jb rfl rfl (Bin.or_u64 _ _ jo jo) ?_)))
  rw [qGc hlt, ← hsn]
  refine ja rfl (jO ?_)
  refine qH (jN ?_)
  refine jv5 0 1 8 33 34 ?_
  refine jR (jb rfl rfl (Bin.add_i64 _ 1 jo) (jm rfl (jO ?_)))
  refine jN ⟨i + 1, (js5 rfl rfl rfl rfl rfl), ?_, ?_⟩
  · exact ⟨jo, rfl⟩
  exact jq
 refine jX ?_
 refine qZ (qZ (qN ?_))
 refine jN (jv1 8 ?_)
 refine jS (jR (jm rfl (ja rfl (jz 0 (jO (jN (jv2 6 7 ?_)))))))
 refine jT ?_
 refine bX rfl rfl ?_
 obtain rfl : i = n := jo
 have e1 : oU L a i = 0 := by unfold oU; rw [if_neg jo, if_neg hc3]
 have e2 : bC bs a i = nA bs a i := by unfold bC; rw [hL, e1, if_pos rfl]
 rw [e1, e2]
 exact ⟨rfl, rfl⟩
theorem qZ9 (A : Option Addr) (c n : Nat) (bs : List Nat) (w : World) (hn : bs.length = n) (hl : n ≤ 1000000000) (hr : Rd w 1 A n (NB bs)) :
  Calls Tryz.prog 154 #[.slice A n c] w fun e w' => ∃ B d, e = .returned (.slice B n d) ∧ Own w' 5 1 B n d (NB bs) ∧ Frm [] w w' ∧ ∀ x ∈ ob B, w.heap.size ≤ x := by
 refine jV Tryz.func154 Tryz.ntmps154 Tryz.results154 ?_
 refine jS (jR (ja rfl (jO (jN (jv1 0 ?_)))))
 refine jS (jS (jR (jm rfl (je (Run.eqNilS rfl rfl zg) (jO (jN (jv2 0 4 ?_)))))))
 refine VC.condB rfl (fun hc1 => ?_) (fun hc1 => ?_)
 ·
  refine jS (jR (ja rfl (jO (jN (jv1 2 ?_)))))
  refine jT ?_
  refine qQ (qS rfl ?_)
  obtain rfl : A = none := by cases A with | none => rfl | some a => cases hc1
  have hn0 : n = 0 := by
   rcases zem n with h | h
   · exact h
   obtain ⟨_, h1, _⟩ := hr.2 h; cases h1
  subst hn0
  obtain rfl : bs = [] := zca hn
  exact ⟨none, 0, rfl, Own.nil _ _ _, Frm.refl _ _, by simp [ob]⟩
 refine jQ (jN (jv1 0 ?_))
 refine jS (jR ?_)
 refine Ops.m (qV.buildS0 zg zam) rfl ?_
 rintro _ w1 ⟨rfl, hF1⟩
 have ho1 : Own w1 5 1 (some ⟨w.heap.size, 0, none⟩) 0 0 (NB []) := Own.of_blk hF1.blk rfl (by simp [maxLen])
 refine jM ?_
 refine Ops.m (qV.app rfl rfl zg (eY) rfl jd ho1 (hr.frm hF1.frm jp) (eZ _) jo jo) rfl ?_
 rintro _ w2 ⟨B, d, rfl, ho2, hf2, hob⟩
 rw [zch] at ho2
 rw [zch]
 have hs1 := hF1.size
 refine ja rfl (jO (jN (jv1 2 ?_)))
 refine jT ?_
 refine qS rfl ?_
 refine ⟨B, d, rfl, ho2, hF1.frm.own hf2 (by simp [ob]), fun x hx => ?_⟩
 rcases hob with h | h
 · rw [h] at hx; simp [ob] at hx; omega
 rw [h, za] at hx; omega
theorem dP (A : Option Addr) (cap sz : Nat) : dS A cap 0 sz = A := by
 unfold dS
 split
 · rfl
 cases A with
 | none => rfl
 | some a => simp [Addr.add]
section
variable {P : Program} {w : World} {Γ : Env} {dst : Option Tmp} {T : TypeId} {pos : String} {after : Array Edge} {gd : Option (Nat × Bool)}
theorem qV.ext1 {f : FuncId} {x : Operand} {a : Value} {ts : Array TypeId} {R : Value → World → Prop} (hx : ev? Γ x = some a) (h : ∃ v w', (callFunc f #[a]).run P w = .ok (.value v) w' ∧ R v w') :
  qV P ⟨dst, .call ⟨.value (.func f), #[x], ts⟩, T, pos, after, gd⟩ Γ w R := fun ρ hρ => by
 obtain ⟨v, w', h1, h2⟩ := h
 have e2 : ρ (.func f) = .func (.func f) #[] #[] := hρ _ _ rfl
 exact ⟨v, w', by simp [execOp, resolve, e2, Deferred.ofValue, invoke, hρ _ _ hx, h1], h2⟩
end
theorem Run.buildArr {P : Program} {Γ : Env} {w : World} {dst : Option Tmp} {T : TypeId} {pos : String} {after : Array Edge} {g : Option (Nat × Bool)} {t e : TypeId} {n size : Nat} {parts : List (Nat × Operand)} {vs : List Value} {z cells : Array Value} (hv : evs Γ (parts.map (·.2)) vs) (hz : ∀ w, (zeroValue t).run P w = .ok (.agg z) w)
  (ht : P.underlying t = some (.array n e)) (hs : ∀ w, (sizeOf e).run P w = .ok size w) (hf : Instr.fill (fun i => some (i * size, size)) z ((parts.map (·.1)).zip vs) = some cells) :
  Run P ⟨dst, .build t parts.toArray, T, pos, after, g⟩ Γ w (.agg cells) := fun ρ hρ => by
 have e1 := gV hρ _ _ hv
 have e2 : parts.map (fun p => (p.1, ρ p.2)) = (parts.map (·.1)).zip vs := by
  rw [← e1, zeh, List.zip_map']
  rfl
 simp only [execOp, Instr.build, Sem.run_bind, hz, Result.andThen_ok, Value.cells, run_underlying ht, hs, zgt, e2, hf, Sem.run_pure]
theorem qJa (n : Nat) (w : World) (hn : n ≤ 1000000000) : ∃ v w', (callFunc 159 #[jI1 n]).run Tryz.prog w = .ok (.value v) w' ∧
  ∃ c xs, v = .slice (some ⟨w.heap.size, 0, none⟩) n c ∧ Own w' 5 1 (some ⟨w.heap.size, 0, none⟩) n c xs ∧ xs.length = n ∧ Frm [] w w' ∧ w'.heap.size = w.heap.size + 1 := by
 obtain ⟨cs, h1, h2, h3⟩ := Lib.run_makeNoZero (P := Tryz.prog) w #[3] 63 5 zg n jo
 have h4 := h3 (by simp only [maxLen]; omega)
 have hb : Blk (w.drew.drew.alloc (.cells cs 5)) w.heap.size 5 cs := Blk.new w.drew.drew _ _
 have ho : Own (w.drew.drew.alloc (.cells cs 5)) 5 1 (some ⟨w.heap.size, 0, none⟩) cs.size cs.size cs.toList := Own.of_blk hb jp h4
 refine ⟨_, _, ?_, cs.size, _, rfl, ho.short h2, by simp; omega, ((Frm.refl [] w).drew.drew).alloc _, jp⟩
 rw [run_callFunc_extern Tryz.func159 jK jK jK (e := Extern.BytealgMakeNoZero.makeNoZero #[3] #[63]) jK, h1]
 rfl
theorem qK7 {w : World} {A : Option Addr} {l : List (Option Addr × Nat × List Nat)} {n : Nat} (h : Rd w 1 A n (l.map SL)) (hn : l.length = n) {k : Nat} (hk : k < n) : ∃ ad, A = some ad ∧ w.cell? (ad.add k) = some (SL (l.getD k (none, 0, []))) := by
 obtain ⟨ad, h1, _, hc⟩ := h.2 jo
 exact ⟨ad, h1, hc k _ (by rw [zbr, ze jo, zb, ze jo]; rfl)⟩
theorem nH {l : List (Option Addr × Nat × List Nat)} {i : Nat} (h : i < l.length) : l.getD i (none, 0, []) ∈ l := by
 rw [zb, ze h]
 exact zbp h
theorem qK8 {l : List (Option Addr × Nat × List Nat)} {i : Nat} (h : i < l.length) : l.take (i + 1) = l.take i ++ [l.getD i (none, 0, [])] := by
 rw [zcq, ze h, zb, ze h]
 rfl
def cZ (l : List (Option Addr × Nat × List Nat)) : List Nat := l.flatMap (·.2.2)
theorem sE {l : List (Option Addr × Nat × List Nat)} {i : Nat} (h : i < l.length) : cZ (l.take (i + 1)) = cZ (l.take i) ++ (l.getD i (none, 0, [])).2.2 := by
 rw [qK8 h, cZ, zan]
 simp [cZ]
theorem oB (l : List (Option Addr × Nat × List Nat)) (i : Nat) : (cZ (l.take i)).length ≤ (cZ l).length := by
 have : cZ l = cZ (l.take i) ++ cZ (l.drop i) := by rw [cZ, cZ, cZ, ← zan, zbq]
 rw [this, zf]; omega
theorem lG (n : Nat) : (List.replicate n (Value.int .u8 0).cells.toList).flatten = List.replicate n (Value.int .u8 ((0 : Nat) : Int)) := by
 induction n with
 | zero => rfl
 | succ n ih => rw [List.replicate_succ, List.flatten_cons, ih]; rfl
theorem tA (A : Option Addr) (c L n : Nat) (bs : List Nat) (w : World) (hL : bs.length = L) (hl : L ≤ 1000000000) (hn : n ≤ 1048576) (hr : Rd w 1 A L (NB bs)) :
  Calls Tryz.prog 146 #[.slice A L c, jI1 n] w fun e w' => ∃ B d, e = .returned (.tuple #[.slice B (eS bs n).length d, jI1 (if n < L then 5 else 0)]) ∧ Own w' 5 1 B (eS bs n).length d (NB (eS bs n)) ∧ Frm [] w w' ∧ ∀ x ∈ ob B, w.heap.size ≤ x := by
 refine jV Tryz.func146 Tryz.ntmps146 Tryz.results146 ?_
 refine jS (jR (ja rfl (jz 0 (jO (jN (jv2 0 1 ?_))))))
 refine jS (jB (jS ?_))
 refine VC.split1 [(0, _), (1, _)] (js2 rfl rfl) 7 (.bool (decide (False))) ?_ ?_
 ·
  refine jR ?_
  refine jm rfl (jb rfl rfl (Bin.lssN _ 0) ?_)
  by_cases hs9 : n < 0
  ·
   refine jM ?_
   refine jU ?_
   refine jU ?_
   refine jW rfl rfl au (ja rfl (jO ?_))
   refine jN ⟨(js3 (jC (by simp; omega)) rfl rfl), rfl⟩
  refine jM ?_
  refine jG ?_
  refine jk (Run.bin rfl rfl (Bin.gtrN _ 1048576)) ?_
  by_cases hs12 : 1048576 < n
  ·
   refine jF rfl rfl au (ja rfl (jO ?_))
   refine jN ⟨(js3 (jC (by simp; omega)) rfl rfl), rfl⟩
  refine jF rfl rfl au (ja rfl (jO ?_))
  refine jN ⟨(js3 (jC (by simp; omega)) rfl rfl), rfl⟩
 intro Γ hΓ
 refine jN (VC.sub _ hΓ ?_)
 refine VC.condF rfl jp ?_
 refine jS (jR (jm rfl (jL rfl zg (jm rfl (jb rfl rfl (Bin.gtrN _ _) (ja rfl (jO (jN (jv3 0 1 14 ?_)))))))))
 refine jD rfl (fun hc2 => ?_) fun hc2 => ?_
 ·
  rw [show eS bs n = [] by rw [eS, if_pos jo], if_pos hc2]
  refine jS (jR (ja rfl (jz 5 (jO (jN (jv2 4 5 ?_))))))
  refine jT ?_
  refine qR (qQ (bX rfl rfl ?_))
  exact ⟨none, 0, rfl, Own.nil _ _ _, Frm.refl _ _, by simp [ob]⟩
 have hlen := oT (jo : bs.length ≤ n)
 rw [if_neg hc2]
 rw [hlen]
 refine jQ ?_
 refine qH (jN ?_)
 refine jv2 0 1 ?_
 refine jS (jR (jM ?_))
 refine Ops.m (qV.makeS rfl rfl zg (eY) rfl jo jo) rfl ?_
 rintro _ w1 ⟨rfl, ho1, hf1, hs1⟩
 have ez : (List.replicate n (Value.int .u8 0).cells.toList).flatten = NB (noM n) := by
  rw [NB, noM, zdr]
  exact lG n
 rw [ez] at ho1
 refine ja rfl (jO (jN (jv2 0 6 ?_)))
 refine jS (jR (jm rfl (jM ?_)))
 refine Ops.m (qV.copyOwn (g := w.heap.size) (o := 0) rfl rfl zg zam ho1 L (hr.frm hf1 jp) (zbh jo) (by rw [gK, gK]; simp [noM]; omega) (eZ _)) rfl ?_
 rintro _ w2 ⟨rfl, ho2, hf2, hs2⟩
 have e2 : (NB (noM n)).take 0 ++ NB bs ++ (NB (noM n)).drop (0 + (NB bs).length) = NB (eS bs n) := by
  rw [zcs, zbu, zch, gK, eS, if_neg jo, dM]
  congr 1
  rw [NB, NB, ← List.map_drop, noM, List.drop_replicate, noM]
 rw [e2] at ho2
 refine jO (jN (jv1 6 ?_))
 refine jS (jR (jm rfl (ja rfl (jz 0 (jO (jN (jv2 4 5 ?_)))))))
 refine jT ?_
 refine bX rfl rfl ?_
 exact ⟨_, _, rfl, ho2, hf1.own hf2 jp, by simp [ob]⟩
theorem qJb (A : Option Addr) (c n sm : Nat) (bs : List Nat) (w : World) (hn : bs.length = n) (hl : n ≤ 1000000000) (hs32 : sm < 4294967296) (hB : ∀ b ∈ bs, b < 256) (hr : Rd w 1 A n (NB bs)) :
  Calls Tryz.prog 123 #[.int .u32 ((sm : Nat) : Int), .slice A n c] w fun e w' => e = .returned (.int .u32 ((moreM sm bs : Nat) : Int)) ∧ Frm [] w w' := by
 refine jV Tryz.func123 Tryz.ntmps123 Tryz.results123 ?_
 refine jS (jR ?_)
 refine jy .u32 0 ?_
 refine jO (jN (jv2 0 1 ?_))
 refine jS (jR ?_)
 refine jc (jE0 Tryz.call150) (vB w) ?_
 rintro e w1 ⟨rfl, K⟩
 refine ⟨_, rfl, ?_⟩
 refine Ops.m (qV.alloc xF) rfl ?_
 rintro _ w2 ⟨rfl, hF2⟩
 have hb2 := hF2.blk
 have hg5 := K.size
 have K := K.trans hF2.frm jp
 generalize w1.heap.size = g5 at hb2 hg5 ⊢
 refine Ops.st (qT.storeA rfl rfl (fun w => by simp only [zbg, WB, zae, fT]; exact zhm w) hb2 (by show (WB (gI 256)).toArray.size = (WB (gI 0)).toArray.size; simp only [zbg, WB, zae, fT]) (by simpa using qXs _)) ?_
 rintro w3 ⟨hb3, hf3, hs3⟩
 have K := K.own hf3 (by simp; omega)
 refine jO (jN (jv3 0 1 5 ?_))
 refine jS (jR (jm rfl (je (Run.compl32 _ rfl jo) (ja rfl (jO (jN (jv3 1 5 6 ?_)))))))
 refine jS (jS (jR (jm rfl (jL rfl zg ?_))))
 refine jx .i64 0 ?_
 refine jO (jN (jv5 5 6 12 13 14 ?_))
 refine jB ?_
 refine VC.loop (σ := Nat) (fun s => [(5, jI0 g5), (6, .int .u32 ((goM (4294967295 - sm) (bs.take s) : Nat) : Int)), (12, .slice A n c), (13, jI1 n), (14, jI1 s)]) (fun s wr => s ≤ n ∧ w3 = wr) (fun s => n - s) 0 (js5 rfl rfl rfl rfl rfl) ⟨jo, rfl⟩ ?_
 rintro i _ ⟨hi, rfl⟩
 have hgl := rF (bs.take i) (w := 4294967295 - sm) jo (fun b hb => hB b (zo hb))
 refine jS (jR (jb rfl rfl (Bin.lssN _ _) (jO (jN (jS ?_)))))
 refine jD rfl (fun hc1 => ?_) fun hc1 => ?_
 ·
  obtain ⟨ad, rfl, hcell⟩ := gF (hr.frm K jp) hn hc1
  have hs := mR (jo : i < bs.length)
  have hsn := wS (4294967295 - sm) (bs.take i) (bs.getD i 0)
  rw [← hs] at hsn
  have hb8 := kL hB i
  generalize bs.getD i 0 = b at hcell hsn hb8
  generalize goM (4294967295 - sm) (bs.take i) = v at hgl hsn ⊢
  have hbt := qXk v b
  have hx8 : v % 256 ^^^ b < 256 := zgj (n := 8) jo hb8
  have hx32 := mS 8 (jo : v % 256 ^^^ b < 4294967296)
  refine jQ (jN (jv5 5 6 12 13 14 ?_))
  refine jS (jB (jS (jR (je (Run.index1 _ rfl rfl zg zam jo) (jl rfl zdk hcell (ja rfl (jO (jN (jv6 5 6 8 12 13 14 ?_)))))))))
  refine jR (jm rfl (je (Run.conv8 _ rfl zby zac) (jm rfl (jb rfl rfl (Bin.xor_u8 _ _ jo jo) (je (Run.indexA1 _ rfl rfl Tryz.underlying226 zgb jo) ?_)))))
  refine jl rfl Tryz.isAgg109 ((hb3.cell _).trans (by rw [zch, List.getElem?_toArray, qWa _ _ (by rw [fT]; exact hx8), qXt hx8])) ?_
  refine jm rfl (jb rfl rfl (Bin.shr_u32 _ 8 jo) (jb rfl rfl (Bin.xor_u32 _ _ jo jo) ?_))
  rw [show (2 : Nat) ^ 8 = 256 from rfl, hbt, ← hsn]
  refine ja rfl (jO ?_)
  refine qH (jN ?_)
  refine jv5 5 6 12 13 14 ?_
  refine jR (jb rfl rfl (Bin.add_i64 _ 1 jo) (jm rfl (jO ?_)))
  refine jN ⟨i + 1, (js5 rfl rfl rfl rfl rfl), ?_, ?_⟩
  · exact ⟨jo, rfl⟩
  exact jq
 refine jX ?_
 refine qZ (qZ (qN ?_))
 refine jN (jv1 6 ?_)
 refine jS (jR (jm rfl (je (Run.compl32 _ rfl jo) (ja rfl (jO (jN (jv1 4 ?_)))))))
 refine jT ?_
 refine qS rfl ?_
 obtain rfl : i = n := jo
 rw [zh jo]
 exact ⟨rfl, K⟩
theorem qK9 (s : Nat) (w : World) (hs : s < 4294967296) : Calls Tryz.prog 158 #[.int .u32 ((s : Nat) : Int)] w fun e w' => e = .returned (.agg (NB (qC s 4)).toArray) ∧ Frm [] w w' := by
 have e4 : NB (qC s 4) = [.int .u8 ((s % 256 : Nat) : Int), .int .u8 ((s / 2 ^ 8 % 256 : Nat) : Int), .int .u8 ((s / 2 ^ 16 % 256 : Nat) : Int), .int .u8 ((s / 2 ^ 24 % 256 : Nat) : Int)] := by
  simp only [qC, NB, zbo, zge, zfq]
 rw [e4]
 refine jV Tryz.func158 Tryz.ntmps158 Tryz.results158 ?_
 refine jS (jR ?_)
 refine Ops.m (qV.alloc yC) rfl ?_
 rintro _ w1 ⟨rfl, hF1⟩
 refine jO (jN (jS (jR (jm rfl (je (Run.conv8 _ rfl zby zac) (jm rfl (jb rfl rfl (Bin.shr_u32 _ 8 jo) (je (Run.conv8 _ rfl zby zac) (jm rfl (jb rfl rfl (Bin.shr_u32 _ 16 jo) (je (Run.conv8 _ rfl zby zac) ?_)))))))))))
 refine jm rfl (jb rfl rfl (Bin.shr_u32 _ 24 jo) (je (Run.conv8 _ rfl zby zac) (je (Run.buildArr (cells := #[.int .u8 ((s % 256 : Nat) : Int), .int .u8 ((s / 2 ^ 8 % 256 : Nat) : Int), .int .u8 ((s / 2 ^ 16 % 256 : Nat) : Int), .int .u8 ((s / 2 ^ 24 % 256 : Nat) : Int)]) (evs.cons rfl (evs.cons rfl (evs.cons rfl (evs.cons rfl evs.nil)))) yC Tryz.underlying231 zam rfl) ?_)))
 refine Ops.st (qT.storeA rfl rfl Tryz.sizeOf231 hF1.blk rfl (by intro v hv; simp at hv; rcases hv with rfl | rfl | rfl | rfl <;> rfl)) ?_
 rintro w2 ⟨hb2, hf2, hs2⟩
 refine jO (jN (jv1 2 ?_))
 refine jT ?_
 refine eO ?_
 refine zT rfl Tryz.isAgg231 Tryz.sizeOf231 (hb2) rfl ?_
 refine cY ?_
 exact ⟨rfl, hF1.frm.own hf2 jp⟩
theorem nI (A : Option Addr) (c n : Nat) (bs : List Nat) (w : World) (hn : bs.length = n) (hl : n ≤ 100000000) (hB : ∀ b ∈ bs, b < 256) (hr : Rd w 1 A n (NB bs)) :
  Calls Tryz.prog 143 #[.slice A n c] w fun e w' => ∃ B d, e = .returned (.slice B (n + 4) d) ∧ Own w' 5 1 B (n + 4) d (NB (fW bs)) ∧ Frm [] w w' ∧ ∀ x ∈ ob B, w.heap.size ≤ x := by
 refine jV Tryz.func143 Tryz.ntmps143 Tryz.results143 ?_
 refine jS (jR (ja rfl (jO (jN (jv1 0 ?_)))))
 refine jS (jR (jM ?_))
 refine jc (jE1 Tryz.call74) (tF A c n bs w hn jo hB hr) ?_
 rintro e w1 ⟨rfl, K⟩
 refine ⟨_, rfl, ?_⟩
 have h32 := kW bs
 refine jc (jE1 Tryz.call158) (qK9 _ _ h32) ?_
 rintro e w2 ⟨rfl, K2⟩
 refine ⟨_, rfl, ?_⟩
 have hl4 : (NB (qC (crcM bs) 4)).length = 4 := by rw [gK, numL_len]
 refine Ops.m (qV.alloc yC) rfl ?_
 rintro _ w3 ⟨rfl, hF3⟩
 refine Ops.st (qT.storeA rfl rfl (by rw [zbg, hl4]; exact Tryz.sizeOf231) hF3.blk (by rw [zbg, hl4]; rfl) (eZ _)) ?_
 rintro w4 ⟨hb4, hf4, hs4⟩
 have K2s := K2.size
 have Ks := K.size
 have K4 := (K.trans K2 jp).own (hF3.frm.own hf4 jp) jp
 generalize hg3 : w2.heap.size = g3 at *
 have hr4 : Rd w4 1 (some ⟨g3, 0, none⟩) 4 (NB (qC (crcM bs) 4)) := by
  have := Rd.of_blk (n := 4) (size := 1) hb4 (by simpa using hl4)
  exact this
 refine jO (jN (jv2 0 3 ?_))
 refine jS ?_
 refine VC.held (fun V => Frm [] w4 V) jK ?_
 have hS : Frm [] w4 w4.drew := (Frm.refl _ _).drew
 refine jh 0 hS ?_
 refine jH 2 rfl hS (fun w0 hw0 => Run.sliceA 0 _ rfl Tryz.underlying231 zam evB.none_ evB.none_ jo jo) ?_
 refine qJ.m 1 rfl jK (qV.app rfl rfl zg (eY) rfl jd (Own.nil _ _ _) ((hr.frm K4 jp).frm hS jp) (eZ _) jo jo) trivial rfl rfl ?_
 rintro _ w5 ⟨B5, d5, rfl, ho5, hf5, hob5⟩
 have hS := hS.trans hf5 (by simp [ob])
 refine ⟨hS, ?_⟩
 refine qJ.m 3 rfl jK (qV.app rfl rfl zg (eY) rfl jd ho5 (hr4.frm hS jp) (eZ _) jo jo) trivial rfl rfl ?_
 rintro _ w6 ⟨B6, d6, rfl, ho6, hf6, hob6⟩
 have hup5 : ∀ x ∈ ob B5, w4.heap.size ≤ x := fun x hx => by
  rcases hob5 with h | h
  · rw [h] at hx; simp [ob] at hx
  rw [h, za] at hx; subst hx; exact zag _
 have hS := hS.own hf6 hup5
 refine ⟨hS, ?_⟩
 refine jH 4 rfl hS (fun w0 hw0 => Run.asg rfl) ?_
 refine qJ.done jK ?_
 refine jN (jv1 2 ?_)
 refine jT ?_
 refine qS rfl ?_
 have e9 : NB bs ++ NB (qC (crcM bs) 4) = NB (fW bs) := by rw [fW, dM]
 have hk4 := K4.size
 have hk5 := hf5.size
 simp only [zbu, zch] at ho6 ⊢
 rw [e9] at ho6
 refine ⟨_, _, rfl, ho6, K4.trans hS jp, fun x hx => ?_⟩
 rcases hob6 with h | h
 · rw [h] at hx; exact zbd hk4 (hup5 x hx)
 rw [h, za] at hx; subst hx; exact zbd hk4 hk5
theorem Run.slice3z {P : Program} {Γ : Env} {w : World} {dst : Option Nat} {T : TypeId} {pos : String} {after : Array Edge} {g : Option (Nat × Bool)} {t e : TypeId} {x hi mx : Operand} {a : Option Addr} {len cap sz : Nat} {k' k'' : IntKind} (h m : Nat) (hx : ev? Γ x = some (.slice a len cap)) (ht : P.underlying t = some (.slice e)) (hz : ∀ w, (sizeOf e).run P w = .ok sz w)
  (hhi : ev? Γ hi = some (.int k' (h : Int))) (hmx : ev? Γ mx = some (.int k'' (m : Int))) (h2 : h ≤ m) (h3 : m ≤ cap) :
  Run P ⟨dst, .slice t x none (some hi) (some mx), T, pos, after, g⟩ Γ w (.slice a h m) := fun ρ hρ => by
 have hb : ∀ (k : IntKind) (r y : Nat) (code : BoundsCode), r ≤ y → (Instr.sliceBound (.int k (r : Int)) y code).run P w = .ok r w := by
  intro k r y code hry
  have := run_sliceBound (P := P) w k (r : Int) y code jo jo
  simpa using this
 have hbb : (Instr.sliceBounds true len cap none (some (.int k' (h : Int))) (some (.int k'' (m : Int)))).run P w = .ok (0, h, m) w := by
  unfold Instr.sliceBounds
  simp [hb _ _ _ _ h2, hb _ _ _ _ h3]
 have e0 := dP a m sz
 unfold dS at e0
 simp only [execOp, Instr.sliceAt, Instr.slice, Sem.run_bind, run_underlying ht, Result.andThen_ok, hρ _ _ hx, hρ _ _ hhi, hρ _ _ hmx, zdx, Option.map_none, hbb, hz, Sem.run_pure, zcc]
 rw [e0]
def wT (w : World) (e : TypeId) (A : Option Addr) (n c : Nat) (xs : List Value) : Prop := Own w e 1 A n c xs ∨ (c = n ∧ 0 < n ∧ Rd w 1 A n xs)
theorem wT.frm {w w' : World} {S : List Nat} {e n c : Nat} {A : Option Addr} {xs : List Value} (h : wT w e A n c xs) (k : Frm S w w') (hS : ∀ x ∈ ob A, x ∉ S) : wT w' e A n c xs := by
 rcases h with h | ⟨h1, h2, h3⟩
 · exact .inl (h.frm k hS)
 exact .inr ⟨h1, h2, h3.frm k (fun _ => hS)⟩
theorem wT.rd {w : World} {e n c : Nat} {A : Option Addr} {xs : List Value} (h : wT w e A n c xs) : Rd w 1 A n xs := by
 rcases h with h | ⟨h1, h2, h3⟩
 · exact h.rd
 exact h3
theorem qV.appG {P : Program} {Γ : Env} {w : World} {dst : Option Tmp} {T : TypeId} {pos : String} {after : Array Edge} {g : Option (Nat × Bool)} {t e : TypeId} {x y : Operand} {z : Value} {bytes n m cap c2 : Nat} {A B : Option Addr} {xs news : List Value} (hx : ev? Γ x = some (.slice A n cap)) (hy : ev? Γ y = some (.slice B m c2))
  (ht : P.underlying t = some (.slice e)) (hi : (P.info? e).map (fun i => (i.zero, i.size, i.bytes)) = some (some z, 1, bytes)) (hzs : z.cells.size = 1)
  (ho : wT w e A n cap xs) (hr : Rd w 1 B m news) (h1 : ∀ u ∈ news, u.oneCell' = true) (hm : 0 < m) (h63 : n + m ≤ 9223372036854775807) (hb : (n + m) * bytes ≤ 140737488355328) :
  qV P ⟨dst, .call ⟨.builtin .append, #[x, y], #[t, t]⟩, T, pos, after, g⟩ Γ w
   (fun r w' => ∃ A' c', r = .slice A' (n + m) c' ∧ Own w' e 1 A' (n + m) c' (xs ++ news) ∧ Frm (ob A) w w' ∧ ∀ x ∈ ob A', x ∈ ob A ∨ w.heap.size ≤ x) := by
 rcases ho with ho | ⟨rfl, h0, hrA⟩
 ·
  intro ρ hρ
  obtain ⟨r, w', hrun, A', c', rfl, k1, k2, k3⟩ := qV.app hx hy ht hi hzs jd ho hr h1 h63 hb ρ hρ
  exact ⟨_, w', hrun, A', c', rfl, k1, k2, fun x hx => by
   rcases k3 with h | h
   · exact .inl (h ▸ hx)
   rw [h] at hx; simp only [za] at hx; exact .inr jo⟩
 intro ρ hρ
 obtain ⟨i0, hi0, hz0, hz1, hz2⟩ := info_parts hi
 obtain ⟨ad, rfl, hlt, hcell⟩ := hr.2 hm
 obtain ⟨adA, rfl, hltA, hcellA⟩ := hrA.2 h0
 have ex : (execOp ρ ⟨dst, .call ⟨.builtin .append, #[x, y], #[t, t]⟩, T, pos, after, g⟩).run P w = ((Builtin.append_ #[t, t] T #[.slice (some adA) cap cap, .slice (some ad) m c2]).run P w).andThen fun a w => .ok (.value a) w := by
  simp [execOp, resolve, invoke, builtin, hρ _ _ hx, hρ _ _ hy]
 obtain ⟨v', w', hrun, hown, hgr⟩ := run_append_arg_grows (P := P) w t T e i0 z 1 bytes ht hi0 hz0 hz1 hz2 hzs jd adA cap cap xs hrA.1 hcellA ad m c2 news hr.1 hcell jo h63 hb
 rcases hown.2 with ⟨rfl, h0⟩ | ⟨g', cap', cur', rfl, k1, k2, k3, k4, k5, k6⟩
 · omega
 have hfr : Frm [] w w' := Frm.grown hgr
 exact ⟨_, w', by rw [ex, hrun]; rfl, some ⟨g', 0, none⟩, cap', rfl, ⟨hown.1, .inr ⟨g', cap', cur', rfl, zj _, k2, k3, k4, k5, k6⟩⟩, hfr.mono jp, fun x hx => by simp only [ob, za] at hx; exact .inr jo⟩
theorem qHv {a b c : List Value} {o : Nat} (ha : a.length = o) (hk : b.length ≤ c.length) : (a ++ c).take o ++ b ++ (a ++ c).drop (o + b.length) = a ++ b ++ c.drop b.length := by
 rw [zcb jo, zh jo, zgu, zdh jo, zbu, show o + b.length - a.length = b.length by omega]
theorem qWd (S : Option Addr) (sc n : Nat) (ls : List (Option Addr × Nat × List Nat)) (w : World) (hn : ls.length = n) (h2 : 2 ≤ n) (hnc : n ≤ sc) (hnb : n ≤ 1000000) (hne : ∀ x ∈ ls, 0 < x.2.2.length) (hsum : (cZ ls).length ≤ 1000000) (hr : Rd w 1 S n (ls.map SL)) (hp : ∀ x ∈ ls, Rd w 1 x.1 x.2.2.length (NB x.2.2)) :
  Calls Tryz.prog 144 #[.slice S n sc, .slice none 0 0] w fun e w' => ∃ B, e = .returned (.slice B (cZ ls).length (cZ ls).length) ∧ Rd w' 1 B (cZ ls).length (NB (cZ ls)) ∧ Frm [] w w' ∧ ∀ x ∈ ob B, w.heap.size ≤ x := by
 refine VC.calls (nt := 92) (res := #[.tmp 4]) Tryz.func144 rfl Tryz.ntmps144 Tryz.results144 rfl ?_
 refine jS (jR (ja rfl (jO (jN (jv2 0 1 ?_)))))
 refine jS (jS (jR (jm rfl (je (Run.lenS rfl zbc) (jb rfl rfl (Bin.eqlN _ 0) (jO (jN (jv3 0 1 14 ?_))))))))
 refine VC.condF rfl (decide_eq_false jo) ?_
 refine jQ (jN (jv2 0 1 ?_))
 refine jS (jS (jR (jm rfl (je (Run.lenS rfl zbc) (jb rfl rfl (Bin.eqlN _ 1) (jO (jN (jv3 0 1 18 ?_))))))))
 refine VC.condF rfl (decide_eq_false jo) ?_
 refine jQ (jN (jv2 0 1 ?_))
 refine jS (jR (jz 0 (jO (jN (jS (jS (jR (jm rfl (je (Run.lenS rfl zg) (jb rfl rfl (Bin.gtrN _ 0) (jO (jN (jv4 0 1 5 25 ?_)))))))))))))
 refine VC.condF rfl (rfl) ?_
 refine jQ (jN (jv3 0 1 5 ?_))
 refine jS (jS (jR (jm rfl (je (Run.lenS rfl zbc) ?_))))
 refine jx .i64 0 ?_
 refine jO (jN (jB ?_))
 refine VC.loop (σ := Nat) (fun s => [(0, .slice S n sc), (1, .slice none 0 0), (5, .int .i64 (((cZ (ls.take s)).length : Nat) : Int)), (42, .slice S n sc), (43, .int .i64 ((n : Nat) : Int)), (44, .int .i64 ((s : Nat) : Int))]) (fun s wr => s ≤ n ∧ w = wr) (fun s => n - s) 0 (js6 rfl rfl rfl rfl rfl rfl) ⟨zj _, rfl⟩ ?_
 rintro i _ ⟨hi, rfl⟩
 have hle := oB ls i
 refine jS (jR (jb rfl rfl (Bin.lssN _ _) (jO (jN (jS ?_)))))
 refine jD rfl (fun hc5 => ?_) fun hc5 => ?_
 ·
  obtain ⟨ad, hS, hcell⟩ := qK7 hr hn hc5
  subst hS
  have hsn := sE (show i < ls.length by omega)
  have hle2 := oB ls (i + 1)
  rw [hsn, zf] at hle2
  generalize ls.getD i (none, 0, []) = x at hcell hsn hle2
  refine jQ (jN (jv6 0 1 5 42 43 44 ?_))
  refine jS (jB (jS (jR (je (Run.index1 _ rfl rfl zbc zah jo) (jl rfl zba hcell (ja rfl (jO (jN (jv7 0 1 5 7 42 43 44 ?_)))))))))
  refine jS (jS (jR (jm rfl (je (Run.lenS rfl zg) (jm rfl (jb rfl rfl (Bin.sub_i64 9223372036854775807 _ jo jo) (jb rfl rfl (Bin.gtrN _ _) (jO (jN (jv8 0 1 5 7 42 43 44 52 ?_))))))))))
  refine VC.condF rfl (decide_eq_false jo) ?_
  refine jQ (jN (jv7 0 1 5 7 42 43 44 ?_))
  refine jR (jm rfl (jm rfl (je (Run.lenS rfl zg) (jb rfl rfl (Bin.add_i64 _ _ jo) (ja rfl (jO ?_))))))
  refine qH (jN ?_)
  refine jv6 0 1 5 42 43 44 ?_
  refine jR (jb rfl rfl (Bin.add_i64 _ 1 jo) (jm rfl (jO ?_)))
  refine jN ⟨i + 1, (js6 rfl rfl (by rw [hsn, zf]; rfl) rfl rfl rfl), ?_, ?_⟩
  · exact ⟨by omega, rfl⟩
  first | omega | (dsimp only; omega)
 refine jX ?_
 refine qZ (qZ (qN ?_))
 refine jN (jv3 0 1 5 ?_)
 refine jS (jR (jM ?_))
 obtain rfl : i = n := by omega
 rw [show ls.take i = ls by rw [zh jo]]
 refine Ops.m (qV.ext1 rfl (qJa _ w jo)) rfl ?_
 rintro _ w1 ⟨d, xs, rfl, ho1, hxs, hf1, hs1⟩
 have hd1 := ho1.le
 obtain ⟨ad, rfl, hc0⟩ := qK7 hr hn (show 0 < i by omega)
 have hr1 := hr.frm hf1 jp
 have hlt0 : ad.block < w.heap.size := by
  obtain ⟨ad2, h1, h2, _⟩ := hr.2 (show 0 < i by omega)
  cases h1
  exact h2
 have hc1 := hf1.cell hc0 jp
 have hsn0 := sE (show 0 < ls.length by omega)
 have hp0 := hp _ (nH (show 0 < ls.length by omega))
 have hz0 := hne _ (nH (show 0 < ls.length by omega))
 have hle1 := oB ls 1
 rw [zcs, show cZ [] = [] from rfl, zbu] at hsn0
 generalize hx0 : ls.getD 0 (none, 0, []) = x0 at hc0 hc1 hsn0 hp0 hz0
 rw [show (0 + 1 : Nat) = 1 from rfl] at hsn0
 rw [hsn0] at hle1
 refine jm rfl (jm rfl (je (Run.slice3z _ _ rfl zg zam rfl rfl (zag _) hd1) (ja rfl (jO (jN (jv3 0 1 8 ?_))))))
 refine jS (jR (jm rfl (jm rfl (je (Run.index1 0 rfl rfl zbc zah jo) (jl rfl zba hc1 ?_)))))
 refine Ops.m (qV.copyOwn (g := w.heap.size) (o := 0) rfl rfl zg zam ho1 x0.2.2.length (hp0.frm hf1 jp) (zbh jo) (by rw [gK]; omega) (eZ _)) rfl ?_
 rintro _ w2 ⟨rfl, ho2, hf2, hs2⟩
 rw [zcs, zbu, zch, gK, ← hsn0] at ho2
 have K2 : Frm [] w w2 := hf1.own hf2 jp
 generalize hg : w.heap.size = g at ho2 K2 ⊢
 have hcutr := (hr.frm K2 jp).cut (l := 1) (r := i) (cap := sc) jo (zag _) hnc
 rw [zds, zds, ← List.map_drop, zh (by rw [zae, zq]; omega)] at hcutr
 have hxd : (xs.drop (cZ (ls.take 1)).length).length = (cZ ls).length - (cZ (ls.take 1)).length := by rw [zq, hxs]
 refine ja rfl (jO (jN (jv4 0 1 8 9 ?_)))
 refine jS (jS (jR (jm rfl (je (Run.sliceS 1 _ rfl zbc zah (evB.some_ rfl) evB.none_ jo jo) (je (Run.lenS rfl zbc) ?_)))))
 refine jx .i64 0 ?_
 refine jO (jN (jv6 1 8 9 70 71 72 ?_))
 refine jB ?_
 refine VC.loop (σ := Nat × List Value) (fun s => [(1, .slice none 0 0), (8, .slice (some ⟨g, 0, none⟩) (cZ ls).length (cZ ls).length), (9, .int .i64 (((cZ (ls.take (s.1 + 1))).length : Nat) : Int)), (70, .slice (dS (some ad) sc 1 1) (i - 1) (sc - 1)), (71, .int .i64 ((i - 1 : Nat) : Int)), (72, .int .i64 ((s.1 : Nat) : Int))]) (fun s wr => s.1 ≤ i - 1 ∧ Own wr 5 1 (some ⟨g, 0, none⟩) (cZ ls).length d (NB (cZ (ls.take (s.1 + 1))) ++ s.2) ∧ s.2.length = (cZ ls).length - (cZ (ls.take (s.1 + 1))).length ∧ Frm [g] w2 wr) (fun s => i - s.1) (0, xs.drop (cZ (ls.take 1)).length) (js6 rfl rfl (by rw [hsn0]; rfl) rfl rfl rfl) ⟨zj _, by rw [hsn0] at ho2 ⊢; exact ho2, hxd, Frm.refl _ _⟩ ?_
 rintro ⟨k, rest⟩ wr ⟨hk, ho, hrl, K⟩
 dsimp only at hk ho hrl ⊢
 refine jS (jR (jb rfl rfl (Bin.lssN _ _) (jO (jN (jS ?_)))))
 refine jD rfl (fun hc7 => ?_) fun hc7 => ?_
 ·
  have hle2 := oB ls (k + 1 + 1)
  have hle3 := oB ls (k + 1)
  obtain ⟨ad2, had2, hcell⟩ := qK7 (hcutr.frm K (by
   intro _ x hx
   rw [kJ] at hx
   obtain ⟨ad3, h1, h2, _⟩ := (hr.2 jo)
   cases h1
   simp [ob] at hx ⊢
   omega)) (by rw [zq]; omega) hc7
  rw [had2]
  have hsn := sE (show k + 1 < ls.length by omega)
  have hdk : (ls.drop 1).getD k (none, 0, []) = ls.getD (k + 1) (none, 0, []) := by
   rw [zb, zdp, zb, zgp]
  have hpk := hp _ (nH (show k + 1 < ls.length by omega))
  have hzk := hne _ (nH (show k + 1 < ls.length by omega))
  rw [hdk] at hcell
  rw [hsn, zf] at hle2
  generalize ls.getD (k + 1) (none, 0, []) = x at hcell hsn hle2 hpk hzk
  have hpw := (hpk.frm K2 jp).frm K (by
   intro hn2 y hy
   have := hpk.lt hn2 y hy
   simp; omega)
  refine jQ (jN (jv6 1 8 9 70 71 72 ?_))
  refine jS (jB (jS (jR (je (Run.index1 _ rfl rfl zbc zah jo) (jl rfl zba hcell (ja rfl (jO (jN (jv7 1 8 9 11 70 71 72 ?_)))))))))
  refine jS (jR (jm rfl (jm rfl (jm rfl (je (Run.sliceS _ _ rfl zg zam (evB.some_ rfl) evB.none_ jo jo) ?_)))))
  rw [mN jo]
  refine jM ?_
  refine Ops.m (qV.copyOwn (g := g) (o := (cZ (ls.take (k + 1))).length * 1) rfl rfl zg zam ho 0 (Rd.nil _ 1 none) (Nat.zero_min _) (by rw [zds]; simp [NB]) jp) rfl ?_
  rintro _ w3 ⟨rfl, ho3, hf3, hs3⟩
  simp only [zav, zdy, Nat.add_zero, zbq] at ho3
  refine jb rfl rfl (Bin.add_i64 _ _ jo) ?_
  rw [Nat.add_zero]
  refine ja rfl (jO (jN (jv7 1 8 9 11 70 71 72 ?_)))
  refine jR (jm rfl (jm rfl (jm rfl (je (Run.sliceS _ _ rfl zg zam (evB.some_ rfl) evB.none_ jo jo) ?_))))
  rw [mN jo]
  refine jM ?_
  refine Ops.m (qV.copyOwn (g := g) (o := (cZ (ls.take (k + 1))).length * 1) rfl rfl zg zam ho3 x.2.2.length (hpw.frm hf3 (by
   intro hn2 y hy
   have := hpk.lt hn2 y hy
   simp; omega)) (zbh jo) (by rw [zds, gK, zf, gK]; omega) (eZ _)) rfl ?_
  rintro _ w4 ⟨rfl, ho4, hf4, hs4⟩
  rw [zds, qHv (by rw [gK]) (by rw [gK]; omega), ← dM, ← hsn, gK] at ho4
  refine jb rfl rfl (Bin.add_i64 _ _ jo) (ja rfl (jO ?_))
  refine qH (jN ?_)
  refine jv6 1 8 9 70 71 72 ?_
  refine jR (jb rfl rfl (Bin.add_i64 _ 1 jo) (jm rfl (jO ?_)))
  refine jN ⟨(k + 1, rest.drop x.2.2.length), (js6 rfl rfl (by rw [hsn, zf]; rfl) rfl rfl rfl), ?_, ?_⟩
  · refine ⟨by dsimp only; omega, ho4, by dsimp only; rw [hsn, zq, zf]; omega, (K.trans hf3 jp).trans hf4 jp⟩
  first | omega | (dsimp only; omega)
 refine jX ?_
 refine qZ (qZ (qN ?_))
 refine jN (jv1 8 ?_)
 refine jS (jR (jm rfl (ja rfl (jO (jN (jv1 4 ?_))))))
 refine jT ?_
 refine qS rfl ?_
 obtain rfl : k = i - 1 := by omega
 rw [show i - 1 + 1 = i by omega, zh jo] at ho hrl
 obtain rfl : rest = [] := zca (by rw [hrl]; omega)
 rw [zav] at ho
 exact ⟨_, rfl, ho.rd, K2.own K (by simp; omega), by simp [ob]⟩
end
section
def kO (b : Nat → Bool) : Nat := (b 0).toNat + 2 * (b 1).toNat + 4 * (b 2).toNat + 8 * (b 3).toNat + 16 * (b 4).toNat + 32 * (b 5).toNat + 64 * (b 6).toNat + 128 * (b 7).toNat
theorem rI (b : Nat → Bool) : kO b < 256 := by
 unfold kO
 have h : ∀ x : Bool, x.toNat ≤ 1 := jd
 have := h (b 0); have := h (b 1); have := h (b 2); have := h (b 3); have := h (b 4); have := h (b 5); have := h (b 6); have := h (b 7)
 omega
theorem qJ2 : ∀ b0 b1 b2 b3 b4 b5 b6 b7 : Bool,
  let s := b0.toNat + 2 * b1.toNat + 4 * b2.toNat + 8 * b3.toNat + 16 * b4.toNat + 32 * b5.toNat + 64 * b6.toNat + 128 * b7.toNat
  s % 2 = b0.toNat ∧ s / 2 % 2 = b1.toNat ∧ s / 4 % 2 = b2.toNat ∧ s / 8 % 2 = b3.toNat ∧ s / 16 % 2 = b4.toNat ∧ s / 32 % 2 = b5.toNat ∧ s / 64 % 2 = b6.toNat ∧ s / 128 % 2 = b7.toNat ∧ Lib.onesCount s = b0.toNat + b1.toNat + b2.toNat + b3.toNat + b4.toNat + b5.toNat + b6.toNat + b7.toNat := by decide +kernel
theorem lt8 {k : Nat} (h : k < 8) : k = 0 ∨ k = 1 ∨ k = 2 ∨ k = 3 ∨ k = 4 ∨ k = 5 ∨ k = 6 ∨ k = 7 := jo
theorem qXv (b : Nat → Bool) {k : Nat} (h : k < 8) : kO b / 2 ^ k % 2 = (b k).toNat := by
 obtain ⟨h0, h1, h2, h3, h4, h5, h6, h7, _⟩ := qJ2 (b 0) (b 1) (b 2) (b 3) (b 4) (b 5) (b 6) (b 7)
 unfold kO
 rcases lt8 h with rfl | rfl | rfl | rfl | rfl | rfl | rfl | rfl
 · simpa using h0
 · exact h1
 · exact h2
 · exact h3
 · exact h4
 · exact h5
 · exact h6
 exact h7
theorem zO (b : Nat → Bool) : Lib.onesCount (kO b) = (b 0).toNat + (b 1).toNat + (b 2).toNat + (b 3).toNat + (b 4).toNat + (b 5).toNat + (b 6).toNat + (b 7).toNat :=
 (qJ2 (b 0) (b 1) (b 2) (b 3) (b 4) (b 5) (b 6) (b 7)).2.2.2.2.2.2.2.2
theorem tI (b : Nat → Bool) {k : Nat} (h : k < 8) : (kO b).testBit k = b k := by
 rw [Nat.testBit_eq_decide_div_mod_eq, qXv b h]
 cases b k <;> rfl
def eT (U : Nat → Bool) (p : Nat) : Nat → Bool := fun x => if x = p then true else U x
theorem qGe (b : Nat → Bool) {k : Nat} (h : k < 8) (hb : b k = false) : kO b ^^^ 2 ^ k = kO (eT b k) := by
 apply Nat.eq_of_testBit_eq
 intro i
 rw [Nat.testBit_xor, Nat.testBit_two_pow]
 by_cases hi : i < 8
 ·
  rw [tI _ hi, tI _ hi]
  unfold eT
  by_cases hk : k = i
  · subst hk; simp [hb]
  simp [hk, Ne.symm hk]
 have l1 := rI b
 have l2 := rI (eT b k)
 have hp : 256 ≤ 2 ^ i := zbd (show 256 ≤ 2 ^ 8 by decide) (zcg jo jo)
 rw [Nat.testBit_lt_two_pow jo, Nat.testBit_lt_two_pow jo]
 simp; omega
theorem qWe (b : Nat → Bool) {k : Nat} (h : k < 8) (hb : ∀ j, k ≤ j → j < 8 → b j = false) : kO b / 2 ^ k = 0 := by
 apply Nat.eq_of_testBit_eq
 intro i
 rw [Nat.testBit_div_two_pow, Nat.zero_testBit]
 by_cases hi : i + k < 8
 ·
  rw [tI _ hi]
  exact hb _ jo hi
 have l1 := rI b
 have hp : 256 ≤ 2 ^ (i + k) := zbd (show 256 ≤ 2 ^ 8 by decide) (zcg jo jo)
 exact Nat.testBit_lt_two_pow jo
theorem xI {b c : Nat → Bool} (h : ∀ k, k < 8 → b k = c k) : kO b = kO c := by
 unfold kO
 rw [h 0 jo, h 1 jo, h 2 jo, h 3 jo, h 4 jo, h 5 jo, h 6 jo, h 7 jo]
def fV (N : Nat) (U : Nat → Bool) : Nat → Bool := fun p => decide (p < N) && U p
def byteS (N : Nat) (U : Nat → Bool) (i : Nat) : Nat := kO fun k => fV N U (8 * i + k)
def cL (N : Nat) (U : Nat → Bool) : List Nat := (List.range ((N + 7) / 8)).map (byteS N U)
theorem pS (N : Nat) (U : Nat → Bool) : (cL N U).length = (N + 7) / 8 := by simp [cL]
theorem pT (N : Nat) (U : Nat → Bool) {i : Nat} (h : i < (N + 7) / 8) : (cL N U).getD i 0 = byteS N U i := by
 simp [cL, h]
theorem wU (N : Nat) (U : Nat → Bool) : ∀ b ∈ cL N U, b < 256 := fun b hb => by
 obtain ⟨i, _, rfl⟩ := List.mem_map.1 hb
 exact rI _
theorem qGf (N : Nat) (U : Nat → Bool) {p : Nat} (h : p < N) : (cL N U).getD (p / 8) 0 / 2 ^ (p % 8) % 2 = (U p).toNat := by
 rw [pT N U jo, byteS, qXv _ jo, show 8 * (p / 8) + p % 8 = p by omega]
 simp [fV, h]
theorem tL (N : Nat) (U : Nat → Bool) (h : N % 8 ≠ 0) : (cL N U).getD ((N + 7) / 8 - 1) 0 / 2 ^ (N % 8) = 0 := by
 rw [pT N U jo, byteS]
 refine qWe _ jo (fun j h1 h2 => ?_)
 unfold fV
 rw [decide_eq_false jo]
 rfl
theorem qGg (N : Nat) (U : Nat → Bool) {p : Nat} (h : p < N) (hu : U p = false) : (cL N U).set (p / 8) ((cL N U).getD (p / 8) 0 ^^^ 2 ^ (p % 8)) = cL N (eT U p) := by
 have hb : byteS N U (p / 8) ^^^ 2 ^ (p % 8) = byteS N (eT U p) (p / 8) := by
  unfold byteS
  rw [qGe _ jo (by simp only [fV]; rw [show 8 * (p / 8) + p % 8 = p by omega, hu]; simp)]
  refine xI fun k hk8 => ?_
  unfold eT fV
  dsimp only
  by_cases hk : k = p % 8
  ·
   subst hk
   rw [show 8 * (p / 8) + p % 8 = p by omega]
   simp [h]
  rw [if_neg hk, if_neg jo]
 rw [pT N U jo, hb]
 apply zgn
 intro i
 rw [List.getElem?_set, pS]
 by_cases hi : p / 8 = i
 ·
  subst hi
  rw [if_pos rfl, if_pos jo]
  simp [cL, show p / 8 < (N + 7) / 8 by omega]
 rw [if_neg hi]
 unfold cL
 rw [zbr, zbr]
 by_cases hl : i < (N + 7) / 8
 ·
  rw [zgg hl, zdx, zdx]
  congr 1
  refine xI fun k hk => ?_
  unfold fV eT
  rw [if_neg jo]
 rw [zct (by simpa using hl)]
 rfl
def dW (N : Nat) (U : Nat → Bool) : Nat := (List.range N).countP U
theorem dE (f : Nat → Bool) (n : Nat) : (List.range (n + 1)).countP f = (List.range n).countP f + (f n).toNat := by
 rw [zda, List.countP_append, List.countP_singleton]
 cases f n <;> rfl
theorem qJc (f : Nat → Bool) (m : Nat) : (List.range (8 * (m + 1))).countP f = (List.range (8 * m)).countP f + Lib.onesCount (kO fun k => f (8 * m + k)) := by
 rw [zO, show 8 * (m + 1) = 8 * m + 7 + 1 by omega, dE, dE f (8 * m + 6), dE f (8 * m + 5), dE f (8 * m + 4), dE f (8 * m + 3), dE f (8 * m + 2), dE f (8 * m + 1), dE f (8 * m)]
 rw [show 8 * m + 0 = 8 * m from rfl]
 omega
theorem qQa (N : Nat) (U : Nat → Bool) : ∀ m, N ≤ m → (List.range m).countP (fV N U) = dW N U
 | 0, h => by
  obtain rfl : N = 0 := jo
  rfl
 | m + 1, h => by
  by_cases hm : N ≤ m
  ·
   rw [dE, qQa N U m hm, fV, decide_eq_false jo]
   rfl
  obtain rfl : N = m + 1 := jo
  unfold dW
  apply zhq
  intro x hx
  have := List.mem_range.1 hx
  simp [fV, this]
theorem oW (N : Nat) (U : Nat → Bool) : dW N U ≤ N := by
 have := List.countP_le_length (p := U) (l := List.range N)
 rwa [zdd] at this
theorem qGh (N : Nat) (U : Nat → Bool) {p : Nat} (h : p < N) (hu : U p = false) : dW N (eT U p) = dW N U + 1 := by
 induction N with
 | zero => omega
 | succ n ih =>
  unfold dW at ih ⊢
  rw [dE, dE]
  by_cases hp : p < n
  ·
   rw [ih hp, eT, if_neg jo]
   omega
  obtain rfl : p = n := jo
  have : (List.range p).countP (eT U p) = (List.range p).countP U := by
   apply zhq
   intro x hx
   have := List.mem_range.1 hx
   unfold eT
   rw [if_neg jo]
  rw [this, hu, eT, if_pos rfl]
  rfl
def bN (N : Nat) (U : Nat → Bool) : List Nat → Option (Nat → Bool)
 | [] => some U
 | p :: r => if p < N ∧ U p = false then bN N (eT U p) r else none
def bT (N : Nat) (U : Nat → Bool) : List Nat := (List.range N).filter fun p => ! U p
theorem gL (N : Nat) (U : Nat → Bool) : (bT N U).length = N - dW N U := by
 unfold bT dW
 rw [← List.countP_eq_length_filter]
 have h1 := List.length_eq_countP_add_countP U (l := List.range N)
 rw [zdd] at h1
 have h2 : (List.range N).countP (fun p => ! U p) = (List.range N).countP (fun a => decide ¬ U a = true) := by
  apply zhq
  intro x _
  simp
 rw [h2]
 omega
theorem xL (N : Nat) (x : Nat) : ∀ (l : List Nat) (U : Nat → Bool), bN N U (l ++ [x]) = (bN N U l).bind fun V => if x < N ∧ V x = false then some (eT V x) else none
 | [], U => by rw [zbu, bN, bN, zfo]; rfl
 | p :: r, U => by
  rw [zcx, bN, bN]
  split
  · exact xL N x r _
  rfl
end
section
open Go.Shelf
def Tryz.lays135_ren : Go.Shelf.Ren := ⟨fun | 135 => 131 | n => n, fun | 5 => 5 | 3 => 3 | 9 => 9 | n => n, fun | n => n⟩
theorem Tryz.lays135 : Go.Proofs.Lays.n135 Tryz.prog Tryz.lays135_ren := {
 mixed := by kernel_rfl
 f135 := Tryz.func131.trans (congrArg some (by kernel_rfl))
 t3 := zz
 a3 := zaa
 z3 := zm
 v3 := Tryz.zeroValue3
 t5 := zac
 a5 := zdk
 z5 := zam
 v5 := Tryz.zeroValue5
 t9 := zt
 a9 := zde
 z9 := zbm
 v9 := Tryz.zeroValue9 }
theorem Tryz.bits_OnesCount8 (x : Int) (w : World) (h0 : 0 ≤ x) (h1 : x ≤ 255) :
  Calls Tryz.prog 131 #[.int .u8 x] w fun e w' => e = .returned (.int .i64 (Lib.onesCount x.toNat)) ∧ w' = w := Any.bits_OnesCount8 Tryz.lays135 x w h0 h1
end
section
open Go.RowKit
def spV (N : Nat) (B : Option Addr) (c : Nat) : Array Value := #[jI1 N, .slice B ((N + 7) / 8) c]
theorem dO (N : Nat) (B : Option Addr) (c : Nat) : ∀ u ∈ (spV N B c).toList, u.oneCell' = true := by
 intro u hu
 simp only [spV, zaq, zaz, or_false] at hu
 rcases hu with rfl | rfl <;> rfl
def RdS (w : World) (B : Option Addr) (N : Nat) (U : Nat → Bool) : Prop := Rd w 1 B ((N + 7) / 8) (NB (cL N U))
theorem RdS.frm {w w' : World} {B : Option Addr} {N : Nat} {U : Nat → Bool} {S : List Nat} (h : RdS w B N U) (k : Frm S w w') (hS : ∀ x ∈ ob B, x ∉ S) : RdS w' B N U := Rd.frm h k (fun _ => hS)
theorem RdS.cell {w : World} {B : Option Addr} {N i : Nat} {U : Nat → Bool} (h : RdS w B N U) (hi : i < (N + 7) / 8) : ∃ ad, B = some ad ∧ w.cell? (ad.add i) = some (.int .u8 (((cL N U).getD i 0 : Nat) : Int)) := gF h (pS N U) hi
theorem xO (n : Nat) (w : World) (hn : n ≤ 1000000) : Calls Tryz.prog 91 #[jI1 n] w fun e w' => e = .returned (jI1 ((n + 7) / 8)) ∧ w = w' := by
 refine jV Tryz.func91 Tryz.ntmps91 Tryz.results91 ?_
 refine jS (jR (jz 0 (jO (jN (jv1 0 ?_)))))
 refine jS (jR (jm rfl (jb rfl rfl (Bin.add_i64 _ 7 jo) (jb rfl rfl (Bin.quo_i64 _ 8 jo jo) (ja rfl (jO (jN (jv1 2 ?_))))))))
 refine jT ?_
 refine qS rfl ?_
 exact ⟨rfl, rfl⟩
theorem nL (N c : Nat) (B : Option Addr) (U : Nat → Bool) (w : World) (hN : N ≤ 2048) (hr : RdS w B N U) : Calls Tryz.prog 92 #[.agg (spV N B c)] w fun e w' => e = .returned (.bool true) ∧ Frm [] w w' := by
 refine jV Tryz.func92 Tryz.ntmps92 Tryz.results92 ?_
 refine jS (jR ?_)
 refine Ops.m (qV.box rfl) rfl ?_
 rintro _ w1 ⟨rfl, hF1⟩
 have hb1 : Blk w1 w.heap.size 85 #[jI1 N, .slice B ((N + 7) / 8) c] := hF1.blk
 have hr1 := hr.frm hF1.frm jp
 refine ja rfl (jO (jN (jv1 1 ?_)))
 refine jS (jS ?_)
 refine VC.meet (σ := Unit) (fun s => [(1, jI0 w.heap.size), (19, .bool (decide (False)))]) (fun s wz => Frm [] w1 wz) ?_ ?_
 ·
  refine VC.held (fun W => Frm [] w1 W) jK ?_
  have hS : Frm [] w1 w1.drew := (Frm.refl _ _).drew
  refine jH 0 rfl hS (fun w0 hw0 => Run.fieldAddr rfl zce rfl zm jd) ?_
  refine jH 1 rfl hS (fun w0 hw0 => Run.load rfl zaa ((hb1.frm hw0 jp).cell 0)) ?_
  refine jH 2 rfl hS (fun w0 hw0 => Run.bin rfl rfl (Bin.lssN _ 0)) ?_
  by_cases hs5 : N < 0
  ·
   refine jh 3 hS ?_
   refine qJ.skip 4 rfl jK jK jK hS rfl rfl (by first | rfl | exact decide_eq_true hs5 | (simp [hs5]; done)) rfl rfl ?_
   refine qJ.skip 5 rfl jK jK jK hS rfl rfl (by first | rfl | exact decide_eq_true hs5 | (simp [hs5]; done)) rfl rfl ?_
   refine qJ.skip 6 rfl jK jK jK hS rfl rfl (by first | rfl | exact decide_eq_true hs5 | (simp [hs5]; done)) rfl rfl ?_
   refine jH 7 rfl hS (fun w0 hw0 => Run.pickT rfl rfl (by first | rfl | exact decide_eq_true hs5 | (simp [hs5]; done))) ?_
   refine jh 8 hS ?_
   refine qJ.skip 9 rfl jK jK jK hS rfl rfl (by first | rfl | exact decide_eq_true hs5 | (simp [hs5]; done)) rfl rfl ?_
   refine qJ.skip 10 rfl jK jK jK hS rfl rfl (by first | rfl | exact decide_eq_true hs5 | (simp [hs5]; done)) rfl rfl ?_
   refine qJ.skip 11 rfl jK jK jK hS rfl rfl (by first | rfl | exact decide_eq_true hs5 | (simp [hs5]; done)) rfl rfl ?_
   refine qJ.skip 12 rfl jK jK jK hS rfl rfl (by first | rfl | exact decide_eq_true hs5 | (simp [hs5]; done)) rfl rfl ?_
   refine qJ.skip 13 rfl jK jK jK hS rfl rfl (by first | rfl | exact decide_eq_true hs5 | (simp [hs5]; done)) rfl rfl ?_
   refine qJ.skip 14 rfl jK jK jK hS rfl rfl (by first | rfl | exact decide_eq_true hs5 | (simp [hs5]; done)) rfl rfl ?_
   refine qJ.skip 15 rfl jK jK jK hS rfl rfl (by first | rfl | exact decide_eq_true hs5 | (simp [hs5]; done)) rfl rfl ?_
   refine jH 16 rfl hS (fun w0 hw0 => Run.pickT rfl rfl (by first | rfl | exact decide_eq_true hs5 | (simp [hs5]; done))) ?_
   refine qJ.done jK ?_
   refine jN ⟨(), (js2 rfl (jC (by first | (simp; done) | (simp; omega)))), ?_⟩
   exact hS
  refine jh 3 hS ?_
  refine qJ.take 4 rfl jK jK jK hS (fun w0 hw0 => Run.fieldAddr rfl zce rfl zm jd) (Up.g rfl (by first | rfl | exact decide_eq_false hs5 | (simp [hs5]; done))) rfl rfl ?_
  refine qJ.take 5 rfl jK jK jK hS (fun w0 hw0 => Run.load rfl zaa ((hb1.frm hw0 jp).cell 0)) (Up.g rfl (by first | rfl | exact decide_eq_false hs5 | (simp [hs5]; done))) rfl rfl ?_
  refine qJ.take 6 rfl jK jK jK hS (fun w0 hw0 => Run.bin rfl rfl (Bin.gtrN _ 2048)) (Up.g rfl (by first | rfl | exact decide_eq_false hs5 | (simp [hs5]; done))) rfl rfl ?_
  by_cases hs9 : 2048 < N
  ·
   refine jH 7 rfl hS (fun w0 hw0 => Run.pickF rfl rfl (by first | rfl | exact decide_eq_false hs5 | exact decide_eq_true hs9 | (simp [hs5]; done) | (simp [hs9]; done))) ?_
   refine jh 8 hS ?_
   refine qJ.skip 9 rfl jK jK jK hS rfl rfl (by first | rfl | exact decide_eq_false hs5 | exact decide_eq_true hs9 | (simp [hs5]; done) | (simp [hs9]; done)) rfl rfl ?_
   refine qJ.skip 10 rfl jK jK jK hS rfl rfl (by first | rfl | exact decide_eq_false hs5 | exact decide_eq_true hs9 | (simp [hs5]; done) | (simp [hs9]; done)) rfl rfl ?_
   refine qJ.skip 11 rfl jK jK jK hS rfl rfl (by first | rfl | exact decide_eq_false hs5 | exact decide_eq_true hs9 | (simp [hs5]; done) | (simp [hs9]; done)) rfl rfl ?_
   refine qJ.skip 12 rfl jK jK jK hS rfl rfl (by first | rfl | exact decide_eq_false hs5 | exact decide_eq_true hs9 | (simp [hs5]; done) | (simp [hs9]; done)) rfl rfl ?_
   refine qJ.skip 13 rfl jK jK jK hS rfl rfl (by first | rfl | exact decide_eq_false hs5 | exact decide_eq_true hs9 | (simp [hs5]; done) | (simp [hs9]; done)) rfl rfl ?_
   refine qJ.skip 14 rfl jK jK jK hS rfl rfl (by first | rfl | exact decide_eq_false hs5 | exact decide_eq_true hs9 | (simp [hs5]; done) | (simp [hs9]; done)) rfl rfl ?_
   refine qJ.skip 15 rfl jK jK jK hS rfl rfl (by first | rfl | exact decide_eq_false hs5 | exact decide_eq_true hs9 | (simp [hs5]; done) | (simp [hs9]; done)) rfl rfl ?_
   refine jH 16 rfl hS (fun w0 hw0 => Run.pickT rfl rfl (by first | rfl | exact decide_eq_false hs5 | exact decide_eq_true hs9 | (simp [hs5]; done) | (simp [hs9]; done))) ?_
   refine qJ.done jK ?_
   refine jN ⟨(), (js2 rfl (jC (by first | (simp; done) | (simp; omega)))), ?_⟩
   exact hS
  refine jH 7 rfl hS (fun w0 hw0 => Run.pickF rfl rfl (by first | rfl | exact decide_eq_false hs5 | exact decide_eq_false hs9 | (simp [hs5]; done) | (simp [hs9]; done))) ?_
  refine jh 8 hS ?_
  refine qJ.take 9 rfl jK jK jK hS (fun w0 hw0 => Run.fieldAddr rfl zce rfl zah jd) (Up.g rfl (by first | rfl | exact decide_eq_false hs5 | exact decide_eq_false hs9 | (simp [hs5]; done) | (simp [hs9]; done))) rfl rfl ?_
  refine qJ.take 10 rfl jK jK jK hS (fun w0 hw0 => Run.load rfl zba ((hb1.frm hw0 jp).cell 1)) (Up.g rfl (by first | rfl | exact decide_eq_false hs5 | exact decide_eq_false hs9 | (simp [hs5]; done) | (simp [hs9]; done))) rfl rfl ?_
  refine qJ.take 11 rfl jK jK jK hS (fun w0 hw0 => Run.lenS rfl zg) (Up.g rfl (by first | rfl | exact decide_eq_false hs5 | exact decide_eq_false hs9 | (simp [hs5]; done) | (simp [hs9]; done))) rfl rfl ?_
  refine qJ.take 12 rfl jK jK jK hS (fun w0 hw0 => Run.fieldAddr rfl zce rfl zm jd) (Up.g rfl (by first | rfl | exact decide_eq_false hs5 | exact decide_eq_false hs9 | (simp [hs5]; done) | (simp [hs9]; done))) rfl rfl ?_
  refine qJ.take 13 rfl jK jK jK hS (fun w0 hw0 => Run.load rfl zaa ((hb1.frm hw0 jp).cell 0)) (Up.g rfl (by first | rfl | exact decide_eq_false hs5 | exact decide_eq_false hs9 | (simp [hs5]; done) | (simp [hs9]; done))) rfl rfl ?_
  refine qJ.cl 14 rfl jK (jE1 Tryz.call91) (xO N _ jo) (Up.g rfl (by first | rfl | exact decide_eq_false hs5 | exact decide_eq_false hs9 | (simp [hs5]; done) | (simp [hs9]; done))) rfl rfl ?_
  rintro e _ ⟨rfl, rfl⟩
  refine ⟨_, rfl, hS, ?_⟩
  refine qJ.take 15 rfl jK jK jK hS (fun w0 hw0 => Run.bin rfl rfl (Bin.neqN _ _)) (Up.g rfl (by first | rfl | exact decide_eq_false hs5 | exact decide_eq_false hs9 | (simp [hs5]; done) | (simp [hs9]; done))) rfl rfl ?_
  by_cases hs18 : ¬ (N + 7) / 8 = (N + 7) / 8
  ·
   refine jH 16 rfl hS (fun w0 hw0 => Run.pickF rfl rfl (by first | rfl | exact decide_eq_false hs5 | exact decide_eq_false hs9 | exact decide_eq_true hs18 | (simp [hs5]; done) | (simp [hs9]; done) | (simp [hs18]; done))) ?_
   refine qJ.done jK ?_
   refine jN ⟨(), (js2 rfl (jC (by first | (simp; done) | (simp; omega)))), ?_⟩
   exact hS
  refine jH 16 rfl hS (fun w0 hw0 => Run.pickF rfl rfl (by first | rfl | exact decide_eq_false hs5 | exact decide_eq_false hs9 | exact decide_eq_false hs18 | (simp [hs5]; done) | (simp [hs9]; done) | (simp [hs18]; done))) ?_
  refine qJ.done jK ?_
  refine jN ⟨(), (js2 rfl (jC (by first | (simp; done) | (simp; omega)))), ?_⟩
  exact hS
 rintro _ wz hfz Γ hΓ
 obtain ⟨wa, rfl⟩ : ∃ wa, wa = wz := ⟨_, rfl⟩
 have hfa := hfz
 have hb1 := hb1.frm hfz jp
 have hr1 := hr1.frm hfz jp
 refine jN (VC.sub _ hΓ ?_)
 refine VC.condF rfl jp ?_
 refine jQ (jN (jv1 1 ?_))
 refine jS ?_
 refine VC.meet (σ := Unit) (fun s => [(2, .bool (decide (True)))]) (fun s wz => Frm [] wa wz) ?_ ?_
 ·
  refine VC.held (fun W => Frm [] wa W) jK ?_
  have hS : Frm [] wa wa.drew := (Frm.refl _ _).drew
  refine jH 0 rfl hS (fun w0 hw0 => Run.fieldAddr rfl zce rfl zm jd) ?_
  refine jH 1 rfl hS (fun w0 hw0 => Run.load rfl zaa ((hb1.frm hw0 jp).cell 0)) ?_
  refine jH 2 rfl hS (fun w0 hw0 => Run.bin rfl rfl (Bin.remN _ 8 jo)) ?_
  refine jH 3 rfl hS (fun w0 hw0 => Run.bin rfl rfl (Bin.eqlN _ 0)) ?_
  by_cases hs23 : N % 8 = 0
  ·
   refine jh 4 hS ?_
   refine qJ.skip 5 rfl jK jK jK hS rfl rfl (by first | rfl | exact decide_eq_true hs23 | (simp [hs23]; done)) rfl rfl ?_
   refine qJ.skip 6 rfl jK jK jK hS rfl rfl (by first | rfl | exact decide_eq_true hs23 | (simp [hs23]; done)) rfl rfl ?_
   refine qJ.skip 7 rfl jK jK jK hS rfl rfl (by first | rfl | exact decide_eq_true hs23 | (simp [hs23]; done)) rfl rfl ?_
   refine qJ.skip 8 rfl jK jK jK hS rfl rfl (by first | rfl | exact decide_eq_true hs23 | (simp [hs23]; done)) rfl rfl ?_
   refine qJ.skip 9 rfl jK jK jK hS rfl rfl (by first | rfl | exact decide_eq_true hs23 | (simp [hs23]; done)) rfl rfl ?_
   refine qJ.skip 10 rfl jK jK jK hS rfl rfl (by first | rfl | exact decide_eq_true hs23 | (simp [hs23]; done)) rfl rfl ?_
   refine qJ.skip 11 rfl jK jK jK hS rfl rfl (by first | rfl | exact decide_eq_true hs23 | (simp [hs23]; done)) rfl rfl ?_
   refine qJ.skip 12 rfl jK jK jK hS rfl rfl (by first | rfl | exact decide_eq_true hs23 | (simp [hs23]; done)) rfl rfl ?_
   refine qJ.skip 13 rfl jK jK jK hS rfl rfl (by first | rfl | exact decide_eq_true hs23 | (simp [hs23]; done)) rfl rfl ?_
   refine qJ.skip 14 rfl jK jK jK hS rfl rfl (by first | rfl | exact decide_eq_true hs23 | (simp [hs23]; done)) rfl rfl ?_
   refine qJ.skip 15 rfl jK jK jK hS rfl rfl (by first | rfl | exact decide_eq_true hs23 | (simp [hs23]; done)) rfl rfl ?_
   refine qJ.skip 16 rfl jK jK jK hS rfl rfl (by first | rfl | exact decide_eq_true hs23 | (simp [hs23]; done)) rfl rfl ?_
   refine qJ.skip 17 rfl jK jK jK hS rfl rfl (by first | rfl | exact decide_eq_true hs23 | (simp [hs23]; done)) rfl rfl ?_
   refine jH 18 rfl hS (fun w0 hw0 => Run.pickT rfl rfl (by first | rfl | exact decide_eq_true hs23 | (simp [hs23]; done))) ?_
   refine jH 19 rfl hS (fun w0 hw0 => Run.asg rfl) ?_
   refine qJ.done jK ?_
   refine jN ⟨(), (js1 (jC (by first | rfl | exact (decide_eq_true hs37).trans rfl | (exfalso; exact hs37 (tL N U hs23)) | simp [*]))), ?_⟩
   exact hS
  obtain ⟨ad, rfl, _⟩ := hr1.cell (jo : (N + 7) / 8 - 1 < (N + 7) / 8)
  have hcl : ∀ V, Frm [] wa V → V.cell? (ad.add ((N + 7) / 8 - 1)) = some (.int .u8 (((cL N U).getD ((N + 7) / 8 - 1) 0 : Nat) : Int)) := fun V hV => by
   obtain ⟨ad2, he, h2⟩ := (hr1.frm hV jp).cell (jo : (N + 7) / 8 - 1 < (N + 7) / 8)
   cases he
   exact h2
  have h8 := kL (wU N U) ((N + 7) / 8 - 1)
  refine jh 4 hS ?_
  refine qJ.take 5 rfl jK jK jK hS (fun w0 hw0 => Run.fieldAddr rfl zce rfl zah jd) (Up.g rfl (by first | rfl | exact decide_eq_false hs23 | (simp [hs23]; done))) rfl rfl ?_
  refine qJ.take 6 rfl jK jK jK hS (fun w0 hw0 => Run.load rfl zba ((hb1.frm hw0 jp).cell 1)) (Up.g rfl (by first | rfl | exact decide_eq_false hs23 | (simp [hs23]; done))) rfl rfl ?_
  refine qJ.take 7 rfl jK jK jK hS (fun w0 hw0 => Run.fieldAddr rfl zce rfl zah jd) (Up.g rfl (by first | rfl | exact decide_eq_false hs23 | (simp [hs23]; done))) rfl rfl ?_
  refine qJ.take 8 rfl jK jK jK hS (fun w0 hw0 => Run.load rfl zba ((hb1.frm hw0 jp).cell 1)) (Up.g rfl (by first | rfl | exact decide_eq_false hs23 | (simp [hs23]; done))) rfl rfl ?_
  refine qJ.take 9 rfl jK jK jK hS (fun w0 hw0 => Run.lenS rfl zg) (Up.g rfl (by first | rfl | exact decide_eq_false hs23 | (simp [hs23]; done))) rfl rfl ?_
  refine qJ.take 10 rfl jK jK jK hS (fun w0 hw0 => Run.bin rfl rfl (Bin.sub_i64 _ 1 jo jo)) (Up.g rfl (by first | rfl | exact decide_eq_false hs23 | (simp [hs23]; done))) rfl rfl ?_
  refine qJ.take 11 rfl jK jK jK hS (fun w0 hw0 => Run.index1 _ rfl rfl zg zam jo) (Up.g rfl (by first | rfl | exact decide_eq_false hs23 | (simp [hs23]; done))) rfl rfl ?_
  refine qJ.take 12 rfl jK jK jK hS (fun w0 hw0 => Run.load rfl zdk (hcl w0 hw0)) (Up.g rfl (by first | rfl | exact decide_eq_false hs23 | (simp [hs23]; done))) rfl rfl ?_
  refine qJ.take 13 rfl jK jK jK hS (fun w0 hw0 => Run.fieldAddr rfl zce rfl zm jd) (Up.g rfl (by first | rfl | exact decide_eq_false hs23 | (simp [hs23]; done))) rfl rfl ?_
  refine qJ.take 14 rfl jK jK jK hS (fun w0 hw0 => Run.load rfl zaa ((hb1.frm hw0 jp).cell 0)) (Up.g rfl (by first | rfl | exact decide_eq_false hs23 | (simp [hs23]; done))) rfl rfl ?_
  refine qJ.take 15 rfl jK jK jK hS (fun w0 hw0 => Run.bin rfl rfl (Bin.remN _ 8 jo)) (Up.g rfl (by first | rfl | exact decide_eq_false hs23 | (simp [hs23]; done))) rfl rfl ?_
  refine qJ.take 16 rfl jK jK jK hS (fun w0 hw0 => Run.bin rfl rfl (Bin.shr_u8 _ _ jo)) (Up.g rfl (by first | rfl | exact decide_eq_false hs23 | (simp [hs23]; done))) rfl rfl ?_
  refine qJ.take 17 rfl jK jK jK hS (fun w0 hw0 => Run.bin rfl rfl (Bin.eqlN _ 0)) (Up.g rfl (by first | rfl | exact decide_eq_false hs23 | (simp [hs23]; done))) rfl rfl ?_
  by_cases hs37 : (cL N U).getD ((N + 7) / 8 - 1) 0 / 2 ^ (N % 8) = 0
  ·
   refine jH 18 rfl hS (fun w0 hw0 => Run.pickF rfl rfl (by first | rfl | exact decide_eq_false hs23 | exact decide_eq_true hs37 | (simp [hs23]; done) | (simp [hs37]; done))) ?_
   refine jH 19 rfl hS (fun w0 hw0 => Run.asg rfl) ?_
   refine qJ.done jK ?_
   refine jN ⟨(), (js1 (jC (by first | rfl | exact (decide_eq_true hs37).trans rfl | (exfalso; exact hs37 (tL N U hs23)) | simp [*]))), ?_⟩
   exact hS
  refine jH 18 rfl hS (fun w0 hw0 => Run.pickF rfl rfl (by first | rfl | exact decide_eq_false hs23 | exact decide_eq_false hs37 | (simp [hs23]; done) | (simp [hs37]; done))) ?_
  refine jH 19 rfl hS (fun w0 hw0 => Run.asg rfl) ?_
  refine qJ.done jK ?_
  refine jN ⟨(), (js1 (jC (by first | rfl | exact (decide_eq_true hs37).trans rfl | (exfalso; exact hs37 (tL N U hs23)) | simp [*]))), ?_⟩
  exact hS
 rintro _ wz hfz Γ hΓ
 refine jN (VC.sub _ hΓ ?_)
 refine jT ?_
 refine qS rfl ?_
 exact ⟨rfl, (hF1.frm.trans hfa jp).trans hfz jp⟩
theorem pU (N : Nat) (w : World) (hN : N ≤ 2048) : Calls Tryz.prog 37 #[jI1 N] w fun e w' => ∃ B c, e = .returned (.tuple #[.agg (spV N B c), .int .i64 0]) ∧ RdS w' B N (fun _ => false) ∧ Frm [] w w' ∧ ∀ x ∈ ob B, w.heap.size ≤ x := by
 refine jV Tryz.func37 Tryz.ntmps37 Tryz.results37 ?_
 refine jS (jR ?_)
 refine Ops.m (qV.alloc fX) rfl ?_
 rintro _ w1 ⟨rfl, hF1⟩
 refine jz 0 (jO (jN (jv2 0 2 ?_)))
 refine jS (jS ?_)
 refine VC.split1 [(0, _), (2, _)] (js2 rfl rfl) 9 (.bool (decide (False))) ?_ ?_
 ·
  refine jR ?_
  refine jm rfl (jb rfl rfl (Bin.lssN _ 0) ?_)
  by_cases hs5 : N < 0
  ·
   refine jM ?_
   refine jU ?_
   refine jU ?_
   refine jW rfl rfl au (jO ?_)
   refine jN ⟨(js3 (jC (by first | (simp; done) | (simp; omega))) rfl rfl), rfl⟩
  refine jM ?_
  refine jG ?_
  refine jk (Run.bin rfl rfl (Bin.gtrN _ 2048)) ?_
  by_cases hs8 : 2048 < N
  ·
   refine jF rfl rfl au (jO ?_)
   refine jN ⟨(js3 (jC (by first | (simp; done) | (simp; omega))) rfl rfl), rfl⟩
  refine jF rfl rfl au (jO ?_)
  refine jN ⟨(js3 (jC (by first | (simp; done) | (simp; omega))) rfl rfl), rfl⟩
 intro Γ hΓ
 refine jN (VC.sub _ hΓ ?_)
 refine VC.condF rfl jp ?_
 refine jQ (jN (jv2 0 2 ?_))
 refine jS (jR (jm rfl (jM ?_)))
 refine jc0 (jE1 Tryz.call91) (xO N _ jo) ?_
 refine Ops.m (qV.makeS rfl rfl zg (eY) rfl jo jo) rfl ?_
 rintro _ w2 ⟨rfl, ho2, hf2, hs2⟩
 rw [lG] at ho2
 have ez : ∀ i, byteS N (fun _ => false) i = 0 := fun i => by
  unfold byteS fV
  simp [kO]
 have e2 : List.replicate ((N + 7) / 8) (Value.int .u8 ((0 : Nat) : Int)) = NB (cL N fun _ => false) := by
  rw [cL, zfm (fun i _ => ez i), List.map_const', zdd, NB, zdr]
 rw [e2] at ho2
 refine je (Run.build (evs.cons rfl (evs.cons rfl evs.nil)) fX (gD).choose_spec.1 (gD).choose_spec.2 (cells := spV N (some ⟨w1.heap.size, 0, none⟩) ((N + 7) / 8)) rfl) ?_
 refine Ops.st (qT.storeA rfl rfl zw (hF1.blk.frm hf2 jp) rfl (dO N _ _)) ?_
 rintro w3 ⟨hb3, hf3, hs3⟩
 refine jz 0 (jO (jN (jv2 2 3 ?_)))
 refine jT ?_
 refine eO ?_
 refine cW rfl zbb zw (hb3.cells) (by first | rfl | (simp; done)) ?_
 refine dH rfl ?_
 refine cY ?_
 have h1 := hF1.size
 refine ⟨_, _, rfl, (ho2.frm hf3 (by simp [ob]; omega)).rd, (hF1.frm.trans hf2 jp).own hf3 jp, by simp [ob]; omega⟩
theorem qXw (N c p : Nat) (B : Option Addr) (w : World) : Calls Tryz.prog 93 #[.agg (spV N B c), jI1 p] w fun e w' => e = .returned (.bool (decide (p < N))) ∧ Frm [] w w' := by
 refine jV Tryz.func93 Tryz.ntmps93 Tryz.results93 ?_
 refine jS (jR ?_)
 refine Ops.m (qV.box rfl) rfl ?_
 rintro _ w1 ⟨rfl, hF1⟩
 have hb1 : Blk w1 w.heap.size 85 #[jI1 N, .slice B ((N + 7) / 8) c] := hF1.blk
 refine ja rfl (jO (jN (jv2 1 2 ?_)))
 refine jS (jR (jm rfl (jb rfl rfl (Bin.geqN _ 0) (jM ?_))))
 refine Ops.rg rfl (decide_eq_true (zj _)) (Run.mv rfl) rfl ?_
 refine Ops.rg rfl (decide_eq_true (zj _)) (Run.fieldAddr rfl zce rfl zm jd) rfl ?_
 refine Ops.rg rfl (decide_eq_true (zj _)) (Run.load rfl zaa (hb1.cell 0)) rfl ?_
 refine Ops.rg rfl (decide_eq_true (zj _)) (Run.bin rfl rfl (Bin.lssN _ _)) rfl ?_
 refine jW rfl rfl (decide_eq_true (zj _)) (ja rfl (jO (jN (jv1 4 ?_))))
 refine jT ?_
 refine qS rfl ?_
 exact ⟨rfl, hF1.frm⟩
theorem pB (N c p : Nat) (B : Option Addr) (U : Nat → Bool) (w : World) (hN : N ≤ 2048) (hr : RdS w B N U) (hp : p < N) : Calls Tryz.prog 94 #[.agg (spV N B c), jI1 p] w fun e w' => e = .returned (.bool (U p)) ∧ Frm [] w w' := by
 refine jV Tryz.func94 Tryz.ntmps94 Tryz.results94 ?_
 refine jS (jR ?_)
 refine Ops.m (qV.box rfl) rfl ?_
 rintro _ w1 ⟨rfl, hF1⟩
 have hb1 : Blk w1 w.heap.size 85 #[jI1 N, .slice B ((N + 7) / 8) c] := hF1.blk
 obtain ⟨ad, rfl, hc⟩ := (hr.frm hF1.frm jp).cell (jo : p / 8 < (N + 7) / 8)
 have h8 := kL (wU N U) (p / 8)
 have hpb := qGf N U hp
 generalize (cL N U).getD (p / 8) 0 = b at hc h8 hpb
 have hdl : b / 2 ^ (p % 8) ≤ b := zgh _ _
 have hu : decide (b / 2 ^ (p % 8) &&& 1 = 1) = U p := by
  rw [Nat.and_one_is_mod, hpb]
  cases U p <;> rfl
 refine ja rfl (jO (jN (jv2 1 2 ?_)))
 refine jS (jR (jf rfl zce rfl zah (jl rfl zba (hb1.cell 1) (jm rfl (jb rfl rfl (Bin.quo_i64 _ 8 jo jo) (je (Run.index1 _ rfl rfl zg zam jo) (jl rfl zdk hc (jm rfl (jb rfl rfl (Bin.remN _ 8 jo) (jb rfl rfl (Bin.shr_u8 _ _ jo) (jb rfl rfl (Bin.and_u8 _ 1 jo jo) (jb rfl rfl (Bin.eqlN _ 1) (ja rfl (jO (jN (jv1 4 ?_))))))))))))))))
 refine jT ?_
 refine qS rfl ?_
 rw [hu]
 exact ⟨rfl, hF1.frm⟩
theorem qVa (N c p : Nat) (B : Option Addr) (U : Nat → Bool) (w : World) (hN : N ≤ 2048) (hr : RdS w B N U) (hp : p < N) : Calls Tryz.prog 40 #[.agg (spV N B c), jI1 p] w fun e w' => e = .returned (.bool (U p)) ∧ Frm [] w w' := by
 refine jV Tryz.func40 Tryz.ntmps40 Tryz.results40 ?_
 refine jS (jR ?_)
 refine Ops.m (qV.box rfl) rfl ?_
 rintro _ w1 ⟨rfl, hF1⟩
 have hb1 : Blk w1 w.heap.size 85 (spV N B c) := hF1.blk
 have hr := hr.frm hF1.frm jp
 have K := hF1.frm
 refine ja rfl (jO (jN (jv2 1 2 ?_)))
 refine jS (jR (je (Run.loadA rfl zbb zw hb1.cells (by first | rfl | (simp; done))) ?_))
 refine jc (jE1 Tryz.call92) (nL N c B U _ hN hr) ?_
 rintro e w2 ⟨rfl, hf2⟩
 refine ⟨_, rfl, ?_⟩
 have hb1 := hb1.frm hf2 jp
 have hr := hr.frm hf2 jp
 have K := K.trans hf2 jp
 refine jM ?_
 refine jk (Run.loadA rfl zbb zw hb1.cells (by first | rfl | (simp; done))) ?_
 refine jG ?_
 refine Ops.clg rfl au (jE2 Tryz.call93) (qXw N c p B _) rfl ?_
 rintro e w3 ⟨rfl, hf3⟩
 refine ⟨_, rfl, ?_⟩
 rw [decide_eq_true hp]
 have hb1 := hb1.frm hf3 jp
 have hr := hr.frm hf3 jp
 have K := K.trans hf3 jp
 refine jW rfl rfl (rfl) (jM ?_)
 refine jk (Run.loadA rfl zbb zw hb1.cells (by first | rfl | (simp; done))) ?_
 refine jG ?_
 refine Ops.clg rfl au (jE2 Tryz.call94) (pB N c p B U _ hN hr hp) rfl ?_
 rintro e w4 ⟨rfl, hf4⟩
 refine ⟨_, rfl, ?_⟩
 have K := K.trans hf4 jp
 refine jW rfl rfl (rfl) (ja rfl (jO (jN (jv1 4 ?_))))
 refine jT ?_
 refine qS rfl ?_
 exact ⟨rfl, K⟩
theorem vC (N c : Nat) (B : Option Addr) (U : Nat → Bool) (w : World) (hN : N ≤ 2048) (hr : RdS w B N U) : Calls Tryz.prog 99 #[.agg (spV N B c)] w fun e w' => e = .returned (jI1 (dW N U)) ∧ Frm [] w w' := by
 refine jV Tryz.func99 Tryz.ntmps99 Tryz.results99 ?_
 refine jS (jR ?_)
 refine Ops.m (qV.box rfl) rfl ?_
 rintro _ w1 ⟨rfl, hF1⟩
 have hb1 : Blk w1 w.heap.size 85 (spV N B c) := hF1.blk
 have hr := hr.frm hF1.frm jp
 have K := hF1.frm
 refine jz 0 (jO (jN (jv1 1 ?_)))
 refine jS (jS (jR (je (Run.loadA rfl zbb zw hb1.cells (by first | rfl | (simp; done))) ?_)))
 refine jc (jE1 Tryz.call92) (nL N c B U _ hN hr) ?_
 rintro e w2 ⟨rfl, hf2⟩
 refine ⟨_, rfl, ?_⟩
 have hb1 := hb1.frm hf2 jp
 have hr := hr.frm hf2 jp
 have K := K.trans hf2 jp
 refine je (Run.not rfl) (jO (jN (jv2 1 8 ?_)))
 refine VC.condF rfl (rfl) ?_
 refine jQ (jN (jv1 1 ?_))
 refine jS (jR (jz 0 (jO (jN (jS (jS (jR (jf rfl zce rfl zah (jl rfl zba (show _ = some (Value.slice B ((N + 7) / 8) c) from hb1.cell 1) (jL rfl zg ?_))))))))))
 refine jx .i64 0 ?_
 refine jO (jN (jv4 3 10 11 12 ?_))
 refine jB ?_
 refine VC.loop (σ := Nat) (fun s => [(3, jI1 ((List.range (8 * s)).countP (fV N U))), (10, .slice B ((N + 7) / 8) c), (11, jI1 ((N + 7) / 8)), (12, jI1 s)]) (fun s wr => s ≤ (N + 7) / 8 ∧ w2 = wr) (fun s => (N + 7) / 8 - s) 0 (js4 rfl rfl rfl rfl) ⟨zj _, rfl⟩ ?_
 rintro i _ ⟨hi, rfl⟩
 have hcl := List.countP_le_length (p := fV N U) (l := List.range (8 * i))
 rw [zdd] at hcl
 have h8 := qJc (fV N U) i
 refine jS (jR (jb rfl rfl (Bin.lssN _ _) (jO (jN (jS ?_)))))
 refine jD rfl (fun hc2 => ?_) fun hc2 => ?_
 ·
  obtain ⟨ad, rfl, hc⟩ := hr.cell hc2
  rw [pT N U hc2] at hc
  have hlt := rI (fun k => fV N U (8 * i + k))
  have hon : Lib.onesCount (byteS N U i) ≤ 8 := by
   unfold byteS
   rw [zO]
   have h : ∀ x : Bool, x.toNat ≤ 1 := jd
   have := h (fV N U (8 * i + 0)); have := h (fV N U (8 * i + 1)); have := h (fV N U (8 * i + 2)); have := h (fV N U (8 * i + 3)); have := h (fV N U (8 * i + 4)); have := h (fV N U (8 * i + 5)); have := h (fV N U (8 * i + 6)); have := h (fV N U (8 * i + 7))
   omega
  refine jQ (jN (jv4 3 10 11 12 ?_))
  refine jS (jB (jS (jR (je (Run.index1 _ rfl rfl zg zam jo) (jl rfl zdk hc (ja rfl (jO (jN (jv5 3 5 10 11 12 ?_)))))))))
  refine jR (jm rfl (jM ?_))
  refine jc (jE1 Tryz.call131) (Tryz.bits_OnesCount8 (((byteS N U i : Nat) : Int)) _ jo (by have : byteS N U i < 256 := hlt; omega)) ?_
  rintro e _ ⟨rfl, rfl⟩
  rw [zdt]
  refine ⟨_, rfl, ?_⟩
  refine jb rfl rfl (Bin.add_i64 _ _ jo) (ja rfl (jO ?_))
  refine qH (jN ?_)
  refine jv4 3 10 11 12 ?_
  refine jR (jb rfl rfl (Bin.add_i64 _ 1 jo) (jm rfl (jO ?_)))
  refine jN ⟨i + 1, (js4 (by rw [h8]; rfl) rfl rfl rfl), ?_, ?_⟩
  · exact ⟨hc2, rfl⟩
  exact jq
 refine jX ?_
 refine qZ (qZ (qN ?_))
 refine jN (jv1 3 ?_)
 refine jS (jR (jm rfl (ja rfl (jO (jN (jv1 2 ?_))))))
 refine jT ?_
 refine qS rfl ?_
 obtain rfl : i = (N + 7) / 8 := jo
 rw [qQa N U _ jo]
 exact ⟨rfl, K⟩
theorem Ops.yieldg {P : Program} {n : NF} {Γ : Env} {w : World} {Q : Exit → Env → World → Prop} {ops : Array Oper} {rest : List Oper} {dst : Option Tmp} {T : TypeId} {pos : String} {after : Array Edge} {l : Nat} {c : Operand} {xs : List Operand} {vs : List Value} {ts : Array TypeId} {R : Ending → World → Prop}
  {gd : Option (Nat × Bool)} (hup : Up ops Γ gd) (hro : n.ro = none) (hc : ev? Γ c = some (.func (.yield l) #[] #[])) (hv : evs Γ xs vs) (hy : mP P l vs.toArray w R) {d : Nat} (hd : dst = some d) (hn : Nat.blt d n.n = true)
  (k : ∀ e w', R e w' → ∃ v, e = .returned v ∧ Ops P n ops rest ((d, v) :: Γ) w' Q) : Ops P n ops (⟨dst, .call ⟨.value c, xs.toArray, ts⟩, T, pos, after, gd⟩ :: rest) Γ w Q :=
 Ops.of_wp hup fun a hs m => by
  rw [hro]
  refine ⟨eL, ?_⟩
  obtain ⟨fn, tmps, assign, body, h1, h2⟩ := hy (m - 1)
  have e1 := gV hs.fits xs vs hv
  have e2 : a.eval c = .func (.yield l) #[] #[] := hs.fits _ _ hc
  have hrun : (execOp a.eval ⟨dst, .call ⟨.value c, xs.toArray, ts⟩, T, pos, after, gd⟩).run P w = .ok (.round l fn tmps assign body) w := by
   simp [execOp, resolve, e2, Deferred.ofValue, invoke, callFunc, e1, h1]
  rw [gT hrun jp, Oper.uponIn_round, hd]
  refine ⟨fun h => by simp [wd, Fence.wide] at h, h2.mono ?_⟩
  intro e w' hR
  obtain ⟨v, rfl, hk⟩ := k e w' hR
  have := hk _ (hs.put hn v) m
  rw [hro] at this
  exact this
theorem lE (U : Nat → Bool) (i : Nat) : bT (i + 1) U = if U i then bT i U else bT i U ++ [i] := by
 unfold bT
 rw [zda, zcy]
 cases h : U i <;> simp [h]
theorem qQb (U : Nat → Bool) {i : Nat} (hu : U i = false) : ∀ {N : Nat}, i < N → (bT i U ++ [i]) <+: bT N U
 | 0, h => jo
 | N + 1, h => by
  by_cases hi : i = N
  ·
   subst hi
   rw [lE, hu]
   exact List.prefix_refl _
  refine (qQb U hu (jo : i < N)).trans ?_
  rw [lE]
  split
  · exact List.prefix_refl _
  exact List.prefix_append _ _
theorem qWf (g1 N c : Nat) (B : Option Addr) (U : Nat → Bool) (hN : N ≤ 2048) :
  qXi Tryz.prog 132 #[jI0 g1] (fun p : Nat => #[jI1 p]) [] (g1 :: ob B) (fun w => Blk w g1 85 (spV N B c) ∧ RdS w B N U) (bT N U) := by
 rintro l J Jx w hJ hJx ⟨hb1, hr⟩ hY h0
 refine jV Tryz.func132 Tryz.ntmps132 Tryz.results132 ?_
 refine jS (jR (jf rfl zce rfl zm (jl rfl zaa (show _ = some (jI1 N) from hb1.cell 0) ?_)))
 refine jx .i64 0 ?_
 refine jO (jN (jv4 0 1 5 6 ?_))
 refine jB ?_
 refine VC.loop (σ := Nat) (fun s => [(0, .func (.yield l) #[] #[]), (1, jI0 g1), (5, jI1 N), (6, jI1 s)]) (fun s wr => s ≤ N ∧ Blk wr g1 85 (spV N B c) ∧ RdS wr B N U ∧ J (bT s U) wr) (fun s => N - s) 0 (js4 rfl rfl rfl rfl) ⟨zj _, hb1, hr, h0⟩ ?_
 rintro i wr ⟨hi, hb1, hr, hj⟩
 refine jS (jR (jb rfl rfl (Bin.lssN _ _) (jO (jN (jS ?_)))))
 refine jD rfl (fun hc1 => ?_) fun hc1 => ?_
 ·
  refine jQ (jN (jv4 0 1 5 6 ?_))
  refine jS (jB (jS (jR (jm rfl (ja rfl (jO (jN (jv5 0 1 3 5 6 ?_))))))))
  refine jS ?_
  by_cases hby : U i = true
  ·
   refine jR (je (Run.loadA rfl zbb zw hb1.cells (by first | rfl | (simp; done))) (jM ?_))
   refine jc (jE2 Tryz.call94) (pB N c i B U _ hN hr hc1) ?_
   rintro e w2 ⟨rfl, hf2⟩
   refine ⟨_, rfl, ?_⟩
   have hb1 := hb1.frm hf2 jp
   have hr := hr.frm hf2 jp
   have hj := hJ _ _ _ hj hf2
   have hfs := lE U i
   refine je (Run.not rfl) (jM ?_)
   refine Ops.sk rfl (by simp [hby]) rfl ?_
   refine Ops.sk rfl (by simp [hby]) rfl ?_
   refine Ops.sk rfl (by simp [hby]) rfl ?_
   refine Ops.sk rfl (by simp [hby]) rfl ?_
   refine jF rfl rfl (by simp [hby]) (jO (jN (jv5 0 1 5 6 18 ?_)))
   refine VC.condF rfl (rfl) ?_
   refine jQ ?_
   refine qH (jN ?_)
   refine jv4 0 1 5 6 ?_
   refine jR (jb rfl rfl (Bin.add_i64 _ 1 jo) (jm rfl (jO ?_)))
   refine jN ⟨i + 1, (js4 rfl rfl rfl rfl), ?_, ?_⟩
   ·
    rw [hby, if_pos rfl] at hfs
    exact ⟨hc1, hb1, hr, by rw [hfs]; exact hj⟩
   exact jq
  have hby : U i = false := by simpa using hby
  have hfs2 : bT (i + 1) U = bT i U ++ [i] := by rw [lE, hby]; rfl
  refine jR (je (Run.loadA rfl zbb zw hb1.cells (by first | rfl | (simp; done))) (jM ?_))
  refine jc (jE2 Tryz.call94) (pB N c i B U _ hN hr hc1) ?_
  rintro e w2 ⟨rfl, hf2⟩
  refine ⟨_, rfl, ?_⟩
  have hb1 := hb1.frm hf2 jp
  have hr := hr.frm hf2 jp
  have hj := hJ _ _ _ hj hf2
  have hfs := lE U i
  refine je (Run.not rfl) (jM ?_)
  refine Ops.rg rfl (by simp [hby]) (Run.mv rfl) rfl ?_
  refine Ops.rg rfl (by simp [hby]) (Run.mv rfl) rfl ?_
  refine Ops.yieldg (Up.g rfl (by simp [hby])) rfl rfl (evs.cons rfl evs.nil) ((by simpa using hY (bT i U) i w2 hj (qQb U hby hc1) : mP Tryz.prog l #[_] w2 _)) rfl rfl ?_
  rintro e w1 ⟨hoff, hR0⟩
  obtain ⟨yb, rfl, hR⟩ : ∃ yb : Bool, e = .returned (.bool yb) ∧ ((yb = true ∧ J (bT i U ++ [i]) w1) ∨ (yb = false ∧ Jx (bT i U ++ [i]) w1)) := by
   rcases hR0 with ⟨rfl, h⟩ | ⟨rfl, h⟩
   · exact ⟨true, rfl, .inl ⟨rfl, h⟩⟩
   exact ⟨false, rfl, .inr ⟨rfl, h⟩⟩
  refine ⟨_, rfl, ?_⟩
  have hb1 := hoff.blk hb1 jp
  have hr : RdS w1 B N U := hoff.rd hr (fun _ x hx => by simp [hx])
  refine Ops.rg rfl (by simp [hby]) (Run.not rfl) rfl ?_
  refine jW rfl rfl (by simp [hby]) (jO (jN (jv5 0 1 5 6 18 ?_)))
  refine VC.condB rfl (fun hc2 => ?_) (fun hc2 => ?_)
  ·
   refine jT ?_
   refine qR (qQ (qQ (qR (qY0 ?_))))
   exact ⟨⟨_, rfl⟩, .inr ⟨_, (hR.resolve_left (fun h => by rw [h.1] at hc2; simp at hc2)).2⟩⟩
  refine jQ ?_
  refine qH (jN ?_)
  refine jv4 0 1 5 6 ?_
  refine jR (jb rfl rfl (Bin.add_i64 _ 1 jo) (jm rfl (jO ?_)))
  refine jN ⟨i + 1, (js4 rfl rfl rfl rfl), ?_, ?_⟩
  · exact ⟨hc1, hb1, hr, by rw [hfs2]; exact (hR.resolve_right (fun h => by rw [h.1] at hc2; simp at hc2)).2⟩
  exact jq
 refine jX ?_
 refine qZ (qZ (qN ?_))
 refine pY ?_
 obtain rfl : i = N := jo
 exact ⟨⟨_, rfl⟩, .inl hj⟩
theorem free_spec (N c : Nat) (B : Option Addr) (w : World) :
  Calls Tryz.prog 100 #[.agg (spV N B c)] w fun e w' => ∃ g1, e = .returned (.func (.func 132) #[] #[jI0 g1]) ∧ Blk w' g1 85 (spV N B c) ∧ Frm [] w w' ∧ w.heap.size ≤ g1 := by
 refine jV Tryz.func100 Tryz.ntmps100 Tryz.results100 ?_
 refine jS (jR ?_)
 refine Ops.m (qV.box rfl) rfl ?_
 rintro _ w1 ⟨rfl, hF⟩
 refine ja rfl (jO (jN (jv1 1 ?_)))
 refine jS (jR (je (Run.mkFunc evs.nil (evs.cons rfl evs.nil)) (ja rfl (jO (jN (jv1 2 ?_))))))
 refine jT ?_
 refine qS rfl ?_
 exact ⟨_, rfl, hF.blk, hF.frm, zag _⟩
theorem rL : ∀ u ∈ (#[.int .i64 0, .slice none 0 0] : Array Value).toList, u.oneCell' = true := by
 intro u hu
 simp only [zaq, zaz, or_false] at hu
 rcases hu with rfl | rfl <;> rfl
theorem Bin.shl_u8 {k' : IntKind} (x y : Nat) (hy : y ≤ 8) (h : x * 2 ^ y ≤ 255) : Bin .shl .u8 x k' y (.int .u8 ((x * 2 ^ y : Nat) : Int)) := Bin.shlN x y hy h
def ZN (l : List Nat) : List Value := l.map fun n => jI1 n
theorem qMx (a : List Nat) (i : Nat) (h : i < a.length) : (ZN a)[i]? = some (jI1 (a.getD i 0)) := by
 simp [ZN, zb, ze h]
theorem rO (l : List Nat) : ∀ u ∈ ZN l, u.oneCell' = true := by
 intro u hu
 obtain ⟨x, _, rfl⟩ := List.mem_map.1 hu
 rfl
theorem qJ3 (l : List Nat) (b : Nat) : ZN (l ++ [b]) = ZN l ++ [jI1 b] := by simp [ZN]
theorem rdZ {w : World} {A : Option Addr} {n : Nat} {l : List Nat} (h : Rd w 1 A n (ZN l)) (hn : l.length = n) {k : Nat} (hk : k < n) : ∃ ad, A = some ad ∧ w.cell? (ad.add k) = some (jI1 (l.getD k 0)) := by
 obtain ⟨ad, h1, _, hc⟩ := h.2 jo
 exact ⟨ad, h1, hc k _ (qMx l k jo)⟩
theorem qVb (N c n cl : Nat) (B L : Option Addr) (U : Nat → Bool) (l : List Nat) (w : World) (hN : N ≤ 2048) (hr : RdS w B N U) (hn : l.length = n) (hnb : n ≤ 1000000) (hl : Rd w 1 L n (ZN l)) :
  Calls Tryz.prog 133 #[.agg (spV N B c), .slice L n cl, .bool false, jI1 15] w fun e w' => Frm [] w w' ∧ ((∃ V B' c', bN N U l = some V ∧ e = .returned (.tuple #[.agg (spV N B' c'), .int .i64 0]) ∧ RdS w' B' N V ∧ ∀ x ∈ ob B', w.heap.size ≤ x) ∨ (bN N U l = none ∧ ∃ vs k, k ≠ 0 ∧ e = .returned (.tuple #[.agg vs, jI1 k]) ∧ vs.size = 2 ∧ ∀ u ∈ vs.toList, u.oneCell' = true)) := by
 have hl0 := hl
 refine jV Tryz.func133 Tryz.ntmps133 Tryz.results133 ?_
 refine jS (jR ?_)
 refine Ops.m (qV.box rfl) rfl ?_
 rintro _ w1 ⟨rfl, hF1⟩
 have hb4 : Blk w1 w.heap.size 85 (spV N B c) := hF1.blk
 have hr := hr.frm hF1.frm jp
 have hl := hl.frm hF1.frm jp
 have K := hF1.frm
 have q1 := hF1.size
 generalize hg4 : w.heap.size = g4 at *
 refine Ops.m (qV.alloc fX) rfl ?_
 rintro _ w2 ⟨rfl, hF2⟩
 have hb8 := hF2.blk
 have hb4 := hb4.frm hF2.frm jp
 have hr := hr.frm hF2.frm jp
 have hl := hl.frm hF2.frm jp
 have K := K.trans hF2.frm jp
 have q2 := hF2.size
 generalize hg8 : w1.heap.size = g8 at *
 have hlt : ∀ x ∈ ob L, 0 < n → x ≠ g4 ∧ x ≠ g8 := fun x hx h0 => by have := hl0.lt h0 x hx; omega
 refine jz 0 (jO (jN (jv5 1 2 3 4 8 ?_)))
 refine jS (jS (jR (je (Run.loadA rfl zbb zw hb4.cells (by first | rfl | (simp; done))) ?_)))
 refine jc (jE1 Tryz.call92) (nL N c B U _ hN hr) ?_
 rintro e w3 ⟨rfl, hf3⟩
 refine ⟨_, rfl, ?_⟩
 have hb4 := hb4.frm hf3 jp
 have hb8 := hb8.frm hf3 jp
 have hr := hr.frm hf3 jp
 have hl := hl.frm hf3 jp
 have K := K.trans hf3 jp
 have q3 := hf3.size
 refine je (Run.not rfl) (jO (jN (jv6 1 2 3 4 8 14 ?_)))
 refine VC.condF rfl (rfl) ?_
 refine jQ (jN (jv5 1 2 3 4 8 ?_))
 refine jS (jR (jf rfl zce rfl zah (jl rfl zba (show _ = some (Value.slice B ((N + 7) / 8) c) from hb4.cell 1) ?_)))
 refine jc (jE1 Tryz.call154) (qZ9 B c ((N + 7) / 8) (cL N U) _ (pS N U) jo hr) ?_
 rintro e w4 ⟨B4, d4, rfl, ho4, hf4, hup4⟩
 refine ⟨_, rfl, ?_⟩
 have hb4 := hb4.frm hf4 jp
 have hb8 := hb8.frm hf4 jp
 have hl := hl.frm hf4 jp
 have K := K.trans hf4 jp
 have q4 := hf4.size
 refine jf rfl zce rfl zah ?_
 refine Ops.st (qT.store rfl rfl zah hb4 rfl rfl) ?_
 rintro w5 ⟨hb4, hf5, hs5⟩
 have hb4 : Blk w5 g4 85 (spV N B4 d4) := hb4
 have hb8 := hb8.frm hf5 (by simp; omega)
 have ho4 := ho4.frm hf5 (fun x hx => by have := hup4 x hx; simp; omega)
 have hl := hl.frm hf5 (fun h0 x hx => by have := hlt x hx h0; simp; omega)
 have K := K.own hf5 (by simp; omega)
 refine jO (jN (jv5 1 2 3 4 8 ?_))
 refine jS (jS (jR (jm rfl (jL rfl zn ?_))))
 refine jx .i64 0 ?_
 refine jO (jN (jv7 2 3 4 8 20 21 22 ?_))
 refine jB ?_
 refine VC.loop (σ := Nat × (Nat → Bool)) (fun s => [(2, .bool false), (3, jI1 15), (4, jI0 g4), (8, jI0 g8), (20, .slice L n cl), (21, jI1 n), (22, jI1 s.1)]) (fun s wr => s.1 ≤ n ∧ Blk wr g4 85 (spV N B4 d4) ∧ Blk wr g8 85 #[.int .i64 0, .slice none 0 0] ∧ Own wr 5 1 B4 ((N + 7) / 8) d4 (NB (cL N s.2)) ∧ Rd wr 1 L n (ZN l) ∧ Frm [] w wr ∧ bN N U (l.take s.1) = some s.2) (fun s => n - s.1) (0, U) (js7 rfl rfl rfl rfl rfl rfl rfl) ⟨zj _, hb4, hb8, ho4, hl, K, rfl⟩ ?_
 rintro ⟨i, V⟩ wr ⟨hi, hb4, hb8, ho4, hl, K, hM⟩
 dsimp only at hi ho4 hM ⊢
 have hb4q := hup4
 have ks := K.size
 refine jS (jR (jb rfl rfl (Bin.lssN _ _) (jO (jN (jS ?_)))))
 refine jD rfl (fun hc2 => ?_) fun hc2 => ?_
 ·
  obtain ⟨adl, hL, hcl⟩ := rdZ hl hn hc2
  subst hL
  have hsn := xL N (l.getD i 0) (l.take i) U
  rw [← mR (jo : i < l.length), hM, zfo] at hsn
  have hnone : ¬ (l.getD i 0 < N ∧ V (l.getD i 0) = false) → bN N U l = none := fun h => by
   have e := (zbq (i + 1) l).symm
   have key : ∀ (a b : List Nat) (W : Nat → Bool), bN N W a = none → bN N W (a ++ b) = none := by
    intro a b
    induction a with
    | nil => intro W hW; cases hW
    | cons p r ih =>
     intro W hW
     rw [zcx, bN]
     rw [bN] at hW
     split
     ·
      rename_i hp
      rw [if_pos hp] at hW
      exact ih _ hW
     rfl
   rw [e]
   refine key _ _ _ ?_
   rw [hsn, if_neg h]
  generalize l.getD i 0 = p at hcl hsn hnone
  refine jQ (jN (jv7 2 3 4 8 20 21 22 ?_))
  refine jS (jB (jS (jR (je (Run.index1 _ rfl rfl zn zm jo) (jl rfl zaa hcl (ja rfl (jO (jN (jv8 2 3 4 8 11 20 21 22 ?_)))))))))
  refine jS (jS (jR (je (Run.loadA rfl zbb zw hb4.cells (by first | rfl | (simp; done))) (jM ?_))))
  refine jc (jE2 Tryz.call93) (qXw N d4 p B4 _) ?_
  rintro e w6 ⟨rfl, hf6⟩
  refine ⟨_, rfl, ?_⟩
  have hb4 := hb4.frm hf6 jp
  have hb8 := hb8.frm hf6 jp
  have ho4 := ho4.frm hf6 jp
  have hl := hl.frm hf6 jp
  have K := K.trans hf6 jp
  refine je (Run.not rfl) (jO (jN (jv9 2 3 4 8 11 20 21 22 29 ?_)))
  refine VC.condB rfl (fun hc3 => ?_) (fun hc3 => ?_)
  ·
   have hpN : ¬ p < N := by simpa using hc3
   refine jS (jR (je (Run.build (cells := #[.int .i64 0, .slice none 0 0]) (parts := []) evs.nil fX (gD).choose_spec.1 (gD).choose_spec.2 rfl) ?_))
   refine Ops.st (qT.storeA rfl rfl zw hb8 rfl rL) ?_
   rintro w7 ⟨hb8, hf7, hs7⟩
   have K := K.own hf7 (by simp; omega)
   refine jz 4 (jO (jN (jv2 8 9 ?_)))
   refine jT ?_
   refine qQ (qR (qQ (qQ (qR (qQ (eO ?_))))))
   refine cW rfl zbb zw (hb8.cells) (by first | rfl | (simp; done) | (simp [*]; done)) ?_
   refine dH rfl ?_
   refine cY ?_
   exact ⟨K, .inr ⟨hnone (fun h => hpN h.1), _, 4, jd, rfl, rfl, rL⟩⟩
  have hpN : p < N := by simpa using hc3
  refine jQ (jN (jv8 2 3 4 8 11 20 21 22 ?_))
  refine jS (jS (jR (je (Run.loadA rfl zbb zw hb4.cells (by first | rfl | (simp; done))) (jM ?_))))
  refine jc (jE2 Tryz.call94) (pB N d4 p B4 V _ hN ho4.rd hpN) ?_
  rintro e w7 ⟨rfl, hf7⟩
  refine ⟨_, rfl, ?_⟩
  have hb4 := hb4.frm hf7 jp
  have hb8 := hb8.frm hf7 jp
  have ho4 := ho4.frm hf7 jp
  have hl := hl.frm hf7 jp
  have K := K.trans hf7 jp
  refine jm rfl (je (Run.neqB rfl rfl Tryz.underlying4) (jO (jN (jv9 2 3 4 8 11 20 21 22 35 ?_))))
  refine VC.condB rfl (fun hc4 => ?_) (fun hc4 => ?_)
  ·
   have hVp : V p = true := by simpa using hc4
   refine jS (jR (je (Run.build (cells := #[.int .i64 0, .slice none 0 0]) (parts := []) evs.nil fX (gD).choose_spec.1 (gD).choose_spec.2 rfl) (jM ?_)))
   refine Ops.st (qT.storeA rfl rfl zw hb8 rfl rL) ?_
   rintro w7 ⟨hb8, hf7, hs7⟩
   have K := K.own hf7 (by simp; omega)
   refine ja rfl (jO (jN (jv2 8 9 ?_)))
   refine jT ?_
   refine qQ (qR (qQ (qQ (qR (qQ (eO ?_))))))
   refine cW rfl zbb zw (hb8.cells) (by first | rfl | (simp; done) | (simp [*]; done)) ?_
   refine dH rfl ?_
   refine cY ?_
   exact ⟨K, .inr ⟨hnone (fun h => by rw [h.2] at hVp; cases hVp), _, 15, jd, rfl, rfl, rL⟩⟩
  have hVp : V p = false := by simpa using hc4
  rw [if_pos ⟨hpN, hVp⟩] at hsn
  obtain ⟨ad, hB4, hcb⟩ := gF (ho4.drawn (qP.drew _)).rd (pS N V) (jo : p / 8 < (N + 7) / 8)
  have hps := qGg N V hpN hVp
  have h8 := kL (wU N V) (p / 8)
  have hpw : 2 ^ (p % 8) ≤ 128 := zbd (zcg jo (jo : p % 8 ≤ 7)) jd
  generalize (cL N V).getD (p / 8) 0 = b at hcb hps h8
  subst hB4
  refine jQ (jN (jv8 2 3 4 8 11 20 21 22 ?_))
  refine VC.tail 11 jK jK ?_
  simp only [zed, zcs, zfn, zbz]
  refine qE (Run.fieldAddr rfl zce rfl zah jd) ?_
  refine qE (Run.load rfl zba ((hb4.drawn (qP.drew _)).cell 1)) ?_
  refine qM ?_
  refine qE (Run.bin rfl rfl (Bin.quo_i64 _ 8 jo jo)) ?_
  refine qE (Run.index1 _ rfl rfl zg zam jo) ?_
  refine qE (Run.load rfl zdk hcb) ?_
  refine qM ?_
  refine qE (Run.bin rfl rfl (Bin.remN _ 8 jo)) ?_
  refine qE (Run.bin rfl rfl (Bin.shl_u8 1 _ jo jo)) ?_
  refine qE (Run.bin rfl rfl (Bin.xor_u8 _ _ jo jo)) ?_
  rw [Nat.one_mul]
  refine qE (Run.index1 _ rfl rfl zg zam jo) ?_
  refine bJ.nil ?_
  refine Ops.st (qT.storeOwn (p / 8) rfl rfl zam (ho4.drawn (qP.drew _)) rfl jo rfl) ?_
  rintro w8 ⟨ho8, hf8, hs8⟩
  have hob : ∀ x ∈ ob (some ad), w.heap.size ≤ x := fun x hx => by have := hb4q x hx; omega
  have hob4 : ∀ x ∈ ob (some ad), x ≠ g4 ∧ x ≠ g8 := fun x hx => by have := hb4q x hx; omega
  have hb4 := (hb4.drawn (qP.drew _)).frm hf8 (fun h => (hob4 _ h).1 rfl)
  have hb8 := (hb8.drawn (qP.drew _)).frm hf8 (fun h => (hob4 _ h).2 rfl)
  have hl := (hl.drawn (qP.drew _)).frm hf8 (fun h0 x hx h => by have h1 := hl0.lt h0 x hx; have := hob x h; omega)
  have K := (K.drawn (qP.drew _)).own hf8 hob
  rw [show (NB (cL N V)).set (p / 8) (.int .u8 (((b ^^^ 2 ^ (p % 8)) : Nat) : Int)) = NB ((cL N V).set (p / 8) (b ^^^ 2 ^ (p % 8))) by simp [NB, zfg], hps] at ho8
  refine jO ?_
  refine qH (jN ?_)
  refine jv7 2 3 4 8 20 21 22 ?_
  refine jR (jb rfl rfl (Bin.add_i64 _ 1 jo) (jm rfl (jO ?_)))
  refine jN ⟨(i + 1, eT V p), (js7 rfl rfl rfl rfl rfl rfl rfl), ?_, ?_⟩
  · exact ⟨hc2, hb4, hb8, ho8, hl, K, hsn⟩
  exact jq
 refine jX ?_
 refine qZ (qZ (qN ?_))
 refine jN (jv2 4 8 ?_)
 refine jS (jR (je (Run.loadA rfl zbb zw hb4.cells (by first | rfl | (simp; done))) ?_))
 refine Ops.st (qT.storeA rfl rfl zw hb8 rfl (dO N _ _)) ?_
 rintro w9 ⟨hb9, hf9, hs9⟩
 have ho9 := ho4.frm hf9 (fun x hx => by have := hup4 x hx; simp; omega)
 have K := K.own hf9 (by simp; omega)
 refine jz 0 (jO (jN (jv2 8 9 ?_)))
 refine jT ?_
 refine eO ?_
 refine cW rfl zbb zw (hb9.cells) (by first | rfl | (simp; done) | (simp [*]; done)) ?_
 refine dH rfl ?_
 refine cY ?_
 obtain rfl : i = n := jo
 rw [zh jo] at hM
 exact ⟨K, .inl ⟨V, B4, d4, hM, rfl, ho9.rd, fun x hx => by have := hup4 x hx; omega⟩⟩
theorem kN (N c n cl : Nat) (B L : Option Addr) (U : Nat → Bool) (l : List Nat) (w : World) (hN : N ≤ 2048) (hr : RdS w B N U) (hn : l.length = n) (hnb : n ≤ 1000000) (hl : Rd w 1 L n (ZN l)) :
  Calls Tryz.prog 101 #[.agg (spV N B c), .slice L n cl] w fun e w' => Frm [] w w' ∧ ((∃ V B' c', bN N U l = some V ∧ e = .returned (.tuple #[.agg (spV N B' c'), .int .i64 0]) ∧ RdS w' B' N V ∧ ∀ x ∈ ob B', w.heap.size ≤ x) ∨ (bN N U l = none ∧ ∃ vs k, k ≠ 0 ∧ e = .returned (.tuple #[.agg vs, jI1 k]) ∧ vs.size = 2 ∧ ∀ u ∈ vs.toList, u.oneCell' = true)) := by
 refine jV Tryz.func101 Tryz.ntmps101 Tryz.results101 ?_
 refine jS (jR ?_)
 refine Ops.m (qV.box rfl) rfl ?_
 rintro _ w1 ⟨rfl, hF1⟩
 have hb2 : Blk w1 w.heap.size 85 (spV N B c) := hF1.blk
 have hr := hr.frm hF1.frm jp
 have hl := hl.frm hF1.frm jp
 have q1 := hF1.size
 refine Ops.m (qV.alloc fX) rfl ?_
 rintro _ w2 ⟨rfl, hF2⟩
 have hb4 := hF2.blk
 have hb2 := hb2.frm hF2.frm jp
 have hr := hr.frm hF2.frm jp
 have hl := hl.frm hF2.frm jp
 have K := hF1.frm.trans hF2.frm jp
 have q2 := hF2.size
 generalize hg4 : w1.heap.size = g4 at *
 refine jz 0 (jO (jN (jv3 1 2 4 ?_)))
 refine jS (jR (je (Run.loadA rfl zbb zw hb2.cells (by first | rfl | (simp; done))) (jM ?_)))
 refine jc (jE4 Tryz.call133) (qVb N c n cl B L U l _ hN hr hn hnb hl) ?_
 rintro e w3 ⟨hf3, hres⟩
 have hb4 := hb4.frm hf3 jp
 have K := K.trans hf3 jp
 have q3 := hf3.size
 obtain ⟨vs, k, rfl, hvs, hv1⟩ : ∃ vs k, e = .returned (.tuple #[.agg vs, jI1 k]) ∧ vs.size = 2 ∧ ∀ u ∈ vs.toList, u.oneCell' = true := by
  rcases hres with ⟨V, B', c', _, rfl, _⟩ | ⟨_, vs, k, _, rfl, h1, h2⟩
  · exact ⟨_, 0, rfl, rfl, dO N B' c'⟩
  exact ⟨vs, k, rfl, h1, h2⟩
 refine ⟨_, rfl, ?_⟩
 refine jY rfl rfl (jY rfl rfl ?_)
 refine Ops.st (qT.storeA rfl rfl (by rw [hvs]; exact zw) hb4 (by rw [hvs]; rfl) hv1) ?_
 rintro w4 ⟨hb4, hf4, hs4⟩
 have K := K.own hf4 (by simp; omega)
 refine ja rfl (jO (jN (jv2 4 5 ?_)))
 refine jT ?_
 refine eO ?_
 refine cW rfl zbb zw (hb4.cells) (by first | rfl | (simp; done) | (simp [*]; done)) ?_
 refine dH rfl ?_
 refine cY ?_
 rcases hres with ⟨V, B', c', hM, he, hr4, hup⟩ | ⟨hM, vs2, k2, hk, he, h1, h2⟩
 · refine ⟨K, .inl ⟨V, B', c', hM, he, hr4.frm hf4 (fun x hx => by have := hup x hx; simp; omega), fun x hx => by have := hup x hx; omega⟩⟩
 exact ⟨K, .inr ⟨hM, vs2, k2, hk, he, h1, h2⟩⟩
theorem qVc (N c k : Nat) (B : Option Addr) (U : Nat → Bool) (w : World) (hN : N ≤ 2048) (hN0 : 0 < N) (hk : k ≤ 1000000) (hr : RdS w B N U) :
  Calls Tryz.prog 44 #[.agg (spV N B c), jI1 k] w fun e w' => Frm [] w w' ∧ if N - dW N U < k then ∃ vs, e = .returned (.tuple #[.agg vs, .slice none 0 0, .int .i64 5]) ∧ vs.size = 2 ∧ ∀ u ∈ vs.toList, u.oneCell' = true else ∃ vs L cl, e = .returned (.tuple #[.agg vs, .slice L k cl, .int .i64 0]) ∧ (vs.size = 2 ∧ ∀ u ∈ vs.toList, u.oneCell' = true) ∧ Rd w' 1 L k (ZN ((bT N U).take k)) ∧ k ≤ cl ∧ ∀ x ∈ ob L, w.heap.size ≤ x := by
 have hcl := oW N U
 have hfl := gL N U
 have hr0 := hr
 refine DV.calls (nt := 46) (res := #[.cell 4 85, .tmp 5, .tmp 6]) Tryz.func44 rfl Tryz.ntmps44 Tryz.results44 rfl ?_
 refine DV.seq ?_
 refine DV.vc ?_
 refine jR ?_
 refine Ops.m (qV.box rfl) rfl ?_
 rintro _ w1 ⟨rfl, hF1⟩
 have hb2 : Blk w1 w.heap.size 85 (spV N B c) := hF1.blk
 have hr := hr.frm hF1.frm jp
 have K := hF1.frm
 have q1 := hF1.size
 generalize hg2 : w.heap.size = g2 at hb2 q1 ⊢
 refine Ops.m (qV.box rfl) rfl ?_
 rintro _ w2 ⟨rfl, hF2⟩
 have hb3 := hF2.blk
 have hb2 := hb2.frm hF2.frm jp
 have hr := hr.frm hF2.frm jp
 have K := K.trans hF2.frm jp
 have q2 := hF2.size
 generalize hg3 : w1.heap.size = g3 at hb3 q1 q2 ⊢
 refine Ops.m (qV.alloc fX) rfl ?_
 rintro _ w3 ⟨rfl, hF3⟩
 have hb4 := hF3.blk
 have hb2 := hb2.frm hF3.frm jp
 have hb3 := hb3.frm hF3.frm jp
 have hr := hr.frm hF3.frm jp
 have K := K.trans hF3.frm jp
 have q3 := hF3.size
 generalize hg4 : w2.heap.size = g4 at hb4 q2 q3 ⊢
 refine ja rfl (jz 0 (jO ?_))
 refine bL ?_
 refine DV.sub [(2, _), (3, _), (4, _), (5, _), (6, _)] (js5 rfl rfl rfl rfl rfl) ?_
 refine DV.seq ?_
 refine DV.vc ?_
 refine jB (jS (jR (je (Run.loadA rfl zbb zw hb2.cells (by first | rfl | (simp; done))) ?_)))
 refine jc (jE1 Tryz.call92) (nL N c B U _ hN hr) ?_
 rintro e w4 ⟨rfl, hf4⟩
 refine ⟨_, rfl, ?_⟩
 have hb2 := hb2.frm hf4 jp
 have hb3 := hb3.frm hf4 jp
 have hb4 := hb4.frm hf4 jp
 have hr := hr.frm hf4 jp
 have K := K.trans hf4 jp
 have q4 := hf4.size
 refine je (Run.not rfl) (jM ?_)
 refine jk (Run.load rfl zaa (hb3.cell 0)) ?_
 refine jk (Run.bin rfl rfl (Bin.lssN _ 0)) ?_
 refine jF rfl rfl (rfl) (ja rfl (jO (jN (jv6 2 3 4 5 6 9 ?_))))
 refine VC.condF rfl jp ?_
 refine jS ?_
 refine VC.held (fun V => Frm [] w4 V) jK ?_
 have hS : Frm [] w4 w4.drew := (Frm.refl _ _).drew
 refine jH 0 rfl hS (fun w0 hw0 => Run.load rfl zaa ((hb3.frm hw0 jp).cell 0)) ?_
 refine jH 1 rfl hS (fun w0 hw0 => Run.fieldAddr rfl zce rfl zm jd) ?_
 refine jH 2 rfl hS (fun w0 hw0 => Run.load rfl zaa (show _ = some (jI1 N) from (hb2.frm hw0 jp).cell 0)) ?_
 refine jH 3 rfl hS (fun w0 hw0 => Run.loadA rfl zbb zw ((hb2.frm hw0 jp).cells) (by first | rfl | (simp; done))) ?_
 refine qJ.cl 4 rfl jK (jE1 Tryz.call99) (vC N c B U _ hN (hr.frm hS jp)) trivial rfl rfl ?_
 rintro e w5 ⟨rfl, hf5⟩
 have hS := hS.trans hf5 jp
 refine ⟨_, rfl, hS, ?_⟩
 have hb2 := hb2.frm hS jp
 have hb3 := hb3.frm hS jp
 have hb4 := hb4.frm hS jp
 have hr := hr.frm hS jp
 have K := K.trans hS jp
 have q5 := hS.size
 refine jH 5 rfl hS (fun w0 hw0 => Run.bin rfl rfl (Bin.sub_i64 _ _ jo jo)) ?_
 refine jH 6 rfl hS (fun w0 hw0 => Run.bin rfl rfl (Bin.gtrN _ _)) ?_
 refine jH 7 rfl hS (fun w0 hw0 => Run.asg rfl) ?_
 refine qJ.done jK ?_
 refine jN (jv6 2 3 4 5 6 18 ?_)
 refine jD rfl (fun hc2 => ?_) fun hc2 => ?_
 ·
  refine jS (jR (je (Run.build (cells := #[.int .i64 0, .slice none 0 0]) (parts := []) evs.nil fX (gD).choose_spec.1 (gD).choose_spec.2 rfl) ?_))
  refine Ops.st (qT.storeA rfl rfl zw hb4 rfl rL) ?_
  rintro w7 ⟨hb4, hf7, hs7⟩
  have K := K.own hf7 (by simp; omega)
  refine ja rfl (jz 5 (jO (jN (jv3 4 5 6 ?_))))
  refine jT ?_
  refine qR (rD (lC jp jp (fun wz hsh => ?_)))
  refine eO ?_
  refine cW rfl zbb zw ((hb4.frm hsh jp).cells) (by first | rfl | (simp; done) | (simp [*]; done)) ?_
  refine dH rfl ?_
  refine dH rfl ?_
  refine cY ?_
  rw [if_pos hc2]
  exact ⟨K.own hsh jp, _, rfl, rfl, by intro u hu; simp at hu; rcases hu with rfl | rfl <;> rfl⟩
 refine jQ ?_
 refine qH (bL ?_)
 refine DV.sub [(2, _), (3, _), (4, _), (5, _), (6, _)] (js5 rfl rfl rfl rfl rfl) ?_
 refine DV.seq ?_
 refine DV.vc ?_
 refine jR ?_
 refine Ops.m (qV.alloc xP) rfl ?_
 rintro _ w6 ⟨rfl, hF6⟩
 have hb7 := hF6.blk
 have hb2 := hb2.frm hF6.frm jp
 have hb3 := hb3.frm hF6.frm jp
 have hb4 := hb4.frm hF6.frm jp
 have hr := hr.frm hF6.frm jp
 have K := K.trans hF6.frm jp
 have q6 := hF6.size
 generalize hg7 : w5.heap.size = g7 at hb7 q5 q6 ⊢
 refine jO ?_
 refine bL ?_
 refine DV.seq ?_
 refine DV.seq ?_
 refine DV.vc ?_
 refine jR (je (Run.loadA rfl zbb zw hb2.cells (by first | rfl | (simp; done))) ?_)
 refine jc (jE1 Tryz.call100) (free_spec N c B _) ?_
 rintro e w7 ⟨g1, rfl, hb1, hf7, hg1⟩
 refine ⟨_, rfl, ?_⟩
 have hb2 := hb2.frm hf7 jp
 have hb3 := hb3.frm hf7 jp
 have hb4 := hb4.frm hf7 jp
 have hb7 := hb7.frm hf7 jp
 have hr := hr.frm hf7 jp
 have K := K.trans hf7 jp
 have q7 := hf7.size
 have l1 := hb1.lt
 have hBt : ∀ b ∈ ob B, b < w.heap.size := fun b hb => hr0.lt jo b hb
 have qK := K.size
 refine jO ?_
 refine bL ?_
 refine DV.sub [(2, _), (3, _), (4, _), (5, _), (6, _), (7, _), (28, _)] (js7 rfl rfl rfl rfl rfl rfl rfl) ?_
 refine DV.block ?_
 refine DV.range (ps := [29]) (fun p : Nat => [jI1 p]) (qWf g1 N c B U hN) rfl Tryz.call132 (fun _ => rfl) rfl (fun pre W => Blk W g2 85 (spV N B c) ∧ Blk W g3 3 #[jI1 k] ∧ Blk W g4 85 #[.int .i64 0, .slice none 0 0] ∧ Frm [] w W ∧ ∃ L cl, Blk W g7 33 #[.slice L (pre).length cl] ∧ Own W 3 1 L (pre).length cl (ZN (pre)) ∧ (∀ x ∈ ob L, w.heap.size ≤ x ∧ x ∉ [g2, g3, g4, g7, g1]) ∧ pre.length ≤ k ∧ pre <+: bT N U) (fun e pre W => e = .exit 1 ∧ Blk W g2 85 (spV N B c) ∧ Blk W g3 3 #[jI1 k] ∧ Blk W g4 85 #[.int .i64 0, .slice none 0 0] ∧ Frm [] w W ∧ ∃ L cl, Blk W g7 33 #[.slice L ((bT N U).take k).length cl] ∧ Own W 3 1 L ((bT N U).take k).length cl (ZN ((bT N U).take k)) ∧ (∀ x ∈ ob L, w.heap.size ≤ x ∧ x ∉ [g2, g3, g4, g7, g1])) (fun x => [(2, jI0 g2), (3, jI0 g3), (4, jI0 g4), (7, jI0 g7), (8, jI1 x)]) ?_ ?_ ?_ ?_ ?_ ?_ ?_ ?_ ?_ ?_ ?_
 ·
  rintro pre W W' S ⟨h2, h3, h4, K, L, cl, h7, ho, hu, hle⟩ hf hS
  exact ⟨h2.frm hf (h2.nc hS jp), h3.frm hf (h3.nc hS jp), h4.frm hf (h4.nc hS jp), K.nc hf hS jp jo, L, cl, h7.frm hf (h7.nc hS jp), ho.frm hf (ho.nc hS jp), hu, hle⟩
 ·
  rintro e pre W W' S ⟨he, h2, h3, h4, K, L, cl, h7, ho, hu⟩ hf hS
  exact ⟨he, h2.frm hf (h2.nc hS jp), h3.frm hf (h3.nc hS jp), h4.frm hf (h4.nc hS jp), K.nc hf hS jp jo, L, cl, h7.frm hf (h7.nc hS jp), ho.frm hf (ho.nc hS jp), hu⟩
 · exact fun W hf => ⟨hb1.frm hf jp, hr.frm hf jp⟩
 · simp
 ·
  intro b hb
  rcases zaq.1 hb with rfl | hb
  · exact hb1.lt
  have := hBt b hb; omega
 · exact ⟨hb2, hb3, hb4, K, none, 0, hb7, Own.nil _ _ _, by simp [ob], zj _, List.nil_prefix⟩
 ·
  intro l x W
  refine jv5 2 3 4 7 29 ?_
  refine jR (ja rfl (jO ?_))
  refine jN ⟨rfl, (js5 rfl rfl rfl rfl rfl)⟩
 ·
  rintro l pre x W ⟨hb2, hb3, hb4, K, L, cl, hb7, ho, hu, hle, hpx⟩ hpre hsz hmk
  have hb70 := hb7
  refine jB (jS (jS (jR (jl rfl zbx (hb7.cell 0) (jL rfl zn (jl rfl zaa (hb3.cell 0) (jb rfl rfl (Bin.eqlN _ _) (jO (jN (jv3 7 8 33 ?_))))))))))
  refine jD rfl (fun hc3 => ?_) fun hc3 => ?_
  ·
   refine jX ?_
   refine qZ (qYz rfl (?_))
   have hpk : pre = (bT N U).take k := by rw [← hc3]; exact List.prefix_iff_eq_take.1 hpx
   rw [← hpk]
   exact ⟨kV.frm0 (Frm.refl _ _), rfl, hb2, hb3, hb4, K, L, cl, hb7, ho, hu⟩
  refine jQ (jN (jv2 7 8 ?_))
  refine jR (jl rfl zbx (hb7.cell 0) (jM ?_))
  refine Ops.m (qV.buildS1 rfl zn zm pG jd jd rfl rfl) rfl ?_
  rintro _ W2 ⟨rfl, hF2⟩
  have hrd2 : Rd W2 1 (some ⟨W.heap.size, 0, none⟩) 1 [jI1 x] := Rd.of_blk (n := 1) (size := 1) hF2.blk rfl
  have qW := K.size
  refine Ops.m (qV.app rfl rfl zn (pH) rfl jd (ho.frm hF2.frm jp) hrd2 (by simp; rfl) jo jo) rfl ?_
  rintro _ W3 ⟨L3, c3, rfl, ho3, hf3, hob3⟩
  have hoL := hu
  have hu3 : ∀ y ∈ ob L3, w.heap.size ≤ y ∧ y ∉ [g2, g3, g4, g7, g1] := fun y hy => by
   rcases hob3 with h | h
   · rw [h] at hy; exact hu y hy
   rw [h, za] at hy; subst hy; have := hF2.frm.size; simp; omega
  have hb7b := (hb7.frm hF2.frm jp).frm hf3 (fun h => (hu _ h).2 jp)
  refine Ops.st (qT.store rfl rfl zax hb7b rfl rfl) ?_
  rintro W4 ⟨hb7n, hf4, hs4⟩
  have kk : Frm (g7 :: ob L) W W4 := ((hF2.frm.mono (T := g7 :: ob L) jp).trans (hf3.mono (T := g7 :: ob L) (fun y hy => .inl (by simp [hy]))) (fun y hy => .inl hy)).trans (hf4.mono (T := g7 :: ob L) jp) (fun y hy => .inl hy)
  have kup : ∀ y ∈ g7 :: ob L, w.heap.size ≤ y := fun y hy => by
   rcases zaq.1 hy with rfl | hy
   · omega
   exact (hu y hy).1
  have off : ∀ z, z ∈ [g2, g3, g4] → z ∉ g7 :: ob L := fun z hz h => by
   rcases zaq.1 h with rfl | h
   · simp only [zaq, zaz, or_false] at hz; omega
   exact (hu z h).2 (by simp only [zaq, zaz, or_false] at hz ⊢; omega)
  refine jO ?_
  refine qH (?_)
  refine ⟨⟨g7 :: ob L, kk, fun b hb => ⟨fun h => ?_, fun o hoo => ?_⟩⟩, hb2.frm kk (off _ jp), hb3.frm kk (off _ jp), hb4.frm kk (off _ jp), K.own kk kup, L3, c3, ?_, ?_, hu3, ?_, hpre⟩
  ·
   have h1 := kup b hb
   rcases zaq.1 h with h | h
   ·
    rcases zaq.1 hb with h2 | h2
    · omega
    exact (hu b h2).2 (by simp [h])
   have := hBt b h; omega
  ·
   rcases zaq.1 hb with rfl | hb
   · exact hb70.isC o hoo
   exact ho.isC b hb o hoo
  · rw [zf, zck]; exact hb7n
  · rw [zf, zck, qJ3]; exact ho3.frm hf4 (fun y hy h => by rw [za] at h; exact (hu3 y hy).2 (by simp [h]))
  rw [zf, zck]; omega
 ·
  rintro W ⟨hb2, hb3, hb4, K, L, cl, hb7, ho, hu, hle, hpx⟩ hsz hmk
  have hkf : (bT N U).take k = bT N U := zh jo
  rw [← hkf] at hb7 ho
  have hlk : ((bT N U).take k).length = k := by rw [zk]; omega
  refine sN (bL ?_)
  refine DV.sub [(2, _), (4, _), (7, _)] (js3 rfl rfl rfl) ?_
  refine DV.seq ?_
  refine DV.vc ?_
  refine jR (je (Run.loadA rfl zbb zw hb2.cells (by first | rfl | (simp; done))) (jl rfl zbx (hb7.cell 0) ?_))
  refine jc (jE2 zhe) (kN N c _ cl B L U _ _ hN (hr0.frm K jp) rfl jo ho.rd) ?_
  rintro e W2 ⟨hf2, hres⟩
  obtain ⟨vs, kk, rfl, hvs, hv1⟩ : ∃ vs kk, e = .returned (.tuple #[.agg vs, jI1 kk]) ∧ vs.size = 2 ∧ ∀ u ∈ vs.toList, u.oneCell' = true := by
   rcases hres with ⟨V, B', c', _, rfl, _⟩ | ⟨_, vs, kk, _, rfl, h1, h2⟩
   · exact ⟨_, 0, rfl, rfl, dO N B' c'⟩
   exact ⟨vs, kk, rfl, h1, h2⟩
  refine ⟨_, rfl, ?_⟩
  have hb2 := hb2.frm hf2 jp
  have hb4 := hb4.frm hf2 jp
  have hb7 := hb7.frm hf2 jp
  have ho := ho.frm hf2 jp
  have hmk := hmk.frm hf2 jp
  have K := K.trans hf2 jp
  refine jm rfl (jY rfl rfl (jY rfl rfl ?_))
  refine Ops.st (qT.storeA rfl rfl (by rw [hvs]; exact zw) hb2 (by rw [hvs]; rfl) hv1) ?_
  rintro W3 ⟨hb2, hf3, hs3⟩
  have hb4 := hb4.frm hf3 (by simp; omega)
  have hb7 := hb7.frm hf3 (by simp; omega)
  have ho := ho.frm hf3 (fun y hy h => by rw [za] at h; exact (hu y hy).2 (by simp [h]))
  have hmk := hmk.frm hf3 (by simp; omega)
  have K := K.own hf3 (by simp; omega)
  refine jO ?_
  refine bL ?_
  refine DV.sub [(2, _), (4, _), (7, _)] (js3 rfl rfl rfl) ?_
  refine DV.seq ?_
  refine DV.vc ?_
  refine VC.held (fun V => Frm [g4] W3 V) jK ?_
  have hS : Frm [g4] W3 W3.drew := (Frm.refl _ _).drew
  have n2 : g2 ∉ [g4] := by simp; omega
  have n7 : g7 ∉ [g4] := by simp; omega
  refine jH 0 rfl hS (fun w0 hw0 => Run.loadB rfl zbb zw (hb2.frm hw0 n2) hvs) ?_
  refine jH 1 rfl hS (fun w0 hw0 => Run.load rfl zbx ((hb7.frm hw0 n7).cell 0)) ?_
  refine qJ.st 2 rfl jK (qT.storeA rfl rfl (by rw [hvs]; exact zw) (hb4.drawn (qP.drew _)) (by rw [hvs]; rfl) hv1) trivial rfl ?_
  rintro W4 ⟨hb4, hf4, hs4⟩
  have hS := hS.trans hf4 (fun y hy => .inl hy)
  refine ⟨hS, ?_⟩
  have ho := ho.frm hS (fun y hy h => by rw [za] at h; exact (hu y hy).2 (by simp [h]))
  have hmk := hmk.frm hS (by simp; omega)
  have K := K.own hS (by simp; omega)
  refine jH 3 rfl hS (fun w0 hw0 => Run.asg rfl) ?_
  refine qJ.take (v := jI1 0) 4 rfl jK jK jK hS (fun w0 hw0 => Run.asg rfl) trivial rfl rfl ?_
  refine qJ.done jK ?_
  refine bL ?_
  refine DV.sub [(4, _), (5, _), (6, _)] (js3 rfl rfl rfl) ?_
  refine DV.vc (jT ?_)
  refine lC jp (fun d hd => by simp only [za] at hd; subst hd; exact hmk) (fun wz hsh => ?_)
  refine eO ?_
  refine cW rfl zbb zw ((hb4.frm hsh (by simp; omega)).cells) (by first | rfl | (simp; done) | (simp [*]; done)) ?_
  refine dH rfl ?_
  refine dH rfl ?_
  refine cY ?_
  rw [if_neg hc2]
  have hoz := ho.frm hsh (fun y hy h => by rw [za] at h; subst h; exact hmk.ne_own ho hy)
  rw [hlk] at hoz ⊢
  exact ⟨K.own hsh (by simp; omega), _, L, cl, rfl, ⟨hvs, hv1⟩, hoz.rd, hoz.le, fun y hy => by have := (hu y hy).1; omega⟩
 · exact fun _ _ h => absurd h.1 jp
 rintro id pre W ⟨he, hb2, hb3, hb4, K, L, cl, hb7, ho, hu⟩ hsz hmk
 cases he
 have hlk : ((bT N U).take k).length = k := by rw [zk]; omega
 refine qXh ?_
 refine bL ?_
 refine DV.sub [(2, _), (4, _), (7, _)] (js3 rfl rfl rfl) ?_
 refine DV.seq ?_
 refine DV.vc ?_
 refine jR (je (Run.loadA rfl zbb zw hb2.cells (by first | rfl | (simp; done))) (jl rfl zbx (hb7.cell 0) ?_))
 refine jc (jE2 zhe) (kN N c _ cl B L U _ _ hN (hr0.frm K jp) rfl jo ho.rd) ?_
 rintro e W2 ⟨hf2, hres⟩
 obtain ⟨vs, kk, rfl, hvs, hv1⟩ : ∃ vs kk, e = .returned (.tuple #[.agg vs, jI1 kk]) ∧ vs.size = 2 ∧ ∀ u ∈ vs.toList, u.oneCell' = true := by
  rcases hres with ⟨V, B', c', _, rfl, _⟩ | ⟨_, vs, kk, _, rfl, h1, h2⟩
  · exact ⟨_, 0, rfl, rfl, dO N B' c'⟩
  exact ⟨vs, kk, rfl, h1, h2⟩
 refine ⟨_, rfl, ?_⟩
 have hb2 := hb2.frm hf2 jp
 have hb4 := hb4.frm hf2 jp
 have hb7 := hb7.frm hf2 jp
 have ho := ho.frm hf2 jp
 have hmk := hmk.frm hf2 jp
 have K := K.trans hf2 jp
 refine jm rfl (jY rfl rfl (jY rfl rfl ?_))
 refine Ops.st (qT.storeA rfl rfl (by rw [hvs]; exact zw) hb2 (by rw [hvs]; rfl) hv1) ?_
 rintro W3 ⟨hb2, hf3, hs3⟩
 have hb4 := hb4.frm hf3 (by simp; omega)
 have hb7 := hb7.frm hf3 (by simp; omega)
 have ho := ho.frm hf3 (fun y hy h => by rw [za] at h; exact (hu y hy).2 (by simp [h]))
 have hmk := hmk.frm hf3 (by simp; omega)
 have K := K.own hf3 (by simp; omega)
 refine jO ?_
 refine bL ?_
 refine DV.sub [(2, _), (4, _), (7, _)] (js3 rfl rfl rfl) ?_
 refine DV.seq ?_
 refine DV.vc ?_
 refine VC.held (fun V => Frm [g4] W3 V) jK ?_
 have hS : Frm [g4] W3 W3.drew := (Frm.refl _ _).drew
 have n2 : g2 ∉ [g4] := by simp; omega
 have n7 : g7 ∉ [g4] := by simp; omega
 refine jH 0 rfl hS (fun w0 hw0 => Run.loadB rfl zbb zw (hb2.frm hw0 n2) hvs) ?_
 refine jH 1 rfl hS (fun w0 hw0 => Run.load rfl zbx ((hb7.frm hw0 n7).cell 0)) ?_
 refine qJ.st 2 rfl jK (qT.storeA rfl rfl (by rw [hvs]; exact zw) (hb4.drawn (qP.drew _)) (by rw [hvs]; rfl) hv1) trivial rfl ?_
 rintro W4 ⟨hb4, hf4, hs4⟩
 have hS := hS.trans hf4 (fun y hy => .inl hy)
 refine ⟨hS, ?_⟩
 have ho := ho.frm hS (fun y hy h => by rw [za] at h; exact (hu y hy).2 (by simp [h]))
 have hmk := hmk.frm hS (by simp; omega)
 have K := K.own hS (by simp; omega)
 refine jH 3 rfl hS (fun w0 hw0 => Run.asg rfl) ?_
 refine qJ.take (v := jI1 0) 4 rfl jK jK jK hS (fun w0 hw0 => Run.asg rfl) trivial rfl rfl ?_
 refine qJ.done jK ?_
 refine bL ?_
 refine DV.sub [(4, _), (5, _), (6, _)] (js3 rfl rfl rfl) ?_
 refine DV.vc (jT ?_)
 refine lC jp (fun d hd => by simp only [za] at hd; subst hd; exact hmk) (fun wz hsh => ?_)
 refine eO ?_
 refine cW rfl zbb zw ((hb4.frm hsh (by simp; omega)).cells) (by first | rfl | (simp; done) | (simp [*]; done)) ?_
 refine dH rfl ?_
 refine dH rfl ?_
 refine cY ?_
 rw [if_neg hc2]
 have hoz := ho.frm hsh (fun y hy h => by rw [za] at h; subst h; exact hmk.ne_own ho hy)
 rw [hlk] at hoz ⊢
 exact ⟨K.own hsh (by simp; omega), _, L, cl, rfl, ⟨hvs, hv1⟩, hoz.rd, hoz.le, fun y hy => by have := (hu y hy).1; omega⟩
end
end Go.Proofs.YtoniopdkbeogjaaGreat
