/-
  Lemmas on the way, joined: EngC, CmdA, CmdG, CmdB, CmdK, Shelf, SeqP, ParV, Sec0, SecV, SecU, ParW, SecR, SeqC, SecN, CmdD, SeqN, SeqK, CmdE, CmdF.
-/
import Derived.RangeFuncLeaves
import Derived.RangeFuncSeq
import Derived.RangeFuncOwn
import Derived.Sort.OwnSorted
import Derived.Deep.Strs
import Derived.Shelf.Strings.Builder1
import Derived.Shelf.Strings.Builder2
import Derived.Shelf.Strings.OnBuilder
import Derived.Shelf.Strings.Trim
import Derived.Shelf.Small.Utf8
import Derived.Shelf.Small.Strs
import Derived.Shelf.Small.Wraps
import Derived.Shelf.Strings.BuilderF
import Derived.Shelf.Strings.BuilderK
import Derived.Shelf.Strconv.Atoi
import Derived.Shelf.Strconv.Itoa0
import Derived.Shelf.Strconv.Itoa1
import Derived.Shelf.LaysM
import Derived.Shelf.Strconv.Itoa2
import Derived.Shelf.Strconv.Itoa3
import Derived.Shelf.Strconv.AtoiErrFast
import Derived.Shelf.Strconv.ParseIntEmpty
import Derived.Shelf.Strconv.AtoiFail
import Derived.Shelf.Strconv.Clone
import Derived.Shelf.Strconv.SyntaxError
import Derived.Shelf.LaysC
import Derived.Shelf.Strconv.ToError
import Derived.Shelf.Strconv.AtoiErr
import Derived.Shelf.Strconv.ErrVar
import Derived.Shelf.Strconv.Lower
import Derived.Shelf.Strconv.ParseUint10
import Derived.Shelf.Strconv.ParseUint10Empty
import Derived.Shelf.Strconv.ParseUint10Any
import Derived.Shelf.Strconv.ParseInt10
import Derived.Shelf.Strconv.AtoiLong
import Derived.Shelf.Strconv.AtoiInnerAll
import Derived.Shelf.Strconv.RangeError
import Derived.Shelf.Strconv.ToErrorRange
import Derived.Shelf.Strconv.AtoiAll
import Derived.Shelf.Strconv.ErrVarAll
import Derived.Shelf.Strings.Search1
import Derived.Shelf.Strings.Search2
import Derived.Shelf.Strings.Search3
import Derived.Shelf.Strings.Cut
import Derived.Shelf.Strings.Count
import Derived.Shelf.Strings.Shaped
import Derived.Shelf.GgClosure.StringsIndexFunc
import Derived.Ground.GgwProg
import Derived.Shelf.GgClosure.StringsIndexFuncTop
import Derived.Shelf.GgClosure.StringsRunes
import Derived.Shelf.Strings.Prefix
import Derived.Shelf.Strings.Split
import Derived.Shelf.Strings.SplitShaped
import Derived.Shelf.Strings.Runes
import Derived.Shelf.Strings.AsciiSet
import Derived.Shelf.Unicode.DecodeSlow
import Derived.Shelf.Unicode.DecodeAny
import Derived.Shelf.Unicode.DecodeLast
import Derived.Shelf.Strings.FuncGrows
import Derived.Test.YtjklfpccmaljjaaGreatDoorProg
import Derived.Lib.Bytealg
import Derived.Lib.SlicesCompact
import Derived.Test.YtjklfpccmaljjaaGreatDoorPk0
set_option maxRecDepth 100000
set_option linter.unusedVariables false
set_option linter.unusedSimpArgs false
set_option maxHeartbeats 8000000
namespace Go.Proofs.YtjklfpccmaljjaaGreatDoor
section
open Go.RowKit
def oL (ds : List Nat) : List Deferred := ds.map fun d => { target := .collected d, args := #[] }
abbrev DQ := Exit → List Nat → Env → World → Prop
def wU (m : Nat) (Q : DQ) (e : Exit) (a : Act) (w : World) : Prop := ∃ ds Γ, Sat ⟨m, oL ds, none⟩ Γ a ∧ Q e ds Γ w
def DV (P : Program) (m : Nat) (c : Code) (ds : List Nat) (Γ : Env) (w : World) (Q : DQ) : Prop := ∀ a, Sat ⟨m, oL ds, none⟩ Γ a → ∀ k, c.wpIn (wd none) k P (wU m Q) a w
def wB (K : List Nat → Env → World → Prop) (Q : DQ) : DQ
 | .normal, ds, Γ, w => K ds Γ w
 | e, ds, Γ, w => Q e ds Γ w
def oO (id : Nat) (Q : DQ) : DQ
 | .exit i, ds, Γ, w => if i = id then Q .normal ds Γ w else Q (.exit i) ds Γ w
 | e, ds, Γ, w => Q e ds Γ w
section
variable {P : Program} {m : Nat} {ds : List Nat} {Γ : Env} {w : World} {Q : DQ} {K : List Nat → Env → World → Prop} {i id : Nat}
theorem lU (h : K ds Γ w) : wB K Q .normal ds Γ w := h
theorem qZk (h : Q .ret ds Γ w) : wB K Q .ret ds Γ w := h
theorem qQ2 (h : Q .normal ds Γ w) : oO id Q .normal ds Γ w := h
theorem qQ3 (h : Q .ret ds Γ w) : oO id Q .ret ds Γ w := h
theorem DV.vc {c : Code} (h : VC P ⟨m, oL ds, none⟩ c Γ w (fun e Γ' w' => Q e ds Γ' w')) : DV P m c ds Γ w Q := fun a hs k =>
 wpIn_mono (h a hs k) fun _ _ _ ⟨Γ', hs', q⟩ => ⟨ds, Γ', hs', q⟩
theorem DV.sub {c : Code} (Γ' : Env) (hs : Sub Γ Γ') (h : DV P m c ds Γ' w Q) : DV P m c ds Γ w Q := fun a ha => h a (ha.sub hs)
theorem DV.seq {x y : Code} (h : DV P m x ds Γ w (wB (fun ds' Γ' w' => DV P m y ds' Γ' w' Q) Q)) : DV P m (.seq x y) ds Γ w Q := by
 intro a hs k
 refine wpIn_seq (wpIn_mono (h a hs k) ?_)
 intro e a' w' hq
 obtain ⟨ds', Γ', hs', q⟩ := hq
 cases e with
 | normal => exact q a' hs' k
 | exit id => exact ⟨ds', Γ', hs', q⟩
 | goto l => exact ⟨ds', Γ', hs', q⟩
 | ret => exact ⟨ds', Γ', hs', q⟩
 | panic c => exact ⟨ds', Γ', hs', q⟩
 | outgrown => exact ⟨ds', Γ', hs', q⟩
theorem DV.block {c : Code} (h : DV P m c ds Γ w (oO id Q)) : DV P m (.block id c) ds Γ w Q := by
 intro a hs k
 refine wpIn_block (wpIn_mono (h a hs k) ?_)
 intro e a' w' hq
 obtain ⟨ds', Γ', hs', q⟩ := hq
 cases e with
 | normal => exact ⟨ds', Γ', hs', q⟩
 | exit i =>
  simp only [oO] at q
  by_cases hi : i = id
  · rw [if_pos hi] at q; simp only [Exit.inBlock, hi, if_true]; exact ⟨ds', Γ', hs', q⟩
  rw [if_neg hi] at q; simp only [Exit.inBlock, hi, if_false]; exact ⟨ds', Γ', hs', q⟩
 | goto l => exact ⟨ds', Γ', hs', q⟩
 | ret => exact ⟨ds', Γ', hs', q⟩
 | panic c => exact ⟨ds', Γ', hs', q⟩
 | outgrown => exact ⟨ds', Γ', hs', q⟩
end
abbrev dV (w : World) (d : Nat) : Prop := w.heap[d]? = some (.deferred (some []))
theorem dV.frm {w w' : World} {S : List Nat} {d : Nat} (h : dV w d) (k : Frm S w w') (hd : d ∉ S) : dV w' d := (k.block d (Array.getElem?_eq_some_iff.1 h).1 hd).trans h
theorem dV.ne_blk {w : World} {d g : Nat} {t : TypeId} {cs : Array Value} (h : dV w d) (hb : Blk w g t cs) : d ≠ g := by
 rintro rfl
 unfold Blk at hb
 rw [h] at hb
 cases hb
theorem dV.ne_own {w : World} {d e size n c : Nat} {A : Option Addr} {xs : List Value} (h : dV w d) (ho : Own w e size A n c xs) : d ∉ ob A := by
 rcases ho.cases with ⟨rfl, _⟩ | ⟨g, cur, rfl, hb, _⟩
 · simp [ob]
 simp only [ob, zg]
 exact h.ne_blk hb
theorem Frm.putObj (w : World) (l : Nat) (o : Obj) : Frm [l] w (w.putObj l o) :=
 ⟨rfl, rfl, rfl, by simp [World.putObj], fun k _ hk => World.putObj_heap_other (fun e => hk (by simp [e]))⟩
def endD (P : Program) (res : Array ResultVar) (R : Ending → World → Prop) : DQ
 | .normal, ds, Γ, w | .ret, ds, Γ, w => ds.Nodup ∧ (∀ d ∈ ds, dV w d) ∧ ∀ w', Frm ds w w' → dD P res R .ret Γ w'
 | _, _, _, _ => False
section
variable {P : Program} {m : Nat} {ds : List Nat} {Γ : Env} {w : World} {res : Array ResultVar} {R : Ending → World → Prop}
theorem yN (h1 : ds.Nodup) (h2 : ∀ d ∈ ds, dV w d) (h : ∀ w', Frm ds w w' → dD P res R .ret Γ w') : endD P res R .ret ds Γ w := ⟨h1, h2, h⟩
theorem nZ {fn : Func} {tmps : Array Value} {k : Nat} {F : Fence} : ∀ (ds : List Nat) (w : World), ds.Nodup → (∀ d ∈ ds, dV w d) →
  (∀ w', Frm ds w w' → ∃ v, (results fn tmps).run P w' = .ok v w' ∧ R (.returned v) w') → LeavesInM F k P fn tmps R (oL ds) .returning w
 | [], w, _, _, h => by
  obtain ⟨v, h1, h2⟩ := h w (Frm.refl _ _)
  exact ⟨v, h1, h2⟩
 | d :: ds, w, hn, hm, h => by
  obtain ⟨hn1, hn2⟩ := zdp.1 hn
  refine ⟨jp, .inl ⟨d, w.putObj d (.deferred none), rfl, run_takeDeferred (hm d jp), ?_⟩⟩
  have hf := Frm.putObj w d (.deferred none)
  refine nZ ds _ hn2 (fun x hx => ?_) (fun w' hw' => h w' ?_)
  · exact (hm x (by simp [hx])).frm hf (by simp; rintro rfl; exact hn1 hx)
  exact (hf.mono (T := d :: ds) jp).trans hw' (fun x hx => .inl (by simp [hx]))
theorem DV.calls {f : FuncId} {fn : Func} {c : Code} {args : List Value} {nt : Nat} (hf : P.funcs[f]? = some fn) (hb : fn.body = some c) (hn : fn.ntmps = nt) (hr : fn.results = res) (hl0 : Nat.ble args.length nt = true)
  (h : DV P nt c [] (argEnv 0 args) w (endD P res R)) : Calls P f args.toArray w R := by
 have hl : args.length ≤ nt := zbe hl0
 refine callsIn_wide.1 (callsIn_of_wp_marks (F := Fence.wide) (n := 0) hf hb trivial ?_)
 refine wpIn_mono (h _ ?_ 0) ?_
 ·
  refine ⟨?_, rfl, ?_⟩
  ·
   simp only [zev, zcl, zdz, hn]
   omega
  intro t v ht
  obtain ⟨_, h2⟩ := kZ args 0 t v ht
  simp only [zeg] at h2
  have hlt : t < args.length := (List.getElem?_eq_some_iff.1 h2).1
  rw [zat, zcz (by simpa using hlt)]
  simp [h2]
 rintro e a w' ⟨ds, Γ, hs, hq⟩
 have key : ds.Nodup ∧ (∀ d ∈ ds, dV w' d) ∧ (∀ w'', Frm ds w' w'' → dD P res R .ret Γ w'') → LeavesInM Fence.wide 0 P fn a.tmps R a.defers .returning w' := by
  rintro ⟨h1, h2, h3⟩
  rw [hs.defers]
  refine nZ ds w' h1 h2 (fun w'' hw'' => ?_)
  obtain ⟨vs, h4, h5⟩ := dC hs hr (h3 w'' hw'')
  exact ⟨_, h4, h5⟩
 cases e with
 | normal => exact key hq
 | ret => exact key hq
 | _ => exact hq.elim
end
def oV (P : Program) (l : Nat) (args : Array Value) (W : World) (R : Ending → World → Prop) : Prop := ∀ k, YieldAt (wd none) k P l args W R
def Off (Bt : List Nat) (W W' : World) : Prop := ∃ C, Frm C W W' ∧ ∀ b ∈ Bt, b ∉ C
theorem Off.blk {Bt : List Nat} {W W' : World} {g : Nat} {t : TypeId} {cs : Array Value} (h : Off Bt W W') (hb : Blk W g t cs) (hg : g ∈ Bt) : Blk W' g t cs := by
 obtain ⟨C, hf, hC⟩ := h
 exact hb.frm hf (hC g hg)
def Iter {α : Type} (P : Program) (gf : FuncId) (lb : Array Value) (encs : α → Array Value) (B Bt : List Nat) (Kp : World → Prop) (xs : List α) : Prop :=
 ∀ (l : Nat) (J Jx : List α → World → Prop) (W : World),
  (∀ pre W W', J pre W → Frm B W W' → J pre W') → (∀ pre W W', Jx pre W → Frm B W W' → Jx pre W') → Kp W →
  (∀ pre x W1, J pre W1 → (pre ++ [x]) <+: xs → oV P l (encs x) W1 fun e W' => Off Bt W1 W' ∧ ((e = .returned (.bool true) ∧ J (pre ++ [x]) W') ∨ (e = .returned (.bool false) ∧ Jx (pre ++ [x]) W'))) →
  J [] W → Calls P gf (#[.func (.yield l) #[] #[]] ++ lb) W fun e W' => (∃ v, e = .returned v) ∧ (J xs W' ∨ ∃ pre, Jx pre W')
theorem Ops.yield {P : Program} {n : NF} {Γ : Env} {w : World} {Q : Exit → Env → World → Prop} {ops : Array Oper} {rest : List Oper} {dst : Option Tmp} {T : TypeId} {pos : String} {after : Array Edge} {l : Nat} {c : Operand} {xs : List Operand} {vs : List Value} {ts : Array TypeId} {R : Ending → World → Prop}
  (hro : n.ro = none) (hc : ev? Γ c = some (.func (.yield l) #[] #[])) (hv : evs Γ xs vs) (hy : oV P l vs.toArray w R) {d : Nat} (hd : dst = some d) (hn : Nat.blt d n.n = true)
  (k : ∀ e w', R e w' → ∃ v, e = .returned v ∧ Ops P n ops rest ((d, v) :: Γ) w' Q) : Ops P n ops (⟨dst, .call ⟨.value c, xs.toArray, ts⟩, T, pos, after, none⟩ :: rest) Γ w Q :=
 Ops.of_wp trivial fun a hs m => by
  rw [hro]
  refine ⟨dK, ?_⟩
  obtain ⟨fn, tmps, assign, body, h1, h2⟩ := hy (m - 1)
  have e1 := eI hs.fits xs vs hv
  have e2 : a.eval c = .func (.yield l) #[] #[] := hs.fits _ _ hc
  have hrun : (execOp a.eval ⟨dst, .call ⟨.value c, xs.toArray, ts⟩, T, pos, after, none⟩).run P w = .ok (.round l fn tmps assign body) w := by
   simp [execOp, resolve, e2, Deferred.ofValue, invoke, callFunc, e1, h1]
  rw [fL hrun jp, Oper.uponIn_round, hd]
  refine ⟨fun h => by simp [wd, Fence.wide] at h, h2.mono ?_⟩
  intro e w' hR
  obtain ⟨v, rfl, hk⟩ := k e w' hR
  have := hk _ (hs.put hn v) m
  rw [hro] at this
  exact this
theorem KeepsOthers.of_frm {S : List Nat} {W W' : World} (h : Frm S W W') (hS : ∀ b ∈ S, ∀ o, W.heap[b]? = some o → o.isCells = true) : KeepsOthers W W' :=
 ⟨h.size, fun k o hk ho => (h.block k (Array.getElem?_eq_some_iff.1 hk).1 (fun hx => by have := hS k hx o hk; rw [ho] at this; cases this)).trans hk⟩
def lX (Bt : List Nat) (W W' : World) : Prop := ∃ C, Frm C W W' ∧ ∀ b ∈ C, b ∉ Bt ∧ ∀ o, W.heap[b]? = some o → o.isCells = true
theorem lX.off {Bt : List Nat} {W W' : World} (h : lX Bt W W') : Off Bt W W' := by
 obtain ⟨C, hf, hC⟩ := h
 exact ⟨C, hf, fun b hb hx => (hC b hx).1 hb⟩
theorem lX.others {Bt : List Nat} {W W' : World} (h : lX Bt W W') : KeepsOthers W W' := by
 obtain ⟨C, hf, hC⟩ := h
 exact KeepsOthers.of_frm hf fun b hb o ho => (hC b hb).2 o ho
theorem Blk.isC {W : World} {g : Nat} {t : TypeId} {cs : Array Value} (hb : Blk W g t cs) : ∀ o, W.heap[g]? = some o → o.isCells = true := fun o ho => by
 unfold Blk at hb
 rw [hb] at ho
 cases ho; rfl
theorem Own.isC {W : World} {e size n c : Nat} {A : Option Addr} {xs : List Value} (ho : Own W e size A n c xs) : ∀ g ∈ ob A, ∀ o, W.heap[g]? = some o → o.isCells = true := by
 rcases ho.cases with ⟨rfl, _⟩ | ⟨g, cur, rfl, hb, _⟩
 · simp [ob]
 intro x hx
 simp only [ob, zg] at hx
 subst hx
 exact hb.isC
def qJp {α : Type} (Bt : List Nat) (I : List α → World → Prop) (Ix : Exit → List α → World → Prop) (xs : List α) (W : World) : Exit → Env → World → Prop
 | .normal, _, W' => lX Bt W W' ∧ I xs W'
 | .ret, _, W' => lX Bt W W' ∧ Ix .ret xs W'
 | .exit id, _, W' => lX Bt W W' ∧ Ix (.exit id) xs W'
 | _, _, _ => False
theorem nJ : ∀ (l : List (Nat × Value)) (tmps : Array Value) (Γ : Env) (N : Nat), tmps.size = N → (∀ t v, get? Γ t = some v → tmps.getD t undef = v) → (∀ x ∈ l, x.1 < N) →
  (l.foldl (fun t (x : Nat × Value) => t.setIfInBounds x.1 x.2) tmps).size = N ∧ ∀ t v, get? (l.reverse ++ Γ) t = some v → (l.foldl (fun t (x : Nat × Value) => t.setIfInBounds x.1 x.2) tmps).getD t undef = v
 | [], tmps, Γ, N, hN, h, _ => ⟨hN, by simpa using h⟩
 | (p, u) :: r, tmps, Γ, N, hN, h, hl => by
  have hp : p < tmps.size := by rw [hN]; exact hl (p, u) jp
  have h1 := nJ r (tmps.setIfInBounds p u) ((p, u) :: Γ) N (by simpa using hN) (fun t v ht => by
   simp only [get?] at ht
   cases hq : Nat.beq p t with
   | true =>
    rw [hq] at ht
    simp only [cond_true, Option.some.injEq] at ht
    subst ht
    rw [← zaa hq]
    simp [zat, hp]
   | false =>
    rw [hq] at ht
    simp only [cond_false] at ht
    have hne : p ≠ t := fun e => by subst e; rw [Nat.beq_refl] at hq; cases hq
    have := h t v ht
    rw [zat, Array.getElem?_setIfInBounds_ne hne, ← zat]
    exact this) (fun x hx => hl x (by simp [hx]))
  rw [List.foldl_cons]
  have e : ((p, u) :: r).reverse ++ Γ = r.reverse ++ (p, u) :: Γ := jp
  rw [e]
  exact h1
abbrev NC (w W : World) (B S : List Nat) : Prop := ∀ b ∈ S, b ∈ B ∨ (w.heap.size ≤ b ∧ ∀ o, W.heap[b]? = some o → o.isCells = false)
theorem Blk.nc {w W : World} {B S : List Nat} {g : Nat} {t : TypeId} {cs : Array Value} (hb : Blk W g t cs) (hS : NC w W B S) (hg : g ∉ B) : g ∉ S := fun h => by
 rcases hS g h with h1 | ⟨_, h1⟩
 · exact hg h1
 have := h1 _ hb
 cases this
theorem Own.nc {w W : World} {B S : List Nat} {e size n c : Nat} {A : Option Addr} {xs : List Value} (ho : Own W e size A n c xs) (hS : NC w W B S) (hg : ∀ x ∈ ob A, x ∉ B) : ∀ x ∈ ob A, x ∉ S := by
 rcases ho.cases with ⟨rfl, _⟩ | ⟨g, cur, rfl, hb, _⟩
 · simp [ob]
 intro x hx
 have hx2 := hg x hx
 simp only [ob, zg] at hx
 subst hx
 exact hb.nc hS hx2
theorem Frm.nc {w0 w W W' : World} {B S : List Nat} (h : Frm [] w0 W) (k : Frm S W W') (hS : NC w W B S) (hB : ∀ b ∈ B, w0.heap.size ≤ b) (hw : w0.heap.size ≤ w.heap.size) : Frm [] w0 W' := h.own k fun b hb => by
 rcases hS b hb with h1 | ⟨h1, _⟩
 · exact hB b h1
 omega
theorem DV.range {α : Type} {P : Program} {m : Nat} {ds : List Nat} {Γ : Env} {w : World} {Q : DQ} {g : Operand} {ps : List Tmp} {assign body : Code} {gf : FuncId} {lb : Array Value} {Kp : World → Prop} {xs : List α} {B Bt : List Nat} (encs : α → List Value)
  (hit : Iter P gf lb (fun x => (encs x).toArray) B Bt Kp xs) (hg : ev? Γ g = some (.func (.func gf) #[] lb)) (eg : ∀ args w, (callFunc gf args).run P w = .ok (.enter gf args) w) (hps : ∀ x, (encs x).length = ps.length) (hpm : (ps.all fun p => Nat.blt p m) = true)
  (I : List α → World → Prop) (Ix : Exit → List α → World → Prop) (ΓA : α → Env)
  (hI : ∀ pre W W' S, I pre W → Frm S W W' → NC w W B S → I pre W') (hIx : ∀ e pre W W' S, Ix e pre W → Frm S W W' → NC w W B S → Ix e pre W') (hK : ∀ W, Frm [] w W → Kp W) (hB : ∀ b ∈ B, b ∈ Bt) (hBt : ∀ b ∈ Bt, b < w.heap.size) (h0 : I [] w)
  (hassign : ∀ l x W, VC P ⟨m, [], some l⟩ assign ((ps.zip (encs x)).reverse ++ Γ) W (fT (fun Γ' W' => W' = W ∧ Sub Γ' (ΓA x)) (fun _ _ _ => False)))
  (hbody : ∀ l pre x W, I pre W → (pre ++ [x]) <+: xs → w.heap.size + 2 ≤ W.heap.size → dV W w.heap.size → VC P ⟨m, [], some l⟩ body (ΓA x) W (qJp Bt I Ix (pre ++ [x]) W))
  (hdone : ∀ W, I xs W → w.heap.size + 2 ≤ W.heap.size → dV W w.heap.size → Q .normal (w.heap.size :: ds) Γ W)
  (hret : ∀ pre W, Ix .ret pre W → w.heap.size + 2 ≤ W.heap.size → dV W w.heap.size → Q .ret (w.heap.size :: ds) Γ W)
  (hexit : ∀ id pre W, Ix (.exit id) pre W → w.heap.size + 2 ≤ W.heap.size → dV W w.heap.size → Q (.exit id) (w.heap.size :: ds) Γ W) : DV P m (.rangeFunc g ps.toArray assign body) ds Γ w Q := by
 intro a hs k
 refine wpIn_rangeFunc ?_
 intro fn hfn
 obtain ⟨rec, hrec⟩ : ∃ rec : LoopState → Option Code → Loop, rec = fun st pe => { state := st, pending := pe, fn, tmps := a.tmps, params := ps.toArray, assign, body, defers := w.heap.size } := ⟨_, rfl⟩
 obtain ⟨W1, hW1⟩ : ∃ W1, (w.alloc (.deferred (some []))).alloc (.loop (rec .ready none)) = W1 := ⟨_, rfl⟩
 have hL1 : W1.heap[w.heap.size + 1]? = some (.loop (rec .ready none)) := by
  rw [← hW1]; have := World.alloc_heap_new (w.alloc (.deferred (some []))) (.loop (rec .ready none)); rwa [World.size_alloc] at this
 have hK1 : dV W1 w.heap.size := by
  rw [← hW1]; exact (Below.heap_alloc _ _ _ jp).trans (World.alloc_heap_new w _)
 have hF1 : Frm [] w W1 := by rw [← hW1]; exact ((Frm.refl [] w).alloc _).alloc _
 have hI1 : I [] W1 := hI [] w W1 [] h0 hF1 (fun b hb => by cases hb)
 have hsz : ∀ W : World, ∀ r, W.heap[w.heap.size + 1]? = some (.loop r) → w.heap.size + 2 ≤ W.heap.size := fun W r h => by
  have := (Array.getElem?_eq_some_iff.1 h).1; omega
 have hnc : ∀ W r, W.heap[w.heap.size + 1]? = some (.loop r) → NC w W B [w.heap.size + 1] := fun W r h b hb => by
  simp only [zg] at hb
  subst hb
  refine .inr ⟨jo, fun o ho => by rw [h] at ho; cases ho; rfl⟩
 have hmk : ∀ (W : World) o, dV W w.heap.size → dV (W.putObj (w.heap.size + 1) o) w.heap.size := fun W o h => (World.putObj_heap_other jo).trans h
 refine ⟨w.heap.size + 1, [{ target := .collected w.heap.size, args := #[] }], W1, { target := .fn (.func gf) lb, args := #[.func (.yield (w.heap.size + 1)) #[] #[]] }, W1, gf,
  #[.func (.yield (w.heap.size + 1)) #[] #[]] ++ lb, W1, ?_, ?_, fun _ _ => trivial, ?_, fun h => by simp [wd, Fence.wide] at h, ?_⟩
 · rw [← hW1, hrec]; exact run_enterLoop_outer _ _ _ _ _
 ·
  have e1 : a.eval g = .func (.func gf) #[] lb := hs.fits _ _ hg
  simp only [resolve, e1]
  simp [go_sem]
 · simp [invoke, go_sem, eg]
 let J : List α → World → Prop := fun pre W => I pre W ∧ W.heap[w.heap.size + 1]? = some (.loop (rec .ready none)) ∧ dV W w.heap.size
 let Jx : List α → World → Prop := fun pre W => ((Ix .ret pre W ∧ W.heap[w.heap.size + 1]? = some (.loop (rec .done (some .ret)))) ∨ ∃ id, Ix (.exit id) pre W ∧ W.heap[w.heap.size + 1]? = some (.loop (rec .done (some (.exit id))))) ∧ dV W w.heap.size
 have keepL : ∀ {W W' : World} {r}, Frm B W W' → W.heap[w.heap.size + 1]? = some (.loop r) → W'.heap[w.heap.size + 1]? = some (.loop r) := fun hf h => (hf.block _ (Array.getElem?_eq_some_iff.1 h).1 (fun hx => by have := hBt _ (hB _ hx); omega)).trans h
 have keepM : ∀ {W W' : World}, Frm B W W' → dV W w.heap.size → dV W' w.heap.size := fun hf h => h.frm hf (fun hx => by have := hBt _ (hB _ hx); omega)
 refine kX.2 ((hit (w.heap.size + 1) J Jx W1 ?_ ?_ (hK _ hF1) ?_ ⟨hI1, hL1, hK1⟩).mono ?_)
 ·
  rintro pre W W' ⟨h1, h2, h3⟩ hf
  exact ⟨hI pre W W' B h1 hf (fun b hb => .inl hb), keepL hf h2, keepM hf h3⟩
 ·
  rintro pre W W' ⟨h1, h3⟩ hf
  refine ⟨?_, keepM hf h3⟩
  rcases h1 with ⟨h1, h2⟩ | ⟨id, h1, h2⟩
  · exact .inl ⟨hIx _ pre W W' B h1 hf (fun b hb => .inl hb), keepL hf h2⟩
  exact .inr ⟨id, hIx _ pre W W' B h1 hf (fun b hb => .inl hb), keepL hf h2⟩
 ·
  rintro pre x W ⟨hi, hl, hk⟩ hpre k'
  have hlt : w.heap.size + 1 < W.heap.size := (Array.getElem?_eq_some_iff.1 hl).1
  have hy := run_yield (P := P) (args := (encs x).toArray) hl (by rw [hrec]; simpa using hps x)
  rw [hrec] at hy
  refine ⟨fn, _, assign, body, hy, roundIn_of_wpIn hfn ?_⟩
  have hz : (ps.toArray.zip (encs x).toArray).foldl (fun tmps (t, a) => tmps.setIfInBounds t a) a.tmps = (ps.zip (encs x)).foldl (fun t (x : Nat × Value) => t.setIfInBounds x.1 x.2) a.tmps := by
   simp [List.zip_toArray]
  obtain ⟨hfs, hfg⟩ := nJ (ps.zip (encs x)) a.tmps Γ m hs.size hs.at_ (fun y hy => by
   have h1 := (List.of_mem_zip hy).1
   have h2 := List.all_eq_true.1 hpm _ h1
   simpa [Nat.blt_eq] using h2)
  dsimp only
  rw [hz]
  refine wpIn_mono (hassign (w.heap.size + 1) x W { tmps := (ps.zip (encs x)).foldl (fun t (x : Nat × Value) => t.setIfInBounds x.1 x.2) a.tmps, defers := [] } ⟨hfs, rfl, hfg⟩ k') ?_
  rintro e a1 W' ⟨Γ1, hs1, hq1⟩
  cases e with
  | normal =>
   obtain ⟨rfl, hsub⟩ := hq1
   have hl2 : (W'.putObj (w.heap.size + 1) (.loop { rec .ready none with state := .busy })).heap[w.heap.size + 1]? = some (.loop { rec .ready none with state := .busy }) := World.putObj_heap_same hlt
   have hf2 := Frm.putObj W' (w.heap.size + 1) (.loop { rec .ready none with state := .busy })
   have hi2 := hI pre _ _ _ hi hf2 (hnc _ _ hl)
   refine ⟨_, run_beginRound hl (by rw [hrec]), ?_⟩
   refine wpIn_mono (hbody (w.heap.size + 1) pre x _ hi2 hpre (hsz _ _ hl2) (hmk _ _ hk) a1 (hs1.sub hsub) k') ?_
   have fin : ∀ (jump : Option Code) (W3 : World), KeepsOthers (W'.putObj (w.heap.size + 1) (.loop { rec .ready none with state := .busy })) W3 →
     (Instr.endRound (w.heap.size + 1) jump).run P W3 = .ok (.bool jump.isNone) (W3.putObj (w.heap.size + 1) (.loop (rec (if jump.isNone then .ready else .done) jump))) ∧
     W3.heap[w.heap.size + 1]? = some (.loop { rec .ready none with state := .busy }) ∧
     (W3.putObj (w.heap.size + 1) (.loop (rec (if jump.isNone then .ready else .done) jump))).heap[w.heap.size + 1]? = some (.loop (rec (if jump.isNone then .ready else .done) jump)) ∧
     dV (W3.putObj (w.heap.size + 1) (.loop (rec (if jump.isNone then .ready else .done) jump))) w.heap.size := fun jump W3 hk3 => by
    have hl3 := hk3.same _ _ hl2 rfl
    have := run_endRound (P := P) jump hl3
    rw [hrec] at this ⊢
    exact ⟨this, by rw [hrec] at hl3; exact hl3, World.putObj_heap_same (Array.getElem?_eq_some_iff.1 hl3).1, hmk _ _ (hk3.same _ _ (hmk _ _ hk) rfl)⟩
   have offs : ∀ {W3 : World} {o : Obj}, lX Bt (W'.putObj (w.heap.size + 1) (.loop { rec .ready none with state := .busy })) W3 → Off Bt W' (W3.putObj (w.heap.size + 1) o) := fun {W3 o} hw => by
    obtain ⟨C, hf, hC⟩ := hw.off
    refine ⟨(w.heap.size + 1) :: C, ((hf2.mono (T := (w.heap.size + 1) :: C) jp).trans hf (fun x hx => .inl (by simp [hx]))).trans (Frm.putObj W3 _ o) jp, fun b hb hx => ?_⟩
    rcases zab.1 hx with rfl | hx
    · have := hBt _ hb; omega
    exact hC b hb hx
   rintro e a3 W3 ⟨Γ3, _, hp⟩
   cases e with
   | normal =>
    obtain ⟨hk3, hi3⟩ := hp
    obtain ⟨hr, hl3, hl4, hk4⟩ := fin none W3 hk3.others
    exact ⟨_, _, hr, offs hk3, .inl ⟨rfl, hI _ _ _ _ hi3 (Frm.putObj W3 _ _) (hnc _ _ hl3), hl4, hk4⟩⟩
   | ret =>
    obtain ⟨hk3, hi3⟩ := hp
    obtain ⟨hr, hl3, hl4, hk4⟩ := fin (some .ret) W3 hk3.others
    exact ⟨_, _, hr, offs hk3, .inr ⟨rfl, .inl ⟨hIx _ _ _ _ _ hi3 (Frm.putObj W3 _ _) (hnc _ _ hl3), hl4⟩, hk4⟩⟩
   | exit id =>
    obtain ⟨hk3, hi3⟩ := hp
    obtain ⟨hr, hl3, hl4, hk4⟩ := fin (some (.exit id)) W3 hk3.others
    exact ⟨_, _, hr, offs hk3, .inr ⟨rfl, .inr ⟨id, hIx _ _ _ _ _ hi3 (Frm.putObj W3 _ _) (hnc _ _ hl3), hl4⟩, hk4⟩⟩
   | goto t => exact hp.elim
   | panic ch => exact hp.elim
   | outgrown => exact hp.elim
  | exit id => exact hq1.elim
  | goto t => exact hq1.elim
  | ret => exact hq1.elim
  | panic ch => exact hq1.elim
  | outgrown => exact hq1.elim
 have hs' : Sat ⟨m, oL (w.heap.size :: ds), none⟩ Γ { a with defers := [{ target := .collected w.heap.size, args := #[] }] ++ a.defers } := ⟨hs.size, by show [_] ++ a.defers = _; rw [hs.defers]; rfl, hs.at_⟩
 rintro e W2 ⟨⟨v, rfl⟩, (⟨hi, hl, hk⟩ | ⟨pre, h1, hk⟩)⟩
 ·
  have hend := run_endLoop (P := P) hl (by rw [hrec]; simp)
  refine ⟨none, _, by rw [hend, hrec], ?_⟩
  exact ⟨_, Γ, hs', hdone _ (hI _ _ _ _ hi (Frm.putObj _ _ _) (hnc _ _ hl)) (zr (hsz _ _ hl) (Frm.putObj _ _ _).size) (hmk _ _ hk)⟩
 rcases h1 with ⟨hi, hl⟩ | ⟨id, hi, hl⟩
 ·
  have hend := run_endLoop (P := P) hl (by rw [hrec]; simp)
  refine ⟨some .ret, _, by rw [hend, hrec], ?_⟩
  exact wpIn_ret (Q := wU m Q) ⟨_, Γ, hs', hret _ _ (hIx _ _ _ _ _ hi (Frm.putObj _ _ _) (hnc _ _ hl)) (zr (hsz _ _ hl) (Frm.putObj _ _ _).size) (hmk _ _ hk)⟩
 have hend := run_endLoop (P := P) hl (by rw [hrec]; simp)
 refine ⟨some (.exit id), _, by rw [hend, hrec], ?_⟩
 exact wpIn_exit (Q := wU m Q) ⟨_, Γ, hs', hexit _ _ _ (hIx _ _ _ _ _ hi (Frm.putObj _ _ _) (hnc _ _ hl)) (zr (hsz _ _ hl) (Frm.putObj _ _ _).size) (hmk _ _ hk)⟩
end
section
open Go.RowKit Go.Sort
abbrev Tx := List UInt8
def SB (ss : List Tx) : List Value := ss.map encStr
theorem tJ (ss : List Tx) : ∀ u ∈ SB ss, u.oneCell' = true := by
 intro u hu
 obtain ⟨b, _, rfl⟩ := List.mem_map.1 hu
 rfl
theorem rS (a b : List Tx) : SB (a ++ b) = SB a ++ SB b := by simp [SB]
theorem qKf {w : World} {A : Option Addr} {ss : List Tx} {k : Nat} (h : Rd w 1 A ss.length (SB ss)) (hk : k < ss.length) : ∃ ad, A = some ad ∧ w.cell? (ad.add k) = some (encStr ss[k]) := by
 obtain ⟨ad, u, hA, hu, hc⟩ := h.at1 hk
 refine ⟨ad, hA, ?_⟩
 rw [hc, ← hu]
 simp [SB, zb hk]
end
section
open Go.RowKit Go.ChangeShapes Go.WideShapes Go.Deep
section
variable {H : Type} {enc : TypeId × Value → H} {P : Program} {w : World} {base : Nat} {spare : Nat → Bool} {held : Bool} {n : Nat} {cs : List Value} {x : DataW H × List MemPlace} {t e : TypeId}
theorem qQ4 {k : IntKind} (ht : P.underlying t = some (.int k)) (h : DataW.trod enc P w base spare held n t cs = some x) : ∃ z, cs = [.int k z] ∧ (Lit.int k z).wf = true := by
 obtain ⟨z, h1, _, h2⟩ := DataW.trod_int ht h
 exact ⟨z, h1, h2⟩
theorem qQ5 (ht : P.underlying t = some .string) (h : DataW.trod enc P w base spare held n t cs = some x) : ∃ q : Tx, cs = [encStr q] ∧ q.length ≤ 9223372036854775807 := by
 obtain ⟨s, h1, _, h2⟩ := DataW.trod_string ht h
 exact ⟨s.data.toList, h1, by simpa [maxLen] using h2⟩
end
end
section
open Go.RowKit
abbrev Tk := Int × Tx
def tk0 : Tk := (0, [])
def tkC (x : Tk) : List Value := [.int .i64 x.1, encStr x.2]
theorem qZl (x : Tk) : (tkC x).length = 2 := rfl
theorem eW (x : Tk) : ∀ u ∈ tkC x, u.oneCell' = true := by
 intro u hu
 simp only [tkC, zab, zag, or_false] at hu
 rcases hu with rfl | rfl <;> rfl
structure RdT (w : World) (A : Option Addr) (n : Nat) (l : List Tk) : Prop where
 len : l.length = n
 rd : Rd w 2 A n (l.flatMap tkC)
theorem RdT.frm {w w' : World} {S : List Nat} {A : Option Addr} {n : Nat} {l : List Tk} (h : RdT w A n l) (k : Frm S w w') (hS : 0 < n → ∀ x ∈ ob A, x ∉ S) : RdT w' A n l := ⟨h.len, h.rd.frm k hS⟩
theorem RdT.cell {w : World} {A : Option Addr} {n : Nat} {l : List Tk} (h : RdT w A n l) {k : Nat} (hk : k < n) : ∃ ad, A = some ad ∧ ∀ W, Frm [] w W → ∀ j v, (tkC (l.getD k tk0))[j]? = some v → W.cell? ((ad.add (k * 2)).add j) = some v := by
 have key : ∀ W, Frm [] w W → ∃ ad, A = some ad ∧ ∀ j v, (tkC (l.getD k tk0))[j]? = some v → W.cell? ((ad.add (k * 2)).add j) = some v := fun W hW => by
  have h1 := h.rd.frm hW jp
  rw [← h.len] at h1 hk
  obtain ⟨ad, h2, hc⟩ := h1.elem hk
  refine ⟨ad, h2, fun j v hj => hc j v ?_⟩
  rw [kN tkC 2 qZl l k hk]
  rw [zf, zb hk] at hj
  exact hj
 obtain ⟨ad, h1, _⟩ := key w (Frm.refl _ _)
 refine ⟨ad, h1, fun W hW => ?_⟩
 obtain ⟨a2, h2, h3⟩ := key W hW
 rw [h1] at h2
 cases h2
 exact h3
theorem wC {w : World} {A : Option Addr} {n : Nat} {l : List Int} (h : Rd w 1 A n (IB l)) (hn : l.length = n) {k : Nat} (hk : k < n) : ∃ ad, A = some ad ∧ w.cell? (ad.add k) = some (.int .i64 (l.getD k 0)) := by
 obtain ⟨ad, h1, _, hc⟩ := h.2 jo
 exact ⟨ad, h1, hc k _ (by simp [IB, zf, zb (jo : k < l.length)])⟩
def cY : List PanicEntry := [{ v := .iface 89 (.agg #[]), recovered := false }]
structure IsCp (w : World) (gp gc : Nat) (A : Option Addr) (n c : Nat) (tk : List Tk) (q : Nat) (cs : Array Value) : Prop where
 p : Blk w gp 64 #[.slice A n c, jI1 q, jI0 gc]
 k : Blk w gc 34 cs
 sz : cs.size = 20
 tk : RdT w A n tk
 le : q ≤ n
 big : n ≤ 100000
 off : 0 < n → ∀ x ∈ ob A, x ≠ gp ∧ x ≠ gc
section
variable {w w' : World} {gp gc : Nat} {A : Option Addr} {n c : Nat} {tk : List Tk} {q q' : Nat} {cs cs' : Array Value}
theorem IsCp.ne (h : IsCp w gp gc A n c tk q cs) : gp ≠ gc := h.p.ne h.k jd
theorem IsCp.frm (h : IsCp w gp gc A n c tk q cs) (k : Frm [] w w') : IsCp w' gp gc A n c tk q cs := ⟨h.p.frm k jp, h.k.frm k jp, h.sz, h.tk.frm k jp, h.le, h.big, h.off⟩
theorem IsCp.lt (h : IsCp w gp gc A n c tk q cs) : gp < w.heap.size ∧ gc < w.heap.size := ⟨h.p.lt, h.k.lt⟩
theorem IsCp.step (h : IsCp w gp gc A n c tk q cs) (hb : Blk w' gp 64 #[.slice A n c, jI1 q', jI0 gc]) (k : Frm [gp] w w') (hl : q' ≤ n) : IsCp w' gp gc A n c tk q' cs :=
 ⟨hb, h.k.frm k (by simp; exact fun e => h.ne e.symm), h.sz, h.tk.frm k (fun h0 x hx e => (h.off h0 x hx).1 (by simpa using e)), hl, h.big, h.off⟩
theorem IsCp.turn (h : IsCp w gp gc A n c tk q cs) (hb : Blk w' gc 34 cs') (hs : cs'.size = 20) (k : Frm [gc] w w') : IsCp w' gp gc A n c tk q cs' :=
 ⟨h.p.frm k (by simp; exact h.ne), hb, hs, h.tk.frm k (fun h0 x hx e => (h.off h0 x hx).2 (by simpa using e)), h.le, h.big, h.off⟩
end
def IsT (tk : List Tk) (k : Nat) (kind : Int) : Prop := k < tk.length ∧ (tk.getD k tk0).1 = kind
instance (tk : List Tk) (k : Nat) (kind : Int) : Decidable (IsT tk k kind) := by unfold IsT; infer_instance
def qW (tk : List Tk) (q : Nat) (ks : List Int) : Option Tx := if q < tk.length ∧ (tk.getD q tk0).1 ∈ ks then some (tk.getD q tk0).2 else none
theorem bL {tk : List Tk} {q N : Nat} {ks : List Int} {s : Tx} (h : qW tk q ks = some s) (hl : ∀ x ∈ tk, x.2.length ≤ N) : s.length ≤ N := by
 unfold qW at h
 split at h
 ·
  next hc =>
  injection h with h
  rw [← h, zf, zb hc.1]
  exact hl _ (zaj _)
 cases h
theorem bZ (b : Bool) (w : World) : Calls Tryz.prog 20 #[.bool b] w fun e w' => w = w' ∧ e = if b = true then .returned (.tuple #[]) else .panicked cY := by
 refine jV Tryz.func20 Tryz.ntmps20 Tryz.results20 ?_
 refine jS (jR (jm rfl (je (Run.not rfl) (jO (jN (jv1 3 ?_))))))
 refine VC.condB rfl (fun hc1 => ?_) (fun hc1 => ?_)
 ·
  refine jR (je (Run.build evs.nil yH (lL).choose_spec.1 (lL).choose_spec.2 rfl) (je (Run.mkIface rfl Tryz.underlying89 rfl) ?_))
  refine Ops.pn rfl (qP ?_)
  exact ⟨rfl, by cases b <;> simp at hc1 ⊢; rfl⟩
 refine jQ ?_
 refine cB ?_
 exact ⟨rfl, by cases b <;> simp at hc1 ⊢⟩
theorem dR (k : Nat) (kind : Int) (gp gc : Nat) (A : Option Addr) (n c : Nat) (tk : List Tk) (q : Nat) (cs : Array Value) (w : World) (hP : IsCp w gp gc A n c tk q cs) (hk : k ≤ 10) : Calls Tryz.prog 61 #[jI0 gp, jI1 k, .int .i64 kind] w fun e w' => Frm [] w w' ∧ e = .returned (.bool (decide (IsT tk (q + k) kind))) := by
 have hb := hP.p
 have hle := hP.le
 have hbig := hP.big
 have hln := hP.tk.len
 have hit : IsT tk (q + k) kind ↔ (q + k < n ∧ (tk.getD (q + k) tk0).1 = kind) := by unfold IsT; rw [hln]
 refine jV Tryz.func61 Tryz.ntmps61 Tryz.results61 ?_
 refine jS (jR (ja rfl (jO (jN (jv3 0 1 2 ?_)))))
 refine jS ?_
 refine VC.splitR [] (qL w) 6 (.bool (decide (IsT tk (q + k) kind))) ?_ ?_
 ·
  refine VC.still jK jK ?_
  refine qM ?_
  refine qE (Run.nilck rfl) ?_
  refine qE (Run.fieldAddr rfl zk rfl zc jd) ?_
  refine qE (Run.load rfl zi ((hb.drawn (qL.drew _)).cell 1)) ?_
  refine qM ?_
  refine qE (Run.bin rfl rfl (Bin.add_i64 _ _ jo)) ?_
  refine qM ?_
  refine qE (Run.nilck rfl) ?_
  refine qE (Run.fieldAddr rfl zk rfl zcy jd) ?_
  refine qE (Run.load rfl zbu ((hb.drawn (qL.drew _)).cell 0)) ?_
  refine qE (Run.lenS rfl zs) ?_
  refine qE (Run.bin rfl rfl (Bin.lssN _ _)) ?_
  by_cases hs18 : q + k < n
  ·
   obtain ⟨ad, hA, hel⟩ := hP.tk.cell hs18
   subst hA
   refine qM ?_
   refine qG (Run.mv rfl) ?_
   refine qG (Run.nilck rfl) ?_
   refine qG (Run.fieldAddr rfl zk rfl zcy jd) ?_
   refine qG (Run.load rfl zbu ((hb.drawn (qL.drew _)).cell 0)) ?_
   refine qG (Run.mv rfl) ?_
   refine qG (Run.nilck rfl) ?_
   refine qG (Run.fieldAddr rfl zk rfl zc jd) ?_
   refine qG (Run.load rfl zi ((hb.drawn (qL.drew _)).cell 1)) ?_
   refine qG (Run.mv rfl) ?_
   refine qG (Run.bin rfl rfl (Bin.add_i64 _ _ jo)) ?_
   refine qG (Run.indexS _ rfl rfl zs zw jo) ?_
   refine qG (Run.fieldAddr rfl zas rfl zc jd) ?_
   refine qG (Run.load rfl zi (hel _ (qL.drew _).frm 0 _ rfl)) ?_
   refine qG (Run.mv rfl) ?_
   refine qG (Run.bin rfl rfl (Bin.eql _ _)) ?_
   by_cases hs34 : (tk.getD (q + k) tk0).1 = kind
   ·
    refine qE (Run.pickT rfl rfl au) ?_
    refine qA ?_
    refine bG.nil ?_
    refine jN ⟨(js1 (jC (by simp only [hit]; grind))), (qL.drew _)⟩
   refine qE (Run.pickT rfl rfl au) ?_
   refine qA ?_
   refine bG.nil ?_
   refine jN ⟨(js1 (jC (by simp only [hit]; grind))), (qL.drew _)⟩
  refine qM ?_
  refine qU ?_
  refine qU ?_
  refine qU ?_
  refine qU ?_
  refine qU ?_
  refine qU ?_
  refine qU ?_
  refine qU ?_
  refine qU ?_
  refine qU ?_
  refine qU ?_
  refine qU ?_
  refine qU ?_
  refine qU ?_
  refine qU ?_
  refine qE (Run.pickF rfl rfl au) ?_
  refine qA ?_
  refine bG.nil ?_
  refine jN ⟨(js1 (jC (by simp only [hit]; grind))), (qL.drew _)⟩
 intro Γ w9 hΓ hd9
 refine jN (VC.sub _ hΓ ?_)
 refine jT ?_
 refine qD rfl ?_
 exact ⟨hd9.frm, rfl⟩
theorem bO (K : Option Addr) (m ck : Nat) (ks : List Int) (gp gc : Nat) (A : Option Addr) (n c : Nat) (tk : List Tk) (q : Nat) (cs : Array Value) (w : World) (hP : IsCp w gp gc A n c tk q cs) (hm : ks.length = m) (hmb : m ≤ 10) (hK : Rd w 1 K m (IB ks)) (hKo : 0 < m → ∀ x ∈ ob K, x ≠ gp) :
  Calls Tryz.prog 31 #[jI0 gp, .slice K m ck] w fun e w' => Frm [gp] w w' ∧ match qW tk q ks with
   | none => e = .panicked cY
   | some s => e = .returned (encStr s) ∧ IsCp w' gp gc A n c tk (q + 1) cs := by
 have hle := hP.le
 have hbig := hP.big
 have hln := hP.tk.len
 have hPl := hP.lt
 refine jV Tryz.func31 Tryz.ntmps31 Tryz.results31 ?_
 refine jS (jR (ja rfl (jO (jN (jS (jS (jR (jm rfl (jL rfl zl ?_)))))))))
 refine jx .i64 0 ?_
 refine jO (jN (jv5 0 4 7 8 9 ?_))
 refine jB ?_
 refine VC.loop (σ := Nat) (fun s => [(0, jI0 gp), (4, _), (7, .slice K m ck), (8, jI1 m), (9, jI1 s)]) (fun s wr => s ≤ m ∧ Frm [] w wr ∧ ∀ j, j < s → ¬ IsT tk q (ks.getD j 0)) (fun s => m - s) 0 (js5 rfl rfl rfl rfl rfl) ⟨zac _, Frm.refl _ _, fun j hj => absurd hj jo⟩ ?_
 rintro i wr ⟨hi, K0, hno⟩
 have hPr := hP.frm K0
 refine jS (jR (jb rfl rfl (Bin.lssN _ _) (jO (jN (jS ?_)))))
 refine jD rfl (fun hc1 => ?_) fun hc1 => ?_
 ·
  obtain ⟨ad, hKe, hel⟩ := wC (hK.frm K0 jp) hm hc1
  subst hKe
  refine jQ (jN (jv5 0 4 7 8 9 ?_))
  refine jS (jB (jS (jR (je (Run.index1 _ rfl rfl zl zc jo) (jl rfl zi hel (ja rfl (jO (jN (jv6 0 4 6 7 8 9 ?_)))))))))
  refine jS (jR (jm rfl (jM ?_)))
  refine jc (jE3 zco) (dR 0 (ks.getD i 0) gp gc A n c tk q cs wr hPr jo) ?_
  rintro e w1 ⟨hf1, rfl⟩
  refine ⟨_, rfl, ?_⟩
  have hP1 := hPr.frm hf1
  have K1 := K0.trans hf1 jp
  refine jO (jN (jv6 0 4 7 8 9 15 ?_))
  refine VC.condB rfl (fun hc2 => ?_) (fun hc2 => ?_)
  ·
   have hit : IsT tk q (ks.getD i 0) := of_decide_eq_true hc2
   obtain ⟨hql, hqk⟩ := hit
   rw [hln] at hql
   have htm : qW tk q ks = some (tk.getD q tk0).2 := if_pos ⟨jo, by rw [hqk, zf, zb (jo : i < ks.length)]; exact zaj _⟩
   rw [htm]
   have hAo := hP1.off jo
   refine jS (jR (jm rfl (jZ rfl (jf rfl zk rfl zc (jl rfl zi (hP1.p.cell 1) (jb rfl rfl (Bin.add_i64 _ 1 jo) (jZ rfl (jf rfl zk rfl zc ?_))))))))
   refine Ops.st (qJ.store rfl rfl zc hP1.p rfl rfl) ?_
   rintro w2 ⟨hb2, hf2, hs2⟩
   have hf2 : Frm [gp] w1 w2 := hf2
   have hP2 : IsCp w2 gp gc A n c tk (q + 1) cs := hP1.step hb2 hf2 jo
   obtain ⟨ad2, hA, hel2⟩ := hP2.tk.cell hql
   refine jO (jN (jv1 0 ?_))
   refine jS ?_
   refine VC.still jK jK ?_
   refine qM ?_
   refine qE (Run.nilck rfl) ?_
   refine qE (Run.fieldAddr rfl zk rfl zcy jd) ?_
   refine qE (Run.load rfl zbu ((hP2.p.drawn (qL.drew _)).cell 0)) ?_
   rw [hA]
   refine qM ?_
   refine qE (Run.nilck rfl) ?_
   refine qE (Run.fieldAddr rfl zk rfl zc jd) ?_
   refine qE (Run.load rfl zi ((hP2.p.drawn (qL.drew _)).cell 1)) ?_
   refine qE (Run.bin rfl rfl (Bin.sub_i64 _ 1 jo jo)) ?_
   refine qE (Run.indexS _ rfl rfl zs zw jo) ?_
   refine qE (Run.fieldAddr rfl zas rfl zd jd) ?_
   refine qE (Run.load rfl zj (hel2 _ (qL.drew _).frm 1 _ rfl)) ?_
   refine qA ?_
   refine bG.nil ?_
   refine jN (jv1 4 ?_)
   refine jT ?_
   refine qN (qZ (qZ (qN (qZ (qD rfl ?_)))))
   exact ⟨(K1.mono (T := [gp]) jp).trans (hf2.trans (qL.drew _).frm jp) (fun x hx => .inl hx), rfl, by rw [← hA]; exact hP2.frm (qL.drew _).frm⟩
  refine jQ ?_
  refine qS (jN ?_)
  refine jv5 0 4 7 8 9 ?_
  refine jR (jb rfl rfl (Bin.add_i64 _ 1 jo) (jm rfl (jO ?_)))
  refine jN ⟨i + 1, (js5 rfl rfl rfl rfl rfl), ?_, ?_⟩
  ·
   exact ⟨hc1, K1, fun j hj => by
    rcases Nat.lt_or_ge j i with h | h
    · exact hno j h
    have e : j = i := jo
    subst e
    exact of_decide_eq_false hc2⟩
  exact jq
 have htm : qW tk q ks = none := if_neg (fun h => by
  obtain ⟨k, hk, he⟩ := zdj h.2
  refine hno k jo ⟨h.1, ?_⟩
  rw [zf (l := ks), zb hk]
  exact he.symm)
 rw [htm]
 refine jX ?_
 refine qV (qV (qC ?_))
 refine jN (jv1 4 ?_)
 refine jR (je (Run.build evs.nil yH (lL).choose_spec.1 (lL).choose_spec.2 rfl) (je (Run.mkIface rfl Tryz.underlying89 rfl) ?_))
 refine Ops.pn rfl (qP ?_)
 exact ⟨K0.mono jp, rfl⟩
def gre (c : UInt8) : UInt8 := if 97 ≤ c.toNat ∧ c.toNat ≤ 122 then c - 32 else c
theorem kY (c : UInt8) : (gre c).toNat = if 97 ≤ c.toNat ∧ c.toNat ≤ 122 then c.toNat - 32 else c.toNat := by
 unfold gre
 split
 ·
  rename_i h
  have h32 : (32 : UInt8).toNat = 32 := rfl
  rw [UInt8.toNat_sub_of_le _ _ (by rw [UInt8.le_iff_toNat_le]; omega), h32]
 rfl
def qT (s : Tx) : Tx := s.map gre
theorem dS (s : Tx) : (qT s).length = s.length := by simp [qT]
theorem pQ {n i : Nat} {cs : Array Value} {l : List UInt8} {c : UInt8} (h : cs.toList.take n = U8 l) (hl : l.length = n) (hi : i < n) : (cs.setIfInBounds i (.int .u8 ((c.toNat : Nat) : Int))).toList.take n = U8 (l.set i c) := by
 rw [zcd, List.take_set, h]
 simp [U8, List.map_set]
theorem oW {s : Tx} {i : Nat} (h : i < s.length) : ((s.take i).map gre ++ s.drop i).set i (gre s[i]) = (s.take (i + 1)).map gre ++ s.drop (i + 1) := by
 have e1 : ((s.take i).map gre).length = i := by simp; omega
 rw [List.set_append_right _ _ jo, e1, zeh, zao h, List.set_cons_zero]
 have e2 : s.take (i + 1) = s.take i ++ [s[i]] := by rw [zbh, zb h]; rfl
 rw [e2]
 simp only [zcw, zay, List.map_nil, List.append_assoc, List.cons_append, zdo]
theorem tK {s : Tx} {i : Nat} (h : i < s.length) (hl : gre s[i] = s[i]) : (s.take i).map gre ++ s.drop i = (s.take (i + 1)).map gre ++ s.drop (i + 1) := by
 rw [← oW h, hl]
 apply List.ext_getElem?
 intro j
 by_cases hj : j = i
 ·
  subst hj
  have e1 : ((s.take j).map gre).length = j := by simp; omega
  rw [zcr (by simp; omega), zav jo, e1, zeh, zao h]
  rfl
 rw [zdc (Ne.symm hj)]
theorem pX (q : Tx) (w : World) (hq : q.length ≤ 1000000) : Calls Tryz.prog 149 #[encStr q] w fun e w' => e = .returned (encStr (qT q)) ∧ Frm [] w w' := by
 refine jV Tryz.func149 Tryz.ntmps149 Tryz.results149 ?_
 refine jS (jR (ja rfl (jO (jN (jv1 0 ?_)))))
 refine jS (jR (jM ?_))
 refine Ops.m (qH.bytesOfT rfl za zv zal) rfl ?_
 rintro _ w1 ⟨c1, cs1, rfl, hF1, ht1, hf1⟩
 have hge : w.heap.size ≤ w.heap.size := zt _
 generalize hg : w.heap.size = g1 at hF1 hge ⊢
 refine ja rfl (jO (jN (jv1 3 ?_)))
 refine jS (jS (jR (jm rfl (jL rfl zv ?_))))
 refine jx .i64 0 ?_
 refine jO (jN (jB ?_))
 refine VC.loop (σ := Nat) (fun s => [(3, .slice (some ⟨g1, 0, none⟩) q.length c1), (8, .slice (some ⟨g1, 0, none⟩) q.length c1), (9, jI1 q.length), (10, jI1 s)]) (fun s wr => s ≤ q.length ∧ Frm [] w wr ∧ ∃ cs, Fro wr g1 5 cs ∧ cs.toList.take q.length = U8 ((q.take s).map gre ++ q.drop s)) (fun s => q.length - s) 0 (js4 rfl rfl rfl rfl) ⟨jo, hf1, cs1, hF1, by simpa using ht1⟩ ?_
 rintro i wr ⟨hi, hfr, cs, hF, ht⟩
 refine jS (jR (jb rfl rfl (Bin.lssN _ _) (jO (jN (jS ?_)))))
 refine jD rfl (fun hc1 => ?_) fun hc1 => ?_
 ·
  have hrd : Rd wr 1 (some ⟨g1, 0, none⟩) q.length (U8 ((q.take i).map gre ++ q.drop i)) := by
   have h := hF.rd (l := (q.take i).map gre ++ q.drop i) (by simpa [zbj hi, zbw hi] using ht)
   simpa [zbj hi, zbw hi] using h
  have hcell : wr.cell? ((⟨g1, 0, none⟩ : Addr).add (i * 1)) = some (.int .u8 ((q[i].toNat : Nat) : Int)) := by
   rw [zch]
   obtain ⟨ad, u, hA, hu, hc⟩ := hrd.at1 hc1
   cases hA
   rw [hc, ← hu]
   simp [U8, zav, zbj hi, zb, hc1]
  have hll : ((q.take i).map gre ++ q.drop i).length = q.length := by simp; omega
  have hsz : i < cs.size := by
   have := congrArg List.length ht
   simp [U8] at this
   omega
  refine jQ (jN (jv4 3 8 9 10 ?_))
  refine jS (jB (jS (jR (jm rfl (je (Run.indexS i rfl rfl zv zau hc1) (jl rfl zbz hcell (ja rfl (ja rfl (jO (jN (jv6 3 4 5 8 9 10 ?_)))))))))))
  refine jS ?_
  refine VC.split1 [(3, _), (4, _), (5, _), (8, _), (9, _), (10, _)] (js6 rfl rfl rfl rfl rfl rfl) 20 (.bool (decide ((97 ≤ q[i].toNat) ∧ (q[i].toNat ≤ 122)))) ?_ ?_
  ·
   by_cases hs0 : 97 ≤ q[i].toNat
   ·
    refine jR (jm rfl (jb rfl rfl (Bin.geqN _ 97) (jM ?_)))
    refine jG ?_
    refine jk (Run.bin rfl rfl (Bin.leqN _ 122)) ?_
    refine jW rfl rfl au (jO ?_)
    refine jN ⟨(js7 (by rw [nU hs0]; rfl) rfl rfl rfl rfl rfl rfl), rfl⟩
   refine jR (jm rfl (jb rfl rfl (Bin.geqN _ 97) (jM ?_)))
   refine jU ?_
   refine jU ?_
   refine jF rfl rfl au (jO ?_)
   refine jN ⟨(js7 (by rw [nB hs0]; rfl) rfl rfl rfl rfl rfl rfl), rfl⟩
  intro Γ hΓ
  refine jN (VC.sub _ hΓ ?_)
  refine VC.meet (σ := Unit) (fun s => [(3, .slice (some ⟨g1, 0, none⟩) q.length c1), (8, .slice (some ⟨g1, 0, none⟩) q.length c1), (9, jI1 q.length), (10, jI1 i)]) (fun s wm => Frm [] w wm ∧ ∃ cs, Fro wm g1 5 cs ∧ cs.toList.take q.length = U8 ((q.take (i + 1)).map gre ++ q.drop (i + 1))) ?_ ?_
  ·
   refine jD rfl (fun hc2 => ?_) fun hc2 => ?_
   ·
    refine jR (jm rfl (jm rfl (jm rfl (jb rfl rfl (Bin.sub_u8 _ 32 jo jo) ?_))))
    rw [show (q[i].toNat - 32 : Nat) = (gre q[i]).toNat by rw [kY, if_pos hc2]]
    refine je (Run.indexS i rfl rfl zv zau hc1) ?_
    rw [show (⟨g1, 0, none⟩ : Addr).add (i * 1) = ⟨g1, i, none⟩ by unfold Addr.add; rw [zch]; split <;> simp_all]
    refine Ops.st (qJ.storeFro rfl rfl zau hF hsz rfl) ?_
    rintro w2 ⟨hF2, hf2, hs2⟩
    refine jO ?_
    refine jN ⟨(), (js4 rfl rfl rfl rfl), ?_⟩
    exact ⟨hfr.own hf2 (fun x hx => by simp at hx; omega), _, hF2, by rw [pQ ht hll hc1, oW hc1]⟩
   refine jQ ?_
   refine jN ⟨(), (js4 rfl rfl rfl rfl), ?_⟩
   exact ⟨hfr, cs, hF, by rw [ht, tK hc1 (UInt8.toNat_inj.1 (by rw [kY, if_neg hc2]))]⟩
  rintro _ wm ⟨hfr2, cs2, hF2, ht2⟩ Γ hΓ
  refine qS (jN (VC.sub _ hΓ ?_))
  refine jR (jb rfl rfl (Bin.add_i64 _ 1 jo) (jm rfl (jO ?_)))
  refine jN ⟨(i + 1), (js4 rfl rfl rfl rfl), ?_, ?_⟩
  · exact ⟨hc1, hfr2, cs2, hF2, ht2⟩
  exact jq
 refine jX ?_
 refine qV (qV (qC ?_))
 refine jN (jv1 3 ?_)
 refine jS (jR (jM ?_))
 have hR : Rd wr 1 (some ⟨g1, 0, none⟩) q.length (U8 (qT q)) := by
  have him : i = q.length := jo
  subst him
  have h := hF.rd (l := qT q) (by rw [dS, ht]; simp [qT])
  rwa [dS] at h
 refine je (Run.strOfT rfl zv zal za hR) (ja rfl (jO (jN (jv1 2 ?_))))
 refine jT ?_
 refine qD rfl ?_
 exact ⟨rfl, hfr⟩
theorem eY (q : Tx) (w : World) (hq : q.length ≤ 1000000) : Calls Tryz.prog 30 #[encStr q] w fun e w' => e = .returned (encStr (qT q)) ∧ Frm [] w w' := by
 refine jV Tryz.func30 Tryz.ntmps30 Tryz.results30 ?_
 refine jS (jR (ja rfl (jO (jN (jv1 0 ?_)))))
 refine jS (jR (jM ?_))
 refine Ops.m (qH.bytesOfT rfl za zv zal) rfl ?_
 rintro _ w1 ⟨c1, cs1, rfl, hF1, ht1, hf1⟩
 have hge : w.heap.size ≤ w.heap.size := zt _
 generalize hg : w.heap.size = g1 at hF1 hge ⊢
 refine ja rfl (jO (jN (jv1 3 ?_)))
 refine jS (jS (jR (jm rfl (jL rfl zv ?_))))
 refine jx .i64 0 ?_
 refine jO (jN (jB ?_))
 refine VC.loop (σ := Nat) (fun s => [(3, .slice (some ⟨g1, 0, none⟩) q.length c1), (8, .slice (some ⟨g1, 0, none⟩) q.length c1), (9, jI1 q.length), (10, jI1 s)]) (fun s wr => s ≤ q.length ∧ Frm [] w wr ∧ ∃ cs, Fro wr g1 5 cs ∧ cs.toList.take q.length = U8 ((q.take s).map gre ++ q.drop s)) (fun s => q.length - s) 0 (js4 rfl rfl rfl rfl) ⟨jo, hf1, cs1, hF1, by simpa using ht1⟩ ?_
 rintro i wr ⟨hi, hfr, cs, hF, ht⟩
 refine jS (jR (jb rfl rfl (Bin.lssN _ _) (jO (jN (jS ?_)))))
 refine jD rfl (fun hc1 => ?_) fun hc1 => ?_
 ·
  have hrd : Rd wr 1 (some ⟨g1, 0, none⟩) q.length (U8 ((q.take i).map gre ++ q.drop i)) := by
   have h := hF.rd (l := (q.take i).map gre ++ q.drop i) (by simpa [zbj hi, zbw hi] using ht)
   simpa [zbj hi, zbw hi] using h
  have hcell : wr.cell? ((⟨g1, 0, none⟩ : Addr).add (i * 1)) = some (.int .u8 ((q[i].toNat : Nat) : Int)) := by
   rw [zch]
   obtain ⟨ad, u, hA, hu, hc⟩ := hrd.at1 hc1
   cases hA
   rw [hc, ← hu]
   simp [U8, zav, zbj hi, zb, hc1]
  have hll : ((q.take i).map gre ++ q.drop i).length = q.length := by simp; omega
  have hsz : i < cs.size := by
   have := congrArg List.length ht
   simp [U8] at this
   omega
  refine jQ (jN (jv4 3 8 9 10 ?_))
  refine jS (jB (jS (jR (jm rfl (je (Run.indexS i rfl rfl zv zau hc1) (jl rfl zbz hcell (ja rfl (ja rfl (jO (jN (jv6 3 4 5 8 9 10 ?_)))))))))))
  refine jS ?_
  refine VC.split1 [(3, _), (4, _), (5, _), (8, _), (9, _), (10, _)] (js6 rfl rfl rfl rfl rfl rfl) 20 (.bool (decide ((97 ≤ q[i].toNat) ∧ (q[i].toNat ≤ 122)))) ?_ ?_
  ·
   by_cases hs0 : 97 ≤ q[i].toNat
   ·
    refine jR (jm rfl (jb rfl rfl (Bin.geqN _ 97) (jM ?_)))
    refine jG ?_
    refine jk (Run.bin rfl rfl (Bin.leqN _ 122)) ?_
    refine jW rfl rfl au (jO ?_)
    refine jN ⟨(js7 (by rw [nU hs0]; rfl) rfl rfl rfl rfl rfl rfl), rfl⟩
   refine jR (jm rfl (jb rfl rfl (Bin.geqN _ 97) (jM ?_)))
   refine jU ?_
   refine jU ?_
   refine jF rfl rfl au (jO ?_)
   refine jN ⟨(js7 (by rw [nB hs0]; rfl) rfl rfl rfl rfl rfl rfl), rfl⟩
  intro Γ hΓ
  refine jN (VC.sub _ hΓ ?_)
  refine VC.meet (σ := Unit) (fun s => [(3, .slice (some ⟨g1, 0, none⟩) q.length c1), (8, .slice (some ⟨g1, 0, none⟩) q.length c1), (9, jI1 q.length), (10, jI1 i)]) (fun s wm => Frm [] w wm ∧ ∃ cs, Fro wm g1 5 cs ∧ cs.toList.take q.length = U8 ((q.take (i + 1)).map gre ++ q.drop (i + 1))) ?_ ?_
  ·
   refine jD rfl (fun hc2 => ?_) fun hc2 => ?_
   ·
    refine jR (jm rfl (jm rfl (jm rfl (jb rfl rfl (Bin.sub_u8 _ 32 jo jo) ?_))))
    rw [show (q[i].toNat - 32 : Nat) = (gre q[i]).toNat by rw [kY, if_pos hc2]]
    refine je (Run.indexS i rfl rfl zv zau hc1) ?_
    rw [show (⟨g1, 0, none⟩ : Addr).add (i * 1) = ⟨g1, i, none⟩ by unfold Addr.add; rw [zch]; split <;> simp_all]
    refine Ops.st (qJ.storeFro rfl rfl zau hF hsz rfl) ?_
    rintro w2 ⟨hF2, hf2, hs2⟩
    refine jO ?_
    refine jN ⟨(), (js4 rfl rfl rfl rfl), ?_⟩
    exact ⟨hfr.own hf2 (fun x hx => by simp at hx; omega), _, hF2, by rw [pQ ht hll hc1, oW hc1]⟩
   refine jQ ?_
   refine jN ⟨(), (js4 rfl rfl rfl rfl), ?_⟩
   exact ⟨hfr, cs, hF, by rw [ht, tK hc1 (UInt8.toNat_inj.1 (by rw [kY, if_neg hc2]))]⟩
  rintro _ wm ⟨hfr2, cs2, hF2, ht2⟩ Γ hΓ
  refine qS (jN (VC.sub _ hΓ ?_))
  refine jR (jb rfl rfl (Bin.add_i64 _ 1 jo) (jm rfl (jO ?_)))
  refine jN ⟨(i + 1), (js4 rfl rfl rfl rfl), ?_, ?_⟩
  · exact ⟨hc1, hfr2, cs2, hF2, ht2⟩
  exact jq
 refine jX ?_
 refine qV (qV (qC ?_))
 refine jN (jv1 3 ?_)
 refine jS (jR (jM ?_))
 have hR : Rd wr 1 (some ⟨g1, 0, none⟩) q.length (U8 (qT q)) := by
  have him : i = q.length := jo
  subst him
  have h := hF.rd (l := qT q) (by rw [dS, ht]; simp [qT])
  rwa [dS] at h
 refine je (Run.strOfT rfl zv zal za hR) (ja rfl (jO (jN (jv1 2 ?_))))
 refine jT ?_
 refine qD rfl ?_
 exact ⟨rfl, hfr⟩
theorem kJ (gp gc : Nat) (A : Option Addr) (n c : Nat) (tk : List Tk) (q : Nat) (cs : Array Value) (w : World) (hP : IsCp w gp gc A n c tk q cs) (hl : ∀ x ∈ tk, x.2.length ≤ 1000000) : Calls Tryz.prog 18 #[jI0 gp] w fun e w' => Frm [gp] w w' ∧ match qW tk q [0] with
   | none => e = .panicked cY
   | some s => e = .returned (encStr (qT s)) ∧ IsCp w' gp gc A n c tk (q + 1) cs := by
 refine jV Tryz.func18 Tryz.ntmps18 Tryz.results18 ?_
 refine jS (jR (ja rfl (jO (jN (jv1 0 ?_)))))
 refine jS (jR (jM ?_))
 refine Ops.m (qH.buildS1 rfl zl zc dH jd jd rfl rfl) rfl ?_
 rintro _ w1 ⟨rfl, hF1⟩
 have hK1 : Rd w1 1 (some ⟨w.heap.size, 0, none⟩) 1 (IB [0]) := Rd.of_blk (n := 1) (size := 1) hF1.blk rfl
 have hPl := hP.lt
 refine Ops.clp (jE2 zca) (bO (some ⟨w.heap.size, 0, none⟩) 1 1 [0] gp gc A n c tk q cs w1 (hP.frm hF1.frm) rfl jo hK1 (fun _ x hx => by simp [ob] at hx; omega)) rfl ?_
 rintro e w2 ⟨hf2, he⟩
 rcases hT2 : qW tk q [0] with _ | s
 ·
  rw [hT2] at he
  exact .inr ⟨_, he, qK (qP ⟨(hF1.frm.mono jp).trans hf2 (fun x hx => .inl hx), rfl⟩)⟩
 rw [hT2] at he
 obtain ⟨rfl, hP2⟩ := he
 refine .inl ⟨_, rfl, ?_⟩
 refine jc (jE1 Tryz.call30) (eY s w2 (bL hT2 hl)) ?_
 rintro e w3 ⟨rfl, hf3⟩
 refine ⟨_, rfl, ?_⟩
 refine ja rfl (jO (jN (jv1 2 ?_)))
 refine jT ?_
 refine qD rfl ?_
 exact ⟨((hF1.frm.mono jp).trans hf2 (fun x hx => .inl hx)).trans hf3 jp, ⟨rfl, hP2.frm hf3⟩⟩
theorem cC (gp gc : Nat) (A : Option Addr) (n c : Nat) (tk : List Tk) (q : Nat) (cs : Array Value) (w : World) (hP : IsCp w gp gc A n c tk q cs) : Calls Tryz.prog 66 #[jI0 gp] w fun e w' => Frm [gp] w w' ∧ match qW tk q [0, 1] with
   | none => e = .panicked cY
   | some s => e = .returned (encStr s) ∧ IsCp w' gp gc A n c tk (q + 1) cs := by
 refine jV Tryz.func66 Tryz.ntmps66 Tryz.results66 ?_
 refine jS (jR (ja rfl (jO (jN (jv1 0 ?_)))))
 refine jS (jR (jM ?_))
 refine Ops.m (qH.buildN (cells := #[.int .i64 0, .int .i64 1]) (evs.cons rfl (evs.cons rfl evs.nil)) zl zc dH rfl rfl jK) rfl ?_
 rintro _ w1 ⟨rfl, hF1⟩
 have hK1 : Rd w1 1 (some ⟨w.heap.size, 0, none⟩) 2 (IB [0, 1]) := Rd.of_blk (n := 2) (size := 1) hF1.blk rfl
 have hPl := hP.lt
 refine Ops.clp (jE2 zca) (bO (some ⟨w.heap.size, 0, none⟩) 2 2 [0, 1] gp gc A n c tk q cs w1 (hP.frm hF1.frm) rfl jo hK1 (fun _ x hx => by simp [ob] at hx; omega)) rfl ?_
 rintro e w2 ⟨hf2, he⟩
 rcases hT2 : qW tk q [0, 1] with _ | s
 ·
  rw [hT2] at he
  exact .inr ⟨_, he, qK (qP ⟨(hF1.frm.mono jp).trans hf2 (fun x hx => .inl hx), rfl⟩)⟩
 rw [hT2] at he
 obtain ⟨rfl, hP2⟩ := he
 refine .inl ⟨_, rfl, ?_⟩
 refine ja rfl (jO (jN (jv1 2 ?_)))
 refine jT ?_
 refine qD rfl ?_
 exact ⟨(hF1.frm.mono jp).trans hf2 (fun x hx => .inl hx), ⟨rfl, hP2⟩⟩
theorem nL (gp : Nat) (w : World) : Calls Tryz.prog 39 #[jI0 gp] w fun e w' => e = .returned (.tuple #[]) ∧ w = w' := by
 refine jV Tryz.func39 Tryz.ntmps39 Tryz.results39 ?_
 refine jQ ?_
 refine cB ?_
 exact ⟨rfl, rfl⟩
theorem lZ (gp gc : Nat) (A : Option Addr) (n c : Nat) (tk : List Tk) (q : Nat) (cs : Array Value) (w : World) (hP : IsCp w gp gc A n c tk q cs) : Calls Tryz.prog 40 #[jI0 gp] w fun e w' => Frm [gp, gc] w w' ∧ match qW tk q [0, 1] with
   | none => e = .panicked cY
   | some s => e = .returned (.tuple #[]) ∧ IsCp w' gp gc A n c tk (q + 1) (cs.setIfInBounds 3 (encStr s)) := by
 refine jV Tryz.func40 Tryz.ntmps40 Tryz.results40 ?_
 refine VC.heldL 8 (fun V : World => V.cell? ⟨gp, 2, none⟩ = some (jI0 gc)) jK ?_
 have hd := (qL.drew w).frm
 have hPd := hP.frm hd
 have hS : (fun V : World => V.cell? ⟨gp, 2, none⟩ = some (jI0 gc)) w.drew := hPd.p.cell 2
 refine jh 0 hS ?_
 refine jH 1 rfl hS (fun w0 hw0 => Run.nilck rfl) ?_
 refine jH 2 rfl hS (fun w0 hw0 => Run.fieldAddr rfl zk rfl zad jd) ?_
 refine jH 3 rfl hS (fun w0 hw0 => Run.load rfl zak hw0) ?_
 refine qQ.r1 4 rfl jK hS (Run.mv rfl) trivial rfl rfl ?_
 refine qQ.clp 5 rfl jK (jE1 zcp) (cC gp gc A n c tk q cs _ hPd) trivial rfl rfl ?_
 rintro e w1 ⟨hf1, he⟩
 rcases hT1 : qW tk q [0, 1] with _ | s
 ·
  rw [hT1] at he
  exact .inr ⟨_, he, qP ⟨(hd.mono jp).trans hf1 (fun x hx => .inl (by simp at hx; simp [hx])), rfl⟩⟩
 rw [hT1] at he
 obtain ⟨rfl, hP1⟩ := he
 have hS : (fun V : World => V.cell? ⟨gp, 2, none⟩ = some (jI0 gc)) w1 := hP1.p.cell 2
 refine .inl ⟨_, rfl, hS, ?_⟩
 refine qQ.r1 6 rfl jK hS (Run.nilck rfl) trivial rfl rfl ?_
 refine qQ.r1 7 rfl jK hS (Run.fieldAddr rfl ze rfl zd jd) trivial rfl rfl ?_
 refine qQ.stL rfl jK (qJ.store (i := 3) rfl rfl zd hP1.k (by rw [hP1.sz]; rfl) rfl) trivial rfl ?_
 rintro w2 ⟨hb2, hf2, hs2⟩
 have hP2 := hP1.turn hb2 (by simp [hP1.sz]) hf2
 refine qQ.done jK ?_
 refine cB ?_
 exact ⟨((hd.mono jp).trans hf1 (fun x hx => .inl (by simp at hx; simp [hx]))).trans hf2 (fun x hx => .inl (by simp at hx; simp [hx])), ⟨rfl, hP2⟩⟩
def dO (tk : List Tk) (q : Nat) : Option (Tx × Tx) := (qW tk q [0, 1]).bind fun a => (qW tk (q + 1) [0, 1]).map fun b => (a, b)
theorem rT (gp gc : Nat) (A : Option Addr) (n c : Nat) (tk : List Tk) (q : Nat) (cs : Array Value) (w : World) (hP : IsCp w gp gc A n c tk q cs) : Calls Tryz.prog 41 #[jI0 gp] w fun e w' => Frm [gp, gc] w w' ∧ match dO tk q with
   | none => e = .panicked cY
   | some s => e = .returned (.tuple #[]) ∧ IsCp w' gp gc A n c tk (q + 2) ((cs.setIfInBounds 3 (encStr s.1)).setIfInBounds 4 (encStr s.2)) := by
 refine jV Tryz.func41 Tryz.ntmps41 Tryz.results41 ?_
 refine VC.heldL 17 (fun V : World => V.cell? ⟨gp, 2, none⟩ = some (jI0 gc)) jK ?_
 have hd := (qL.drew w).frm
 have hPd := hP.frm hd
 have hS : (fun V : World => V.cell? ⟨gp, 2, none⟩ = some (jI0 gc)) w.drew := hPd.p.cell 2
 refine jh 0 hS ?_
 refine jH 1 rfl hS (fun w0 hw0 => Run.nilck rfl) ?_
 refine jH 2 rfl hS (fun w0 hw0 => Run.fieldAddr rfl zk rfl zad jd) ?_
 refine jH 3 rfl hS (fun w0 hw0 => Run.load rfl zak hw0) ?_
 refine jh 4 hS ?_
 refine jH 5 rfl hS (fun w0 hw0 => Run.nilck rfl) ?_
 refine jH 6 rfl hS (fun w0 hw0 => Run.fieldAddr rfl zk rfl zad jd) ?_
 refine jH 7 rfl hS (fun w0 hw0 => Run.load rfl zak hw0) ?_
 refine jh 8 hS ?_
 refine jh 10 hS ?_
 refine qQ.clp 9 rfl jK (jE1 zcp) (cC gp gc A n c tk q cs _ hPd) trivial rfl rfl ?_
 rintro e w1 ⟨hf1, he⟩
 rcases hT1 : qW tk q [0, 1] with _ | a
 ·
  rw [hT1] at he
  exact .inr ⟨_, he, qP ⟨(hd.mono jp).trans hf1 (fun x hx => .inl (by simp at hx; simp [hx])), by simp [dO, hT1]⟩⟩
 rw [hT1] at he
 obtain ⟨rfl, hP1⟩ := he
 have hS : (fun V : World => V.cell? ⟨gp, 2, none⟩ = some (jI0 gc)) w1 := hP1.p.cell 2
 refine .inl ⟨_, rfl, hS, ?_⟩
 refine qQ.clp 11 rfl jK (jE1 zcp) (cC gp gc A n c tk (q + 1) cs _ hP1) trivial rfl rfl ?_
 rintro e w2 ⟨hf2, he⟩
 rcases hT2 : qW tk (q + 1) [0, 1] with _ | b
 ·
  rw [hT2] at he
  exact .inr ⟨_, he, qP ⟨((hd.mono jp).trans hf1 (fun x hx => .inl (by simp at hx; simp [hx]))).trans hf2 (fun x hx => .inl (by simp at hx; simp [hx])), by simp [dO, hT1, hT2]⟩⟩
 rw [hT2] at he
 obtain ⟨rfl, hP2⟩ := he
 have hS : (fun V : World => V.cell? ⟨gp, 2, none⟩ = some (jI0 gc)) w2 := hP2.p.cell 2
 refine .inl ⟨_, rfl, hS, ?_⟩
 refine qQ.r1 12 rfl jK hS (Run.nilck rfl) trivial rfl rfl ?_
 refine qQ.r1 13 rfl jK hS (Run.fieldAddr rfl ze rfl zd jd) trivial rfl rfl ?_
 refine qQ.st 14 rfl jK (qJ.store (i := 3) rfl rfl zd hP2.k (by rw [hP2.sz]; rfl) rfl) trivial rfl ?_
 rintro w3 ⟨hb3, hf3, hs3⟩
 have hP3 := hP2.turn hb3 (by simp [hP2.sz]) hf3
 have hS : (fun V : World => V.cell? ⟨gp, 2, none⟩ = some (jI0 gc)) w3 := hP3.p.cell 2
 refine ⟨hS, ?_⟩
 refine qQ.r1 15 rfl jK hS (Run.nilck rfl) trivial rfl rfl ?_
 refine qQ.r1 16 rfl jK hS (Run.fieldAddr rfl ze rfl zd jd) trivial rfl rfl ?_
 refine qQ.stL rfl jK (qJ.store (i := 4) rfl rfl zd hP3.k (by rw [hP3.sz]; rfl) rfl) trivial rfl ?_
 rintro w4 ⟨hb4, hf4, hs4⟩
 have hP4 := hP3.turn hb4 (by simp [hP2.sz]) hf4
 refine qQ.done jK ?_
 refine cB ?_
 have hin : ∀ x ∈ [gp], x ∈ [gp, gc] ∨ w.heap.size ≤ x := fun x hx => .inl (by simp at hx; simp [hx])
 have hin2 : ∀ x ∈ [gc], x ∈ [gp, gc] ∨ w.heap.size ≤ x := fun x hx => .inl (by simp at hx; simp [hx])
 exact ⟨((((hd.mono jp).trans hf1 hin).trans hf2 hin).trans hf3 hin2).trans hf4 hin2, by rw [show dO tk q = some (a, b) by simp [dO, hT1, hT2]]; exact ⟨rfl, hP4⟩⟩
theorem cG : ∀ a b : Tx, encStr a = encStr b → a = b := fun a b h => by
 injection h with h
 have := congrArg (fun s => s.data.toList) h
 simpa using this
theorem cH (s : Tx) (h : s.length ≤ 9223372036854775807) : keyOf Tryz.prog 9 (encStr s) = some (.string s) := by
 have h1 : (⟨s.toArray⟩ : ByteArray).size ≤ maxLen := by
  show s.toArray.size ≤ maxLen
  simpa [maxLen] using h
 simp [keyOf, mapKey, za, encStr, h1]
theorem tV (L : List Tx) {i : Nat} (h : i < L.length) : (SB L).toArray[i]? = some (encStr (L.getD i [])) := by
 simp [SB, zf, zb h]
theorem oY {α : Type} {L : List Tx} {i : Nat} (hi : i < L.length) (v M : α) (y : Tx) : (if y = L.getD i [] then v else if y ∈ L.take i then v else M) = if y ∈ L.take (i + 1) then v else M := by
 have e : L.take (i + 1) = L.take i ++ [L.getD i []] := by rw [zbh, zb hi, zf, zb hi]; rfl
 rw [e]
 by_cases h1 : y = L.getD i []
 · rw [if_pos h1, if_pos (by rw [h1]; simp)]
 rw [if_neg h1]
 by_cases h2 : y ∈ L.take i
 · rw [if_pos h2, if_pos (by simp [h2])]
 rw [if_neg h2, if_neg (by simp only [zee, zg]; exact fun h => h.elim h2 h1)]
def dE : List Tx := [[67, 65, 80, 65, 66, 73, 76, 73, 84, 89], [78, 79, 79, 80], [76, 79, 71, 79, 85, 84], [67, 72, 69, 67, 75], [67, 76, 79, 83, 69], [69, 88, 80, 85, 78, 71, 69]]
def gG : List Tx := [[83, 69, 76, 69, 67, 84], [69, 88, 65, 77, 73, 78, 69], [67, 82, 69, 65, 84, 69], [68, 69, 76, 69, 84, 69], [83, 85, 66, 83, 67, 82, 73, 66, 69], [85, 78, 83, 85, 66, 83, 67, 82, 73, 66, 69]]
def gH : List Tx := [[76, 79, 71, 73, 78], [82, 69, 78, 65, 77, 69], [76, 73, 83, 84], [76, 83, 85, 66]]
theorem qQ6 : ∀ x ∈ dE ++ gG ++ gH, x.length ≤ 9223372036854775807 := jd
theorem rX {x : Tx} (h : x ∈ dE ∨ x ∈ gG ∨ x ∈ gH) : x.length ≤ 9223372036854775807 := qQ6 x (by simp only [zee]; rcases h with h | h | h <;> simp [h])
def pZ (y : Tx) : Option Value := if y = [85, 73, 68] then some (.func (.func 38) #[] #[]) else if y = [67, 79, 80, 89] then some (.func (.func 37) #[] #[]) else if y = [83, 84, 79, 82, 69] then some (.func (.func 36) #[] #[]) else if y = [70, 69, 84, 67, 72] then some (.func (.func 35) #[] #[]) else if y = [83, 69, 65, 82, 67, 72] then some (.func (.func 34) #[] #[]) else if y = [65, 80, 80, 69, 78, 68] then some (.func (.func 33) #[] #[]) else if y = [83, 84, 65, 84, 85, 83] then some (.func (.func 32) #[] #[]) else none
def pJ (y : Tx) : Option Value := if y ∈ dE then some (.func (.func 39) #[] #[]) else pZ y
def pK (y : Tx) : Option Value := if y ∈ gG then some (.func (.func 40) #[] #[]) else pJ y
def eO (y : Tx) : Option Value := if y ∈ gH then some (.func (.func 41) #[] #[]) else pK y
theorem uR (w : World) : Calls Tryz.prog 19 #[] w fun e w' => Frm [] w w' ∧ ∃ m, e = .returned (.map (some m)) ∧ w.heap.size ≤ m ∧ MpF Tryz.prog 9 encStr w' m eO := by
 refine jV Tryz.func19 Tryz.ntmps19 Tryz.results19 ?_
 refine jS (jR (ja rfl (jO (jN ?_))))
 refine VC.sub [] .nil ?_
 refine jS (jR ?_)
 refine Ops.m (qH.makeMap (k := 9) (enc := encStr)) rfl ?_
 rintro _ w0 ⟨rfl, hm0, hf0, hs0⟩
 obtain ⟨m, hmm⟩ : ∃ m, m = w.heap.size := ⟨_, rfl⟩
 rw [← hmm] at hm0 ⊢
 refine Ops.st (qJ.mapIns (x := [83, 84, 65, 84, 85, 83]) rfl rfl rfl hm0 (Go.Maps.string_keyed za) cG zap (cH _ jd)) ?_
 rintro w1 ⟨hm1, hf1, hs1⟩
 refine Ops.st (qJ.mapIns (x := [65, 80, 80, 69, 78, 68]) rfl rfl rfl hm1 (Go.Maps.string_keyed za) cG zap (cH _ jd)) ?_
 rintro w2 ⟨hm2, hf2, hs2⟩
 refine Ops.st (qJ.mapIns (x := [83, 69, 65, 82, 67, 72]) rfl rfl rfl hm2 (Go.Maps.string_keyed za) cG zap (cH _ jd)) ?_
 rintro w3 ⟨hm3, hf3, hs3⟩
 refine Ops.st (qJ.mapIns (x := [70, 69, 84, 67, 72]) rfl rfl rfl hm3 (Go.Maps.string_keyed za) cG zap (cH _ jd)) ?_
 rintro w4 ⟨hm4, hf4, hs4⟩
 refine Ops.st (qJ.mapIns (x := [83, 84, 79, 82, 69]) rfl rfl rfl hm4 (Go.Maps.string_keyed za) cG zap (cH _ jd)) ?_
 rintro w5 ⟨hm5, hf5, hs5⟩
 refine Ops.st (qJ.mapIns (x := [67, 79, 80, 89]) rfl rfl rfl hm5 (Go.Maps.string_keyed za) cG zap (cH _ jd)) ?_
 rintro w6 ⟨hm6, hf6, hs6⟩
 refine Ops.st (qJ.mapIns (x := [85, 73, 68]) rfl rfl rfl hm6 (Go.Maps.string_keyed za) cG zap (cH _ jd)) ?_
 rintro w7 ⟨hm7, hf7, hs7⟩
 refine jM ?_
 have hmk : MpF Tryz.prog 9 encStr w7 m pZ := hm7
 have Kk : Frm [] w w7 := ((((((hf0.own hf1 (by simp; omega)).own hf2 (by simp; omega)).own hf3 (by simp; omega)).own hf4 (by simp; omega)).own hf5 (by simp; omega)).own hf6 (by simp; omega)).own hf7 (by simp; omega)
 refine ja rfl (jO (jN (jv1 1 ?_)))
 refine jS (jS (jR (je (Run.buildA (evs.cons rfl (evs.cons rfl (evs.cons rfl (evs.cons rfl (evs.cons rfl (evs.cons rfl evs.nil)))))) sI zda zd (cells := (SB dE).toArray) jK) ?_)))
 refine jx .i64 0 ?_
 refine jO (jN (jB ?_))
 refine VC.loop (σ := Nat) (fun s => [(1, .map (some m)), (10, .agg (SB dE).toArray), (11, jI1 s)]) (fun s wr => s ≤ 6 ∧ Frm [m] w7 wr ∧ MpF Tryz.prog 9 encStr wr m (fun y => if y ∈ dE.take s then some (.func (.func 39) #[] #[]) else pZ y)) (fun s => 6 - s) 0 (js3 rfl rfl rfl) ⟨zac _, Frm.refl _ _, hmk.upd_congr fun y => jp⟩ ?_
 rintro i wr1 ⟨hi, K1, hmr⟩
 refine jS (jR (jb rfl rfl (Bin.lssN _ 6) (jO (jN (jS ?_)))))
 refine jD rfl (fun hc1 => ?_) fun hc1 => ?_
 ·
  refine jQ (jN (jv3 1 10 11 ?_))
  refine jS (jB (jS (jR (je (Run.indexArr1 _ rfl rfl zda zj zd rfl (tV dE hc1)) (ja rfl (jO (jN (jv4 1 3 10 11 ?_))))))))
  refine jR (jm rfl (jM ?_))
  refine Ops.st (qJ.mapUpd (x := dE.getD i []) rfl rfl rfl hmr (Go.Maps.string_keyed za) cG zap (cH _ (rX (by simp [zf, zb (show i < dE.length from hc1)])))) ?_
  rintro w9 ⟨hm9, hf9, hs9⟩
  refine jO ?_
  refine qS (jN ?_)
  refine jv3 1 10 11 ?_
  refine jR (jb rfl rfl (Bin.add_i64 _ 1 jo) (jm rfl (jO ?_)))
  refine jN ⟨i + 1, (js3 rfl rfl rfl), ?_, ?_⟩
  · exact ⟨hc1, K1.trans hf9 (fun x hx => .inl hx), hm9.upd_congr fun y => oY (show i < dE.length from hc1) _ _ y⟩
  exact jq
 have hmk1 : MpF Tryz.prog 9 encStr wr1 m pJ := hmr.upd_congr fun y => by rw [zy (show dE.length ≤ i by simp [dE]; omega)]; rfl
 refine jX ?_
 refine qV (qV (qC ?_))
 refine jN (jv1 1 ?_)
 refine jS (jS (jR (je (Run.buildA (evs.cons rfl (evs.cons rfl (evs.cons rfl (evs.cons rfl (evs.cons rfl (evs.cons rfl evs.nil)))))) sI zda zd (cells := (SB gG).toArray) jK) ?_)))
 refine jx .i64 0 ?_
 refine jO (jN (jB ?_))
 refine VC.loop (σ := Nat) (fun s => [(1, .map (some m)), (17, .agg (SB gG).toArray), (18, jI1 s)]) (fun s wr => s ≤ 6 ∧ Frm [m] wr1 wr ∧ MpF Tryz.prog 9 encStr wr m (fun y => if y ∈ gG.take s then some (.func (.func 40) #[] #[]) else pJ y)) (fun s => 6 - s) 0 (js3 rfl rfl rfl) ⟨zac _, Frm.refl _ _, hmk1.upd_congr fun y => jp⟩ ?_
 rintro i wr2 ⟨hi, K2, hmr⟩
 refine jS (jR (jb rfl rfl (Bin.lssN _ 6) (jO (jN (jS ?_)))))
 refine jD rfl (fun hc2 => ?_) fun hc2 => ?_
 ·
  refine jQ (jN (jv3 1 17 18 ?_))
  refine jS (jB (jS (jR (je (Run.indexArr1 _ rfl rfl zda zj zd rfl (tV gG hc2)) (ja rfl (jO (jN (jv4 1 5 17 18 ?_))))))))
  refine jR (jm rfl (jM ?_))
  refine Ops.st (qJ.mapUpd (x := gG.getD i []) rfl rfl rfl hmr (Go.Maps.string_keyed za) cG zap (cH _ (rX (by simp [zf, zb (show i < gG.length from hc2)])))) ?_
  rintro w9 ⟨hm9, hf9, hs9⟩
  refine jO ?_
  refine qS (jN ?_)
  refine jv3 1 17 18 ?_
  refine jR (jb rfl rfl (Bin.add_i64 _ 1 jo) (jm rfl (jO ?_)))
  refine jN ⟨i + 1, (js3 rfl rfl rfl), ?_, ?_⟩
  · exact ⟨hc2, K2.trans hf9 (fun x hx => .inl hx), hm9.upd_congr fun y => oY (show i < gG.length from hc2) _ _ y⟩
  exact jq
 have hmk2 : MpF Tryz.prog 9 encStr wr2 m pK := hmr.upd_congr fun y => by rw [zy (show gG.length ≤ i by simp [gG]; omega)]; rfl
 refine jX ?_
 refine qV (qV (qC ?_))
 refine jN (jv1 1 ?_)
 refine jS (jS (jR (je (Run.buildA (evs.cons rfl (evs.cons rfl (evs.cons rfl (evs.cons rfl evs.nil)))) qJn Tryz.underlying87 zd (cells := (SB gH).toArray) jK) ?_)))
 refine jx .i64 0 ?_
 refine jO (jN (jB ?_))
 refine VC.loop (σ := Nat) (fun s => [(1, .map (some m)), (24, .agg (SB gH).toArray), (25, jI1 s)]) (fun s wr => s ≤ 4 ∧ Frm [m] wr2 wr ∧ MpF Tryz.prog 9 encStr wr m (fun y => if y ∈ gH.take s then some (.func (.func 41) #[] #[]) else pK y)) (fun s => 4 - s) 0 (js3 rfl rfl rfl) ⟨zac _, Frm.refl _ _, hmk2.upd_congr fun y => jp⟩ ?_
 rintro i wr3 ⟨hi, K3, hmr⟩
 refine jS (jR (jb rfl rfl (Bin.lssN _ 4) (jO (jN (jS ?_)))))
 refine jD rfl (fun hc3 => ?_) fun hc3 => ?_
 ·
  refine jQ (jN (jv3 1 24 25 ?_))
  refine jS (jB (jS (jR (je (Run.indexArr1 _ rfl rfl Tryz.underlying87 zj zd rfl (tV gH hc3)) (ja rfl (jO (jN (jv4 1 7 24 25 ?_))))))))
  refine jR (jm rfl (jM ?_))
  refine Ops.st (qJ.mapUpd (x := gH.getD i []) rfl rfl rfl hmr (Go.Maps.string_keyed za) cG zap (cH _ (rX (by simp [zf, zb (show i < gH.length from hc3)])))) ?_
  rintro w9 ⟨hm9, hf9, hs9⟩
  refine jO ?_
  refine qS (jN ?_)
  refine jv3 1 24 25 ?_
  refine jR (jb rfl rfl (Bin.add_i64 _ 1 jo) (jm rfl (jO ?_)))
  refine jN ⟨i + 1, (js3 rfl rfl rfl), ?_, ?_⟩
  · exact ⟨hc3, K3.trans hf9 (fun x hx => .inl hx), hm9.upd_congr fun y => oY (show i < gH.length from hc3) _ _ y⟩
  exact jq
 have hmk3 : MpF Tryz.prog 9 encStr wr3 m eO := hmr.upd_congr fun y => by rw [zy (show gH.length ≤ i by simp [gH]; omega)]; rfl
 refine jX ?_
 refine qV (qV (qC ?_))
 refine jN (jv1 1 ?_)
 refine jS (jR (jm rfl (ja rfl (jO (jN (jv1 0 ?_))))))
 refine jT ?_
 refine qD rfl ?_
 exact ⟨((Kk.own K1 (by simp; omega)).own K2 (by simp; omega)).own K3 (by simp; omega), m, rfl, jo, hmk3⟩
end
section
open Go.Shelf
def Tryz.lays156_ren : Go.Shelf.Ren := ⟨fun | 156 => 28 | 165 => 57 | 166 => 58 | 169 => 59 | 240 => 88 | 241 => 89 | 276 => 126 | 277 => 127 | n => n, fun | 31 => 25 | 9 => 9 | 3 => 3 | 4 => 4 | 0 => 0 | 20 => 20 | 72 => 103 | 76 => 107 | 70 => 101 | 37 => 44 | 75 => 106 | 127 => 132 | 164 => 169 | 5 => 5 | 80 => 65 | n => n, fun | n => n⟩
theorem Tryz.lays156 : Go.Proofs.Lays.n156 Tryz.prog Tryz.lays156_ren := {
 mixed := by kernel_rfl
 f156 := Tryz.func28.trans (congrArg some (by kernel_rfl))
 f165 := Tryz.func57.trans (congrArg some (by kernel_rfl))
 f166 := Tryz.func58.trans (congrArg some (by kernel_rfl))
 f169 := Tryz.func59.trans (congrArg some (by kernel_rfl))
 f240 := Tryz.func88.trans (congrArg some (by kernel_rfl))
 f241 := Tryz.func89.trans (congrArg some (by kernel_rfl))
 f276 := Tryz.func126.trans (congrArg some (by kernel_rfl))
 f277 := Tryz.func127.trans (congrArg some (by kernel_rfl))
 t0 := zcn
 a0 := zec
 z0 := zdu
 v0 := Tryz.zeroValue0
 t3 := zam
 a3 := zi
 z3 := zc
 v3 := Tryz.zeroValue3
 t4 := zan
 a4 := zaq
 z4 := zq
 v4 := Tryz.zeroValue4
 t9 := za
 a9 := zj
 z9 := zd
 v9 := Tryz.zeroValue9
 t20 := zcm
 a20 := Tryz.isAgg20
 z20 := Tryz.sizeOf20
 v20 := Tryz.zeroValue20
 t31 := zp
 a31 := zbi
 z31 := zai
 v31 := Tryz.zeroValue25
 t37 := zv
 a37 := Tryz.isAgg44
 z37 := Tryz.sizeOf44
 v37 := Tryz.zeroValue44
 t70 := Tryz.underlying101
 a70 := Tryz.isAgg101
 z70 := Tryz.sizeOf101
 v70 := Tryz.zeroValue101
 t72 := Tryz.underlying103
 a72 := Tryz.isAgg103
 z72 := Tryz.sizeOf103
 v72 := Tryz.zeroValue103
 t75 := zel
 a75 := Tryz.isAgg106
 z75 := Tryz.sizeOf106
 v75 := Tryz.zeroValue106
 t76 := Tryz.underlying107
 a76 := Tryz.isAgg107
 z76 := Tryz.sizeOf107
 v76 := Tryz.zeroValue107
 t127 := Tryz.underlying132
 a127 := Tryz.isAgg132
 z127 := Tryz.sizeOf132
 v127 := Tryz.zeroValue132
 t164 := Tryz.underlying169
 a164 := Tryz.isAgg169
 z164 := Tryz.sizeOf169
 v164 := Tryz.zeroValue169 }
theorem Tryz.Builder_Extra_156 : Builder.Extra Tryz.prog Tryz.lays156_ren := {
 sizeBuilder := by kernel_rfl
 liesBuilder := by kernel_rfl
 t5 := zal
 a5 := zbz
 z5 := zau
 v5 := Tryz.zeroValue5
 infoByte := by kernel_rfl
 cellsByte := by kernel_rfl
 sizeByte := by kernel_rfl
 neB5 := by decide }
open Go.RowKit in
theorem Tryz.strings_Join_none (a : Option Addr) (c : Nat) (sep : ByteArray) (w : World) :
  Calls Tryz.prog 28 #[.slice a 0 c, .string sep] w fun e w' => e = .returned (.string ⟨#[]⟩) ∧ w' = w := Any.strings_Join_none Tryz.lays156 Tryz.Builder_Extra_156 a c sep w
open Go.RowKit in
theorem Tryz.strings_Join (bk o c : Nat) (xs : List ByteArray) (sep : ByteArray) (w : World) (hcells : ∀ (j : Nat) x, xs[j]? = some x → w.cell? ⟨bk, o + j, none⟩ = some (.string x)) (hbk : bk < w.heap.size) (hN : xs.length ≤ 140737488355328) (hcap : xs.length ≤ c) (hlen : (Lib.join (xs.map (·.data.toList)) sep.data.toList).length ≤ 140737488355328) :
  Calls Tryz.prog 28 #[.slice (some ⟨bk, o, none⟩) xs.length c, .string sep] w fun e w' => e = .returned (.string ⟨(Lib.join (xs.map (·.data.toList)) sep.data.toList).toArray⟩) ∧ Below w.heap.size w w' := Any.strings_Join Tryz.lays156 Tryz.Builder_Extra_156 bk o c xs sep w hcells hbk hN hcap hlen
def Tryz.lays137_ren : Go.Shelf.Ren := ⟨fun | 137 => 86 | 217 => 121 | 266 => 159 | n => n, fun | 9 => 9 | 5 => 5 | 3 => 3 | n => n, fun | n => n⟩
theorem Tryz.lays137 : Go.Proofs.Lays.n137 Tryz.prog Tryz.lays137_ren := {
 mixed := by kernel_rfl
 f137 := Tryz.func86.trans (congrArg some (by kernel_rfl))
 f217 := Tryz.func121.trans (congrArg some (by kernel_rfl))
 f266 := Tryz.func159.trans (congrArg some (by kernel_rfl))
 t3 := zam
 a3 := zi
 z3 := zc
 v3 := Tryz.zeroValue3
 t5 := zal
 a5 := zbz
 z5 := zau
 v5 := Tryz.zeroValue5
 t9 := za
 a9 := zj
 z9 := zd
 v9 := Tryz.zeroValue9 }
open Go.RowKit in
theorem Tryz.strings_IndexByte (s : ByteArray) (c : Int) (w : World) :
  Calls Tryz.prog 86 #[.string s, .int .u8 c] w fun e w' => e = .returned (.int .i64 (Lib.indexByte s.data.toList c.toNat.toUInt8)) ∧ w' = w := Any.strings_IndexByte Tryz.lays137 s c w
def Tryz.lays103_ren : Go.Shelf.Ren := ⟨fun | 103 => 147 | 210 => 181 | 206 => 178 | n => n, fun | 9 => 9 | 4 => 4 | 24 => 119 | 3 => 3 | n => n, fun | n => n⟩
theorem Tryz.lays103 : Go.Proofs.Lays.n103 Tryz.prog Tryz.lays103_ren := {
 mixed := by kernel_rfl
 f103 := Tryz.func147.trans (congrArg some (by kernel_rfl))
 f206 := Tryz.func178.trans (congrArg some (by kernel_rfl))
 f210 := Tryz.func181.trans (congrArg some (by kernel_rfl))
 t3 := zam
 a3 := zi
 z3 := zc
 v3 := Tryz.zeroValue3
 t4 := zan
 a4 := zaq
 z4 := zq
 v4 := Tryz.zeroValue4
 t9 := za
 a9 := zj
 z9 := zd
 v9 := Tryz.zeroValue9
 t24 := Tryz.underlying119
 a24 := Tryz.isAgg119
 z24 := Tryz.sizeOf119
 v24 := Tryz.zeroValue119 }
open Go.RowKit in
theorem Tryz.strings_CutPrefix (s p : ByteArray) (w : World) :
  Calls Tryz.prog 147 #[.string s, .string p] w fun e w' => e = .returned (.tuple #[.string ⟨(Lib.trimPrefix s.data.toList p.data.toList).toArray⟩, .bool (Lib.hasPrefix s.data.toList p.data.toList)]) ∧ w' = w := Any.strings_CutPrefix Tryz.lays103 s p w
def Tryz.lays104_ren : Go.Shelf.Ren := ⟨fun | 104 => 74 | 211 => 107 | 207 => 150 | n => n, fun | 9 => 9 | 4 => 4 | 24 => 119 | 3 => 3 | n => n, fun | n => n⟩
theorem Tryz.lays104 : Go.Proofs.Lays.n104 Tryz.prog Tryz.lays104_ren := {
 mixed := by kernel_rfl
 f104 := Tryz.func74.trans (congrArg some (by kernel_rfl))
 f207 := Tryz.func150.trans (congrArg some (by kernel_rfl))
 f211 := Tryz.func107.trans (congrArg some (by kernel_rfl))
 t3 := zam
 a3 := zi
 z3 := zc
 v3 := Tryz.zeroValue3
 t4 := zan
 a4 := zaq
 z4 := zq
 v4 := Tryz.zeroValue4
 t9 := za
 a9 := zj
 z9 := zd
 v9 := Tryz.zeroValue9
 t24 := Tryz.underlying119
 a24 := Tryz.isAgg119
 z24 := Tryz.sizeOf119
 v24 := Tryz.zeroValue119 }
open Go.RowKit in
theorem Tryz.strings_CutSuffix (s p : ByteArray) (w : World) (hs : s.size ≤ 9223372036854775807) :
  Calls Tryz.prog 74 #[.string s, .string p] w fun e w' => e = .returned (.tuple #[.string ⟨(Lib.trimSuffix s.data.toList p.data.toList).toArray⟩, .bool (Lib.hasSuffix s.data.toList p.data.toList)]) ∧ w' = w := Any.strings_CutSuffix Tryz.lays104 s p w hs
def Tryz.lays172_ren : Go.Shelf.Ren := ⟨fun | 172 => 136 | 244 => 174 | 245 => 175 | 247 => 193 | 279 => 194 | 280 => 195 | 281 => 196 | 282 => 197 | 287 => 206 | 316 => 207 | 171 => 27 | 205 => 208 | 321 => 213 | 322 => 214 | 243 => 56 | 246 => 87 | 283 => 122 | 284 => 123 | 285 => 124 | 286 => 125 | 129 => 161 | 317 => 160 | 318 => 162 | 319 => 163 | 320 => 164 | 337 => 184 | 338 => 185 | n => n, fun | 9 => 9 | 3 => 3 | 75 => 106 | 76 => 107 | 4 => 4 | 5 => 5 | 167 => 218 | 37 => 44 | 0 => 0 | 85 => 219 | 2 => 2 | 168 => 221 | 53 => 164 | 175 => 228 | 46 => 197 | 210 => 231 | 127 => 132 | 145 => 239 | 143 => 237 | 21 => 21 | 171 => 163 | 173 => 167 | 212 => 194 | 51 => 195 | 20 => 20 | 213 => 196 | 232 => 225 | 233 => 226 | 80 => 65 | n => n, fun | 15 => 4 | 16 => 5 | 17 => 0 | 18 => 2 | 19 => 3 | n => n⟩
theorem Tryz.lays172 : Go.Proofs.Lays.n172 Tryz.prog Tryz.lays172_ren := {
 mixed := by kernel_rfl
 f129 := Tryz.func161.trans (congrArg some (by kernel_rfl))
 f171 := Tryz.func27.trans (congrArg some (by kernel_rfl))
 f172 := Tryz.func136.trans (congrArg some (by kernel_rfl))
 f205 := Tryz.func208.trans (congrArg some (by kernel_rfl))
 f243 := Tryz.func56.trans (congrArg some (by kernel_rfl))
 f244 := Tryz.func174.trans (congrArg some (by kernel_rfl))
 f245 := Tryz.func175.trans (congrArg some (by kernel_rfl))
 f246 := Tryz.func87.trans (congrArg some (by kernel_rfl))
 f247 := Tryz.func193.trans (congrArg some (by kernel_rfl))
 f279 := Tryz.func194.trans (congrArg some (by kernel_rfl))
 f280 := Tryz.func195.trans (congrArg some (by kernel_rfl))
 f281 := Tryz.func196.trans (congrArg some (by kernel_rfl))
 f282 := Tryz.func197.trans (congrArg some (by kernel_rfl))
 f283 := Tryz.func122.trans (congrArg some (by kernel_rfl))
 f284 := Tryz.func123.trans (congrArg some (by kernel_rfl))
 f285 := Tryz.func124.trans (congrArg some (by kernel_rfl))
 f286 := Tryz.func125.trans (congrArg some (by kernel_rfl))
 f287 := Tryz.func206.trans (congrArg some (by kernel_rfl))
 f316 := Tryz.func207.trans (congrArg some (by kernel_rfl))
 f317 := Tryz.func160.trans (congrArg some (by kernel_rfl))
 f318 := Tryz.func162.trans (congrArg some (by kernel_rfl))
 f319 := Tryz.func163.trans (congrArg some (by kernel_rfl))
 f320 := Tryz.func164.trans (congrArg some (by kernel_rfl))
 f321 := Tryz.func213.trans (congrArg some (by kernel_rfl))
 f322 := Tryz.func214.trans (congrArg some (by kernel_rfl))
 f337 := Tryz.func184.trans (congrArg some (by kernel_rfl))
 f338 := Tryz.func185.trans (congrArg some (by kernel_rfl))
 t0 := zcn
 a0 := zec
 z0 := zdu
 v0 := Tryz.zeroValue0
 t2 := zdy
 a2 := Tryz.isAgg2
 z2 := Tryz.sizeOf2
 v2 := Tryz.zeroValue2
 t3 := zam
 a3 := zi
 z3 := zc
 v3 := Tryz.zeroValue3
 t4 := zan
 a4 := zaq
 z4 := zq
 v4 := Tryz.zeroValue4
 t5 := zal
 a5 := zbz
 z5 := zau
 v5 := Tryz.zeroValue5
 t9 := za
 a9 := zj
 z9 := zd
 v9 := Tryz.zeroValue9
 t20 := zcm
 a20 := Tryz.isAgg20
 z20 := Tryz.sizeOf20
 v20 := Tryz.zeroValue20
 t21 := zex
 a21 := Tryz.isAgg21
 z21 := Tryz.sizeOf21
 v21 := Tryz.zeroValue21
 t37 := zv
 a37 := Tryz.isAgg44
 z37 := Tryz.sizeOf44
 v37 := Tryz.zeroValue44
 t46 := zce
 a46 := zdl
 z46 := zde
 v46 := Tryz.zeroValue197
 t51 := zcf
 a51 := zdm
 z51 := zdf
 v51 := Tryz.zeroValue195
 t53 := zem
 a53 := Tryz.isAgg164
 z53 := Tryz.sizeOf164
 v53 := Tryz.zeroValue164
 t75 := zel
 a75 := Tryz.isAgg106
 z75 := Tryz.sizeOf106
 v75 := Tryz.zeroValue106
 t76 := Tryz.underlying107
 a76 := Tryz.isAgg107
 z76 := Tryz.sizeOf107
 v76 := Tryz.zeroValue107
 t85 := Tryz.underlying219
 a85 := Tryz.isAgg219
 z85 := Tryz.sizeOf219
 v85 := Tryz.zeroValue219
 t127 := Tryz.underlying132
 a127 := Tryz.isAgg132
 z127 := Tryz.sizeOf132
 v127 := Tryz.zeroValue132
 t143 := Tryz.underlying237
 a143 := Tryz.isAgg237
 z143 := Tryz.sizeOf237
 v143 := Tryz.zeroValue237
 t145 := Tryz.underlying239
 a145 := Tryz.isAgg239
 z145 := Tryz.sizeOf239
 v145 := Tryz.zeroValue239
 t167 := Tryz.underlying218
 a167 := Tryz.isAgg218
 z167 := Tryz.sizeOf218
 v167 := Tryz.zeroValue218
 t168 := Tryz.underlying221
 a168 := Tryz.isAgg221
 z168 := Tryz.sizeOf221
 v168 := Tryz.zeroValue221
 t171 := zen
 a171 := Tryz.isAgg163
 z171 := Tryz.sizeOf163
 v171 := Tryz.zeroValue163
 t173 := zeo
 a173 := Tryz.isAgg167
 z173 := Tryz.sizeOf167
 v173 := Tryz.zeroValue167
 t175 := Tryz.underlying228
 a175 := Tryz.isAgg228
 z175 := Tryz.sizeOf228
 v175 := Tryz.zeroValue228
 t210 := Tryz.underlying231
 a210 := Tryz.isAgg231
 z210 := Tryz.sizeOf231
 v210 := Tryz.zeroValue231
 t212 := zep
 a212 := Tryz.isAgg194
 z212 := Tryz.sizeOf194
 v212 := Tryz.zeroValue194
 t213 := zeq
 a213 := Tryz.isAgg196
 z213 := Tryz.sizeOf196
 t232 := zer
 a232 := Tryz.isAgg225
 z232 := Tryz.sizeOf225
 v232 := Tryz.zeroValue225
 t233 := zes
 a233 := Tryz.isAgg226
 z233 := Tryz.sizeOf226
 v233 := Tryz.zeroValue226
 g15 := by kernel_rfl
 g16 := by kernel_rfl
 g17 := by kernel_rfl
 g18 := by kernel_rfl
 g19 := by kernel_rfl }
open Go.RowKit in
theorem Tryz.strconv_Atoi (s : ByteArray) (n : Int) (hl : s.size ≤ 18) (h : Lib.atoi s.data.toList = some n) (w : World) :
  Calls Tryz.prog 136 #[.string s] w fun e w' => e = .returned (.tuple #[.int .i64 n, .nilIface]) ∧ ∃ t, w' = Lib.bytesWorld w 5 t := Any.strconv_Atoi Tryz.lays172 s n hl h w
def Tryz.laysM171_ren : Go.Shelf.Ren := ⟨fun | 171 => 27 | 243 => 56 | 246 => 87 | 283 => 122 | 284 => 123 | 285 => 124 | 286 => 125 | 129 => 161 | 317 => 160 | 318 => 162 | 319 => 163 | 320 => 164 | 337 => 184 | 338 => 185 | n => n, fun | 3 => 3 | 9 => 9 | 2 => 2 | 4 => 4 | 171 => 163 | 0 => 0 | 53 => 164 | 37 => 44 | 5 => 5 | 173 => 167 | 212 => 194 | 51 => 195 | 20 => 20 | 213 => 196 | 46 => 197 | 232 => 225 | 233 => 226 | n => n, fun | 17 => 0 | 18 => 2 | 19 => 3 | n => n⟩
theorem Tryz.laysM171 : Go.Proofs.LaysM.n171 Tryz.prog Tryz.laysM171_ren := {
 mixed := by kernel_rfl
 f129 := Tryz.func161.trans (congrArg some (by kernel_rfl))
 f171 := Tryz.func27.trans (congrArg some (by kernel_rfl))
 f243 := Tryz.func56.trans (congrArg some (by kernel_rfl))
 f246 := Tryz.func87.trans (congrArg some (by kernel_rfl))
 f283 := Tryz.func122.trans (congrArg some (by kernel_rfl))
 f284 := Tryz.func123.trans (congrArg some (by kernel_rfl))
 f285 := Tryz.func124.trans (congrArg some (by kernel_rfl))
 f286 := Tryz.func125.trans (congrArg some (by kernel_rfl))
 f317 := Tryz.func160.trans (congrArg some (by kernel_rfl))
 f318 := Tryz.func162.trans (congrArg some (by kernel_rfl))
 f319 := Tryz.func163.trans (congrArg some (by kernel_rfl))
 f320 := Tryz.func164.trans (congrArg some (by kernel_rfl))
 f337 := Tryz.func184.trans (congrArg some (by kernel_rfl))
 f338 := Tryz.func185.trans (congrArg some (by kernel_rfl))
 t0 := zcn
 a0 := zec
 z0 := zdu
 v0 := Tryz.zeroValue0
 t2 := zdy
 a2 := Tryz.isAgg2
 z2 := Tryz.sizeOf2
 v2 := Tryz.zeroValue2
 t3 := zam
 a3 := zi
 z3 := zc
 v3 := Tryz.zeroValue3
 t4 := zan
 a4 := zaq
 z4 := zq
 v4 := Tryz.zeroValue4
 t5 := zal
 a5 := zbz
 z5 := zau
 v5 := Tryz.zeroValue5
 t9 := za
 a9 := zj
 z9 := zd
 v9 := Tryz.zeroValue9
 t20 := zcm
 a20 := Tryz.isAgg20
 z20 := Tryz.sizeOf20
 v20 := Tryz.zeroValue20
 t37 := zv
 a37 := Tryz.isAgg44
 z37 := Tryz.sizeOf44
 v37 := Tryz.zeroValue44
 t46 := zce
 a46 := zdl
 z46 := zde
 v46 := Tryz.zeroValue197
 t51 := zcf
 a51 := zdm
 z51 := zdf
 v51 := Tryz.zeroValue195
 t53 := zem
 a53 := Tryz.isAgg164
 z53 := Tryz.sizeOf164
 v53 := Tryz.zeroValue164
 t171 := zen
 a171 := Tryz.isAgg163
 z171 := Tryz.sizeOf163
 v171 := Tryz.zeroValue163
 t173 := zeo
 a173 := Tryz.isAgg167
 z173 := Tryz.sizeOf167
 v173 := Tryz.zeroValue167
 t212 := zep
 a212 := Tryz.isAgg194
 z212 := Tryz.sizeOf194
 v212 := Tryz.zeroValue194
 t213 := zeq
 a213 := Tryz.isAgg196
 z213 := Tryz.sizeOf196
 t232 := zer
 a232 := Tryz.isAgg225
 z232 := Tryz.sizeOf225
 v232 := Tryz.zeroValue225
 t233 := zes
 a233 := Tryz.isAgg226
 z233 := Tryz.sizeOf226
 v233 := Tryz.zeroValue226
 g17 := by kernel_rfl
 g18 := by kernel_rfl
 g19 := by kernel_rfl
 i0 := by kernel_rfl
 i2 := by kernel_rfl
 i3 := by kernel_rfl
 i4 := by kernel_rfl
 i5 := by kernel_rfl
 i9 := by kernel_rfl
 i20 := by kernel_rfl
 i37 := by kernel_rfl
 i46 := by kernel_rfl
 i51 := by kernel_rfl
 i53 := by kernel_rfl
 i171 := by kernel_rfl
 i173 := by kernel_rfl
 i212 := by kernel_rfl
 i232 := by kernel_rfl
 i233 := by kernel_rfl
 m17 := by kernel_rfl
 m18 := by kernel_rfl
 m19 := by kernel_rfl }
open Go.RowKit Go.Sort Go.Lib in
theorem Tryz.strconv_Itoa (n : Int) (h0 : -9223372036854775808 ≤ n) (h1 : n ≤ 9223372036854775807) (w : World) (htab : Lib.TabIs Tryz.prog w "internal/strconv.uint64pow10" .u64 Lib.pow10Tab) :
  Calls Tryz.prog 27 #[.int .i64 n] w fun e w' => e = .returned (.string ⟨(Lib.itoa n).toArray⟩) ∧ ∃ k os, w' = grow (w.drewN k) os := Any.strconv_Itoa Tryz.laysM171 n h0 h1 w htab
def Tryz.lays171_ren : Go.Shelf.Ren := ⟨fun | 171 => 27 | 243 => 56 | 246 => 87 | 283 => 122 | 284 => 123 | 285 => 124 | 286 => 125 | 129 => 161 | 317 => 160 | 318 => 162 | 319 => 163 | 320 => 164 | 337 => 184 | 338 => 185 | n => n, fun | 3 => 3 | 9 => 9 | 2 => 2 | 4 => 4 | 171 => 163 | 0 => 0 | 53 => 164 | 37 => 44 | 5 => 5 | 173 => 167 | 212 => 194 | 51 => 195 | 20 => 20 | 213 => 196 | 46 => 197 | 232 => 225 | 233 => 226 | n => n, fun | 17 => 0 | 18 => 2 | 19 => 3 | n => n⟩
theorem Tryz.lays171 : Go.Proofs.Lays.n171 Tryz.prog Tryz.lays171_ren := {
 mixed := by kernel_rfl
 f129 := Tryz.func161.trans (congrArg some (by kernel_rfl))
 f171 := Tryz.func27.trans (congrArg some (by kernel_rfl))
 f243 := Tryz.func56.trans (congrArg some (by kernel_rfl))
 f246 := Tryz.func87.trans (congrArg some (by kernel_rfl))
 f283 := Tryz.func122.trans (congrArg some (by kernel_rfl))
 f284 := Tryz.func123.trans (congrArg some (by kernel_rfl))
 f285 := Tryz.func124.trans (congrArg some (by kernel_rfl))
 f286 := Tryz.func125.trans (congrArg some (by kernel_rfl))
 f317 := Tryz.func160.trans (congrArg some (by kernel_rfl))
 f318 := Tryz.func162.trans (congrArg some (by kernel_rfl))
 f319 := Tryz.func163.trans (congrArg some (by kernel_rfl))
 f320 := Tryz.func164.trans (congrArg some (by kernel_rfl))
 f337 := Tryz.func184.trans (congrArg some (by kernel_rfl))
 f338 := Tryz.func185.trans (congrArg some (by kernel_rfl))
 t0 := zcn
 a0 := zec
 z0 := zdu
 v0 := Tryz.zeroValue0
 t2 := zdy
 a2 := Tryz.isAgg2
 z2 := Tryz.sizeOf2
 v2 := Tryz.zeroValue2
 t3 := zam
 a3 := zi
 z3 := zc
 v3 := Tryz.zeroValue3
 t4 := zan
 a4 := zaq
 z4 := zq
 v4 := Tryz.zeroValue4
 t5 := zal
 a5 := zbz
 z5 := zau
 v5 := Tryz.zeroValue5
 t9 := za
 a9 := zj
 z9 := zd
 v9 := Tryz.zeroValue9
 t20 := zcm
 a20 := Tryz.isAgg20
 z20 := Tryz.sizeOf20
 v20 := Tryz.zeroValue20
 t37 := zv
 a37 := Tryz.isAgg44
 z37 := Tryz.sizeOf44
 v37 := Tryz.zeroValue44
 t46 := zce
 a46 := zdl
 z46 := zde
 v46 := Tryz.zeroValue197
 t51 := zcf
 a51 := zdm
 z51 := zdf
 v51 := Tryz.zeroValue195
 t53 := zem
 a53 := Tryz.isAgg164
 z53 := Tryz.sizeOf164
 v53 := Tryz.zeroValue164
 t171 := zen
 a171 := Tryz.isAgg163
 z171 := Tryz.sizeOf163
 v171 := Tryz.zeroValue163
 t173 := zeo
 a173 := Tryz.isAgg167
 z173 := Tryz.sizeOf167
 v173 := Tryz.zeroValue167
 t212 := zep
 a212 := Tryz.isAgg194
 z212 := Tryz.sizeOf194
 v212 := Tryz.zeroValue194
 t213 := zeq
 a213 := Tryz.isAgg196
 z213 := Tryz.sizeOf196
 t232 := zer
 a232 := Tryz.isAgg225
 z232 := Tryz.sizeOf225
 v232 := Tryz.zeroValue225
 t233 := zes
 a233 := Tryz.isAgg226
 z233 := Tryz.sizeOf226
 v233 := Tryz.zeroValue226
 g17 := by kernel_rfl
 g18 := by kernel_rfl
 g19 := by kernel_rfl }
open Go.RowKit Go.Sort Go.Lib in
theorem Tryz.strconv_Itoa_small (i : Nat) (hi : i < 100) (w : World) :
  Calls Tryz.prog 27 #[.int .i64 i] w fun e w' => e = .returned (.string ⟨(Lib.decDigits i).toArray⟩) ∧ w' = w := Any.strconv_Itoa_small Tryz.lays171 i hi w
def Tryz.laysC172_ren : Go.Shelf.Ren := ⟨fun | 172 => 136 | 244 => 174 | 245 => 175 | 247 => 193 | 279 => 194 | 280 => 195 | 281 => 196 | 282 => 197 | 287 => 206 | 316 => 207 | 171 => 27 | 205 => 208 | 321 => 213 | 322 => 214 | 243 => 56 | 246 => 87 | 283 => 122 | 284 => 123 | 285 => 124 | 286 => 125 | 129 => 161 | 317 => 160 | 318 => 162 | 319 => 163 | 320 => 164 | 337 => 184 | 338 => 185 | n => n, fun | 9 => 9 | 3 => 3 | 75 => 106 | 76 => 107 | 4 => 4 | 5 => 5 | 167 => 218 | 37 => 44 | 0 => 0 | 85 => 219 | 2 => 2 | 168 => 221 | 53 => 164 | 175 => 228 | 46 => 197 | 210 => 231 | 127 => 132 | 145 => 239 | 143 => 237 | 21 => 21 | 171 => 163 | 173 => 167 | 212 => 194 | 51 => 195 | 20 => 20 | 213 => 196 | 232 => 225 | 233 => 226 | 80 => 65 | n => n, fun | 15 => 4 | 16 => 5 | 17 => 0 | 18 => 2 | 19 => 3 | n => n⟩
theorem Tryz.laysC172 : Go.Proofs.LaysC.n172 Tryz.prog Tryz.laysC172_ren := {
 mixed := by kernel_rfl
 f129 := Tryz.func161.trans (congrArg some (by kernel_rfl))
 f171 := Tryz.func27.trans (congrArg some (by kernel_rfl))
 f172 := Tryz.func136.trans (congrArg some (by kernel_rfl))
 f205 := Tryz.func208.trans (congrArg some (by kernel_rfl))
 f243 := Tryz.func56.trans (congrArg some (by kernel_rfl))
 f244 := Tryz.func174.trans (congrArg some (by kernel_rfl))
 f245 := Tryz.func175.trans (congrArg some (by kernel_rfl))
 f246 := Tryz.func87.trans (congrArg some (by kernel_rfl))
 f247 := Tryz.func193.trans (congrArg some (by kernel_rfl))
 f279 := Tryz.func194.trans (congrArg some (by kernel_rfl))
 f280 := Tryz.func195.trans (congrArg some (by kernel_rfl))
 f281 := Tryz.func196.trans (congrArg some (by kernel_rfl))
 f282 := Tryz.func197.trans (congrArg some (by kernel_rfl))
 f283 := Tryz.func122.trans (congrArg some (by kernel_rfl))
 f284 := Tryz.func123.trans (congrArg some (by kernel_rfl))
 f285 := Tryz.func124.trans (congrArg some (by kernel_rfl))
 f286 := Tryz.func125.trans (congrArg some (by kernel_rfl))
 f287 := Tryz.func206.trans (congrArg some (by kernel_rfl))
 f316 := Tryz.func207.trans (congrArg some (by kernel_rfl))
 f317 := Tryz.func160.trans (congrArg some (by kernel_rfl))
 f318 := Tryz.func162.trans (congrArg some (by kernel_rfl))
 f319 := Tryz.func163.trans (congrArg some (by kernel_rfl))
 f320 := Tryz.func164.trans (congrArg some (by kernel_rfl))
 f321 := Tryz.func213.trans (congrArg some (by kernel_rfl))
 f322 := Tryz.func214.trans (congrArg some (by kernel_rfl))
 f337 := Tryz.func184.trans (congrArg some (by kernel_rfl))
 f338 := Tryz.func185.trans (congrArg some (by kernel_rfl))
 t0 := zcn
 a0 := zec
 z0 := zdu
 v0 := Tryz.zeroValue0
 t2 := zdy
 a2 := Tryz.isAgg2
 z2 := Tryz.sizeOf2
 v2 := Tryz.zeroValue2
 t3 := zam
 a3 := zi
 z3 := zc
 v3 := Tryz.zeroValue3
 t4 := zan
 a4 := zaq
 z4 := zq
 v4 := Tryz.zeroValue4
 t5 := zal
 a5 := zbz
 z5 := zau
 v5 := Tryz.zeroValue5
 t9 := za
 a9 := zj
 z9 := zd
 v9 := Tryz.zeroValue9
 t20 := zcm
 a20 := Tryz.isAgg20
 z20 := Tryz.sizeOf20
 v20 := Tryz.zeroValue20
 t21 := zex
 a21 := Tryz.isAgg21
 z21 := Tryz.sizeOf21
 v21 := Tryz.zeroValue21
 t37 := zv
 a37 := Tryz.isAgg44
 z37 := Tryz.sizeOf44
 v37 := Tryz.zeroValue44
 t46 := zce
 a46 := zdl
 z46 := zde
 v46 := Tryz.zeroValue197
 t51 := zcf
 a51 := zdm
 z51 := zdf
 v51 := Tryz.zeroValue195
 t53 := zem
 a53 := Tryz.isAgg164
 z53 := Tryz.sizeOf164
 v53 := Tryz.zeroValue164
 t75 := zel
 a75 := Tryz.isAgg106
 z75 := Tryz.sizeOf106
 v75 := Tryz.zeroValue106
 t76 := Tryz.underlying107
 a76 := Tryz.isAgg107
 z76 := Tryz.sizeOf107
 v76 := Tryz.zeroValue107
 t85 := Tryz.underlying219
 a85 := Tryz.isAgg219
 z85 := Tryz.sizeOf219
 v85 := Tryz.zeroValue219
 t127 := Tryz.underlying132
 a127 := Tryz.isAgg132
 z127 := Tryz.sizeOf132
 v127 := Tryz.zeroValue132
 t143 := Tryz.underlying237
 a143 := Tryz.isAgg237
 z143 := Tryz.sizeOf237
 v143 := Tryz.zeroValue237
 t145 := Tryz.underlying239
 a145 := Tryz.isAgg239
 z145 := Tryz.sizeOf239
 v145 := Tryz.zeroValue239
 t167 := Tryz.underlying218
 a167 := Tryz.isAgg218
 z167 := Tryz.sizeOf218
 v167 := Tryz.zeroValue218
 t168 := Tryz.underlying221
 a168 := Tryz.isAgg221
 z168 := Tryz.sizeOf221
 v168 := Tryz.zeroValue221
 t171 := zen
 a171 := Tryz.isAgg163
 z171 := Tryz.sizeOf163
 v171 := Tryz.zeroValue163
 t173 := zeo
 a173 := Tryz.isAgg167
 z173 := Tryz.sizeOf167
 v173 := Tryz.zeroValue167
 t175 := Tryz.underlying228
 a175 := Tryz.isAgg228
 z175 := Tryz.sizeOf228
 v175 := Tryz.zeroValue228
 t210 := Tryz.underlying231
 a210 := Tryz.isAgg231
 z210 := Tryz.sizeOf231
 v210 := Tryz.zeroValue231
 t212 := zep
 a212 := Tryz.isAgg194
 z212 := Tryz.sizeOf194
 v212 := Tryz.zeroValue194
 t213 := zeq
 a213 := Tryz.isAgg196
 z213 := Tryz.sizeOf196
 t232 := zer
 a232 := Tryz.isAgg225
 z232 := Tryz.sizeOf225
 v232 := Tryz.zeroValue225
 t233 := zes
 a233 := Tryz.isAgg226
 z233 := Tryz.sizeOf226
 v233 := Tryz.zeroValue226
 g15 := by kernel_rfl
 g16 := by kernel_rfl
 g17 := by kernel_rfl
 g18 := by kernel_rfl
 g19 := by kernel_rfl
 t80 := Tryz.underlying65
 a80 := Tryz.isAgg65
 z80 := Tryz.sizeOf65
 v80 := Tryz.zeroValue65
 i0 := by kernel_rfl
 i2 := by kernel_rfl
 i3 := by kernel_rfl
 i4 := by kernel_rfl
 i5 := by kernel_rfl
 i9 := by kernel_rfl
 i20 := by kernel_rfl
 i21 := by kernel_rfl
 i37 := by kernel_rfl
 i46 := by kernel_rfl
 i51 := by kernel_rfl
 i53 := by kernel_rfl
 i75 := by kernel_rfl
 i76 := by kernel_rfl
 i80 := by kernel_rfl
 i85 := by kernel_rfl
 i127 := by kernel_rfl
 i143 := by kernel_rfl
 i145 := by kernel_rfl
 i167 := by kernel_rfl
 i168 := by kernel_rfl
 i171 := by kernel_rfl
 i173 := by kernel_rfl
 i175 := by kernel_rfl
 i210 := by kernel_rfl
 i212 := by kernel_rfl
 i232 := by kernel_rfl
 i233 := by kernel_rfl
 m15 := by kernel_rfl
 m16 := by kernel_rfl
 m17 := by kernel_rfl
 m18 := by kernel_rfl
 m19 := by kernel_rfl
 c0 := by kernel_rfl
 c2 := by kernel_rfl
 c3 := by kernel_rfl
 c4 := by kernel_rfl
 c5 := by kernel_rfl
 c9 := by kernel_rfl
 c20 := by kernel_rfl
 c21 := by kernel_rfl
 c37 := by kernel_rfl
 c46 := by kernel_rfl
 c51 := by kernel_rfl
 c53 := by kernel_rfl
 c75 := by kernel_rfl
 c76 := by kernel_rfl
 c80 := by kernel_rfl
 c85 := by kernel_rfl
 c127 := by kernel_rfl
 c143 := by kernel_rfl
 c145 := by kernel_rfl
 c167 := by kernel_rfl
 c168 := by kernel_rfl
 c171 := by kernel_rfl
 c173 := by kernel_rfl
 c175 := by kernel_rfl
 c210 := by kernel_rfl
 c212 := by kernel_rfl
 c213 := by kernel_rfl
 c232 := by kernel_rfl
 c233 := by kernel_rfl }
open Go.RowKit in
theorem Tryz.strconv_Atoi_err (s : ByteArray) (hl : s.size ≤ 18) (h : Lib.atoi s.data.toList = none) (ev : Value) (w : World) (hv : w.cell? ⟨4, 0, none⟩ = some ev) (hev : ev = .nilIface ∨ ∃ te pe, ev = .iface te pe) :
  Calls Tryz.prog 136 #[.string s] w fun e w' => ∃ N, e = .returned (.tuple #[.int .i64 0, .iface 221 (jI0 N)]) ∧ w.heap.size ≤ N ∧ w'.heap[N]? = some (.cells #[.string ⟨#[65, 116, 111, 105]⟩, .string s, ev] 231 (0, 0)) ∧ Below w.heap.size w w' := Any.strconv_Atoi_err Tryz.laysC172 s hl h ev w hv hev
def Tryz.lays219_ren : Go.Shelf.Ren := ⟨fun | 219 => 199 | 217 => 121 | 225 => 209 | 224 => 210 | 267 => 211 | 266 => 159 | 314 => 215 | n => n, fun | 9 => 9 | 3 => 3 | 4 => 4 | 5 => 5 | 46 => 197 | 146 => 240 | 51 => 195 | n => n, fun | 1 => 1 | n => n⟩
theorem Tryz.lays219 : Go.Proofs.Lays.n219 Tryz.prog Tryz.lays219_ren := {
 mixed := by kernel_rfl
 f217 := Tryz.func121.trans (congrArg some (by kernel_rfl))
 f219 := Tryz.func199.trans (congrArg some (by kernel_rfl))
 f224 := Tryz.func210.trans (congrArg some (by kernel_rfl))
 f225 := Tryz.func209.trans (congrArg some (by kernel_rfl))
 f266 := Tryz.func159.trans (congrArg some (by kernel_rfl))
 f267 := Tryz.func211.trans (congrArg some (by kernel_rfl))
 f314 := Tryz.func215.trans (congrArg some (by kernel_rfl))
 t3 := zam
 a3 := zi
 z3 := zc
 v3 := Tryz.zeroValue3
 t4 := zan
 a4 := zaq
 z4 := zq
 v4 := Tryz.zeroValue4
 t5 := zal
 a5 := zbz
 z5 := zau
 v5 := Tryz.zeroValue5
 t9 := za
 a9 := zj
 z9 := zd
 v9 := Tryz.zeroValue9
 t46 := zce
 a46 := zdl
 z46 := zde
 v46 := Tryz.zeroValue197
 t51 := zcf
 a51 := zdm
 z51 := zdf
 v51 := Tryz.zeroValue195
 t146 := Tryz.underlying240
 a146 := Tryz.isAgg240
 z146 := Tryz.sizeOf240
 v146 := Tryz.zeroValue240
 g1 := by kernel_rfl }
open Go.RowKit Go.Lib in
theorem Tryz.stringslite_Index_one (s : ByteArray) (c : UInt8) (w : World) :
  Calls Tryz.prog 199 #[.string s, .string ⟨#[c]⟩] w fun e w' => e = .returned (.int .i64 (Lib.indexByte s.data.toList c)) ∧ w' = w := Any.stringslite_Index_one Tryz.lays219 s c w
def Tryz.lays143_ren : Go.Shelf.Ren := ⟨fun | 143 => 188 | 219 => 199 | 217 => 121 | 225 => 209 | 224 => 210 | 267 => 211 | 266 => 159 | 314 => 215 | n => n, fun | 9 => 9 | 3 => 3 | 4 => 4 | 5 => 5 | 46 => 197 | 146 => 240 | 51 => 195 | n => n, fun | 1 => 1 | n => n⟩
theorem Tryz.lays143 : Go.Proofs.Lays.n143 Tryz.prog Tryz.lays143_ren := {
 mixed := by kernel_rfl
 f143 := Tryz.func188.trans (congrArg some (by kernel_rfl))
 f217 := Tryz.func121.trans (congrArg some (by kernel_rfl))
 f219 := Tryz.func199.trans (congrArg some (by kernel_rfl))
 f224 := Tryz.func210.trans (congrArg some (by kernel_rfl))
 f225 := Tryz.func209.trans (congrArg some (by kernel_rfl))
 f266 := Tryz.func159.trans (congrArg some (by kernel_rfl))
 f267 := Tryz.func211.trans (congrArg some (by kernel_rfl))
 f314 := Tryz.func215.trans (congrArg some (by kernel_rfl))
 t3 := zam
 a3 := zi
 z3 := zc
 v3 := Tryz.zeroValue3
 t4 := zan
 a4 := zaq
 z4 := zq
 v4 := Tryz.zeroValue4
 t5 := zal
 a5 := zbz
 z5 := zau
 v5 := Tryz.zeroValue5
 t9 := za
 a9 := zj
 z9 := zd
 v9 := Tryz.zeroValue9
 t46 := zce
 a46 := zdl
 z46 := zde
 v46 := Tryz.zeroValue197
 t51 := zcf
 a51 := zdm
 z51 := zdf
 v51 := Tryz.zeroValue195
 t146 := Tryz.underlying240
 a146 := Tryz.isAgg240
 z146 := Tryz.sizeOf240
 v146 := Tryz.zeroValue240
 g1 := by kernel_rfl }
open Go.RowKit Go.Lib in
theorem Tryz.strings_Index_one (s : ByteArray) (c : UInt8) (w : World) :
  Calls Tryz.prog 188 #[.string s, .string ⟨#[c]⟩] w fun e w' => e = .returned (.int .i64 (Lib.indexByte s.data.toList c)) ∧ w' = w := Any.strings_Index_one Tryz.lays143 s c w
def Tryz.laysGw17_ren : Go.Shelf.Ren := ⟨fun | 17 => 143 | 15 => 179 | 20 => 200 | n => n, fun | 9 => 9 | 23 => 189 | 4 => 4 | 3 => 3 | 0 => 0 | 21 => 21 | n => n, fun | n => n⟩
theorem Tryz.laysGw17 : Go.Proofs.LaysGw.n17 Tryz.prog Tryz.laysGw17_ren := {
 mixed := by kernel_rfl
 f15 := Tryz.func179.trans (congrArg some (by kernel_rfl))
 f17 := Tryz.func143.trans (congrArg some (by kernel_rfl))
 f20 := Tryz.func200.trans (congrArg some (by kernel_rfl))
 t0 := zcn
 a0 := zec
 z0 := zdu
 v0 := Tryz.zeroValue0
 i0 := by kernel_rfl
 t3 := zam
 a3 := zi
 z3 := zc
 v3 := Tryz.zeroValue3
 i3 := by kernel_rfl
 t4 := zan
 a4 := zaq
 z4 := zq
 v4 := Tryz.zeroValue4
 i4 := by kernel_rfl
 t9 := za
 a9 := zj
 z9 := zd
 v9 := Tryz.zeroValue9
 i9 := by kernel_rfl
 t21 := zex
 a21 := Tryz.isAgg21
 z21 := Tryz.sizeOf21
 v21 := Tryz.zeroValue21
 i21 := by kernel_rfl
 t23 := Tryz.underlying189
 a23 := Tryz.isAgg189
 z23 := Tryz.sizeOf189
 v23 := Tryz.zeroValue189
 i23 := by kernel_rfl }
open Go.RowKit Go.Lib in
theorem Tryz.strings_ContainsFunc_runes (g : Nat) (lb : Array Value) (eg : ∀ args w, (callFunc g args).run Tryz.prog w = .ok (.enter g args) w) (p : Nat → Bool) (s : ByteArray) (w : World) (hp : PredAtRunes Tryz.prog g lb p w) :
  Calls Tryz.prog 143 #[.string s, .func (.func g) #[] lb] w fun e w' => e = .returned (.bool (decide (0 ≤ Lib.idxFunc p true s))) ∧ Below w.heap.size w w' := Any.strings_ContainsFunc_runes Tryz.laysGw17 g lb eg p s w hp
def Tryz.lays99_ren : Go.Shelf.Ren := ⟨fun | 99 => 140 | 206 => 178 | n => n, fun | 9 => 9 | 4 => 4 | 3 => 3 | n => n, fun | n => n⟩
theorem Tryz.lays99 : Go.Proofs.Lays.n99 Tryz.prog Tryz.lays99_ren := {
 mixed := by kernel_rfl
 f99 := Tryz.func140.trans (congrArg some (by kernel_rfl))
 f206 := Tryz.func178.trans (congrArg some (by kernel_rfl))
 t3 := zam
 a3 := zi
 z3 := zc
 v3 := Tryz.zeroValue3
 t4 := zan
 a4 := zaq
 z4 := zq
 v4 := Tryz.zeroValue4
 t9 := za
 a9 := zj
 z9 := zd
 v9 := Tryz.zeroValue9 }
open Go.RowKit Go.Lib in
theorem Tryz.strings_HasPrefix (s p : ByteArray) (w : World) :
  Calls Tryz.prog 140 #[.string s, .string p] w fun e w' => e = .returned (.bool (Lib.hasPrefix s.data.toList p.data.toList)) ∧ w' = w := Any.strings_HasPrefix Tryz.lays99 s p w
def Tryz.lays101_ren : Go.Shelf.Ren := ⟨fun | 101 => 146 | 208 => 180 | 206 => 178 | n => n, fun | 9 => 9 | 4 => 4 | 3 => 3 | n => n, fun | n => n⟩
theorem Tryz.lays101 : Go.Proofs.Lays.n101 Tryz.prog Tryz.lays101_ren := {
 mixed := by kernel_rfl
 f101 := Tryz.func146.trans (congrArg some (by kernel_rfl))
 f206 := Tryz.func178.trans (congrArg some (by kernel_rfl))
 f208 := Tryz.func180.trans (congrArg some (by kernel_rfl))
 t3 := zam
 a3 := zi
 z3 := zc
 v3 := Tryz.zeroValue3
 t4 := zan
 a4 := zaq
 z4 := zq
 v4 := Tryz.zeroValue4
 t9 := za
 a9 := zj
 z9 := zd
 v9 := Tryz.zeroValue9 }
open Go.RowKit Go.Lib in
theorem Tryz.strings_TrimPrefix (s p : ByteArray) (w : World) :
  Calls Tryz.prog 146 #[.string s, .string p] w fun e w' => e = .returned (.string ⟨(Lib.trimPrefix s.data.toList p.data.toList).toArray⟩) ∧ w' = w := Any.strings_TrimPrefix Tryz.lays101 s p w
def Tryz.lays146_ren : Go.Shelf.Ren := ⟨fun | 146 => 133 | 221 => 166 | 268 => 186 | 138 => 187 | 143 => 188 | 195 => 201 | 197 => 190 | 218 => 202 | 219 => 199 | 260 => 203 | 217 => 121 | 225 => 209 | 224 => 210 | 267 => 211 | 266 => 159 | 314 => 215 | n => n, fun | 9 => 9 | 31 => 25 | 3 => 3 | 4 => 4 | 0 => 0 | 105 => 215 | 21 => 21 | 5 => 5 | 46 => 197 | 119 => 233 | 139 => 236 | 138 => 235 | 146 => 240 | 51 => 195 | n => n, fun | 1 => 1 | 3 => 6 | 4 => 7 | n => n⟩
theorem Tryz.lays146 : Go.Proofs.Lays.n146 Tryz.prog Tryz.lays146_ren := {
 mixed := by kernel_rfl
 f138 := Tryz.func187.trans (congrArg some (by kernel_rfl))
 f143 := Tryz.func188.trans (congrArg some (by kernel_rfl))
 f146 := Tryz.func133.trans (congrArg some (by kernel_rfl))
 f195 := Tryz.func201.trans (congrArg some (by kernel_rfl))
 f197 := Tryz.func190.trans (congrArg some (by kernel_rfl))
 f217 := Tryz.func121.trans (congrArg some (by kernel_rfl))
 f218 := Tryz.func202.trans (congrArg some (by kernel_rfl))
 f219 := Tryz.func199.trans (congrArg some (by kernel_rfl))
 f221 := Tryz.func166.trans (congrArg some (by kernel_rfl))
 f224 := Tryz.func210.trans (congrArg some (by kernel_rfl))
 f225 := Tryz.func209.trans (congrArg some (by kernel_rfl))
 f260 := Tryz.func203.trans (congrArg some (by kernel_rfl))
 f266 := Tryz.func159.trans (congrArg some (by kernel_rfl))
 f267 := Tryz.func211.trans (congrArg some (by kernel_rfl))
 f268 := Tryz.func186.trans (congrArg some (by kernel_rfl))
 f314 := Tryz.func215.trans (congrArg some (by kernel_rfl))
 t0 := zcn
 a0 := zec
 z0 := zdu
 v0 := Tryz.zeroValue0
 t3 := zam
 a3 := zi
 z3 := zc
 v3 := Tryz.zeroValue3
 t4 := zan
 a4 := zaq
 z4 := zq
 v4 := Tryz.zeroValue4
 t5 := zal
 a5 := zbz
 z5 := zau
 v5 := Tryz.zeroValue5
 t9 := za
 a9 := zj
 z9 := zd
 v9 := Tryz.zeroValue9
 t21 := zex
 a21 := Tryz.isAgg21
 z21 := Tryz.sizeOf21
 v21 := Tryz.zeroValue21
 t31 := zp
 a31 := zbi
 z31 := zai
 v31 := Tryz.zeroValue25
 t46 := zce
 a46 := zdl
 z46 := zde
 v46 := Tryz.zeroValue197
 t51 := zcf
 a51 := zdm
 z51 := zdf
 v51 := Tryz.zeroValue195
 t105 := Tryz.underlying215
 a105 := Tryz.isAgg215
 z105 := Tryz.sizeOf215
 v105 := Tryz.zeroValue215
 t119 := Tryz.underlying233
 a119 := Tryz.isAgg233
 z119 := Tryz.sizeOf233
 t138 := Tryz.underlying235
 a138 := Tryz.isAgg235
 z138 := Tryz.sizeOf235
 v138 := Tryz.zeroValue235
 t139 := Tryz.underlying236
 a139 := Tryz.isAgg236
 z139 := Tryz.sizeOf236
 v139 := Tryz.zeroValue236
 t146 := Tryz.underlying240
 a146 := Tryz.isAgg240
 z146 := Tryz.sizeOf240
 v146 := Tryz.zeroValue240
 g1 := by kernel_rfl
 g3 := by kernel_rfl
 g4 := by kernel_rfl }
open Go.RowKit Go.Lib in
theorem Tryz.strings_Split (s sep : ByteArray) (m : Int) (w : World) (hs : s.size < 4294967281) (hm : w.cell? ⟨1, 0, none⟩ = some (.int .i64 m)) (h1 : 1 ≤ sep.size) :
  Calls Tryz.prog 133 #[.string s, .string sep] w fun e w' =>
   e = .returned (.slice (some ⟨w.heap.size, 0, none⟩) (Lib.countB s sep + 1) (Lib.countB s sep + 1)) ∧ w' = w.alloc (.cells ((Lib.splitB sep 0 (Lib.countB s sep) s).map Value.string).toArray 9) := Any.strings_Split Tryz.lays146 (by kernel_rfl) s sep m w hs hm h1
end
section
open Go.RowKit
theorem fQ : ∀ (l : Tx) (c : UInt8), (Lib.indexByte l c = -1 ∧ c ∉ l) ∨ ∃ a b, l = a ++ c :: b ∧ c ∉ a ∧ Lib.indexByte l c = ((a.length : Nat) : Int)
 | [], c => .inl ⟨rfl, jp⟩
 | x :: r, c => by
  unfold Lib.indexByte
  by_cases h : x = c
  ·
   subst h
   exact .inr ⟨[], r, rfl, jp, jp⟩
  have hb : (x == c) = false := by simpa using h
  rw [hb]
  rcases fQ r c with ⟨h1, h2⟩ | ⟨a, b, rfl, h2, h3⟩
  ·
   left
   refine ⟨by simp [h1], ?_⟩
   simp only [zab, not_or]
   exact ⟨fun e => h e.symm, h2⟩
  right
  refine ⟨x :: a, b, rfl, ?_, ?_⟩
  ·
   simp only [zab, not_or]
   exact ⟨fun e => h e.symm, h2⟩
  rw [h3]
  have : ¬ ((a.length : Nat) : Int) = -1 := jo
  simp [this]
def bC (c : UInt8) : Tx → Tx
 | [] => []
 | x :: r => if x = c then [] else x :: bC c r
def bK (c : UInt8) : Tx → Tx
 | [] => []
 | x :: r => if x = c then r else bK c r
theorem yP {c : UInt8} : ∀ {s : Tx}, c ∉ s → bC c s = s ∧ bK c s = []
 | [], _ => ⟨rfl, rfl⟩
 | x :: r, h => by
  simp only [zab, not_or] at h
  have hx : x ≠ c := fun e => h.1 e.symm
  simp [bC, bK, hx, yP h.2]
theorem yR {c : UInt8} : ∀ {a b : Tx}, c ∉ a → bC c (a ++ c :: b) = a ∧ bK c (a ++ c :: b) = b
 | [], b, _ => by simp [bC, bK]
 | x :: r, b, h => by
  simp only [zab, not_or] at h
  have hx : x ≠ c := fun e => h.1 e.symm
  simp [bC, bK, hx, yR (b := b) h.2]
def cJ (c : UInt8) : Tx → List Tx
 | [] => [[]]
 | x :: r => if x = c then [] :: cJ c r else match cJ c r with
  | [] => [[x]]
  | p :: ps => (x :: p) :: ps
theorem tW {c : UInt8} : ∀ {s : Tx}, c ∉ s → cJ c s = [s]
 | [], _ => rfl
 | x :: r, h => by
  simp only [zab, not_or] at h
  have hx : x ≠ c := fun e => h.1 e.symm
  simp [cJ, hx, tW h.2]
theorem tY {c : UInt8} : ∀ {a b : Tx}, c ∉ a → cJ c (a ++ c :: b) = a :: cJ c b
 | [], b, _ => by simp [cJ]
 | x :: r, b, h => by
  simp only [zab, not_or] at h
  have hx : x ≠ c := fun e => h.1 e.symm
  simp [cJ, hx, tY (b := b) h.2]
theorem rU {c : UInt8} : ∀ (s : Tx), ∀ w ∈ cJ c s, w.length ≤ s.length
 | [], w, h => by simp [cJ] at h; subst h; simp
 | x :: r, w, h => by
  unfold cJ at h
  have ih := rU (c := c) r
  split at h
  ·
   rcases zab.1 h with rfl | h
   · simp
   have := ih w h; simp; omega
  split at h
  · simp at h; subst h; simp
  rename_i p ps hs
  rcases zab.1 h with rfl | h
  · have := ih p (by rw [hs]; simp); simp; omega
  have := ih w (by rw [hs]; simp [h]); simp; omega
theorem gM (c : UInt8) : ∀ s : Tx, (bC c s).length ≤ s.length ∧ (bK c s).length ≤ s.length
 | [] => ⟨zt _, zt _⟩
 | x :: r => by
  have := gM c r
  unfold bC bK
  split <;> simp <;> omega
def bP (n : Nat) (s : Tx) : Nat := s.foldl (fun n x => 10 * n + (x.toNat - 48)) n
abbrev Dig (x : UInt8) : Prop := 48 ≤ x.toNat ∧ x.toNat ≤ 57
def fF (s : Tx) : Int :=
 if s = [42] then 0 else if s = [] ∨ 10 < s.length ∨ s.head? = some 48 then -1
 else if (∀ x ∈ s, Dig x) ∧ bP 0 s ≤ 2147483647 then ((bP 0 s : Nat) : Int) else -1
theorem yS (n : Nat) (s : Tx) (x : UInt8) : bP n (s ++ [x]) = 10 * bP n s + (x.toNat - 48) := by simp [bP]
theorem vS : ∀ (s : Tx) (n k : Nat), (∀ x ∈ s, Dig x) → n < 10 ^ k → bP n s < 10 ^ (k + s.length)
 | [], n, k, _, h => by simpa [bP] using h
 | x :: r, n, k, hd, h => by
  have hx := hd x jp
  have e : bP n (x :: r) = bP (10 * n + (x.toNat - 48)) r := rfl
  rw [e]
  have := vS r (10 * n + (x.toNat - 48)) (k + 1) (fun y hy => hd y (by simp [hy])) (by rw [Nat.pow_succ]; omega)
  have e2 : k + 1 + r.length = k + (x :: r).length := by simp; omega
  rw [e2] at this
  exact this
abbrev Sp := Int × Int
def eU (w : Tx) : Sp := (fF (bC 58 w), if 58 ∈ w then fF (bK 58 w) else fF (bC 58 w))
def mZ (w : Tx) : Prop := 0 ≤ (eU w).1 ∧ 0 ≤ (eU w).2
instance (w : Tx) : Decidable (mZ w) := by unfold mZ; infer_instance
def fO (s : Tx) : Prop := (∀ w ∈ cJ 44 s, mZ w) ∧ (cJ 44 s).length ≤ 64
instance (s : Tx) : Decidable (fO s) := by unfold fO; infer_instance
def eF (s : Tx) : List Sp := if fO s then (cJ 44 s).map eU else []
def SC1 (x : Sp) : List Value := [.int .i64 x.1, .int .i64 x.2]
abbrev SC (l : List Sp) : List Value := l.flatMap SC1
theorem vT (x : Sp) : ∀ u ∈ SC1 x, u.oneCell' = true := by
 intro u hu
 simp only [SC1, zab, zag, or_false] at hu
 rcases hu with rfl | rfl <;> rfl
end
section
open Go.RowKit Go.Sort
def oG : Tx := [40, 41, 60, 62, 64, 44, 59, 58, 92, 34, 47, 91, 93, 63, 61]
def rZ (c : UInt8) : Prop := 33 ≤ c.toNat ∧ c.toNat ≤ 126 ∧ c ∉ oG
instance (c : UInt8) : Decidable (rZ c) := by unfold rZ; infer_instance
def bE (s : Tx) : Prop := s ≠ [] ∧ ∀ c ∈ s, rZ c
instance (s : Tx) : Decidable (bE s) := by unfold bE; infer_instance
theorem qJq (c : UInt8) : 0 ≤ Lib.indexByte oG c ↔ c ∈ oG := by
 rcases fQ oG c with ⟨h1, h2⟩ | ⟨a, b, h1, h2, h3⟩
 · rw [h1]; exact ⟨fun h => jo, fun h => absurd h h2⟩
 rw [h3]; exact ⟨fun _ => by rw [h1]; simp, fun _ => jo⟩
theorem nK (s : Tx) (c : UInt8) (w : World) : Calls Tryz.prog 86 #[encStr s, .int .u8 ((c.toNat : Nat) : Int)] w fun e w' => e = .returned (.int .i64 (Lib.indexByte s c)) ∧ w = w' := by
 have h := Tryz.strings_IndexByte ⟨s.toArray⟩ ((c.toNat : Nat) : Int) w
 have e1 : (((c.toNat : Nat) : Int)).toNat.toUInt8 = c := jp
 rw [e1] at h
 exact h.mono fun e w' ⟨h, hw⟩ => ⟨h, hw.symm⟩
theorem wD (q : Tx) (w : World) (hq : q.length ≤ 2000000) : Calls Tryz.prog 55 #[encStr q] w fun e w' => e = .returned (.bool (decide (bE q))) ∧ w = w' := by
 refine jV Tryz.func55 Tryz.ntmps55 Tryz.results55 ?_
 refine jS (jR (ja rfl (jO (jN (jv1 0 ?_)))))
 refine jS (jS (jR (jm rfl (je (Run.lenT rfl za) ?_))))
 refine jx .i64 0 ?_
 refine jO (jN (jv3 0 5 6 ?_))
 refine jB ?_
 refine VC.loop (σ := Nat) (fun s => [(0, encStr q), (5, jI1 q.length), (6, jI1 s)]) (fun s wr => s ≤ q.length ∧ (∀ c ∈ q.take s, rZ c) ∧ w = wr) (fun s => q.length - s) 0 (js3 rfl rfl rfl) ⟨jo, jp, rfl⟩ ?_
 rintro i _ ⟨hi, hd, rfl⟩
 refine jS (jR (jb rfl rfl (Bin.lssN _ _) (jO (jN (jS ?_)))))
 refine jD rfl (fun hc1 => ?_) fun hc1 => ?_
 ·
  have hts : q.take (i + 1) = q.take i ++ [q[i]] := by rw [zbh, zb hc1]; rfl
  have hxm : q[i] ∈ q := zaj hc1
  have hgx : q[i]? = some q[i] := zb hc1
  generalize hx : q[i] = x at *
  have hsp := qJq x
  have htc : rZ x ↔ (33 ≤ x.toNat ∧ x.toNat ≤ 126 ∧ x ∉ oG) := Iff.rfl
  refine jQ (jN (jv3 0 5 6 ?_))
  refine jS (jB (jS (jR (jm rfl (ja rfl (jO (jN (jv4 0 3 5 6 ?_))))))))
  refine jS ?_
  refine VC.split1 [(0, _), (5, _), (6, _)] (js3 rfl rfl rfl) 25 (.bool (decide (¬ rZ x))) ?_ ?_
  ·
   refine jR ?_
   refine jm rfl (jm rfl (je (Run.indexT _ rfl rfl za hgx) (jb rfl rfl (Bin.lssN _ 33) ?_)))
   by_cases hs12 : x.toNat < 33
   ·
    refine jM ?_
    refine jU ?_
    refine jU ?_
    refine jU ?_
    refine jU ?_
    refine jW rfl rfl au (jM ?_)
    refine jU ?_
    refine jU ?_
    refine jU ?_
    refine jU ?_
    refine jU ?_
    refine jW rfl rfl au (jO ?_)
    refine jN ⟨(js4 (jC (Eq.symm (by first | exact decide_eq_true (fun h => by have := htc.1 h; omega) | exact decide_eq_decide.2 ⟨fun h => Classical.byContradiction fun h2 => h (htc.2 ⟨jo, jo, fun h3 => h2 (hsp.2 h3)⟩), fun h h2 => (htc.1 h2).2.2 (hsp.1 h)⟩))) rfl rfl rfl), rfl⟩
   refine jM ?_
   refine jG ?_
   refine jG ?_
   refine jk (Run.indexT _ rfl rfl za hgx) ?_
   refine jk (Run.bin rfl rfl (Bin.gtrN _ 126)) ?_
   by_cases hs17 : 126 < x.toNat
   ·
    refine jF rfl rfl au (jM ?_)
    refine jU ?_
    refine jU ?_
    refine jU ?_
    refine jU ?_
    refine jU ?_
    refine jW rfl rfl au (jO ?_)
    refine jN ⟨(js4 (jC (Eq.symm (by first | exact decide_eq_true (fun h => by have := htc.1 h; omega) | exact decide_eq_decide.2 ⟨fun h => Classical.byContradiction fun h2 => h (htc.2 ⟨jo, jo, fun h3 => h2 (hsp.2 h3)⟩), fun h h2 => (htc.1 h2).2.2 (hsp.1 h)⟩))) rfl rfl rfl), rfl⟩
   refine jF rfl rfl au (jM ?_)
   refine jG ?_
   refine jG ?_
   refine jk (Run.indexT _ rfl rfl za hgx) ?_
   refine Ops.clg rfl au (jE2 Tryz.call86) (nK oG x _) rfl ?_
   rintro e _ ⟨rfl, rfl⟩
   refine ⟨_, rfl, ?_⟩
   refine jk (Run.bin rfl rfl (Bin.geq _ 0)) ?_
   by_cases hs24 : 0 ≤ Lib.indexByte oG x
   ·
    refine jF rfl rfl au (jO ?_)
    refine jN ⟨(js4 (jC (Eq.symm (by first | exact decide_eq_true (fun h => by have := htc.1 h; omega) | exact decide_eq_decide.2 ⟨fun h => Classical.byContradiction fun h2 => h (htc.2 ⟨jo, jo, fun h3 => h2 (hsp.2 h3)⟩), fun h h2 => (htc.1 h2).2.2 (hsp.1 h)⟩))) rfl rfl rfl), rfl⟩
   refine jF rfl rfl au (jO ?_)
   refine jN ⟨(js4 (jC (Eq.symm (by first | exact decide_eq_true (fun h => by have := htc.1 h; omega) | exact decide_eq_decide.2 ⟨fun h => Classical.byContradiction fun h2 => h (htc.2 ⟨jo, jo, fun h3 => h2 (hsp.2 h3)⟩), fun h h2 => (htc.1 h2).2.2 (hsp.1 h)⟩))) rfl rfl rfl), rfl⟩
  intro Γ hΓ
  refine jN (VC.sub _ hΓ ?_)
  refine jD rfl (fun hc2 => ?_) fun hc2 => ?_
  ·
   refine jS (jR (ja rfl (jO (jN (jv1 2 ?_)))))
   refine jT ?_
   refine qN (qZ (qZ (qN (qZ (qD rfl ?_)))))
   exact ⟨by rw [decide_eq_false (fun h => hc2 (h.2 x hxm))], rfl⟩
  refine jQ ?_
  refine qS (jN ?_)
  refine jv3 0 5 6 ?_
  refine jR (jb rfl rfl (Bin.add_i64 _ 1 jo) (jm rfl (jO ?_)))
  refine jN ⟨(i + 1), (js3 rfl rfl rfl), ?_, ?_⟩
  ·
   refine ⟨hc1, fun y hy => ?_, rfl⟩
   rw [hts] at hy
   rcases zee.1 hy with h | h
   · exact hd y h
   simp only [zg] at h; subst h; exact Classical.not_not.1 hc2
  exact jq
 have hil : i = q.length := jo
 subst hil
 rw [zbp] at hd
 refine jX ?_
 refine qV (qV (qC ?_))
 refine jN (jv1 0 ?_)
 refine jS (jR (jm rfl (je (Run.neqT rfl rfl) (ja rfl (jO (jN (jv1 2 ?_)))))))
 refine jT ?_
 refine qD rfl ?_
 exact ⟨by rw [decide_eq_decide.2 (show bE q ↔ q ≠ [] from ⟨fun h => h.1, fun h => ⟨h, hd⟩⟩)], rfl⟩
end
section
open Go.RowKit
def PI (l : List Int) : List Value := l.map (Value.int .i64)
theorem sT {w : World} {A : Option Addr} {l : List Int} {k : Nat} (h : Rd w 1 A l.length (PI l)) (hk : k < l.length) : ∃ ad, A = some ad ∧ w.cell? (ad.add (k * 1)) = some (.int .i64 l[k]) := by
 obtain ⟨ad, rfl, hlt, hc⟩ := h.2 jo
 refine ⟨ad, rfl, ?_⟩
 rw [zch]
 exact hc k _ (by simp [PI, zb hk])
theorem gQ {α : Type} {l : List α} {i : Nat} (h : i < l.length) : l.take (i + 1) = l.take i ++ [l[i]] := by rw [zbh, zb h]; rfl
theorem vU (p : Prop) [Decidable p] : (! decide p) = decide (¬ p) := by by_cases h : p <;> simp [h]
theorem Own.own' {w w' : World} {e size n c e2 size2 n2 c2 : Nat} {A B : Option Addr} {xs ys : List Value} (h : Own w e size A n c xs) (k : Frm (ob B) w w') (ho : Own w e2 size2 B n2 c2 ys) (hne : e ≠ e2) : Own w' e size A n c xs := h.frm k (fun y hy => h.ne_own ho hne y hy)
end
section
open Go.RowKit Go.Sort
theorem nV {w : World} {A : Option Addr} {l : List Tx} {k : Nat} (h : Rd w 1 A l.length (SB l)) (hk : k < l.length) : ∃ ad, A = some ad ∧ w.cell? (ad.add (k * 1)) = some (encStr l[k]) := by
 rw [zch]
 exact qKf h hk
def hdrT : Tx := [72, 69, 65, 68, 69, 82]
def txtT : Tx := [84, 69, 88, 84]
def mimT : Tx := [77, 73, 77, 69]
def wE : Tx := [72, 69, 65, 68, 69, 82, 46, 70, 73, 69, 76, 68, 83]
def wF : Tx := [72, 69, 65, 68, 69, 82, 46, 70, 73, 69, 76, 68, 83, 46, 78, 79, 84]
structure Wnt where
 path : List Int
 what : Tx
 names : List Tx
def bF (n : Int) : Prop := n < 1 ∨ 64 < n
instance (n : Int) : Decidable (bF n) := by unfold bF; infer_instance
def qI (s : Tx) : Prop := s = wE ∨ s = wF
instance (s : Tx) : Decidable (qI s) := by unfold qI; infer_instance
def pV (v : Wnt) : Prop := v.what = [] ∨ v.what = hdrT ∨ v.what = txtT ∨ v.what = wE ∨ v.what = wF ∨ (v.what = mimT ∧ 0 < v.path.length)
instance (v : Wnt) : Decidable (pV v) := by unfold pV; infer_instance
def dT (v : Wnt) : Prop := ¬ (8 < v.path.length ∨ ∃ n ∈ v.path, bF n) ∧ ¬ ((16 < v.names.length ∨ ¬ (qI v.what ↔ 0 < v.names.length)) ∨ ∃ s ∈ v.names, ¬ bE s) ∧ pV v
instance (v : Wnt) : Decidable (dT v) := by unfold dT; infer_instance
def WtC (v : Wnt) (A : Option Addr) (c : Nat) (B : Option Addr) (d : Nat) : Array Value := #[.slice A v.path.length c, encStr v.what, .slice B v.names.length d]
theorem yU (n : Int) (w : World) : Calls Tryz.prog 52 #[.int .i64 n] w fun e w' => e = .returned (.bool (decide (bF n))) ∧ w = w' := by
 refine jV Tryz.func52 Tryz.ntmps52 Tryz.results52 ?_
 refine jS (jR (ja rfl (jO (jN (jv1 0 ?_)))))
 refine jS ?_
 refine VC.split1 [] .nil 2 (.bool (decide (bF n))) ?_ ?_
 ·
  refine jR ?_
  refine jm rfl (jb rfl rfl (Bin.lss _ 1) ?_)
  by_cases hs4 : n < 1
  ·
   refine jM ?_
   refine jU ?_
   refine jU ?_
   refine jW rfl rfl au (ja rfl (jO ?_))
   refine jN ⟨(js1 (jC (by first | exact (decide_eq_true (show bF n from .inl hs4)).symm | exact (decide_eq_true hs7).trans (decide_eq_true (show bF n from .inr hs7)).symm | exact (decide_eq_false hs7).trans (decide_eq_false (show ¬ bF n from fun h => h.elim hs4 hs7)).symm))), rfl⟩
  refine jM ?_
  refine jG ?_
  refine jk (Run.bin rfl rfl (Bin.gtr _ 64)) ?_
  by_cases hs7 : 64 < n
  ·
   refine jF rfl rfl au (ja rfl (jO ?_))
   refine jN ⟨(js1 (jC (by first | exact (decide_eq_true (show bF n from .inl hs4)).symm | exact (decide_eq_true hs7).trans (decide_eq_true (show bF n from .inr hs7)).symm | exact (decide_eq_false hs7).trans (decide_eq_false (show ¬ bF n from fun h => h.elim hs4 hs7)).symm))), rfl⟩
  refine jF rfl rfl au (ja rfl (jO ?_))
  refine jN ⟨(js1 (jC (by first | exact (decide_eq_true (show bF n from .inl hs4)).symm | exact (decide_eq_true hs7).trans (decide_eq_true (show bF n from .inr hs7)).symm | exact (decide_eq_false hs7).trans (decide_eq_false (show ¬ bF n from fun h => h.elim hs4 hs7)).symm))), rfl⟩
 intro Γ hΓ
 refine jN (VC.sub _ hΓ ?_)
 refine jT ?_
 refine qD rfl ?_
 exact ⟨rfl, rfl⟩
theorem idxI (A : Option Addr) (c : Nat) (l : List Int) (w : World) (hl : Rd w 1 A l.length (PI l)) (hn : l.length ≤ 2000000) :
  Calls Tryz.prog 84 #[.slice A l.length c, .func (.func 52) #[] #[]] w fun e w' => w = w' ∧ ∃ k : Int, e = .returned (.int .i64 k) ∧ (0 ≤ k ↔ ∃ n ∈ l, bF n) := by
 refine jV Tryz.func84 Tryz.ntmps84 Tryz.results84 ?_
 refine jS (jR (jz 0 (jO (jN (jv2 0 1 ?_)))))
 refine jS (jS (jR (jm rfl (jL rfl zl ?_))))
 refine jx .i64 0 ?_
 refine jO (jN (jv4 0 1 7 8 ?_))
 refine jB ?_
 refine VC.loop (σ := Nat) (fun s => [(0, .slice A l.length c), (1, .func (.func 52) #[] #[]), (7, jI1 l.length), (8, jI1 s)]) (fun s wr => s ≤ l.length ∧ w = wr ∧ ∀ x ∈ l.take s, ¬ (bF x)) (fun s => l.length - s) 0 (js4 rfl rfl rfl rfl) ⟨jo, rfl, jp⟩ ?_
 rintro i _ ⟨hi, rfl, hno⟩
 refine jS (jR (jb rfl rfl (Bin.lssN _ _) (jO (jN (jS ?_)))))
 refine jD rfl (fun hc1 => ?_) fun hc1 => ?_
 ·
  obtain ⟨ad, rfl, hcell⟩ := sT hl hc1
  have hts := gQ hc1
  have hmem := zaj hc1
  generalize hx : l[i] = x at *
  refine jQ (jN (jv4 0 1 7 8 ?_))
  refine jS (jB (jS (jR (jm rfl (ja rfl (jO (jN (jv5 0 1 5 7 8 ?_))))))))
  refine jS (jR (jm rfl (jm rfl (jm rfl (je (Run.indexS i rfl rfl zl zc hc1) (jl rfl zi hcell ?_))))))
  refine Ops.cl (bJ.dyn rfl (evs.cons rfl evs.nil) Tryz.call52) ((yU x _)) rfl ?_
  rintro e _ ⟨rfl, rfl⟩
  refine ⟨_, rfl, ?_⟩
  refine jO (jN (jv6 0 1 5 7 8 16 ?_))
  refine VC.condB rfl (fun hc2 => ?_) (fun hc2 => ?_)
  ·
   refine jS (jR (jm rfl (ja rfl (jO (jN (jv1 4 ?_))))))
   refine jT ?_
   refine qN (qZ (qZ (qN (qZ (qD rfl ?_)))))
   exact ⟨rfl, _, rfl, ⟨fun _ => ⟨x, hmem, of_decide_eq_true hc2⟩, fun _ => jo⟩⟩
  refine jQ ?_
  refine qS (jN ?_)
  refine jv4 0 1 7 8 ?_
  refine jR (jb rfl rfl (Bin.add_i64 _ 1 jo) (jm rfl (jO ?_)))
  refine jN ⟨(i + 1), (js4 rfl rfl rfl rfl), ?_, ?_⟩
  ·
   refine ⟨hc1, rfl, fun y hy => ?_⟩
   rw [hts] at hy
   rcases zee.1 hy with h | h
   · exact hno y h
   simp only [zg] at h; subst h; exact of_decide_eq_false hc2
  exact jq
 have hil : i = l.length := jo
 rw [hil, zbp] at hno
 refine jX ?_
 refine qV (qV (qC ?_))
 refine jN ?_
 refine VC.sub [] .nil ?_
 refine jS (jR ?_)
 refine Ops.r (v := .int .i64 (-1)) (Run.asg rfl) rfl ?_
 refine jO (jN (jT ?_))
 refine qD rfl ?_
 exact ⟨rfl, _, rfl, ⟨fun h => jo, fun ⟨y, hy, hb⟩ => absurd hb (hno y hy)⟩⟩
theorem qQ7 (A : Option Addr) (c : Nat) (l : List Int) (w : World) (hl : Rd w 1 A l.length (PI l)) (hn : l.length ≤ 2000000) :
  Calls Tryz.prog 51 #[.slice A l.length c, .func (.func 52) #[] #[]] w fun e w' => e = .returned (.bool (decide (∃ n ∈ l, bF n))) ∧ w = w' := by
 refine jV Tryz.func51 Tryz.ntmps51 Tryz.results51 ?_
 refine jS (jR (ja rfl (jO (jN (jv2 0 1 ?_)))))
 refine jS (jR (jm rfl (jM ?_)))
 refine jc (jE2 Tryz.call84) ((idxI A c l _ hl hn)) ?_
 rintro e _ ⟨rfl, k, rfl, hk⟩
 refine ⟨_, rfl, ?_⟩
 refine jb rfl rfl (Bin.geq _ 0) (ja rfl (jO (jN (jv1 4 ?_))))
 refine jT ?_
 refine qD rfl ?_
 exact ⟨by rw [decide_eq_decide.2 hk], rfl⟩
theorem yB (q : Tx) (w : World) (hq : q.length ≤ 2000000) : Calls Tryz.prog 54 #[encStr q] w fun e w' => e = .returned (.bool (decide (¬ bE q))) ∧ w = w' := by
 refine jV Tryz.func54 Tryz.ntmps54 Tryz.results54 ?_
 refine jS (jR (ja rfl (jO (jN (jv1 0 ?_)))))
 refine jS (jR (jM ?_))
 refine jc0 (jE1 Tryz.call55) ((wD q _ hq)) ?_
 refine je (Run.not rfl) (ja rfl (jO (jN (jv1 2 ?_))))
 refine jT ?_
 refine qD rfl ?_
 exact ⟨by by_cases h : bE q <;> simp [h], rfl⟩
theorem idxS (A : Option Addr) (c : Nat) (l : List Tx) (w : World) (hl : Rd w 1 A l.length (SB l)) (hn : l.length ≤ 2000000) (hs : ∀ s ∈ l, s.length ≤ 2000000) :
  Calls Tryz.prog 85 #[.slice A l.length c, .func (.func 54) #[] #[]] w fun e w' => w = w' ∧ ∃ k : Int, e = .returned (.int .i64 k) ∧ (0 ≤ k ↔ ∃ n ∈ l, ¬ bE n) := by
 refine jV Tryz.func85 Tryz.ntmps85 Tryz.results85 ?_
 refine jS (jR (jz 0 (jO (jN (jv2 0 1 ?_)))))
 refine jS (jS (jR (jm rfl (jL rfl zp ?_))))
 refine jx .i64 0 ?_
 refine jO (jN (jv4 0 1 7 8 ?_))
 refine jB ?_
 refine VC.loop (σ := Nat) (fun s => [(0, .slice A l.length c), (1, .func (.func 54) #[] #[]), (7, jI1 l.length), (8, jI1 s)]) (fun s wr => s ≤ l.length ∧ w = wr ∧ ∀ x ∈ l.take s, ¬ (¬ bE x)) (fun s => l.length - s) 0 (js4 rfl rfl rfl rfl) ⟨jo, rfl, jp⟩ ?_
 rintro i _ ⟨hi, rfl, hno⟩
 refine jS (jR (jb rfl rfl (Bin.lssN _ _) (jO (jN (jS ?_)))))
 refine jD rfl (fun hc1 => ?_) fun hc1 => ?_
 ·
  obtain ⟨ad, rfl, hcell⟩ := nV hl hc1
  have hts := gQ hc1
  have hmem := zaj hc1
  generalize hx : l[i] = x at *
  refine jQ (jN (jv4 0 1 7 8 ?_))
  refine jS (jB (jS (jR (jm rfl (ja rfl (jO (jN (jv5 0 1 5 7 8 ?_))))))))
  refine jS (jR (jm rfl (jm rfl (jm rfl (je (Run.indexS i rfl rfl zp zd hc1) (jl rfl zj hcell ?_))))))
  refine Ops.cl (bJ.dyn rfl (evs.cons rfl evs.nil) Tryz.call54) ((yB x _ (hs x hmem))) rfl ?_
  rintro e _ ⟨rfl, rfl⟩
  refine ⟨_, rfl, ?_⟩
  refine jO (jN (jv6 0 1 5 7 8 16 ?_))
  refine VC.condB rfl (fun hc2 => ?_) (fun hc2 => ?_)
  ·
   refine jS (jR (jm rfl (ja rfl (jO (jN (jv1 4 ?_))))))
   refine jT ?_
   refine qN (qZ (qZ (qN (qZ (qD rfl ?_)))))
   exact ⟨rfl, _, rfl, ⟨fun _ => ⟨x, hmem, of_decide_eq_true hc2⟩, fun _ => jo⟩⟩
  refine jQ ?_
  refine qS (jN ?_)
  refine jv4 0 1 7 8 ?_
  refine jR (jb rfl rfl (Bin.add_i64 _ 1 jo) (jm rfl (jO ?_)))
  refine jN ⟨(i + 1), (js4 rfl rfl rfl rfl), ?_, ?_⟩
  ·
   refine ⟨hc1, rfl, fun y hy => ?_⟩
   rw [hts] at hy
   rcases zee.1 hy with h | h
   · exact hno y h
   simp only [zg] at h; subst h; exact of_decide_eq_false hc2
  exact jq
 have hil : i = l.length := jo
 rw [hil, zbp] at hno
 refine jX ?_
 refine qV (qV (qC ?_))
 refine jN ?_
 refine VC.sub [] .nil ?_
 refine jS (jR ?_)
 refine Ops.r (v := .int .i64 (-1)) (Run.asg rfl) rfl ?_
 refine jO (jN (jT ?_))
 refine qD rfl ?_
 exact ⟨rfl, _, rfl, ⟨fun h => jo, fun ⟨y, hy, hb⟩ => absurd hb (hno y hy)⟩⟩
theorem qQ8 (A : Option Addr) (c : Nat) (l : List Tx) (w : World) (hl : Rd w 1 A l.length (SB l)) (hn : l.length ≤ 2000000) (hs : ∀ s ∈ l, s.length ≤ 2000000) :
  Calls Tryz.prog 53 #[.slice A l.length c, .func (.func 54) #[] #[]] w fun e w' => e = .returned (.bool (decide (∃ n ∈ l, ¬ bE n))) ∧ w = w' := by
 refine jV Tryz.func53 Tryz.ntmps53 Tryz.results53 ?_
 refine jS (jR (ja rfl (jO (jN (jv2 0 1 ?_)))))
 refine jS (jR (jm rfl (jM ?_)))
 refine jc (jE2 Tryz.call85) ((idxS A c l _ hl hn hs)) ?_
 rintro e _ ⟨rfl, k, rfl, hk⟩
 refine ⟨_, rfl, ?_⟩
 refine jb rfl rfl (Bin.geq _ 0) (ja rfl (jO (jN (jv1 4 ?_))))
 refine jT ?_
 refine qD rfl ?_
 exact ⟨by rw [decide_eq_decide.2 hk], rfl⟩
end
section
open Go.RowKit Go.Sort
theorem qQ9 {v : Wnt} (h : 8 < v.path.length ∨ ∃ n ∈ v.path, bF n) : ¬ dT v := fun k => k.1 h
theorem qXa {v : Wnt} (h : (16 < v.names.length ∨ ¬ (qI v.what ↔ 0 < v.names.length)) ∨ ∃ s ∈ v.names, ¬ bE s) : ¬ dT v := fun k => k.2.1 h
theorem rB {v : Wnt} (h3 : ¬ v.what = []) (h4 : ¬ v.what = hdrT) (h5 : ¬ v.what = txtT) (h6 : ¬ v.what = wE) (h7 : ¬ v.what = wF) (h : pV v) : v.what = mimT ∧ 0 < v.path.length := by
 rcases h with h | h | h | h | h | h
 · exact absurd h h3
 · exact absurd h h4
 · exact absurd h h5
 · exact absurd h h6
 · exact absurd h h7
 exact h
theorem qZm (p q : Prop) [Decidable p] [Decidable q] : (decide p != decide q) = decide (¬ (p ↔ q)) := by
 by_cases hp : p <;> by_cases hq : q <;> simp [hp, hq]
theorem fX (v : Wnt) (A : Option Addr) (c : Nat) (B : Option Addr) (d : Nat) : ∀ u ∈ (WtC v A c B d).toList, u.oneCell' = true := by
 intro u hu
 simp only [WtC, zab, zag, or_false] at hu
 rcases hu with rfl | rfl | rfl <;> rfl
theorem oH (v : Wnt) (A B : Option Addr) (c d : Nat) (w : World) (hp : Rd w 1 A v.path.length (PI v.path)) (hpl : v.path.length ≤ 2000000) (hn : Rd w 1 B v.names.length (SB v.names)) (hnl : v.names.length ≤ 2000000) (hns : ∀ s ∈ v.names, s.length ≤ 2000000) :
  Calls Tryz.prog 26 #[.agg (WtC v A c B d)] w fun e w' => e = .returned (.bool (decide (dT v))) ∧ Frm [] w w' := by
 refine jV Tryz.func26 Tryz.ntmps26 Tryz.results26 ?_
 refine jS (jR ?_)
 refine Ops.m (qH.box rfl) rfl ?_
 rintro _ w1 ⟨rfl, hF1⟩
 have hb1 : Blk w1 w.heap.size 47 (WtC v A c B d) := hF1.blk
 have K := hF1.frm
 have hp := hp.frm K jp
 have hn := hn.frm K jp
 generalize w.heap.size = g1 at hb1 ⊢
 refine ja rfl (jO (jN (jv1 1 ?_)))
 refine jS ?_
 refine VC.split1 [(1, _)] (js1 rfl) 3 (.bool (decide (qI v.what))) ?_ ?_
 ·
  refine jR (jf rfl zo rfl zd (jl rfl zj (hb1.cell 1) (je (Run.eqlT rfl rfl) ?_)))
  by_cases hs6 : v.what = wE
  ·
   refine jM ?_
   refine jU ?_
   refine jU ?_
   refine jU ?_
   refine jW rfl rfl au (ja rfl (jO ?_))
   refine jN ⟨(js2 (jC (by first | exact (decide_eq_true (show qI v.what from .inl hs6)).symm | exact (decide_eq_true hs6).trans (decide_eq_true (show qI v.what from .inl hs6)).symm | exact (decide_eq_true hs10).trans (decide_eq_true (show qI v.what from .inr hs10)).symm | exact (decide_eq_false hs10).trans (decide_eq_false (show ¬ (qI v.what) from fun h => h.elim hs6 hs10)).symm)) rfl), rfl⟩
  refine jM ?_
  refine jk (Run.fieldAddr rfl zo rfl zd jd) ?_
  refine jk (Run.load rfl zj (hb1.cell 1)) ?_
  refine jk (Run.eqlT rfl rfl) ?_
  by_cases hs10 : v.what = wF
  ·
   refine jF rfl rfl au (ja rfl (jO ?_))
   refine jN ⟨(js2 (jC (by first | exact (decide_eq_true (show qI v.what from .inl hs6)).symm | exact (decide_eq_true hs6).trans (decide_eq_true (show qI v.what from .inl hs6)).symm | exact (decide_eq_true hs10).trans (decide_eq_true (show qI v.what from .inr hs10)).symm | exact (decide_eq_false hs10).trans (decide_eq_false (show ¬ (qI v.what) from fun h => h.elim hs6 hs10)).symm)) rfl), rfl⟩
  refine jF rfl rfl au (ja rfl (jO ?_))
  refine jN ⟨(js2 (jC (by first | exact (decide_eq_true (show qI v.what from .inl hs6)).symm | exact (decide_eq_true hs6).trans (decide_eq_true (show qI v.what from .inl hs6)).symm | exact (decide_eq_true hs10).trans (decide_eq_true (show qI v.what from .inr hs10)).symm | exact (decide_eq_false hs10).trans (decide_eq_false (show ¬ (qI v.what) from fun h => h.elim hs6 hs10)).symm)) rfl), rfl⟩
 intro Γ hΓ
 refine jN (VC.sub _ hΓ (jS (jS ?_)))
 refine VC.split1 [(1, _), (3, _)] (js2 rfl rfl) 20 (.bool (decide (8 < v.path.length ∨ ∃ n ∈ v.path, bF n))) ?_ ?_
 ·
  refine jR (jf rfl zo rfl zbs (jl rfl zci (hb1.cell 0) (jL rfl zl (jb rfl rfl (Bin.gtrN _ 8) ?_))))
  by_cases hs15 : 8 < v.path.length
  ·
   refine jM ?_
   refine jU ?_
   refine jU ?_
   refine jU ?_
   refine jW rfl rfl au (jO ?_)
   refine jN ⟨(js3 (jC (by first | exact (decide_eq_true (show 8 < v.path.length ∨ ∃ n ∈ v.path, bF n from .inl hs15)).symm | exact (decide_eq_true hs15).trans (decide_eq_true (show 8 < v.path.length ∨ ∃ n ∈ v.path, bF n from .inl hs15)).symm | exact (decide_eq_true hs19).trans (decide_eq_true (show 8 < v.path.length ∨ ∃ n ∈ v.path, bF n from .inr hs19)).symm | exact (decide_eq_false hs19).trans (decide_eq_false (show ¬ (8 < v.path.length ∨ ∃ n ∈ v.path, bF n) from fun h => h.elim hs15 hs19)).symm)) rfl rfl), rfl⟩
  refine jM ?_
  refine jk (Run.fieldAddr rfl zo rfl zbs jd) ?_
  refine jk (Run.load rfl zci (hb1.cell 0)) ?_
  refine Ops.clg rfl au (jE2 Tryz.call51) ((qQ7 A c v.path _ hp hpl)) rfl ?_
  rintro e _ ⟨rfl, rfl⟩
  refine ⟨_, rfl, ?_⟩
  by_cases hs19 : ∃ n ∈ v.path, bF n
  ·
   refine jF rfl rfl au (jO ?_)
   refine jN ⟨(js3 (jC (by first | exact (decide_eq_true (show 8 < v.path.length ∨ ∃ n ∈ v.path, bF n from .inl hs15)).symm | exact (decide_eq_true hs15).trans (decide_eq_true (show 8 < v.path.length ∨ ∃ n ∈ v.path, bF n from .inl hs15)).symm | exact (decide_eq_true hs19).trans (decide_eq_true (show 8 < v.path.length ∨ ∃ n ∈ v.path, bF n from .inr hs19)).symm | exact (decide_eq_false hs19).trans (decide_eq_false (show ¬ (8 < v.path.length ∨ ∃ n ∈ v.path, bF n) from fun h => h.elim hs15 hs19)).symm)) rfl rfl), rfl⟩
  refine jF rfl rfl au (jO ?_)
  refine jN ⟨(js3 (jC (by first | exact (decide_eq_true (show 8 < v.path.length ∨ ∃ n ∈ v.path, bF n from .inl hs15)).symm | exact (decide_eq_true hs15).trans (decide_eq_true (show 8 < v.path.length ∨ ∃ n ∈ v.path, bF n from .inl hs15)).symm | exact (decide_eq_true hs19).trans (decide_eq_true (show 8 < v.path.length ∨ ∃ n ∈ v.path, bF n from .inr hs19)).symm | exact (decide_eq_false hs19).trans (decide_eq_false (show ¬ (8 < v.path.length ∨ ∃ n ∈ v.path, bF n) from fun h => h.elim hs15 hs19)).symm)) rfl rfl), rfl⟩
 intro Γ hΓ
 refine jN (VC.sub _ hΓ ?_)
 refine jD rfl (fun hc1 => ?_) fun hc1 => ?_
 ·
  refine jS (jR (ja rfl (jO (jN (jv1 2 ?_)))))
  refine jT ?_
  refine qZ (qD rfl ?_)
  exact ⟨by rw [decide_eq_false (qQ9 hc1)], K⟩
 refine jQ (jN (jv2 1 3 ?_))
 refine jS (jS ?_)
 refine VC.split1 [(1, _)] (js1 rfl) 37 (.bool (decide ((16 < v.names.length ∨ ¬ (qI v.what ↔ 0 < v.names.length)) ∨ ∃ s ∈ v.names, ¬ bE s))) ?_ ?_
 ·
  refine jR (jf rfl zo rfl zai (jl rfl zbi (hb1.cell 2) (jL rfl zp (jb rfl rfl (Bin.gtrN _ 16) ?_))))
  by_cases hs24 : 16 < v.names.length
  ·
   refine jM ?_
   refine jU ?_
   refine jU ?_
   refine jU ?_
   refine jU ?_
   refine jU ?_
   refine jU ?_
   refine jW rfl rfl au (jM ?_)
   refine jU ?_
   refine jU ?_
   refine jU ?_
   refine jW rfl rfl au (jO ?_)
   refine jN ⟨(js2 (jC (by first | exact (decide_eq_true (show (16 < v.names.length ∨ ¬ (qI v.what ↔ 0 < v.names.length)) ∨ ∃ s ∈ v.names, ¬ bE s from .inl (.inl hs24))).symm | exact (decide_eq_true hs24).trans (decide_eq_true (show (16 < v.names.length ∨ ¬ (qI v.what ↔ 0 < v.names.length)) ∨ ∃ s ∈ v.names, ¬ bE s from .inl (.inl hs24))).symm | exact (decide_eq_true (show (16 < v.names.length ∨ ¬ (qI v.what ↔ 0 < v.names.length)) ∨ ∃ s ∈ v.names, ¬ bE s from .inl (.inr hs31))).symm | exact (decide_eq_true hs31).trans (decide_eq_true (show (16 < v.names.length ∨ ¬ (qI v.what ↔ 0 < v.names.length)) ∨ ∃ s ∈ v.names, ¬ bE s from .inl (.inr hs31))).symm | exact (decide_eq_true hs36).trans (decide_eq_true (show (16 < v.names.length ∨ ¬ (qI v.what ↔ 0 < v.names.length)) ∨ ∃ s ∈ v.names, ¬ bE s from .inr hs36)).symm | exact (decide_eq_false hs36).trans (decide_eq_false (show ¬ ((16 < v.names.length ∨ ¬ (qI v.what ↔ 0 < v.names.length)) ∨ ∃ s ∈ v.names, ¬ bE s) from fun h => h.elim (fun h => h.elim hs24 hs31) hs36)).symm)) rfl), rfl⟩
  refine jM ?_
  refine jG ?_
  refine jk (Run.fieldAddr rfl zo rfl zai jd) ?_
  refine jk (Run.load rfl zbi (hb1.cell 2)) ?_
  refine jk (Run.lenS rfl zp) ?_
  refine jk (Run.bin rfl rfl (Bin.gtrN _ 0)) ?_
  refine jk (Run.neqB rfl rfl zan) ?_
  rw [qZm]
  by_cases hs31 : ¬ (qI v.what ↔ 0 < v.names.length)
  ·
   refine jF rfl rfl au (jM ?_)
   refine jU ?_
   refine jU ?_
   refine jU ?_
   refine jW rfl rfl au (jO ?_)
   refine jN ⟨(js2 (jC (by first | exact (decide_eq_true (show (16 < v.names.length ∨ ¬ (qI v.what ↔ 0 < v.names.length)) ∨ ∃ s ∈ v.names, ¬ bE s from .inl (.inl hs24))).symm | exact (decide_eq_true hs24).trans (decide_eq_true (show (16 < v.names.length ∨ ¬ (qI v.what ↔ 0 < v.names.length)) ∨ ∃ s ∈ v.names, ¬ bE s from .inl (.inl hs24))).symm | exact (decide_eq_true (show (16 < v.names.length ∨ ¬ (qI v.what ↔ 0 < v.names.length)) ∨ ∃ s ∈ v.names, ¬ bE s from .inl (.inr hs31))).symm | exact (decide_eq_true hs31).trans (decide_eq_true (show (16 < v.names.length ∨ ¬ (qI v.what ↔ 0 < v.names.length)) ∨ ∃ s ∈ v.names, ¬ bE s from .inl (.inr hs31))).symm | exact (decide_eq_true hs36).trans (decide_eq_true (show (16 < v.names.length ∨ ¬ (qI v.what ↔ 0 < v.names.length)) ∨ ∃ s ∈ v.names, ¬ bE s from .inr hs36)).symm | exact (decide_eq_false hs36).trans (decide_eq_false (show ¬ ((16 < v.names.length ∨ ¬ (qI v.what ↔ 0 < v.names.length)) ∨ ∃ s ∈ v.names, ¬ bE s) from fun h => h.elim (fun h => h.elim hs24 hs31) hs36)).symm)) rfl), rfl⟩
  refine jF rfl rfl au (jM ?_)
  refine jk (Run.fieldAddr rfl zo rfl zai jd) ?_
  refine jk (Run.load rfl zbi (hb1.cell 2)) ?_
  refine Ops.clg rfl au (jE2 Tryz.call53) ((qQ8 B d v.names _ hn hnl hns)) rfl ?_
  rintro e _ ⟨rfl, rfl⟩
  refine ⟨_, rfl, ?_⟩
  by_cases hs36 : ∃ s ∈ v.names, ¬ bE s
  ·
   refine jF rfl rfl au (jO ?_)
   refine jN ⟨(js2 (jC (by first | exact (decide_eq_true (show (16 < v.names.length ∨ ¬ (qI v.what ↔ 0 < v.names.length)) ∨ ∃ s ∈ v.names, ¬ bE s from .inl (.inl hs24))).symm | exact (decide_eq_true hs24).trans (decide_eq_true (show (16 < v.names.length ∨ ¬ (qI v.what ↔ 0 < v.names.length)) ∨ ∃ s ∈ v.names, ¬ bE s from .inl (.inl hs24))).symm | exact (decide_eq_true (show (16 < v.names.length ∨ ¬ (qI v.what ↔ 0 < v.names.length)) ∨ ∃ s ∈ v.names, ¬ bE s from .inl (.inr hs31))).symm | exact (decide_eq_true hs31).trans (decide_eq_true (show (16 < v.names.length ∨ ¬ (qI v.what ↔ 0 < v.names.length)) ∨ ∃ s ∈ v.names, ¬ bE s from .inl (.inr hs31))).symm | exact (decide_eq_true hs36).trans (decide_eq_true (show (16 < v.names.length ∨ ¬ (qI v.what ↔ 0 < v.names.length)) ∨ ∃ s ∈ v.names, ¬ bE s from .inr hs36)).symm | exact (decide_eq_false hs36).trans (decide_eq_false (show ¬ ((16 < v.names.length ∨ ¬ (qI v.what ↔ 0 < v.names.length)) ∨ ∃ s ∈ v.names, ¬ bE s) from fun h => h.elim (fun h => h.elim hs24 hs31) hs36)).symm)) rfl), rfl⟩
  refine jF rfl rfl au (jO ?_)
  refine jN ⟨(js2 (jC (by first | exact (decide_eq_true (show (16 < v.names.length ∨ ¬ (qI v.what ↔ 0 < v.names.length)) ∨ ∃ s ∈ v.names, ¬ bE s from .inl (.inl hs24))).symm | exact (decide_eq_true hs24).trans (decide_eq_true (show (16 < v.names.length ∨ ¬ (qI v.what ↔ 0 < v.names.length)) ∨ ∃ s ∈ v.names, ¬ bE s from .inl (.inl hs24))).symm | exact (decide_eq_true (show (16 < v.names.length ∨ ¬ (qI v.what ↔ 0 < v.names.length)) ∨ ∃ s ∈ v.names, ¬ bE s from .inl (.inr hs31))).symm | exact (decide_eq_true hs31).trans (decide_eq_true (show (16 < v.names.length ∨ ¬ (qI v.what ↔ 0 < v.names.length)) ∨ ∃ s ∈ v.names, ¬ bE s from .inl (.inr hs31))).symm | exact (decide_eq_true hs36).trans (decide_eq_true (show (16 < v.names.length ∨ ¬ (qI v.what ↔ 0 < v.names.length)) ∨ ∃ s ∈ v.names, ¬ bE s from .inr hs36)).symm | exact (decide_eq_false hs36).trans (decide_eq_false (show ¬ ((16 < v.names.length ∨ ¬ (qI v.what ↔ 0 < v.names.length)) ∨ ∃ s ∈ v.names, ¬ bE s) from fun h => h.elim (fun h => h.elim hs24 hs31) hs36)).symm)) rfl), rfl⟩
 intro Γ hΓ
 refine jN (VC.sub _ hΓ ?_)
 refine jD rfl (fun hc2 => ?_) fun hc2 => ?_
 ·
  refine jS (jR (ja rfl (jO (jN (jv1 2 ?_)))))
  refine jT ?_
  refine qZ (qD rfl ?_)
  exact ⟨by rw [decide_eq_false (qXa hc2)], K⟩
 refine jQ (jN (jv1 1 ?_))
 refine jS (jS (jR (jf rfl zo rfl zd (jl rfl zj (hb1.cell 1) (jO (jN (jv2 1 39 ?_)))))))
 refine jB (jS (jS (jR (je (Run.eqlT rfl rfl) (ja rfl (jO (jN (jv3 1 39 40 ?_))))))))
 refine jD rfl (fun hc3 => ?_) fun hc3 => ?_
 ·
  refine jQ (jN ?_)
  refine VC.condT rfl (decide_eq_true hc3) ?_
  refine jS (jR (ja rfl (jO (jN (jv1 2 ?_)))))
  refine jT ?_
  refine qN (qZ (qD rfl ?_))
  exact ⟨by rw [decide_eq_true (show dT v from ⟨hc1, hc2, .inl hc3⟩)], K⟩
 refine jS (jR (je (Run.eqlT rfl rfl) (ja rfl (jO (jN (jv3 1 39 40 ?_))))))
 refine jD rfl (fun hc4 => ?_) fun hc4 => ?_
 ·
  refine jQ (jN ?_)
  refine VC.condT rfl (decide_eq_true hc4) ?_
  refine jS (jR (ja rfl (jO (jN (jv1 2 ?_)))))
  refine jT ?_
  refine qN (qZ (qD rfl ?_))
  exact ⟨by rw [decide_eq_true (show dT v from ⟨hc1, hc2, .inr (.inl hc4)⟩)], K⟩
 refine jS (jR (je (Run.eqlT rfl rfl) (ja rfl (jO (jN (jv3 1 39 40 ?_))))))
 refine jD rfl (fun hc5 => ?_) fun hc5 => ?_
 ·
  refine jQ (jN ?_)
  refine VC.condT rfl (decide_eq_true hc5) ?_
  refine jS (jR (ja rfl (jO (jN (jv1 2 ?_)))))
  refine jT ?_
  refine qN (qZ (qD rfl ?_))
  exact ⟨by rw [decide_eq_true (show dT v from ⟨hc1, hc2, .inr (.inr (.inl hc5))⟩)], K⟩
 refine jS (jR (je (Run.eqlT rfl rfl) (ja rfl (jO (jN (jv3 1 39 40 ?_))))))
 refine jD rfl (fun hc6 => ?_) fun hc6 => ?_
 ·
  refine jQ (jN ?_)
  refine VC.condT rfl (decide_eq_true hc6) ?_
  refine jS (jR (ja rfl (jO (jN (jv1 2 ?_)))))
  refine jT ?_
  refine qN (qZ (qD rfl ?_))
  exact ⟨by rw [decide_eq_true (show dT v from ⟨hc1, hc2, .inr (.inr (.inr (.inl hc6)))⟩)], K⟩
 refine jR (je (Run.eqlT rfl rfl) (ja rfl (jO (jN (jv3 1 39 40 ?_)))))
 refine jD rfl (fun hc7 => ?_) fun hc7 => ?_
 ·
  refine jS (jR (ja rfl (jO (jN (jv1 2 ?_)))))
  refine jT ?_
  refine qN (qZ (qD rfl ?_))
  exact ⟨by rw [decide_eq_true (show dT v from ⟨hc1, hc2, .inr (.inr (.inr (.inr (.inl hc7))))⟩)], K⟩
 refine jS (jR (je (Run.eqlT rfl rfl) (ja rfl (jO (jN (jv2 1 46 ?_))))))
 refine jD rfl (fun hc8 => ?_) fun hc8 => ?_
 ·
  refine jS (jR (jf rfl zo rfl zbs (jl rfl zci (hb1.cell 0) (jL rfl zl (jb rfl rfl (Bin.gtrN _ 0) (ja rfl (jO (jN (jv1 2 ?_)))))))))
  refine jT ?_
  refine qN (qZ (qD rfl ?_))
  exact ⟨by rw [decide_eq_decide.2 (show 0 < v.path.length ↔ dT v from ⟨fun h => ⟨hc1, hc2, .inr (.inr (.inr (.inr (.inr ⟨hc8, h⟩))))⟩, fun h => (rB hc3 hc4 hc5 hc6 hc7 h.2.2).2⟩)], K⟩
 refine jQ ?_
 refine qS (jN ?_)
 refine VC.sub [] .nil ?_
 refine jS (jR (ja rfl (jO (jN (jT ?_)))))
 refine qD rfl ?_
 exact ⟨by rw [decide_eq_false (show ¬ dT v from fun h => hc8 (rB hc3 hc4 hc5 hc6 hc7 h.2.2).1)], K⟩
end
section
open Go.RowKit Go.Sort
def low (c : UInt8) : UInt8 := if 65 ≤ c.toNat ∧ c.toNat ≤ 90 then c + 32 else c
theorem nD (c : UInt8) : (low c).toNat = if 65 ≤ c.toNat ∧ c.toNat ≤ 90 then c.toNat + 32 else c.toNat := by
 unfold low
 split
 ·
  rename_i h
  rw [UInt8.toNat_add]
  have : (32 : UInt8).toNat = 32 := rfl
  omega
 rfl
def qO (s : Tx) : Tx := s.map low
theorem dM (s : Tx) : (qO s).length = s.length := by simp [qO]
theorem oM {s : Tx} {i : Nat} (h : i < s.length) : ((s.take i).map low ++ s.drop i).set i (low s[i]) = (s.take (i + 1)).map low ++ s.drop (i + 1) := by
 have e1 : ((s.take i).map low).length = i := by simp; omega
 rw [List.set_append_right _ _ jo, e1, zeh, zao h, List.set_cons_zero]
 have e2 : s.take (i + 1) = s.take i ++ [s[i]] := by rw [zbh, zb h]; rfl
 rw [e2]
 simp only [zcw, zay, List.map_nil, List.append_assoc, List.cons_append, zdo]
theorem tG {s : Tx} {i : Nat} (h : i < s.length) (hl : low s[i] = s[i]) : (s.take i).map low ++ s.drop i = (s.take (i + 1)).map low ++ s.drop (i + 1) := by
 rw [← oM h, hl]
 apply List.ext_getElem?
 intro j
 by_cases hj : j = i
 ·
  subst hj
  have e1 : ((s.take j).map low).length = j := by simp; omega
  rw [zcr (by simp; omega), zav jo, e1, zeh, zao h]
  rfl
 rw [zdc (Ne.symm hj)]
end
section
open Go.RowKit Go.Sort
def bT (w : World) : Prop := (∃ m, w.cell? ⟨1, 0, none⟩ = some (.int .i64 m)) ∧ ∃ ev, w.cell? ⟨4, 0, none⟩ = some ev ∧ (ev = .nilIface ∨ ∃ te pe, ev = .iface te pe)
theorem rC {w w' : World} {a : Addr} {v : Value} (h : w.cell? a = some v) (k : Frm [] w w') : w'.cell? a = some v := by
 have hlt : a.block < w.heap.size := by
  apply Classical.byContradiction
  intro hn
  have : w.heap[a.block]? = none := by simp; omega
  simp [World.cell?, this] at h
 have e := k.block a.block hlt jp
 simp only [World.cell?] at h ⊢
 rw [e]
 exact h
theorem bT.frm0 {w w' : World} (h : bT w) (k : Frm [] w w') : bT w' := by
 obtain ⟨⟨m, h1⟩, ev, h2, h3⟩ := h
 exact ⟨⟨m, rC h1 k⟩, ev, rC h2 k, h3⟩
theorem rD (s : Tx) (w : World) (hs : s.length ≤ 18) (hv : bT w) : Calls Tryz.prog 136 #[encStr s] w fun e w' => Frm [] w w' ∧ ∃ (n : Int) (ev : Value) (b : Bool), e = .returned (.tuple #[.int .i64 n, ev]) ∧ ((b = false ∧ Lib.atoi s = some n ∧ ev = .nilIface) ∨ (b = true ∧ Lib.atoi s = none ∧ n = 0 ∧ ∃ t v, ev = .iface t v)) := by
 have hsz : (⟨s.toArray⟩ : ByteArray).size ≤ 18 := by show s.toArray.size ≤ 18; simpa using hs
 have hl : (⟨s.toArray⟩ : ByteArray).data.toList = s := by simp
 cases h : Lib.atoi s with
 | some n => exact (Tryz.strconv_Atoi ⟨s.toArray⟩ n hsz (by rw [hl]; exact h) w).mono fun e w' ⟨he, t, hw⟩ => ⟨Frm.of_below (hw ▸ Lib.bytesWorld_below _ _ _), n, _, false, he, .inl ⟨rfl, rfl, rfl⟩⟩
 | none =>
  obtain ⟨_, ev, h2, h3⟩ := hv
  exact (Tryz.strconv_Atoi_err ⟨s.toArray⟩ hsz (by rw [hl]; exact h) ev w h2 h3).mono fun e w' ⟨N, he, _, _, hb⟩ => ⟨Frm.of_below hb, 0, _, true, he, .inr ⟨rfl, rfl, rfl, _, _, rfl⟩⟩
section
variable {P : Program} {Γ : Env} {w : World} {dst : Option Tmp} {T : TypeId} {pos : String} {after : Array Edge} {g : Option (Nat × Bool)}
theorem Run.neqNilE {t yT : TypeId} {x : Operand} {ev : Value} {b : Bool} {d : TypeDesc} (hx : ev? Γ x = some ev) (hev : (b = false ∧ ev = .nilIface) ∨ (b = true ∧ ∃ u v, ev = .iface u v)) (ht : P.underlying t = some d) (hd : lI d = false) :
  Run P ⟨dst, .binOp .neq t x (.const .nilIface) yT, T, pos, after, g⟩ Γ w (.bool b) := by
 rcases hev with ⟨rfl, rfl⟩ | ⟨rfl, u, v, rfl⟩
 · exact Run.neqNil2 hx ht hd
 exact Run.neqNilI hx rfl ht hd
end
def tH (s : Tx) : UInt8 := s.headD 0
def dX (s : Tx) : Prop := ((s = [] ∨ 2 < s.length) ∨ (tH s).toNat < 49) ∨ 57 < (tH s).toNat
instance (s : Tx) : Decidable (dX s) := by unfold dX; infer_instance
def eB (s : Tx) : Int := if dX s then 0 else match Lib.atoi s with
 | some n => if 64 < n then 0 else n
 | none => 0
theorem uS (s : Tx) (w : World) (hs : s.length ≤ 1000000) (hv : bT w) : Calls Tryz.prog 148 #[encStr s] w fun e w' => e = .returned (.int .i64 (eB s)) ∧ Frm [] w w' := by
 have hgx : ¬ s = [] → s[0]? = some (tH s) := fun h => by cases s with
  | nil => exact absurd rfl h
  | cons x r => rfl
 refine jV Tryz.func148 Tryz.ntmps148 Tryz.results148 ?_
 refine jS (jR (jz 0 (jO (jN (jv1 0 ?_)))))
 refine jS (jS ?_)
 refine VC.split1 [(0, _)] (js1 rfl) 21 (.bool (decide (dX s))) ?_ ?_
 ·
  refine jR ?_
  refine jm rfl (je (Run.eqlT rfl rfl) ?_)
  by_cases hs6 : s = []
  ·
   refine jM ?_
   refine jU ?_
   refine jU ?_
   refine jU ?_
   refine jW rfl rfl au (jM ?_)
   refine jU ?_
   refine jU ?_
   refine jU ?_
   refine jW rfl rfl au (jM ?_)
   refine jU ?_
   refine jU ?_
   refine jU ?_
   refine jW rfl rfl au (jO ?_)
   refine jN ⟨(js2 (jC (by first | (simp [dX, hs6, hs10, hs15, hs20]; done) | (simp [dX, hs6, hs10, hs15]; done) | (simp [dX, hs6, hs10]; done) | (simp [dX, hs6]; done))) rfl), rfl⟩
  refine jM ?_
  refine jG ?_
  refine jk (Run.lenT rfl za) ?_
  refine jk (Run.bin rfl rfl (Bin.gtrN _ 2)) ?_
  by_cases hs10 : 2 < s.length
  ·
   refine jF rfl rfl au (jM ?_)
   refine jU ?_
   refine jU ?_
   refine jU ?_
   refine jW rfl rfl au (jM ?_)
   refine jU ?_
   refine jU ?_
   refine jU ?_
   refine jW rfl rfl au (jO ?_)
   refine jN ⟨(js2 (jC (by first | (simp [dX, hs6, hs10, hs15, hs20]; done) | (simp [dX, hs6, hs10, hs15]; done) | (simp [dX, hs6, hs10]; done) | (simp [dX, hs6]; done))) rfl), rfl⟩
  refine jF rfl rfl au (jM ?_)
  refine jG ?_
  refine jk (Run.indexT 0 rfl rfl za (hgx hs6)) ?_
  refine jk (Run.bin rfl rfl (Bin.lssN _ 49)) ?_
  by_cases hs15 : (tH s).toNat < 49
  ·
   refine jF rfl rfl au (jM ?_)
   refine jU ?_
   refine jU ?_
   refine jU ?_
   refine jW rfl rfl au (jO ?_)
   refine jN ⟨(js2 (jC (by first | (simp [dX, hs6, hs10, hs15, hs20]; done) | (simp [dX, hs6, hs10, hs15]; done) | (simp [dX, hs6, hs10]; done) | (simp [dX, hs6]; done))) rfl), rfl⟩
  refine jF rfl rfl au (jM ?_)
  refine jG ?_
  refine jk (Run.indexT 0 rfl rfl za (hgx hs6)) ?_
  refine jk (Run.bin rfl rfl (Bin.gtrN _ 57)) ?_
  by_cases hs20 : 57 < (tH s).toNat
  ·
   refine jF rfl rfl au (jO ?_)
   refine jN ⟨(js2 (jC (by first | (simp [dX, hs6, hs10, hs15, hs20]; done) | (simp [dX, hs6, hs10, hs15]; done) | (simp [dX, hs6, hs10]; done) | (simp [dX, hs6]; done))) rfl), rfl⟩
  refine jF rfl rfl au (jO ?_)
  refine jN ⟨(js2 (jC (by first | (simp [dX, hs6, hs10, hs15, hs20]; done) | (simp [dX, hs6, hs10, hs15]; done) | (simp [dX, hs6, hs10]; done) | (simp [dX, hs6]; done))) rfl), rfl⟩
 intro Γ hΓ
 refine jN (VC.sub _ hΓ ?_)
 refine jD rfl (fun hc1 => ?_) fun hc1 => ?_
 ·
  have hnq : eB s = 0 := by unfold eB; rw [if_pos hc1]
  refine jS (jR (jz 0 (jO (jN (jv1 2 ?_)))))
  refine jT ?_
  refine qZ (qD rfl ?_)
  exact ⟨by rw [hnq]; rfl, Frm.refl _ _⟩
 have hs2 : s.length ≤ 2 := by
  apply Classical.byContradiction
  intro h
  exact hc1 (.inl (.inl (.inr jo)))
 refine jQ (jN (jv1 0 ?_))
 refine jS (jR (jM ?_))
 refine jc (jE1 Tryz.call136) ((rD s _ jo hv)) ?_
 rintro e w1 ⟨K, n, ev, b, rfl, hab⟩
 refine ⟨_, rfl, ?_⟩
 have hev : (b = false ∧ ev = .nilIface) ∨ (b = true ∧ ∃ u v, ev = .iface u v) := by
  rcases hab with ⟨h1, _, h2⟩ | ⟨h1, _, _, h2⟩
  · exact .inl ⟨h1, h2⟩
  exact .inr ⟨h1, h2⟩
 have hnq : eB s = if b = true ∨ 64 < n then 0 else n := by
  unfold eB
  rw [if_neg hc1]
  rcases hab with ⟨h1, h2, _⟩ | ⟨h1, h2, h3, _⟩
  · rw [h2, h1]; simp
  rw [h2, h1]; simp
 refine jm rfl (jY rfl rfl (jY rfl rfl (ja rfl (ja rfl (jO (jN (jv2 3 4 ?_)))))))
 refine jS (jS ?_)
 refine VC.split1 [(3, _)] (js1 rfl) 32 (.bool (decide (b = true ∨ 64 < n))) ?_ ?_
 ·
  refine jR ?_
  refine jm rfl (je (Run.neqNilE rfl hev zel rfl) ?_)
  rw [show b = decide (b = true) by simp]
  by_cases hs28 : b = true
  ·
   refine jM ?_
   refine jU ?_
   refine jU ?_
   refine jW rfl rfl au (jO ?_)
   refine jN ⟨(js2 (jC (by first | (simp [hs28, hs31]; done) | (simp [hs28]; done))) rfl), rfl⟩
  refine jM ?_
  refine jG ?_
  refine jk (Run.bin rfl rfl (Bin.gtr _ 64)) ?_
  by_cases hs31 : 64 < n
  ·
   refine jF rfl rfl au (jO ?_)
   refine jN ⟨(js2 (jC (by first | (simp [hs28, hs31]; done) | (simp [hs28]; done))) rfl), rfl⟩
  refine jF rfl rfl au (jO ?_)
  refine jN ⟨(js2 (jC (by first | (simp [hs28, hs31]; done) | (simp [hs28]; done))) rfl), rfl⟩
 intro Γ hΓ
 refine jN (VC.sub _ hΓ ?_)
 refine jD rfl (fun hc2 => ?_) fun hc2 => ?_
 ·
  rw [if_pos hc2] at hnq
  refine jS (jR (jz 0 (jO (jN (jv1 2 ?_)))))
  refine jT ?_
  refine qZ (qD rfl ?_)
  exact ⟨by rw [hnq]; rfl, K⟩
 rw [if_neg hc2] at hnq
 refine jQ (jN (jv1 3 ?_))
 refine jS (jR (jm rfl (ja rfl (jO (jN (jv1 2 ?_))))))
 refine jT ?_
 refine qD rfl ?_
 exact ⟨by rw [hnq]; rfl, K⟩
end
section
open Go.RowKit Go.Sort
theorem uT (s : Tx) (c : UInt8) (w : World) : Calls Tryz.prog 199 #[encStr s, encStr [c]] w fun e w' => e = .returned (.int .i64 (Lib.indexByte s c)) ∧ w = w' :=
 (Tryz.stringslite_Index_one ⟨s.toArray⟩ c w).mono fun e w' ⟨h, hw⟩ => ⟨h, hw.symm⟩
theorem tM (s : Tx) (c : UInt8) (w : World) : Calls Tryz.prog 188 #[encStr s, encStr [c]] w fun e w' => e = .returned (.int .i64 (Lib.indexByte s c)) ∧ w = w' :=
 (Tryz.strings_Index_one ⟨s.toArray⟩ c w).mono fun e w' ⟨h, hw⟩ => ⟨h, hw.symm⟩
theorem yC (s : Tx) (c : UInt8) (w : World) (hs : s.length ≤ 1000000) : Calls Tryz.prog 177 #[encStr s, encStr [c]] w fun e w' => e = .returned (.tuple #[encStr (bC c s), encStr (bK c s), .bool (decide (c ∈ s))]) ∧ Frm [] w w' := by
 refine jV Tryz.func177 Tryz.ntmps177 Tryz.results177 ?_
 refine jS (jR (ja rfl (ja rfl (ja rfl (jO (jN (jv2 0 1 ?_)))))))
 refine jS (jS (jR (jm rfl (jM ?_))))
 refine jc0 (jE2 Tryz.call199) (uT s c _) ?_
 refine ja rfl (jO (jN (jv3 0 1 7 ?_)))
 refine jS (jR (jm rfl (jb rfl rfl (Bin.geq _ 0) (jO (jN (jv4 0 1 7 12 ?_))))))
 refine jD rfl (fun hc1 => ?_) fun hc1 => ?_
 ·
  obtain ⟨a, b, rfl, hc, hi⟩ := (fQ s c).resolve_left (fun h => by rw [h.1] at hc1; omega)
  rw [hi]
  obtain ⟨hb1, hb2⟩ := yR (b := b) hc
  simp only [zz, zbo] at hs
  have e1 : (a ++ c :: b).take a.length = a := jp
  have e2 : (a ++ c :: b).drop (a.length + 1) = b := by rw [List.drop_append, zbq jo]; simp
  refine jS ?_
  refine VC.still jK jK ?_
  refine qM ?_
  refine qM ?_
  refine qE (Run.sliceT 0 a.length rfl za evB.none_ (evB.some_ rfl) jo jp) ?_
  refine qM ?_
  refine qM ?_
  refine qM ?_
  refine qE (Run.lenT rfl za) ?_
  refine qE (Run.bin rfl rfl (Bin.add_i64 a.length 1 jo)) ?_
  refine qE (Run.sliceT (a.length + 1) _ rfl za (evB.some_ rfl) evB.none_ (by first | (simp; done) | (simp; omega)) jp) ?_
  refine qA ?_
  refine qA ?_
  refine qA ?_
  refine bG.nil ?_
  refine jN (jv3 4 5 6 ?_)
  refine jT ?_
  refine qZ (qQw rfl rfl rfl ?_)
  refine ⟨?_, (qL.drew _).frm⟩
  rw [hb1, hb2, decide_eq_true jp]
  simp only [List.drop_zero, zeg, e1, e2]
  rw [zy (l := b) (by simp; omega)]
 have hc : c ∉ s := by
  rcases fQ s c with ⟨_, h⟩ | ⟨a, b, _, _, hi⟩
  · exact h
  rw [hi] at hc1; omega
 obtain ⟨hb1, hb2⟩ := yP hc
 refine jQ (jN (jv1 0 ?_))
 refine jS (jR (jm rfl (ja rfl (ja rfl (ja rfl (jO (jN (jv3 4 5 6 ?_))))))))
 refine jT ?_
 refine qQw rfl rfl rfl ?_
 refine ⟨?_, Frm.refl _ _⟩
 rw [hb1, hb2, decide_eq_false hc]
theorem mJ (s : Tx) (c : UInt8) (w : World) (hs : s.length ≤ 1000000) : Calls Tryz.prog 138 #[encStr s, encStr [c]] w fun e w' => e = .returned (.tuple #[encStr (bC c s), encStr (bK c s), .bool (decide (c ∈ s))]) ∧ Frm [] w w' := by
 refine jV Tryz.func138 Tryz.ntmps138 Tryz.results138 ?_
 refine jS (jR (ja rfl (ja rfl (ja rfl (jO (jN (jv2 0 1 ?_)))))))
 refine jS (jR (jm rfl (jM ?_)))
 refine jc (jE2 Tryz.call177) (yC s c _ hs) ?_
 rintro e w1 ⟨rfl, hf1⟩
 refine ⟨_, rfl, ?_⟩
 refine jY rfl rfl (jY rfl rfl (jY rfl rfl (ja rfl (ja rfl (ja rfl (jO (jN (jv3 4 5 6 ?_))))))))
 refine jT ?_
 refine qQw rfl rfl rfl ?_
 exact ⟨rfl, hf1⟩
def pW (w : World) (c : UInt8) (s : Tx) (ga gb gc : Nat) : Prop := Blk w ga 9 #[encStr [c]] ∧ Blk w gb 9 #[encStr s] ∧ Blk w gc 3 #[.int .i64 0]
theorem sN (s : Tx) (c : UInt8) (w : World) : Calls Tryz.prog 176 #[encStr s, encStr [c], .int .i64 0] w fun e w' => Frm [] w w' ∧ ∃ ga gb gc, e = .returned (.func (.func 198) #[] #[jI0 ga, jI0 gb, jI0 gc]) ∧ pW w' c s ga gb gc ∧ (w.heap.size ≤ ga ∧ w.heap.size ≤ gb ∧ w.heap.size ≤ gc ∧ ga ≠ gb ∧ gc ≠ gb) := by
 refine jV Tryz.func176 Tryz.ntmps176 Tryz.results176 ?_
 refine jS (jR ?_)
 refine Ops.m (qH.box rfl) rfl ?_
 rintro _ w1 ⟨rfl, hF1⟩
 have hb1 := hF1.blk
 refine Ops.m (qH.box rfl) rfl ?_
 rintro _ w2 ⟨rfl, hF2⟩
 have hb2 := hF2.blk
 have hb1 := hb1.frm hF2.frm jp
 refine Ops.m (qH.box rfl) rfl ?_
 rintro _ w3 ⟨rfl, hF3⟩
 have hb3 := hF3.blk
 have hb1 := hb1.frm hF3.frm jp
 have hb2 := hb2.frm hF3.frm jp
 have hs1 := hF1.size
 have hs2 := hF2.size
 refine ja rfl (jO (jN (jv3 3 4 5 ?_)))
 refine jS (jR (je (Run.mkFunc evs.nil (evs.cons rfl (evs.cons rfl (evs.cons rfl evs.nil)))) (ja rfl (jO (jN (jv1 6 ?_))))))
 refine jT ?_
 refine qD rfl ?_
 exact ⟨(hF1.frm.trans hF2.frm jp).trans hF3.frm jp, _, _, _, rfl, ⟨hb2, hb1, hb3⟩, jo, jo, jo, jo, jo⟩
theorem sP (s : Tx) (c : UInt8) (w : World) : Calls Tryz.prog 137 #[encStr s, encStr [c]] w fun e w' => Frm [] w w' ∧ ∃ ga gb gc, e = .returned (.func (.func 198) #[] #[jI0 ga, jI0 gb, jI0 gc]) ∧ pW w' c s ga gb gc ∧ (w.heap.size ≤ ga ∧ w.heap.size ≤ gb ∧ w.heap.size ≤ gc ∧ ga ≠ gb ∧ gc ≠ gb) := by
 refine jV Tryz.func137 Tryz.ntmps137 Tryz.results137 ?_
 refine jS (jR (ja rfl (jO (jN (jv2 0 1 ?_)))))
 refine jS (jR (jm rfl (jM ?_)))
 refine jc (jE3 Tryz.call176) (sN s c _) ?_
 rintro e w1 ⟨hf1, ga, gb, gc, rfl, h1, h2⟩
 refine ⟨_, rfl, ?_⟩
 refine ja rfl (jO (jN (jv1 4 ?_)))
 refine jT ?_
 refine qD rfl ?_
 exact ⟨hf1, ga, gb, gc, rfl, h1, h2⟩
theorem wA (s : Tx) (c : UInt8) (ga gb gc : Nat) (hs : s.length ≤ 1000000) (hne : ga ≠ gb ∧ gc ≠ gb) :
  Iter Tryz.prog 198 #[jI0 ga, jI0 gb, jI0 gc] (fun x => #[encStr x]) [gb] [ga, gb, gc] (fun w => pW w c s ga gb gc) (cJ c s) := by
 intro l J Jx w hJ hJx hK hY h0
 obtain ⟨hba, hbb, hbc⟩ := hK
 refine jV Tryz.func198 Tryz.ntmps198 Tryz.results198 ?_
 refine jS (jS (jR (jl rfl zj (hba.cell 0) (je (Run.lenT rfl za) (jb rfl rfl (Bin.eqlN _ 0) (jO (jN (jv5 0 1 2 3 11 ?_))))))))
 refine VC.condF rfl jp ?_
 refine jQ (jN (jv4 0 1 2 3 ?_))
 refine jS (jB ?_)
 refine VC.loop (σ := List Tx × Tx) (fun s1 => [(0, .func (.yield l) #[] #[]), (1, jI0 ga), (2, jI0 gb), (3, jI0 gc)]) (fun s1 wr => cJ c s = s1.1 ++ cJ c s1.2 ∧ s1.2.length ≤ s.length ∧ pW wr c s1.2 ga gb gc ∧ J s1.1 wr) (fun s1 => s1.2.length) ([], s) (js4 rfl rfl rfl rfl) ⟨rfl, zt _, ⟨hba, hbb, hbc⟩, h0⟩ ?_
 rintro ⟨pre, t⟩ wr ⟨hsp, htl, ⟨hba, hbb, hbc⟩, hj⟩
 dsimp only at hsp htl hbb hj
 refine jB (jS (jR (jl rfl zj (hbb.cell 0) (jl rfl zj (hba.cell 0) ?_))))
 refine jc0 (jE2 Tryz.call188) (tM t c _) ?_
 refine ja rfl (jO (jN (jv5 0 1 2 3 7 ?_)))
 refine jS (jS (jR (jm rfl (jb rfl rfl (Bin.lss _ 0) (jO (jN (jv6 0 1 2 3 7 33 ?_)))))))
 refine jD rfl (fun hc4 => ?_) fun hc4 => ?_
 ·
  have hc : c ∉ t := by
   rcases fQ t c with ⟨_, h⟩ | ⟨a, b, _, _, hi⟩
   · exact h
   rw [hi] at hc4; omega
  rw [tW hc] at hsp
  refine jX ?_
  refine qV (kM rfl (qV (qC ?_)))
  refine jN (jv2 0 2 ?_)
  refine jR (jm rfl (jl rfl zj (hbb.cell 0) ?_))
  refine Ops.yield rfl rfl (evs.cons rfl evs.nil) ((hY pre t wr hj ⟨[], by rw [hsp]; simp⟩)) rfl rfl ?_
  rintro e w1 ⟨hoff, hR0⟩
  obtain ⟨yb, rfl, hR⟩ : ∃ yb : Bool, e = .returned (.bool yb) ∧ ((yb = true ∧ J (pre ++ [t]) w1) ∨ (yb = false ∧ Jx (pre ++ [t]) w1)) := by
   rcases hR0 with ⟨rfl, h⟩ | ⟨rfl, h⟩
   · exact ⟨true, rfl, .inl ⟨rfl, h⟩⟩
   exact ⟨false, rfl, .inr ⟨rfl, h⟩⟩
  refine ⟨_, rfl, ?_⟩
  refine jO ?_
  refine cB ?_
  refine ⟨⟨_, rfl⟩, ?_⟩
  rcases hR with ⟨_, h⟩ | ⟨_, h⟩
  · exact .inl (by rw [hsp]; exact h)
  exact .inr ⟨_, h⟩
 obtain ⟨a, b, rfl, hc, hi⟩ := (fQ t c).resolve_left (fun h => by rw [h.1] at hc4; omega)
 rw [hi]
 rw [tY hc] at hsp
 simp only [zz, zbo] at htl
 have e1 : (a ++ c :: b).take a.length = a := jp
 have e2 : (a ++ c :: b).drop (a.length + 1) = b := by rw [List.drop_append, zbq jo]; simp
 have hpre : (pre ++ [a]) <+: cJ c s := ⟨cJ c b, by rw [hsp]; simp⟩
 refine jQ (jN (jv5 0 1 2 3 7 ?_))
 refine jS (jR (jl rfl zj (hbb.cell 0) (jm rfl (jl rfl zi (hbc.cell 0) (jb rfl rfl (Bin.add_i64 a.length 0 jo) (je (Run.sliceT 0 (a.length + 0) rfl za evB.none_ (evB.some_ rfl) jo jp) (ja rfl (jO (jN (jv6 0 1 2 3 7 8 ?_))))))))))
 refine jS (jS (jR (jm rfl (jM ?_))))
 refine Ops.yield rfl rfl (evs.cons rfl evs.nil) ((by simpa using hY pre a wr hj hpre : oV Tryz.prog l #[encStr _] wr _)) rfl rfl ?_
 rintro e w1 ⟨hoff, hR0⟩
 obtain ⟨yb, rfl, hR⟩ : ∃ yb : Bool, e = .returned (.bool yb) ∧ ((yb = true ∧ J (pre ++ [a]) w1) ∨ (yb = false ∧ Jx (pre ++ [a]) w1)) := by
  rcases hR0 with ⟨rfl, h⟩ | ⟨rfl, h⟩
  · exact ⟨true, rfl, .inl ⟨rfl, h⟩⟩
  exact ⟨false, rfl, .inr ⟨rfl, h⟩⟩
 refine ⟨_, rfl, ?_⟩
 have hba := hoff.blk hba jp
 have hbb := hoff.blk hbb jp
 have hbc := hoff.blk hbc jp
 refine je (Run.not rfl) (jO (jN (jv6 0 1 2 3 7 42 ?_)))
 refine VC.condB rfl (fun hc5 => ?_) (fun hc5 => ?_)
 ·
  refine jT ?_
  refine qZ (qN (qZ (qN (qZ (sE ?_)))))
  exact ⟨⟨_, rfl⟩, .inr ⟨_, (hR.resolve_left (fun h => by rw [h.1] at hc5; simp at hc5)).2⟩⟩
 refine jQ (jN (jv5 0 1 2 3 7 ?_))
 refine jR (jl rfl zj (hbb.cell 0) (jm rfl (jl rfl zj (hba.cell 0) (je (Run.lenT rfl za) (jb rfl rfl (Bin.add_i64 a.length 1 jo) (je (Run.sliceT (a.length + 1) (a ++ c :: b).length rfl za (evB.some_ rfl) evB.none_ (by first | (simp; done) | (simp; omega)) jp) ?_))))))
 refine Ops.st (qJ.store rfl rfl zd hbb rfl rfl) ?_
 rintro w2 ⟨hbb2, hf2, hs2⟩
 have hbb2 : Blk w2 gb 9 #[encStr b] := by
  have e3 : ((a ++ c :: b).drop (a.length + 1)).take ((a ++ c :: b).length - (a.length + 1)) = b := by rw [e2]; exact zy (by simp; omega)
  rw [← e3]; exact hbb2
 have hba2 := hba.frm hf2 (by simp; exact hne.1)
 have hbc2 := hbc.frm hf2 (by simp; exact hne.2)
 have hj2 := hJ _ _ _ (hR.resolve_right (fun h => by rw [h.1] at hc5; simp at hc5)).2 hf2
 refine jO ?_
 refine qS (jN ⟨(pre ++ [a], b), (js4 rfl rfl rfl rfl), ?_, ?_⟩)
 · exact ⟨by rw [hsp]; simp, by dsimp only; omega, ⟨hba2, hbb2, hbc2⟩, hj2⟩
 simp; omega
end
section
open Go.RowKit Go.Sort
theorem qJr {c : UInt8} {s : Tx} (h : ¬ s = []) : (bK c s).length < s.length := by
 cases s with
 | nil => exact absurd rfl h
 | cons x r =>
  unfold bK
  have := (gM c r).2
  split <;> simp <;> omega
def lJ : Nat → Tx → List Int → Option (List Int × Tx)
 | 0, r, p => some (p, r)
 | k + 1, r, p => if r = [] then some (p, r) else if eB (bC 46 r) = 0 then some (p, r) else if 46 ∈ r ∧ bK 46 r = [] then none else lJ k (bK 46 r) (p ++ [eB (bC 46 r)])
def sU (s : Tx) : Option (List Int × Tx) := lJ s.length s []
def mK (l : Tx) : Tx := Lib.trimSuffix (Lib.trimPrefix l [40]) [41]
def fW (t : Tx) : List Tx := (Lib.splitB ⟨#[32]⟩ 0 (Lib.countB ⟨t.toArray⟩ ⟨#[32]⟩) ⟨t.toArray⟩).map fun b => b.data.toList
def gO (s : Tx) : Option (List Tx) := if 32 ∈ s then (if (! Lib.hasPrefix (bK 32 s) [40]) = true ∨ (! Lib.hasSuffix (Lib.trimPrefix (bK 32 s) [40]) [41]) = true then none else some (fW (mK (bK 32 s)))) else some []
def cD (s : Tx) : Option Wnt := match gO s with
 | none => none
 | some l => match sU (bC 32 s) with
  | none => none
  | some (p, r) => if dT ⟨p, qT r, l⟩ then some ⟨p, qT r, l⟩ else none
def bB : Wnt := ⟨[], [], []⟩
theorem wI {k : Nat} {r : Tx} {p : List Int} (h : ¬ r = []) (hk : r.length ≤ k) : ∃ k', k = k' + 1 ∧ lJ k r p = if eB (bC 46 r) = 0 then some (p, r) else if 46 ∈ r ∧ bK 46 r = [] then none else lJ k' (bK 46 r) (p ++ [eB (bC 46 r)]) := by
 cases k with
 | zero => exact absurd (List.length_eq_zero_iff.1 jo) h
 | succ k => exact ⟨k, rfl, by rw [lJ, if_neg h]⟩
theorem yD {k : Nat} {p : List Int} : lJ k [] p = some (p, []) := by
 cases k <;> simp [lJ]
theorem yE (a b : List Int) : PI (a ++ b) = PI a ++ PI b := by simp [PI]
theorem qJs (l : List Int) : ∀ u ∈ PI l, u.oneCell' = true := by
 intro u hu
 obtain ⟨b, _, rfl⟩ := List.mem_map.1 hu
 rfl
theorem rE (a p : Tx) (w : World) : Calls Tryz.prog 147 #[encStr a, encStr p] w fun e w' => e = .returned (.tuple #[encStr (Lib.trimPrefix a p), .bool (Lib.hasPrefix a p)]) ∧ w = w' :=
 (Tryz.strings_CutPrefix ⟨a.toArray⟩ ⟨p.toArray⟩ w).mono fun e w' ⟨h1, h2⟩ => ⟨h1, h2.symm⟩
theorem nW (a p : Tx) (w : World) (ha : a.length ≤ 1000000) : Calls Tryz.prog 74 #[encStr a, encStr p] w fun e w' => e = .returned (.tuple #[encStr (Lib.trimSuffix a p), .bool (Lib.hasSuffix a p)]) ∧ w = w' :=
 (Tryz.strings_CutSuffix ⟨a.toArray⟩ ⟨p.toArray⟩ w (by show a.toArray.size ≤ _; simp; omega)).mono fun e w' ⟨h1, h2⟩ => ⟨h1, h2.symm⟩
theorem yF (t : Tx) : Lib.countB ⟨t.toArray⟩ ⟨#[32]⟩ ≤ t.length := by
 have h := Lib.countB_le ⟨#[32]⟩ jd _ ⟨t.toArray⟩ (zt _)
 have e : (⟨t.toArray⟩ : ByteArray).size = t.length := by show t.toArray.size = _; simp
 omega
theorem oN (sep : ByteArray) : ∀ (k : Nat) (s b : ByteArray), b ∈ Lib.splitB sep 0 k s → b.size ≤ s.size
 | 0, s, b, h => by
  rw [Lib.splitB_zero] at h
  simp only [zg] at h
  subst h
  exact zt _
 | k + 1, s, b, h => by
  rw [Lib.splitB] at h
  split at h
  ·
   simp only [zg] at h
   subst h
   exact zt _
  rcases zab.1 h with h | h
  ·
   subst h
   rw [ByteArray.size_extract]
   omega
  have := oN sep k _ b h
  rw [ByteArray.size_extract] at this
  omega
theorem tN (t : Tx) : (fW t).length ≤ t.length + 1 ∧ ∀ x ∈ fW t, x.length ≤ t.length := by
 have h1 := yF t
 have e : (⟨t.toArray⟩ : ByteArray).size = t.length := by show t.toArray.size = _; simp
 refine ⟨by unfold fW; rw [zbc, Lib.splitB_all _ jd 0 _ _ rfl]; omega, fun x hx => ?_⟩
 obtain ⟨b, hb, rfl⟩ := List.mem_map.1 hx
 have := oN _ _ _ b hb
 have e2 : b.data.toList.length = b.size := by simp
 omega
theorem tP (l : Tx) : (mK l).length ≤ l.length ∧ (Lib.trimPrefix l [40]).length ≤ l.length := by
 have h1 : ∀ (a p : Tx), (Lib.trimPrefix a p).length ≤ a.length := fun a p => by unfold Lib.trimPrefix; split <;> simp
 have h2 : ∀ (a p : Tx), (Lib.trimSuffix a p).length ≤ a.length := fun a p => by unfold Lib.trimSuffix; split <;> simp
 have h3 := h1 l [40]
 have h4 := h2 (Lib.trimPrefix l [40]) [41]
 unfold mK
 omega
theorem qXb (t : Tx) (w : World) (ht : t.length ≤ 1000000) (hv : bT w) : Calls Tryz.prog 133 #[encStr t, encStr [32]] w fun e w' => Frm [] w w' ∧ ∃ A c, e = .returned (.slice A (fW t).length c) ∧ Own w' 9 1 A (fW t).length c (SB (fW t)) ∧ ∀ x ∈ ob A, w.heap.size ≤ x := by
 obtain ⟨⟨m, hm⟩, _⟩ := hv
 refine (Tryz.strings_Split ⟨t.toArray⟩ ⟨#[32]⟩ m w (by show t.toArray.size < _; simp; omega) hm jd).mono fun e w' ⟨h1, h2⟩ => ?_
 have hl : (fW t).length = Lib.countB ⟨t.toArray⟩ ⟨#[32]⟩ + 1 := by unfold fW; rw [zbc, Lib.splitB_all _ jd 0 _ _ rfl]
 have hcs : ((Lib.splitB ⟨#[32]⟩ 0 (Lib.countB ⟨t.toArray⟩ ⟨#[32]⟩) ⟨t.toArray⟩).map Value.string).toArray.toList = SB (fW t) := by
  unfold fW SB
  rw [zcs]
  apply zbx
  intro b _
  simp [encStr]
 have hb : Blk w' w.heap.size 9 ((Lib.splitB ⟨#[32]⟩ 0 (Lib.countB ⟨t.toArray⟩ ⟨#[32]⟩) ⟨t.toArray⟩).map Value.string).toArray := by
  rw [h2]
  exact heap_alloc_new w _
 have hcl := yF t
 have hO := Own.of_blk (n := (fW t).length) (size := 1) hb (by rw [zcl, zbc, hl, Lib.splitB_all _ jd 0 _ _ rfl]; omega) (by rw [hl]; unfold maxLen; omega)
 rw [hcs] at hO
 refine ⟨h2 ▸ (Frm.refl [] w).alloc _, _, _, by rw [h1, hl], by rw [← hl]; exact hO, by simp [ob]⟩
theorem wL (q : Tx) (w : World) (hs : q.length ≤ 500000) (hv : bT w) :
  Calls Tryz.prog 105 #[encStr q] w fun e w' => Frm [] w w' ∧ ∃ (PA : Option Addr) (pc : Nat) (NA : Option Addr) (nc : Nat), e = .returned (.tuple #[.agg (WtC ((cD q).getD bB) PA pc NA nc), .int .i64 (if (cD q).isSome then 0 else 3)]) ∧ Own w' 3 1 PA ((cD q).getD bB).path.length pc (PI ((cD q).getD bB).path) ∧ Own w' 9 1 NA ((cD q).getD bB).names.length nc (SB ((cD q).getD bB).names) := by
 have hbl := gM 32 q
 have hil := tP (bK 32 q)
 refine jV Tryz.func105 Tryz.ntmps105 Tryz.results105 ?_
 refine jS (jR ?_)
 refine Ops.m (qH.alloc gL) rfl ?_
 rintro _ w1 ⟨rfl, hF1⟩
 have hb2 : Blk w1 w.heap.size 47 (WtC bB none 0 none 0) := hF1.blk
 have K := hF1.frm
 have l2 := hb2.lt
 generalize hg2e : w.heap.size = g2 at hb2 l2 ⊢
 refine jz 0 (jO (jN (jv2 0 2 ?_)))
 refine jS (jR (je (Run.build evs.nil gL (dP).choose_spec.1 (dP).choose_spec.2 rfl) ?_))
 refine Ops.m (qH.alloc gL) rfl ?_
 rintro _ w2 ⟨rfl, hF2⟩
 have hb4 : Blk w2 w1.heap.size 47 (WtC bB none 0 none 0) := hF2.blk
 have hb2 := hb2.frm hF2.frm jp
 have K1 := K.size
 have K := K.trans hF2.frm jp
 generalize hg4e : w1.heap.size = g4 at hb4 l2 K1 ⊢
 refine Ops.st (qJ.storeA rfl rfl zx hb4 rfl (fX bB none 0 none 0)) ?_
 rintro w3 ⟨hb4n, hf3, _⟩
 have hb4 : Blk w3 g4 47 (WtC bB none 0 none 0) := hb4n
 have hb2 := hb2.frm hf3 (by simp; omega)
 have K := Frm.own K hf3 (fun y hy => by simp at hy; omega)
 refine jO (jN (jv3 0 2 4 ?_))
 refine jS (jR (jM ?_))
 refine jc (jE2 Tryz.call138) ((mJ q 32 _ jo)) ?_
 rintro e w4 ⟨rfl, hf4⟩
 refine ⟨_, rfl, ?_⟩
 have hb2 := hb2.frm hf4 jp
 have hb4 := hb4.frm hf4 jp
 have K := K.trans hf4 jp
 refine jm rfl (jY rfl rfl (jY rfl rfl (jY rfl rfl (ja rfl (ja rfl (ja rfl (jO (jN (jv5 0 2 4 5 6 ?_)))))))))
 refine jS (jS (jR (jm rfl (jO (jN (jv5 0 2 4 5 22 ?_))))))
 refine VC.meet (σ := List Tx × Option Addr × Nat) (fun s => [(0, encStr (bC 32 q)), (2, jI0 g2), (4, jI0 g4)]) (fun s wr => gO q = some s.1 ∧ Blk wr g2 47 (WtC bB none 0 none 0) ∧ Blk wr g4 47 (WtC ⟨[], [], s.1⟩ none 0 s.2.1 s.2.2) ∧ Own wr 9 1 s.2.1 s.1.length s.2.2 (SB s.1) ∧ Frm [] w wr ∧ s.1.length ≤ 1000000 ∧ (∀ x ∈ s.1, x.length ≤ 1000000) ∧ (∀ x ∈ ob s.2.1, w.heap.size ≤ x) ∧ g4 ∉ ob s.2.1 ∧ g2 < g4) ?_ ?_
 ·
  refine VC.condB rfl (fun hc1 => ?_) (fun hc1 => ?_)
  ·
   have hc1 := of_decide_eq_true hc1
   refine jS (jR (jM ?_))
   refine jc0 (jE2 Tryz.call147) ((rE (bK 32 q) [40] _)) ?_
   refine jm rfl (jY rfl rfl (jY rfl rfl (ja rfl (ja rfl (jO (jN (jv5 0 2 4 7 8 ?_)))))))
   refine jS (jR (jM ?_))
   refine jc0 (jE2 Tryz.call74) ((nW (Lib.trimPrefix (bK 32 q) [40]) [41] _ jo)) ?_
   refine jm rfl (jY rfl rfl (jY rfl rfl (ja rfl (ja rfl (jO (jN (jv6 0 2 4 7 8 9 ?_)))))))
   refine jS (jS ?_)
   refine VC.split1 [(0, _), (2, _), (4, _), (7, _)] (js4 rfl rfl rfl rfl) 38 (.bool (decide ((! Lib.hasPrefix (bK 32 q) [40]) = true ∨ (! Lib.hasSuffix (Lib.trimPrefix (bK 32 q) [40]) [41]) = true))) ?_ ?_
   ·
    refine jR ?_
    refine jm rfl (je (Run.not rfl) ?_)
    by_cases hs34 : (! Lib.hasPrefix (bK 32 q) [40]) = true
    ·
     refine jM ?_
     refine jU ?_
     refine jU ?_
     refine jW rfl rfl au (jO ?_)
     refine jN ⟨(js5 (jC (by first | (simp_all; done))) rfl rfl rfl rfl), rfl⟩
    refine jM ?_
    refine jG ?_
    refine jk (Run.not rfl) ?_
    by_cases hs37 : (! Lib.hasSuffix (Lib.trimPrefix (bK 32 q) [40]) [41]) = true
    ·
     refine jF rfl rfl au (jO ?_)
     refine jN ⟨(js5 (jC (by first | (simp_all; done))) rfl rfl rfl rfl), rfl⟩
    refine jF rfl rfl au (jO ?_)
    refine jN ⟨(js5 (jC (by first | (simp_all; done))) rfl rfl rfl rfl), rfl⟩
   intro Γ hΓ
   refine jN (VC.sub _ hΓ ?_)
   refine jD rfl (fun hc2 => ?_) fun hc2 => ?_
   ·
    have hrq : cD q = none := by unfold cD gO; rw [if_pos hc1, if_pos hc2]
    refine jS (jR (je (Run.build evs.nil gL (dP).choose_spec.1 (dP).choose_spec.2 rfl) ?_))
    refine Ops.st (qJ.storeA rfl rfl zx hb2 rfl (fX bB none 0 none 0)) ?_
    rintro Z1 ⟨hb2n, hfz, _⟩
    have hb2 : Blk Z1 g2 47 (WtC bB none 0 none 0) := hb2n
    have K := Frm.own K hfz (fun y hy => by simp at hy; omega)
    refine jz 3 (jO (jN (jv2 2 3 ?_)))
    refine jT ?_
    refine qZ (qZ (qZ (bM ?_)))
    refine qB rfl zbm zx (fun j v hj => hb2.cells j v hj) (by first | rfl | (simp; done)) ?_
    refine cW rfl ?_
    refine qF ?_
    rw [hrq]
    exact ⟨K, none, 0, none, 0, rfl, Own.nil _ _ _, Own.nil _ _ _⟩
   have hnq : gO q = some (fW (mK (bK 32 q))) := by unfold gO; rw [if_pos hc1, if_neg hc2]
   refine jQ (jN (jv4 0 2 4 7 ?_))
   refine jR (jM ?_)
   refine jc (jE2 Tryz.call133) ((qXb (mK (bK 32 q)) _ jo (hv.frm0 K))) ?_
   rintro e w5 ⟨hf5, NA, nc, rfl, hN, hubN⟩
   refine ⟨_, rfl, ?_⟩
   have sK := K.size
   have hb2 := hb2.frm hf5 jp
   have hb4 := hb4.frm hf5 jp
   have K := K.trans hf5 jp
   have hsp := tN (mK (bK 32 q))
   refine jf rfl zo rfl zai ?_
   refine Ops.st (qJ.store rfl rfl zai hb4 rfl rfl) ?_
   rintro w6 ⟨hb4n, hf6, _⟩
   have hb4o := hb4
   have hb4 : Blk w6 g4 47 (WtC ⟨[], [], fW (mK (bK 32 q))⟩ none 0 NA nc) := hb4n
   have hN := hN.frm hf6 (fun y hy => by have := hN.ne_blk hb4o jd; simp; rintro rfl; exact this hy)
   have hb2 := hb2.frm hf6 (by simp; omega)
   have K := Frm.own K hf6 (fun y hy => by simp at hy; omega)
   refine jO ?_
   refine jN ⟨(fW (mK (bK 32 q)), NA, nc), (js3 rfl rfl rfl), ?_⟩
   exact ⟨hnq, hb2, hb4, hN, K, by show (fW (mK (bK 32 q))).length ≤ 1000000; omega, fun x hx => by have := hsp.2 x hx; omega, fun x hx => by have := hubN x hx; omega, hN.ne_blk hb4 jd, by omega⟩
  have hc1 := of_decide_eq_false hc1
  have hnq : gO q = some [] := by unfold gO; rw [if_neg hc1]
  refine jQ ?_
  refine jN ⟨([], none, 0), (js3 rfl rfl rfl), ?_⟩
  exact ⟨hnq, hb2, hb4, Own.nil _ _ _, K, jp, jp, by simp [ob], by simp [ob], jo⟩
 rintro ⟨names, NA, nc⟩ w7 ⟨hnq, hb2, hb4, hN, K, hnl, hns, hubN, hg4N, hg24⟩ Γ hΓ
 dsimp only at hnq hb4 hN hnl hns hubN hg4N
 have lb4 := hb4.lt
 refine jN (VC.sub _ hΓ (jS (jR (jm rfl (ja rfl (jO (jN (jv3 2 4 10 ?_))))))))
 refine jS (jB ?_)
 refine VC.loop (σ := Tx × List Int × Option Addr × Nat) (fun s => [(2, jI0 g2), (4, jI0 g4), (10, encStr s.1)]) (fun s wr => (∃ k, s.1.length ≤ k ∧ lJ k s.1 s.2.1 = sU (bC 32 q)) ∧ s.1.length + s.2.1.length ≤ 1000000 ∧ Blk wr g2 47 (WtC bB none 0 none 0) ∧ Blk wr g4 47 (WtC ⟨s.2.1, [], names⟩ s.2.2.1 s.2.2.2 NA nc) ∧ Own wr 3 1 s.2.2.1 s.2.1.length s.2.2.2 (PI s.2.1) ∧ Own wr 9 1 NA names.length nc (SB names) ∧ Frm [] w wr ∧ (∀ x ∈ ob s.2.2.1, w.heap.size ≤ x ∧ x ≠ g4 ∧ x ≠ g2)) (fun s => s.1.length) (bC 32 q, [], none, 0) (js3 rfl rfl rfl) ⟨⟨_, zt _, rfl⟩, by simp; omega, hb2, hb4, Own.nil _ _ _, hN, K, by simp [ob]⟩ ?_
 rintro ⟨r, p, PA, pc⟩ W ⟨⟨k, hk, hpq⟩, hrl, hb2, hb4, hPI, hN, K, hubP⟩
 dsimp only at hk hpq hrl hb4 hPI hubP ⊢
 have hbr := gM 46 r
 refine jS (jS (jR (jm rfl (je (Run.neqT rfl rfl) (jO (jN (jv4 2 4 10 45 ?_)))))))
 refine jD rfl (fun hc3 => ?_) fun hc3 => ?_
 ·
  obtain ⟨k2, rfl, hst⟩ := wI hc3 hk
  rw [hpq] at hst
  have halt := qJr (c := 46) hc3
  refine jQ (jN (jv3 2 4 10 ?_))
  refine jB (jS (jR (jM ?_)))
  refine jc (jE2 Tryz.call138) ((mJ r 46 _ jo)) ?_
  rintro e W1 ⟨rfl, hf1⟩
  refine ⟨_, rfl, ?_⟩
  have hb2 := hb2.frm hf1 jp
  have hb4 := hb4.frm hf1 jp
  have hPI := hPI.frm hf1 jp
  have hN := hN.frm hf1 jp
  have K := K.trans hf1 jp
  refine jm rfl (jY rfl rfl (jY rfl rfl (jY rfl rfl (ja rfl (ja rfl (ja rfl (jO (jN (jv6 2 4 10 11 12 13 ?_)))))))))
  refine jS (jR (jM ?_))
  refine jc (jE1 Tryz.call148) ((uS (bC 46 r) _ jo (hv.frm0 K))) ?_
  rintro e W2 ⟨rfl, hf2⟩
  refine ⟨_, rfl, ?_⟩
  have hb2 := hb2.frm hf2 jp
  have hb4 := hb4.frm hf2 jp
  have hPI := hPI.frm hf2 jp
  have hN := hN.frm hf2 jp
  have K := K.trans hf2 jp
  refine ja rfl (jO (jN (jv6 2 4 10 12 13 14 ?_)))
  refine jS (jS (jR (jm rfl (jb rfl rfl (Bin.eql _ 0) (jO (jN (jv7 2 4 10 12 13 14 55 ?_)))))))
  refine jD rfl (fun hc4 => ?_) fun hc4 => ?_
  ·
   have hfin : sU (bC 32 q) = some (p, r) := by rw [hst, if_pos hc4]
   refine jX ?_
   refine qV (kM rfl (qV (qC ?_)))
   refine jN (jv3 2 4 10 ?_)
   refine jS (jR (jM ?_))
   refine jc (jE1 Tryz.call149) ((pX r _ jo)) ?_
   rintro e V1 ⟨rfl, hf1⟩
   refine ⟨_, rfl, ?_⟩
   have hb2 := hb2.frm hf1 jp
   have hb4 := hb4.frm hf1 jp
   have hPI := hPI.frm hf1 jp
   have hN := hN.frm hf1 jp
   have K := K.trans hf1 jp
   refine jf rfl zo rfl zd ?_
   refine Ops.st (qJ.store rfl rfl zd hb4 rfl rfl) ?_
   rintro V2 ⟨hb4n, hf2, _⟩
   have hb4 : Blk V2 g4 47 (WtC ⟨p, qT r, names⟩ PA pc NA nc) := hb4n
   have hPI := hPI.frm hf2 (fun y hy => by have := hubP y hy; simp; exact this.2.1)
   have hN := hN.frm hf2 (fun y hy => by simp; rintro rfl; exact hg4N hy)
   have hb2 := hb2.frm hf2 (by simp; omega)
   have K := Frm.own K hf2 (fun y hy => by simp at hy; omega)
   obtain ⟨v, hvv⟩ : ∃ v : Wnt, v = ⟨p, qT r, names⟩ := ⟨_, rfl⟩
   have hrq : cD q = if dT v then some v else none := by unfold cD; rw [hnq]; dsimp only; rw [hfin, hvv]
   rw [← hvv] at hb4
   refine jO (jN (jv2 2 4 ?_))
   refine jS (jS (jR (je (Run.loadA rfl zbm zx (fun j v hj => hb4.cells j v hj) (by first | rfl | (simp; done))) ?_)))
   refine jc (jE1 Tryz.call26) ((oH v PA NA pc nc _ (by rw [hvv]; exact hPI.rd) (by rw [hvv]; show p.length ≤ 2000000; omega) (by rw [hvv]; exact hN.rd) (by rw [hvv]; exact zr hnl jd) (by rw [hvv]; exact fun x hx => zr (hns x hx) jd))) ?_
   rintro e V3 ⟨rfl, hf3⟩
   refine ⟨_, rfl, ?_⟩
   have hb2 := hb2.frm hf3 jp
   have hb4 := hb4.frm hf3 jp
   have hPI := hPI.frm hf3 jp
   have hN := hN.frm hf3 jp
   have K := K.trans hf3 jp
   refine je (Run.not rfl) ?_
   rw [vU]
   refine jO (jN (jv3 2 4 74 ?_))
   refine VC.condB rfl (fun hc6 => ?_) (fun hc6 => ?_)
   ·
    rw [if_neg (of_decide_eq_true hc6)] at hrq
    refine jS (jR (je (Run.build evs.nil gL (dP).choose_spec.1 (dP).choose_spec.2 rfl) ?_))
    refine Ops.st (qJ.storeA rfl rfl zx hb2 rfl (fX bB none 0 none 0)) ?_
    rintro Z1 ⟨hb2n, hfz, _⟩
    have hb2 : Blk Z1 g2 47 (WtC bB none 0 none 0) := hb2n
    have K := Frm.own K hfz (fun y hy => by simp at hy; omega)
    refine jz 3 (jO (jN (jv2 2 3 ?_)))
    refine jT ?_
    refine qZ (bM ?_)
    refine qB rfl zbm zx (fun j v hj => hb2.cells j v hj) (by first | rfl | (simp; done)) ?_
    refine cW rfl ?_
    refine qF ?_
    rw [hrq]
    exact ⟨K, none, 0, none, 0, rfl, Own.nil _ _ _, Own.nil _ _ _⟩
   rw [if_pos (Classical.byContradiction fun h => of_decide_eq_false hc6 h)] at hrq
   refine jQ (jN (jv2 2 4 ?_))
   refine jS (jR (je (Run.loadA rfl zbm zx (fun j v hj => hb4.cells j v hj) (by first | rfl | (simp; done))) ?_))
   have hb2o := hb2
   refine Ops.st (qJ.storeA rfl rfl zx hb2 rfl (fX v PA pc NA nc)) ?_
   rintro V4 ⟨hb2n, hf4, _⟩
   have hb2 : Blk V4 g2 47 (WtC v PA pc NA nc) := hb2n
   have hPI := hPI.frm hf4 (fun y hy => by have := hubP y hy; simp; exact this.2.2)
   have hN := hN.frm hf4 (fun y hy => by have := hN.ne_blk hb2o jd; simp; rintro rfl; exact this hy)
   have K := Frm.own K hf4 (fun y hy => by simp at hy; omega)
   refine jz 0 (jO (jN (jv2 2 3 ?_)))
   refine jT ?_
   refine bM ?_
   refine qB rfl zbm zx (fun j v hj => hb2.cells j v hj) (by first | rfl | (simp; done)) ?_
   refine cW rfl ?_
   refine qF ?_
   rw [hrq]
   exact ⟨K, PA, pc, NA, nc, rfl, by rw [hvv] at hb2 ⊢; exact hPI, by rw [hvv]; exact hN⟩
  rw [if_neg hc4] at hst
  refine jQ (jN (jv5 2 4 12 13 14 ?_))
  refine jS (jR (jf rfl zo rfl zbs (jl rfl zci (show _ = some (Value.slice PA p.length pc) from hb4.cell 0) (jM ?_))))
  refine Ops.m (qH.buildS1 rfl zl zc dH jd jd rfl rfl) rfl ?_
  rintro _ W3 ⟨rfl, hF3⟩
  have hrd3 : Rd W3 1 (some ⟨_, 0, none⟩) 1 (PI [eB (bC 46 r)]) := Rd.of_blk (n := 1) (size := 1) hF3.blk rfl
  have hb2 := hb2.frm hF3.frm jp
  have hb4 := hb4.frm hF3.frm jp
  have hPI := hPI.frm hF3.frm jp
  have hN := hN.frm hF3.frm jp
  have K := K.trans hF3.frm jp
  refine Ops.m (qH.app rfl rfl zl (wT) rfl jd hPI hrd3 (qJs _) jo jo) rfl ?_
  rintro _ W4 ⟨PA2, pc2, rfl, hPI2, hf4, hob4⟩
  rw [← yE] at hPI2
  have l43 := hb4.lt
  have hb2 := hb2.frm hf4 (fun hm => (hubP _ hm).2.2 rfl)
  have hb4 := hb4.frm hf4 (fun hm => (hubP _ hm).2.1 rfl)
  have hN := hN.own' hf4 hPI jd
  have sK3 := K.size
  have lb43 := hb4.lt
  have K := Frm.own K hf4 (fun y hy => (hubP y hy).1)
  have hubP2 : ∀ x ∈ ob PA2, w.heap.size ≤ x ∧ x ≠ g4 ∧ x ≠ g2 := fun x hx => by
   rcases hob4 with h | h
   · rw [h] at hx; exact hubP x hx
   rw [h] at hx; simp only [zg] at hx; omega
  refine jf rfl zo rfl zbs ?_
  refine Ops.st (qJ.store rfl rfl zbs hb4 rfl rfl) ?_
  rintro W5 ⟨hb4n, hf5, _⟩
  have hb4o := hb4
  have hPI := hPI2.frm hf5 (fun y hy => by have := hubP2 y hy; simp; exact this.2.1)
  have hpl : (p ++ [eB (bC 46 r)]).length = p.length + 1 := jp
  rw [← hpl] at hPI
  have hb4 : Blk W5 g4 47 (WtC ⟨p ++ [eB (bC 46 r)], [], names⟩ PA2 pc2 NA nc) := by unfold WtC; rw [hpl]; exact hb4n
  have hN := hN.frm hf5 (fun y hy => by simp; rintro rfl; exact hg4N hy)
  have hb2 := hb2.frm hf5 (by simp; omega)
  have K := Frm.own K hf5 (fun y hy => by simp at hy; omega)
  refine jO (jN (jv4 2 4 12 13 ?_))
  refine jS (jR (jm rfl (ja rfl (jO (jN (jv4 2 4 10 13 ?_))))))
  refine jS ?_
  refine VC.split1 [(2, _), (4, _), (10, _)] (js3 rfl rfl rfl) 67 (.bool (decide (46 ∈ r ∧ bK 46 r = []))) ?_ ?_
  ·
   refine jR ?_
   refine jm rfl (jM ?_)
   by_cases hs64 : 46 ∈ r
   ·
    refine jG ?_
    refine jk (Run.eqlT rfl rfl) ?_
    by_cases hs66 : bK 46 r = []
    ·
     refine jW rfl rfl au (jO ?_)
     refine jN ⟨(js4 (jC (by first | exact (decide_eq_true hs66).trans (decide_eq_true ⟨hs64, hs66⟩).symm | exact (decide_eq_false hs66).trans (decide_eq_false (show ¬ (46 ∈ r ∧ bK 46 r = []) from fun h => hs66 h.2)).symm | exact (decide_eq_false (show ¬ (46 ∈ r ∧ bK 46 r = []) from fun h => hs64 h.1)).symm | exact (decide_eq_false hs64).trans (decide_eq_false (show ¬ (46 ∈ r ∧ bK 46 r = []) from fun h => hs64 h.1)).symm)) rfl rfl rfl), rfl⟩
    refine jW rfl rfl au (jO ?_)
    refine jN ⟨(js4 (jC (by first | exact (decide_eq_true hs66).trans (decide_eq_true ⟨hs64, hs66⟩).symm | exact (decide_eq_false hs66).trans (decide_eq_false (show ¬ (46 ∈ r ∧ bK 46 r = []) from fun h => hs66 h.2)).symm | exact (decide_eq_false (show ¬ (46 ∈ r ∧ bK 46 r = []) from fun h => hs64 h.1)).symm | exact (decide_eq_false hs64).trans (decide_eq_false (show ¬ (46 ∈ r ∧ bK 46 r = []) from fun h => hs64 h.1)).symm)) rfl rfl rfl), rfl⟩
   refine jU ?_
   refine jU ?_
   refine jF rfl rfl au (jO ?_)
   refine jN ⟨(js4 (jC (by first | exact (decide_eq_true hs66).trans (decide_eq_true ⟨hs64, hs66⟩).symm | exact (decide_eq_false hs66).trans (decide_eq_false (show ¬ (46 ∈ r ∧ bK 46 r = []) from fun h => hs66 h.2)).symm | exact (decide_eq_false (show ¬ (46 ∈ r ∧ bK 46 r = []) from fun h => hs64 h.1)).symm | exact (decide_eq_false hs64).trans (decide_eq_false (show ¬ (46 ∈ r ∧ bK 46 r = []) from fun h => hs64 h.1)).symm)) rfl rfl rfl), rfl⟩
  intro Γ hΓ
  refine jN (VC.sub _ hΓ ?_)
  refine jD rfl (fun hc5 => ?_) fun hc5 => ?_
  ·
   rw [if_pos hc5] at hst
   have hrq : cD q = none := by unfold cD; rw [hnq]; dsimp only; rw [hst]
   refine jS (jR (je (Run.build evs.nil gL (dP).choose_spec.1 (dP).choose_spec.2 rfl) ?_))
   refine Ops.st (qJ.storeA rfl rfl zx hb2 rfl (fX bB none 0 none 0)) ?_
   rintro Z1 ⟨hb2n, hfz, _⟩
   have hb2 : Blk Z1 g2 47 (WtC bB none 0 none 0) := hb2n
   have K := Frm.own K hfz (fun y hy => by simp at hy; omega)
   refine jz 3 (jO (jN (jv2 2 3 ?_)))
   refine jT ?_
   refine qN (qZ (qN (qZ (bM ?_))))
   refine qB rfl zbm zx (fun j v hj => hb2.cells j v hj) (by first | rfl | (simp; done)) ?_
   refine cW rfl ?_
   refine qF ?_
   rw [hrq]
   exact ⟨K, none, 0, none, 0, rfl, Own.nil _ _ _, Own.nil _ _ _⟩
  rw [if_neg hc5] at hst
  refine jQ ?_
  refine qS (jN ⟨(bK 46 r, p ++ [eB (bC 46 r)], PA2, pc2), (js3 rfl rfl rfl), ?_, ?_⟩)
  · exact ⟨⟨k2, by show (bK 46 r).length ≤ k2; omega, hst.symm⟩, by show (bK 46 r).length + (p ++ [eB (bC 46 r)]).length ≤ 1000000; omega, hb2, hb4, hPI, hN, K, hubP2⟩
  exact jq
 have hr0 : r = [] := Classical.byContradiction hc3
 subst hr0
 have hfin : sU (bC 32 q) = some (p, []) := by rw [← hpq, yD]
 refine jX ?_
 refine qV (qV (qC ?_))
 refine jN (jv3 2 4 10 ?_)
 refine jS (jR (jM ?_))
 refine jc (jE1 Tryz.call149) ((pX [] _ jp)) ?_
 rintro e V1 ⟨rfl, hf1⟩
 refine ⟨_, rfl, ?_⟩
 have hb2 := hb2.frm hf1 jp
 have hb4 := hb4.frm hf1 jp
 have hPI := hPI.frm hf1 jp
 have hN := hN.frm hf1 jp
 have K := K.trans hf1 jp
 refine jf rfl zo rfl zd ?_
 refine Ops.st (qJ.store rfl rfl zd hb4 rfl rfl) ?_
 rintro V2 ⟨hb4n, hf2, _⟩
 have hb4 : Blk V2 g4 47 (WtC ⟨p, qT [], names⟩ PA pc NA nc) := hb4n
 have hPI := hPI.frm hf2 (fun y hy => by have := hubP y hy; simp; exact this.2.1)
 have hN := hN.frm hf2 (fun y hy => by simp; rintro rfl; exact hg4N hy)
 have hb2 := hb2.frm hf2 (by simp; omega)
 have K := Frm.own K hf2 (fun y hy => by simp at hy; omega)
 obtain ⟨v, hvv⟩ : ∃ v : Wnt, v = ⟨p, qT [], names⟩ := ⟨_, rfl⟩
 have hrq : cD q = if dT v then some v else none := by unfold cD; rw [hnq]; dsimp only; rw [hfin, hvv]
 rw [← hvv] at hb4
 refine jO (jN (jv2 2 4 ?_))
 refine jS (jS (jR (je (Run.loadA rfl zbm zx (fun j v hj => hb4.cells j v hj) (by first | rfl | (simp; done))) ?_)))
 refine jc (jE1 Tryz.call26) ((oH v PA NA pc nc _ (by rw [hvv]; exact hPI.rd) (by rw [hvv]; show p.length ≤ 2000000; omega) (by rw [hvv]; exact hN.rd) (by rw [hvv]; exact zr hnl jd) (by rw [hvv]; exact fun x hx => zr (hns x hx) jd))) ?_
 rintro e V3 ⟨rfl, hf3⟩
 refine ⟨_, rfl, ?_⟩
 have hb2 := hb2.frm hf3 jp
 have hb4 := hb4.frm hf3 jp
 have hPI := hPI.frm hf3 jp
 have hN := hN.frm hf3 jp
 have K := K.trans hf3 jp
 refine je (Run.not rfl) ?_
 rw [vU]
 refine jO (jN (jv3 2 4 74 ?_))
 refine VC.condB rfl (fun hc6 => ?_) (fun hc6 => ?_)
 ·
  rw [if_neg (of_decide_eq_true hc6)] at hrq
  refine jS (jR (je (Run.build evs.nil gL (dP).choose_spec.1 (dP).choose_spec.2 rfl) ?_))
  refine Ops.st (qJ.storeA rfl rfl zx hb2 rfl (fX bB none 0 none 0)) ?_
  rintro Z1 ⟨hb2n, hfz, _⟩
  have hb2 : Blk Z1 g2 47 (WtC bB none 0 none 0) := hb2n
  have K := Frm.own K hfz (fun y hy => by simp at hy; omega)
  refine jz 3 (jO (jN (jv2 2 3 ?_)))
  refine jT ?_
  refine qZ (bM ?_)
  refine qB rfl zbm zx (fun j v hj => hb2.cells j v hj) (by first | rfl | (simp; done)) ?_
  refine cW rfl ?_
  refine qF ?_
  rw [hrq]
  exact ⟨K, none, 0, none, 0, rfl, Own.nil _ _ _, Own.nil _ _ _⟩
 rw [if_pos (Classical.byContradiction fun h => of_decide_eq_false hc6 h)] at hrq
 refine jQ (jN (jv2 2 4 ?_))
 refine jS (jR (je (Run.loadA rfl zbm zx (fun j v hj => hb4.cells j v hj) (by first | rfl | (simp; done))) ?_))
 have hb2o := hb2
 refine Ops.st (qJ.storeA rfl rfl zx hb2 rfl (fX v PA pc NA nc)) ?_
 rintro V4 ⟨hb2n, hf4, _⟩
 have hb2 : Blk V4 g2 47 (WtC v PA pc NA nc) := hb2n
 have hPI := hPI.frm hf4 (fun y hy => by have := hubP y hy; simp; exact this.2.2)
 have hN := hN.frm hf4 (fun y hy => by have := hN.ne_blk hb2o jd; simp; rintro rfl; exact this hy)
 have K := Frm.own K hf4 (fun y hy => by simp at hy; omega)
 refine jz 0 (jO (jN (jv2 2 3 ?_)))
 refine jT ?_
 refine bM ?_
 refine qB rfl zbm zx (fun j v hj => hb2.cells j v hj) (by first | rfl | (simp; done)) ?_
 refine cW rfl ?_
 refine qF ?_
 rw [hrq]
 exact ⟨K, PA, pc, NA, nc, rfl, by rw [hvv] at hb2 ⊢; exact hPI, by rw [hvv]; exact hN⟩
end
section
open Go.RowKit
def asC (U : Nat → Bool) : Array Value := ((List.range 256).map fun i => Value.bool (U i)).toArray
theorem kG (U : Nat → Bool) : (asC U).size = 256 := by simp [asC]
theorem pY (U : Nat → Bool) {i : Nat} (h : i < 256) : (asC U)[i]? = some (.bool (U i)) := by simp [asC, h]
theorem qZn (U : Nat → Bool) {i : Nat} (h : i < 256) : (asC U).setIfInBounds i (.bool true) = asC fun j => if j = i then true else U j := by
 apply Array.ext_getElem?
 intro j
 rw [zax]
 by_cases hj : i = j
 ·
  subst hj
  rw [if_pos rfl, if_pos (by rw [kG]; exact h), pY _ h, if_pos rfl]
 rw [if_neg hj]
 by_cases hl : j < 256
 · rw [pY _ hl, pY _ hl, if_neg (fun e => hj e.symm)]
 rw [zcq (by rw [kG]; omega), zcq (by rw [kG]; omega)]
theorem vB (U : Nat → Bool) : ∀ u ∈ (asC U).toList, u.oneCell' = true := by
 intro u hu
 simp only [asC, List.mem_map] at hu
 obtain ⟨i, _, rfl⟩ := hu
 rfl
def inS (l : Tx) (k : Nat) : Nat → Bool := fun i => decide (∃ x ∈ l.take k, x.toNat = i)
theorem qXc {l : Tx} {k : Nat} (h : k < l.length) : (fun j => if j = l[k].toNat then true else inS l k j) = inS l (k + 1) := by
 funext j
 have e : l.take (k + 1) = l.take k ++ [l[k]] := by rw [zbh, zb h]; rfl
 unfold inS
 rw [e]
 by_cases hj : j = l[k].toNat
 · rw [if_pos hj]; subst hj; symm; apply decide_eq_true; exact ⟨l[k], zee.2 (.inr (zg.2 rfl)), rfl⟩
 rw [if_neg hj]
 apply decide_eq_decide.2
 constructor
 · rintro ⟨x, hx, he⟩; exact ⟨x, zee.2 (.inl hx), he⟩
 rintro ⟨x, hx, he⟩
 rcases zee.1 hx with hx | hx
 · exact ⟨x, hx, he⟩
 rw [zg] at hx; subst hx; exact absurd he.symm hj
theorem pG (gs : Nat) (U : Nat → Bool) (x : UInt8) (w : World) (hb : Blk w gs 204 (asC U)) : Calls Tryz.prog 189 #[jI0 gs, .int .u8 ((x.toNat : Nat) : Int)] w fun e w' => e = .returned (.bool (U x.toNat)) ∧ w = w' := by
 have hx : x.toNat < 256 := x.toNat_lt
 refine jV Tryz.func189 Tryz.ntmps189 Tryz.results189 ?_
 refine jS (jR (ja rfl (jO (jN (jv2 0 1 ?_)))))
 refine jS (jR (jm rfl (jm rfl (jZ rfl (je (Run.indexA1 _ rfl rfl Tryz.underlying204 zq jo) (jl rfl zaq (show w.cell? ⟨gs, 0 + x.toNat, none⟩ = some (.bool (U x.toNat)) by rw [Nat.zero_add, hb.cell, pY U hx]) (ja rfl (jO (jN (jv1 4 ?_))))))))))
 refine jT ?_
 refine qD rfl ?_
 exact ⟨rfl, rfl⟩
theorem yA (l : Tx) (w : World) (hl : ∀ x ∈ l, x.toNat < 128) (hn : l.length ≤ 1000000) : Calls Tryz.prog 169 #[encStr l] w fun e w' => Frm [] w w' ∧ e = .returned (.tuple #[.agg (asC (inS l l.length)), .bool true]) := by
 refine jV Tryz.func169 Tryz.ntmps169 Tryz.results169 ?_
 refine jS (jR ?_)
 refine Ops.m (qH.alloc vN) rfl ?_
 rintro _ w1 ⟨rfl, hF1⟩
 obtain ⟨gs, hgs⟩ : ∃ gs, gs = w.heap.size := ⟨_, rfl⟩
 have hb1 : Blk w1 gs 204 (asC (inS l 0)) := by
  rw [hgs, show asC (inS l 0) = asC (fun _ => false) from congrArg asC (funext fun i => by simp [inS])]
  exact hF1.blk
 rw [← hgs]
 refine ja rfl (jO (jN (jv2 0 2 ?_)))
 refine jS (jS (jR (jz 0 (jO (jN (jB ?_))))))
 refine VC.loop (σ := Nat) (fun s => [(0, encStr l), (2, jI0 gs), (4, jI1 s)]) (fun s wr => s ≤ l.length ∧ Frm [] w wr ∧ Blk wr gs 204 (asC (inS l s))) (fun s => l.length - s) 0 (js3 rfl rfl rfl) ⟨zac _, hF1.frm, hb1⟩ ?_
 rintro i wr ⟨hi, K, hb⟩
 refine jS (jS (jR (jm rfl (jm rfl (je (Run.lenT rfl za) (jb rfl rfl (Bin.lssN _ _) (jO (jN (jv4 0 2 4 9 ?_)))))))))
 refine jD rfl (fun hc1 => ?_) fun hc1 => ?_
 ·
  have hm := hl _ (zaj hc1)
  refine jQ (jN (jv3 0 2 4 ?_))
  refine jS (jB (jS (jR (jm rfl (jM ?_)))))
  refine je (Run.indexT _ rfl rfl za (zb hc1)) ?_
  refine ja rfl (jO (jN (jv4 0 2 4 5 ?_)))
  refine jS (jS (jR (jm rfl (jb rfl rfl (Bin.geqN _ 128) (jO (jN (jv5 0 2 4 5 16 ?_)))))))
  refine VC.condF rfl jdf ?_
  refine jQ (jN (jv4 0 2 4 5 ?_))
  refine jR (jm rfl (je (Run.indexA1 _ rfl rfl Tryz.underlying204 zq jo) ?_))
  refine Ops.st (qJ.store (i := l[i].toNat) (by first | rfl | (show some _ = some _; rw [Nat.zero_add])) rfl zq hb (by rw [kG, Nat.blt_eq]; omega) rfl) ?_
  rintro w2 ⟨hb2, hf2, hs2⟩
  rw [qZn _ jo, qXc hc1] at hb2
  refine jO ?_
  refine qS (jN ?_)
  refine jv3 0 2 4 ?_
  refine jR (jm rfl (jb rfl rfl (Bin.add_i64 _ 1 jo) (ja rfl (jO ?_))))
  refine jN ⟨i + 1, (js3 rfl rfl rfl), ?_, ?_⟩
  · exact ⟨hc1, K.own hf2 (by simp; omega), hb2⟩
  exact jq
 obtain rfl : i = l.length := jo
 refine jX ?_
 refine qV (qV (qC ?_))
 refine jN (jv1 2 ?_)
 refine jS (jR (je (Run.loadB rfl Tryz.isAgg204 Tryz.sizeOf204 hb (kG _)) ?_))
 refine Ops.st (qJ.storeA rfl rfl Tryz.sizeOf204 hb rfl (vB _)) ?_
 rintro w3 ⟨hb3, hf3, hs3⟩
 refine ja rfl (jO (jN (jv2 2 3 ?_)))
 refine jT ?_
 refine bM ?_
 refine mO rfl Tryz.isAgg204 Tryz.sizeOf204 (hb3) rfl ?_
 refine cW rfl ?_
 refine qF ?_
 exact ⟨K.own hf3 (by simp; omega), rfl⟩
theorem yI (gs : Nat) (U : Nat → Bool) (s : Tx) (w : World) (hb : Blk w gs 204 (asC U)) (hs : s.length ≤ 1000000) : Calls Tryz.prog 170 #[encStr s, jI0 gs] w fun e w' => e = .returned (encStr (s.dropWhile fun x => U x.toNat)) ∧ w = w' := by
 obtain ⟨r, hr⟩ : ∃ r, (s.dropWhile fun x => U x.toNat) = r := ⟨_, rfl⟩
 rw [hr]
 refine jV Tryz.func170 Tryz.ntmps170 Tryz.results170 ?_
 refine jS (jR (ja rfl (jO (jN (jv2 0 1 ?_)))))
 refine jS (jB ?_)
 refine VC.loop (σ := Tx) (fun s => [(0, encStr s), (1, jI0 gs)]) (fun s wr => s.length ≤ 1000000 ∧ (s.dropWhile fun x => U x.toNat) = r ∧ w = wr) (fun s => s.length) s (js2 rfl rfl) ⟨hs, hr, rfl⟩ ?_
 clear hs hr
 rintro s wr ⟨hs, hr, hwr⟩
 subst hwr
 refine jS (jS (jR (jm rfl (je (Run.lenT rfl za) (jb rfl rfl (Bin.gtrN _ 0) (jO (jN (jv3 0 1 7 ?_))))))))
 refine jD rfl (fun hc1 => ?_) fun hc1 => ?_
 ·
  obtain ⟨x, t, rfl⟩ : ∃ x t, s = x :: t := by
   cases s with
   | nil => exact absurd hc1 jp
   | cons x t => exact ⟨x, t, rfl⟩
  refine jQ (jN (jv2 0 1 ?_))
  refine jB (jS (jS (jR (jm rfl (jm rfl (je (Run.indexT 0 rfl rfl za rfl) ?_))))))
  refine jc0 (jE2 Tryz.call189) (pG gs U x w hb) ?_
  refine je (Run.not rfl) (jO (jN (jv3 0 1 12 ?_)))
  refine VC.condB rfl (fun hc2 => ?_) (fun hc2 => ?_)
  ·
   have hu : U x.toNat = false := by simpa using hc2
   rw [List.dropWhile_cons_of_neg (by simp [hu])] at hr
   subst hr
   refine jX ?_
   refine qV (kM rfl (qV (qC ?_)))
   refine jN (jv1 0 ?_)
   refine jS (jR (jm rfl (ja rfl (jO (jN (jv1 4 ?_))))))
   refine jT ?_
   refine qD rfl ?_
   exact ⟨rfl, rfl⟩
  have hu : U x.toNat = true := by simpa using hc2
  rw [List.dropWhile_cons_of_pos (by simp [hu])] at hr
  refine jQ (jN (jv2 0 1 ?_))
  refine jR (jm rfl (je (Run.sliceT 1 _ rfl za (evB.some_ rfl) evB.none_ jo jo) ?_))
  rw [show ((x :: t).drop 1).take ((x :: t).length - 1) = t by simp]
  refine ja rfl (jO ?_)
  refine qS (jN ⟨t, (js2 rfl rfl), ?_, ?_⟩)
  · exact ⟨by simp at hs ⊢; omega, hr, rfl⟩
  simp
 obtain rfl : s = [] := List.length_eq_zero_iff.1 jo
 obtain rfl : [] = r := hr
 refine jX ?_
 refine qV (qV (qC ?_))
 refine jN (jv1 0 ?_)
 refine jS (jR (jm rfl (ja rfl (jO (jN (jv1 4 ?_))))))
 refine jT ?_
 refine qD rfl ?_
 exact ⟨rfl, rfl⟩
theorem yL (gs : Nat) (U : Nat → Bool) (s : Tx) (w : World) (hb : Blk w gs 204 (asC U)) (hs : s.length ≤ 1000000) : Calls Tryz.prog 171 #[encStr s, jI0 gs] w fun e w' => e = .returned (encStr (s.reverse.dropWhile fun x => U x.toNat).reverse) ∧ w = w' := by
 obtain ⟨r, hr⟩ : ∃ r, (s.reverse.dropWhile fun x => U x.toNat).reverse = r := ⟨_, rfl⟩
 rw [hr]
 refine jV Tryz.func171 Tryz.ntmps171 Tryz.results171 ?_
 refine jS (jR (ja rfl (jO (jN (jv2 0 1 ?_)))))
 refine jS (jB ?_)
 refine VC.loop (σ := Tx) (fun s => [(0, encStr s), (1, jI0 gs)]) (fun s wr => s.length ≤ 1000000 ∧ (s.reverse.dropWhile fun x => U x.toNat).reverse = r ∧ w = wr) (fun s => s.length) s (js2 rfl rfl) ⟨hs, hr, rfl⟩ ?_
 clear hs hr
 rintro s wr ⟨hs, hr, hwr⟩
 subst hwr
 refine jS (jS (jR (jm rfl (je (Run.lenT rfl za) (jb rfl rfl (Bin.gtrN _ 0) (jO (jN (jv3 0 1 7 ?_))))))))
 refine jD rfl (fun hc1 => ?_) fun hc1 => ?_
 ·
  obtain ⟨x, t, rfl⟩ : ∃ x t, s = t ++ [x] := by
   have hne : s ≠ [] := fun e => by rw [e] at hc1; exact absurd hc1 jp
   exact ⟨s.getLast hne, s.dropLast, (List.dropLast_concat_getLast hne).symm⟩
  have htl : (t ++ [x]).length = t.length + 1 := jp
  rw [List.reverse_append, List.reverse_singleton, List.singleton_append] at hr
  refine jQ (jN (jv2 0 1 ?_))
  refine jB (jS (jS (jR (jm rfl (jm rfl (jm rfl (je (Run.lenT rfl za) (jb rfl rfl (Bin.sub_i64 _ 1 jo jo) (je (Run.indexT _ rfl rfl za (show (t ++ [x])[(t ++ [x]).length - 1]? = some x by simp)) ?_)))))))))
  refine jc0 (jE2 Tryz.call189) (pG gs U x w hb) ?_
  refine je (Run.not rfl) (jO (jN (jv3 0 1 15 ?_)))
  refine VC.condB rfl (fun hc2 => ?_) (fun hc2 => ?_)
  ·
   have hu : U x.toNat = false := by simpa using hc2
   rw [List.dropWhile_cons_of_neg (by simp [hu])] at hr
   have hr : t ++ [x] = r := by rw [← hr]; simp
   subst hr
   refine jX ?_
   refine qV (kM rfl (qV (qC ?_)))
   refine jN (jv1 0 ?_)
   refine jS (jR (jm rfl (ja rfl (jO (jN (jv1 4 ?_))))))
   refine jT ?_
   refine qD rfl ?_
   exact ⟨rfl, rfl⟩
  have hu : U x.toNat = true := by simpa using hc2
  rw [List.dropWhile_cons_of_pos (by simp [hu])] at hr
  refine jQ (jN (jv2 0 1 ?_))
  refine jR (jm rfl (jm rfl (je (Run.lenT rfl za) (jb rfl rfl (Bin.sub_i64 _ 1 jo jo) (je (Run.sliceT 0 _ rfl za evB.none_ (evB.some_ rfl) jo jo) ?_)))))
  rw [show ((t ++ [x]).drop 0).take ((t ++ [x]).length - 1 - 0) = t by simp]
  refine ja rfl (jO ?_)
  refine qS (jN ⟨t, (js2 rfl rfl), ?_, ?_⟩)
  · exact ⟨by simp at hs ⊢; omega, hr, rfl⟩
  simp
 obtain rfl : s = [] := List.length_eq_zero_iff.1 jo
 obtain rfl : [] = r := hr
 refine jX ?_
 refine qV (qV (qC ?_))
 refine jN (jv1 0 ?_)
 refine jS (jR (jm rfl (ja rfl (jO (jN (jv1 4 ?_))))))
 refine jT ?_
 refine qD rfl ?_
 exact ⟨rfl, rfl⟩
def sB (l s : Tx) : Tx := ((s.reverse.dropWhile fun x => inS l l.length x.toNat).reverse).dropWhile fun x => inS l l.length x.toNat
theorem yO (s l : Tx) (w : World) (hs : s.length ≤ 1000000) (hl : ∀ x ∈ l, x.toNat < 128) (hn : l.length ≤ 1000) (h2 : 2 ≤ l.length) (h1 : 1 ≤ s.length) : Calls Tryz.prog 135 #[encStr s, encStr l] w fun e w' => e = .returned (encStr (sB l s)) ∧ Frm [] w w' := by
 have hse : ¬ s = [] := fun e => by rw [e] at h1; simp at h1
 have hle : ¬ l = [] := fun e => by rw [e] at h2; simp at h2
 refine jV Tryz.func135 Tryz.ntmps135 Tryz.results135 ?_
 refine jS (jR (ja rfl (jO (jN (jv2 0 1 ?_)))))
 refine jS (jS (jR (jm rfl (je (Run.eqlT rfl rfl) (jM ?_)))))
 refine Ops.rg rfl (decide_eq_false hse) (Run.mv rfl) rfl ?_
 refine Ops.rg rfl (decide_eq_false hse) (Run.eqlT rfl rfl) rfl ?_
 refine jF rfl rfl (decide_eq_false hse) (jO (jN (jv3 0 1 12 ?_)))
 refine VC.condF rfl (decide_eq_false hle) ?_
 refine jQ (jN (jv2 0 1 ?_))
 refine jS (jS (jR (jm rfl (je (Run.lenT rfl za) (jb rfl rfl (Bin.eqlN _ 1) (jM ?_))))))
 refine Ops.sk rfl jdf rfl ?_
 refine Ops.sk rfl jdf rfl ?_
 refine Ops.sk rfl jdf rfl ?_
 refine jF rfl rfl jdf (jO (jN (jv3 0 1 21 ?_)))
 refine VC.condF rfl (rfl) ?_
 refine jQ (jN (jv2 0 1 ?_))
 refine jS (jS (jR (jM ?_)))
 refine jc (jE1 Tryz.call169) (yA l w hl jo) ?_
 rintro e w1 ⟨hf1, rfl⟩
 refine ⟨_, rfl, ?_⟩
 refine jm rfl (jY rfl rfl (jY rfl rfl ?_))
 refine Ops.m (qH.alloc vN) rfl ?_
 rintro _ w2 ⟨rfl, hF2⟩
 refine Ops.st (qJ.storeA rfl rfl Tryz.sizeOf204 hF2.blk (by rw [kG]; rfl) (vB _)) ?_
 rintro w3 ⟨hb3, hf3, hs3⟩
 have K := (hf1.trans hF2.frm jp).own hf3 (by simp; exact hf1.size)
 refine ja rfl (jO (jN (jv4 0 1 5 6 ?_)))
 refine jS (jR (jm rfl (jO (jN (jv4 0 1 5 34 ?_)))))
 refine VC.condT rfl (rfl) ?_
 refine jS (jR (jM ?_))
 refine jc0 (jE2 Tryz.call171) (yL w1.heap.size (inS l l.length) s w3 hb3 hs) ?_
 refine jc0 (jE2 Tryz.call170) (yI w1.heap.size (inS l l.length) _ w3 hb3 (by rw [List.length_reverse]; exact zr (List.dropWhile_sublist _).length_le (by rw [List.length_reverse]; exact hs))) ?_
 refine ja rfl (jO (jN (jv1 4 ?_)))
 refine jT ?_
 refine qZ (qD rfl ?_)
 exact ⟨rfl, K⟩
end
section
open Go.RowKit Go.Sort
theorem zQ : fF [42] = 0 := jd
theorem qXd {s : Tx} (h : s ≠ [42]) (h2 : s = [] ∨ 10 < s.length ∨ s.head? = some 48) : fF s = -1 := by
 unfold fF
 rw [if_neg h, if_pos h2]
theorem qZo {s : Tx} (h : s ≠ [42]) (h2 : ¬ (s = [] ∨ 10 < s.length ∨ s.head? = some 48)) : fF s = if (∀ x ∈ s, Dig x) ∧ bP 0 s ≤ 2147483647 then ((bP 0 s : Nat) : Int) else -1 := by
 unfold fF
 rw [if_neg h, if_neg h2]
theorem lY (s : Tx) (w : World) (hs : s.length ≤ 1000000) : Calls Tryz.prog 139 #[encStr s] w fun e w' => e = .returned (.int .i64 (fF s)) ∧ w = w' := by
 refine jV Tryz.func139 Tryz.ntmps139 Tryz.results139 ?_
 refine jS (jR (jz 0 (jO (jN (jv1 0 ?_)))))
 refine jS (jS (jR (jm rfl (je (Run.eqlT rfl rfl) (jO (jN (jv2 0 6 ?_)))))))
 refine jD rfl (fun hc1 => ?_) fun hc1 => ?_
 ·
  subst hc1
  refine jS (jR (jz 0 (jO (jN (jv1 2 ?_)))))
  refine jT ?_
  refine qZ (qD rfl ?_)
  exact ⟨by rw [zQ]; rfl, rfl⟩
 refine jQ (jN (jv1 0 ?_))
 refine jS (jS ?_)
 refine VC.split1 [(0, _)] (js1 rfl) 18 (.bool (decide (s = [] ∨ 10 < s.length ∨ s.head? = some 48))) ?_ ?_
 ·
  refine jR ?_
  refine jm rfl (je (Run.eqlT rfl rfl) ?_)
  by_cases hs8 : s = []
  ·
   refine jM ?_
   refine jU ?_
   refine jU ?_
   refine jU ?_
   refine jW rfl rfl au (jM ?_)
   refine jU ?_
   refine jU ?_
   refine jU ?_
   refine jW rfl rfl au (jO ?_)
   refine jN ⟨(js2 (jC (Eq.symm (by first | exact decide_eq_true (.inl ‹_›) | exact decide_eq_true (.inr (.inl ‹_›)) | exact decide_eq_true (.inr (.inr (congrArg some (hx48.2 ‹_›)))) | (simp only [List.head?_cons, Option.some.injEq, hx48]; simp_all)))) rfl), rfl⟩
  refine jM ?_
  refine jG ?_
  refine jk (Run.lenT rfl za) ?_
  refine jk (Run.bin rfl rfl (Bin.gtrN _ 10)) ?_
  by_cases hs12 : 10 < s.length
  ·
   refine jF rfl rfl au (jM ?_)
   refine jU ?_
   refine jU ?_
   refine jU ?_
   refine jW rfl rfl au (jO ?_)
   refine jN ⟨(js2 (jC (Eq.symm (by first | exact decide_eq_true (.inl ‹_›) | exact decide_eq_true (.inr (.inl ‹_›)) | exact decide_eq_true (.inr (.inr (congrArg some (hx48.2 ‹_›)))) | (simp only [List.head?_cons, Option.some.injEq, hx48]; simp_all)))) rfl), rfl⟩
  obtain ⟨x0, r0, rfl⟩ : ∃ x0 r0, s = x0 :: r0 := by
   cases s with
   | nil => exact absurd rfl hs8
   | cons a r => exact ⟨a, r, rfl⟩
  have hx48 : x0 = 48 ↔ x0.toNat = 48 := ⟨fun h => by subst h; rfl, fun h => UInt8.toNat_inj.1 h⟩
  refine jF rfl rfl au (jM ?_)
  refine jG ?_
  refine jk (Run.indexT 0 rfl rfl za rfl) ?_
  refine jk (Run.bin rfl rfl (Bin.eqlN _ 48)) ?_
  by_cases hs17 : x0.toNat = 48
  ·
   refine jF rfl rfl au (jO ?_)
   refine jN ⟨(js2 (jC (Eq.symm (by first | exact decide_eq_true (.inl ‹_›) | exact decide_eq_true (.inr (.inl ‹_›)) | exact decide_eq_true (.inr (.inr (congrArg some (hx48.2 ‹_›)))) | (simp only [List.head?_cons, Option.some.injEq, hx48]; simp_all)))) rfl), rfl⟩
  refine jF rfl rfl au (jO ?_)
  refine jN ⟨(js2 (jC (Eq.symm (by first | exact decide_eq_true (.inl ‹_›) | exact decide_eq_true (.inr (.inl ‹_›)) | exact decide_eq_true (.inr (.inr (congrArg some (hx48.2 ‹_›)))) | (simp only [List.head?_cons, Option.some.injEq, hx48]; simp_all)))) rfl), rfl⟩
 intro Γ hΓ
 refine jN (VC.sub _ hΓ ?_)
 refine jD rfl (fun hc2 => ?_) fun hc2 => ?_
 ·
  have hnq := qXd hc1 hc2
  refine jS (jR ?_)
  refine Ops.r (v := .int .i64 (-1)) (Run.asg rfl) rfl ?_
  refine jO (jN (jv1 2 ?_))
  refine jT ?_
  refine qZ (qD rfl ?_)
  exact ⟨by rw [hnq], rfl⟩
 have hnq := qZo hc1 hc2
 have hl10 : s.length ≤ 10 := Nat.le_of_not_lt fun h => hc2 (.inr (.inl h))
 refine jQ (jN (jv1 0 ?_))
 refine jS (jR (jz 0 (jO (jN (jS (jS (jR (jm rfl (je (Run.lenT rfl za) ?_)))))))))
 refine jx .i64 0 ?_
 refine jO (jN (jv4 0 3 20 21 ?_))
 refine jB ?_
 refine VC.loop (σ := Nat) (fun i => [(0, encStr s), (3, jI1 (bP 0 (s.take i))), (20, jI1 s.length), (21, jI1 i)]) (fun i wr => i ≤ s.length ∧ (∀ x ∈ s.take i, Dig x) ∧ w = wr) (fun i => s.length - i) 0 (js4 rfl rfl rfl rfl) ⟨jo, jp, rfl⟩ ?_
 rintro i _ ⟨hi, hd, rfl⟩
 refine jS (jR (jb rfl rfl (Bin.lssN _ _) (jO (jN (jS ?_)))))
 refine jD rfl (fun hc3 => ?_) fun hc3 => ?_
 ·
  have hts : s.take (i + 1) = s.take i ++ [s[i]] := by rw [zbh, zb hc3]; rfl
  have hxm : s[i] ∈ s := zaj hc3
  have hgx : s[i]? = some s[i] := zb hc3
  have hdl := vS (s.take i) 0 0 hd jd
  have hdl2 : bP 0 (s.take i) < 10 ^ 10 := zaw hdl (zea jd (by simp; omega))
  generalize hx : s[i] = x at *
  have hds := yS 0 (s.take i) x
  refine jQ (jN (jv4 0 3 20 21 ?_))
  refine jS (jB (jS (jR (jm rfl (ja rfl (jO (jN (jv5 0 3 4 20 21 ?_))))))))
  refine jS (jS ?_)
  refine VC.split1 [(0, _), (3, _), (4, _), (20, _), (21, _)] (js5 rfl rfl rfl rfl rfl) 33 (.bool (decide (¬ Dig x))) ?_ ?_
  ·
   refine jR ?_
   refine jm rfl (jm rfl (je (Run.indexT _ rfl rfl za hgx) (jb rfl rfl (Bin.lssN _ 48) ?_)))
   by_cases hs27 : x.toNat < 48
   ·
    refine jM ?_
    refine jU ?_
    refine jU ?_
    refine jU ?_
    refine jU ?_
    refine jW rfl rfl au (jO ?_)
    refine jN ⟨(js6 (jC (Eq.symm (by first | exact decide_eq_true (by unfold Dig; omega) | exact decide_eq_decide.2 (by unfold Dig; omega)))) rfl rfl rfl rfl rfl), rfl⟩
   refine jM ?_
   refine jG ?_
   refine jG ?_
   refine jk (Run.indexT _ rfl rfl za hgx) ?_
   refine jk (Run.bin rfl rfl (Bin.gtrN _ 57)) ?_
   by_cases hs32 : 57 < x.toNat
   ·
    refine jF rfl rfl au (jO ?_)
    refine jN ⟨(js6 (jC (Eq.symm (by first | exact decide_eq_true (by unfold Dig; omega) | exact decide_eq_decide.2 (by unfold Dig; omega)))) rfl rfl rfl rfl rfl), rfl⟩
   refine jF rfl rfl au (jO ?_)
   refine jN ⟨(js6 (jC (Eq.symm (by first | exact decide_eq_true (by unfold Dig; omega) | exact decide_eq_decide.2 (by unfold Dig; omega)))) rfl rfl rfl rfl rfl), rfl⟩
  intro Γ hΓ
  refine jN (VC.sub _ hΓ ?_)
  refine jD rfl (fun hc4 => ?_) fun hc4 => ?_
  ·
   refine jS (jR ?_)
   refine Ops.r (v := .int .i64 (-1)) (Run.asg rfl) rfl ?_
   refine jO (jN (jv1 2 ?_))
   refine jT ?_
   refine qZ (qN (qZ (qZ (qN (qZ (qD rfl ?_))))))
   refine ⟨?_, rfl⟩
   rw [hnq, if_neg (fun h => hc4 (h.1 x hxm))]
  refine jQ (jN (jv5 0 3 4 20 21 ?_))
  refine jR (jm rfl (jb rfl rfl (Bin.mul_i64 10 _ jo) (jm rfl (jm rfl (je (Run.indexT _ rfl rfl za hgx) (jb rfl rfl (Bin.sub_u8 x.toNat 48 (by have := (Classical.not_not.1 hc4).1; omega) (by have := x.toNat_lt; omega)) (je (Run.convN _ rfl zal zam (by simp only [bmax]; omega)) (jb rfl rfl (Bin.add_i64 _ _ jo) ?_))))))))
  refine ja rfl (jO ?_)
  refine qS (jN ?_)
  refine jv4 0 3 20 21 ?_
  refine jR (jb rfl rfl (Bin.add_i64 _ 1 jo) (jm rfl (jO ?_)))
  refine jN ⟨(i + 1), (js4 rfl (by rw [hts, hds]; rfl) rfl rfl), ?_, ?_⟩
  ·
   refine ⟨hc3, fun y hy => ?_, rfl⟩
   rw [hts] at hy
   rcases zee.1 hy with h | h
   · exact hd y h
   simp only [zg] at h; subst h; exact Classical.not_not.1 hc4
  exact jq
 have hil : i = s.length := jo
 subst hil
 rw [zbp] at hd ⊢
 refine jX ?_
 refine qV (qV (qC ?_))
 refine jN (jv1 3 ?_)
 refine jS (jS (jR (jm rfl (jb rfl rfl (Bin.gtrN _ 2147483647) (jO (jN (jv2 3 44 ?_)))))))
 refine jD rfl (fun hc5 => ?_) fun hc5 => ?_
 ·
  refine jS (jR ?_)
  refine Ops.r (v := .int .i64 (-1)) (Run.asg rfl) rfl ?_
  refine jO (jN (jv1 2 ?_))
  refine jT ?_
  refine qZ (qD rfl ?_)
  exact ⟨by rw [hnq, if_neg (fun h => by have := h.2; omega)], rfl⟩
 refine jQ (jN (jv1 3 ?_))
 refine jS (jR (jm rfl (ja rfl (jO (jN (jv1 2 ?_))))))
 refine jT ?_
 refine qD rfl ?_
 exact ⟨by rw [hnq, if_pos ⟨hd, jo⟩], rfl⟩
end
section
open Go.RowKit Go.Sort
theorem uU (pre : List Tx) (x : Tx) : SC (pre.map eU) ++ SC [eU x] = SC ((pre ++ [x]).map eU) := by simp [SC]
theorem hrdS {w w' : World} {t : TypeId} {x : Sp} (h : Fresh w w' t (Value.agg (SC1 x).toArray).cells) : Rd w' 2 (some ⟨w.heap.size, 0, none⟩) 1 (SC [x]) := Rd.of_blk (n := 1) (size := 2) h.blk rfl
theorem qJt (l : List Sp) : ∀ u ∈ SC l, u.oneCell' = true := by
 intro u hu
 obtain ⟨x, _, hx⟩ := List.mem_flatMap.1 hu
 exact vT x u hx
def kP (s : Tx) : Int := if fO s then 0 else 3
def PaI (w : World) (s : Tx) (g2 g3 g4 : Nat) (Bt : List Nat) (pre : List Tx) (W : World) : Prop :=
 (∀ x ∈ pre, mZ x) ∧ pre.length ≤ 64 ∧ Frm [] w W ∧ Blk W g2 26 #[.slice none 0 0] ∧ Blk W g3 35 #[.int .i64 0] ∧
  ∃ A q, Blk W g4 26 #[.slice A pre.length q] ∧ Own W 96 2 A pre.length q (SC (pre.map eU)) ∧ ∀ x ∈ ob A, w.heap.size ≤ x ∧ x ∉ Bt
def PaX (w : World) (s : Tx) (g2 g3 : Nat) (e : Exit) (pre : List Tx) (W : World) : Prop :=
 e = .ret ∧ ¬ fO s ∧ Frm [] w W ∧ Blk W g2 26 #[.slice none 0 0] ∧ Blk W g3 35 #[.int .i64 3]
theorem wO {s : Tx} (h : fO s) : eF s = (cJ 44 s).map eU ∧ kP s = 0 := by unfold eF kP; rw [if_pos h, if_pos h]; exact ⟨rfl, rfl⟩
theorem zX {s : Tx} (h : ¬ fO s) : eF s = [] ∧ kP s = 3 := by unfold eF kP; rw [if_neg h, if_neg h]; exact ⟨rfl, rfl⟩
theorem pH (s : Tx) (w : World) (hs : s.length ≤ 1000000) :
  Calls Tryz.prog 100 #[encStr s] w fun e w' => Frm [] w w' ∧ ∃ A q, e = .returned (.tuple #[.slice A (eF s).length q, .int .i64 (kP s)]) ∧ Own w' 96 2 A (eF s).length q (SC (eF s)) ∧ (∀ x ∈ ob A, w.heap.size ≤ x) := by
 have K := Frm.refl [] w
 refine DV.calls (nt := 46) (res := #[.cell 2 26, .cell 3 35]) Tryz.func100 rfl Tryz.ntmps100 Tryz.results100 rfl ?_
 refine DV.seq ?_
 refine DV.vc ?_
 refine jR ?_
 refine Ops.m (qH.alloc yW) rfl ?_
 rintro _ w1 ⟨rfl, hF_w1⟩
 have hb2 := hF_w1.blk
 have hs2_K := K.size
 have K := Frm.trans K hF_w1.frm jp
 generalize hg2 : w.heap.size = g2 at hb2 hs2_K ⊢
 refine Ops.m (qH.alloc yY) rfl ?_
 rintro _ w2 ⟨rfl, hF_w2⟩
 have hb3 := hF_w2.blk
 have hs3_K := K.size
 have lt_hb2_3 := hb2.lt
 have hb2 := hb2.frm hF_w2.frm jp
 have K := Frm.trans K hF_w2.frm jp
 generalize hg3 : w1.heap.size = g3 at hb3 hs3_K lt_hb2_3 ⊢
 refine jO ?_
 refine lU ?_
 refine DV.seq ?_
 refine DV.vc ?_
 refine jR ?_
 refine Ops.m (qH.alloc yW) rfl ?_
 rintro _ w3 ⟨rfl, hF_w3⟩
 have hb4 := hF_w3.blk
 have hs4_K := K.size
 have lt_hb2_4 := hb2.lt
 have lt_hb3_4 := hb3.lt
 have hb2 := hb2.frm hF_w3.frm jp
 have hb3 := hb3.frm hF_w3.frm jp
 have K := Frm.trans K hF_w3.frm jp
 generalize hg4 : w2.heap.size = g4 at hb4 hs4_K lt_hb2_4 lt_hb3_4 ⊢
 have l2 := hb2.lt
 have l3 := hb3.lt
 have l4 := hb4.lt
 refine jO ?_
 refine lU ?_
 refine DV.seq ?_
 refine DV.seq ?_
 refine DV.vc ?_
 refine jR (jM ?_)
 refine jc (jE2 Tryz.call137) (sP s 44 _) ?_
 rintro e w4 ⟨hf_w4, ga, gb, gc, rfl, ⟨hqa, hqb, hqc⟩, hga, hgb, hgc, hnab, hncb⟩
 refine ⟨_, rfl, ?_⟩
 have hb2 := hb2.frm hf_w4 jp
 have hb3 := hb3.frm hf_w4 jp
 have hb4 := hb4.frm hf_w4 jp
 have K := Frm.trans K hf_w4 jp
 have h34 := hf_w4.size
 refine jO ?_
 refine lU ?_
 refine DV.sub [(2, _), (3, _), (4, _), (11, _)] (js4 rfl rfl rfl rfl) ?_
 refine DV.block ?_
 have hKs := K.size
 refine DV.range (ps := [12]) (fun x => [encStr x]) (wA s 44 ga gb gc hs ⟨hnab, hncb⟩) rfl Tryz.call198 (fun _ => rfl) rfl (PaI w s g2 g3 g4 [ga, gb, gc]) (PaX w s g2 g3) (fun x => [(2, jI0 g2), (3, jI0 g3), (4, jI0 g4), (5, encStr x)]) ?_ ?_ ?_ ?_ ?_ ?_ ?_ ?_ ?_ ?_ ?_
 ·
  rintro pre W W' S ⟨h1, h2, h3, h4, h5, A, q, h6, h7, h8⟩ hf hS
  exact ⟨h1, h2, h3.nc hf hS (by simp; omega) K.size, h4.frm hf (h4.nc hS (by simp; omega)), h5.frm hf (h5.nc hS (by simp; omega)), A, q, h6.frm hf (h6.nc hS (by simp; omega)), h7.frm hf (h7.nc hS (fun x hx hb => (h8 x hx).2 (by simp at hb ⊢; simp [hb]))), h8⟩
 ·
  rintro e pre W W' S ⟨h1, h2, h3, h4, h5⟩ hf hS
  exact ⟨h1, h2, h3.nc hf hS (by simp; omega) K.size, h4.frm hf (h4.nc hS (by simp; omega)), h5.frm hf (h5.nc hS (by simp; omega))⟩
 · exact fun W hf => ⟨hqa.frm hf jp, hqb.frm hf jp, hqc.frm hf jp⟩
 · simp
 ·
  have := hqa.lt
  have := hqb.lt
  have := hqc.lt
  simp; omega
 · exact ⟨jp, jp, K, hb2, hb3, none, 0, hb4, Own.nil _ _ _, by simp [ob]⟩
 ·
  intro l x W
  refine jv4 2 3 4 12 ?_
  refine jR (ja rfl (jO ?_))
  refine jN ⟨rfl, (js4 rfl rfl rfl rfl)⟩
 ·
  rintro l pre x W ⟨hgd, hpl, K, hb2, hb3, A, q, hb4, hA, hAB⟩ hpre hsz hmk
  have hxm : x ∈ cJ 44 s := hpre.subset jp
  have hxl := zr (rU s x hxm) hs
  have hxb := gM 58 x
  have KW := Frm.refl [] W
  have hAlt := hA.lt
  have h20 := hb2
  have h30 := hb3
  have h40 := hb4
  have hA0 := hA
  have K0 := K
  have hl2 := hb2.lt
  have hl3 := hb3.lt
  have hl4 := hb4.lt
  have hla := hqa.lt
  have hlb := hqb.lt
  have hlc := hqc.lt
  have hAne : ∀ y ∈ ob A, y ≠ g4 ∧ y ≠ g2 ∧ y ≠ g3 := by
   intro y hy
   refine ⟨?_, ?_, ?_⟩
   · rintro rfl; exact hA.ne_blk hb4 jd hy
   · rintro rfl; exact hA.ne_blk hb2 jd hy
   rintro rfl; exact hA.ne_blk hb3 jd hy
  refine jB (jS (jR (jM ?_)))
  refine jc (jE2 Tryz.call138) (mJ x 58 _ hxl) ?_
  rintro e W1 ⟨rfl, hf_W1⟩
  refine ⟨_, rfl, ?_⟩
  have hb2 := hb2.frm hf_W1 jp
  have hb3 := hb3.frm hf_W1 jp
  have hb4 := hb4.frm hf_W1 jp
  have KW := Frm.trans KW hf_W1 jp
  have K := Frm.trans K hf_W1 jp
  have hA := hA.frm hf_W1 jp
  refine jm rfl (jY rfl rfl (jY rfl rfl (jY rfl rfl (ja rfl (ja rfl (ja rfl (jO (jN (jv6 2 3 4 6 7 8 ?_)))))))))
  refine jS (jR (jM ?_))
  refine jc0 (jE1 Tryz.call139) (lY (bC 58 x) _ jo) ?_
  refine jM ?_
  refine jc0 (jE1 Tryz.call139) (lY (bC 58 x) _ jo) ?_
  refine je (Run.build (evs.cons rfl (evs.cons rfl evs.nil)) sL (tX).choose_spec.1 (tX).choose_spec.2 rfl) ?_
  refine Ops.m (qH.alloc sL) rfl ?_
  rintro _ W2 ⟨rfl, hF_W2⟩
  have hb9 := hF_W2.blk
  have hs9_KW := KW.size
  have hs9_K := K.size
  have lt_hb2_9 := hb2.lt
  have lt_hb3_9 := hb3.lt
  have lt_hb4_9 := hb4.lt
  have hb2 := hb2.frm hF_W2.frm jp
  have hb3 := hb3.frm hF_W2.frm jp
  have hb4 := hb4.frm hF_W2.frm jp
  have KW := Frm.trans KW hF_W2.frm jp
  have K := Frm.trans K hF_W2.frm jp
  generalize hg9 : W1.heap.size = g9 at hb9 hs9_KW hs9_K lt_hb2_9 lt_hb3_9 lt_hb4_9 ⊢
  have hA := hA.frm hF_W2.frm jp
  refine Ops.st (qJ.storeA rfl rfl zdn hb9 rfl (vT (fF (bC 58 x), fF (bC 58 x)))) ?_
  rintro W3 ⟨hb9n, hf_W3, hsz_W3⟩
  have hb9 : Blk W3 g9 96 #[.int .i64 (fF (bC 58 x)), .int .i64 (fF (bC 58 x))] := hb9n
  have hA := hA.frm hf_W3 (fun y hy => by have := hAlt y hy; simp; omega)
  have hb2 := hb2.frm hf_W3 (by simp; omega)
  have hb3 := hb3.frm hf_W3 (by simp; omega)
  have hb4 := hb4.frm hf_W3 (by simp; omega)
  have KW := Frm.own KW hf_W3 (fun y hy => by simp at hy; omega)
  have K := Frm.own K hf_W3 (fun y hy => by simp at hy; omega)
  refine jO (jN (jv6 2 3 4 7 8 9 ?_))
  refine jS (jS (jR (jm rfl (jO (jN (jv6 2 3 4 7 9 24 ?_))))))
  refine VC.meet (σ := Unit) (fun s => [(2, jI0 g2), (3, jI0 g3), (4, jI0 g4), (9, jI0 g9)]) (fun s wr => Blk wr g9 96 (SC1 (eU x)).toArray ∧ Frm [g9] W3 wr) ?_ ?_
  ·
   refine VC.condB rfl (fun hc1 => ?_) (fun hc1 => ?_)
   ·
    refine jR (jM ?_)
    refine jc0 (jE1 Tryz.call139) (lY (bK 58 x) _ jo) ?_
    refine jf rfl zdt rfl zc ?_
    refine Ops.st (qJ.store rfl rfl zc hb9 rfl rfl) ?_
    rintro W4 ⟨hb9n, hf_W4, hsz_W4⟩
    have hb9n : Blk W4 g9 96 #[.int .i64 (fF (bC 58 x)), .int .i64 (fF (bK 58 x))] := hb9n
    refine jO ?_
    refine jN ⟨(), (js4 rfl rfl rfl rfl), ?_⟩
    have h58 : 58 ∈ x := of_decide_eq_true hc1
    exact ⟨by unfold eU; rw [if_pos h58]; exact hb9n, hf_W4⟩
   refine jQ ?_
   refine jN ⟨(), (js4 rfl rfl rfl rfl), ?_⟩
   have h58 : ¬ 58 ∈ x := of_decide_eq_false hc1
   exact ⟨by unfold eU; rw [if_neg h58]; exact hb9, Frm.refl _ _⟩
  rintro _ W5 ⟨hb9, hf_W5⟩ Γ hΓ
  have hA := hA.frm hf_W5 (fun y hy => by have := hAlt y hy; simp; omega)
  have hb2 := hb2.frm hf_W5 (by simp; omega)
  have hb3 := hb3.frm hf_W5 (by simp; omega)
  have hb4 := hb4.frm hf_W5 (by simp; omega)
  have KW := Frm.own KW hf_W5 (fun y hy => by simp at hy; omega)
  have K := Frm.own K hf_W5 (fun y hy => by simp at hy; omega)
  have hbadQ : mZ x ↔ (0 ≤ (eU x).1 ∧ 0 ≤ (eU x).2) := Iff.rfl
  have hsp : ∃ sp, eU x = sp := ⟨_, rfl⟩
  obtain ⟨sp, hsp⟩ := hsp
  rw [hsp] at hb9 hbadQ
  refine jN (VC.sub _ hΓ (jS (jS ?_)))
  refine VC.split1 [(2, _), (3, _), (4, _), (9, _)] (js4 rfl rfl rfl rfl) 40 (.bool (decide (¬ mZ x ∨ pre.length = 64))) ?_ ?_
  ·
   refine jR (jf rfl zdt rfl zc (jl rfl zi (hb9.cell 0) (jb rfl rfl (Bin.lss _ 0) ?_)))
   by_cases hs30 : sp.1 < 0
   ·
    refine jM ?_
    refine jU ?_
    refine jU ?_
    refine jU ?_
    refine jW rfl rfl au (jM ?_)
    refine jU ?_
    refine jU ?_
    refine jU ?_
    refine jW rfl rfl au (jO ?_)
    refine jN ⟨(js5 (jC (Eq.symm (by first | exact decide_eq_true (.inl fun h => by have := (hbadQ.1 h).1; omega) | exact decide_eq_true (.inl fun h => by have := (hbadQ.1 h).2; omega) | exact decide_eq_decide.2 ⟨fun h => h.resolve_left (fun h2 => h2 (hbadQ.2 ⟨jo, jo⟩)), .inr⟩))) rfl rfl rfl rfl), rfl⟩
   refine jM ?_
   refine jk (Run.fieldAddr rfl zdt rfl zc jd) ?_
   refine jk (Run.load rfl zi (hb9.cell 1)) ?_
   refine jk (Run.bin rfl rfl (Bin.lss _ 0)) ?_
   by_cases hs34 : sp.2 < 0
   ·
    refine jF rfl rfl au (jM ?_)
    refine jU ?_
    refine jU ?_
    refine jU ?_
    refine jW rfl rfl au (jO ?_)
    refine jN ⟨(js5 (jC (Eq.symm (by first | exact decide_eq_true (.inl fun h => by have := (hbadQ.1 h).1; omega) | exact decide_eq_true (.inl fun h => by have := (hbadQ.1 h).2; omega) | exact decide_eq_decide.2 ⟨fun h => h.resolve_left (fun h2 => h2 (hbadQ.2 ⟨jo, jo⟩)), .inr⟩))) rfl rfl rfl rfl), rfl⟩
   refine jF rfl rfl au (jM ?_)
   refine jk (Run.load rfl zct (hb4.cell 0)) ?_
   refine jk (Run.lenS rfl zcc) ?_
   refine jk (Run.bin rfl rfl (Bin.eqlN _ 64)) ?_
   by_cases hs39 : pre.length = 64
   ·
    refine jF rfl rfl au (jO ?_)
    refine jN ⟨(js5 (jC (Eq.symm (by first | exact decide_eq_true (.inl fun h => by have := (hbadQ.1 h).1; omega) | exact decide_eq_true (.inl fun h => by have := (hbadQ.1 h).2; omega) | exact decide_eq_decide.2 ⟨fun h => h.resolve_left (fun h2 => h2 (hbadQ.2 ⟨jo, jo⟩)), .inr⟩))) rfl rfl rfl rfl), rfl⟩
   refine jF rfl rfl au (jO ?_)
   refine jN ⟨(js5 (jC (Eq.symm (by first | exact decide_eq_true (.inl fun h => by have := (hbadQ.1 h).1; omega) | exact decide_eq_true (.inl fun h => by have := (hbadQ.1 h).2; omega) | exact decide_eq_decide.2 ⟨fun h => h.resolve_left (fun h2 => h2 (hbadQ.2 ⟨jo, jo⟩)), .inr⟩))) rfl rfl rfl rfl), rfl⟩
  intro Γ hΓ
  refine jN (VC.sub _ hΓ ?_)
  refine jD rfl (fun hc2 => ?_) fun hc2 => ?_
  ·
   refine jS (jR ?_)
   refine Ops.st (qJ.store rfl rfl zbf hb2 rfl rfl) ?_
   rintro W6 ⟨hb2n, hf_W6, hsz_W6⟩
   have hb2n : Blk W6 g2 26 #[.slice none 0 0] := hb2n
   have hb3 := hb3.frm hf_W6 (by simp; omega)
   refine Ops.st (qJ.store rfl rfl Tryz.sizeOf35 hb3 rfl rfl) ?_
   rintro W7 ⟨hb3n, hf_W7, hsz_W7⟩
   have hb3n : Blk W7 g3 35 #[.int .i64 3] := hb3n
   have hb2n := hb2n.frm hf_W7 (by simp; omega)
   refine jO (jN (jv2 2 3 ?_))
   refine jT ?_
   refine qZ (qN (?_))
   refine ⟨⟨[g2, g3], ?_, ?_⟩, rfl, ?_, ?_, hb2n, hb3n⟩
   · exact ((KW.mono (T := [g2, g3]) jp).trans hf_W6 jp).trans hf_W7 jp
   ·
    intro b hb
    simp only [zab, zag, or_false] at hb
    rcases hb with rfl | rfl
    · exact ⟨by simp; omega, h20.isC⟩
    exact ⟨by simp; omega, h30.isC⟩
   ·
    rintro ⟨hall, hlen⟩
    rcases hc2 with h | h
    · exact h (hall x hxm)
    have := hpre.length_le
    simp at this
    omega
   exact Frm.own (Frm.own K hf_W6 (fun y hy => by simp at hy; omega)) hf_W7 (fun y hy => by simp at hy; omega)
  refine jQ (jN (jv2 4 9 ?_))
  refine jR (jl rfl zct (hb4.cell 0) (je (Run.loadA rfl Tryz.isAgg96 zdn (fun j v hj => hb9.cells j v hj) (by first | rfl | (simp; done))) ?_))
  refine Ops.m (qH.buildS1 rfl zcc zdn sL jd jd rfl rfl) rfl ?_
  rintro _ W6 ⟨rfl, hF_W6⟩
  have hb4 := hb4.frm hF_W6.frm jp
  have hb2 := hb2.frm hF_W6.frm jp
  have hb3 := hb3.frm hF_W6.frm jp
  have KW := KW.trans hF_W6.frm jp
  have K := K.trans hF_W6.frm jp
  refine Ops.m (qH.app rfl rfl zcc (qJo) rfl jd (hA.frm hF_W6.frm jp) (hrdS hF_W6) (qJt _) jo jo) rfl ?_
  rintro _ W7 ⟨A7, c7, rfl, hA7, hf_W7, hob7⟩
  rw [← hsp, uU] at hA7
  have hb4 := hb4.frm hf_W7 (fun hy => (hAne _ hy).1 rfl)
  have hb2 := hb2.frm hf_W7 (fun hy => (hAne _ hy).2.1 rfl)
  have hb3 := hb3.frm hf_W7 (fun hy => (hAne _ hy).2.2 rfl)
  have K := Frm.own K hf_W7 (fun y hy => (hAB y hy).1)
  refine Ops.st (qJ.store rfl rfl zbf hb4 rfl rfl) ?_
  rintro W8 ⟨hb4n, hf_W8, hsz_W8⟩
  refine jO ?_
  refine qS (?_)
  refine ⟨⟨ob A ++ [g4], ?_, ?_⟩, ?_⟩
  · exact ((KW.mono (T := ob A ++ [g4]) jp).trans hf_W7 (fun y hy => .inl (by simp [hy]))).trans hf_W8 (fun y hy => .inl (by simp at hy; simp [hy]))
  ·
   intro b hb
   rcases zee.1 hb with h | h
   · exact ⟨(hAB b h).2, hA0.isC b h⟩
   simp only [zg] at h
   subst h
   exact ⟨by simp; omega, h40.isC⟩
  have hgx : mZ x := Classical.byContradiction fun h => hc2 (.inl h)
  have hne4 : ∀ y ∈ ob A7, y ≠ g4 := by
   intro y hy
   have := hA7.ne_blk hb4 jd
   rintro rfl
   exact this hy
  refine ⟨fun y hy => ?_, ?_, Frm.own K hf_W8 (fun y hy => by simp at hy; omega), hb2.frm hf_W8 (by simp; omega), hb3.frm hf_W8 (by simp; omega), A7, c7, ?_, ?_, ?_⟩
  ·
   rcases zee.1 hy with h | h
   · exact hgd y h
   simp only [zg] at h; subst h; exact hgx
  ·
   have : pre.length ≠ 64 := fun h => hc2 (.inr h)
   simp; omega
  · rw [zz]; exact hb4n
  · rw [zz]; exact hA7.frm hf_W8 (fun y hy => by have := hne4 y hy; simpa using this)
  intro y hy
  rcases hob7 with h | h
  · rw [h] at hy; exact hAB y hy
  rw [h] at hy
  simp only [zg] at hy
  have := KW.size
  have := hF_W6.size
  have := K0.size
  subst hy
  exact ⟨jo, by simp; omega⟩
 ·
  rintro W ⟨hgd, hpl, K, hb2, hb3, A, q, hb4, hA, hAB⟩ hsz hmk
  refine qQ2 (lU ?_)
  refine DV.sub [(2, _), (3, _), (4, _)] (js3 rfl rfl rfl) ?_
  refine DV.seq ?_
  refine DV.vc ?_
  refine jR (jl rfl zct (hb4.cell 0) ?_)
  refine Ops.st (qJ.store rfl rfl zbf hb2 rfl rfl) ?_
  rintro V1 ⟨hb2n, hf_V1, _⟩
  have hb2n : Blk V1 g2 26 #[.slice A (cJ 44 s).length q] := hb2n
  have hmk := hmk.frm hf_V1 (by simp; exact hmk.ne_blk hb2)
  have hA := hA.frm hf_V1 (fun y hy => by have := hA.ne_blk hb2 jd; simp; rintro rfl; exact this hy)
  have hb3 := hb3.frm hf_V1 (by simp; omega)
  have K := Frm.own K hf_V1 (fun y hy => by simp at hy; omega)
  refine Ops.st (qJ.store rfl rfl Tryz.sizeOf35 hb3 rfl rfl) ?_
  rintro V2 ⟨hb3n, hf_V2, _⟩
  have hb3n : Blk V2 g3 35 #[.int .i64 0] := hb3n
  have hmk := hmk.frm hf_V2 (by simp; exact hmk.ne_blk hb3)
  have hA := hA.frm hf_V2 (fun y hy => by have := hA.ne_blk hb3 jd; simp; rintro rfl; exact this hy)
  have hb2n := hb2n.frm hf_V2 (by simp; omega)
  have K := Frm.own K hf_V2 (fun y hy => by simp at hy; omega)
  refine jO ?_
  refine lU ?_
  refine DV.sub [(2, _), (3, _)] (js2 rfl rfl) ?_
  refine DV.vc (jT ?_)
  refine yN jp (fun d hd => by simp only [zg] at hd; subst hd; exact hmk) (fun wz hsh => ?_)
  have hb2n := hb2n.frm hsh (by simp; omega)
  have hb3n := hb3n.frm hsh (by simp; omega)
  have hA := hA.frm hsh (fun y hy => by have := hmk.ne_own hA; simp; rintro rfl; exact this hy)
  have K := Frm.own K hsh (fun y hy => by have := hKs; simp at hy; omega)
  refine bM ?_
  refine fE rfl zct (hb2n.cell 0) ?_
  refine fE rfl Tryz.isAgg35 (hb3n.cell 0) ?_
  refine qF ?_
  have hok : fO s := ⟨hgd, hpl⟩
  obtain ⟨h1, h2⟩ := wO hok
  rw [h1, h2]
  exact ⟨K, A, q, by rw [zbc]; rfl, by rw [zbc]; exact hA, fun x hx => by have := (hAB x hx).1; omega⟩
 ·
  rintro pre W ⟨_, hno, K, hb2, hb3⟩ hsz hmk
  refine qQ3 (qZk (yN jp (fun d hd => by simp only [zg] at hd; subst hd; exact hmk) (fun wz hsh => ?_)))
  have hb2 := hb2.frm hsh (by simp; omega)
  have hb3 := hb3.frm hsh (by simp; omega)
  have K := Frm.own K hsh (fun y hy => by have := hKs; simp at hy; omega)
  refine bM ?_
  refine fE rfl zct (hb2.cell 0) ?_
  refine fE rfl Tryz.isAgg35 (hb3.cell 0) ?_
  refine qF ?_
  obtain ⟨h1, h2⟩ := zX hno
  rw [h1, h2]
  exact ⟨K, none, 0, rfl, Own.nil _ _ _, by simp [ob]⟩
 exact fun _ _ _ h => absurd h.1 jp
end
section
open Go.RowKit
def xQ : Tx := [48, 49, 50, 51, 52, 53, 54, 55, 56, 57]
def gN (s : Tx) : Int := if s.length < 1 ∨ 9 < s.length ∨ ¬ sB xQ s = [] then -1 else (Lib.atoi s).getD 0
theorem nY (s : Tx) (w : World) (hs : s.length ≤ 1000000) (hv : bT w) : Calls Tryz.prog 99 #[encStr s] w fun e w' => e = .returned (.int .i64 (gN s)) ∧ Frm [] w w' := by
 refine jV Tryz.func99 Tryz.ntmps99 Tryz.results99 ?_
 refine jS (jR (jz 0 (jO (jN (jv1 0 ?_)))))
 refine jS (jS ?_)
 refine VC.splitR [(0, encStr s)] (fun wz => Frm [] w wz) 17 (.bool (decide (s.length < 1 ∨ 9 < s.length ∨ ¬ sB xQ s = []))) ?_ ?_
 ·
  refine jR ?_
  refine jm rfl (je (Run.lenT rfl za) (jb rfl rfl (Bin.lssN _ 1) ?_))
  by_cases hs7 : s.length < 1
  ·
   refine jM ?_
   refine jU ?_
   refine jU ?_
   refine jU ?_
   refine jW rfl rfl au (jM ?_)
   refine jU ?_
   refine jU ?_
   refine jU ?_
   refine jW rfl rfl au (jO ?_)
   refine jN ⟨(js2 (jC (by grind)) rfl), (by first | exact K1 | exact Frm.refl _ _)⟩
  refine jM ?_
  refine jG ?_
  refine jk (Run.lenT rfl za) ?_
  refine jk (Run.bin rfl rfl (Bin.gtrN _ 9)) ?_
  by_cases hs11 : 9 < s.length
  ·
   refine jF rfl rfl au (jM ?_)
   refine jU ?_
   refine jU ?_
   refine jU ?_
   refine jW rfl rfl au (jO ?_)
   refine jN ⟨(js2 (jC (by grind)) rfl), (by first | exact K1 | exact Frm.refl _ _)⟩
  refine jF rfl rfl au (jM ?_)
  refine jG ?_
  refine Ops.clg rfl au (jE2 Tryz.call135) (yO s xQ w hs jd jd jd jo) rfl ?_
  rintro e w1 ⟨rfl, K1⟩
  refine ⟨_, rfl, ?_⟩
  refine jk (Run.neqT rfl rfl) ?_
  by_cases hs16 : ¬ sB xQ s = []
  ·
   refine jF rfl rfl au (jO ?_)
   refine jN ⟨(js2 (jC (by grind)) rfl), (by first | exact K1 | exact Frm.refl _ _)⟩
  refine jF rfl rfl au (jO ?_)
  refine jN ⟨(js2 (jC (by grind)) rfl), (by first | exact K1 | exact Frm.refl _ _)⟩
 intro Γ wz hΓ Kz
 refine jN (VC.sub _ hΓ ?_)
 refine jD rfl (fun hc1 => ?_) fun hc1 => ?_
 ·
  have hn : gN s = -1 := if_pos hc1
  refine jS (jR ?_)
  refine Ops.r (v := .int .i64 (-1)) (Run.asg rfl) rfl ?_
  refine jO (jN (jv1 2 ?_))
  refine jT ?_
  refine qZ (qD rfl ?_)
  exact ⟨by rw [hn], Kz⟩
 have hn : gN s = (Lib.atoi s).getD 0 := if_neg hc1
 refine jQ (jN (jv1 0 ?_))
 refine jS (jR (jM ?_))
 refine jc (jE1 Tryz.call136) (rD s wz jo (hv.frm0 Kz)) ?_
 rintro e w2 ⟨hf2, n, ev, b, rfl, hb⟩
 refine ⟨_, rfl, ?_⟩
 have hne : n = gN s := by
  rw [hn]
  rcases hb with ⟨_, h, _⟩ | ⟨_, h, h2, _⟩
  · rw [h]; rfl
  rw [h, h2]; rfl
 subst hne
 refine jm rfl (jY rfl rfl (jY rfl rfl (ja rfl (ja rfl (jO (jN (jv1 3 ?_)))))))
 refine jS (jR (jm rfl (ja rfl (jO (jN (jv1 2 ?_))))))
 refine jT ?_
 refine qD rfl ?_
 exact ⟨rfl, Kz.trans hf2 jp⟩
def kR (s : Tx) : Tx := Lib.trimSuffix (Lib.trimPrefix s [60]) [62]
def dZ (s : Tx) : Int := gN (bC 46 (kR s))
def gP (s : Tx) : Int := gN (bK 46 (kR s))
def gC (s : Tx) : Prop := Lib.hasPrefix s [60] = true ∧ Lib.hasSuffix (Lib.trimPrefix s [60]) [62] = true ∧ 46 ∈ kR s ∧ 0 ≤ dZ s ∧ 0 < gP s
instance (s : Tx) : Decidable (gC s) := by unfold gC; infer_instance
theorem rF (s p : Tx) : (Lib.trimPrefix s p).length ≤ s.length := by unfold Lib.trimPrefix; split <;> simp
theorem zZ (s p : Tx) : (Lib.trimSuffix s p).length ≤ s.length := by unfold Lib.trimSuffix; split <;> simp
theorem qXe (s : Tx) : (kR s).length ≤ s.length := zr (zZ _ _) (rF _ _)
theorem xX (gx : Nat) (cs : Array Value) (s : Tx) (w : World) (hb : Blk w gx 54 cs) (hsz : cs.size = 9) (hs : s.length ≤ 100000) (hv : bT w) : Calls Tryz.prog 106 #[jI0 gx, encStr s] w fun e w' => e = .returned (.bool (decide (gC s))) ∧ Frm [gx] w w' ∧ Blk w' gx 54 (((cs.setIfInBounds 6 (.bool true)).setIfInBounds 7 (.int .i64 (dZ s))).setIfInBounds 8 (.int .i64 (gP s))) := by
 have hP5 : gC s ↔ (Lib.hasPrefix s [60] = true ∧ Lib.hasSuffix (Lib.trimPrefix s [60]) [62] = true ∧ 46 ∈ kR s ∧ 0 ≤ dZ s ∧ 0 < gP s) := Iff.rfl
 refine jV Tryz.func106 Tryz.ntmps106 Tryz.results106 ?_
 refine jS (jR (ja rfl (jO (jN (jv2 0 1 ?_)))))
 refine jS (jR (jM ?_))
 refine jc0 (jE2 Tryz.call147) (rE s [60] w) ?_
 have hl1 : (Lib.trimPrefix s [60]).length ≤ s.length := rF s [60]
 have hl2 := qXe s
 refine jm rfl (jY rfl rfl (jY rfl rfl (ja rfl (ja rfl (jO (jN (jv3 0 1 5 ?_)))))))
 refine jS (jR (jM ?_))
 refine jc0 (jE2 Tryz.call74) (nW (Lib.trimPrefix s [60]) [62] w jo) ?_
 refine jm rfl (jY rfl rfl (jY rfl rfl (ja rfl (ja rfl (jO (jN (jv4 0 1 5 6 ?_)))))))
 refine jS (jR (jM ?_))
 refine jc (jE2 Tryz.call138) (mJ (kR s) 46 w jo) ?_
 rintro e w1 ⟨rfl, hf1⟩
 refine ⟨_, rfl, ?_⟩
 have hbl := gM 46 (kR s)
 refine jm rfl (jY rfl rfl (jY rfl rfl (jY rfl rfl (ja rfl (ja rfl (ja rfl (jO (jN (jv6 0 5 6 7 8 9 ?_)))))))))
 refine jS (jR (jm rfl (jm rfl (jm rfl (jM ?_)))))
 refine jc (jE1 Tryz.call99) (nY (bC 46 (kR s)) w1 jo (hv.frm0 hf1)) ?_
 rintro e w2 ⟨rfl, hf2⟩
 refine ⟨_, rfl, ?_⟩
 have k2 := hf1.trans hf2 jp
 refine jM ?_
 refine jc (jE1 Tryz.call99) (nY (bK 46 (kR s)) w2 jo (hv.frm0 k2)) ?_
 rintro e w3 ⟨rfl, hf3⟩
 refine ⟨_, rfl, ?_⟩
 have k3 := k2.trans hf3 jp
 have hb3 := hb.frm k3 jp
 refine jZ rfl (jf rfl zm rfl zq ?_)
 refine Ops.st (qJ.store (i := 6) rfl rfl zq hb3 (by rw [hsz]; rfl) rfl) ?_
 rintro w4 ⟨hb4, hf4, hs4⟩
 refine jZ rfl (jf rfl zm rfl zc ?_)
 refine Ops.st (qJ.store (i := 7) rfl rfl zc hb4 (by simp [hsz]) rfl) ?_
 rintro w5 ⟨hb5, hf5, hs5⟩
 refine jZ rfl (jf rfl zm rfl zc ?_)
 refine Ops.st (qJ.store (i := 8) rfl rfl zc hb5 (by simp [hsz]) rfl) ?_
 rintro w6 ⟨hb6, hf6, hs6⟩
 have K6 : Frm [gx] w w6 := (((k3.mono jp).trans hf4 (fun x hx => .inl hx)).trans hf5 (fun x hx => .inl hx)).trans hf6 (fun x hx => .inl hx)
 have c7 : w6.cell? ⟨gx, 7, none⟩ = some (.int .i64 (dZ s)) := by rw [hb6.cell]; simp [hsz]; rfl
 have c8 : w6.cell? ⟨gx, 8, none⟩ = some (.int .i64 (gP s)) := by rw [hb6.cell]; simp [hsz]; rfl
 refine jO (jN (jv4 0 5 6 9 ?_))
 refine jS ?_
 refine VC.split1 [] .nil 4 (.bool (decide (gC s))) ?_ ?_
 ·
  refine jR (jM ?_)
  by_cases hs39 : Lib.hasPrefix s [60] = true
  ·
   refine jM ?_
   refine jG ?_
   by_cases hs41 : Lib.hasSuffix (Lib.trimPrefix s [60]) [62] = true
   ·
    refine jW rfl rfl au (jM ?_)
    refine jG ?_
    by_cases hs44 : 46 ∈ kR s
    ·
     refine jW rfl rfl au (jM ?_)
     refine jG ?_
     refine jk (Run.nilck rfl) ?_
     refine jk (Run.fieldAddr rfl zm rfl zc jd) ?_
     refine jk (Run.load rfl zi c7) ?_
     refine jk (Run.bin rfl rfl (Bin.geq _ 0)) ?_
     by_cases hs51 : 0 ≤ dZ s
     ·
      refine jW rfl rfl au (jM ?_)
      refine jG ?_
      refine jk (Run.nilck rfl) ?_
      refine jk (Run.fieldAddr rfl zm rfl zc jd) ?_
      refine jk (Run.load rfl zi c8) ?_
      refine jk (Run.bin rfl rfl (Bin.gtr _ 0)) ?_
      by_cases hs58 : 0 < gP s
      ·
       refine jW rfl rfl au (ja rfl (jO ?_))
       refine jN ⟨(js1 (jC (by simp only [hP5]; grind))), rfl⟩
      refine jW rfl rfl au (ja rfl (jO ?_))
      refine jN ⟨(js1 (jC (by simp only [hP5]; grind))), rfl⟩
     refine jW rfl rfl au (jM ?_)
     refine jU ?_
     refine jU ?_
     refine jU ?_
     refine jU ?_
     refine jU ?_
     refine jF rfl rfl au (ja rfl (jO ?_))
     refine jN ⟨(js1 (jC (by simp only [hP5]; grind))), rfl⟩
    refine jW rfl rfl au (jM ?_)
    refine jU ?_
    refine jU ?_
    refine jU ?_
    refine jU ?_
    refine jU ?_
    refine jF rfl rfl au (jM ?_)
    refine jU ?_
    refine jU ?_
    refine jU ?_
    refine jU ?_
    refine jU ?_
    refine jF rfl rfl au (ja rfl (jO ?_))
    refine jN ⟨(js1 (jC (by simp only [hP5]; grind))), rfl⟩
   refine jW rfl rfl au (jM ?_)
   refine jU ?_
   refine jF rfl rfl au (jM ?_)
   refine jU ?_
   refine jU ?_
   refine jU ?_
   refine jU ?_
   refine jU ?_
   refine jF rfl rfl au (jM ?_)
   refine jU ?_
   refine jU ?_
   refine jU ?_
   refine jU ?_
   refine jU ?_
   refine jF rfl rfl au (ja rfl (jO ?_))
   refine jN ⟨(js1 (jC (by simp only [hP5]; grind))), rfl⟩
  refine jM ?_
  refine jU ?_
  refine jF rfl rfl au (jM ?_)
  refine jU ?_
  refine jF rfl rfl au (jM ?_)
  refine jU ?_
  refine jU ?_
  refine jU ?_
  refine jU ?_
  refine jU ?_
  refine jF rfl rfl au (jM ?_)
  refine jU ?_
  refine jU ?_
  refine jU ?_
  refine jU ?_
  refine jU ?_
  refine jF rfl rfl au (ja rfl (jO ?_))
  refine jN ⟨(js1 (jC (by simp only [hP5]; grind))), rfl⟩
 intro Γ hΓ
 refine jN (VC.sub _ hΓ ?_)
 refine jT ?_
 refine qD rfl ?_
 exact ⟨rfl, K6, hb6⟩
theorem pM (A : Option Addr) (n c : Nat) (ws : List Tx) (sep : Tx) (w : World) (hw : ws.length = n) (h : Rd w 1 A n (SB ws)) (hnc : n ≤ c) (hn : n ≤ 1000000) (hl : (Lib.join ws sep).length ≤ 100000000) :
  Calls Tryz.prog 28 #[.slice A n c, encStr sep] w fun e w' => e = .returned (encStr (Lib.join ws sep)) ∧ Frm [] w w' := by
 have hmm : (ws.map fun t : Tx => (⟨t.toArray⟩ : ByteArray)).map (·.data.toList) = ws := by simp [zcs, Function.comp_def]
 subst hw
 by_cases h0 : ws.length = 0
 ·
  have h1 : ws = [] := zbk h0
  subst h1
  refine (Tryz.strings_Join_none A c ⟨sep.toArray⟩ w).mono fun e w' ⟨he, hw⟩ => ?_
  subst hw
  exact ⟨he, Frm.refl _ _⟩
 obtain ⟨ad, rfl, hlt, hc⟩ := h.2 jo
 have hsp : ad.spot = none := by
  have h2 := hc 0 (encStr (ws[0]'jo)) (by simp [SB])
  have h3 : w.cell? ad = some (encStr (ws[0]'jo)) := h2
  unfold World.cell? at h3
  cases hs : ad.spot with
  | none => rfl
  | some k =>
   rw [hs] at h3
   split at h3 <;> simp at h3
 have had : ∀ j, ad.add j = ⟨ad.block, ad.off + j, none⟩ := fun j => by
  unfold Addr.add
  split
  · next hj => subst hj; cases ad; simp_all
  rfl
 have had0 : ad = ⟨ad.block, ad.off, none⟩ := by cases ad; simp_all
 have hcc : Calls Tryz.prog 28 #[.slice (some ⟨ad.block, ad.off, none⟩) (ws.map fun t : Tx => (⟨t.toArray⟩ : ByteArray)).length c, .string ⟨sep.toArray⟩] w _ := Tryz.strings_Join ad.block ad.off c (ws.map fun t : Tx => (⟨t.toArray⟩ : ByteArray)) ⟨sep.toArray⟩ w (fun j x hx => by
  rw [List.getElem?_map, Option.map_eq_some_iff] at hx
  obtain ⟨t, ht, rfl⟩ := hx
  have h4 := hc j (encStr t) (by rw [SB, List.getElem?_map, ht]; rfl)
  rw [had j] at h4
  exact h4) hlt (by simp; omega) (by simpa using hnc) (by rw [hmm]; exact zr hl (by decide))
 rw [zbc] at hcc
 rw [had0]
 refine hcc.mono fun e w' ⟨he, hw⟩ => ?_
 rw [hmm] at he
 exact ⟨he, Frm.of_below hw⟩
theorem xZ (n : Int) (w : World) (h0 : 0 ≤ n) (h1 : n < 100) : Calls Tryz.prog 27 #[.int .i64 n] w fun e w' => e = .returned (encStr (Lib.decDigits n.toNat)) ∧ w = w' := by
 obtain ⟨k, rfl⟩ : ∃ k : Nat, n = ((k : Nat) : Int) := ⟨n.toNat, jo⟩
 refine (Tryz.strconv_Itoa_small k jo w).mono fun e w' ⟨he, hw⟩ => ⟨?_, hw.symm⟩
 rw [Int.toNat_natCast]
 exact he
def eA (v : Wnt) : List Tx := v.path.map (fun n => Lib.decDigits n.toNat) ++ if v.what = [] then [] else [v.what]
def mV (v : Wnt) : Tx := if dT v then Lib.join (eA v) [46] ++ (if v.names = [] then [] else [32, 40] ++ Lib.join v.names [32] ++ [41]) else []
theorem pN {n : Nat} (h : n < 10) : Lib.decDigits n = [UInt8.ofNat (48 + n)] := by rw [Lib.decDigits, dif_pos h]
theorem qJu {n : Nat} (h : ¬ n < 10) : Lib.decDigits n = Lib.decDigits (n / 10) ++ Lib.decDigits (n % 10) := by
 conv => lhs; rw [Lib.decDigits, dif_neg h]
 rw [pN (Nat.mod_lt _ jd)]
theorem dec2 (n : Nat) (h : n < 100) : (Lib.decDigits n).length ≤ 2 := by
 by_cases h1 : n < 10
 · rw [pN h1]; simp
 rw [qJu jo, pN (n := n / 10) jo, pN (n := n % 10) jo]; simp
theorem fA (sep : Tx) (M : Nat) : ∀ ws : List Tx, (∀ x ∈ ws, x.length ≤ M) → (Lib.join ws sep).length ≤ ws.length * (M + sep.length)
 | [], _ => by simp [Lib.join]
 | [x], h => by
  have := h x jp
  simp [Lib.join]
  omega
 | x :: y :: r, h => by
  have h1 := h x jp
  have h2 := fA sep M (y :: r) (fun z hz => h z (by simp [hz]))
  have e : Lib.join (x :: y :: r) sep = x ++ sep ++ Lib.join (y :: r) sep := by simp [Lib.join]
  rw [e, zz, zz]
  have e2 : (x :: y :: r).length * (M + sep.length) = (y :: r).length * (M + sep.length) + (M + sep.length) := by rw [zbo, Nat.succ_mul]
  omega
theorem qXf {v : Wnt} (h : pV v) : v.what.length ≤ 100 := by
 rcases h with h | h | h | h | h | ⟨h, _⟩ <;> rw [h] <;> decide
theorem tR {v : Wnt} (h : dT v) : (eA v).length ≤ 9 ∧ ∀ x ∈ eA v, x.length ≤ 100 := by
 have h1 := h.1
 have h2 := qXf h.2.2
 unfold eA
 refine ⟨?_, fun x hx => ?_⟩
 ·
  rw [zz, zbc]
  split <;> simp <;> omega
 rcases zee.1 hx with hx | hx
 ·
  obtain ⟨n, hn, rfl⟩ := List.mem_map.1 hx
  have h3 : ¬ bF n := fun hb => h1 (.inr ⟨n, hn, hb⟩)
  unfold bF at h3
  have := dec2 n.toNat jo
  omega
 split at hx
 · cases hx
 rw [zg] at hx; rw [hx]; exact h2
theorem xJ (v : Wnt) (A B : Option Addr) (c d : Nat) (w : World) (hp : Rd w 1 A v.path.length (PI v.path)) (hpl : v.path.length ≤ 1000000) (hn : Rd w 1 B v.names.length (SB v.names)) (hnl : v.names.length ≤ 1000000) (hns : ∀ s ∈ v.names, s.length ≤ 1048576) (hd : v.names.length ≤ d) :
  Calls Tryz.prog 13 #[.agg (WtC v A c B d)] w fun e w' => e = .returned (encStr (mV v)) ∧ Frm [] w w' := by
 refine jV Tryz.func13 Tryz.ntmps13 Tryz.results13 ?_
 refine jS (jR ?_)
 refine Ops.m (qH.box rfl) rfl ?_
 rintro _ w1 ⟨rfl, hF1⟩
 have hb : Blk w1 w.heap.size 47 (WtC v A c B d) := hF1.blk
 have hp := hp.frm hF1.frm jp
 have hn := hn.frm hF1.frm jp
 have K := hF1.frm
 obtain ⟨gw, hgw⟩ : ∃ gw, gw = w.heap.size := ⟨_, rfl⟩
 rw [← hgw] at hb ⊢
 refine ja rfl (jO (jN (jv1 1 ?_)))
 refine jS (jS (jR (je (Run.loadA rfl zbm zx hb.cells (by first | rfl | (simp; done))) ?_)))
 refine jc (jE1 Tryz.call26) (oH v A B c d w1 hp (zr hpl jd) hn (zr hnl jd) (fun s hs => by have := hns s hs; omega)) ?_
 rintro e w2 ⟨rfl, hf2⟩
 refine ⟨_, rfl, ?_⟩
 have hb := hb.frm hf2 jp
 have hp := hp.frm hf2 jp
 have hn := hn.frm hf2 jp
 have K := K.trans hf2 jp
 refine je (Run.not rfl) (jO (jN (jv2 1 9 ?_)))
 refine VC.condB rfl (fun hc1 => ?_) (fun hc1 => ?_)
 ·
  have hno : ¬ dT v := by simpa using hc1
  refine jS (jR (ja rfl (jO (jN (jv1 2 ?_)))))
  refine jT ?_
  refine qZ (qD rfl ?_)
  exact ⟨by unfold mV; rw [if_neg hno], K⟩
 have hmw : dT v := by simpa using hc1
 have hp8 : v.path.length ≤ 8 ∧ ∀ n ∈ v.path, 1 ≤ n ∧ n ≤ 64 := by
  have h1 := hmw.1
  refine ⟨jo, fun n hn => ?_⟩
  have h2 : ¬ bF n := fun h => h1 (.inr ⟨n, hn, h⟩)
  unfold bF at h2
  omega
 refine jQ (jN (jv1 1 ?_))
 refine jS (jR (ja rfl (jO (jN (jS (jS (jR (jf rfl zo rfl zbs (jl rfl zci (hb.cell 0) (jL rfl zl ?_))))))))))
 refine jx .i64 0 ?_
 refine jO (jN (jv5 1 3 11 12 13 ?_))
 refine jB ?_
 refine VC.loop (σ := Nat × Option Addr × Nat) (fun s => [(1, jI0 gw), (3, .slice s.2.1 s.1 s.2.2), (11, .slice A v.path.length c), (12, jI1 v.path.length), (13, jI1 s.1)]) (fun s wr => s.1 ≤ v.path.length ∧ Own wr 9 1 s.2.1 s.1 s.2.2 (SB ((v.path.take s.1).map fun n => Lib.decDigits n.toNat)) ∧ Frm [] w2 wr ∧ ∀ x ∈ ob s.2.1, w2.heap.size ≤ x) (fun s => v.path.length - s.1) (0, none, 0) (js5 rfl rfl rfl rfl rfl) ⟨zac _, Own.nil _ _ _, Frm.refl _ _, by simp [ob]⟩ ?_
 rintro ⟨i, B1, d1⟩ wr ⟨hi, hB, Kr, hup⟩
 dsimp only at hi hB hup ⊢
 refine jS (jR (jb rfl rfl (Bin.lssN _ _) (jO (jN (jS ?_)))))
 refine jD rfl (fun hc2 => ?_) fun hc2 => ?_
 ·
  obtain ⟨ad, hA, hel⟩ := wC (hp.frm Kr jp) rfl hc2
  have hpn := hp8.2 _ (show v.path.getD i 0 ∈ v.path by rw [zf, zb hc2]; exact zaj _)
  have htk : v.path.take (i + 1) = v.path.take i ++ [v.path.getD i 0] := by rw [zbh, zb hc2, zf, zb hc2]; rfl
  subst hA
  generalize v.path.getD i 0 = n at *
  refine jQ (jN (jv5 1 3 11 12 13 ?_))
  refine jS (jB (jS (jR (je (Run.index1 _ rfl rfl zl zc jo) (jl rfl zi hel (ja rfl (jO (jN (jv6 1 3 5 11 12 13 ?_)))))))))
  refine jR (jm rfl (jM ?_))
  refine jc0 (jE1 Tryz.call27) (xZ n wr jo jo) ?_
  refine Ops.m (qH.buildS1 rfl zp zd oE jd jd rfl rfl) rfl ?_
  rintro _ w7 ⟨rfl, hF7⟩
  have hr7 : Rd w7 1 (some ⟨wr.heap.size, 0, none⟩) 1 (SB [Lib.decDigits n.toNat]) := Rd.of_blk (n := 1) (size := 1) hF7.blk rfl
  have K7 := Kr.trans hF7.frm jp
  refine Ops.m (qH.app rfl rfl zp (sS) rfl jd (hB.frm hF7.frm jp) hr7 (tJ _) jo jo) rfl ?_
  rintro _ w8 ⟨B8, d8, rfl, hB8, hf8, hob8⟩
  have e9 : SB ((v.path.take i).map fun n => Lib.decDigits n.toNat) ++ SB [Lib.decDigits n.toNat] = SB ((v.path.take (i + 1)).map fun n => Lib.decDigits n.toNat) := by rw [htk, zcw, rS]; rfl
  rw [e9] at hB8
  have K8 := K7.own hf8 hup
  have hup8 : ∀ x ∈ ob B8, w2.heap.size ≤ x := oD hup hob8 K7.size
  refine ja rfl (jO ?_)
  refine qS (jN ?_)
  refine jv5 1 3 11 12 13 ?_
  refine jR (jb rfl rfl (Bin.add_i64 _ 1 jo) (jm rfl (jO ?_)))
  refine jN ⟨(i + 1, B8, d8), (js5 rfl rfl rfl rfl rfl), ?_, ?_⟩
  · exact ⟨hc2, hB8, K8, hup8⟩
  exact jq
 obtain rfl : i = v.path.length := jo
 rw [zbp] at hB
 have hb5 := hb.frm Kr jp
 have hpl9 := tR hmw
 refine jX ?_
 refine qV (qV (qC ?_))
 refine jN (jv2 1 3 ?_)
 refine jS (jS (jR (jf rfl zo rfl zd (jl rfl zj (hb5.cell 1) (je (Run.neqT rfl rfl) (jO (jN (jv3 1 3 25 ?_))))))))
 refine VC.meet (σ := Option Addr × Nat × Nat) (fun s => [(1, jI0 gw), (3, .slice s.1 s.2.2 s.2.1)]) (fun s wm => s.2.2 = (eA v).length ∧ Own wm 9 1 s.1 s.2.2 s.2.1 (SB (eA v)) ∧ Frm [] w2 wm) ?_ ?_
 ·
  refine jD rfl (fun hc3 => ?_) fun hc3 => ?_
  ·
   refine jR (jm rfl (jf rfl zo rfl zd (jl rfl zj (hb5.cell 1) ?_)))
   refine Ops.m (qH.buildS1 rfl zp zd oE jd jd rfl rfl) rfl ?_
   rintro _ w7 ⟨rfl, hF7⟩
   have hr7 : Rd w7 1 (some ⟨wr.heap.size, 0, none⟩) 1 (SB [v.what]) := Rd.of_blk (n := 1) (size := 1) hF7.blk rfl
   refine Ops.m (qH.app rfl rfl zp (sS) rfl jd (hB.frm hF7.frm jp) hr7 (tJ _) jo jo) rfl ?_
   rintro _ w8 ⟨B8, d8, rfl, hB8, hf8, hob8⟩
   have e9 : SB (v.path.map fun n => Lib.decDigits n.toNat) ++ SB [v.what] = SB (eA v) := by unfold eA; rw [if_neg hc3, rS]
   rw [e9] at hB8
   have K8 := (Kr.trans hF7.frm jp).own hf8 hup
   refine ja rfl (jO ?_)
   refine jN ⟨(B8, d8, v.path.length + 1), (js2 rfl rfl), ?_⟩
   exact ⟨by unfold eA; rw [if_neg hc3]; simp, hB8, K8⟩
  refine jQ ?_
  refine jN ⟨(B1, d1, v.path.length), (js2 rfl rfl), ?_⟩
  have hwe : v.what = [] := Classical.not_not.1 hc3
  exact ⟨by unfold eA; rw [if_pos hwe]; simp, by unfold eA; rw [if_pos hwe, zdq]; exact hB, Kr⟩
 rintro ⟨B6, d6, m6⟩ w6 ⟨hm6, hB6, K6⟩ Γ hΓ
 dsimp only at hm6 hB6
 refine jN (VC.sub _ hΓ (jS (jR (jM ?_))))
 refine jc (jE2 Tryz.call28) (pM B6 m6 d6 (eA v) [46] w6 hm6.symm hB6.rd (hB6.le) jo (by have := fA [46] 100 (eA v) hpl9.2; simp at this; omega)) ?_
 rintro e w7 ⟨rfl, hf7⟩
 refine ⟨_, rfl, ?_⟩
 have K7 := K6.trans hf7 jp
 have hb7 := hb.frm K7 jp
 have hn7 := hn.frm K7 jp
 have Kf := K.trans K7 jp
 refine ja rfl (jO (jN (jv2 1 6 ?_)))
 refine jS (jS (jR (jf rfl zo rfl zai (jl rfl zbi (hb7.cell 2) (jL rfl zp (jb rfl rfl (Bin.gtrN _ 0) (jO (jN (jv3 1 6 36 ?_)))))))))
 refine jD rfl (fun hc4 => ?_) fun hc4 => ?_
 ·
  have hne : ¬ v.names = [] := fun e => by rw [e] at hc4; simp at hc4
  have hn16 : v.names.length ≤ 16 := by have := hmw.2.1; omega
  refine jR (jm rfl (jf rfl zo rfl zai (jl rfl zbi (hb7.cell 2) ?_)))
  refine jc (jE2 Tryz.call28) (pM B v.names.length d v.names [32] w7 rfl hn7 hd jo (by have := fA [32] 1048576 v.names hns; have h2 : v.names.length * (1048576 + [(32 : UInt8)].length) ≤ 16 * 1048577 := zeu hn16 jp; omega)) ?_
  rintro e w8 ⟨rfl, hf8⟩
  refine ⟨_, rfl, ?_⟩
  have Kf := Kf.trans hf8 jp
  have hj1 : (Lib.join v.names [32]).length ≤ 16 * 1048577 := zr (fA [32] 1048576 v.names hns) (zeu hn16 jp)
  have hj2 : (Lib.join (eA v) [46]).length ≤ 9 * 101 := zr (fA [46] 100 (eA v) hpl9.2) (zeu hpl9.1 jp)
  refine je (Run.addT (a := [32, 40]) (b := Lib.join v.names [32]) rfl rfl (by simp; omega)) (je (Run.addT (a := [32, 40] ++ Lib.join v.names [32]) (b := [41]) rfl rfl (by simp; omega)) (je (Run.addT (a := Lib.join (eA v) [46]) (b := [32, 40] ++ Lib.join v.names [32] ++ [41]) rfl rfl (by simp; omega)) (ja rfl (jO (jN (jv1 6 ?_))))))
  refine jS (jR (jm rfl (ja rfl (jO (jN (jv1 2 ?_))))))
  refine jT ?_
  refine qD rfl ?_
  exact ⟨by unfold mV; rw [if_pos hmw, if_neg hne], Kf⟩
 have hne : v.names = [] := zbk jo
 refine jQ (jN (jv1 6 ?_))
 refine jS (jR (jm rfl (ja rfl (jO (jN (jv1 2 ?_))))))
 refine jT ?_
 refine qD rfl ?_
 exact ⟨by unfold mV; rw [if_pos hmw, if_pos hne, zdq], Kf⟩
end
end Go.Proofs.YtjklfpccmaljjaaGreatDoor
