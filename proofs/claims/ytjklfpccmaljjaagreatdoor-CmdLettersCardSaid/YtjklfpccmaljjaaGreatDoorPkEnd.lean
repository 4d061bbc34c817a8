/-
  The law 'CmdLetters' of layer 30 holds: for every list of tokens the call returns true and leaves its argument as it was. No condition but the row's own.
-/
import Derived.Test.YtjklfpccmaljjaaGreatDoorCards
import Derived.Test.YtjklfpccmaljjaaGreatDoorTie
import Derived.ProofKit
import Derived.LaidMore
import Derived.OpenShut
import Derived.Stop.Joined
import Derived.Lay
import Derived.Stop.LaidErr
import Derived.Shelf.Vars
import Derived.Test.YtjklfpccmaljjaaGreatDoorPk4
namespace Go.Proofs.YtjklfpccmaljjaaGreatDoor
open Go.RowKit
open Go.ChangeShapes Go.WideShapes Go.ChangeAt Go.WideMaps Go.WideElems Go.RowKit
open Go.ChangeMaps (open_string shut_string)
set_option linter.unusedVariables false
open Go.Shelf
/-- The plain wrap, with what the row lays and the world's shape. -/
theorem handed_and_shaped {H : Type} {enc : TypeId × Value → H} {a : Assume} {C : Checked} {os : Os} {f : FuncId} {fn : Func} {s : ChangeSpec} {conds : List PathCond} {apart fresh handsOn again : Bool} {X : World → Array Value → Prop}
    (hX : ∀ (w w' : World) (args : Array Value), w.heap = w'.heap → X w args → X w' args)
    (own : ownKnob C.prog.godebug = none) (started : os.Started) (noInit : C.prog.inits.idxOf? f = none) (hfn : C.prog.funcs[f]? = some fn)
    (witness : ∃ (w : World) (tape : Tape) (i : Input), w.os = os ∧ (w.forCall tape i).Shaped C.prog ∧ i.vars = [] ∧ Input.okWide C.prog (w.forCall tape i) .any w.heap.size f i ∧
      ((s.pre enc C.prog fn conds apart (w.forCall tape i).memory i.args ∧ X (w.forCall tape i).memory i.args) ∧ sizedMet enc C.prog fn (OpenSpec.ofChange s) apart (w.forCall tape i).memory i.args) ∧ a.holds C.prog (lone (Frame.enter C.prog f i.args .normal) [] (w.forCall tape i)))
    (contract : ∀ (W : World) (base : Nat) (args : Array Value) (ds gs : List (DataW H)) (before : List MemPlace),
      W.ShapedOpen C.prog →
      (∀ (j : Nat) t v, fn.params[j]? = some t → args[j]? = some v → Value.okWide C.prog W .any base t v) →
      DataW.Whole enc C.prog fn.params.toList s.vars apart W args.toList ds gs before →
      conds.all (PathCond.test C.prog ⟨fn.params.toList, ds, s.plain.varTypes C.prog, gs⟩) = true →
      (DataW.weightsEach C.prog (fn.params.toList ++ s.plain.varTypes C.prog) (ds ++ gs)).all (· ≤ reachBytes) = true → X W args →
      a.holds C.prog (lone (Frame.enter C.prog f args .normal) [] W) →
      Calls C.prog f args W fun e W' => ∃ v, e = .returned v ∧ s.post enc C.prog fn apart fresh handsOn again W args v W') :
    ReturnsInHanded a C os f .any (fun w args => (s.pre enc C.prog fn conds apart w args ∧ X w args) ∧ sizedMet enc C.prog fn (OpenSpec.ofChange s) apart w args) (s.post enc C.prog fn apart fresh handsOn again) := by
  refine returnsInHanded_of_calls own started noInit witness ?_
  intro w tape i _ hsh _ hok hpre hholds
  obtain ⟨_, _, _, fn', hfn', _, _, _, _, hval⟩ := hok
  have e : fn' = fn := Option.some.inj (hfn'.symm.trans hfn)
  subst e
  obtain ⟨⟨⟨ds, gs, before, hw, hc⟩, hx⟩, hz⟩ := hpre
  have hw' := DataW.Whole.of_heap (w' := w.forCall tape i) (by rfl) hw
  refine (contract (w.forCall tape i) w.heap.size i.args ds gs before hsh hval hw' hc (hz.weights hw) (hX _ _ _ (by rfl) hx) hholds).mono fun e W' ⟨v, he, hp⟩ => ?_
  subst he
  exact ChangeSpec.post_blind hp
theorem typeRow (u : TypeId) (h : Tryz.prog.typeName? 3 u = some "*errors.errorString") : u = 237 :=
  typeName_ptr_named (nm := "errors.errorString") (by rw [show "*" ++ "errors.errorString" = "*errors.errorString" by decide]; kernel_rfl) (by kernel_rfl) (by decide) u (by rw [show "*" ++ "errors.errorString" = "*errors.errorString" by decide]; exact h)
theorem vars_of {W : World} (hs : W.ShapedOpen Tryz.prog) (h : laidMetH Tryz.prog Rows.cmdLettersRow.laid W) : bT W := by
  refine ⟨cell_of_shapedOpen_int (zero := #[.int .i64 0]) (t := 3) hs (of_decide_eq_true (by kernel_rfl)) (by kernel_rfl) rfl (by kernel_rfl) (by kernel_rfl) Tryz.underlying3, ?_⟩
  rw [MakeChecks.laidMetH_plain _ _ _ (by kernel_rfl)] at h
  have h2 : laidMet Tryz.prog (("strconv.ErrSyntax", .iface "*errors.errorString" (.ptr (.agg [.lit (.string [105, 110, 118, 97, 108, 105, 100, 32, 115, 121, 110, 116, 97, 120])]))) :: Rows.cmdLettersRow.laid.drop 6) W := h.tail.tail.tail.tail.tail
  obtain ⟨a0, s0, hv0, -, -, -⟩ := laid_sentinel h2 (g := 4) (by kernel_rfl) (ti := 106) (by kernel_rfl) Tryz.underlying106 typeRow Tryz.underlying237 Tryz.underlying239 rfl rfl Tryz.underlying9 (by kernel_rfl) (by kernel_rfl)
  exact ⟨_, by have h0 := World.var?_cell (g := 4) (by kernel_rfl) hv0 0; simpa using h0, .inr ⟨_, _, rfl⟩⟩
theorem tab_of {W : World} (h : laidMetH Tryz.prog Rows.cmdLettersRow.laid W) : Tab W := by
  rw [MakeChecks.laidMetH_plain _ _ _ (by kernel_rfl)] at h
  have h2 : laidMet Tryz.prog (("internal/strconv.uint64pow10", Lib.tabData .u64 Lib.pow10Tab) :: Rows.cmdLettersRow.laid.drop 3) W := h.tail.tail
  exact Lib.tabIs_of_head (g := 0) (t := 194) (by kernel_rfl) (by kernel_rfl) Tryz.underlying194 Tryz.underlying164 (by kernel_rfl) (by kernel_rfl) h2
section
open Go.ChangeShapes Go.WideShapes Go.Deep
theorem toks_open {H : Type} {enc : TypeId × Value → H} {w : World} {base : Nat} {spare : Nat → Bool} {held : Bool} {fuel len cap : Nat} {a : Option Addr} {x : DataW H × List MemPlace}
    (h : DataW.trod enc Tryz.prog w base spare held fuel 23 [.slice a len cap] = some x) : ∃ l : List Tk, len ≤ cap ∧ cap ≤ 9223372036854775807 ∧ RdT w a len l := by
  obtain ⟨ls, hll, hlc, hcm, hrd, hels⟩ := wS Tryz.underlying23 Tryz.underlying41 (by kernel_rfl) (by kernel_rfl) (by decide) h
  have key : ∀ q ∈ ls, ∃ s : Tk, q = tkC s := by
    intro q hq
    obtain ⟨hq2, hf⟩ := hels q hq
    have hq2 : q.length = 2 := hq2
    obtain ⟨v0, y0, n0, hv0, ht0⟩ := hf 0 _ rfl
    obtain ⟨v1, y1, n1, hv1, ht1⟩ := hf 1 _ rfl
    obtain ⟨z0, e0, _⟩ := qQ4 Tryz.underlying3 ht0
    obtain ⟨z1, e1, _⟩ := qQ5 Tryz.underlying9 ht1
    match q, hq2, hv0, hv1 with
    | [a0, a1], _, hv0, hv1 =>
      simp only [List.getElem?_cons_zero, Option.some.injEq, List.getElem?_cons_succ] at hv0 hv1
      subst hv0 hv1
      cases e0
      cases e1
      exact ⟨(z0, z1), rfl⟩
  have hex : ∃ l : List Tk, l.map tkC = ls := by
    clear hrd hll hels
    induction ls with
    | nil => exact ⟨[], rfl⟩
    | cons q r ih =>
      obtain ⟨s, hs⟩ := key q (by simp)
      obtain ⟨l, hl⟩ := ih (fun x hx => key x (by simp [hx]))
      exact ⟨s :: l, by simp [hs, hl]⟩
  obtain ⟨l, rfl⟩ := hex
  refine ⟨l, hlc, hcm, by simpa using hll, ?_⟩
  have e : l.flatMap tkC = (l.map tkC).flatMap id := by rw [List.flatMap_map]; rfl
  rw [e]
  exact hrd
end
theorem own_cmdLetters : ownKnob Tryz.prog.godebug = none := by kernel_rfl
theorem laidOut_cmdLetters : laidOutB Tryz.prog = true := by kernel_rfl
set_option maxRecDepth 100000 in
theorem lifted_cmdLetters (os : Os) (started : os.Started) (H : Type) (enc : TypeId × Value → H) :
    ReturnsInHanded {} Tryz.checked os 5 .any (fun w args => (Rows.cmdLettersSpec.pre enc Tryz.prog Tryz.f5 [] false w args ∧ laidMetH Tryz.prog Rows.cmdLettersRow.laid w) ∧ sizedMet enc Tryz.prog Tryz.f5 (OpenSpec.ofChange Rows.cmdLettersSpec) false w args)
      (Rows.cmdLettersSpec.post enc Tryz.prog Tryz.f5 false true false false) := by
  refine handed_and_shaped (C := Tryz.checked) (X := fun w _ => laidMetH Tryz.prog Rows.cmdLettersRow.laid w) (fun _ _ _ hh h => h.of_heap hh) own_cmdLetters started (by kernel_rfl) Tryz.func5
    (ChangeSpec.witness_shaped (enc := enc) (C := Tryz.checked) (os := os) (X := fun w _ => laidMetH Tryz.prog Rows.cmdLettersRow.laid w) false (World.laidAll Tryz.prog os Rows.cmdLettersRow.laid) #[.slice none 0 0] 8 (World.laidAll_os _ _ _)
      (World.shaped_of_ZipB (by kernel_rfl) (by kernel_rfl)) (by kernel_rfl) (by kernel_rfl) (by kernel_rfl)
      (by rw [MakeChecks.laidMetH_plain _ _ _ (by kernel_rfl)]; exact laidMet_laidAll _ (by kernel_rfl) (by kernel_rfl))) ?_
  intro W base args ds gs before hsh hval0 hW hc1 hc2 hlaid hc3
  have hval : ∀ (j : Nat) t v, Tryz.f5.params[j]? = some t → args[j]? = some v → Value.okWide Tryz.prog W .any base t v := hval0
  have hW' := hW
  obtain ⟨p, q, hA0, hV, rfl, hfz, hnd⟩ := hW
  have hA : DataW.TrodAll enc Tryz.prog W 0 (fun _ => true) true Tryz.f5.params.toList args.toList ds p := hA0
  rw [Tryz.params5] at hA hval
  obtain ⟨v0, vs0, d0, ds0, p0, q0, hargs, rfl, rfl, h0, r0⟩ := trodAll_cons hA
  obtain ⟨rfl, rfl, rfl⟩ := trodAll_nil r0
  obtain rfl : args = #[v0] := by cases args; simp_all
  obtain ⟨rfl, rfl⟩ := trodVars_none hV
  obtain ⟨a0, len0, cap0, rfl⟩ := okWide_slice Tryz.underlying23 (hval 0 23 v0 rfl rfl)
  have k0 := h0
  have lt0 : ∀ x ∈ p0, x.block < W.heap.size := by obtain ⟨m, hm⟩ := k0; exact DataW.trod_lt m _ _ _ hm
  obtain ⟨fuel0, hf0⟩ := h0
  obtain ⟨l0, hc0, hm0, hrd0⟩ := toks_open hf0
  clear hA0 hval0
  refine (rM a0 len0 cap0 l0 W hrd0 hc0 hm0 (vars_of hsh hlaid) (tab_of hlaid)).mono fun e W' ⟨he, hfrm⟩ => ?_
  subst he
  have bel := hfrm.below
  exact ⟨_, rfl, _, _, _, [], _, [], hW', trodAll_mk1 (shut_bool Tryz.underlying4 _), (trodAll_cons_mk (Below.trod laidOut_cmdLetters (by kernel_rfl) (of_decide_eq_true (by kernel_rfl)) k0 bel lt0) trodAll_mk0), rfl, bel.frame _, fun h => by cases h⟩
theorem over_cmdLetters : Rows.cmdLettersRow.holds Tryz.pinned (OpenSpec.ofChange Rows.cmdLettersSpec) :=
  OpenClaim.holds_of_wide 5 Tryz.f5 rfl rfl rfl rfl rfl rfl rfl ⟨rfl, rfl, rfl, rfl, rfl⟩ rfl rfl rfl rfl rfl (by kernel_rfl) Tryz.func5 (by kernel_rfl)
    (of_decide_eq_true (by kernel_rfl)) (by unfold Func.isWrapper; first | (rw [if_pos (by decide +kernel)]; kernel_rfl) | (rw [if_neg (by decide +kernel)]; exact ⟨rfl, rfl⟩))
    (fun os started H enc hh => lifted_cmdLetters os started H enc)
theorem cmdLetters_card : Rows.CmdLettersCardSaid :=
  Claim7.holds_tied_plain_at .later [] [.data, .data, .data, .data, .sentinel, .sentinel, .pinned] true (true, "0155de35e7362e3650afaaf1afbc536ca21186278d376238b654b24868bca2ff") true
    over_cmdLetters (fun _ h => by cases h) (by kernel_rfl) (fun _ h => by cases h) cmdLetters_row_tie rfl ⟨rfl, rfl⟩ (by kernel_rfl) rfl
    (fun f fn hf hfn => by
      obtain rfl : f = 5 := Option.some.inj ((show Tryz.prog.funcNamed "hamper/hamperlaw30.CmdLetters" = some 5 by kernel_rfl).symm.trans hf) |>.symm
      obtain rfl : fn = Tryz.f5 := (Option.some.inj (Tryz.func5.symm.trans hfn)).symm
      exact ⟨by kernel_rfl, fun j t ht => by
        rw [Tryz.params5] at ht
        have hm : t ∈ [23] := by simpa using Array.mem_of_getElem? ht
        have hall : ([23].all fun u => ! Tryz.prog.wantsStandIn u) = true := by kernel_rfl
        exact (show Tryz.prog.wantsStandIn t = false by simpa using List.all_eq_true.1 hall t hm)⟩)
    (by kernel_rfl)
end Go.Proofs.YtjklfpccmaljjaaGreatDoor

