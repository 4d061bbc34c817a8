/-
  Panics, what is deferred, arrays as values.
-/
import Derived.Test.YtmfglifjnoilnaaEng8
import Derived.Recover
namespace Go.Proofs.Ytmfglifjnoilnaa
open Go.RowKit

section
variable {P : Program} {Γ : Env} {w : World} {dst : Option Tmp} {T : TypeId} {pos : String} {after : Array Edge} {g : Option (Nat × Bool)}
theorem Falls.pn {x : Operand} {t : TypeId} {v : Value} (hx : ev? Γ x = some (.iface t v)) : Falls P ⟨dst, .panic x, T, pos, after, g⟩ Γ w (.iface t v) := fun ρ hρ => by
  simp [execOp, hρ _ _ hx, Instr.panic, goPanic]
theorem Run.maxI {t : TypeId} {x y : Operand} {k : IntKind} {a b : Int} {ts : Array TypeId} (hx : ev? Γ x = some (.int k a)) (hy : ev? Γ y = some (.int k b)) :
    Run P ⟨dst, .call ⟨.builtin .max, #[x, y], ts⟩, t, pos, after, g⟩ Γ w (.int k (if a < b then b else a)) := fun ρ hρ => by
  simp [execOp, resolve, invoke, builtin, Builtin.max_, Builtin.max2, hρ _ _ hx, hρ _ _ hy]
/-- An element of several cells of an array that is a value. -/
theorem Run.indexArrA {α : Type} (f : α → List Value) {t e : TypeId} {x i : Operand} {n : Nat} {k : IntKind} {sz : Nat} {l : List α} (j : Nat) (hx : ev? Γ x = some (.agg (l.flatMap f).toArray)) (hi : ev? Γ i = some (.int k j)) (ht : P.underlying t = some (.array n e))
    (ha : ∀ w, (isAgg e).run P w = .ok true w) (hz : ∀ w, (sizeOf e).run P w = .ok sz w) (hf : ∀ a, (f a).length = sz) (hl : l.length = n) (hj : j < l.length) : Run P ⟨dst, .index t x i, T, pos, after, g⟩ Γ w (.agg (f l[j]).toArray) := fun ρ hρ => by
  have h1 : (j : Int) < (n : Int) := by omega
  have h2 := flat_get f sz hf l j hj
  have h3 : (l.flatMap f).toArray.extract (j * sz) (j * sz + sz) = (f l[j]).toArray := by
    rw [← h2]
    apply Array.ext'
    simp
  have h4 : j < n := by omega
  simp only [List.extract_toArray] at h3
  simp [execOp, hρ _ _ hx, hρ _ _ hi, Instr.index, asIntOf, run_underlying ht, h4, part, ha, hz]
  simpa using h3
/-- An array written out. -/
theorem Run.buildA {t e : TypeId} {n size : Nat} {parts : List (Nat × Operand)} {vs : List Value} {z cells : Array Value} (hv : evs Γ (parts.map (·.2)) vs) (hz : ∀ w, (zeroValue t).run P w = .ok (.agg z) w)
    (hu : P.underlying t = some (.array n e)) (hsz : ∀ w, (sizeOf e).run P w = .ok size w) (hf : Instr.fill (fun i => some (i * size, size)) z ((parts.map (·.1)).zip vs) = some cells) :
    Run P ⟨dst, .build t parts.toArray, T, pos, after, g⟩ Γ w (.agg cells) := fun ρ hρ => by
  have e1 := evs_map hρ _ _ hv
  have e2 : parts.map (fun p => (p.1, ρ p.2)) = (parts.map (·.1)).zip vs := by
    rw [← e1, List.map_map, List.zip_map']
    rfl
  simp only [execOp, Instr.build, Sem.run_bind, hz, Result.andThen_ok, Value.cells, run_underlying hu, hsz, List.map_toArray, e2, hf, Sem.run_pure]
/-- A slice of an array behind a pointer. -/
theorem Run.sliceA {t e : TypeId} {x : Operand} {a : Addr} {n sz : Nat} {lo hi : Option Operand} (l h : Nat) (hx : ev? Γ x = some (.pointer (some a))) (ht : P.underlying t = some (.array n e)) (hz : ∀ w, (sizeOf e).run P w = .ok sz w)
    (hlo : evB Γ lo 0 l) (hhi : evB Γ hi n h) (h1 : l ≤ h) (h2 : h ≤ n) :
    Run P ⟨dst, .slice t x lo hi none, T, pos, after, g⟩ Γ w (.slice (cutA (some a) n l sz) (h - l) (n - l)) := fun ρ hρ => by
  have hb : ∀ (k : IntKind) (r y : Nat) (code : BoundsCode), r ≤ y → (Instr.sliceBound (.int k (r : Int)) y code).run P w = .ok r w := by
    intro k r y code hry
    have := run_sliceBound (P := P) w k (r : Int) y code (by omega) (by omega)
    simpa using this
  have hbs : (Instr.sliceBounds false n n (lo.map ρ) (hi.map ρ) none).run P w = .ok (l, h, n) w := run_bounds (P := P) (w := w) hρ n n l h lo hi hlo hhi h1 h2 false
  simp only [execOp, Instr.sliceAt, Sem.run_bind, run_underlying ht, Result.andThen_ok, hρ _ _ hx, Option.map_none, Instr.sureAddr, Sem.run_pure, hbs, hz]
  unfold cutA
  split
  · rename_i h0; simp [h0]
  · rename_i h0; simp [h0]
theorem Run.neqNilI {t yT : TypeId} {x y : Operand} {u : TypeId} {v : Value} {d : TypeDesc} (hx : ev? Γ x = some (.iface u v)) (hy : ev? Γ y = some .nilIface) (ht : P.underlying t = some d) (hd : notIface d = false) :
    Run P ⟨dst, .binOp .neq t x y yT, T, pos, after, g⟩ Γ w (.bool true) := fun ρ hρ => by
  have h0 : ∀ k : Nat, (Op.equalIn (k + 1) t (.iface u v) .nilIface).run P w = .ok false w := fun k => by
    cases d <;> first | (cases hd; done) | simp [Op.equalIn, run_underlying ht]
  have h1 : (Op.equal t (.iface u v) .nilIface).run P w = .ok false w := h0 9999
  simp [execOp, hρ _ _ hx, hρ _ _ hy, eqGuard, binOp, h1]
end
section
variable {P : Program} {n : NF} {Γ : Env} {w : World} {Q : Exit → Env → World → Prop} {K : Env → World → Prop} {Pn : List PanicEntry → World → Prop} {ops : Array Oper} {rest : List Oper} {S : World → Prop} {L fuel : Nat} {listed : Array Bool} {d : Nat} {op : Op} {T : TypeId} {pos : String} {after : Array Edge}
theorem Ops.clp {f : FuncId} {args : Array Value} {R : Ending → World → Prop} (he : Enters P ⟨some d, op, T, pos, after, none⟩ Γ w f args) (hc : Calls P f args w R) (hn : Nat.blt d n.n = true)
    (k : ∀ e w', R e w' → (∃ v, e = .returned v ∧ Ops P n ops rest ((d, v) :: Γ) w' Q) ∨ (∃ ch, e = .panicked ch ∧ Q (.panic ch) Γ w')) : Ops P n ops (⟨some d, op, T, pos, after, none⟩ :: rest) Γ w Q :=
  Ops.callP he hc trivial rfl hn k
theorem Ops.pn {x : Operand} {t : TypeId} {v : Value} {dd : Option Tmp} (hx : ev? Γ x = some (.iface t v)) (k : Q (.panic [{ v := .iface t v, recovered := false }]) Γ w) : Ops P n ops (⟨dd, .panic x, T, pos, after, none⟩ :: rest) Γ w Q :=
  Ops.falls (Falls.pn hx) trivial k
theorem HOps.clp {f : FuncId} {args : Array Value} {R : Ending → World → Prop} {d : Nat} (i : Nat) {oi : Oper} (hi : ops[i]? = some oi) (hr : Region.ready .any ops listed = [i]) (he : Enters P oi Γ w f args) (hc : Calls P f args w R) (hup : Up ops Γ oi.guard) (hd : oi.dst = some d) (hn : Nat.blt d n.n = true)
    (k : ∀ e w', R e w' → (∃ v, e = .returned v ∧ S w' ∧ HOps P n ops S Pn L fuel (listed.setIfInBounds i true) ((d, v) :: Γ) w' K) ∨ (∃ ch, e = .panicked ch ∧ Pn ch w')) : HOps P n ops S Pn L (fuel + 1) listed Γ w K :=
  HOps.of_wp i hi hr hup fun a hs => by
    unfold Oper.wp
    rw [he _ hs.fits, Oper.upon_enter, hd]
    refine hc.mono ?_
    intro e w' hR
    rcases k e w' hR with ⟨v, rfl, h1, h2⟩ | ⟨ch, rfl, h1⟩
    · exact ⟨h1, h2 _ (hs.put hn v)⟩
    · exact ⟨⟨hs.size, hs.defers⟩, h1⟩
end
section
variable {P : Program} {n : NF} {Γ : Env} {w : World} {K : Env → World → Prop} {Pn : List PanicEntry → World → Prop} {ops : Array Oper} {S : World → Prop} {L fuel : Nat} {listed : Array Bool}
theorem get?_frs {Γ : Env} {d t : Nat} {u v : Value} (hd : get? Γ d = none) (h : get? Γ t = some v) : get? ((d, u) :: Γ) t = some v := by
  simp only [get?]
  cases h1 : Nat.beq d t with
  | true => have e1 := Nat.eq_of_beq_eq_true h1; subst e1; rw [hd] at h; cases h
  | false => exact h
theorem Run.frs {o : Oper} {d : Nat} {u v : Value} (h : Run P o Γ w v) (hd : get? Γ d = none) : Run P o ((d, u) :: Γ) w v := fun ρ hρ => h ρ fun x y hx => hρ x y (by
  cases x with
  | tmp t => exact get?_frs hd hx
  | _ => exact hx)
theorem get?_none {Γ : Env} {d e : Nat} {u : Value} (hd : get? Γ e = none) (hne : Nat.beq d e = false) : get? ((d, u) :: Γ) e = none := by
  simp only [get?]; rw [hne]; exact hd
theorem Sat.perm {Γ Γ' : Env} {a : Act} (h : Sat n Γ a) (hp : ∀ t v, get? Γ' t = some v → get? Γ t = some v) : Sat n Γ' a := ⟨h.size, h.defers, fun t v ht => h.at_ t v (hp t v ht)⟩
theorem get?_perm {d e f : Nat} {u v x : Value} (h1 : Nat.beq d e = false) (h2 : Nat.beq d f = false) (h3 : Nat.beq e f = false) (t : Nat) :
    get? ((f, x) :: (d, u) :: (e, v) :: Γ) t = get? ((f, x) :: (e, v) :: (d, u) :: Γ) t ∧ get? ((e, v) :: (d, u) :: (f, x) :: Γ) t = get? ((f, x) :: (e, v) :: (d, u) :: Γ) t := by
  simp only [get?]
  cases e1 : Nat.beq d t with
  | true =>
    have e2 := Nat.eq_of_beq_eq_true e1
    subst e2
    have e3 : Nat.beq e d = false := by cases h : Nat.beq e d with | false => rfl | true => (have := Nat.eq_of_beq_eq_true h; subst this; rw [Nat.beq_refl] at h1; cases h1)
    have e4 : Nat.beq f d = false := by cases h : Nat.beq f d with | false => rfl | true => (have := Nat.eq_of_beq_eq_true h; subst this; rw [Nat.beq_refl] at h2; cases h2)
    simp [e3, e4]
  | false =>
    cases e2 : Nat.beq e t with
    | true =>
      have e3 := Nat.eq_of_beq_eq_true e2
      subst e3
      have e4 : Nat.beq f e = false := by cases h : Nat.beq f e with | false => rfl | true => (have := Nat.eq_of_beq_eq_true h; subst this; rw [Nat.beq_refl] at h3; cases h3)
      simp [e4]
    | false => simp
/-- Three reads, of which each may come first. -/
theorem HOps.r3 {u v x : Value} {d e f : Nat} (i j k : Nat) {oi oj ok : Oper} (hi : ops[i]? = some oi) (hj : ops[j]? = some oj) (hk : ops[k]? = some ok) (hr : Region.ready .any ops listed = [i, j, k])
    (hri : Region.ready .any ops (listed.setIfInBounds i true) = [j, k]) (hrj : Region.ready .any ops (listed.setIfInBounds j true) = [i, k]) (hrk : Region.ready .any ops (listed.setIfInBounds k true) = [i, j])
    (hrij : Region.ready .any ops ((listed.setIfInBounds i true).setIfInBounds j true) = [k]) (hrik : Region.ready .any ops ((listed.setIfInBounds i true).setIfInBounds k true) = [j]) (hrjk : Region.ready .any ops ((listed.setIfInBounds j true).setIfInBounds k true) = [i])
    (hlij : (listed.setIfInBounds j true).setIfInBounds i true = (listed.setIfInBounds i true).setIfInBounds j true) (hlik : (listed.setIfInBounds k true).setIfInBounds i true = (listed.setIfInBounds i true).setIfInBounds k true)
    (hljk : (listed.setIfInBounds k true).setIfInBounds j true = (listed.setIfInBounds j true).setIfInBounds k true) (hl3 : ((listed.setIfInBounds i true).setIfInBounds k true).setIfInBounds j true = ((listed.setIfInBounds i true).setIfInBounds j true).setIfInBounds k true)
    (hl4 : ((listed.setIfInBounds j true).setIfInBounds k true).setIfInBounds i true = ((listed.setIfInBounds i true).setIfInBounds j true).setIfInBounds k true)
    (hS : S w) (hgi : oi.guard = none) (hgj : oj.guard = none) (hgk : ok.guard = none)
    (h1 : Run P oi Γ w u) (h2 : Run P oj Γ w v) (h3 : Run P ok Γ w x) (hd : oi.dst = some d) (he : oj.dst = some e) (hf : ok.dst = some f) (hdn : Nat.blt d n.n = true) (hen : Nat.blt e n.n = true) (hfn : Nat.blt f n.n = true)
    (hde : Nat.beq d e = false) (hdf : Nat.beq d f = false) (hef : Nat.beq e f = false) (nd : get? Γ d = none) (ne : get? Γ e = none) (nf : get? Γ f = none)
    (kk : HOps P n ops S Pn L fuel (((listed.setIfInBounds i true).setIfInBounds j true).setIfInBounds k true) ((f, x) :: (e, v) :: (d, u) :: Γ) w K) : HOps P n ops S Pn L (fuel + 1 + 1 + 1) listed Γ w K := by
  have hfe : Nat.beq f e = false := by cases h : Nat.beq f e with | false => rfl | true => (have := Nat.eq_of_beq_eq_true h; subst this; rw [Nat.beq_refl] at hef; cases hef)
  have hfd : Nat.beq f d = false := by cases h : Nat.beq f d with | false => rfl | true => (have := Nat.eq_of_beq_eq_true h; subst this; rw [Nat.beq_refl] at hdf; cases hdf)
  have hed : Nat.beq e d = false := by cases h : Nat.beq e d with | false => rfl | true => (have := Nat.eq_of_beq_eq_true h; subst this; rw [Nat.beq_refl] at hde; cases hde)
  intro a hs
  refine wpAnyE_all hr (by simp) ?_
  intro y hy
  simp only [List.mem_cons, List.not_mem_nil, or_false] at hy
  rcases hy with rfl | rfl | rfl
  · unfold wpOp
    simp only [hi]
    rw [if_pos (by unfold Region.wanted; rw [hgi])]
    left
    unfold Oper.wp
    rw [h1 _ hs.fits, Oper.upon_value, hd]
    exact ⟨hS, (HOps.r2 (S := S) j k hj hk hri hrij hrik hl3 hS hgj hgk (h2.frs nd) ((h3.frs nd).frs (get?_none ne hde)) (h3.frs nd) ((h2.frs nd).frs (get?_none nf hdf)) he hf hen hfn hef kk) _ (hs.put hdn u)⟩
  · unfold wpOp
    simp only [hj]
    rw [if_pos (by unfold Region.wanted; rw [hgj])]
    left
    unfold Oper.wp
    rw [h2 _ hs.fits, Oper.upon_value, he]
    refine ⟨hS, (HOps.r2 (S := S) i k hi hk hrj (by rw [hlij]; exact hrij) hrjk (by rw [hl4, hlij]) hS hgi hgk (h1.frs ne) ((h3.frs ne).frs (get?_none nd hed)) (h3.frs ne) ((h1.frs ne).frs (get?_none nf hef)) hd hf hdn hfn hdf ?_) _ (hs.put hen v)⟩
    rw [hlij]
    intro a' hs'
    exact kk a' (hs'.perm fun t y ht => by rw [(get?_perm hde hdf hef t).1]; exact ht)
  · unfold wpOp
    simp only [hk]
    rw [if_pos (by unfold Region.wanted; rw [hgk])]
    left
    unfold Oper.wp
    rw [h3 _ hs.fits, Oper.upon_value, hf]
    refine ⟨hS, (HOps.r2 (S := S) i j hi hj hrk (by rw [hlik]; exact hrik) (by rw [hljk]; exact hrjk) (by rw [hljk, hl4, hlik, hl3]) hS hgi hgj (h1.frs nf) ((h2.frs nf).frs (get?_none nd hfd)) (h2.frs nf) ((h1.frs nf).frs (get?_none ne hfe)) hd he hdn hen hde ?_) _ (hs.put hfn x)⟩
    rw [hlik, hl3]
    intro a' hs'
    exact kk a' (hs'.perm fun t y ht => by rw [(get?_perm hde hdf hef t).2]; exact ht)
end
/-! ### what is deferred -/
section
variable {P : Program} {n : Nat} {D : List Deferred} {Γ : Env} {w : World} {Q : Exit → Env → World → Prop}
/-- A region of pure operations whose last one defers a function of the program without arguments: what follows is walked with it. -/
theorem wp_dfr {id : Nat} {o : Oper} {c : Operand} {f : FuncId} {us : List Value} {rest : Code} {QQ : Exit → Act → World → Prop} {a : Act} {ts : Array TypeId} (hs : Sat ⟨n, D, none⟩ Γ a)
    (ho : o.op = .defer ⟨.value c, #[], ts⟩) (hg : o.guard = none) (hd : o.dst = none) (hc : ev? Γ c = some (.func (.func f) #[] us.toArray))
    (k : ∀ a', Sat ⟨n, { target := .fn (.func f) us.toArray, args := #[] } :: D, none⟩ Γ a' → QQ .normal a' w) : wpList P #[] QQ [o] a w := by
  unfold wpList
  rw [if_pos (by unfold Region.wanted; rw [hg])]
  left
  unfold Oper.wp
  have e2 : a.eval c = .func (.func f) #[] us.toArray := hs.fits _ _ hc
  have hr : (execOp a.eval o).run P w = .ok (.defer { target := .fn (.func f) us.toArray, args := #[] }) w := by
    simp [execOp, ho, resolve, e2, Deferred.ofValue]
  rw [hr, Oper.upon_defer, hd]
  refine wpList_nil (k _ ⟨?_, ?_, hs.at_⟩)
  · exact hs.size
  · show _ :: a.defers = _; rw [hs.defers]
end
end Go.Proofs.Ytmfglifjnoilnaa
