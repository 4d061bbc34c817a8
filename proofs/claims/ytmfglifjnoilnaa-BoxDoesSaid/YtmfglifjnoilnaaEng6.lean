/-
  Arrays, elements of several cells, made slices, comparisons of structs.
-/
import Derived.Test.YtmfglifjnoilnaaEng5
import Derived.Test.YtmfglifjnoilnaaOpen
import Derived.Laws.CopyRow
namespace Go.Proofs.Ytmfglifjnoilnaa
open Go.RowKit

/-- Subtraction of 64 bits, whatever comes. -/
theorem Bin.subU (x y : Nat) (hy : y ≤ 18446744073709551615) : Bin .sub .u64 x .u64 y (.int .u64 (((x + 18446744073709551616 - y) % 18446744073709551616 : Nat) : Int)) := fun P T w => by
  have e : IntKind.u64.wrap ((x : Int) - (y : Int)) = (((x + 18446744073709551616 - y) % 18446744073709551616 : Nat) : Int) := by
    have e1 : IntKind.u64.wrap ((x : Int) - (y : Int)) = ((x : Int) - (y : Int)) % 18446744073709551616 := by simp [IntKind.wrap, IntKind.signed, IntKind.bits]
    rw [e1]
    omega
  simp [binOp, Op.intArith, e]
/-! ### operations behind a test that was itself skipped -/
section
variable {P : Program} {n : NF} {Γ : Env} {w : World} {Q : Exit → Env → World → Prop} {K : Env → World → Prop} {KE : Env → Prop} {ops : Array Oper} {rest : List Oper} {d : Nat} {op : Op} {T : TypeId} {pos : String} {after : Array Edge}
theorem yi_undef {j : Nat} {a : Act} (hs : Sat n Γ a) (h : yi ops Γ j = some undef) : yielded ops a.tmps j = none := by
  unfold yi at h
  unfold yielded
  cases hd : (ops[j]?).bind (·.dst) with
  | none => rfl
  | some t =>
    rw [hd] at h
    simp only [Option.bind_some] at h ⊢
    have := hs.at_ t _ h
    rw [Array.getD_eq_getD_getElem?] at this
    cases hg : a.tmps[t]? with
    | none => rfl
    | some u => rw [hg] at this; simp only [Option.getD_some] at this; subst this; rfl
theorem wanted_undef {j : Nat} {c : Bool} {o : Oper} {a : Act} (hs : Sat n Γ a) (hg : o.guard = some (j, c)) (h : yi ops Γ j = some undef) : Region.wanted o (yielded ops a.tmps) = false := by
  unfold Region.wanted
  rw [hg]
  simp only
  rw [yi_undef hs h]
  rfl
theorem Ops.skU {j : Nat} {c : Bool} (hy : yi ops Γ j = some undef) (hn : Nat.blt d n.n = true) (k : Ops P n ops rest ((d, undef) :: Γ) w Q) : Ops P n ops (⟨some d, op, T, pos, after, some (j, c)⟩ :: rest) Γ w Q := by
  intro a hs m
  unfold wpListIn
  rw [wanted_undef hs rfl hy]
  simp only [Bool.false_eq_true, if_false]
  exact ⟨about_wd, k _ (hs.put hn undef) m⟩
theorem Ops.mg {R : Value → World → Prop} {j : Nat} {b c : Bool} (hy : yi ops Γ j = some (.bool b)) (hb : b = c) (h : Does P ⟨some d, op, T, pos, after, some (j, c)⟩ Γ w R) (hn : Nat.blt d n.n = true) (k : ∀ v w', R v w' → Ops P n ops rest ((d, v) :: Γ) w' Q) : Ops P n ops (⟨some d, op, T, pos, after, some (j, c)⟩ :: rest) Γ w Q :=
  Ops.does h (by subst hb; exact hy) rfl hn k
theorem SOps.skU {j : Nat} {c : Bool} (hy : yi ops Γ j = some undef) (hn : Nat.blt d n.n = true) (k : SOps P n ops rest ((d, undef) :: Γ) w KE) : SOps P n ops (⟨some d, op, T, pos, after, some (j, c)⟩ :: rest) Γ w KE := by
  intro a hs
  unfold wpStill
  rw [wanted_undef hs rfl hy]
  simp only [Bool.false_eq_true, if_false]
  exact k _ (hs.put hn undef)
theorem HOps.skU {S : World → Prop} {Pn : List PanicEntry → World → Prop} {L fuel : Nat} {listed : Array Bool} {d : Nat} (i : Nat) {oi : Oper} {j : Nat} {c : Bool} (hi : ops[i]? = some oi) (hsel : (Region.noSelect ops && lastOk ops L i) = true) (hf : Region.free .any ops listed i = true) (hr : (Region.ready .any ops listed).contains i = true)
    (hS : S w) (hg : oi.guard = some (j, c)) (hy : yi ops Γ j = some undef) (hd : oi.dst = some d) (hn : Nat.blt d n.n = true)
    (k : HOps P n ops S Pn L fuel (listed.setIfInBounds i true) ((d, undef) :: Γ) w K) : HOps P n ops S Pn L (fuel + 1) listed Γ w K := by
  intro a hs
  refine wpAnyE_take (v := undef) hi hsel hf hr liftN_put (.inr ⟨wanted_undef hs hg hy, rfl⟩) hS ?_
  rw [hd]
  exact k _ (hs.put hn undef)
end
section
variable {P : Program} {Γ : Env} {w : World} {dst : Option Tmp} {T : TypeId} {pos : String} {after : Array Edge} {g : Option (Nat × Bool)}
theorem Run.indexA {t : TypeId} {x i : Operand} {a : Addr} {n : Nat} {k : IntKind} {e : TypeId} {sz : Nat} (j : Nat) (hx : ev? Γ x = some (.pointer (some a))) (hi : ev? Γ i = some (.int k j)) (ht : P.underlying t = some (.array n e))
    (hz : ∀ w, (sizeOf e).run P w = .ok sz w) (hj : j < n) : Run P ⟨dst, .indexAddr t x i, T, pos, after, g⟩ Γ w (.pointer (some (a.add (j * sz)))) := fun ρ hρ => by
  have h1 : (j : Int) < (n : Int) := by omega
  simp [execOp, hρ _ _ hx, hρ _ _ hi, Instr.indexAt, asIntOf, run_underlying ht, hz, hj, Instr.sureAddr]
/-- An element of one cell of an array at an address of a block. -/
theorem Run.indexA1 {t : TypeId} {x i : Operand} {gb o n : Nat} {k : IntKind} {e : TypeId} (j : Nat) (hx : ev? Γ x = some (.pointer (some ⟨gb, o, none⟩))) (hi : ev? Γ i = some (.int k j)) (ht : P.underlying t = some (.array n e))
    (hz : ∀ w, (sizeOf e).run P w = .ok 1 w) (hj : j < n) : Run P ⟨dst, .indexAddr t x i, T, pos, after, g⟩ Γ w (.pointer (some ⟨gb, o + j, none⟩)) := by
  have := Run.indexA (P := P) (Γ := Γ) (w := w) (dst := dst) (T := T) (pos := pos) (after := after) (g := g) j hx hi ht hz hj
  have e : (⟨gb, o, none⟩ : Addr).add (j * 1) = ⟨gb, o + j, none⟩ := by unfold Addr.add; split <;> simp_all
  rwa [e] at this
/-- A whole block is read. -/
theorem Run.loadB {t e : TypeId} {x : Operand} {gb sz : Nat} {cs : Array Value} (hx : ev? Γ x = some (.pointer (some ⟨gb, 0, none⟩))) (ht : ∀ w, (isAgg t).run P w = .ok true w) (hz : ∀ w, (sizeOf t).run P w = .ok sz w)
    (hb : Blk w gb e cs) (hl : cs.size = sz) : Run P ⟨dst, .load t x, T, pos, after, g⟩ Γ w (.agg cs) := by
  have := Run.loadA (P := P) (Γ := Γ) (w := w) (dst := dst) (T := T) (pos := pos) (after := after) (g := g) hx ht hz hb.cells (by simpa using hl)
  simpa using this
theorem res_cellB {t : Tmp} {T : TypeId} {r : List ResultVar} {e : TypeId} {gb sz : Nat} {cs : Array Value} {K : List Value → Prop} (h1 : get? Γ t = some (.pointer (some ⟨gb, 0, none⟩))) (ht : ∀ w, (isAgg T).run P w = .ok true w) (hz : ∀ w, (sizeOf T).run P w = .ok sz w)
    (hb : Blk w gb e cs) (hl : cs.size = sz) (h : resQ P r Γ w fun vs => K (.agg cs :: vs)) : resQ P (.cell t T :: r) Γ w K :=
  res_cellA (cs := cs.toList) h1 ht hz hb.cells (by simpa using hl) (by simpa using h)
/-- A field of a block's struct. -/
theorem Run.fieldAddrB {s : TypeId} {x : Operand} {f gb : Nat} {fs : Array Field} {fd : Field} {sz : Nat} (o : Nat) (hx : ev? Γ x = some (.pointer (some ⟨gb, o, none⟩))) (hs : P.underlying s = some (.struct fs)) (hf : fs[f]? = some fd)
    (hz : ∀ w, (sizeOf fd.type).run P w = .ok sz w) (hz0 : sz ≠ 0) : Run P ⟨dst, .fieldAddr s x f, T, pos, after, g⟩ Γ w (.pointer (some ⟨gb, o + fd.offset, none⟩)) := by
  have := Run.fieldAddr (P := P) (Γ := Γ) (w := w) (dst := dst) (T := T) (pos := pos) (after := after) (g := g) hx hs hf hz hz0
  have e : (⟨gb, o, none⟩ : Addr).add fd.offset = ⟨gb, o + fd.offset, none⟩ := by unfold Addr.add; split <;> simp_all
  rwa [e] at this

/-! ### made slices -/
theorem madeCells_flat (z : Array Value) (n k : Nat) (hz : z.size = k) : (madeCells z (n * k)).toList = (List.replicate n z.toList).flatten := by
  apply List.ext_getElem?
  intro j
  rw [Array.getElem?_toList]
  unfold madeCells
  simp only [Array.getElem?_map, Array.getElem?_range]
  have hfl : (List.replicate n z.toList).flatten = (List.range n).flatMap (fun _ => z.toList) := by
    rw [List.flatMap_def]
    congr 1
    apply List.ext_getElem?
    intro i
    simp [List.getElem?_replicate]
    split
    · rename_i h; rw [List.getElem?_eq_getElem (by simpa using h)]; simp
    · rename_i h; rw [List.getElem?_eq_none (by simpa using h)]; rfl
  rcases Nat.eq_zero_or_pos k with h0 | h0
  · subst h0
    have : z = #[] := Array.eq_empty_of_size_eq_zero hz
    subst this
    simp
  rw [hfl, flat_idx _ k h0 (fun _ => by simpa using hz)]
  by_cases hj : j < n * k
  · have h2 : j / k < n := Nat.div_lt_of_lt_mul (by rw [Nat.mul_comm]; exact hj)
    have h3 : j % k < z.size := by rw [hz]; exact Nat.mod_lt _ h0
    rw [List.getElem?_eq_getElem (by simpa using h2)]
    simp only [hj, if_true, Option.map_some, hz, List.getElem_range, Option.bind_some, Array.getElem?_toList]
    rw [getElem!_pos z _ h3, Array.getElem?_eq_getElem h3]
  · have h2 : ¬ j / k < n := by
      intro h
      have : j < n * k := by rw [Nat.mul_comm]; exact (Nat.div_lt_iff_lt_mul h0).1 h |> fun h => by rw [Nat.mul_comm]; exact h
      exact hj this
    rw [List.getElem?_eq_none (by simpa using h2)]
    simp [hj]
theorem Does.makeS {t e : TypeId} {x y : Operand} {z : Value} {size bytes n : Nat} {k k' : IntKind} (hx : ev? Γ x = some (.int k (n : Int))) (hy : ev? Γ y = some (.int k' (n : Int)))
    (ht : P.underlying t = some (.slice e)) (hi : (P.info? e).map (fun i => (i.zero, i.size, i.bytes)) = some (some z, size, bytes)) (hzs : z.cells.size = size) (hb : bytes * n ≤ 281474976710656) (hn : n ≤ 9223372036854775807) :
    Does P ⟨dst, .makeSlice t x y, T, pos, after, g⟩ Γ w (fun r w' => r = .slice (some ⟨w.heap.size, 0, none⟩) n n ∧ Own w' e size (some ⟨w.heap.size, 0, none⟩) n n (List.replicate n z.cells.toList).flatten ∧ Frm [] w w' ∧ w'.heap.size = w.heap.size + 1) := fun ρ hρ => by
  obtain ⟨i, hi1, hi2⟩ := Option.map_eq_some_iff.1 hi
  simp only [Prod.mk.injEq] at hi2
  obtain ⟨hz, hsz, hbt⟩ := hi2
  have hr := run_make (P := P) w t e i z ht hi1 hz k k' (n : Int) (n : Int) (by omega) (by omega) (by have h := Int.ofNat_le.2 hb; rw [Int.natCast_mul] at h; rw [hbt]; exact h) (by omega)
  simp only [Int.toNat_natCast, hsz] at hr
  refine ⟨_, w.alloc (.cells (madeCells z.cells (n * size)) e), ?_, rfl, ?_, (Frm.refl _ _).alloc _, (Fresh.mk' w e _).size⟩
  · simp only [execOp, hρ _ _ hx, hρ _ _ hy, Sem.run_bind, hr, Result.andThen_ok, Sem.run_pure]
  · rw [← madeCells_flat z.cells n size hzs]
    exact Own.of_blk (Blk.new w e _) (by rw [size_madeCells]) (by simp [maxLen]; omega)

/-- A slice written out. -/
theorem Does.buildN {t e : TypeId} {size n : Nat} {parts : List (Nat × Operand)} {vs : List Value} {z : Value} {cells : Array Value} (hv : evs Γ (parts.map (·.2)) vs) (ht : P.underlying t = some (.slice e)) (hz : ∀ w, (sizeOf e).run P w = .ok size w)
    (hzv : ∀ w, (zeroValue e).run P w = .ok z w) (hn : Nat.beq (n * size) 0 = false) (hb : Nat.ble (n * size) 16777216 = true)
    (hf : Instr.fill (fun i => some (i * size, size)) ((Array.range (n * size)).map (z.cells[· % z.cells.size]!)) ((parts.map (·.1)).zip vs) = some cells) :
    Does P ⟨dst, .buildSlice t n parts.toArray, T, pos, after, g⟩ Γ w (fun r w' => r = .slice (some ⟨w.heap.size, 0, none⟩) n n ∧ Fresh w w' e cells) := fun ρ hρ => by
  have e1 := evs_map hρ _ _ hv
  have e2 : parts.map (fun p => (p.1, ρ p.2)) = (parts.map (·.1)).zip vs := by
    rw [← e1, List.map_map, List.zip_map']
    rfl
  have h1 : ¬ (n * size > 2 ^ 24) := by have := Nat.le_of_ble_eq_true hb; omega
  have h2 : ¬ (n * size = 0) := Nat.ne_of_beq_eq_false hn
  refine ⟨_, w.alloc (.cells cells e), ?_, rfl, Fresh.mk' _ _ _⟩
  simp only [execOp, Instr.buildSlice, Sem.run_bind, run_underlying ht, Result.andThen_ok, hz, Sem.run_ite, h1, h2, if_false, hzv, Sem.run_pure, List.map_toArray, e2, hf, newRow, run_newObj]
  rfl

/-! ### elements of several cells -/
theorem flat_set {α : Type} (f : α → List Value) (sz : Nat) (hf : ∀ a, (f a).length = sz) : ∀ (l : List α) (j : Nat) (x : α), j < l.length → (l.set j x).flatMap f = (l.flatMap f).take (j * sz) ++ f x ++ (l.flatMap f).drop (j * sz + sz)
  | [], j, x, h => by simp at h
  | a :: r, 0, x, _ => by
    simp only [List.set_cons_zero, List.flatMap_cons, Nat.zero_mul, List.take_zero, List.nil_append, Nat.zero_add]
    rw [List.drop_append, List.drop_eq_nil_of_le (by rw [hf]; exact Nat.le_refl _), hf, Nat.sub_self, List.drop_zero, List.nil_append]
  | a :: r, j + 1, x, h => by
    have h2 : j < r.length := by simpa using h
    have ih := flat_set f sz hf r j x h2
    simp only [List.set_cons_succ, List.flatMap_cons, ih]
    have e1 : (j + 1) * sz = (f a).length + j * sz := by rw [hf, Nat.succ_mul]; omega
    have e2 : (f a).length + j * sz + sz = (f a).length + (j * sz + sz) := by omega
    rw [e1, e2, List.take_length_add_append, List.drop_length_add_append]
    simp [List.append_assoc]
/-- A whole element of an owned row is written. -/
theorem Acts.storeOwnA {α : Type} (f : α → List Value) {t e size n cap : Nat} {x y : Operand} {A : Option Addr} {ad : Addr} {l : List α} (u : α) (j : Nat) (hx : ev? Γ x = some (.pointer (some (ad.add (j * size))))) (hy : ev? Γ y = some (.agg (f u).toArray))
    (hz : ∀ w, (sizeOf t).run P w = .ok size w) (hf : ∀ a, (f a).length = size) (hl : l.length = n) (ho : Own w e size A n cap (l.flatMap f)) (hA : A = some ad) (hj : j < n) (h1 : ∀ v ∈ f u, v.oneCell' = true) :
    Acts P ⟨dst, .store t x y, T, pos, after, g⟩ Γ w (fun w' => Own w' e size A n cap ((l.set j u).flatMap f) ∧ Frm (ob A) w w' ∧ w'.heap.size = w.heap.size) := fun ρ hρ => by
  rcases ho.cases with ⟨rfl, _⟩ | ⟨gb, cur, hA', hb, hnc, hc, hs, ht⟩
  · cases hA
  · rw [hA'] at hA
    injection hA with hA
    subst hA
    subst hA'
    rw [add_mk] at hx
    have hmul : n * size ≤ cap * size := Nat.mul_le_mul_right _ hnc
    have hjs : j * size + size ≤ n * size := by rw [← Nat.succ_mul]; exact Nat.mul_le_mul_right _ hj
    have hr := run_storeCells_at (P := P) gb (j * size) e (f u) 0 cur w hb (by rw [hf]; omega) h1
    simp only [Nat.add_zero, hf] at hr
    generalize hcs : (List.take (j * size) cur.toList ++ f u ++ List.drop (j * size + size) cur.toList).toArray = cs' at hr
    refine ⟨w.setRow gb cs', ?_, ⟨?_, .inr ⟨gb, cap, cs', rfl, Nat.zero_le _, setRow_heap w gb cur _ e (0, 0) hb, hnc, hc, ?_, ?_⟩⟩, ?_, by simp [World.setRow]⟩
    · simp only [execOp, Instr.storeAt, Instr.sureAddr, storeVar, hρ _ _ hx, hρ _ _ hy, Value.cells, Sem.run_bind, Sem.run_pure, Result.andThen_ok, hz, List.size_toArray, hf, ne_eq, not_true_eq_false, if_false, Sem.run_ite, hr]
    · rw [flat_len f size hf, List.length_set, hl]
    · subst hcs
      simp only [List.size_toArray, List.length_append, List.length_take, List.length_drop, Array.length_toList, hf, hs]
      rw [Nat.min_eq_left (by omega)]
      omega
    · subst hcs
      have e1 : (cur.toList.take (j * size)).length = j * size := by rw [List.length_take, Array.length_toList, hs, Nat.min_eq_left (by omega)]
      rw [flat_set f size hf l j u (by omega), ← ht, List.take_take, Nat.min_eq_left (by omega)]
      simp only [List.append_assoc]
      rw [List.take_append, List.take_of_length_le (l := cur.toList.take (j * size)) (by rw [e1]; omega), e1, List.take_append, List.take_of_length_le (l := f u) (by rw [hf]; omega), hf, List.drop_take]
      congr 3
      omega
    · exact ⟨rfl, rfl, rfl, by simp [World.setRow], fun k _ hS => setRow_other w gb k _ (by simpa [ob] using hS)⟩

/-! ### comparisons of structs -/
/-- One field of integers. -/
theorem eqF_int {d : Nat} {xs ys : Array Value} {f : Field} {fs : List Field} {k k' : IntKind} {a b : Int} {r : Bool} (hn : f.name ≠ "_") (ht : ∀ w, (isAgg f.type).run P w = .ok false w) (hu : P.underlying f.type = some (.int k'))
    (hx : xs[f.offset]? = some (.int k a)) (hy : ys[f.offset]? = some (.int k b)) (h : (Op.eqFields (d + 1) xs ys fs).run P w = .ok r w) : (Op.eqFields (d + 1) xs ys (f :: fs)).run P w = .ok (decide (a = b) && r) w := by
  have e1 : (a == b) = decide (a = b) := by rw [Bool.eq_iff_iff]; simp
  simp only [Op.eqFields, if_pos hn, Sem.run_bind, part, ht, Result.andThen_ok, Bool.false_eq_true, if_false, hx, hy, Sem.run_pure, run_equalIn_int w d f.type k k' a b hu, Sem.run_ite]
  by_cases hab : a = b
  · simp [hab, h]
  · simp [hab, e1]
theorem eqF_nil {d : Nat} {xs ys : Array Value} : (Op.eqFields d xs ys []).run P w = .ok true w := rfl
theorem Run.eqlAgg {t yT : TypeId} {x y : Operand} {xs ys : Array Value} {b : Bool} (hx : ev? Γ x = some (.agg xs)) (hy : ev? Γ y = some (.agg ys)) (hm : P.eqGuardType P.depth t = false) (ht : P.underlying t = some (.struct (P.fieldsOf t))) (hp : P.stoodInHeld t = false)
    (h : (Op.eqFields 9999 xs ys (P.fieldsOf t).toList).run P w = .ok b w) : Run P ⟨dst, .binOp .eql t x y yT, T, pos, after, g⟩ Γ w (.bool b) := fun ρ hρ => by
  have h1 := run_equalIn_agg (P := P) w 9999 t xs ys ht hp
  simp [execOp, hρ _ _ hx, hρ _ _ hy, run_eqGuard_agg w .eql t x y xs ys hm, run_eql_struct, h1, h]
theorem Run.neqAgg {t yT : TypeId} {x y : Operand} {xs ys : Array Value} {b : Bool} (hx : ev? Γ x = some (.agg xs)) (hy : ev? Γ y = some (.agg ys)) (hm : P.eqGuardType P.depth t = false) (ht : P.underlying t = some (.struct (P.fieldsOf t))) (hp : P.stoodInHeld t = false)
    (h : (Op.eqFields 9999 xs ys (P.fieldsOf t).toList).run P w = .ok b w) : Run P ⟨dst, .binOp .neq t x y yT, T, pos, after, g⟩ Γ w (.bool (!b)) := fun ρ hρ => by
  have h1 := run_equalIn_agg (P := P) w 9999 t xs ys ht hp
  simp [execOp, hρ _ _ hx, hρ _ _ hy, run_eqGuard_agg w .neq t x y xs ys hm, run_neq_struct, h1, h]
end
end Go.Proofs.Ytmfglifjnoilnaa
