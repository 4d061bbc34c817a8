/-
  Memory: what is kept, blocks that are known whole, slices that are read, slices that are owned; the operations that make and write memory.
-/
import Derived.Test.YtmfglifjnoilnaaEng2
import Derived.Laws.OwnMore
import Derived.Laws.Tables
import Derived.Laws.BytesString
namespace Go.Proofs.Ytmfglifjnoilnaa
open Go.RowKit

/-- Of the blocks that were there only those of S may have changed. -/
structure Frm (S : List Nat) (w w' : World) : Prop where
  os : w'.os = w.os
  tape : w'.tape = w.tape
  output : w'.output = w.output
  size : w.heap.size ≤ w'.heap.size
  block : ∀ k, k < w.heap.size → k ∉ S → w'.heap[k]? = w.heap[k]?

/-- Block g is known whole. -/
def Blk (w : World) (g : Nat) (t : TypeId) (cs : Array Value) : Prop := w.heap[g]? = some (.cells cs t (0, 0))

/-- The block that an address lies in. -/
def ob : Option Addr → List Nat
  | none => []
  | some a => [a.block]

/-- A slice that reads as a list of cells. -/
def Rd (w : World) (size : Nat) (A : Option Addr) (n : Nat) (xs : List Value) : Prop :=
  xs.length = n * size ∧ (0 < n → ∃ ad, A = some ad ∧ ad.block < w.heap.size ∧ ∀ j u, xs[j]? = some u → w.cell? (ad.add j) = some u)

/-- A slice of the call's own: it is nil, or it begins at the head of a block that it has to itself. -/
def Own (w : World) (e size : Nat) (A : Option Addr) (n c : Nat) (xs : List Value) : Prop := w.ownsRow 0 e size (.slice A n c) n xs

section
variable {S T : List Nat} {w w' w'' a b c : World} {g : Nat} {t : TypeId} {cs : Array Value}

theorem Frm.refl (S : List Nat) (w : World) : Frm S w w := ⟨rfl, rfl, rfl, Nat.le_refl _, fun _ _ _ => rfl⟩
theorem Frm.trans (h : Frm S a b) (k : Frm T b c) (hT : ∀ x ∈ T, x ∈ S ∨ a.heap.size ≤ x) : Frm S a c :=
  ⟨k.os.trans h.os, k.tape.trans h.tape, k.output.trans h.output, Nat.le_trans h.size k.size, fun i hi hS =>
    (k.block i (Nat.lt_of_lt_of_le hi h.size) (fun hx => by rcases hT i hx with h1 | h1; exact hS h1; omega)).trans (h.block i hi hS)⟩
theorem Frm.mono (h : Frm S w w') (hS : ∀ x ∈ S, x ∈ T ∨ w.heap.size ≤ x) : Frm T w w' :=
  ⟨h.os, h.tape, h.output, h.size, fun i hi hT => h.block i hi (fun hx => by rcases hS i hx with h1 | h1; exact hT h1; omega)⟩
theorem Frm.of_below (h : Below w.heap.size w w') : Frm [] w w' := ⟨h.os, h.tape, h.output, h.size, fun i hi _ => h.block i hi⟩
theorem Frm.below (h : Frm [] w w') : Below w.heap.size w w' := ⟨h.os, h.tape, h.output, h.size, fun i hi => h.block i hi (by simp)⟩
theorem Frm.drew (h : Frm S w w') : Frm S w w'.drew := ⟨h.os, h.tape, h.output, h.size, h.block⟩
theorem Frm.drewN (h : Frm S w w') (n : Nat) : Frm S w (w'.drewN n) := ⟨h.os, h.tape, h.output, h.size, h.block⟩
theorem Frm.drawn (h : Frm S w w') (hd : Drawn w' w'') : Frm S w w'' := by obtain ⟨m, rfl⟩ := hd; exact h.drewN m
theorem Frm.alloc (h : Frm S a w) (o : Obj) : Frm S a (w.alloc o) :=
  h.trans (T := []) ⟨rfl, rfl, rfl, by simp, fun k hk _ => Below.heap_alloc _ _ _ hk⟩ (by simp)
theorem Frm.set1 (w : World) (p : Addr) (u : Value) : Frm [p.block] w (w.setCell p u) :=
  ⟨rfl, rfl, rfl, by simp, fun k _ hS => Below.heap_setCell _ _ _ _ (by simpa using hS)⟩
theorem Frm.grown {row : Option Nat} (h : w.grownBy w' row) : Frm row.toList w w' :=
  ⟨h.os, h.tape, h.output, h.size, fun k hk hS => h.block k hk (fun e => hS (by rw [← e]; simp))⟩
/-- What is below B stays, if what may change is from B on. -/
theorem Frm.onto {B : Nat} {w0 : World} (k : Frm S w w') (h : Below B w0 w) (hS : ∀ x ∈ S, B ≤ x) (hB : B ≤ w.heap.size) : Below B w0 w' :=
  h.trans ⟨k.os, k.tape, k.output, k.size, fun i hi => k.block i (by omega) (fun hx => by have := hS i hx; omega)⟩
/-- Only blocks of the call's own may have changed. -/
theorem Frm.own (h : Frm [] w a) (k : Frm S a b) (hS : ∀ x ∈ S, w.heap.size ≤ x) : Frm [] w b := h.trans k (fun x hx => .inr (hS x hx))
theorem up_nil {B : Nat} : ∀ x ∈ ob none, B ≤ x := by simp [ob]
theorem up_step {B s : Nat} {A A' : Option Addr} (hA : ∀ x ∈ ob A, B ≤ x) (h : ∀ x ∈ ob A', x ∈ ob A ∨ s ≤ x) (hs : B ≤ s) : ∀ x ∈ ob A', B ≤ x := fun x hx => by
  rcases h x hx with h1 | h1
  · exact hA x h1
  · omega
theorem up_app {B s : Nat} {A A' : Option Addr} (hA : ∀ x ∈ ob A, B ≤ x) (h : ob A' = ob A ∨ ob A' = [s]) (hs : B ≤ s) : ∀ x ∈ ob A', B ≤ x := fun x hx => by
  rcases h with h1 | h1 <;> rw [h1] at hx
  · exact hA x hx
  · simp at hx; omega
theorem up_cons {B g : Nat} {A : Option Addr} (hg : B ≤ g) (hA : ∀ x ∈ ob A, B ≤ x) : ∀ x ∈ g :: ob A, B ≤ x := fun x hx => by
  rcases List.mem_cons.1 hx with rfl | h
  · exact hg
  · exact hA x h
theorem up_one {B g : Nat} (hg : B ≤ g) : ∀ x ∈ [g], B ≤ x := fun x hx => by simp at hx; omega
theorem Drawn.heap (h : Drawn w w') : w'.heap = w.heap := by obtain ⟨m, rfl⟩ := h; rfl
theorem Drawn.frm (h : Drawn w w') : Frm [] w w' := (Frm.refl [] w).drawn h
theorem Drawn.refl (w : World) : Drawn w w := ⟨0, rfl⟩
theorem Drawn.trans (h : Drawn a b) (k : Drawn b c) : Drawn a c := by obtain ⟨m, rfl⟩ := h; obtain ⟨m', rfl⟩ := k; exact ⟨m + m', by simp⟩
theorem Drawn.drew (w : World) : Drawn w w.drew := ⟨1, rfl⟩

theorem Blk.lt (h : Blk w g t cs) : g < w.heap.size := by
  rcases Nat.lt_or_ge g w.heap.size with hlt | hge
  · exact hlt
  · unfold Blk at h; rw [Array.getElem?_eq_none hge] at h; cases h
theorem Blk.cell (h : Blk w g t cs) (i : Nat) : w.cell? ⟨g, i, none⟩ = cs[i]? := by
  unfold Blk at h
  simp [World.cell?, h]
theorem Blk.frozen (h : Blk w g t cs) (i : Nat) : w.frozen? ⟨g, i, none⟩ = false := by
  unfold Blk at h
  simp [World.frozen?, h]
theorem Blk.new (w : World) (t : TypeId) (cs : Array Value) : Blk (w.alloc (.cells cs t)) w.heap.size t cs := heap_alloc_new w _
theorem Blk.cells (h : Blk w g t cs) : ∀ (j : Nat) (v : Value), cs.toList[j]? = some v → w.cell? ((⟨g, 0, none⟩ : Addr).add j) = some v := by
  intro j v hv
  have e : (⟨g, 0, none⟩ : Addr).add j = ⟨g, j, none⟩ := by
    unfold Addr.add; split
    · rename_i h0; subst h0; rfl
    · simp
  rw [e, h.cell]
  simpa using hv
theorem Blk.frm (h : Blk w g t cs) (k : Frm S w w') (hg : g ∉ S) : Blk w' g t cs := (k.block g h.lt hg).trans h
theorem Blk.drawn (h : Blk w g t cs) (k : Drawn w w') : Blk w' g t cs := h.frm k.frm (by simp)
theorem Blk.set (h : Blk w g t cs) (i : Nat) (u : Value) : Blk (w.setCell ⟨g, i, none⟩ u) g t (cs.setIfInBounds i u) := by
  unfold Blk at h ⊢
  simp [World.setCell, Array.getElem?_modify, h]
theorem Blk.ne {g' : Nat} {t' : TypeId} {cs' : Array Value} (h : Blk w g t cs) (h' : Blk w g' t' cs') (hne : t ≠ t') : g ≠ g' := by
  rintro rfl
  unfold Blk at h h'
  rw [h] at h'
  injection h' with h'
  injection h' with _ ht
  exact hne ht

theorem block_add (x : Addr) (n : Nat) : (x.add n).block = x.block := by unfold Addr.add; split <;> rfl
theorem add_add (x : Addr) (i j : Nat) : (x.add i).add j = x.add (i + j) := by
  unfold Addr.add
  by_cases hi : i = 0 <;> by_cases hj : j = 0 <;> simp [hi, hj, Nat.add_assoc]
theorem add_zero' (x : Addr) : x.add 0 = x := by simp [Addr.add]
theorem add_mk (g i : Nat) : (⟨g, 0, none⟩ : Addr).add i = ⟨g, i, none⟩ := by
  unfold Addr.add; split
  · rename_i h; subst h; rfl
  · simp

section
variable {size n m e cap : Nat} {A : Option Addr} {xs : List Value}
theorem Rd.nil (w : World) (size : Nat) (A : Option Addr) : Rd w size A 0 [] := ⟨by simp, fun h => absurd h (by omega)⟩
theorem Rd.lt (h : Rd w size A n xs) (hn : 0 < n) : ∀ x ∈ ob A, x < w.heap.size := by
  obtain ⟨ad, rfl, hb, _⟩ := h.2 hn
  simpa [ob] using hb
theorem Rd.at1 {k : Nat} (h : Rd w 1 A n xs) (hk : k < n) : ∃ ad u, A = some ad ∧ xs[k]? = some u ∧ w.cell? (ad.add k) = some u := by
  obtain ⟨ad, e, hb, hc⟩ := h.2 (by omega)
  have hl : k < xs.length := by have := h.1; omega
  exact ⟨ad, xs[k], e, List.getElem?_eq_getElem hl, hc k _ (List.getElem?_eq_getElem hl)⟩
theorem Rd.frm (h : Rd w size A n xs) (k : Frm S w w') (hS : 0 < n → ∀ x ∈ ob A, x ∉ S) : Rd w' size A n xs :=
  ⟨h.1, fun hn => by
    obtain ⟨ad, e, hb, hc⟩ := h.2 hn
    subst e
    refine ⟨ad, rfl, Nat.lt_of_lt_of_le hb k.size, fun j u hu => ?_⟩
    rw [World.cell?_of_block (w := w) (a := ad.add j) (by rw [block_add]; exact k.block _ hb (hS hn _ (by simp [ob])))]
    exact hc j u hu⟩
/-- A slice below B is read as before, while nothing below B changes. -/
theorem Rd.below {B : Nat} (h : Rd w size A n xs) (hA : 0 < n → ∀ x ∈ ob A, x < B) (k : Below B w w') : Rd w' size A n xs :=
  ⟨h.1, fun hn => by
    obtain ⟨ad, e, hb, hc⟩ := h.2 hn
    subst e
    have hlt := hA hn ad.block (by simp [ob])
    exact ⟨ad, rfl, Nat.lt_of_lt_of_le hb k.size, fun j u hu => (k.cell (p := ad.add j) (by rw [block_add]; exact hlt)).trans (hc j u hu)⟩⟩
theorem Rd.belowW {w0 : World} (h : Rd w0 size A n xs) (k : Below w0.heap.size w0 w') : Rd w' size A n xs := h.below (fun hn => h.lt hn) k
theorem Rd.drawn (h : Rd w size A n xs) (k : Drawn w w') : Rd w' size A n xs := h.frm k.frm (by simp)
/-- One element of a slice of elements of several cells. -/
theorem Rd.elem {k : Nat} (h : Rd w size A n xs) (hk : k < n) : ∃ ad, A = some ad ∧ ∀ j v, ((xs.drop (k * size)).take size)[j]? = some v → w.cell? ((ad.add (k * size)).add j) = some v := by
  obtain ⟨ad, e, _, hc⟩ := h.2 (by omega)
  refine ⟨ad, e, fun j v hv => ?_⟩
  have hj : j < size := by
    have := (List.getElem?_eq_some_iff.1 hv).1
    rw [List.length_take] at this
    omega
  rw [add_add]
  refine hc _ _ ?_
  rw [List.getElem?_take_of_lt hj, List.getElem?_drop] at hv
  exact hv
theorem Rd.cut (h : Rd w size A n xs) {l r : Nat} (h1 : l ≤ r) (h2 : r ≤ n) (hc : n ≤ cap) : Rd w size (cutA A cap l size) (r - l) ((xs.drop (l * size)).take ((r - l) * size)) := by
  have hx := h.1
  have e1 : (r - l) * size + l * size = r * size := by rw [← Nat.add_mul]; congr 1; omega
  have e2 : r * size ≤ n * size := Nat.mul_le_mul_right _ h2
  refine ⟨by rw [List.length_take, List.length_drop]; omega, fun hn => ?_⟩
  obtain ⟨ad, rfl, hb, hcell⟩ := h.2 (by omega)
  refine ⟨ad.add (l * size), by unfold cutA; rw [if_neg (by omega)]; rfl, by rw [block_add]; exact hb, fun j u hu => ?_⟩
  rw [add_add]
  refine hcell _ u ?_
  by_cases hj : j < (r - l) * size
  · rw [List.getElem?_take_of_lt hj, List.getElem?_drop] at hu; exact hu
  · rw [List.getElem?_eq_none (by rw [List.length_take]; omega)] at hu; cases hu
theorem ob_cutA (A : Option Addr) (cap l sz : Nat) : ob (cutA A cap l sz) = ob A := by
  unfold cutA
  split
  · rfl
  · cases A with
    | none => rfl
    | some a => simp [ob, block_add]
theorem Rd.of_blk (h : Blk w g t cs) (hs : cs.size = n * size) : Rd w size (some ⟨g, 0, none⟩) n cs.toList :=
  ⟨by simpa using hs, fun _ => ⟨_, rfl, h.lt, fun j u hu => by rw [add_mk, h.cell]; simpa using hu⟩⟩

theorem Own.nil (w : World) (e size : Nat) : Own w e size none 0 0 [] := World.ownsRow_nil w 0 e size
theorem Own.len (h : Own w e size A n cap xs) : xs.length = n * size := h.1
theorem Own.cases (h : Own w e size A n cap xs) : (A = none ∧ n = 0 ∧ cap = 0 ∧ xs = []) ∨ ∃ g cur, A = some ⟨g, 0, none⟩ ∧ Blk w g e cur ∧ n ≤ cap ∧ cap ≤ maxLen ∧ cur.size = cap * size ∧ cur.toList.take (n * size) = xs := by
  obtain ⟨h1, h2⟩ := h
  rcases h2 with ⟨h3, h4⟩ | ⟨g, c, cur, hv, _, hh, hn, hc, hs, ht⟩
  · injection h3 with e1 e2 e3
    subst e1 e2 e3
    exact .inl ⟨rfl, rfl, rfl, List.eq_nil_of_length_eq_zero (by simpa using h1)⟩
  · injection hv with e1 e2 e3
    subst e1 e3
    exact .inr ⟨g, cur, rfl, hh, hn, hc, hs, ht⟩
theorem Own.le (h : Own w e size A n cap xs) : n ≤ cap := by
  rcases h.cases with ⟨_, rfl, rfl, _⟩ | ⟨g, cur, _, _, hn, _⟩
  · exact Nat.le_refl _
  · exact hn
theorem Own.lt (h : Own w e size A n cap xs) : ∀ x ∈ ob A, x < w.heap.size := by
  rcases h.cases with ⟨rfl, _⟩ | ⟨g, cur, rfl, hb, _⟩
  · simp [ob]
  · simpa [ob] using hb.lt
theorem Own.rd (h : Own w e size A n cap xs) : Rd w size A n xs := by
  refine ⟨h.1, fun hn => ?_⟩
  rcases h.cases with ⟨rfl, rfl, _⟩ | ⟨g, cur, rfl, hb, hnc, _, hs, ht⟩
  · omega
  · refine ⟨_, rfl, hb.lt, fun j u hu => ?_⟩
    rw [add_mk, hb.cell]
    rw [← ht] at hu
    by_cases hj : j < n * size
    · rw [List.getElem?_take_of_lt hj] at hu; simpa using hu
    · rw [List.getElem?_eq_none (by rw [List.length_take]; omega)] at hu; cases hu
theorem Own.frm (h : Own w e size A n cap xs) (k : Frm S w w') (hS : ∀ x ∈ ob A, x ∉ S) : Own w' e size A n cap xs := by
  refine ⟨h.1, ?_⟩
  rcases h.cases with ⟨rfl, rfl, rfl, _⟩ | ⟨g, cur, rfl, hb, hn, hc, hs, ht⟩
  · exact .inl ⟨rfl, rfl⟩
  · exact .inr ⟨g, cap, cur, rfl, Nat.zero_le _, hb.frm k (hS g (by simp [ob])), hn, hc, hs, ht⟩
theorem Own.drawn (h : Own w e size A n cap xs) (k : Drawn w w') : Own w' e size A n cap xs := h.frm k.frm (by simp)
theorem Own.of_blk (h : Blk w g e cs) (hs : cs.size = n * size) (hm : n ≤ maxLen) : Own w e size (some ⟨g, 0, none⟩) n n cs.toList :=
  ⟨by simpa using hs, .inr ⟨g, n, cs, rfl, Nat.zero_le _, h, Nat.le_refl _, hm, hs, List.take_of_length_le (by simp [hs])⟩⟩
/-- Blocks of different element types differ. -/
theorem Own.ne_blk (h : Own w e size A n cap xs) (hg : Blk w g t cs) (hne : e ≠ t) : g ∉ ob A := by
  rcases h.cases with ⟨rfl, _⟩ | ⟨g', cur, rfl, hb, _⟩
  · simp [ob]
  · simp only [ob, List.mem_singleton]
    exact fun e => hb.ne hg hne e.symm
theorem Own.ne_own {e' size' n' cap' : Nat} {A' : Option Addr} {xs' : List Value} (h : Own w e size A n cap xs) (h' : Own w e' size' A' n' cap' xs') (hne : e ≠ e') : ∀ x ∈ ob A, x ∉ ob A' := by
  rcases h.cases with ⟨rfl, _⟩ | ⟨g, cur, rfl, hb, _⟩
  · simp [ob]
  · intro x hx
    simp only [ob, List.mem_singleton] at hx
    subst hx
    exact h'.ne_blk hb (Ne.symm hne)
end
end

/-! ### operations that make memory -/
structure Fresh (w w' : World) (t : TypeId) (cs : Array Value) : Prop where
  blk : Blk w' w.heap.size t cs
  frm : Frm [] w w'
  size : w'.heap.size = w.heap.size + 1
theorem Fresh.mk' (w : World) (t : TypeId) (cs : Array Value) : Fresh w (w.alloc (.cells cs t)) t cs := ⟨Blk.new w t cs, (Frm.refl _ _).alloc _, by simp⟩

section
variable {P : Program} {Γ : Env} {w : World} {dst : Option Tmp} {T : TypeId} {pos : String} {after : Array Edge} {g : Option (Nat × Bool)}

theorem Does.box {e : TypeId} {x : Operand} {v : Value} (hx : ev? Γ x = some v) :
    Does P ⟨dst, .box e x, T, pos, after, g⟩ Γ w (fun r w' => r = .pointer (some ⟨w.heap.size, 0, none⟩) ∧ Fresh w w' e v.cells) := fun ρ hρ =>
  ⟨_, w.alloc (.cells v.cells e), by simp [execOp, hρ _ _ hx, Instr.box, newVar, newRow], rfl, Fresh.mk' _ _ _⟩
theorem Does.alloc {e : TypeId} {z : Value} (hz : ∀ w, (zeroValue e).run P w = .ok z w) :
    Does P ⟨dst, .alloc e, T, pos, after, g⟩ Γ w (fun r w' => r = .pointer (some ⟨w.heap.size, 0, none⟩) ∧ Fresh w w' e z.cells) := fun ρ _ =>
  ⟨_, w.alloc (.cells z.cells e), by simp [execOp, Instr.alloc, hz, newVar, newRow], rfl, Fresh.mk' _ _ _⟩
/-- A struct written out. -/
theorem Run.build {t : TypeId} {parts : List (Nat × Operand)} {vs : List Value} {z cells : Array Value} {fs : Array Field} {pl : Array (Nat × Nat)} (hv : evs Γ (parts.map (·.2)) vs) (hz : ∀ w, (zeroValue t).run P w = .ok (.agg z) w)
    (hu : P.underlying t = some (.struct fs)) (hpl : ∀ w, (fs.mapM fun f => do pure (f.offset, ← sizeOf f.type) : Sem (Array (Nat × Nat))).run P w = .ok pl w) (hf : Instr.fill (pl[·]?) z ((parts.map (·.1)).zip vs) = some cells) :
    Run P ⟨dst, .build t parts.toArray, T, pos, after, g⟩ Γ w (.agg cells) := fun ρ hρ => by
  have e1 := evs_map hρ _ _ hv
  have e2 : parts.map (fun p => (p.1, ρ p.2)) = (parts.map (·.1)).zip vs := by
    rw [← e1, List.map_map, List.zip_map']
    rfl
  simp only [execOp, Instr.build, Sem.run_bind, hz, Result.andThen_ok, Value.cells, run_underlying hu, hpl, List.map_toArray, e2, hf, Sem.run_pure]
theorem Does.buildS0 {t e : TypeId} {size : Nat} (ht : P.underlying t = some (.slice e)) (hz : ∀ w, (sizeOf e).run P w = .ok size w) :
    Does P ⟨dst, .buildSlice t 0 #[], T, pos, after, g⟩ Γ w (fun r w' => r = .slice (some ⟨w.heap.size, 0, none⟩) 0 0 ∧ Fresh w w' e #[]) := fun ρ hρ => by
  refine ⟨_, w.alloc (.cells #[] e), ?_, rfl, Fresh.mk' _ _ _⟩
  have e0 : ∀ f : Nat → Value, (Array.range 0).map f = #[] := fun f => by simp [Array.range]
  simp [execOp, Instr.buildSlice, run_underlying ht, hz, Instr.fill, newRow, e0]
/-- One element. -/
theorem Does.buildS1 {t e : TypeId} {size : Nat} {x : Operand} {z v : Value} (hx : ev? Γ x = some v) (ht : P.underlying t = some (.slice e)) (hz : ∀ w, (sizeOf e).run P w = .ok size w)
    (hzv : ∀ w, (zeroValue e).run P w = .ok z w) (hs0 : 0 < size) (hs1 : size ≤ 16777216) (hv : v.cells.size = size) (hzs : z.cells.size = size) :
    Does P ⟨dst, .buildSlice t 1 #[(0, x)], T, pos, after, g⟩ Γ w (fun r w' => r = .slice (some ⟨w.heap.size, 0, none⟩) 1 1 ∧ Fresh w w' e v.cells) := fun ρ hρ => by
  have hn' : ¬ (1 * size > 2 ^ 24) := by omega
  have hn0 : ¬ (1 * size = 0) := by omega
  have key : ∀ (l : List Value) (acc : Array Value) (k : Nat), k + l.length = acc.size → (l.zipIdx k).foldl (fun (cs : Array Value) (p : Value × Nat) => cs.setIfInBounds p.2 p.1) acc = (acc.toList.take k ++ l).toArray := by
    intro l
    induction l with
    | nil => intro acc k hk; simp at hk ⊢; rw [List.take_of_length_le (by simp [hk])]
    | cons u r ih =>
      intro acc k hk
      simp only [List.length_cons] at hk
      rw [List.zipIdx_cons, List.foldl_cons, ih _ _ (by simp; omega)]
      have e1 : (acc.setIfInBounds k u).toList.take (k + 1) = acc.toList.take k ++ [u] := by
        rw [Array.toList_setIfInBounds]
        apply List.ext_getElem?
        intro j
        rcases Nat.lt_trichotomy j k with hj | hj | hj
        · rw [List.getElem?_take_of_lt (by omega), List.getElem?_set_ne (by omega), List.getElem?_append_left (by simp; omega), List.getElem?_take_of_lt hj]
        · subst hj
          rw [List.getElem?_take_of_lt (by omega), List.getElem?_set_self (by simp; omega), List.getElem?_append_right (by simp; omega)]
          have : j - (acc.toList.take j).length = 0 := by simp; omega
          rw [this]
          rfl
        · rw [List.getElem?_eq_none (by simp; omega), List.getElem?_eq_none (by simp; omega)]
      rw [e1]
      simp
  refine ⟨_, w.alloc (.cells v.cells e), ?_, rfl, Fresh.mk' _ _ _⟩
  have hc1 : ¬ (v.cells.size ≠ size) := by simp [hv]
  have hcs : ((Array.range (1 * size)).map (z.cells[· % z.cells.size]!)).size = size := by simp
  have hfill : Instr.fill (fun i => some (i * size, size)) ((Array.range (1 * size)).map (z.cells[· % z.cells.size]!)) [(0, v)] = some v.cells := by
    unfold Instr.fill
    simp only [Nat.zero_mul, hv, hcs, Nat.zero_add]
    have := key v.cells.toList ((Array.range (1 * size)).map (z.cells[· % z.cells.size]!)) 0 (by simp [hv])
    simp only [List.take_zero, List.nil_append, Array.toArray_toList] at this
    rw [← Array.foldl_toList, Array.toList_zipIdx, this]
    simp [Instr.fill]
  simp only [execOp, Instr.buildSlice, Sem.run_bind, run_underlying ht, Result.andThen_ok, hz, Sem.run_ite, hn', hn0, if_false, hzv, Sem.run_pure, List.map_toArray, List.map_cons, List.map_nil, hρ _ _ hx, hfill, newRow, run_newObj]
  rfl

/-! ### stores -/
theorem Acts.store {t e : TypeId} {x y : Operand} {gb i : Nat} {cs : Array Value} {v : Value} (hx : ev? Γ x = some (.pointer (some ⟨gb, i, none⟩))) (hy : ev? Γ y = some v)
    (hz : ∀ w, (sizeOf t).run P w = .ok 1 w) (hb : Blk w gb e cs) (hi0 : Nat.blt i cs.size = true) (h1 : v.oneCell' = true) :
    Acts P ⟨dst, .store t x y, T, pos, after, g⟩ Γ w (fun w' => Blk w' gb e (cs.setIfInBounds i v) ∧ Frm [gb] w w' ∧ w'.heap.size = w.heap.size) := fun ρ hρ => by
  have hi : i < cs.size := by simpa [Nat.blt_eq] using hi0
  have hcells : v.cells = #[v] := by cases v <;> first | rfl | cases h1
  have hc := hb.cell i
  rw [Array.getElem?_eq_getElem hi] at hc
  refine ⟨w.setCell ⟨gb, i, none⟩ v, ?_, hb.set i v, Frm.set1 w ⟨gb, i, none⟩ v, by simp⟩
  simp [execOp, hρ _ _ hx, hρ _ _ hy, Instr.storeAt, Instr.sureAddr, storeVar, hcells, hz, storeCells, run_store P _ _ _ _ h1, add_zero', hc, hb.frozen i]
/-- A whole block is written. -/
theorem Acts.storeA {t e : TypeId} {x y : Operand} {gb : Nat} {cs vs : Array Value} (hx : ev? Γ x = some (.pointer (some ⟨gb, 0, none⟩))) (hy : ev? Γ y = some (.agg vs))
    (hz : ∀ w, (sizeOf t).run P w = .ok vs.size w) (hb : Blk w gb e cs) (hs : vs.size = cs.size) (h1 : ∀ v ∈ vs.toList, v.oneCell' = true) :
    Acts P ⟨dst, .store t x y, T, pos, after, g⟩ Γ w (fun w' => Blk w' gb e vs ∧ Frm [gb] w w' ∧ w'.heap.size = w.heap.size) := fun ρ hρ => by
  have hr := run_storeCells_from (P := P) gb e vs.toList 0 cs w hb (by simp [hs]) h1
  refine ⟨w.setRow gb (cs.toList.take 0 ++ vs.toList).toArray, ?_, ?_, ?_, ?_⟩
  · simp only [execOp, Instr.storeAt, Instr.sureAddr, storeVar, hρ _ _ hx, hρ _ _ hy, Value.cells, Sem.run_bind, Sem.run_pure, Result.andThen_ok, hz, ne_eq, not_true_eq_false, if_false, Sem.run_ite, hr]
  · have := setRow_heap w gb cs (cs.toList.take 0 ++ vs.toList).toArray e (0, 0) hb
    simpa [Blk] using this
  · exact ⟨rfl, rfl, rfl, by simp [World.setRow], fun k _ hS => setRow_other w gb k _ (by simpa using hS)⟩
  · simp [World.setRow]
/-- An element of an owned row. -/
theorem Acts.storeOwn {t e size n cap : Nat} {x y : Operand} {A : Option Addr} {ad : Addr} {xs : List Value} {v : Value} (j : Nat) (hx : ev? Γ x = some (.pointer (some (ad.add j)))) (hy : ev? Γ y = some v)
    (hz : ∀ w, (sizeOf t).run P w = .ok 1 w) (ho : Own w e size A n cap xs) (hA : A = some ad) (hj : j < n * size) (h1 : v.oneCell' = true) :
    Acts P ⟨dst, .store t x y, T, pos, after, g⟩ Γ w (fun w' => Own w' e size A n cap (xs.set j v) ∧ Frm (ob A) w w' ∧ w'.heap.size = w.heap.size) := fun ρ hρ => by
  rcases ho.cases with ⟨rfl, _⟩ | ⟨gb, cur, hA', hb, hnc, hc, hs, ht⟩
  · cases hA
  · rw [hA'] at hA
    injection hA with hA
    subst hA
    subst hA'
    rw [add_mk] at hx
    have hmul : n * size ≤ cap * size := Nat.mul_le_mul_right _ hnc
    obtain ⟨w', hr, hb', hf, hsz⟩ := Acts.store (P := P) (T := T) (dst := dst) (pos := pos) (after := after) (g := g) hx hy hz hb (by rw [Nat.blt_eq]; omega) h1 ρ hρ
    refine ⟨w', hr, ⟨?_, .inr ⟨gb, cap, _, rfl, Nat.zero_le _, hb', hnc, hc, by simpa using hs, ?_⟩⟩, hf, hsz⟩
    · rw [List.length_set]; exact ho.1
    · rw [Array.toList_setIfInBounds, ← ht, List.take_set]

/-! ### append -/
theorem Does.app {t e : TypeId} {x y : Operand} {z : Value} {size bytes n m cap c2 : Nat} {A B : Option Addr} {xs news : List Value} (hx : ev? Γ x = some (.slice A n cap)) (hy : ev? Γ y = some (.slice B m c2))
    (ht : P.underlying t = some (.slice e)) (hi : (P.info? e).map (fun i => (i.zero, i.size, i.bytes)) = some (some z, size, bytes)) (hzs : z.cells.size = size) (hsz : 0 < size)
    (ho : Own w e size A n cap xs) (hr : Rd w size B m news) (h1 : ∀ u ∈ news, u.oneCell' = true) (h63 : n + m ≤ 9223372036854775807) (hb : (n + m) * bytes ≤ 140737488355328) :
    Does P ⟨dst, .call ⟨.builtin .append, #[x, y], #[t, t]⟩, T, pos, after, g⟩ Γ w
      (fun r w' => ∃ A' c', r = .slice A' (n + m) c' ∧ Own w' e size A' (n + m) c' (xs ++ news) ∧ Frm (ob A) w w' ∧ (ob A' = ob A ∨ ob A' = [w.heap.size])) := fun ρ hρ => by
  obtain ⟨i0, hi0, hz0, hz1, hz2⟩ := info_parts hi
  have ho' := ho
  have ex : (execOp ρ ⟨dst, .call ⟨.builtin .append, #[x, y], #[t, t]⟩, T, pos, after, g⟩).run P w = ((Builtin.append_ #[t, t] T #[.slice A n cap, .slice B m c2]).run P w).andThen fun a w => .ok (.value a) w := by
    simp [execOp, resolve, invoke, builtin, hρ _ _ hx, hρ _ _ hy]
  rcases Nat.eq_zero_or_pos m with hm | hm
  · subst hm
    have hn0 : news = [] := List.eq_nil_of_length_eq_zero (by simpa using hr.1)
    subst hn0
    refine ⟨.slice A n cap, w, ?_, A, cap, rfl, by simpa using ho, Frm.refl _ _, .inl rfl⟩
    rw [ex]
    have hnc := ho.le
    have hz3 : ∀ w, (sizeOf e).run P w = .ok size w := fun w => by simp [sizeOf, typeInfo, hi0, hz1]
    cases A <;> cases B <;> simp [Builtin.append_, run_underlying ht, hz3, Builtin.lenOf, Builtin.firstCells, hnc, storeCells, loadCells, loadCellsFrom]
  · obtain ⟨ad, rfl, hlt, hcell⟩ := hr.2 hm
    obtain ⟨v', w', hrun, hown, hgr, _, hob⟩ := run_append_own_at (P := P) w 0 t T e i0 z size bytes ht hi0 hz0 hz1 hz2 hzs hsz _ n xs ho ad m c2 news hr.1 hcell h1 h63 hb (Nat.zero_le _)
    have hform : ∃ A' c', v' = .slice A' (n + m) c' := by
      rcases hown.2 with ⟨rfl, h0⟩ | ⟨g', cap', cur', rfl, _⟩
      · omega
      · exact ⟨_, _, rfl⟩
    obtain ⟨A', c', rfl⟩ := hform
    have hblk : ∀ (X : Option Addr) (p q : Nat), (Value.slice X p q).ownBlock.toList = ob X := by intro X p q; cases X <;> rfl
    refine ⟨_, w', by rw [ex, hrun]; rfl, A', c', rfl, hown, ?_, ?_⟩
    · have := Frm.grown hgr
      rwa [hblk] at this
    · rcases hob with h | h
      · left; rw [← hblk A' (n + m) c', h, hblk]
      · right; rw [← hblk A' (n + m) c', h]; rfl

/-! ### octets and strings -/
def U8 (l : List UInt8) : List Value := l.map fun b => .int .u8 (b.toNat : Int)
theorem U8_one (l : List UInt8) : ∀ u ∈ U8 l, u.oneCell' = true := by
  intro u hu
  obtain ⟨b, _, rfl⟩ := List.mem_map.1 hu
  rfl
theorem Run.strOf {src dstT e : TypeId} {x : Operand} {A : Option Addr} {n c : Nat} {l : List UInt8} (hx : ev? Γ x = some (.slice A n c)) (hs : P.underlying src = some (.slice e)) (he : P.underlying e = some (.int .u8)) (hd : P.underlying dstT = some .string)
    (hr : Rd w 1 A n (U8 l)) : Run P ⟨dst, .convert src dstT x, T, pos, after, g⟩ Γ w (.string ⟨l.toArray⟩) := fun ρ hρ => by
  have hl : l.length = n := by have := hr.1; simpa [U8] using this
  have h1 := run_convert_bytes_string (P := P) w src dstT e A n c hs he hd
  have h2 : (Conv.bytesToString (.slice A n c)).run P w = .ok (.string ⟨l.toArray⟩) w := by
    cases A with
    | none =>
      have h0 : n = 0 := by
        rcases Nat.eq_zero_or_pos n with h | h
        · exact h
        · obtain ⟨_, h', _⟩ := hr.2 h; cases h'
      subst h0
      have : l = [] := List.eq_nil_of_length_eq_zero hl
      subst this
      rfl
    | some a =>
      have hcell : ∀ j v, (U8 l)[j]? = some v → w.cell? (a.add j) = some v := by
        intro j v hv
        rcases Nat.eq_zero_or_pos n with h | h
        · have : l = [] := List.eq_nil_of_length_eq_zero (by omega)
          subst this
          simp [U8] at hv
        · obtain ⟨ad, h', _, hc⟩ := hr.2 h
          injection h' with h'
          subst h'
          exact hc j v hv
      have hload := run_loadCells_list (P := P) w a (U8 l) hcell
      have hul : (U8 l).length = n := by simpa [U8] using hl
      rw [hul] at hload
      have := run_bytesToString (P := P) w a n c (l.map fun b => (b.toNat : Int)) (by rw [hload, List.map_map]; rfl)
      rw [this]
      congr 2
      have key : ∀ (l : List UInt8) (s : ByteArray), (l.map fun b => (b.toNat : Int)).foldl (fun r n => r.push (UInt8.ofNat n.toNat)) s = ⟨s.data ++ l.toArray⟩ := by
        intro l
        induction l with
        | nil => intro s; simp
        | cons b r ih =>
          intro s
          rw [List.map_cons, List.foldl_cons, ih]
          congr 1
          simp [ByteArray.push]
      rw [key]
      simp [ByteArray.empty, ByteArray.emptyWithCapacity]
      rfl
  simp [execOp, hρ _ _ hx, h1, h2]
end
end Go.Proofs.Ytmfglifjnoilnaa
