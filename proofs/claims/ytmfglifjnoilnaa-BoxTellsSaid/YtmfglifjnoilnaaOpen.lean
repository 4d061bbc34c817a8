/-
  Arguments that came in, read: slices of integers, slices of structs of one-cell fields.
-/
import Derived.Test.YtmfglifjnoilnaaEng5
import Derived.ProofKit
import Derived.Deep.Slices
import Derived.Deep.Fields
import Derived.OpenShut
import Derived.ChangeSame
import Derived.ShutString
import Derived.ChangeOld
namespace Go.Proofs.Ytmfglifjnoilnaa
open Go.RowKit Go.ChangeShapes Go.WideShapes Go.Deep

/-- Octets in cells. -/
def NB (xs : List Nat) : List Value := xs.map fun x : Nat => Value.int .u8 (x : Int)
/-- Numbers in cells. -/
def IB (xs : List Int) : List Value := xs.map (Value.int .i64)
theorem IB_one (l : List Int) : ∀ u ∈ IB l, u.oneCell' = true := by
  intro u hu
  obtain ⟨b, _, rfl⟩ := List.mem_map.1 hu
  rfl

theorem list_choose {α : Type} {Q : Nat → α → Prop} : ∀ n, (∀ i, i < n → ∃ s, Q i s) → ∃ l : List α, l.length = n ∧ ∀ i s, l[i]? = some s → Q i s
  | 0, _ => ⟨[], rfl, fun i s h => by simp at h⟩
  | n + 1, h => by
    obtain ⟨l, hl, hq⟩ := list_choose n (fun i hi => h i (by omega))
    obtain ⟨s, hs⟩ := h n (by omega)
    refine ⟨l ++ [s], by simp [hl], fun i t ht => ?_⟩
    rcases Nat.lt_trichotomy i n with hi | hi | hi
    · rw [List.getElem?_append_left (by omega)] at ht; exact hq i t ht
    · subst hi
      rw [List.getElem?_append_right (by omega), hl, Nat.sub_self] at ht
      simp at ht
      subst ht
      exact hs
    · rw [List.getElem?_eq_none (by simp; omega)] at ht; cases ht
theorem flat_len {α : Type} (f : α → List Value) (sz : Nat) (hf : ∀ a, (f a).length = sz) (l : List α) : (l.flatMap f).length = l.length * sz := by
  induction l with
  | nil => simp
  | cons a r ih => rw [List.flatMap_cons, List.length_append, hf, ih, List.length_cons, Nat.succ_mul]; omega
theorem flat_get {α : Type} (f : α → List Value) (sz : Nat) (hf : ∀ a, (f a).length = sz) (l : List α) (k : Nat) (h : k < l.length) : ((l.flatMap f).drop (k * sz)).take sz = f l[k] := by
  induction l generalizing k with
  | nil => simp at h
  | cons a r ih =>
    rw [List.flatMap_cons]
    cases k with
    | zero => rw [Nat.zero_mul, List.drop_zero, List.take_append_of_le_length (by rw [hf]; exact Nat.le_refl _), List.take_of_length_le (by rw [hf]; exact Nat.le_refl _)]; rfl
    | succ k =>
      have e : (k + 1) * sz = (f a).length + k * sz := by rw [hf, Nat.succ_mul]; omega
      rw [e, List.drop_append, List.drop_eq_nil_of_le (by omega), List.nil_append, Nat.add_sub_cancel_left, ih k (by simpa using h)]
      rfl
theorem flat_one {α : Type} (f : α → List Value) (hf : ∀ a, ∀ u ∈ f a, u.oneCell' = true) (l : List α) : ∀ u ∈ l.flatMap f, u.oneCell' = true := by
  intro u hu
  obtain ⟨a, _, h⟩ := List.mem_flatMap.1 hu
  exact hf a u h
theorem flat_idx {α : Type} (f : α → List Value) (sz : Nat) (hsz : 0 < sz) (hf : ∀ a, (f a).length = sz) (l : List α) (j : Nat) : (l.flatMap f)[j]? = (l[j / sz]?).bind fun a => (f a)[j % sz]? := by
  induction l generalizing j with
  | nil => simp
  | cons a r ih =>
    rw [List.flatMap_cons]
    by_cases hj : j < sz
    · rw [List.getElem?_append_left (by rw [hf]; exact hj), Nat.div_eq_of_lt hj, Nat.mod_eq_of_lt hj]; rfl
    · rw [List.getElem?_append_right (by rw [hf]; omega), hf, ih, Nat.mod_eq_sub_mod (a := j) (by omega)]
      have : j / sz = (j - sz) / sz + 1 := by rw [← Nat.add_div_right _ hsz]; congr 1; omega
      rw [this]
      rfl

section
variable {H : Type} {enc : TypeId × Value → H} {P : Program} {w : World} {base : Nat} {spare : Nat → Bool} {held : Bool}

theorem rd_ints {t e : TypeId} {k : IntKind} {fuel len cap : Nat} {a : Option Addr} {x : DataW H × List MemPlace} (ht : P.underlying t = some (.slice e)) (he : P.underlying e = some (.int k)) (hc : P.cellsOf e = 1)
    (h : DataW.trod enc P w base spare held fuel t [.slice a len cap] = some x) :
    ∃ zs : List Int, zs.length = len ∧ len ≤ cap ∧ cap ≤ 9223372036854775807 ∧ Rd w 1 a len (zs.map (Value.int k)) ∧ ∀ z ∈ zs, (Lit.int k z).wf = true := by
  rcases open_ints ht he hc h with ⟨hcs, _⟩ | ⟨ad, l, c, zs, hcs, _, hl, hm, hz, _, hcell, hwz⟩
  · simp only [List.cons.injEq, Value.slice.injEq, and_true] at hcs
    obtain ⟨rfl, rfl, rfl⟩ := hcs
    exact ⟨[], rfl, Nat.le_refl _, by omega, Rd.nil _ _ _, by simp⟩
  · simp only [List.cons.injEq, Value.slice.injEq, and_true] at hcs
    obtain ⟨rfl, rfl, rfl⟩ := hcs
    have hzl : len ≤ zs.length := by rw [hz]; split <;> omega
    refine ⟨zs.take len, by rw [List.length_take]; omega, hl, by simpa [maxLen] using hm, ⟨by rw [List.length_map, List.length_take]; omega, fun hn => ⟨ad, rfl, ?_, fun j u hu => ?_⟩⟩, fun z hz => hwz z (List.mem_of_mem_take hz)⟩
    · have := World.block_lt_of_cell? w _ (hcell 0 (by omega))
      rwa [block_add] at this
    · rw [List.getElem?_map] at hu
      by_cases hj : j < len
      · rw [List.getElem?_take_of_lt hj, List.getElem?_eq_getElem (by omega)] at hu
        simp only [Option.map_some, Option.some.injEq] at hu
        rw [hcell j (by omega), ← hu, List.getD_eq_getElem?_getD, List.getElem?_eq_getElem (by omega)]
        rfl
      · rw [List.getElem?_eq_none (by rw [List.length_take]; omega)] at hu
        cases hu
theorem rd_bytes {t e : TypeId} {fuel len cap : Nat} {a : Option Addr} {x : DataW H × List MemPlace} (ht : P.underlying t = some (.slice e)) (he : P.underlying e = some (.int .u8)) (hc : P.cellsOf e = 1)
    (h : DataW.trod enc P w base spare held fuel t [.slice a len cap] = some x) :
    ∃ bs : List Nat, bs.length = len ∧ len ≤ cap ∧ cap ≤ 9223372036854775807 ∧ (∀ b ∈ bs, b < 256) ∧ Rd w 1 a len (NB bs) := by
  obtain ⟨zs, h1, h2, h3, h4, h5⟩ := rd_ints ht he hc h
  have hz : ∀ z ∈ zs, 0 ≤ z ∧ z < 256 := by
    intro z hz
    have := bounds_u8 (h5 z hz)
    omega
  have e1 : NB (zs.map Int.toNat) = zs.map (Value.int .u8) := by
    unfold NB
    rw [List.map_map]
    apply List.map_congr_left
    intro z hz'
    have := (hz z hz').1
    simp only [Function.comp_apply]
    rw [Int.toNat_of_nonneg this]
  refine ⟨zs.map Int.toNat, by simpa using h1, h2, h3, ?_, by rw [e1]; exact h4⟩
  intro b hb
  obtain ⟨z, hz', rfl⟩ := List.mem_map.1 hb
  have := hz z hz'
  omega
/-- A slice of structs whose fields are one cell each. -/
theorem rd_structs {t e : TypeId} {fs : Array Field} {fuel len cap : Nat} {a : Option Addr} {x : DataW H × List MemPlace} (ht : P.underlying t = some (.slice e)) (he : P.underlying e = some (.struct fs)) (hone : oneCellFields P fs = true) (hC : P.cellsOf e = fs.size) (hfs : 0 < fs.size)
    (h : DataW.trod enc P w base spare held fuel t [.slice a len cap] = some x) :
    ∃ ls : List (List Value), ls.length = len ∧ len ≤ cap ∧ cap ≤ 9223372036854775807 ∧ Rd w fs.size a len (ls.flatMap id) ∧
      ∀ l ∈ ls, l.length = fs.size ∧ ∀ (j : Nat) (f : Field), fs[j]? = some f → ∃ (v : Value) (y : DataW H × List MemPlace) (n : Nat), l[j]? = some v ∧ DataW.trod enc P w base spare held n f.type [v] = some y := by
  rcases open_slice ht h with ⟨hcs, _⟩ | ⟨ad, l, c, m, n, D, Pl, hcs, _, hl, hm, hmm, _, hi⟩
  · simp only [List.cons.injEq, Value.slice.injEq, and_true] at hcs
    obtain ⟨rfl, rfl, rfl⟩ := hcs
    exact ⟨[], rfl, Nat.le_refl _, by omega, Rd.nil _ _ _, by simp⟩
  · simp only [List.cons.injEq, Value.slice.injEq, and_true] at hcs
    obtain ⟨rfl, rfl, rfl⟩ := hcs
    have hml : len ≤ m := by rw [hmm]; split <;> omega
    rw [hC] at hi
    have key : ∀ i, i < len → ∃ cs' : List Value, (cs'.length = fs.size ∧ (∀ j, j < fs.size → w.cell? ((ad.add (i * fs.size)).add j) = cs'[j]?)) ∧ ∀ (j : Nat) (f : Field), fs[j]? = some f → ∃ (v : Value) (y : DataW H × List MemPlace) (n : Nat), cs'[j]? = some v ∧ DataW.trod enc P w base spare held n f.type [v] = some y := by
      intro i hil
      obtain ⟨cs', hc, ht'⟩ := hi i (by omega)
      obtain ⟨_, hcl, hat⟩ := World.cells?_some hc
      obtain ⟨ys, n', hn', hy, hlen, hyl, hf⟩ := DataW.trod_struct he ht'
      refine ⟨cs', ⟨hcl, fun j hj => hat j hj⟩, fun j f hj => ?_⟩
      obtain ⟨ho, hk⟩ := hone_of hone j f hj
      have hjl : j < fs.size := (Array.getElem?_eq_some_iff.1 hj).1
      have h1 := hf j f hj
      rw [ho, hk] at h1
      have hone' : (cs'.drop j).take 1 = [cs'[j]'(by omega)] := by
        rw [List.drop_eq_getElem_cons (by omega)]
        rfl
      rw [hone'] at h1
      have hys : ys[j]? = some (ys[j]'(by omega)) := List.getElem?_eq_getElem (by omega)
      exact ⟨_, _, _, List.getElem?_eq_getElem (by omega), h1.trans hys⟩
    obtain ⟨ls, hll, hq⟩ := list_choose len key
    have hsz : ∀ l ∈ ls, l.length = fs.size := fun l hl => by
      obtain ⟨i, hi', hli⟩ := List.getElem_of_mem hl
      exact (hq i l (by rw [List.getElem?_eq_getElem hi', hli])).1.1
    have hidx : ∀ (ls : List (List Value)), (∀ l ∈ ls, l.length = fs.size) → ∀ j, (ls.flatMap id)[j]? = (ls[j / fs.size]?).bind fun l => l[j % fs.size]? := by
      intro ls
      induction ls with
      | nil => intro _ j; simp
      | cons b r ih =>
        intro hb j
        have hbl : b.length = fs.size := hb b (by simp)
        rw [List.flatMap_cons]
        by_cases hj : j < fs.size
        · rw [List.getElem?_append_left (by simp only [id]; omega), Nat.div_eq_of_lt hj, Nat.mod_eq_of_lt hj]; rfl
        · rw [List.getElem?_append_right (by simp only [id]; omega)]
          simp only [id, hbl]
          rw [ih (fun l hl => hb l (by simp [hl])), Nat.mod_eq_sub_mod (a := j) (by omega)]
          have : j / fs.size = (j - fs.size) / fs.size + 1 := by rw [← Nat.add_div_right _ hfs]; congr 1; omega
          rw [this]
          rfl
    have hlen : ∀ (ls : List (List Value)), (∀ l ∈ ls, l.length = fs.size) → (ls.flatMap id).length = ls.length * fs.size := by
      intro ls
      induction ls with
      | nil => intro _; simp
      | cons b r ih =>
        intro hb
        rw [List.flatMap_cons, List.length_append, ih (fun l hl => hb l (by simp [hl])), List.length_cons, Nat.succ_mul]
        have : b.length = fs.size := hb b (by simp)
        simp only [id]
        omega
    have hcell : ∀ j u, (ls.flatMap id)[j]? = some u → w.cell? (ad.add j) = some u := by
      intro j u hu
      rw [hidx ls hsz] at hu
      obtain ⟨l, hl', hu'⟩ := Option.bind_eq_some_iff.1 hu
      have hmod : j % fs.size < fs.size := Nat.mod_lt _ hfs
      have := (hq _ l hl').1.2 _ hmod
      rw [Go.Proofs.Ytmfglifjnoilnaa.add_add, Nat.mul_comm, Nat.div_add_mod] at this
      rw [this, hu']
    refine ⟨ls, hll, hl, by simpa [maxLen] using hm, ⟨by rw [hlen ls hsz, hll], fun hn => ⟨ad, rfl, ?_, hcell⟩⟩, fun l hl => ?_⟩
    · have h0 : 0 < (ls.flatMap id).length := by rw [hlen ls hsz, hll]; exact Nat.mul_pos hn hfs
      have := World.block_lt_of_cell? w _ (hcell 0 _ (List.getElem?_eq_getElem h0))
      rwa [block_add] at this
    · obtain ⟨i, hi', hli⟩ := List.getElem_of_mem hl
      have := hq i l (by rw [List.getElem?_eq_getElem hi', hli])
      exact ⟨this.1.1, this.2⟩
end
end Go.Proofs.Ytmfglifjnoilnaa
