/-
  Lemmas on the way, joined: Eng18, Eng19, BitsW, CanP, CanW, CanC, BitsV, BitsT, CanV, CanT, DefP, MatW, EngC, MatV.
-/
import Derived.Maps.Keyed
import Derived.DeepKeys4
import Derived.Carry
import Derived.RangeFuncLeaves
import Derived.RangeFuncSeq
import Derived.RangeFuncOwn
import Derived.Sort.OwnSorted
import Derived.Deep.Strs
import Derived.Test.YtndjgmbfkkgpdaaGreatPk0
set_option maxRecDepth 100000
set_option linter.unusedVariables false
set_option linter.unusedSimpArgs false
namespace Go.Proofs.YtndjgmbfkkgpdaaGreat
section
open Go.RowKit
open Go.Maps (Keyed)
def MpF (P : Program) (k : TypeId) {κ : Type} (enc : κ → Value) (w : World) (g : Nat) (M : κ → Option Value) : Prop :=
 ∃ (es : List MapEntry) (clock : Nat), w.heap[g]? = some (.map es.toArray clock) ∧ (∀ e ∈ es, (∃ l, keyOf P k e.key = some l) ∧ e.born < clock) ∧ es.Pairwise (fun a b => a.born ≠ b.born ∧ a.key ≠ b.key) ∧ ∀ x v, M x = some v ↔ ∃ e ∈ es, e.key = enc x ∧ e.val = v
def MpE (P : Program) (k : TypeId) {κ : Type} (enc : κ → Value) (w : World) (g : Nat) (M : κ → Option Value) (x : κ) (n : Nat) : Prop :=
 ∃ (es : List MapEntry) (clock : Nat), w.heap[g]? = some (.map es.toArray clock) ∧ (∀ e ∈ es, (∃ l, keyOf P k e.key = some l) ∧ e.born < clock) ∧ es.Pairwise (fun a b => a.born ≠ b.born ∧ a.key ≠ b.key) ∧ (∀ x v, M x = some v ↔ ∃ e ∈ es, e.key = enc x ∧ e.val = v) ∧
  ∃ e ∈ es, e.key = enc x ∧ e.born = n
section
variable {P : Program} {k : TypeId} {κ : Type} {enc : κ → Value} {w w' : World} {g : Nat} {M : κ → Option Value} {S : List Nat}
theorem MpE.mp {x : κ} {n : Nat} (h : MpE P k enc w g M x n) : MpF P k enc w g M := by
 obtain ⟨es, clock, h1, h2, h3, h4, _⟩ := h
 exact ⟨es, clock, h1, h2, h3, h4⟩
theorem MpF.lt (h : MpF P k enc w g M) : g < w.heap.size := by
 obtain ⟨es, clock, h1, _⟩ := h
 exact (Array.getElem?_eq_some_iff.1 h1).1
theorem MpF.frm (h : MpF P k enc w g M) (f : Frm S w w') (hS : g ∉ S) : MpF P k enc w' g M := by
 have hl := h.lt
 obtain ⟨es, clock, h1, h2⟩ := h
 exact ⟨es, clock, (f.block g hl hS).trans h1, h2⟩
theorem MpE.frm {x : κ} {n : Nat} (h : MpE P k enc w g M x n) (f : Frm S w w') (hS : g ∉ S) : MpE P k enc w' g M x n := by
 have hl := h.mp.lt
 obtain ⟨es, clock, h1, h2⟩ := h
 exact ⟨es, clock, (f.block g hl hS).trans h1, h2⟩
theorem MpF.drawn (h : MpF P k enc w g M) (hd : qQ w w') : MpF P k enc w' g M := by
 obtain ⟨m, rfl⟩ := hd
 exact h
theorem MpF.ne_blk {b : Nat} {t : TypeId} {cs : Array Value} (h : MpF P k enc w g M) (hb : Blk w b t cs) : g ≠ b := by
 rintro rfl
 obtain ⟨es, clock, h1, _⟩ := h
 rw [show w.heap[g]? = _ from hb] at h1
 cases h1
theorem MpF.new : MpF P k enc (w.alloc (.map #[] 0)) w.heap.size (fun _ : κ => none) := by
 refine ⟨[], 0, (MapKept.heap_alloc w _).1, jp, List.Pairwise.nil, fun x v => ?_⟩
 simp
theorem nZ (w : World) (g : Nat) (o : Obj) : Frm [g] w (ChangeMaps.setBlock w g o) :=
 ⟨rfl, rfl, rfl, by simp [ChangeMaps.setBlock], fun i _ hi => by
  unfold ChangeMaps.setBlock
  simp only [Array.getElem?_setIfInBounds]
  rw [if_neg (fun e => hi (by rw [e]; simp))]⟩
theorem qHy {t e : TypeId} {z : Value} {x : κ} {kl : Lit} (h : MpF P k enc w g M) (K : Keyed P k) (ht : P.underlying t = some (.map k e)) (hz : (zeroValue e).run P w = .ok z w) (hkey : keyOf P k (enc x) = some kl) :
  (Instr.lookup t (.map (some g)) (enc x) false).run P w = .ok ((M x).getD z) w := by
 obtain ⟨es, clock, hb, h2, h3, h4⟩ := h
 rcases K.find w hkey es (fun e he => (h2 e he).1) with ⟨h5, h6⟩ | ⟨j, e0, h5, h6, h7⟩
 ·
  have hM : M x = none := by
   cases hm : M x with
   | none => rfl
   | some v =>
    obtain ⟨e1, he1, he2, _⟩ := (h4 x v).1 hm
    exact absurd he2 (h6 e1 he1)
  rw [hM]
  simp [Instr.lookup, run_underlying ht, MapKept.run_getObj_map hb, K.check w _ hkey, h5, hz, Result.andThen]
 have hM : M x = some e0.val := (h4 x e0.val).2 ⟨e0, zcw h6, h7, rfl⟩
 rw [hM]
 simp [Instr.lookup, run_underlying ht, MapKept.run_getObj_map hb, K.check w _ hkey, h5, Result.andThen]
theorem qWy [DecidableEq κ] {t e : TypeId} {z : Value} {x : κ} {kl : Lit} (h : MpF P k enc w g M) (K : Keyed P k) (henc : ∀ a b, enc a = enc b → a = b) (ht : P.underlying t = some (.map k e)) (hz : ∀ w, (zeroValue e).run P w = .ok z w) (hkey : keyOf P k (enc x) = some kl) :
  ∃ (n : Nat) (w' : World), (Instr.mapEntry t (.map (some g)) (enc x)).run P w = .ok (.tuple #[(M x).getD z, .int .i64 (n : Int)]) w' ∧ MpE P k enc w' g (fun y => if y = x then some ((M x).getD z) else M y) x n ∧ Frm [g] w w' ∧ w'.heap.size = w.heap.size := by
 have hlt := h.lt
 obtain ⟨es, clock, hb, h2, h3, h4⟩ := h
 rcases K.find w hkey es (fun e he => (h2 e he).1) with ⟨h5, h6⟩ | ⟨j, e0, h5, h6, h7⟩
 ·
  have hM : M x = none := by
   cases hm : M x with
   | none => rfl
   | some v =>
    obtain ⟨e1, he1, he2, _⟩ := (h4 x v).1 hm
    exact absurd he2 (h6 e1 he1)
  refine ⟨clock, ChangeMaps.setBlock w g (.map (es ++ [(⟨enc x, z, clock⟩ : MapEntry)]).toArray (clock + 1)), ?_, ⟨es ++ [(⟨enc x, z, clock⟩ : MapEntry)], clock + 1, ?_, ?_, ?_, ?_, ⟨(⟨enc x, z, clock⟩ : MapEntry), jp, rfl, rfl⟩⟩, nZ w g _, by simp [ChangeMaps.setBlock]⟩
  ·
   rw [hM]
   simp [Instr.mapEntry, run_underlying ht, MapKept.run_getObj_map hb, K.check w _ hkey, h5, hz, MapKept.run_setObj_map _ hb, Result.andThen, ChangeMaps.setBlock, goInt]
  · simp [ChangeMaps.setBlock, hlt]
  ·
   intro e1 he1
   rcases List.mem_append.1 he1 with he1 | he1
   · exact ⟨(h2 e1 he1).1, by have := (h2 e1 he1).2; omega⟩
   rw [zh] at he1
   subst he1
   exact ⟨⟨kl, hkey⟩, Nat.lt_succ_self _⟩
  ·
   refine List.pairwise_append.2 ⟨h3, jp, fun a ha b hb2 => ?_⟩
   rw [zh] at hb2
   subst hb2
   exact ⟨by have := (h2 a ha).2; dsimp only; omega, h6 a ha⟩
  intro y v
  dsimp only
  by_cases hy : y = x
  ·
   subst hy
   rw [if_pos rfl, hM]
   constructor
   ·
    intro hv
    simp only [Option.getD_none, Option.some.injEq] at hv
    exact ⟨⟨enc y, z, clock⟩, jp, rfl, hv⟩
   rintro ⟨e1, he1, he2, he3⟩
   rcases List.mem_append.1 he1 with he1 | he1
   · exact absurd he2 (h6 e1 he1)
   rw [zh] at he1
   subst he1
   simpa using he3
  rw [if_neg hy]
  constructor
  ·
   intro hv
   obtain ⟨e1, he1, he2⟩ := (h4 y v).1 hv
   exact ⟨e1, by simp [he1], he2⟩
  rintro ⟨e1, he1, he2, he3⟩
  rcases List.mem_append.1 he1 with he1 | he1
  · exact (h4 y v).2 ⟨e1, he1, he2, he3⟩
  rw [zh] at he1
  subst he1
  exact absurd (henc _ _ he2).symm hy
 have hM : M x = some e0.val := (h4 x e0.val).2 ⟨e0, zcw h6, h7, rfl⟩
 have hself : es.modify j (fun e => { e with key := enc x }) = es := by
  rw [ChangeMaps.modify_eq_set _ _ _ _ h6]
  have : ({ e0 with key := enc x } : MapEntry) = e0 := by rw [← h7]
  rw [this]
  apply zap
  intro i
  rw [zek]
  split
  ·
   rename_i hi
   subst hi
   rw [if_pos (List.getElem?_eq_some_iff.1 h6).1, h6]
  rfl
 refine ⟨e0.born, ChangeMaps.setBlock w g (.map es.toArray clock), ?_, ⟨es, clock, ?_, h2, h3, ?_, ⟨e0, zcw h6, h7, rfl⟩⟩, nZ w g _, by simp [ChangeMaps.setBlock]⟩
 ·
  rw [hM]
  have hstay := K.stays w hkey
  simp [Instr.mapEntry, run_underlying ht, MapKept.run_getObj_map hb, K.check w _ hkey, h5, h6, h7, hstay, MapKept.run_setObj_map _ hb, Result.andThen, ChangeMaps.setBlock, goInt, hself]
 · simp [ChangeMaps.setBlock, hlt]
 intro y v
 dsimp only
 by_cases hy : y = x
 ·
  subst hy
  rw [if_pos rfl, hM]
  rw [← h4 y v, hM]
  simp
 rw [if_neg hy]
 exact h4 y v
theorem qWz {es : List MapEntry} {e0 : MapEntry} (h0 : e0 ∈ es) (hp : es.Pairwise (fun a b => a.born ≠ b.born ∧ a.key ≠ b.key)) : ∃ j, es.findIdx? (fun e => (e.born : Int) == (e0.born : Int)) = some j ∧ es[j]? = some e0 := by
 cases hf : es.findIdx? (fun e => (e.born : Int) == (e0.born : Int)) with
 | none =>
  have := List.findIdx?_eq_none_iff.1 hf e0 h0
  simp at this
 | some j =>
  obtain ⟨hj, h1, _⟩ := List.findIdx?_eq_some_iff_getElem.1 hf
  refine ⟨j, rfl, ?_⟩
  obtain ⟨i, hi, he⟩ := zbc h0
  have h2 : es[j].born = e0.born := Int.ofNat.inj (by simpa using h1)
  by_cases hij : i = j
  ·
   subst hij
   rw [za hi, he]
  exfalso
  rcases Nat.lt_or_gt_of_ne hij with h3 | h3
  · exact (List.pairwise_iff_getElem.1 hp i j hi hj h3).1 (by rw [he, h2])
  exact (List.pairwise_iff_getElem.1 hp j i hj hi h3).1 (by rw [he, h2])
theorem xS [DecidableEq κ] {t : TypeId} {x : κ} {n : Nat} {v : Value} (h : MpE P k enc w g M x n) (henc : ∀ a b, enc a = enc b → a = b) :
  ∃ w' : World, (Instr.entryStore t (.map (some g)) (.int .i64 (n : Int)) v).run P w = .ok () w' ∧ MpF P k enc w' g (fun y => if y = x then some v else M y) ∧ Frm [g] w w' ∧ w'.heap.size = w.heap.size := by
 have hlt := h.mp.lt
 obtain ⟨es, clock, hb, h2, h3, h4, e0, he0, hk0, hn0⟩ := h
 subst hn0
 obtain ⟨j, hj1, hj2⟩ := qWz he0 h3
 have hjl := (List.getElem?_eq_some_iff.1 hj2).1
 have hmod : es.modify j (fun e => { e with val := v }) = es.set j { e0 with val := v } := ChangeMaps.modify_eq_set _ _ _ _ hj2
 have who : ∀ e1 ∈ es.set j { e0 with val := v }, e1 = { e0 with val := v } ∨ (e1 ∈ es ∧ e1.key ≠ e0.key ∧ e1.born ≠ e0.born) := by
  intro e1 he1
  obtain ⟨i, hi, ex⟩ := zbc he1
  rw [List.getElem_set] at ex
  split at ex
  · exact .inl ex.symm
  rename_i hne
  have hi' : i < es.length := by simpa using hi
  refine .inr ⟨ex ▸ zw hi', ?_⟩
  have ej : es[j] = e0 := by rw [za hjl] at hj2; exact Option.some.inj hj2
  rcases Nat.lt_or_gt_of_ne hne with h5 | h5
  ·
   have := List.pairwise_iff_getElem.1 h3 j i hjl hi' h5
   rw [ej, ex] at this
   exact ⟨this.2.symm, this.1.symm⟩
  have := List.pairwise_iff_getElem.1 h3 i j hi' hjl h5
  rw [ej, ex] at this
  exact ⟨this.2, this.1⟩
 have back : ∀ e1 ∈ es, e1.key ≠ e0.key → e1 ∈ es.set j { e0 with val := v } := by
  intro e1 he1 hne
  obtain ⟨i, hi, ex⟩ := zbc he1
  have hij : j ≠ i := by
   rintro rfl
   rw [za hi, ex] at hj2
   exact hne (by rw [Option.some.inj hj2])
  have : (es.set j { e0 with val := v })[i]? = some e1 := by rw [zfc hij, za hi, ex]
  exact zcw this
 have hmem : ({ e0 with val := v } : MapEntry) ∈ es.set j { e0 with val := v } := by
  have : (es.set j { e0 with val := v })[j]? = some { e0 with val := v } := by rw [zec hjl]
  exact zcw this
 refine ⟨ChangeMaps.setBlock w g (.map (es.set j { e0 with val := v }).toArray clock), ?_, ⟨es.set j { e0 with val := v }, clock, by simp [ChangeMaps.setBlock, hlt], ?_, ?_, ?_⟩, nZ w g _, by simp [ChangeMaps.setBlock]⟩
 ·
  have e5 : (asInt (.int .i64 (e0.born : Int))).run P w = .ok (e0.born : Int) w := rfl
  simp [Instr.entryStore, MapKept.run_getObj_map hb, e5, hj1, MapKept.run_setObj_map _ hb, Result.andThen, ChangeMaps.setBlock, hmod]
 ·
  intro e1 he1
  rcases who e1 he1 with rfl | ⟨h5, _⟩
  · exact h2 e0 he0
  exact h2 e1 h5
 ·
  rw [List.pairwise_iff_getElem]
  intro a b ha hb2 hab
  have ha' : a < es.length := by simpa using ha
  have hb' : b < es.length := by simpa using hb2
  have h5 := List.pairwise_iff_getElem.1 h3 a b ha' hb' hab
  have ej : es[j] = e0 := by rw [za hjl] at hj2; exact Option.some.inj hj2
  rw [List.getElem_set, List.getElem_set]
  by_cases h6 : j = a
  ·
   subst h6
   rw [if_pos rfl, if_neg jo]
   rw [ej] at h5
   exact h5
  rw [if_neg h6]
  by_cases h7 : j = b
  ·
   subst h7
   rw [if_pos rfl]
   rw [ej] at h5
   exact h5
  rw [if_neg h7]
  exact h5
 intro y u
 dsimp only
 by_cases hy : y = x
 ·
  subst hy
  rw [if_pos rfl]
  constructor
  ·
   intro hu
   exact ⟨_, hmem, hk0, by simpa using hu⟩
  rintro ⟨e1, he1, he2, he3⟩
  rcases who e1 he1 with rfl | ⟨_, h6, _⟩
  · simpa using he3
  exact absurd (he2.trans hk0.symm) h6
 rw [if_neg hy]
 constructor
 ·
  intro hu
  obtain ⟨e1, he1, he2, he3⟩ := (h4 y u).1 hu
  exact ⟨e1, back e1 he1 (fun e => hy (henc _ _ (by rw [← he2, ← hk0, e]))), he2, he3⟩
 rintro ⟨e1, he1, he2, he3⟩
 rcases who e1 he1 with rfl | ⟨h5, _, _⟩
 · exact absurd (henc _ _ (hk0.symm.trans he2)).symm hy
 exact (h4 y u).2 ⟨e1, h5, he2, he3⟩
end
section
variable {P : Program} {k : TypeId} {κ : Type} {enc : κ → Value} {w : World} {g : Nat} {M : κ → Option Value} {Γ : Env} {dst : Option Tmp} {T : TypeId} {pos : String} {after : Array Edge} {gd : Option (Nat × Bool)}
theorem qJ.makeMap {t : TypeId} : qJ P ⟨dst, .makeMap t none, T, pos, after, gd⟩ Γ w (fun r w' => r = .map (some w.heap.size) ∧ MpF P k enc w' w.heap.size (fun _ : κ => none) ∧ Frm [] w w' ∧ w'.heap.size = w.heap.size + 1) := fun ρ _ =>
 ⟨_, w.alloc (.map #[] 0), by simp [execOp, run_makeMap], rfl, MpF.new, (Frm.refl [] w).alloc _, jp⟩
theorem Run.lookup {t e : TypeId} {a b : Operand} {z : Value} {x : κ} {kl : Lit} (ha : ev? Γ a = some (.map (some g))) (hb : ev? Γ b = some (enc x)) (h : MpF P k enc w g M) (K : Keyed P k) (ht : P.underlying t = some (.map k e)) (hz : ∀ w, (zeroValue e).run P w = .ok z w) (hkey : keyOf P k (enc x) = some kl) :
  Run P ⟨dst, .lookup t a b false, T, pos, after, gd⟩ Γ w ((M x).getD z) := fun ρ hρ => by
 simp [execOp, hρ _ _ ha, hρ _ _ hb, qHy h K ht (hz w) hkey]
theorem qJ.mapEntry [DecidableEq κ] {t e : TypeId} {a b : Operand} {z : Value} {x : κ} {kl : Lit} (ha : ev? Γ a = some (.map (some g))) (hb : ev? Γ b = some (enc x)) (h : MpF P k enc w g M) (K : Keyed P k) (henc : ∀ a b, enc a = enc b → a = b) (ht : P.underlying t = some (.map k e)) (hz : ∀ w, (zeroValue e).run P w = .ok z w) (hkey : keyOf P k (enc x) = some kl) :
  qJ P ⟨dst, .mapEntry t a b, T, pos, after, gd⟩ Γ w (fun r w' => ∃ n : Nat, r = .tuple #[(M x).getD z, .int .i64 (n : Int)] ∧ MpE P k enc w' g (fun y => if y = x then some ((M x).getD z) else M y) x n ∧ Frm [g] w w' ∧ w'.heap.size = w.heap.size) := fun ρ hρ => by
 obtain ⟨n, w', h1, h2⟩ := qWy h K henc ht hz hkey
 exact ⟨_, w', by simp [execOp, hρ _ _ ha, hρ _ _ hb, h1], n, rfl, h2⟩
theorem qR.entryStore [DecidableEq κ] {t : TypeId} {a b c : Operand} {x : κ} {n : Nat} {v : Value} (ha : ev? Γ a = some (.map (some g))) (hb : ev? Γ b = some (.int .i64 (n : Int))) (hc : ev? Γ c = some v) (h : MpE P k enc w g M x n) (henc : ∀ a b, enc a = enc b → a = b) :
  qR P ⟨dst, .entryStore t a b c, T, pos, after, gd⟩ Γ w (fun w' => MpF P k enc w' g (fun y => if y = x then some v else M y) ∧ Frm [g] w w' ∧ w'.heap.size = w.heap.size) := fun ρ hρ => by
 obtain ⟨w', h1, h2⟩ := xS (t := t) (v := v) h henc
 exact ⟨w', by simp [execOp, hρ _ _ ha, hρ _ _ hb, hρ _ _ hc, h1], h2⟩
theorem Run.toArr {t e : TypeId} {a : Operand} {A : Option Addr} {len c n : Nat} (ha : ev? Γ a = some (.slice A len c)) (ht : P.underlying t = some (.array n e)) (hn : n ≤ len) : Run P ⟨dst, .sliceToArrayPointer t a, T, pos, after, gd⟩ Γ w (.pointer A) := fun ρ hρ => by
 have : ¬ len < n := jo
 simp [execOp, hρ _ _ ha, Instr.arrayAt, run_underlying ht, this]
end
end
section
open Go.RowKit
section
variable {P : Program} {n : NF} {ops : Array Oper} {S : World → Prop} {Pn : List PanicEntry → World → Prop} {L fuel : Nat} {listed : Array Bool} {Γ : Env} {w : World} {K : Env → World → Prop}
end
theorem Bin.and_u32 (x y : Nat) (hx : x ≤ 4294967295) (hy : y ≤ 4294967295) : Bin .and .u32 x .u32 y (.int .u32 ((x &&& y : Nat) : Int)) := Bin.andN x y hx hy
theorem Bin.xor_u32 (x y : Nat) (hx : x ≤ 4294967295) (hy : y ≤ 4294967295) : Bin .xor .u32 x .u32 y (.int .u32 ((x ^^^ y : Nat) : Int)) := Bin.xorN x y hx hy
theorem Bin.xor_u8 (x y : Nat) (hx : x ≤ 255) (hy : y ≤ 255) : Bin .xor .u8 x .u8 y (.int .u8 ((x ^^^ y : Nat) : Int)) := Bin.xorN x y hx hy
theorem Bin.shr_u32 {k' : IntKind} (x y : Nat) (h : x ≤ 4294967295) : Bin .shr .u32 x k' y (.int .u32 ((x / 2 ^ y : Nat) : Int)) := Bin.shrN x y h
theorem qQn (n : Nat) (h : n ≤ 4294967295) : (BitVec.ofInt 32 4294967295 ^^^ BitVec.ofInt 32 (n : Int)).toNat = 4294967295 - n := by
 have e1 : BitVec.ofInt 32 4294967295 = BitVec.allOnes 32 := jd
 have e2 : BitVec.ofInt 32 (n : Int) = BitVec.ofNat 32 n := BitVec.ofInt_natCast 32 n
 rw [e1, e2, BitVec.allOnes_xor, BitVec.toNat_not, BitVec.toNat_ofNat]
 have : n % 2 ^ 32 = n := zde jo
 rw [this]
theorem Run.compl32 {P : Program} {Γ : Env} {w : World} {dst : Option Nat} {xT T : TypeId} {pos : String} {after : Array Edge} {g : Option (Nat × Bool)} {x : Operand} (n : Nat) (hx : ev? Γ x = some (.int .u32 (n : Int))) (h : n ≤ 4294967295) : Run P ⟨dst, .unOp .xor xT x, T, pos, after, g⟩ Γ w (.int .u32 ((4294967295 - n : Nat) : Int)) := fun ρ hρ => by
 have e : IntKind.u32.wrap ((4294967295 - n : Nat) : Int) = ((4294967295 - n : Nat) : Int) := by
  rw [qHk, zde jo]
 have e2 : (Op.unary .xor (.int .u32 (n : Int))).run P w = .ok (.int .u32 ((4294967295 - n : Nat) : Int)) w := by
  show Sem.run P (pure (Value.int .u32 (IntKind.u32.wrap ((BitVec.ofInt 32 4294967295 ^^^ BitVec.ofInt 32 (n : Int)).toNat)))) w = _
  rw [qQn n h, e]
  rfl
 simp only [execOp, hρ _ _ hx, Sem.run_bind, e2, Result.andThen_ok, Sem.run_pure]
theorem qJ.make0 {P : Program} {Γ : Env} {w : World} {dst : Option Nat} {T : TypeId} {pos : String} {after : Array Edge} {g : Option (Nat × Bool)} {t e : TypeId} {x y : Operand} {z : Value} {size bytes c : Nat} {k k' : IntKind} (hx : ev? Γ x = some (.int k ((0 : Nat) : Int))) (hy : ev? Γ y = some (.int k' (c : Int)))
  (ht : P.underlying t = some (.slice e)) (hi : (P.info? e).map (fun i => (i.zero, i.size, i.bytes)) = some (some z, size, bytes)) (hb : bytes * c ≤ 281474976710656) (hc : c ≤ 9223372036854775807) :
  qJ P ⟨dst, .makeSlice t x y, T, pos, after, g⟩ Γ w (fun r w' => r = .slice (some ⟨w.heap.size, 0, none⟩) 0 c ∧ Own w' e size (some ⟨w.heap.size, 0, none⟩) 0 c [] ∧ Frm [] w w' ∧ w'.heap.size = w.heap.size + 1) := fun ρ hρ => by
 obtain ⟨i, hi1, hi2⟩ := Option.map_eq_some_iff.1 hi
 simp only [Prod.mk.injEq] at hi2
 obtain ⟨hz, hsz, hbt⟩ := hi2
 have hr := run_make (P := P) w t e i z ht hi1 hz k k' ((0 : Nat) : Int) (c : Int) jo jo (by have h := Int.ofNat_le.2 hb; rw [Int.natCast_mul] at h; rw [hbt]; exact h) jo
 simp only [zal, hsz] at hr
 refine ⟨_, w.alloc (.cells (madeCells z.cells (c * size)) e), ?_, rfl, ?_, (Frm.refl _ _).alloc _, (Fresh.mk' w e _).size⟩
 · simp only [execOp, hρ _ _ hx, hρ _ _ hy, Sem.run_bind, hr, Result.andThen_ok, Sem.run_pure]
 exact ⟨jp, .inr ⟨w.heap.size, c, _, rfl, zas _, Blk.new w e _, zas _, by simp [maxLen]; omega, by rw [size_madeCells], jp⟩⟩
theorem Run.eqNilS {P : Program} {Γ : Env} {w : World} {dst : Option Nat} {T : TypeId} {pos : String} {after : Array Edge} {g : Option (Nat × Bool)} {t yT e : TypeId} {x y : Operand} {A : Option Addr} {n c : Nat} (hx : ev? Γ x = some (.slice A n c)) (hy : ev? Γ y = some (.slice none 0 0)) (ht : P.underlying t = some (.slice e)) :
  Run P ⟨dst, .binOp .eql t x y yT, T, pos, after, g⟩ Γ w (.bool A.isNone) := fun ρ hρ => by
 have h0 : ∀ d : Nat, (Op.equalIn (d + 1) t (.slice A n c) (.slice none 0 0)).run P w = .ok A.isNone w := fun d => by
  cases A <;> simp [Op.equalIn, run_underlying ht]
 have h1 : (Op.equal t (.slice A n c) (.slice none 0 0)).run P w = .ok A.isNone w := h0 9999
 simp [execOp, hρ _ _ hx, hρ _ _ hy, eqGuard, binOp, h1]
theorem Run.slice3 {P : Program} {Γ : Env} {w : World} {dst : Option Nat} {T : TypeId} {pos : String} {after : Array Edge} {g : Option (Nat × Bool)} {t e : TypeId} {x lo hi mx : Operand} {a : Option Addr} {len cap sz : Nat} {k k' k'' : IntKind} (l h m : Nat) (hx : ev? Γ x = some (.slice a len cap)) (ht : P.underlying t = some (.slice e)) (hz : ∀ w, (sizeOf e).run P w = .ok sz w)
  (hlo : ev? Γ lo = some (.int k (l : Int))) (hhi : ev? Γ hi = some (.int k' (h : Int))) (hmx : ev? Γ mx = some (.int k'' (m : Int))) (h1 : l ≤ h) (h2 : h ≤ m) (h3 : m ≤ cap) :
  Run P ⟨dst, .slice t x (some lo) (some hi) (some mx), T, pos, after, g⟩ Γ w (.slice (cP a m l sz) (h - l) (m - l)) := fun ρ hρ => by
 have hb : ∀ (k : IntKind) (r y : Nat) (code : BoundsCode), r ≤ y → (Instr.sliceBound (.int k (r : Int)) y code).run P w = .ok r w := by
  intro k r y code hry
  have := run_sliceBound (P := P) w k (r : Int) y code jo jo
  simpa using this
 have hbb : (Instr.sliceBounds true len cap (some (.int k (l : Int))) (some (.int k' (h : Int))) (some (.int k'' (m : Int)))).run P w = .ok (l, h, m) w := by
  unfold Instr.sliceBounds
  simp [hb _ _ _ _ h1, hb _ _ _ _ h2, hb _ _ _ _ h3]
 simp only [execOp, Instr.sliceAt, Instr.slice, Sem.run_bind, run_underlying ht, Result.andThen_ok, hρ _ _ hx, hρ _ _ hlo, hρ _ _ hhi, hρ _ _ hmx, zgp, hbb, hz, Sem.run_pure]
 rfl
theorem qZ4 (n : Nat) (h : n ≤ 4611686018427387904) : (BitVec.ofInt 64 (-1) ^^^ BitVec.ofInt 64 (n : Int)).toNat = 18446744073709551615 - n := by
 have e1 : BitVec.ofInt 64 (-1) = BitVec.allOnes 64 := jd
 have e2 : BitVec.ofInt 64 (n : Int) = BitVec.ofNat 64 n := BitVec.ofInt_natCast 64 n
 rw [e1, e2, BitVec.allOnes_xor, BitVec.toNat_not, BitVec.toNat_ofNat]
 have : n % 2 ^ 64 = n := zde jo
 rw [this]
theorem Run.compl {P : Program} {Γ : Env} {w : World} {dst : Option Nat} {xT T : TypeId} {pos : String} {after : Array Edge} {g : Option (Nat × Bool)} {x : Operand} (n : Nat) (hx : ev? Γ x = some (.int .i64 (n : Int))) (h : n ≤ 4611686018427387904) : Run P ⟨dst, .unOp .xor xT x, T, pos, after, g⟩ Γ w (.int .i64 (-(n : Int) - 1)) := fun ρ hρ => by
 have e : IntKind.i64.wrap ((18446744073709551615 - n : Nat) : Int) = -(n : Int) - 1 := by
  simp only [IntKind.wrap, IntKind.bits, IntKind.signed, Bool.true_and, decide_eq_true_eq, Nat.reduceSub, ge_iff_le]
  have h2 : (9223372036854775808 : Int) ≤ ((18446744073709551615 - n : Nat) : Int) % 18446744073709551616 := jo
  rw [if_pos (by exact h2)]
  omega
 have e2 : (Op.unary .xor (.int .i64 (n : Int))).run P w = .ok (.int .i64 (-(n : Int) - 1)) w := by
  show Sem.run P (pure (Value.int .i64 (IntKind.i64.wrap ((BitVec.ofInt 64 (-1) ^^^ BitVec.ofInt 64 (n : Int)).toNat)))) w = _
  rw [qZ4 n h, e]
  rfl
 simp only [execOp, hρ _ _ hx, Sem.run_bind, e2, Result.andThen_ok, Sem.run_pure]
theorem qK9 (n : Nat) (h : n ≤ 65535) : IntKind.u8.wrap (-(n : Int) - 1) = (((65535 - n) % 256 : Nat) : Int) := by
 simp only [IntKind.wrap, IntKind.bits, IntKind.signed, zgv, zcu, if_false]; omega
theorem qZ5 (n : Nat) (h : n ≤ 65535) : IntKind.u8.wrap (-((n / 256 : Nat) : Int) - 1) = (((65535 - n) / 256 : Nat) : Int) := by
 simp only [IntKind.wrap, IntKind.bits, IntKind.signed, zgv, zcu, if_false]; omega
theorem Bin.shr_neg8 {k' : IntKind} (n : Nat) : Bin .shr .i64 (-(n : Int) - 1) k' ((8 : Nat) : Int) (.int .i64 (-((n / 256 : Nat) : Int) - 1)) := fun P T w => by
 have h0 : ¬ (((8 : Nat) : Int) < 0) := jo
 have e : (-(n : Int) - 1).fdiv (2 ^ (min ((8 : Nat) : Int).toNat IntKind.i64.bits)) = -((n / 256 : Nat) : Int) - 1 := by
  show (-(n : Int) - 1).fdiv 256 = _
  rw [zgm _ jd]
  omega
 simp only [binOp, Op.shift, h0, if_false, e]
 rfl
end
section
open Go.RowKit
theorem dH (l : List Nat) : ∀ u ∈ NB l, u.oneCell' = true := by
 intro u hu
 obtain ⟨b, _, rfl⟩ := List.mem_map.1 hu
 rfl
theorem eA (a b : List Nat) : NB (a ++ b) = NB a ++ NB b := by simp [NB]
theorem qR4 (a : List Nat) (i x : Nat) : NB (a.set i x) = (NB a).set i (.int .u8 (x : Int)) := by simp [NB, List.map_set]
theorem oD (a : List Nat) (i : Nat) (h : i < a.length) : (NB a)[i]? = some (.int .u8 ((a.getD i 0 : Nat) : Int)) := by
 simp [NB, h]
def IsW (w : World) (g : Nat) (A : Option Addr) (l : List Bool) : Prop :=
 ∃ c, Blk w g 154 #[.slice A (qL l).length c, .int .i64 ((l.length : Nat) : Int)] ∧ Own w 5 1 A (qL l).length c (NB (qL l))
theorem IsW.frm {w w' : World} {g : Nat} {A : Option Addr} {l : List Bool} {S : List Nat} (h : IsW w g A l) (k : Frm S w w') (hS : ∀ x ∈ g :: ob A, x ∉ S) : IsW w' g A l := by
 obtain ⟨c, h1, h2⟩ := h
 exact ⟨c, h1.frm k (hS g jp), h2.frm k (fun x hx => hS x (by simp [hx]))⟩
theorem IsW.lt {w : World} {g : Nat} {A : Option Addr} {l : List Bool} (h : IsW w g A l) : ∀ x ∈ g :: ob A, x < w.heap.size := by
 obtain ⟨c, h1, h2⟩ := h
 intro x hx
 rcases zcq.1 hx with rfl | hx
 · exact h1.lt
 exact h2.lt x hx
def IsR (w : World) (g : Nat) (A : Option Addr) (bs : List Nat) (p : Nat) : Prop :=
 ∃ c, Blk w g 189 #[.slice A bs.length c, .int .i64 ((p : Nat) : Int)] ∧ Own w 5 1 A bs.length c (NB bs)
theorem IsR.frm {w w' : World} {g : Nat} {A : Option Addr} {bs : List Nat} {p : Nat} {S : List Nat} (h : IsR w g A bs p) (k : Frm S w w') (hS : ∀ x ∈ g :: ob A, x ∉ S) : IsR w' g A bs p := by
 obtain ⟨c, h1, h2⟩ := h
 exact ⟨c, h1.frm k (hS g jp), h2.frm k (fun x hx => hS x (by simp [hx]))⟩
theorem IsR.lt {w : World} {g : Nat} {A : Option Addr} {bs : List Nat} {p : Nat} (h : IsR w g A bs p) : ∀ x ∈ g :: ob A, x < w.heap.size := by
 obtain ⟨c, h1, h2⟩ := h
 intro x hx
 rcases zcq.1 hx with rfl | hx
 · exact h1.lt
 exact h2.lt x hx
def rightE (v : Nat) (n : Int) : Nat := if n < 0 ∨ 32 < n then 1 else if v / 2 ^ n.toNat = 0 then 0 else 8
theorem uA (w : World) : Calls Tryz.prog 50 #[] w fun e w' => e = .returned (.pointer (some ⟨w.heap.size, 0, none⟩)) ∧ IsW w' w.heap.size none [] ∧ Frm [] w w' ∧ w'.heap.size = w.heap.size + 1 := by
 refine VC.calls (nt := 3) (res := #[.tmp 0]) Tryz.func50 rfl Tryz.ntmps50 Tryz.results50 rfl ?_
 refine jS (jR (ja rfl (jO (jN ?_))))
 refine VC.sub [] .nil ?_
 refine jS (jR (je (Run.build evs.nil qPf (yP).choose_spec.1 (yP).choose_spec.2 rfl) ?_))
 refine Ops.m (qJ.box rfl) rfl ?_
 rintro _ w1 ⟨rfl, hFw1⟩
 refine ja rfl (jO (jN (jv1 0 ?_)))
 refine jT ?_
 refine qC rfl ?_
 exact ⟨rfl, ⟨0, hFw1.blk, Own.nil _ _ _⟩, hFw1.frm, hFw1.size⟩
theorem qHz (v n : Nat) (w : World) (hn : n ≤ 32) (hv : v ≤ 18446744073709551615) : Calls Tryz.prog 89 #[.int .u64 v, .int .i64 n] w fun e w' => e = .returned (.int .i64 ((if v / 2 ^ n = 0 then 0 else 8 : Nat) : Int)) ∧ w = w' := by
 refine VC.calls (nt := 17) (res := #[.tmp 4]) Tryz.func89 rfl Tryz.ntmps89 Tryz.results89 rfl ?_
 refine jS (jR (jz 0 (jO (jN (jv2 0 1 ?_)))))
 refine jS (jB (jS (jR (jm rfl (jb rfl rfl (Bin.lssN _ 0) (jM ?_))))))
 refine Ops.rg rfl (decide_eq_false jo) (Run.mv rfl) rfl ?_
 refine Ops.rg rfl (decide_eq_false jo) (Run.bin rfl rfl (Bin.gtrN _ 32)) rfl ?_
 refine je (Run.pickF rfl rfl (decide_eq_false jo)) (ja rfl (jO (jN (jv3 0 1 5 ?_))))
 refine VC.condF rfl (decide_eq_false jo) ?_
 refine jS (jR (jm rfl (jm rfl (jb rfl rfl (Bin.shr_u64 _ _ hv) (jb rfl rfl (Bin.neqN _ 0) (ja rfl (jO (jN (jv1 12 ?_)))))))))
 refine jD rfl (fun hc2 => ?_) fun hc2 => ?_
 ·
  refine jS (jR (jz 8 (jO (jN (jv1 4 ?_)))))
  refine jT ?_
  refine qD (qN (qC rfl ?_))
  exact ⟨by rw [if_neg hc2], rfl⟩
 refine jQ ?_
 refine qK (jN ?_)
 refine VC.sub [] .nil ?_
 refine jS (jR (jz 0 (jO (jN (jT ?_)))))
 refine qC rfl ?_
 exact ⟨by rw [if_pos (by simpa using hc2)], rfl⟩
theorem qW0 (v : Nat) (n : Int) (w : World) (hn : n < 0) : Calls Tryz.prog 89 #[.int .u64 v, .int .i64 n] w fun e w' => e = .returned (.int .i64 ((1 : Nat) : Int)) ∧ w = w' := by
 refine VC.calls (nt := 17) (res := #[.tmp 4]) Tryz.func89 rfl Tryz.ntmps89 Tryz.results89 rfl ?_
 refine jS (jR (jz 0 (jO (jN (jv2 0 1 ?_)))))
 refine jS (jB (jS (jR (jm rfl (jb rfl rfl (Bin.lss _ 0) (jM ?_))))))
 refine Ops.sk rfl (by simpa using hn) rfl ?_
 refine Ops.sk rfl (by simpa using hn) rfl ?_
 refine je (Run.pickT rfl rfl (decide_eq_true hn)) (ja rfl (jO (jN (jv3 0 1 5 ?_))))
 refine VC.condT rfl (rfl) ?_
 refine jS (jR (jz 1 (jO (jN (jv1 4 ?_)))))
 refine jT ?_
 refine qD (qN (qC rfl ?_))
 exact ⟨rfl, rfl⟩
theorem qW1 (v : Nat) (n : Int) (w : World) (hn : 32 < n) : Calls Tryz.prog 89 #[.int .u64 v, .int .i64 n] w fun e w' => e = .returned (.int .i64 ((1 : Nat) : Int)) ∧ w = w' := by
 refine VC.calls (nt := 17) (res := #[.tmp 4]) Tryz.func89 rfl Tryz.ntmps89 Tryz.results89 rfl ?_
 refine jS (jR (jz 0 (jO (jN (jv2 0 1 ?_)))))
 refine jS (jB (jS (jR (jm rfl (jb rfl rfl (Bin.lss _ 0) (jM ?_))))))
 refine Ops.rg rfl (decide_eq_false jo) (Run.mv rfl) rfl ?_
 refine Ops.rg rfl (decide_eq_false jo) (Run.bin rfl rfl (Bin.gtr _ 32)) rfl ?_
 refine je (Run.pickF rfl rfl (decide_eq_false jo)) (ja rfl (jO (jN (jv3 0 1 5 ?_))))
 refine VC.condT rfl (decide_eq_true hn) ?_
 refine jS (jR (jz 1 (jO (jN (jv1 4 ?_)))))
 refine jT ?_
 refine qD (qN (qC rfl ?_))
 exact ⟨rfl, rfl⟩
theorem wZ (v : Nat) (n : Int) (w : World) (hv : v ≤ 18446744073709551615) : Calls Tryz.prog 89 #[.int .u64 v, .int .i64 n] w fun e w' => e = .returned (.int .i64 ((rightE v n : Nat) : Int)) ∧ w = w' := by
 unfold rightE
 by_cases h1 : n < 0
 · rw [if_pos (.inl h1)]; exact qW0 v n w h1
 by_cases h2 : 32 < n
 · rw [if_pos (.inr h2)]; exact qW1 v n w h2
 rw [if_neg jo]
 obtain ⟨m, rfl⟩ := Int.eq_ofNat_of_zero_le (jo : 0 ≤ n)
 exact qHz v m w jo hv
theorem yB (v m : Nat) (h1 : m ≤ 32) (h2 : v < 2 ^ m) : rightE v (m : Int) = 0 := by
 unfold rightE
 rw [if_neg jo, if_pos (by simp only [zal]; exact zeq h2)]
def gM (l : List Bool) : List Nat := if l.length % 8 = 0 then qL l ++ [0] else qL l
theorem qQ5 (l : List Bool) : (gM l).length = l.length / 8 + 1 := by
 unfold gM; split <;> simp [cQ] <;> omega
theorem qPn (l : List Bool) : (gM l).getD (l.length / 8) 0 < 256 := by
 have hl : ∀ x ∈ gM l, x < 256 := by
  intro x hx
  unfold gM at hx
  split at hx
  ·
   rcases List.mem_append.1 hx with h | h
   · exact tC l x h
   simp at h; omega
  exact tC l x hx
 have := qQ5 l
 rw [zc, za jo]
 exact hl _ (zw _)
theorem qW2 (l : List Bool) (b : Bool) : qL (l ++ [b]) = (gM l).set (l.length / 8) ((gM l).getD (l.length / 8) 0 ||| (b.toNat * 2 ^ (l.length % 8) % 256)) := by
 have hb : b.toNat * 2 ^ (l.length % 8) % 256 = b.toNat * 2 ^ (l.length % 8) := by
  apply zde
  have h1 : 2 ^ (l.length % 8) ≤ 2 ^ 7 := zae jo jo
  cases b <;> simp <;> omega
 rw [hb]
 by_cases h : l.length % 8 = 0
 ·
  have h8 : (qL l).length = l.length / 8 := by rw [cQ]; omega
  rw [qQk l b h]
  unfold gM
  rw [if_pos h, h, List.set_append_right _ _ jo, zc, zah jo, h8]
  simp
 rw [qQl l b h]
 unfold gM
 rw [if_neg h]
 congr 1
 rw [zc, dN _ _ jo]
 simp only [zaz]
 rw [zn (by simp; omega)]
 have := rL (l.drop (8 * (l.length / 8)))
 rw [show (l.drop (8 * (l.length / 8))).length = l.length % 8 by simp; omega] at this
 rw [qQ1 _ _ _ this]
theorem qH0 (g v : Nat) (A : Option Addr) (l : List Bool) (w : World) (hv : v ≤ 18446744073709551615) (hl : l.length ≤ 1000000000000) (hW : IsW w g A l) :
  Calls Tryz.prog 90 #[.pointer (some ⟨g, 0, none⟩), .int .u64 v] w fun e w' => e = .returned (.tuple #[]) ∧ ∃ A', IsW w' g A' (l ++ [decide (v % 2 = 1)]) ∧ Frm (g :: ob A) w w' ∧ ∀ x ∈ ob A', x ∈ ob A ∨ w.heap.size ≤ x := by
 obtain ⟨c, hb, ho⟩ := hW
 have hpl := cQ l
 have hgA := ho.ne_blk hb jd
 have hlt := hb.lt
 refine VC.calls (nt := 48) (res := #[]) Tryz.func90 rfl Tryz.ntmps90 Tryz.results90 rfl ?_
 refine jS (jS (jR (jm rfl (je (Run.nilck rfl) (jf rfl zbv rfl zd (jl rfl zg (hb.cell 1) (jb rfl rfl (Bin.remN _ 8 jo) (jb rfl rfl (Bin.eqlN _ 0) (jO (jN (jv3 0 1 9 ?_)))))))))))
 refine VC.meet (σ := Option Addr × Nat) (fun s => [(0, .pointer (some ⟨g, 0, none⟩)), (1, .int .u64 v)]) (fun s wr => Blk wr g 154 #[.slice s.1 (l.length / 8 + 1) s.2, .int .i64 ((l.length : Nat) : Int)] ∧ Own wr 5 1 s.1 (l.length / 8 + 1) s.2 (NB (gM l)) ∧ Frm (g :: ob A) w wr ∧ ∀ x ∈ ob s.1, x ∈ ob A ∨ w.heap.size ≤ x) ?_ ?_
 ·
  refine jD rfl (fun hc1 => ?_) fun hc1 => ?_
  ·
   refine jR (jm rfl (jm rfl (je (Run.nilck rfl) (jf rfl zbv rfl zl (jl rfl zt (hb.cell 0) ?_)))))
   refine Ops.m (qJ.buildS1 rfl ze zad tU jd jd rfl rfl) rfl ?_
   rintro _ w1 ⟨rfl, hF⟩
   have ho1 := ho.frm hF.frm jp
   have hrd1 : Rd w1 1 (some ⟨w.heap.size, 0, none⟩) 1 (NB [0]) := Rd.of_blk hF.blk rfl
   refine Ops.m (qJ.app rfl rfl ze (dD) rfl jd ho1 hrd1 (dH [0]) jo jo) rfl ?_
   rintro _ w2 ⟨A2, c2, rfl, ho2, hfr2, hob2⟩
   have hb2 := (hb.frm hF.frm jp).frm hfr2 hgA
   refine je (Run.nilck rfl) (jf rfl zbv rfl zl ?_)
   refine Ops.st (qR.store rfl rfl zl hb2 rfl rfl) ?_
   rintro w3 ⟨hb3, hfr3, hsz3⟩
   refine jO ?_
   refine jN ⟨(A2, c2), (js2 rfl rfl), ?_⟩
   have h8 : l.length % 8 = 0 := hc1
   have hn : (qL l).length + 1 = l.length / 8 + 1 := jo
   have ho3 := ho2.frm hfr3 (by
    have hne := ho2.ne_blk hb2 jd
    intro x hx hx2
    simp at hx2
    subst hx2
    exact hne hx)
   have hp : NB (qL l) ++ NB [0] = NB (gM l) := by rw [← eA]; unfold gM; rw [if_pos h8]
   rw [hp, hn] at ho3
   rw [hn] at hb3
   refine ⟨hb3, ho3, ?_, ?_⟩
   · refine ((hF.frm.mono (T := g :: ob A) jp).trans hfr2 (fun x hx => .inl (by simp [hx]))).trans hfr3 (fun x hx => .inl (by simp at hx; simp [hx]))
   intro x hx
   rcases hob2 with h | h <;> rw [h] at hx
   · exact .inl hx
   right; have := hF.size; simp at hx; omega
  refine jQ ?_
  refine jN ⟨(A, c), (js2 rfl rfl), ?_⟩
  have h8 : ¬ l.length % 8 = 0 := hc1
  have hn : (qL l).length = l.length / 8 + 1 := jo
  have hp : qL l = gM l := by unfold gM; rw [if_neg h8]
  rw [hp] at ho hb
  rw [← hp, hn] at hb
  rw [← hp, hn, hp] at ho
  exact ⟨hb, ho, Frm.refl _ _, fun x hx => .inl hx⟩
 rintro ⟨A1, c1⟩ wr ⟨hb1, ho1, hfr1, hA1⟩ Γ hΓ
 dsimp only at hb1 ho1 hfr1 hA1 hΓ
 have hpw := qQ5 l
 obtain ⟨ad, rfl, hadlt, hadc⟩ := ho1.rd.2 jo
 have hcell := hadc _ _ (oD (gM l) (l.length / 8) jo)
 have holt := qPn l
 have h2 : v &&& 1 = v % 2 := Nat.and_one_is_mod v
 refine jN (VC.sub _ hΓ (jS ?_))
 refine VC.tail 22 jK jK ?_
 simp only [zac, zdo, zdr, zcd]
 refine qM ?_
 refine qE (Run.nilck rfl) ?_
 refine qE (Run.fieldAddr rfl zbv rfl zl jd) ?_
 refine qE (Run.load rfl zt (hb1.cell 0)) ?_
 refine qM ?_
 refine qE (Run.nilck rfl) ?_
 refine qE (Run.fieldAddr rfl zbv rfl zd jd) ?_
 refine qE (Run.load rfl zg (hb1.cell 1)) ?_
 refine qE (Run.bin rfl rfl (Bin.quo_i64 _ 8 jo jo)) ?_
 refine qE (Run.index1 _ rfl rfl ze zad jo) ?_
 refine qE (Run.load rfl zdn hcell) ?_
 refine qM ?_
 refine qE (Run.bin rfl rfl (Bin.and_u64 _ 1 hv jo)) ?_
 refine qE (Run.conv8 _ rfl zab zbh) ?_
 refine qM ?_
 refine qE (Run.nilck rfl) ?_
 refine qE (Run.fieldAddr rfl zbv rfl zd jd) ?_
 refine qE (Run.load rfl zg (hb1.cell 1)) ?_
 refine qE (Run.bin rfl rfl (Bin.remN _ 8 jo)) ?_
 refine qE (Run.bin rfl rfl (Bin.shl8 _ _ jo)) ?_
 refine qE (Run.bin rfl rfl (Bin.or_u8 _ _ jo jo)) ?_
 refine qE (Run.index1 _ rfl rfl ze zad jo) ?_
 refine qW.nil ?_
 refine Ops.st (qR.storeOwn _ rfl rfl zad (ho1.drawn (qQ.drew _)) rfl jo rfl) ?_
 rintro w4 ⟨ho4, hfr4, hsz4⟩
 have hb4 := (hb1.drawn (qQ.drew _)).frm hfr4 (ho1.ne_blk hb1 jd)
 refine jO (jN (jv1 0 ?_))
 refine jR (jm rfl (je (Run.nilck rfl) (jf rfl zbv rfl zd (jl rfl zg (hb4.cell 1) (jb rfl rfl (Bin.add_i64 _ 1 jo) (je (Run.nilck rfl) (jf rfl zbv rfl zd ?_)))))))
 refine Ops.st (qR.store rfl rfl zd hb4 rfl rfl) ?_
 rintro w5 ⟨hb5, hfr5, hsz5⟩
 refine jO ?_
 refine eV ?_
 refine ⟨rfl, some ad, ⟨c1, ?_, ?_⟩, ?_, hA1⟩
 ·
  have hp := cQ (l ++ [decide (v % 2 = 1)])
  simp only [zb, List.length_singleton] at hp
  rw [show (qL (l ++ [decide (v % 2 = 1)])).length = l.length / 8 + 1 by omega]
  rw [zb]
  exact hb5
 ·
  have hbit : (v &&& 1) % 256 = (decide (v % 2 = 1)).toNat := by
   rw [h2]
   rcases zdl v with h | h <;> simp [h]
  rw [hbit] at ho4
  have e : (NB (gM l)).set (l.length / 8) (.int .u8 (((gM l).getD (l.length / 8) 0 ||| (decide (v % 2 = 1)).toNat * 2 ^ (l.length % 8) % 256 : Nat) : Int)) = NB (qL (l ++ [decide (v % 2 = 1)])) := by
   rw [qW2, qR4]
  rw [e] at ho4
  have hp := cQ (l ++ [decide (v % 2 = 1)])
  simp only [zb, List.length_singleton] at hp
  rw [show (qL (l ++ [decide (v % 2 = 1)])).length = l.length / 8 + 1 by omega]
  exact ho4.frm hfr5 (by
   have hne := ho4.ne_blk hb4 jd
   intro x hx hx2
   simp at hx2
   subst hx2
   exact hne hx)
 refine ((hfr1.drawn (qQ.drew _)).trans hfr4 (fun x hx => ?_)).trans hfr5 (fun x hx => .inl (by simp at hx; simp [hx]))
 rcases hA1 x hx with h | h
 · exact .inl (by simp [h])
 exact .inr h
theorem gQ (g v n : Nat) (A : Option Addr) (l : List Bool) (w : World) (hv : v < 2 ^ n) (hn : n ≤ 32) (hl : l.length ≤ 1000000000) (hW : IsW w g A l) :
  Calls Tryz.prog 51 #[.pointer (some ⟨g, 0, none⟩), .int .u64 v, .int .i64 n] w fun e w' => e = .returned (.int .i64 ((0 : Nat) : Int)) ∧ ∃ A', IsW w' g A' (l ++ bitsL v n) ∧ Frm (g :: ob A) w w' ∧ ∀ x ∈ ob A', x ∈ ob A ∨ w.heap.size ≤ x := by
 have hpow : 2 ^ n ≤ 2 ^ 32 := zae jo hn
 have hv64 : v ≤ 18446744073709551615 := jo
 have he := yB v n hn hv
 refine VC.calls (nt := 25) (res := #[.tmp 6]) Tryz.func51 rfl Tryz.ntmps51 Tryz.results51 rfl ?_
 refine jS (jR (jz 0 (jO (jN (jv3 0 1 2 ?_)))))
 refine jS (jS (jR (jm rfl (jM ?_))))
 refine Ops.cl (jE2 Tryz.call89) (wZ v n _ hv64) rfl ?_
 rintro e w1 ⟨rfl, rfl⟩
 refine ⟨_, rfl, ?_⟩
 rw [he]
 refine ja rfl (jO (jN (jv4 0 1 2 7 ?_)))
 refine jS (jR (jm rfl (jb rfl rfl (Bin.neqN _ 0) (jO (jN (jv5 0 1 2 7 13 ?_))))))
 refine VC.condF rfl (rfl) ?_
 refine jQ (jN (jv3 0 1 2 ?_))
 refine jS (jS (jR (jM ?_)))
 refine jx .i64 0 ?_
 refine jO (jN (jv4 0 1 15 16 ?_))
 refine jB ?_
 refine VC.loop (σ := Nat × Option Addr) (fun s => [(0, .pointer (some ⟨g, 0, none⟩)), (1, .int .u64 v), (15, .int .i64 n), (16, .int .i64 s.1)]) (fun s wr => s.1 ≤ n ∧ IsW wr g s.2 (l ++ bitsL v s.1) ∧ Frm (g :: ob A) w wr ∧ ∀ x ∈ ob s.2, x ∈ ob A ∨ w.heap.size ≤ x) (fun s => n - s.1) (0, A) (js4 rfl rfl rfl rfl) ⟨jo, by simpa [bitsL] using hW, Frm.refl _ _, fun x hx => .inl hx⟩ ?_
 rintro ⟨k, A1⟩ wr ⟨hk, hW1, hfr1, hA1⟩
 dsimp only at hk hW1 hfr1 hA1 ⊢
 refine jS (jR (jb rfl rfl (Bin.lssN _ _) (jO (jN (jS ?_)))))
 refine jD rfl (fun hc2 => ?_) fun hc2 => ?_
 ·
  refine jQ (jN (jv4 0 1 15 16 ?_))
  refine jS (jB (jS (jR (jm rfl (ja rfl (jO (jN (jv5 0 1 8 15 16 ?_))))))))
  refine jR (jm rfl (jm rfl (jm rfl (jb rfl rfl (Bin.shr_u64 _ _ hv64) ?_))))
  refine Ops.cl (jE2 Tryz.call90) (qH0 g (v / 2 ^ k) A1 (l ++ bitsL v k) _ (zo (zcs _ _) hv64) (by rw [zb, qH]; omega) hW1) rfl ?_
  rintro e w2 ⟨rfl, A2, hW2, hfr2, hA2⟩
  refine ⟨_, rfl, ?_⟩
  refine jO ?_
  refine qK (jN ?_)
  refine jv4 0 1 15 16 ?_
  refine jR (jb rfl rfl (Bin.add_i64 _ 1 jo) (jm rfl (jO ?_)))
  refine jN ⟨(k + 1, A2), (js4 rfl rfl rfl rfl), ?_, ?_⟩
  ·
   refine ⟨hc2, ?_, ?_, ?_⟩
   · rw [zj, ← qK6] at hW2; exact hW2
   ·
    refine hfr1.trans hfr2 (fun x hx => ?_)
    rcases zcq.1 hx with rfl | hx
    · exact .inl jp
    rcases hA1 x hx with h | h
    · exact .inl (by simp [h])
    exact .inr h
   intro x hx
   rcases hA2 x hx with h | h
   · exact hA1 x h
   have := hfr1.size; right; omega
  first | omega | (dsimp only; omega)
 refine jX ?_
 refine qZ (qZ (qP ?_))
 refine jN ?_
 refine VC.sub [] .nil ?_
 refine jS (jR (jz 0 (jO (jN (jT ?_)))))
 refine qC rfl ?_
 have : k = n := jo
 subst this
 exact ⟨rfl, A1, hW1, hfr1, hA1⟩
theorem qW3 (x : Nat) (w : World) (hx : x ≤ 18446744073709551615) :
  Calls Tryz.prog 145 #[.int .u64 x] w fun e w' => e = .returned (.int .u64 ((((cZ 16 281470681808895 (cZ 8 71777214294589695 x)) / 2 ^ 32) ||| ((cZ 16 281470681808895 (cZ 8 71777214294589695 x)) * 2 ^ 32 % 18446744073709551616) : Nat) : Int)) ∧ w = w' := by
 refine VC.calls (nt := 22) (res := #[.tmp 2]) Tryz.func145 rfl Tryz.ntmps145 Tryz.results145 rfl ?_
 refine jS (jR ?_)
 refine jy .u64 0 ?_
 refine jO (jN (jv1 0 ?_))
 refine jS (jR (jm rfl (jb rfl rfl (Bin.shr_u64 _ 8 hx) (jb rfl rfl (Bin.and_u64 _ 71777214294589695 (zo (zcs _ _) hx) jo) (jm rfl (jb rfl rfl (Bin.and_u64 _ 71777214294589695 hx jo) (jb rfl rfl (Bin.shlU _ 8) (jb rfl rfl (Bin.or_u64 _ _ (zo zei jo) jo) ?_))))))))
 have hx := lK 8 71777214294589695 (x) jo
 refine ja rfl (jO (jN (jv1 0 ?_)))
 refine jS (jR (jm rfl (jb rfl rfl (Bin.shr_u64 _ 16 hx) (jb rfl rfl (Bin.and_u64 _ 281470681808895 (zo (zcs _ _) hx) jo) (jm rfl (jb rfl rfl (Bin.and_u64 _ 281470681808895 hx jo) (jb rfl rfl (Bin.shlU _ 16) (jb rfl rfl (Bin.or_u64 _ _ (zo zei jo) jo) ?_))))))))
 have hx := lK 16 281470681808895 (cZ 8 71777214294589695 x) jo
 refine ja rfl (jO (jN (jv1 0 ?_)))
 refine jS (jR (jm rfl (jb rfl rfl (Bin.shr_u64 _ 32 hx) (jm rfl (jb rfl rfl (Bin.shlU _ 32) (jb rfl rfl (Bin.or_u64 _ _ (zo (zcs _ _) hx) jo) (ja rfl (jO (jN (jv1 2 ?_))))))))))
 refine jT ?_
 refine qC rfl ?_
 exact ⟨rfl, rfl⟩
theorem qH1 (x : Nat) (w : World) (hx : x ≤ 18446744073709551615) :
  Calls Tryz.prog 140 #[.int .u64 x] w fun e w' => e = .returned (.int .u64 ((rev64 x : Nat) : Int)) ∧ w = w' := by
 refine VC.calls (nt := 26) (res := #[.tmp 2]) Tryz.func140 rfl Tryz.ntmps140 Tryz.results140 rfl ?_
 refine jS (jR ?_)
 refine jy .u64 0 ?_
 refine jO (jN (jv1 0 ?_))
 refine jS (jR (jm rfl (jb rfl rfl (Bin.shr_u64 _ 1 hx) (jb rfl rfl (Bin.and_u64 _ 6148914691236517205 (zo (zcs _ _) hx) jo) (jm rfl (jb rfl rfl (Bin.and_u64 _ 6148914691236517205 hx jo) (jb rfl rfl (Bin.shlU _ 1) (jb rfl rfl (Bin.or_u64 _ _ (zo zei jo) jo) ?_))))))))
 have hx := lK 1 6148914691236517205 (x) jo
 refine ja rfl (jO (jN (jv1 0 ?_)))
 refine jS (jR (jm rfl (jb rfl rfl (Bin.shr_u64 _ 2 hx) (jb rfl rfl (Bin.and_u64 _ 3689348814741910323 (zo (zcs _ _) hx) jo) (jm rfl (jb rfl rfl (Bin.and_u64 _ 3689348814741910323 hx jo) (jb rfl rfl (Bin.shlU _ 2) (jb rfl rfl (Bin.or_u64 _ _ (zo zei jo) jo) ?_))))))))
 have hx := lK 2 3689348814741910323 (cZ 1 6148914691236517205 x) jo
 refine ja rfl (jO (jN (jv1 0 ?_)))
 refine jS (jR (jm rfl (jb rfl rfl (Bin.shr_u64 _ 4 hx) (jb rfl rfl (Bin.and_u64 _ 1085102592571150095 (zo (zcs _ _) hx) jo) (jm rfl (jb rfl rfl (Bin.and_u64 _ 1085102592571150095 hx jo) (jb rfl rfl (Bin.shlU _ 4) (jb rfl rfl (Bin.or_u64 _ _ (zo zei jo) jo) ?_))))))))
 have hx := lK 4 1085102592571150095 (cZ 2 3689348814741910323 (cZ 1 6148914691236517205 x)) jo
 refine ja rfl (jO (jN (jv1 0 ?_)))
 refine jS (jR (jM ?_))
 refine Ops.cl (jE1 Tryz.call145) (qW3 (cZ 4 1085102592571150095 (cZ 2 3689348814741910323 (cZ 1 6148914691236517205 x))) _ hx) rfl ?_
 rintro e w1 ⟨rfl, rfl⟩
 refine ⟨_, rfl, ?_⟩
 refine ja rfl (jO (jN (jv1 2 ?_)))
 refine jT ?_
 refine qC rfl ?_
 exact ⟨rfl, rfl⟩
theorem qW4 (g v n : Nat) (A : Option Addr) (l : List Bool) (w : World) (hv : v < 2 ^ n) (hn : n ≤ 32) (hl : l.length ≤ 1000000000) (hW : IsW w g A l) :
  Calls Tryz.prog 122 #[.pointer (some ⟨g, 0, none⟩), .int .u64 v, .int .i64 n] w fun e w' => e = .returned (.int .i64 ((0 : Nat) : Int)) ∧ ∃ A', IsW w' g A' (l ++ (bitsL v n).reverse) ∧ Frm (g :: ob A) w w' ∧ ∀ x ∈ ob A', x ∈ ob A ∨ w.heap.size ≤ x := by
 have hpow : 2 ^ n ≤ 2 ^ 32 := zae jo hn
 have hpos := zfm n
 have hv64 : v ≤ 18446744073709551615 := jo
 have he := yB v n hn hv
 have hrl := qHr v
 have hrd : rev64 v / 2 ^ (64 - n) ≤ 18446744073709551615 := zo (zcs _ _) hrl
 refine VC.calls (nt := 26) (res := #[.tmp 6]) Tryz.func122 rfl Tryz.ntmps122 Tryz.results122 rfl ?_
 refine jS (jR (jz 0 (jO (jN (jv3 0 1 2 ?_)))))
 refine jS (jS (jR (jm rfl (jM ?_))))
 refine Ops.cl (jE2 Tryz.call89) (wZ v n _ hv64) rfl ?_
 rintro e w1 ⟨rfl, rfl⟩
 refine ⟨_, rfl, ?_⟩
 rw [he]
 refine ja rfl (jO (jN (jv4 0 1 2 7 ?_)))
 refine jS (jR (jm rfl (jb rfl rfl (Bin.neqN _ 0) (jO (jN (jv5 0 1 2 7 12 ?_))))))
 refine VC.condF rfl (rfl) ?_
 refine jQ (jN (jv3 0 1 2 ?_))
 refine jS ?_
 refine VC.tail 11 jK jK ?_
 simp only [zac, zdo, zdr, zcd]
 refine qM ?_
 refine qM ?_
 refine qW.call (jE1 Tryz.call140) (qH1 v _ hv64) trivial rfl rfl ?_
 refine qM ?_
 refine qE (Run.bin rfl rfl (Bin.sub_i64 64 _ jo jo)) ?_
 refine qE (Run.bin rfl rfl (Bin.shr_u64 _ _ hrl)) ?_
 refine qM ?_
 refine qW.r (v := .int .u64 ((2 ^ n : Nat) : Int)) (Run.bin rfl rfl (by have := Bin.shl_u64 (k' := .i64) 1 n jo jo; rwa [zfs] at this)) rfl ?_
 refine qE (Run.bin rfl rfl (Bin.sub_u64 _ 1 jo jo)) ?_
 refine qE (Run.bin rfl rfl (Bin.and_u64 _ _ hrd jo)) ?_
 refine qM ?_
 refine qW.nil ?_
 refine Ops.cl (jE3 zea) (gQ g (turn v n) n A l _ (qPl v n) hn hl (hW.frm (qQ.drew _).frm jp)) rfl ?_
 rintro e w2 ⟨rfl, A2, hW2, hfr2, hA2⟩
 refine ⟨_, rfl, ?_⟩
 refine ja rfl (jO (jN (jv1 6 ?_)))
 refine jT ?_
 refine qC rfl ?_
 rw [qWu v n jo] at hW2
 exact ⟨rfl, A2, hW2, ((qQ.drew _).frm.mono jp).trans hfr2 (fun x hx => .inl hx), hA2⟩
theorem qQ6 (g c0 : Nat) (A B : Option Addr) (l : List Bool) (bs : List Nat) (w : World) (hl : l.length ≤ 1000000000) (hbs : bs.length ≤ 1000000000) (hB : ∀ b ∈ bs, b < 256) (hW : IsW w g A l) (hr : Rd w 1 B bs.length (NB bs)) :
  Calls Tryz.prog 53 #[.pointer (some ⟨g, 0, none⟩), .slice B bs.length c0] w fun e w' => e = .returned (.tuple #[]) ∧ ∃ A', IsW w' g A' (fU l ++ ofB bs) ∧ Frm (g :: ob A) w w' ∧ ∀ x ∈ ob A', x ∈ ob A ∨ w.heap.size ≤ x := by
 obtain ⟨c, hb, ho⟩ := hW
 have hpl := cQ l
 have hgA := ho.ne_blk hb jd
 have hp : qL (fU l ++ ofB bs) = qL l ++ bs := by rw [jV _ _ (by rw [nC]; omega), vF, qQ2 bs hB]
 have hlen : (fU l ++ ofB bs).length = 8 * ((qL l).length + bs.length) := by rw [zb, nC, cW, hpl]; omega
 refine VC.calls (nt := 22) (res := #[]) Tryz.func53 rfl Tryz.ntmps53 Tryz.results53 rfl ?_
 refine jS (jR (jm rfl (jm rfl (je (Run.nilck rfl) (jf rfl zbv rfl zl (jl rfl zt (hb.cell 0) (jM ?_)))))))
 refine Ops.m (qJ.app rfl rfl ze (dD) rfl jd ho hr (dH bs) jo jo) rfl ?_
 rintro _ w1 ⟨A1, c1, rfl, ho1, hfr1, hob1⟩
 have hb1 := hb.frm hfr1 hgA
 refine je (Run.nilck rfl) (jf rfl zbv rfl zl ?_)
 refine Ops.st (qR.store rfl rfl zl hb1 rfl rfl) ?_
 rintro w2 ⟨hb2, hfr2, hsz2⟩
 refine jO (jN (jv1 0 ?_))
 refine jR (jm rfl (jm rfl (je (Run.nilck rfl) (jf rfl zbv rfl zl (jl rfl zt (hb2.cell 0) (je (Run.lenS rfl ze) (jb rfl rfl (Bin.mul_i64 8 _ jo) (je (Run.nilck rfl) (jf rfl zbv rfl zd ?_)))))))))
 refine Ops.st (qR.store rfl rfl zd hb2 rfl rfl) ?_
 rintro w3 ⟨hb3, hfr3, hsz3⟩
 refine jO ?_
 refine eV ?_
 have hne : ∀ x ∈ ob A1, x ∉ [g] := by
  intro x hx hx2
  simp at hx2
  subst hx2
  exact ho1.ne_blk hb1 jd hx
 refine ⟨rfl, A1, ⟨c1, ?_, ?_⟩, ?_, ?_⟩
 · rw [hp, hlen, zb]; exact hb3
 · rw [hp, zb, eA]; exact (ho1.frm hfr2 hne).frm hfr3 hne
 · exact ((hfr1.mono (T := g :: ob A) (fun x hx => .inl (by simp [hx]))).trans hfr2 (fun x hx => .inl (by simp at hx; simp [hx]))).trans hfr3 (fun x hx => .inl (by simp at hx; simp [hx]))
 intro x hx
 rcases hob1 with h | h <;> rw [h] at hx
 · exact .inl hx
 right; simp at hx; omega
theorem pH (g : Nat) (A : Option Addr) (l : List Bool) (w : World) (hl : l.length ≤ 1000000000000) (hW : IsW w g A l) :
  Calls Tryz.prog 54 #[.pointer (some ⟨g, 0, none⟩)] w fun e w' => ∃ B c, e = .returned (.slice B (qL l).length c) ∧ Own w' 5 1 B (qL l).length c (NB (qL l)) ∧ Frm [] w w' ∧ ∀ x ∈ ob B, w.heap.size ≤ x := by
 obtain ⟨c, hb, ho⟩ := hW
 have hpl := cQ l
 refine VC.calls (nt := 8) (res := #[.tmp 2]) Tryz.func54 rfl Tryz.ntmps54 Tryz.results54 rfl ?_
 refine jS (jR (ja rfl (jO (jN (jv1 0 ?_)))))
 refine jS (jR (jm rfl (je (Run.nilck rfl) (jf rfl zbv rfl zl (jl rfl zt (hb.cell 0) ?_)))))
 refine Ops.m (qJ.app rfl rfl ze (dD) rfl jd (Own.nil _ _ _) ho.rd (dH _) jo jo) rfl ?_
 rintro _ w1 ⟨A1, c1, rfl, ho1, hfr1, hob1⟩
 refine ja rfl (jO (jN (jv1 2 ?_)))
 refine jT ?_
 refine qC rfl ?_
 rw [zan, zbo] at ho1
 refine ⟨A1, c1, by rw [zan], ho1, hfr1, ?_⟩
 intro x hx
 rcases hob1 with h | h <;> rw [h] at hx <;> simp [ob] at hx
 omega
theorem qW5 (B : Option Addr) (c0 : Nat) (bs : List Nat) (w : World) (hbs : bs.length ≤ 1000000000) (hr : Rd w 1 B bs.length (NB bs)) :
  Calls Tryz.prog 85 #[.slice B bs.length c0] w fun e w' => ∃ g A, e = .returned (.pointer (some ⟨g, 0, none⟩)) ∧ IsR w' g A bs 0 ∧ Frm [] w w' ∧ ∀ x ∈ g :: ob A, w.heap.size ≤ x := by
 refine VC.calls (nt := 7) (res := #[.tmp 2]) Tryz.func85 rfl Tryz.ntmps85 Tryz.results85 rfl ?_
 refine jS (jR (ja rfl (jO (jN (jv1 0 ?_)))))
 refine jS (jR (jM ?_))
 refine Ops.m (qJ.app rfl rfl ze (dD) rfl jd (Own.nil _ _ _) hr (dH _) jo jo) rfl ?_
 rintro _ w1 ⟨A1, c1, rfl, ho1, hfr1, hob1⟩
 rw [zan, zbo] at ho1
 rw [zan]
 refine je (Run.build (evs.cons rfl evs.nil) qPh (yR).choose_spec.1 (yR).choose_spec.2 rfl) ?_
 refine Ops.m (qJ.box rfl) rfl ?_
 rintro _ w2 ⟨rfl, hF⟩
 refine ja rfl (jO (jN (jv1 2 ?_)))
 refine jT ?_
 refine qC rfl ?_
 refine ⟨w1.heap.size, A1, rfl, ⟨c1, hF.blk, ho1.frm hF.frm jp⟩, hfr1.trans hF.frm jp, ?_⟩
 intro x hx
 rcases zcq.1 hx with rfl | hx
 · exact hfr1.size
 rcases hob1 with h | h <;> rw [h] at hx <;> simp [ob] at hx
 omega
theorem qPo (g p : Nat) (A : Option Addr) (bs : List Nat) (w : World) (hR : IsR w g A bs p) :
  Calls Tryz.prog 87 #[.pointer (some ⟨g, 0, none⟩)] w fun e w' => e = .returned (.int .i64 ((p : Nat) : Int)) ∧ w = w' := by
 obtain ⟨c, hb, ho⟩ := hR
 refine VC.calls (nt := 7) (res := #[.tmp 2]) Tryz.func87 rfl Tryz.ntmps87 Tryz.results87 rfl ?_
 refine jS (jR (jz 0 (jO (jN (jv1 0 ?_)))))
 refine jS (jR (jm rfl (je (Run.nilck rfl) (jf rfl zbp rfl zd (jl rfl zg (hb.cell 1) (ja rfl (jO (jN (jv1 2 ?_)))))))))
 refine jT ?_
 refine qC rfl ?_
 exact ⟨rfl, rfl⟩
theorem nD (g p : Nat) (A : Option Addr) (bs : List Nat) (w : World) (hp : p ≤ 8 * bs.length) (hbs : bs.length ≤ 1000000000) (hR : IsR w g A bs p) :
  Calls Tryz.prog 143 #[.pointer (some ⟨g, 0, none⟩)] w fun e w' => e = .returned (.int .i64 ((8 * bs.length - p : Nat) : Int)) ∧ qQ w w' := by
 obtain ⟨c, hb, ho⟩ := hR
 refine VC.calls (nt := 14) (res := #[.tmp 2]) Tryz.func143 rfl Tryz.ntmps143 Tryz.results143 rfl ?_
 refine jS (jR (jz 0 (jO (jN (jv1 0 ?_)))))
 refine jS ?_
 refine VC.still jK jK ?_
 refine qM ?_
 refine qE (Run.nilck rfl) ?_
 refine qE (Run.fieldAddr rfl zbp rfl zl jd) ?_
 refine qE (Run.load rfl zt (hb.cell 0)) ?_
 refine qE (Run.lenS rfl ze) ?_
 refine qE (Run.bin rfl rfl (Bin.mul_i64 8 _ jo)) ?_
 refine qM ?_
 refine qE (Run.nilck rfl) ?_
 refine qE (Run.fieldAddr rfl zbp rfl zd jd) ?_
 refine qE (Run.load rfl zg (hb.cell 1)) ?_
 refine qE (Run.bin rfl rfl (Bin.sub_i64 _ _ jo jo)) ?_
 refine qA ?_
 refine qW.nil ?_
 refine jN (jv1 2 ?_)
 refine jT ?_
 refine qC rfl ?_
 exact ⟨rfl, qQ.drew _⟩
theorem mH (g p : Nat) (A : Option Addr) (bs : List Nat) (w : World) (hp : p ≤ 8 * bs.length) (hbs : bs.length ≤ 1000000000) (hR : IsR w g A bs p) :
  Calls Tryz.prog 133 #[.pointer (some ⟨g, 0, none⟩)] w fun e w' => e = .returned (.tuple #[]) ∧ IsR w' g A bs ((p + 7) / 8 * 8) ∧ Frm [g] w w' := by
 obtain ⟨c, hb, ho⟩ := hR
 refine VC.calls (nt := 12) (res := #[]) Tryz.func133 rfl Tryz.ntmps133 Tryz.results133 rfl ?_
 refine jR (jm rfl (jm rfl (je (Run.nilck rfl) (jf rfl zbp rfl zd (jl rfl zg (hb.cell 1) (jb rfl rfl (Bin.add_i64 _ 7 jo) (jb rfl rfl (Bin.quo_i64 _ 8 jo jo) (jb rfl rfl (Bin.mul_i64 _ 8 jo) (je (Run.nilck rfl) (jf rfl zbp rfl zd ?_))))))))))
 refine Ops.st (qR.store rfl rfl zd hb rfl rfl) ?_
 rintro w1 ⟨hb1, hfr1, hsz1⟩
 refine jO ?_
 refine eV ?_
 refine ⟨rfl, ⟨c, hb1, ho.frm hfr1 ?_⟩, hfr1⟩
 intro x hx hx2
 simp at hx2
 subst hx2
 exact ho.ne_blk hb jd hx
theorem qH2 (g : Nat) (n : Int) (w : World) (hn : n < 0) :
  Calls Tryz.prog 131 #[.pointer (some ⟨g, 0, none⟩), .int .i64 n] w fun e w' => e = .returned (.tuple #[.int .u64 ((0 : Nat) : Int), .int .i64 ((1 : Nat) : Int)]) ∧ w = w' := by
 refine VC.calls (nt := 56) (res := #[.tmp 4, .tmp 5]) Tryz.func131 rfl Tryz.ntmps131 Tryz.results131 rfl ?_
 refine jS (jR ?_)
 refine jy .u64 0 ?_
 refine jz 0 (jO (jN (jv2 0 1 ?_)))
 refine jS (jB (jS (jR (jm rfl (jb rfl rfl (Bin.lss _ 0) (jM ?_))))))
 refine Ops.sk rfl (by simpa using hn) rfl ?_
 refine Ops.sk rfl (by simpa using hn) rfl ?_
 refine je (Run.pickT rfl rfl (decide_eq_true hn)) (ja rfl (jO (jN (jv3 0 1 8 ?_))))
 refine VC.condT rfl (rfl) ?_
 refine jS (jR ?_)
 refine jy .u64 0 ?_
 refine jz 1 (jO (jN (jv2 4 5 ?_)))
 refine jT ?_
 refine qD (qN (cG rfl rfl ?_))
 exact ⟨rfl, rfl⟩
theorem qH3 (g : Nat) (n : Int) (w : World) (hn : 32 < n) :
  Calls Tryz.prog 131 #[.pointer (some ⟨g, 0, none⟩), .int .i64 n] w fun e w' => e = .returned (.tuple #[.int .u64 ((0 : Nat) : Int), .int .i64 ((1 : Nat) : Int)]) ∧ w = w' := by
 refine VC.calls (nt := 56) (res := #[.tmp 4, .tmp 5]) Tryz.func131 rfl Tryz.ntmps131 Tryz.results131 rfl ?_
 refine jS (jR ?_)
 refine jy .u64 0 ?_
 refine jz 0 (jO (jN (jv2 0 1 ?_)))
 refine jS (jB (jS (jR (jm rfl (jb rfl rfl (Bin.lss _ 0) (jM ?_))))))
 refine Ops.rg rfl (decide_eq_false jo) (Run.mv rfl) rfl ?_
 refine Ops.rg rfl (decide_eq_false jo) (Run.bin rfl rfl (Bin.gtr _ 32)) rfl ?_
 refine je (Run.pickF rfl rfl (decide_eq_false jo)) (ja rfl (jO (jN (jv3 0 1 8 ?_))))
 refine VC.condT rfl (decide_eq_true hn) ?_
 refine jS (jR ?_)
 refine jy .u64 0 ?_
 refine jz 1 (jO (jN (jv2 4 5 ?_)))
 refine jT ?_
 refine qD (qN (cG rfl rfl ?_))
 exact ⟨rfl, rfl⟩
theorem qVa (g n p : Nat) (A : Option Addr) (bs : List Nat) (w : World) (hp : p ≤ 8 * bs.length) (hbs : bs.length ≤ 1000000000) (hR : IsR w g A bs p) (hn : n ≤ 32) (hs : 8 * bs.length - p < n) :
  Calls Tryz.prog 131 #[.pointer (some ⟨g, 0, none⟩), .int .i64 n] w fun e w' => e = .returned (.tuple #[.int .u64 ((0 : Nat) : Int), .int .i64 ((2 : Nat) : Int)]) ∧ qQ w w' := by
 refine VC.calls (nt := 56) (res := #[.tmp 4, .tmp 5]) Tryz.func131 rfl Tryz.ntmps131 Tryz.results131 rfl ?_
 refine jS (jR ?_)
 refine jy .u64 0 ?_
 refine jz 0 (jO (jN (jv2 0 1 ?_)))
 refine jS (jB (jS (jR (jm rfl (jb rfl rfl (Bin.lssN _ 0) (jM ?_))))))
 refine Ops.rg rfl (decide_eq_false jo) (Run.mv rfl) rfl ?_
 refine Ops.rg rfl (decide_eq_false jo) (Run.bin rfl rfl (Bin.gtrN _ 32)) rfl ?_
 refine je (Run.pickF rfl rfl (decide_eq_false jo)) (ja rfl (jO (jN (jv3 0 1 8 ?_))))
 refine VC.condF rfl (decide_eq_false jo) ?_
 refine jS (jR (jm rfl (jM ?_)))
 refine Ops.cl (jE1 Tryz.call143) (nD g p A bs _ hp hbs hR) rfl ?_
 rintro e w1 ⟨rfl, hd1⟩
 refine ⟨_, rfl, ?_⟩
 refine jb rfl rfl (Bin.gtrN _ _) (ja rfl (jO (jN (jv3 0 1 15 ?_))))
 refine VC.condT rfl (decide_eq_true hs) ?_
 refine jS (jR ?_)
 refine jy .u64 0 ?_
 refine jz 2 (jO (jN (jv2 4 5 ?_)))
 refine jT ?_
 refine qD (qN (cG rfl rfl ?_))
 exact ⟨rfl, hd1⟩
theorem qPp (g n p : Nat) (A : Option Addr) (bs : List Nat) (w : World) (hp : p ≤ 8 * bs.length) (hbs : bs.length ≤ 1000000000) (hB : ∀ b ∈ bs, b < 256) (hR : IsR w g A bs p) (hn : n ≤ 32) (hs : n ≤ 8 * bs.length - p) :
  Calls Tryz.prog 131 #[.pointer (some ⟨g, 0, none⟩), .int .i64 n] w fun e w' => e = .returned (.tuple #[.int .u64 ((num (((ofB bs).drop p).take n) : Nat) : Int), .int .i64 ((0 : Nat) : Int)]) ∧ IsR w' g A bs (p + n) ∧ Frm [g] w w' := by
 refine VC.calls (nt := 56) (res := #[.tmp 4, .tmp 5]) Tryz.func131 rfl Tryz.ntmps131 Tryz.results131 rfl ?_
 refine jS (jR ?_)
 refine jy .u64 0 ?_
 refine jz 0 (jO (jN (jv2 0 1 ?_)))
 refine jS (jB (jS (jR (jm rfl (jb rfl rfl (Bin.lssN _ 0) (jM ?_))))))
 refine Ops.rg rfl (decide_eq_false jo) (Run.mv rfl) rfl ?_
 refine Ops.rg rfl (decide_eq_false jo) (Run.bin rfl rfl (Bin.gtrN _ 32)) rfl ?_
 refine je (Run.pickF rfl rfl (decide_eq_false jo)) (ja rfl (jO (jN (jv3 0 1 8 ?_))))
 refine VC.condF rfl (decide_eq_false jo) ?_
 refine jS (jR (jm rfl (jM ?_)))
 refine Ops.cl (jE1 Tryz.call143) (nD g p A bs _ hp hbs hR) rfl ?_
 rintro e w1 ⟨rfl, hd1⟩
 refine ⟨_, rfl, ?_⟩
 refine jb rfl rfl (Bin.gtrN _ _) (ja rfl (jO (jN (jv3 0 1 15 ?_))))
 refine VC.condF rfl (decide_eq_false jo) ?_
 refine jQ ?_
 refine qK (jN ?_)
 refine jv2 0 1 ?_
 refine jS (jR ?_)
 refine jy .u64 0 ?_
 refine jO (jN (jS (jS (jR (jM ?_)))))
 refine jx .i64 0 ?_
 refine jO (jN (jv4 0 6 20 21 ?_))
 refine jB ?_
 refine VC.loop (σ := Nat) (fun s => [(0, .pointer (some ⟨g, 0, none⟩)), (6, .int .u64 ((num (((ofB bs).drop p).take s) : Nat) : Int)), (20, .int .i64 n), (21, .int .i64 s)]) (fun s wr => s ≤ n ∧ IsR wr g A bs (p + s) ∧ Frm [g] w wr) (fun s => n - s) 0 (js4 rfl rfl rfl rfl) ⟨jo, hR.frm hd1.frm jp, hd1.frm.mono jp⟩ ?_
 rintro k wr ⟨hk, hR1, hfr1⟩
 obtain ⟨c, hb, ho⟩ := hR1
 refine jS (jR (jb rfl rfl (Bin.lssN _ _) (jO (jN (jS ?_)))))
 refine jD rfl (fun hc3 => ?_) fun hc3 => ?_
 ·
  obtain ⟨ad, rfl, hadlt, hadc⟩ := ho.rd.2 jo
  have hcell := hadc _ _ (oD bs ((p + k) / 8) jo)
  have hbl : bs.getD ((p + k) / 8) 0 < 256 := by
   rw [zc, za jo]
   exact hB _ (zw _)
  have hpk : 2 ^ k ≤ 2 ^ 32 := zae jo jo
  have hbit := qPk bs (p + k) jo
  have hnk := rL (((ofB bs).drop p).take k)
  have hnl : (((ofB bs).drop p).take k).length = k := by rw [zi, zp, cW]; omega
  rw [hnl] at hnk
  have hsn := qQm (ofB bs) p k _ hbit
  rw [← qQ1 _ _ _ hnk] at hsn
  have h1m := and1 (bs.getD ((p + k) / 8) 0 / 2 ^ ((p + k) % 8))
  have hdl : bs.getD ((p + k) / 8) 0 / 2 ^ ((p + k) % 8) ≤ 255 := zo (zcs _ _) jo
  have h1l : bs.getD ((p + k) / 8) 0 / 2 ^ ((p + k) % 8) &&& 1 ≤ 1 := zei
  have h2l : (bs.getD ((p + k) / 8) 0 / 2 ^ ((p + k) % 8) &&& 1) * 2 ^ k ≤ 1 * 2 ^ k := zcv _ h1l
  refine jQ (jN (jv4 0 6 20 21 ?_))
  refine jS (jB (jS (jR (jm rfl (ja rfl (jO (jN (jv5 0 6 7 20 21 ?_))))))))
  refine jS ?_
  refine VC.still jK jK ?_
  refine qM ?_
  refine qM ?_
  refine qE (Run.nilck rfl) ?_
  refine qE (Run.fieldAddr rfl zbp rfl zl jd) ?_
  refine qE (Run.load rfl zt (hb.cell 0)) ?_
  refine qM ?_
  refine qE (Run.nilck rfl) ?_
  refine qE (Run.fieldAddr rfl zbp rfl zd jd) ?_
  refine qE (Run.load rfl zg (hb.cell 1)) ?_
  refine qE (Run.bin rfl rfl (Bin.quo_i64 _ 8 jo jo)) ?_
  refine qE (Run.index1 _ rfl rfl ze zad jo) ?_
  refine qE (Run.load rfl zdn hcell) ?_
  refine qM ?_
  refine qE (Run.nilck rfl) ?_
  refine qE (Run.fieldAddr rfl zbp rfl zd jd) ?_
  refine qE (Run.load rfl zg (hb.cell 1)) ?_
  refine qE (Run.bin rfl rfl (Bin.remN _ 8 jo)) ?_
  refine qE (Run.bin rfl rfl (Bin.shr_u8 _ _ jo)) ?_
  refine qE (Run.bin rfl rfl (Bin.and_u8 _ 1 hdl jo)) ?_
  refine qE (Run.convN _ rfl zbh zab (by simp only [bmax]; omega)) ?_
  refine qM ?_
  refine qE (Run.bin rfl rfl (Bin.shl_u64 _ _ jo jo)) ?_
  refine qE (Run.bin rfl rfl (Bin.or_u64 _ _ jo jo)) ?_
  refine qA ?_
  refine qW.nil ?_
  refine jN (jv4 0 6 20 21 ?_)
  refine jR (jm rfl (je (Run.nilck rfl) (jf rfl zbp rfl zd (jl rfl zg ((hb.drawn (qQ.drew _)).cell 1) (jb rfl rfl (Bin.add_i64 _ 1 jo) (je (Run.nilck rfl) (jf rfl zbp rfl zd ?_)))))))
  refine Ops.st (qR.store rfl rfl zd (hb.drawn (qQ.drew _)) rfl rfl) ?_
  rintro w2 ⟨hb2, hfr2, hsz2⟩
  refine jO ?_
  refine qK (jN ?_)
  refine jv4 0 6 20 21 ?_
  refine jR (jb rfl rfl (Bin.add_i64 _ 1 jo) (jm rfl (jO ?_)))
  refine jN ⟨(k + 1), (js4 rfl (by rw [hsn, ← h1m]; rfl) rfl rfl), ?_, ?_⟩
  ·
   refine ⟨hc3, ⟨c, hb2, (ho.drawn (qQ.drew _)).frm hfr2 ?_⟩, (hfr1.drawn (qQ.drew _)).trans hfr2 (fun x hx => .inl hx)⟩
   intro x hx hx2
   simp at hx2
   subst hx2
   exact ho.ne_blk hb jd hx
  first | omega | (dsimp only; omega)
 refine jX ?_
 refine qZ (qZ (qP ?_))
 refine jN (jv1 6 ?_)
 refine jS (jR (jm rfl (ja rfl (jz 0 (jO (jN (jv2 4 5 ?_)))))))
 refine jT ?_
 refine cG rfl rfl ?_
 have : k = n := jo
 subst this
 exact ⟨rfl, ⟨c, hb, ho⟩, hfr1⟩
theorem qVb (g : Nat) (n : Int) (p : Nat) (A : Option Addr) (bs : List Nat) (w : World) (hp : p ≤ 8 * bs.length) (hbs : bs.length ≤ 1000000000) (hR : IsR w g A bs p) (hn : n < 0) :
  Calls Tryz.prog 134 #[.pointer (some ⟨g, 0, none⟩), .int .i64 n] w fun e w' => e = .returned (.tuple #[.slice none 0 0, .int .i64 ((1 : Nat) : Int)]) ∧ IsR w' g A bs ((p + 7) / 8 * 8) ∧ Frm [g] w w' := by
 refine VC.calls (nt := 42) (res := #[.tmp 4, .tmp 5]) Tryz.func134 rfl Tryz.ntmps134 Tryz.results134 rfl ?_
 refine jS (jR (ja rfl (jz 0 (jO (jN (jv2 0 1 ?_))))))
 refine jS (jR (jM ?_))
 refine Ops.cl (jE1 Tryz.call133) (mH g p A bs _ hp hbs hR) rfl ?_
 rintro e w1 ⟨rfl, hR1, hfr1⟩
 refine ⟨_, rfl, ?_⟩
 have hq : (p + 7) / 8 * 8 ≤ 8 * bs.length := jo
 refine jO (jN (jv2 0 1 ?_))
 refine jS (jB (jS (jR (jm rfl (jb rfl rfl (Bin.lss _ 0) (ja rfl (jO (jN (jv3 0 1 9 ?_)))))))))
 refine VC.condT rfl (decide_eq_true hn) ?_
 refine jS (jR (ja rfl (jz 1 (jO (jN (jv2 4 5 ?_))))))
 refine jT ?_
 refine qD (qN (cG rfl rfl ?_))
 exact ⟨rfl, hR1, hfr1⟩
theorem qQ7 (g n : Nat) (p : Nat) (A : Option Addr) (bs : List Nat) (w : World) (hp : p ≤ 8 * bs.length) (hbs : bs.length ≤ 1000000000) (hR : IsR w g A bs p) (hn : (8 * bs.length - (p + 7) / 8 * 8) / 8 < n) :
  Calls Tryz.prog 134 #[.pointer (some ⟨g, 0, none⟩), .int .i64 n] w fun e w' => e = .returned (.tuple #[.slice none 0 0, .int .i64 ((2 : Nat) : Int)]) ∧ IsR w' g A bs ((p + 7) / 8 * 8) ∧ Frm [g] w w' := by
 refine VC.calls (nt := 42) (res := #[.tmp 4, .tmp 5]) Tryz.func134 rfl Tryz.ntmps134 Tryz.results134 rfl ?_
 refine jS (jR (ja rfl (jz 0 (jO (jN (jv2 0 1 ?_))))))
 refine jS (jR (jM ?_))
 refine Ops.cl (jE1 Tryz.call133) (mH g p A bs _ hp hbs hR) rfl ?_
 rintro e w1 ⟨rfl, hR1, hfr1⟩
 refine ⟨_, rfl, ?_⟩
 have hq : (p + 7) / 8 * 8 ≤ 8 * bs.length := jo
 refine jO (jN (jv2 0 1 ?_))
 refine jS (jB (jS (jR (jm rfl (jb rfl rfl (Bin.lssN _ 0) (ja rfl (jO (jN (jv3 0 1 9 ?_)))))))))
 refine VC.condF rfl (decide_eq_false jo) ?_
 refine jS (jR (jm rfl (jM ?_)))
 refine Ops.cl (jE1 Tryz.call143) (nD g ((p + 7) / 8 * 8) A bs _ hq hbs hR1) rfl ?_
 rintro e w2 ⟨rfl, hd2⟩
 refine ⟨_, rfl, ?_⟩
 refine jb rfl rfl (Bin.quo_i64 _ 8 jo jo) (jb rfl rfl (Bin.gtrN _ _) (ja rfl (jO (jN (jv3 0 1 12 ?_)))))
 refine VC.condT rfl (decide_eq_true hn) ?_
 refine jS (jR (ja rfl (jz 2 (jO (jN (jv2 4 5 ?_))))))
 refine jT ?_
 refine qD (qN (cG rfl rfl ?_))
 exact ⟨rfl, hR1.frm hd2.frm jp, hfr1.drawn hd2⟩
theorem qW6 (g n : Nat) (p : Nat) (A : Option Addr) (bs : List Nat) (w : World) (hp : p ≤ 8 * bs.length) (hbs : bs.length ≤ 1000000000) (hR : IsR w g A bs p) (hn : n ≤ (8 * bs.length - (p + 7) / 8 * 8) / 8) :
  Calls Tryz.prog 134 #[.pointer (some ⟨g, 0, none⟩), .int .i64 n] w fun e w' => ∃ B c, e = .returned (.tuple #[.slice B n c, .int .i64 ((0 : Nat) : Int)]) ∧ Own w' 5 1 B n c (NB ((bs.drop ((p + 7) / 8)).take n)) ∧ IsR w' g A bs ((p + 7) / 8 * 8 + 8 * n) ∧ Frm [g] w w' ∧ ∀ x ∈ ob B, w.heap.size ≤ x := by
 refine VC.calls (nt := 42) (res := #[.tmp 4, .tmp 5]) Tryz.func134 rfl Tryz.ntmps134 Tryz.results134 rfl ?_
 refine jS (jR (ja rfl (jz 0 (jO (jN (jv2 0 1 ?_))))))
 refine jS (jR (jM ?_))
 refine Ops.cl (jE1 Tryz.call133) (mH g p A bs _ hp hbs hR) rfl ?_
 rintro e w1 ⟨rfl, hR1, hfr1⟩
 refine ⟨_, rfl, ?_⟩
 have hq : (p + 7) / 8 * 8 ≤ 8 * bs.length := jo
 refine jO (jN (jv2 0 1 ?_))
 refine jS (jB (jS (jR (jm rfl (jb rfl rfl (Bin.lssN _ 0) (ja rfl (jO (jN (jv3 0 1 9 ?_)))))))))
 refine VC.condF rfl (decide_eq_false jo) ?_
 refine jS (jR (jm rfl (jM ?_)))
 refine Ops.cl (jE1 Tryz.call143) (nD g ((p + 7) / 8 * 8) A bs _ hq hbs hR1) rfl ?_
 rintro e w2 ⟨rfl, hd2⟩
 refine ⟨_, rfl, ?_⟩
 obtain ⟨c, hb, ho⟩ := hR1.frm hd2.frm jp
 refine jb rfl rfl (Bin.quo_i64 _ 8 jo jo) (jb rfl rfl (Bin.gtrN _ _) (ja rfl (jO (jN (jv3 0 1 12 ?_)))))
 refine VC.condF rfl (decide_eq_false jo) ?_
 refine jQ ?_
 refine qK (jN ?_)
 refine jv2 0 1 ?_
 refine jS (jR (jm rfl (je (Run.nilck rfl) (jf rfl zbp rfl zd (jl rfl zg (hb.cell 1) (jb rfl rfl (Bin.quo_i64 _ 8 jo jo) (ja rfl (jO (jN (jv3 0 1 6 ?_))))))))))
 refine jS (jR (jm rfl (je (Run.nilck rfl) (jf rfl zbp rfl zd (jl rfl zg (hb.cell 1) (jm rfl (jb rfl rfl (Bin.mul_i64 8 _ jo) (jb rfl rfl (Bin.add_i64 _ _ jo) (je (Run.nilck rfl) (jf rfl zbp rfl zd ?_))))))))))
 refine Ops.st (qR.store rfl rfl zd hb rfl rfl) ?_
 rintro w3 ⟨hb3, hfr3, hsz3⟩
 have hne : ∀ x ∈ ob A, x ∉ [g] := by
  intro x hx hx2
  simp at hx2
  subst hx2
  exact ho.ne_blk hb jd hx
 have ho3 := ho.frm hfr3 hne
 have hcap := ho3.le
 refine jO (jN (jv3 0 1 6 ?_))
 refine jS (jR (jm rfl (je (Run.nilck rfl) (jf rfl zbp rfl zl (jl rfl zt (hb3.cell 0) (jm rfl (jm rfl (jm rfl (jb rfl rfl (Bin.add_i64 _ _ jo) (je (Run.sliceS _ _ rfl ze zad (evB.some_ rfl) (evB.some_ rfl) jo jo) ?_))))))))))
 refine Ops.m (qJ.app rfl rfl ze (dD) rfl jd (Own.nil _ _ _) (ho3.rd.cut (cap := c) (l := (p + 7) / 8 * 8 / 8) (r := (p + 7) / 8 * 8 / 8 + n) jo jo hcap) (fun u hu => dH bs u (zbn (zag hu))) jo jo) rfl ?_
 rintro _ w4 ⟨A4, c4, rfl, ho4, hfr4, hob4⟩
 refine ja rfl (jz 0 (jO (jN (jv2 4 5 ?_))))
 refine jT ?_
 refine cG rfl rfl ?_
 have e1 : (p + 7) / 8 * 8 / 8 = (p + 7) / 8 := jo
 have e2 : 0 + ((p + 7) / 8 * 8 / 8 + n - (p + 7) / 8 * 8 / 8) = n := jo
 have e3 : [] ++ List.take (((p + 7) / 8 * 8 / 8 + n - (p + 7) / 8 * 8 / 8) * 1) (List.drop ((p + 7) / 8 * 8 / 8 * 1) (NB bs)) = NB ((bs.drop ((p + 7) / 8)).take n) := by
  rw [zbo, zdm, zdm, e1, zdd]
  simp [NB, zeg, List.map_drop]
 rw [e2, e3] at ho4
 rw [e2]
 refine ⟨A4, c4, rfl, ho4, ⟨c, hb3.frm hfr4 (by simp [ob]), ho3.frm hfr4 (by simp [ob])⟩, ?_, ?_⟩
 · exact ((hfr1.drawn hd2).trans hfr3 (fun x hx => .inl hx)).trans hfr4 (by simp [ob])
 intro x hx
 have := hfr1.size
 have := hd2.frm.size
 have := hfr3.size
 rcases hob4 with h | h <;> rw [h] at hx <;> simp [ob] at hx
 omega
end
section
def cn (l : List Int) (n : Nat) : Nat := if n = 0 then 0 else l.count (n : Int)
def fstF (c : Nat → Nat) : Nat → Nat
 | 0 => 0
 | n + 1 => (fstF c n + c n) * 2
def bU (l : List Int) : Nat → Nat := fstF (cn l)
def atL (l : List Int) : Nat → Nat
 | 0 => 0
 | n + 1 => atL l n + cn l n
def cR (l : List Int) (n m : Nat) : List Nat := if n = 0 then [] else (List.range m).filter fun i => l.getD i 0 = (n : Int)
def qQ8 (l : List Int) (n : Nat) : List Nat := cR l n l.length
def eI (l : List Int) (m : Nat) : List Nat := (List.range m).flatMap (qQ8 l)
def cJ (l : List Int) : List Nat := eI l 16
def mK (l : List Int) (i : Nat) : Nat := (l.take i).count (l.getD i 0)
def cY (l : List Int) (i : Nat) : Nat := bU l (l.getD i 0).toNat + mK l i
theorem wJ {c d : Nat → Nat} : ∀ n, (∀ m, m < n → c m = d m) → fstF c n = fstF d n
 | 0, _ => rfl
 | n + 1, h => by
  rw [fstF, fstF, wJ n (fun m hm => h m jo), h n jo]
theorem qJ0 (c : Nat → Nat) (b : Nat) (h : ∀ m, c m ≤ b) : ∀ n, fstF c n + 2 * b ≤ 2 * b * 2 ^ n
 | 0 => by simp [fstF]
 | n + 1 => by
  have ih := qJ0 c b h n
  have hc := h n
  rw [fstF, zbt, ← zdu]
  omega
theorem qQ9 (l : List Int) : ∀ n, atL l n ≤ l.length := by
 have key : ∀ n, atL l n = l.countP fun x => decide (1 ≤ x ∧ x < (n : Int)) := by
  intro n
  induction n with
  | zero => rw [atL]; symm; rw [List.countP_eq_zero]; intro x _; simp; omega
  | succ n ih =>
   rw [atL, ih, cn]
   split
   ·
    rename_i h
    subst h
    rw [zdh]
    apply List.countP_congr
    intro x _
    simp
    omega
   rename_i h
   clear ih
   induction l with
   | nil => rfl
   | cons a r ih =>
    rw [List.countP_cons, List.countP_cons, zgq]
    by_cases h1 : a = (n : Int)
    ·
     subst h1
     have h2 : (1 ≤ (n : Int) ∧ (n : Int) < (n : Int) + 1) := jo
     simp [h2] at ih ⊢
     omega
    have e : (decide (1 ≤ a ∧ a < ((n + 1 : Nat) : Int))) = decide (1 ≤ a ∧ a < (n : Int)) := by
     rw [decide_eq_decide]; omega
    have e2 : (a == (n : Int)) = false := by simp [h1]
    rw [e, e2]
    simp at ih ⊢
    omega
 intro n
 rw [key n]
 exact List.countP_le_length
theorem yC (l : List Int) : ∀ n, bU l n + cn l n ≤ atL l (n + 1) * 2 ^ n
 | 0 => by simp [bU, fstF, atL]
 | n + 1 => by
  have ih := yC l n
  have e : bU l (n + 1) = (bU l n + cn l n) * 2 := rfl
  have e2 : atL l (n + 1 + 1) = atL l (n + 1) + cn l (n + 1) := rfl
  have h3 : (atL l (n + 1) + cn l (n + 1)) * (2 ^ n * 2) = atL l (n + 1) * (2 ^ n * 2) + cn l (n + 1) * (2 ^ n * 2) := zfr _ _ _
  rw [e, e2, zbt, h3]
  have h1 : cn l (n + 1) ≤ cn l (n + 1) * (2 ^ n * 2) := Nat.le_mul_of_pos_right _ (by have := zfm n; omega)
  have h2 : atL l (n + 1) * (2 ^ n * 2) = atL l (n + 1) * 2 ^ n * 2 := by rw [zdu]
  omega
theorem nE (l : List Int) (n : Nat) (hn : n ≠ 0) : ∀ m, m ≤ l.length → (cR l n m).length = (l.take m).count (n : Int)
 | 0, _ => by simp [cR]
 | m + 1, h => by
  have ih := nE l n hn m jo
  unfold cR at ih ⊢
  rw [if_neg hn] at ih ⊢
  rw [zex, zfo, zb, ih, zaj, za jo, zaq]
  congr 1
  by_cases h1 : l[m] = (n : Int)
  · simp [List.getD, za (jo : m < l.length), h1]
  simp [List.getD, za (jo : m < l.length), h1, List.count_singleton]
theorem yD (l : List Int) (n : Nat) : ∀ m k i, m ≤ l.length → (cR l n m)[k]? = some i → i < m ∧ l.getD i 0 = (n : Int) ∧ mK l i = k ∧ n ≠ 0
 | 0, k, i, _, h => by simp [cR] at h
 | m + 1, k, i, hm, h => by
  by_cases hn : n = 0
  · simp [cR, hn] at h
  have hlen := nE l n hn m jo
  have ih := yD l n m k i jo
  have e : cR l n (m + 1) = cR l n m ++ if l.getD m 0 = (n : Int) then [m] else [] := by
   unfold cR
   rw [if_neg hn, if_neg hn, zex, zfo]
   congr 1
   by_cases h1 : l.getD m 0 = (n : Int)
   · rw [if_pos h1, zgx (by simpa using h1)]; rfl
   rw [if_neg h1, zgy (by simpa using h1)]; rfl
  rw [e] at h
  by_cases hk : k < (cR l n m).length
  ·
   rw [zaf hk] at h
   obtain ⟨h1, h2⟩ := ih h
   exact ⟨jo, h2⟩
  rw [zah jo] at h
  split at h
  ·
   rename_i h1
   have hk0 : k - (cR l n m).length = 0 := by
    rcases zcg (k - (cR l n m).length) with h | h'
    · exact h
    rw [zr (by simp; omega)] at h; cases h
   rw [hk0] at h
   simp at h
   subst h
   refine ⟨jo, h1, ?_, hn⟩
   unfold mK
   rw [h1, ← hlen]
   omega
  simp at h
theorem qXa (l : List Int) (n : Nat) : (qQ8 l n).length = cn l n := by
 unfold qQ8 cn
 split
 · rename_i h; simp [cR, h]
 rename_i h; rw [nE l n h _ (zk _), zbl]
theorem pM (l : List Int) (m : Nat) : eI l (m + 1) = eI l m ++ qQ8 l m := by simp [eI, zex]
theorem lA (l : List Int) : ∀ m, (eI l m).length = atL l m
 | 0 => rfl
 | m + 1 => by rw [pM, zb, lA l m, qXa, atL]
theorem qH4 (l : List Int) {a b : Nat} (h : a ≤ b) : atL l a ≤ atL l b := by
 induction b with
 | zero =>
  have : a = 0 := jo
  subst this
  exact zk _
 | succ b ih =>
  by_cases hab : a = b + 1
  · subst hab; exact zk _
  have := ih jo
  rw [atL]
  omega
theorem uI (l : List Int) (n k : Nat) (hk : k < cn l n) : ∀ m, n < m → ∃ i, (eI l m)[atL l n + k]? = some i ∧ i < l.length ∧ l.getD i 0 = (n : Int) ∧ mK l i = k
 | 0, h => jo
 | m + 1, h => by
  have hlen := lA l m
  rw [pM]
  by_cases hm : n < m
  ·
   obtain ⟨i, h1, h2⟩ := uI l n k hk m hm
   refine ⟨i, ?_, h2⟩
   rw [zaf (List.getElem?_eq_some_iff.1 h1).1]
   exact h1
  have : n = m := jo
  subst this
  have hk2 : k < (qQ8 l n).length := by rw [qXa]; exact hk
  rw [zah jo, hlen, zdd, za hk2]
  have h3 := za hk2
  obtain ⟨h4, h5, h6, _⟩ := yD l n _ _ _ (zk _) h3
  exact ⟨_, rfl, h4, h5, h6⟩
theorem yE (l : List Int) (hl : l.length ≤ 320) (n : Nat) (hn : n ≤ 15) : bU l n + cn l n ≤ 10485760 := by
 have h1 := yC l n
 have h2 := qQ9 l (n + 1)
 have h3 : 2 ^ n ≤ 2 ^ 15 := zae jo hn
 have h4 : atL l (n + 1) * 2 ^ n ≤ 320 * 2 ^ 15 := zgw jo h3
 omega
def cE (l : List Int) (i : Nat) : Nat × Int := if l.getD i 0 = 0 then (0, 0) else (cY l i, l.getD i 0)
def eZ (l : List Int) : List (Nat × Int) := (List.range l.length).map (cE l)
def eJ (l : List Int) (i : Nat) : List (Nat × Int) := (List.range l.length).map fun j => if j < i then cE l j else (0, 0)
theorem qVc (l : List Int) (i : Nat) : (eJ l i).set i (cE l i) = eJ l (i + 1) := by
 apply zap
 intro j
 unfold eJ
 simp only [zek, zu, zfx, zbk]
 by_cases h : i = j
 ·
  subst h
  by_cases h2 : i < l.length
  · simp [h2]
  simp [h2]
 by_cases h2 : j < l.length
 ·
  by_cases h3 : j < i
  · simp [h, h2, h3, show j < i + 1 by omega]
  simp [h, h2, h3, show ¬ j < i + 1 by omega]
 simp [h, h2]
theorem qZ6 (l : List Int) (i : Nat) (h : l.getD i 0 = 0) : eJ l (i + 1) = eJ l i := by
 unfold eJ
 apply zcx
 intro j _
 by_cases h1 : j < i
 · simp [h1, show j < i + 1 by omega]
 by_cases h2 : j = i
 ·
  subst h2
  simp only [Nat.lt_succ_self, if_true, Nat.lt_irrefl, if_false]
  unfold cE
  rw [if_pos h]
 simp [h1, show ¬ j < i + 1 by omega]
theorem qVd (l : List Int) : eJ l l.length = eZ l := by
 unfold eJ eZ
 apply zcx
 intro j hj
 simp at hj
 simp [hj]
def hit (l : List Int) (n v : Nat) : Option Nat := if bU l n ≤ v ∧ v - bU l n < cn l n then some ((cJ l).getD (atL l n + (v - bU l n)) 0) else none
def tk (l : List Int) (L : List Bool) : Nat → Nat → Nat → Nat → Nat × Nat × Nat
 | 0, _, _, p => (0, p, 11)
 | m + 1, n, v, p => match L[p]? with
  | none => (0, p, 2)
  | some b => match hit l n (2 * v + b.toNat) with
   | some i => (i, p + 1, 0)
   | none => tk l L m (n + 1) (2 * v + b.toNat) (p + 1)
theorem qJ1 (l : List Int) (i j : Nat) (hij : i < j) (hj : j < l.length) (h : l.getD i 0 = l.getD j 0) : mK l i < mK l j := by
 unfold mK
 rw [← h]
 have h1 : l.take (i + 1) = l.take i ++ [l.getD i 0] := by
  rw [zaj, za jo]
  simp [List.getD, za (jo : i < l.length)]
 have h2 : (l.take (i + 1)).count (l.getD i 0) ≤ (l.take j).count (l.getD i 0) := by
  have : l.take (i + 1) = (l.take j).take (i + 1) := by rw [zga, zbb jo]
  rw [this]
  exact (zha _ _).count_le _
 rw [h1, zaq] at h2
 simp at h2 ⊢
 omega
theorem pN (l : List Int) (i n : Nat) (hi : i < l.length) (hn : n ≠ 0) (h : l.getD i 0 = (n : Int)) : mK l i < cn l n := by
 unfold mK cn
 rw [if_neg hn, h]
 have h1 : l.take (i + 1) = l.take i ++ [l.getD i 0] := by
  rw [zaj, za jo]
  simp [List.getD, za (jo : i < l.length)]
 have h2 : (l.take (i + 1)).count (n : Int) ≤ l.count (n : Int) := (zha _ _).count_le _
 rw [h1, zaq, h] at h2
 simp at h2 ⊢
 omega
theorem qJ2 (l : List Int) (n v i : Nat) (hn1 : 1 ≤ n) (hn15 : n ≤ 15) : hit l n v = some i ↔ i < l.length ∧ cE l i = (v, (n : Int)) := by
 unfold hit
 constructor
 ·
  intro h
  split at h
  ·
   rename_i hc
   obtain ⟨i', h1, h2, h3, h4⟩ := uI l n _ hc.2 16 jo
   simp only [cJ, List.getD, h1, zaz, Option.some.injEq] at h
   subst h
   refine ⟨h2, ?_⟩
   unfold cE cY
   rw [h3, if_neg jo, zal, h4]
   congr 1
   omega
  cases h
 rintro ⟨h1, h2⟩
 unfold cE at h2
 split at h2
 · simp at h2; omega
 simp only [Prod.mk.injEq] at h2
 obtain ⟨h3, h4⟩ := h2
 unfold cY at h3
 rw [h4, zal] at h3
 have h5 := pN l i n h1 jo h4
 have h6 : v - bU l n = mK l i := jo
 rw [if_pos ⟨jo, jo⟩, h6]
 obtain ⟨j, g1, g2, g3, g4⟩ := uI l n _ h5 16 jo
 simp only [cJ, List.getD, g1, zaz, Option.some.injEq]
 rcases zfv i j with h | h | h
 · have := qJ1 l i j h g2 (by rw [h4, g3]); omega
 · exact h.symm
 have := qJ1 l j i h h1 (by rw [h4, g3]); omega
end
section
open Go.RowKit
def CI (f : Nat → Nat) : List Value := (List.range 16).map fun k => .int .i64 ((f k : Nat) : Int)
def CU (f : Nat → Nat) : List Value := (List.range 16).map fun k => .int .u64 ((f k : Nat) : Int)
theorem sQ (f : Nat → Nat) (k : Nat) (h : k < 16) : (CI f)[k]? = some (.int .i64 ((f k : Nat) : Int)) := by simp [CI, h]
theorem qXb (f : Nat → Nat) (k : Nat) (h : k < 16) : (CU f)[k]? = some (.int .u64 ((f k : Nat) : Int)) := by simp [CU, h]
theorem qW7 (f : Nat → Nat) (m v : Nat) : (CI f).toArray.setIfInBounds m (.int .i64 ((v : Nat) : Int)) = (CI fun k => if k = m then v else f k).toArray := by
 apply Array.toList_inj.1
 rw [zfa]
 apply zap
 intro j
 simp only [CI, zek, zu, zfx, zbk]
 by_cases h : m = j
 ·
  subst h
  by_cases h2 : m < 16 <;> simp [h2]
 have h3 : ¬ j = m := fun e => h e.symm
 by_cases h2 : j < 16 <;> simp [h2, h, h3]
theorem qW8 (f : Nat → Nat) (m v : Nat) : (CU f).toArray.setIfInBounds m (.int .u64 ((v : Nat) : Int)) = (CU fun k => if k = m then v else f k).toArray := by
 apply Array.toList_inj.1
 rw [zfa]
 apply zap
 intro j
 simp only [CU, zek, zu, zfx, zbk]
 by_cases h : m = j
 ·
  subst h
  by_cases h2 : m < 16 <;> simp [h2]
 have h3 : ¬ j = m := fun e => h e.symm
 by_cases h2 : j < 16 <;> simp [h2, h, h3]
theorem oE (f : Nat → Nat) : ∀ v ∈ (CI f).toArray.toList, v.oneCell' = true := by
 intro v hv
 obtain ⟨b, _, rfl⟩ := List.mem_map.1 (show v ∈ CI f from hv)
 rfl
theorem qW9 (f : Nat → Nat) : ∀ v ∈ (CU f).toArray.toList, v.oneCell' = true := by
 intro v hv
 obtain ⟨b, _, rfl⟩ := List.mem_map.1 (show v ∈ CU f from hv)
 rfl
def fC (l : List Int) : Prop := l.length ≤ 320 ∧ ∀ x ∈ l, 0 ≤ x ∧ x ≤ 15
instance (l : List Int) : Decidable (fC l) := inferInstanceAs (Decidable (_ ∧ _))
def KC (f : Nat → Nat) : Nat → Nat
 | 0 => 0
 | i + 1 => KC f i + f i * 2 ^ (15 - i)
theorem qVe (f : Nat → Nat) (hf : ∀ k, f k ≤ 320) : ∀ i, i ≤ 16 → KC f i + 320 * 2 ^ (16 - i) ≤ 320 * 65536
 | 0, _ => by simp [KC]
 | i + 1, h => by
  have ih := qVe f hf i jo
  have h1 : f i * 2 ^ (15 - i) ≤ 320 * 2 ^ (15 - i) := zcv _ (hf i)
  have h2 : 2 ^ (16 - i) = 2 ^ (15 - i) * 2 := by rw [← zbt]; congr 1; omega
  rw [KC, show 16 - (i + 1) = 15 - i by omega]
  omega
theorem tE {w : World} {A : Option Addr} {l : List Int} {k : Nat} (h : Rd w 1 A l.length (IB l)) (hk : k < l.length) : ∃ ad, A = some ad ∧ w.cell? (ad.add k) = some (.int .i64 l[k]) := by
 obtain ⟨ad, u, hA, hu, hc⟩ := h.at1 hk
 refine ⟨ad, hA, ?_⟩
 rw [hc]
 simp [IB, hk] at hu
 rw [hu]
theorem oY (A : Option Addr) (c0 : Nat) (l : List Int) (w : World) (hl : l.length ≤ 1000000000) (hr : Rd w 1 A l.length (IB l)) :
  Calls Tryz.prog 101 #[.slice A l.length c0] w fun e w' => ∃ f, e = .returned (.tuple #[.agg (CI f).toArray, .bool (decide (fC l))]) ∧ (∀ k, f k ≤ 320) ∧ (fC l → f = cn l) ∧ Frm [] w w' := by
 refine VC.calls (nt := 32) (res := #[.cell 2 173, .tmp 3]) Tryz.func101 rfl Tryz.ntmps101 Tryz.results101 rfl ?_
 refine jS (jR ?_)
 refine Ops.m (qJ.alloc oU) rfl ?_
 rintro _ w1 ⟨rfl, hF1⟩
 have hb1 : Blk w1 w.heap.size 173 (CI fun _ => 0).toArray := hF1.blk
 refine ja rfl (jO (jN (jv2 0 2 ?_)))
 refine jS (jR ?_)
 refine Ops.m (qJ.alloc oU) rfl ?_
 rintro _ w2 ⟨rfl, hF2⟩
 have hb2 : Blk w2 w1.heap.size 173 (CI fun _ => 0).toArray := hF2.blk
 have hb12 := hb1.frm hF2.frm jp
 have hfr2 := hF1.frm.own hF2.frm jp
 have hg1 : w.heap.size < w1.heap.size := hb1.lt
 generalize hg : w.heap.size = g at hb12 hg1
 generalize hgc : w1.heap.size = gc at *
 refine jO (jN (jS (jS (jR (jm rfl (je (Run.lenS rfl zf) (jb rfl rfl (Bin.gtrN _ 320) (jO (jN (jv4 0 2 4 9 ?_))))))))))
 refine jD rfl (fun hc1 => ?_) fun hc1 => ?_
 ·
  refine jS (jR (je (Run.loadB rfl zeh zbr (hb2) rfl) ?_))
  refine Ops.st (qR.storeA rfl rfl zbr hb12 rfl (oE _)) ?_
  rintro w3 ⟨hb3, hf3, hs3⟩
  refine ja rfl (jO (jN (jv2 2 3 ?_)))
  refine jT ?_
  refine qN (lJ ?_)
  refine eF rfl zeh zbr (hb3) rfl ?_
  refine xH rfl ?_
  refine eM ?_
  refine ⟨fun _ => 0, ?_, fun k => jp, fun h => absurd h.1 jo, hfr2.own hf3 (eP jo)⟩
  rw [decide_eq_false (fun h => absurd h.1 jo)]
  rfl
 refine jQ (jN (jv3 0 2 4 ?_))
 refine jS (jS (jR (jm rfl (je (Run.lenS rfl zf) ?_))))
 refine jx .i64 0 ?_
 refine jO (jN (jv5 2 4 11 12 13 ?_))
 refine jB ?_
 refine VC.loop (σ := Nat) (fun s => [(2, .pointer (some ⟨g, 0, none⟩)), (4, .pointer (some ⟨gc, 0, none⟩)), (11, .slice A l.length c0), (12, .int .i64 ((l.length : Nat) : Int)), (13, .int .i64 s)]) (fun s wr => s ≤ l.length ∧ (∀ x ∈ l.take s, 0 ≤ x ∧ x ≤ 15) ∧ Blk wr g 173 (CI fun _ => 0).toArray ∧ Blk wr gc 173 (CI fun k => (l.take s).count (k : Int)).toArray ∧ Frm [] w wr) (fun s => l.length - s) 0 (js5 (by rw [← hg]; rfl) (by rw [← hgc]; rfl) rfl rfl rfl) ⟨jo, jp, hb12, by simpa using hb2, hfr2⟩ ?_
 rintro i wr ⟨hi, hpre, hbr, hbc, hfr⟩
 refine jS (jR (jb rfl rfl (Bin.lssN _ _) (jO (jN (jS ?_)))))
 refine jD rfl (fun hc2 => ?_) fun hc2 => ?_
 ·
  obtain ⟨ad, rfl, hcell⟩ := tE (hr.belowW hfr.below) hc2
  have htk : l.take (i + 1) = l.take i ++ [l[i]] := by rw [zaj, za hc2]; rfl
  generalize hx : l[i] = x at *
  refine jQ (jN (jv5 2 4 11 12 13 ?_))
  refine jS (jB (jS (jR (je (Run.index1 _ rfl rfl zf zd jo) (jl rfl zg hcell (ja rfl (jO (jN (jv6 2 4 6 11 12 13 ?_)))))))))
  refine jS (jS ?_)
  refine VC.split1 [(2, _), (4, _), (6, _), (11, _), (12, _), (13, _)] (js6 rfl rfl rfl rfl rfl rfl) 22 (.bool (decide (x < 0 ∨ 15 < x))) ?_ ?_
  ·
   by_cases hs0 : x < 0
   ·
    refine jR (jm rfl (jb rfl rfl (Bin.lss _ 0) (jM ?_)))
    refine jU ?_
    refine jU ?_
    refine je (Run.pickT rfl rfl au) (jO ?_)
    refine jN ⟨(js7 (by rw [qQt hs0]; rfl) rfl rfl rfl rfl rfl rfl), rfl⟩
   refine jR (jm rfl (jb rfl rfl (Bin.lss _ 0) (jM ?_)))
   refine jk (Run.mv rfl) ?_
   refine jk (Run.bin rfl rfl (Bin.gtr _ 15)) ?_
   refine je (Run.pickF rfl rfl au) (jO ?_)
   refine jN ⟨(js7 (by rw [qQu hs0]; rfl) rfl rfl rfl rfl rfl rfl), rfl⟩
  intro Γ hΓ
  refine jN (VC.sub _ hΓ ?_)
  refine jD rfl (fun hc3 => ?_) fun hc3 => ?_
  ·
   refine jS (jR (je (Run.loadB rfl zeh zbr (hbc) rfl) ?_))
   refine Ops.st (qR.storeA rfl rfl zbr hbr rfl (oE _)) ?_
   rintro w3 ⟨hb3, hf3, hs3⟩
   refine ja rfl (jO (jN (jv2 2 3 ?_)))
   refine jT ?_
   refine qN (qD (qN (qN (qD (qN (lJ ?_))))))
   refine eF rfl zeh zbr (hb3) rfl ?_
   refine xH rfl ?_
   refine eM ?_
   have hng : ¬ fC l := by
    intro h
    have := h.2 x (by rw [← hx]; exact zw hc2)
    omega
   refine ⟨fun k => (l.take i).count (k : Int), ?_, ?_, fun h => absurd h hng, hfr.own hf3 (eP jo)⟩
   ·
    rw [decide_eq_false hng]
    rfl
   intro k
   exact zo zgk (by simp; omega)
  obtain ⟨m, rfl⟩ : ∃ m : Nat, x = m := ⟨x.toNat, jo⟩
  have hcm : (l.take i).count (m : Int) ≤ l.length := zo zgk (by simp; omega)
  refine jQ (jN (jv6 2 4 6 11 12 13 ?_))
  refine jR (jm rfl (je (Run.indexA1 _ rfl rfl zdt zd jo) (jl rfl zg ((hbc.cell _).trans (by simpa using sQ _ m jo)) (jb rfl rfl (Bin.add_i64 _ 1 jo) (je (Run.indexA1 _ rfl rfl zdt zd jo) ?_)))))
  refine Ops.st (qR.store rfl rfl zd hbc (by simp [CI, zed]; omega) rfl) ?_
  rintro w3 ⟨hb3, hf3, hs3⟩
  refine jO ?_
  refine qK (jN ?_)
  refine jv5 2 4 11 12 13 ?_
  refine jR (jb rfl rfl (Bin.add_i64 _ 1 jo) (jm rfl (jO ?_)))
  refine jN ⟨(i + 1), (js5 rfl rfl rfl rfl rfl), ?_, ?_⟩
  ·
   refine ⟨hc2, ?_, hbr.frm hf3 (by simp; omega), ?_, hfr.own hf3 (eP jo)⟩
   ·
    rw [htk]
    intro y hy
    rcases List.mem_append.1 hy with h | h
    · exact hpre y h
    simp at h; subst h; omega
   rw [qW7] at hb3
   have e : (fun k : Nat => if k = 0 + m then (l.take i).count (m : Int) + 1 else (l.take i).count (k : Int)) = fun k : Nat => (l.take (i + 1)).count (k : Int) := by
    funext k
    rw [htk, zaq]
    by_cases hk : k = m
    · subst hk; simp
    have : (m : Int) ≠ (k : Int) := jo
    simp [hk, zgq, this]
   rw [← e]
   simpa using hb3
  first | omega | (dsimp only; omega)
 have hik : i = l.length := jo
 refine jX ?_
 refine qZ (qZ (qP ?_))
 refine jN (jv2 2 4 ?_)
 refine jS (jR (je (Run.indexA1 0 rfl rfl zdt zd jo) ?_))
 refine Ops.st (qR.store rfl rfl zd hbc rfl rfl) ?_
 rintro w5 ⟨hb5, hf5, hs5⟩
 have hb5 : Blk w5 gc 173 (CI fun k => if k = 0 then 0 else (l.take i).count (k : Int)).toArray := by rw [← qW7]; exact hb5
 have hbr5 := hbr.frm hf5 (by simp; omega)
 refine jO (jN (jv2 2 4 ?_))
 refine jS (jR (je (Run.loadB rfl zeh zbr (hb5) rfl) ?_))
 refine Ops.st (qR.storeA rfl rfl zbr hbr5 rfl (oE _)) ?_
 rintro w6 ⟨hb6, hf6, hs6⟩
 refine ja rfl (jO (jN (jv2 2 3 ?_)))
 refine jT ?_
 refine lJ ?_
 refine eF rfl zeh zbr (hb6) rfl ?_
 refine xH rfl ?_
 refine eM ?_
 have hgd : fC l := ⟨jo, by rw [hik, zbl] at hpre; exact hpre⟩
 refine ⟨cn l, ?_, ?_, fun _ => rfl, (hfr.own hf5 (eP jo)).own hf6 (eP jo)⟩
 ·
  rw [decide_eq_true hgd, hik, zbl]
  rfl
 intro k
 unfold cn
 split
 · omega
 exact zo zgk jo
theorem qVf (f : Nat → Nat) (w : World) (hf : ∀ k, f k ≤ 320) :
  Calls Tryz.prog 129 #[.agg (CI f).toArray] w fun e w' => e = .returned (.int .i64 (32768 - ((KC f 16 : Nat) : Int))) ∧ Frm [] w w' := by
 refine VC.calls (nt := 18) (res := #[.tmp 2]) Tryz.func129 rfl Tryz.ntmps129 Tryz.results129 rfl ?_
 refine jS (jR ?_)
 refine Ops.m (qJ.box rfl) rfl ?_
 rintro _ w1 ⟨rfl, hF1⟩
 have hb1 : Blk w1 w.heap.size 173 (CI f).toArray := hF1.blk
 have hfr1 := hF1.frm
 generalize hg : w.heap.size = g at hb1
 refine jz 0 (jO (jN (jv1 1 ?_)))
 refine jS (jR (jz 32768 (jO (jN (jS (jS (jR ?_)))))))
 refine jx .i64 0 ?_
 refine jO (jN (jB ?_))
 refine VC.loop (σ := Nat) (fun s => [(1, .pointer (some ⟨g, 0, none⟩)), (3, .int .i64 (32768 - ((KC f s : Nat) : Int))), (5, .int .i64 s)]) (fun s wr => s ≤ 16 ∧ wr = w1) (fun s => 16 - s) 0 (js3 (by rw [← hg]; rfl) rfl rfl) ⟨jo, rfl⟩ ?_
 rintro i _ ⟨hi, rfl⟩
 have hk := qVe f hf i hi
 refine jS (jR (jb rfl rfl (Bin.lssN _ 16) (jO (jN (jS ?_)))))
 refine jD rfl (fun hc1 => ?_) fun hc1 => ?_
 ·
  have hk1 := qVe f hf (i + 1) jo
  have he1 : KC f (i + 1) = KC f i + f i * 2 ^ (15 - i) := rfl
  have hfi := hf i
  refine jQ (jN (jv3 1 3 5 ?_))
  refine jS (jB (jS (jR (jm rfl (ja rfl (jO (jN (jv4 1 3 4 5 ?_))))))))
  refine jR (jm rfl (jm rfl (je (Run.indexA1 _ rfl rfl zdt zd jo) (jl rfl zg ((hb1.cell _).trans (by simpa using sQ f i jo)) (jm rfl (jb rfl rfl (Bin.sub_i64 15 _ jo jo) (jb rfl rfl (Bin.shl_i64 _ _ jo jo) (jb rfl rfl (Bin.subZ _ _ jo jo) ?_))))))))
  refine ja rfl (jO ?_)
  refine qK (jN ?_)
  refine jv3 1 3 5 ?_
  refine jR (jb rfl rfl (Bin.add_i64 _ 1 jo) (jm rfl (jO ?_)))
  refine jN ⟨(i + 1), (js3 rfl (congrArg (fun z => some (Value.int .i64 z)) jo) rfl), ?_, ?_⟩
  · exact ⟨hc1, rfl⟩
  first | omega | (dsimp only; omega)
 have h16 : i = 16 := jo
 subst h16
 refine jX ?_
 refine qZ (qZ (qP ?_))
 refine jN (jv1 3 ?_)
 refine jS (jR (jm rfl (ja rfl (jO (jN (jv1 2 ?_))))))
 refine jT ?_
 refine qC rfl ?_
 exact ⟨rfl, hfr1⟩
def chk (l : List Int) : Nat := if ¬ fC l then 1 else if 32768 < KC (cn l) 16 then 8 else if KC (cn l) 16 < 32768 then 2 else 0
theorem wK (A : Option Addr) (c0 : Nat) (l : List Int) (w : World) (hl : l.length ≤ 1000000000) (hr : Rd w 1 A l.length (IB l)) :
  Calls Tryz.prog 100 #[.slice A l.length c0] w fun e w' => e = .returned (.int .i64 ((chk l : Nat) : Int)) ∧ Frm [] w w' := by
 refine VC.calls (nt := 22) (res := #[.tmp 2]) Tryz.func100 rfl Tryz.ntmps100 Tryz.results100 rfl ?_
 refine jS (jR (jz 0 (jO (jN (jv1 0 ?_)))))
 refine jS (jR (jM ?_))
 refine Ops.cl (jE1 Tryz.call101) (oY A c0 l _ hl hr) rfl ?_
 rintro e w1 ⟨f, rfl, hf, hgd, hf1⟩
 refine ⟨_, rfl, ?_⟩
 refine jm rfl (je (Run.extract rfl rfl) (je (Run.extract rfl rfl) ?_))
 refine Ops.m (qJ.alloc oU) rfl ?_
 rintro _ w2 ⟨rfl, hF2⟩
 have hb2 : Blk w2 w1.heap.size 173 (CI fun _ => 0).toArray := hF2.blk
 have hfr2 := hf1.own hF2.frm jp
 have hg1 := hf1.size
 generalize hg : w1.heap.size = g at *
 refine Ops.st (qR.storeA rfl rfl zbr hb2 rfl (oE _)) ?_
 rintro w3 ⟨hb3, hf3, hs3⟩
 have hfr3 := hfr2.own hf3 (eP jo)
 refine ja rfl (jO (jN (jv2 3 4 ?_)))
 refine jS (jR (je (Run.loadB rfl zeh zbr (hb3) rfl) ?_))
 refine Ops.cl (jE1 Tryz.call129) (qVf f _ hf) rfl ?_
 rintro e w4 ⟨rfl, hf4⟩
 refine ⟨_, rfl, ?_⟩
 have hfr4 := hfr3.own hf4 jp
 refine ja rfl (jO (jN (jv2 4 5 ?_)))
 refine jS (jB (jS (jR (jm rfl (je (Run.not rfl) (ja rfl (jO (jN (jv2 5 13 ?_)))))))))
 refine VC.condB rfl (fun hc1 => ?_) (fun hc1 => ?_)
 ·
  have he : chk l = 1 := by unfold chk; rw [if_pos (by simpa using hc1)]
  refine jS (jR (jz 1 (jO (jN (jv1 2 ?_)))))
  refine jT ?_
  refine qD (qN (qC rfl ?_))
  exact ⟨by rw [he], hfr4⟩
 have hgl : fC l := by simpa using hc1
 rw [hgd hgl] at *
 refine jS (jR (jm rfl (jb rfl rfl (Bin.lss _ 0) (ja rfl (jO (jN (jv2 5 16 ?_)))))))
 refine jD rfl (fun hc2 => ?_) fun hc2 => ?_
 ·
  have he : chk l = 8 := by unfold chk; rw [if_neg (by simpa using hgl), if_pos jo]
  refine jS (jR (jz 8 (jO (jN (jv1 2 ?_)))))
  refine jT ?_
  refine qD (qN (qC rfl ?_))
  exact ⟨by rw [he], hfr4⟩
 refine jS (jR (jm rfl (jb rfl rfl (Bin.gtr _ 0) (ja rfl (jO (jN (jv1 19 ?_)))))))
 refine jD rfl (fun hc3 => ?_) fun hc3 => ?_
 ·
  have he : chk l = 2 := by unfold chk; rw [if_neg (by simpa using hgl), if_neg jo, if_pos jo]
  refine jS (jR (jz 2 (jO (jN (jv1 2 ?_)))))
  refine jT ?_
  refine qD (qN (qC rfl ?_))
  exact ⟨by rw [he], hfr4⟩
 have he : chk l = 0 := by unfold chk; rw [if_neg (by simpa using hgl), if_neg jo, if_neg jo]
 refine jQ ?_
 refine qK (jN ?_)
 refine VC.sub [] .nil ?_
 refine jS (jR (jz 0 (jO (jN (jT ?_)))))
 refine qC rfl ?_
 exact ⟨by rw [he], hfr4⟩
theorem uW (f : Nat → Nat) (w : World) (hf : ∀ k, f k ≤ 320) :
  Calls Tryz.prog 102 #[.agg (CI f).toArray] w fun e w' => e = .returned (.agg (CU (fstF f)).toArray) ∧ Frm [] w w' := by
 refine VC.calls (nt := 22) (res := #[.cell 2 176]) Tryz.func102 rfl Tryz.ntmps102 Tryz.results102 rfl ?_
 refine jS (jR ?_)
 refine Ops.m (qJ.box rfl) rfl ?_
 rintro _ w1 ⟨rfl, hF1⟩
 have hb1 : Blk w1 w.heap.size 173 (CI f).toArray := hF1.blk
 refine Ops.m (qJ.alloc xN) rfl ?_
 rintro _ w2 ⟨rfl, hF2⟩
 have hb2 : Blk w2 w1.heap.size 176 (CU fun _ => 0).toArray := hF2.blk
 have hb12 := hb1.frm hF2.frm jp
 refine jO (jN (jv2 1 2 ?_))
 refine jS (jR ?_)
 refine Ops.m (qJ.alloc xN) rfl ?_
 rintro _ w3 ⟨rfl, hF3⟩
 have hb3 : Blk w3 w2.heap.size 176 (CU fun _ => 0).toArray := hF3.blk
 have hb13 := hb12.frm hF3.frm jp
 have hb23 := hb2.frm hF3.frm jp
 have hfr3 := (hF1.frm.own hF2.frm jp).own hF3.frm jp
 have h1 := hb1.lt
 have h2 := hb2.lt
 generalize hg1 : w.heap.size = g1 at hb13 h1
 generalize hg2 : w1.heap.size = g2 at *
 generalize hg3 : w2.heap.size = g3 at *
 refine jO (jN (jS (jR ?_)))
 refine jy .u64 0 ?_
 refine jO (jN (jS (jS (jR (jz 1 (jO (jN (jB ?_))))))))
 refine VC.loop (σ := Nat) (fun s => [(1, .pointer (some ⟨g1, 0, none⟩)), (2, .pointer (some ⟨g2, 0, none⟩)), (3, .pointer (some ⟨g3, 0, none⟩)), (4, .int .u64 ((fstF f s : Nat) : Int)), (5, .int .i64 ((s + 1 : Nat) : Int))]) (fun s wr => s ≤ 15 ∧ Blk wr g1 173 (CI f).toArray ∧ Blk wr g2 176 (CU fun _ => 0).toArray ∧ Blk wr g3 176 (CU fun k => if k ≤ s then fstF f k else 0).toArray ∧ Frm [] w wr) (fun s => 16 - s) 0 (js5 (by rw [← hg1]; rfl) (by rw [← hg2]; rfl) (by rw [← hg3]; rfl) rfl rfl) ⟨jo, hb13, hb23, by
   have e : (fun k => if k ≤ 0 then fstF f k else 0) = fun _ => 0 := by
    funext k
    split
    ·
     rename_i h; have : k = 0 := jo
     subst this; rfl
    rfl
   rw [e]; exact hb3, hfr3⟩ ?_
 rintro i wr ⟨hi, hbc, hbr, hbf, hfr⟩
 have hfl := qJ0 f 320 hf i
 have hp : 2 ^ i ≤ 2 ^ 15 := zae jo hi
 have hfi := hf i
 refine jS (jS (jR (jm rfl (jb rfl rfl (Bin.leqN _ 15) (jO (jN (jv6 1 2 3 4 5 7 ?_)))))))
 refine jD rfl (fun hc1 => ?_) fun hc1 => ?_
 ·
  refine jQ (jN (jv5 1 2 3 4 5 ?_))
  refine jS (jB (jS (jR (jm rfl (jm rfl (jb rfl rfl (Bin.sub_i64 _ 1 jo jo) (je (Run.indexA1 _ rfl rfl zdt zd jo) (jl rfl zg ((hbc.cell _).trans (by simpa using sQ f i jo)) (je (Run.convN _ rfl zx zab (by simp only [bmax]; omega)) (jb rfl rfl (Bin.add_u64 _ _ jo) (jb rfl rfl (Bin.shl_u64 _ 1 jo jo) ?_)))))))))))
  refine ja rfl (jO (jN (jv5 1 2 3 4 5 ?_)))
  refine jR (jm rfl (jm rfl (je (Run.indexA1 _ rfl rfl zes zbd jo) ?_)))
  refine Ops.st (qR.store rfl rfl zbd hbf (by simp [CU, zed]; omega) rfl) ?_
  rintro w5 ⟨hb5, hf5, hs5⟩
  refine jO ?_
  refine qK (jN ?_)
  refine jv5 1 2 3 4 5 ?_
  refine jR (jm rfl (jb rfl rfl (Bin.add_i64 _ 1 jo) (ja rfl (jO ?_))))
  refine jN ⟨(i + 1), (js5 rfl rfl rfl (by rw [fstF]; rfl) rfl), ?_, ?_⟩
  ·
   refine ⟨jo, hbc.frm hf5 (by simp; omega), hbr.frm hf5 (by simp; omega), ?_, hfr.own hf5 (eP jo)⟩
   have e : (CU fun k => if k ≤ i + 1 then fstF f k else 0).toArray = (CU fun k => if k = 0 + (i + 1) then (fstF f i + f i) * 2 ^ 1 else if k ≤ i then fstF f k else 0).toArray := by
    congr 2
    funext k
    by_cases hk : k = i + 1
    · subst hk; simp [fstF]
    by_cases hk2 : k ≤ i
    · simp [hk, hk2, show k ≤ i + 1 by omega]
    simp [hk, hk2, show ¬ k ≤ i + 1 by omega]
   rw [e, ← qW8]
   exact hb5
  first | omega | (dsimp only; omega)
 have h15 : i = 15 := jo
 subst h15
 have hfull : (CU fun k => if k ≤ 15 then fstF f k else 0).toArray = (CU (fstF f)).toArray := rfl
 rw [hfull] at hbf
 refine jX ?_
 refine qZ (qZ (qP ?_))
 refine jN (jv2 2 3 ?_)
 refine jS (jR (je (Run.loadB rfl Tryz.isAgg176 zfe (hbf) rfl) ?_))
 refine Ops.st (qR.storeA rfl rfl zfe hbr rfl (qW9 _)) ?_
 rintro w6 ⟨hb6, hf6, hs6⟩
 refine jO (jN (jv1 2 ?_))
 refine jT ?_
 refine lJ ?_
 refine eF rfl Tryz.isAgg176 zfe (hb6) rfl ?_
 refine eM ?_
 exact ⟨rfl, hfr.own hf6 (eP jo)⟩
end
section
open Go.RowKit
def CB (c : Nat × Int) : List Value := [.int .u64 ((c.1 : Nat) : Int), .int .i64 c.2]
theorem qYa (c : Nat × Int) : (CB c).length = 2 := rfl
theorem qXc (c : Nat × Int) : ∀ v ∈ CB c, v.oneCell' = true := by
 intro v hv
 simp only [CB, zcq, zcj, or_false] at hv
 rcases hv with rfl | rfl <;> rfl
def NI (l : List Nat) : List Value := l.map fun n : Nat => .int .i64 (n : Int)
theorem gN (l : List Nat) : ∀ u ∈ NI l, u.oneCell' = true := by
 intro u hu
 obtain ⟨b, _, rfl⟩ := List.mem_map.1 hu
 rfl
theorem nF (a b : List Nat) : NI (a ++ b) = NI a ++ NI b := by simp [NI]
theorem tF {w : World} {A : Option Addr} {l : List Nat} {k : Nat} (h : Rd w 1 A l.length (NI l)) (hk : k < l.length) : ∃ ad, A = some ad ∧ w.cell? (ad.add k) = some (.int .i64 ((l[k] : Nat) : Int)) := by
 obtain ⟨ad, u, hA, hu, hc⟩ := h.at1 hk
 refine ⟨ad, hA, ?_⟩
 rw [hc]
 simp [NI, hk] at hu
 rw [hu]
theorem qZ7 (l : List Int) : (List.replicate l.length [Value.int .u64 0, Value.int .i64 0]).flatten = (eJ l 0).flatMap CB := by
 have e : eJ l 0 = List.replicate l.length (0, 0) := by
  unfold eJ
  apply zap
  intro i
  by_cases h : i < l.length <;> simp [h]
 rw [e, List.flatMap_replicate]
 rfl
theorem qVg (l : List Int) (i : Nat) : (eJ l i).length = l.length := by simp [eJ]
theorem qVh (l : List Int) (i : Nat) (h : i < l.length) (k : Nat) : (l.take (i + 1)).count (k : Int) = (l.take i).count (k : Int) + if l[i] = (k : Int) then 1 else 0 := by
 rw [zaj, za h, zaq]
 simp [List.count_singleton]
theorem qJ3 (l : List Int) (i : Nat) (h : i < l.length) : l.getD i 0 = l[i] := by simp [List.getD, za h]
def nxt (l : List Int) (i n : Nat) : Nat := bU l n + if n = 0 then 0 else (l.take i).count (n : Int)
theorem nJ {l : List Int} (h : chk l ≠ 1) : fC l := by
 unfold chk at h
 by_cases hg : fC l
 · exact hg
 rw [if_pos hg] at h; exact absurd rfl h
theorem qVi (A : Option Addr) (c0 : Nat) (l : List Int) (w : World) (hl : l.length ≤ 1000000) (hr : Rd w 1 A l.length (IB l)) :
  Calls Tryz.prog 66 #[.slice A l.length c0] w fun e w' => Frm [] w w' ∧
   if chk l = 1 ∨ chk l = 8 then e = .returned (.tuple #[.slice none 0 0, .int .i64 ((chk l : Nat) : Int)])
   else ∃ B c, e = .returned (.tuple #[.slice B l.length c, .int .i64 ((0 : Nat) : Int)]) ∧ Own w' 179 2 B l.length c ((eZ l).flatMap CB) ∧ ∀ x ∈ ob B, w.heap.size ≤ x := by
 refine VC.calls (nt := 54) (res := #[.tmp 2, .tmp 3]) Tryz.func66 rfl Tryz.ntmps66 Tryz.results66 rfl ?_
 refine jS (jR (ja rfl (jz 0 (jO (jN (jv1 0 ?_))))))
 refine jS (jS (jR (jM ?_)))
 refine Ops.cl (jE1 Tryz.call100) (wK A c0 l _ jo hr) rfl ?_
 rintro e w1 ⟨rfl, hf1⟩
 refine ⟨_, rfl, ?_⟩
 refine ja rfl (jO (jN (jv2 0 4 ?_)))
 refine jS ?_
 refine VC.split1 [(0, _), (4, _)] (js2 rfl rfl) 18 (.bool (decide (chk l = 1 ∨ chk l = 8))) ?_ ?_
 ·
  by_cases hs0 : chk l = 1
  ·
   refine jR (jm rfl (jb rfl rfl (Bin.eqlN _ 1) (jM ?_)))
   refine jU ?_
   refine jU ?_
   refine je (Run.pickT rfl rfl au) (jO ?_)
   refine jN ⟨(js3 (by rw [qQt hs0]; rfl) rfl rfl), rfl⟩
  refine jR (jm rfl (jb rfl rfl (Bin.eqlN _ 1) (jM ?_)))
  refine jk (Run.mv rfl) ?_
  refine jk (Run.bin rfl rfl (Bin.eqlN _ 8)) ?_
  refine je (Run.pickF rfl rfl au) (jO ?_)
  refine jN ⟨(js3 (by rw [qQu hs0]; rfl) rfl rfl), rfl⟩
 intro Γ hΓ
 refine jN (VC.sub _ hΓ ?_)
 refine jD rfl (fun hc1 => ?_) fun hc1 => ?_
 ·
  refine jS (jR (jm rfl (ja rfl (ja rfl (jO (jN (jv2 2 3 ?_)))))))
  refine jT ?_
  refine qN (cG rfl rfl ?_)
  refine ⟨hf1, ?_⟩
  rw [if_pos hc1]
 have hgl : fC l := nJ (fun h => hc1 (.inl h))
 refine jQ (jN (jv1 0 ?_))
 refine jS (jR (jM ?_))
 refine Ops.cl (jE1 Tryz.call101) (oY A c0 l _ jo (hr.belowW hf1.below)) rfl ?_
 rintro e w2 ⟨f, rfl, hf, hgd, hf2⟩
 refine ⟨_, rfl, ?_⟩
 rw [hgd hgl] at hf ⊢
 clear hgd
 have hfr2 := hf1.own hf2 jp
 refine jm rfl (je (Run.extract rfl rfl) (je (Run.extract rfl rfl) ?_))
 refine Ops.m (qJ.alloc oU) rfl ?_
 rintro _ w3 ⟨rfl, hF3⟩
 have hb3 : Blk w3 w2.heap.size 173 (CI fun _ => 0).toArray := hF3.blk
 have hfr3 := hfr2.own hF3.frm jp
 have hg3 := hfr2.size
 refine Ops.st (qR.storeA rfl rfl zbr hb3 rfl (oE _)) ?_
 rintro w4 ⟨hb4, hf4, hs4⟩
 have hfr4 := hfr3.own hf4 (eP hg3)
 refine ja rfl (jO (jN (jv2 0 5 ?_)))
 refine jS (jR (je (Run.loadB rfl zeh zbr (hb4) rfl) ?_))
 refine Ops.cl (jE1 Tryz.call102) (uW (cn l) _ hf) rfl ?_
 rintro e w5 ⟨rfl, hf5⟩
 refine ⟨_, rfl, ?_⟩
 have hfr5 := hfr4.own hf5 jp
 refine Ops.m (qJ.alloc xN) rfl ?_
 rintro _ w6 ⟨rfl, hF6⟩
 have hb6 : Blk w6 w5.heap.size 176 (CU fun _ => 0).toArray := hF6.blk
 have hfr6 := hfr5.own hF6.frm jp
 have hg6 := hfr5.size
 refine Ops.st (qR.storeA rfl rfl zfe hb6 rfl (qW9 _)) ?_
 rintro w7 ⟨hb7, hf7, hs7⟩
 have hfr7 := hfr6.own hf7 (eP hg6)
 generalize hgn : w5.heap.size = gn at *
 refine jO (jN (jv2 0 7 ?_))
 refine jS (jR (jm rfl (je (Run.lenS rfl zf) ?_)))
 refine Ops.m (qJ.makeS rfl rfl zet (qPg) rfl jo jo) rfl ?_
 rintro _ w8 ⟨rfl, ho8, hf8, hs8⟩
 have hb8 := hb7.frm hf8 jp
 have hfr8 := hfr7.own hf8 jp
 have hg8 := hfr7.size
 have ho8 : Own w8 179 2 (some ⟨w7.heap.size, 0, none⟩) l.length l.length ((eJ l 0).flatMap CB) := by rw [← qZ7]; exact ho8
 generalize hgo : w7.heap.size = go at *
 refine ja rfl (jO (jN (jv3 0 7 8 ?_)))
 refine jS (jS (jR (jm rfl (je (Run.lenS rfl zf) ?_))))
 refine jx .i64 0 ?_
 refine jO (jN (jv5 7 8 30 31 32 ?_))
 refine jB ?_
 refine VC.loop (σ := Nat) (fun s => [(7, .pointer (some ⟨gn, 0, none⟩)), (8, .slice (some ⟨go, 0, none⟩) l.length l.length), (30, .slice A l.length c0), (31, .int .i64 ((l.length : Nat) : Int)), (32, .int .i64 s)]) (fun s wr => s ≤ l.length ∧ Blk wr gn 176 (CU (nxt l s)).toArray ∧ Own wr 179 2 (some ⟨go, 0, none⟩) l.length l.length ((eJ l s).flatMap CB) ∧ Frm [] w wr) (fun s => l.length - s) 0 (js5 (by rw [← hgn]; rfl) (by rw [← hgo]; rfl) rfl rfl rfl) ⟨jo, by
 have e : nxt l 0 = bU l := by funext n; simp [nxt]
 rw [e]; exact hb8, ho8, hfr8⟩ ?_
 rintro i wr ⟨hi, hbn, ho, hfr⟩
 refine jS (jR (jb rfl rfl (Bin.lssN _ _) (jO (jN (jS ?_)))))
 refine jD rfl (fun hc2 => ?_) fun hc2 => ?_
 ·
  obtain ⟨ad, rfl, hcell⟩ := tE (hr.belowW hfr.below) hc2
  obtain ⟨hx0, hx15⟩ := hgl.2 _ (zw hc2)
  have htc := qVh l i hc2
  have hgt := qJ3 l i hc2
  obtain ⟨m, hm⟩ : ∃ m : Nat, l[i] = (m : Int) := ⟨l[i].toNat, jo⟩
  rw [hm] at hcell htc hgt hx15
  have hsm := yE l hgl.1 m jo
  have hcm : (l.take i).count (m : Int) ≤ l.count (m : Int) := (zha i l).count_le _
  have hne : gn ≠ go := by
   intro h
   have h1 := ho.lt go (by simp [ob])
   rw [h] at hbn
   have h2 := hbn
   rcases ho.cases with ⟨h0, _⟩ | ⟨g', cur, hA, hbb, _⟩
   · cases h0
   simp only [Option.some.injEq, Addr.mk.injEq, and_true] at hA
   rw [← hA] at hbb
   have := h2.symm.trans hbb
   simp at this
  refine jQ (jN (jv5 7 8 30 31 32 ?_))
  refine jS (jB (jS (jR (jm rfl (je (Run.index1 _ rfl rfl zf zd jo) (jl rfl zg hcell (ja rfl (ja rfl (jO (jN (jv7 7 8 9 10 30 31 32 ?_)))))))))))
  refine jS (jR (jm rfl (jb rfl rfl (Bin.gtr _ 0) (jO (jN (jv8 7 8 9 10 30 31 32 38 ?_))))))
  refine VC.meet (σ := Unit) (fun s => [(7, .pointer (some ⟨gn, 0, none⟩)), (8, .slice (some ⟨go, 0, none⟩) l.length l.length), (30, .slice (some ad) l.length c0), (31, .int .i64 ((l.length : Nat) : Int)), (32, .int .i64 i)]) (fun s w9 => Blk w9 gn 176 (CU (nxt l (i + 1))).toArray ∧ Own w9 179 2 (some ⟨go, 0, none⟩) l.length l.length ((eJ l (i + 1)).flatMap CB) ∧ Frm [] w w9) ?_ ?_
  ·
   refine jD rfl (fun hc3 => ?_) fun hc3 => ?_
   ·
    have hm0 : m ≠ 0 := jo
    have hnx : nxt l i m = bU l m + (l.take i).count (m : Int) := by unfold nxt; rw [if_neg hm0]
    have hcn : cn l m = l.count (m : Int) := by unfold cn; rw [if_neg hm0]
    have hcc : cE l i = (nxt l i m, (m : Int)) := by
     unfold cE cY mK
     rw [hgt, if_neg jo, hnx, zal]
    refine jS (jR (jm rfl (jm rfl (jm rfl (je (Run.indexA1 _ rfl rfl zes zbd jo) (jl rfl zcc ((hbn.cell _).trans (by simpa using qXb _ m jo)) (jm rfl (je (Run.build (evs.cons rfl (evs.cons rfl evs.nil)) oB (kM).choose_spec.1 (kM).choose_spec.2 rfl) (je (Run.indexS _ rfl rfl zet zdv jo) ?_)))))))))
    refine Ops.st (qR.storeOwnA CB (nxt l i m, (m : Int)) i rfl rfl zdv qYa (qVg l i) ho rfl hc2 (qXc _)) ?_
    rintro w3 ⟨ho3, hf3, hs3⟩
    rw [← hcc, qVc] at ho3
    have hbn3 := hbn.frm hf3 (by simpa [ob] using hne)
    have hfr3 := hfr.own hf3 (by simp [ob]; omega)
    refine jO (jN (jv6 7 8 10 30 31 32 ?_))
    refine jR (jm rfl (je (Run.indexA1 _ rfl rfl zes zbd jo) (jl rfl zcc ((hbn3.cell _).trans (by simpa using qXb _ m jo)) (jb rfl rfl (Bin.add_u64 _ 1 jo) (je (Run.indexA1 _ rfl rfl zes zbd jo) ?_)))))
    refine Ops.st (qR.store rfl rfl zbd hbn3 (by simp [CU, zed]; omega) rfl) ?_
    rintro w4 ⟨hb4, hf4, hs4⟩
    refine jO ?_
    refine jN ⟨(), (js5 rfl rfl rfl rfl rfl), ?_⟩
    refine ⟨?_, ho3.frm hf4 (by simp [ob]; omega), hfr3.own hf4 (eP jo)⟩
    rw [qW8] at hb4
    have e : (fun k => if k = 0 + m then nxt l i m + 1 else nxt l i k) = nxt l (i + 1) := by
     funext k
     unfold nxt
     rw [htc k]
     by_cases hk : k = m
     · subst hk; simp [hm0]; omega
     have : ¬ (m : Int) = (k : Int) := jo
     simp [hk, this]
    rw [← e]
    exact hb4
   refine jQ ?_
   refine jN ⟨(), (js5 rfl rfl rfl rfl rfl), ?_⟩
   have hm0 : m = 0 := jo
   subst hm0
   refine ⟨?_, by rw [qZ6 l i (by rw [hgt]; rfl)]; exact ho, hfr⟩
   have e : nxt l (i + 1) = nxt l i := by
    funext k
    unfold nxt
    rw [htc k]
    by_cases hk : k = 0
    · simp [hk]
    have : ¬ ((0 : Nat) : Int) = (k : Int) := jo
    rw [if_neg this, zdh]
   rw [e]
   exact hbn
  rintro _ w9 ⟨hbn9, ho9, hfr9⟩ Γ hΓ
  refine qK (jN (VC.sub _ hΓ ?_))
  refine jR (jb rfl rfl (Bin.add_i64 _ 1 jo) (jm rfl (jO ?_)))
  refine jN ⟨(i + 1), (js5 rfl rfl rfl rfl rfl), ?_, ?_⟩
  · exact ⟨hc2, hbn9, ho9, hfr9⟩
  first | omega | (dsimp only; omega)
 refine jX ?_
 refine qZ (qZ (qP ?_))
 refine jN (jv1 8 ?_)
 refine jS (jR (jm rfl (ja rfl (jz 0 (jO (jN (jv2 2 3 ?_)))))))
 refine jT ?_
 refine cG rfl rfl ?_
 have hil : i = l.length := jo
 refine ⟨hfr, ?_⟩
 rw [if_neg hc1]
 rw [hil, qVd] at ho
 exact ⟨_, _, rfl, ho, by simp [ob]; omega⟩
def DC (f F : Nat → Nat) (A : Option Addr) (n c : Nat) (most : Nat) : Array Value := (CI f ++ CU F ++ [Value.slice A n c, Value.int .i64 ((most : Nat) : Int)]).toArray
theorem DC_c (f F : Nat → Nat) (A : Option Addr) (n c most k : Nat) (h : k < 16) : (DC f F A n c most)[k]? = some (.int .i64 ((f k : Nat) : Int)) := by
 unfold DC
 rw [zco, zaf (by simp [CI, CU]; omega), zaf (by simpa [CI] using h), sQ f k h]
theorem DC_f (f F : Nat → Nat) (A : Option Addr) (n c most k : Nat) (h : k < 16) : (DC f F A n c most)[16 + k]? = some (.int .u64 ((F k : Nat) : Int)) := by
 unfold DC
 have e : 16 + k - (CI f).length = k := by simp [CI]
 rw [zco, zaf (by simp [CI, CU]; omega), zah (by simp [CI]), e, qXb F k h]
def IsD (w : World) (g : Nat) (A : Option Addr) (c : Nat) (f F : Nat → Nat) (sy : List Nat) (most : Nat) : Prop :=
 Blk w g 233 (DC f F A sy.length c most) ∧ Own w 3 1 A sy.length c (NI sy)
theorem IsD.frm {w w' : World} {g : Nat} {A : Option Addr} {c : Nat} {f F : Nat → Nat} {sy : List Nat} {most : Nat} {S : List Nat} (h : IsD w g A c f F sy most) (k : Frm S w w') (hS : ∀ x ∈ g :: ob A, x ∉ S) : IsD w' g A c f F sy most :=
 ⟨h.1.frm k (hS g jp), h.2.frm k (fun x hx => hS x (by simp [hx]))⟩
def newE (l : List Int) : Nat := if chk l = 2 ∧ ((cJ l).length = 0 ∨ (cJ l).length = 1 ∧ cn l 1 = 1) then 0 else chk l
def bM (l : List Int) : Nat := if chk l = 2 then (cJ l).length else 15
theorem qYb (A : Option Addr) (c0 : Nat) (l : List Int) (w : World) (hl : l.length ≤ 1000000) (hr : Rd w 1 A l.length (IB l)) :
  Calls Tryz.prog 136 #[.slice A l.length c0] w fun e w' => Frm [] w w' ∧
   if newE l = 0 then ∃ g B c, e = .returned (.tuple #[.pointer (some ⟨g, 0, none⟩), .int .i64 ((0 : Nat) : Int)]) ∧ IsD w' g B c (cn l) (bU l) (cJ l) (bM l) ∧ ∀ x ∈ g :: ob B, w.heap.size ≤ x
   else e = .returned (.tuple #[.pointer none, .int .i64 ((newE l : Nat) : Int)]) := by
 refine VC.calls (nt := 87) (res := #[.tmp 2, .tmp 3]) Tryz.func136 rfl Tryz.ntmps136 Tryz.results136 rfl ?_
 refine jS (jR (ja rfl (jz 0 (jO (jN (jv1 0 ?_))))))
 refine jS (jR (jM ?_))
 refine Ops.cl (jE1 Tryz.call100) (wK A c0 l _ jo hr) rfl ?_
 rintro e w1 ⟨rfl, hf1⟩
 refine ⟨_, rfl, ?_⟩
 refine ja rfl (jO (jN (jv2 0 4 ?_)))
 refine jS (jR (jM ?_))
 refine Ops.cl (jE1 Tryz.call101) (oY A c0 l _ jo (hr.belowW hf1.below)) rfl ?_
 rintro e w2 ⟨f, rfl, hf, hgd, hf2⟩
 refine ⟨_, rfl, ?_⟩
 have hfr2 := hf1.own hf2 jp
 refine jm rfl (je (Run.extract rfl rfl) (je (Run.extract rfl rfl) ?_))
 refine Ops.m (qJ.alloc oU) rfl ?_
 rintro _ w3 ⟨rfl, hF3⟩
 have hb3 : Blk w3 w2.heap.size 173 (CI fun _ => 0).toArray := hF3.blk
 have hfr3 := hfr2.own hF3.frm jp
 have hg3 := hfr2.size
 refine Ops.st (qR.storeA rfl rfl zbr hb3 rfl (oE _)) ?_
 rintro w4 ⟨hb4, hf4, hs4⟩
 have hfr4 := hfr3.own hf4 (eP hg3)
 generalize hgc : w2.heap.size = gc at *
 refine ja rfl (jO (jN (jv3 0 4 5 ?_)))
 refine jS ?_
 refine VC.held (fun v => Blk v gc 173 (CI f).toArray ∧ Frm [] w v) jK ?_
 have hS : (fun v => Blk v gc 173 (CI f).toArray ∧ Frm [] w v) w4.drew := ⟨hb4.drawn (qQ.drew _), hfr4.drawn (qQ.drew _)⟩
 refine jH 0 rfl hS (fun w0 hw0 => Run.loadB rfl zeh zbr (hw0.1) rfl) ?_
 refine jH 1 rfl hS (fun w0 hw0 => Run.loadB rfl zeh zbr (hw0.1) rfl) ?_
 refine qV.cl 2 rfl jK (jE1 Tryz.call102) (uW f _ hf) trivial rfl rfl ?_
 rintro e w5 ⟨rfl, hf5⟩
 have hS : (fun v => Blk v gc 173 (CI f).toArray ∧ Frm [] w v) w5 := ⟨hS.1.frm hf5 jp, hS.2.own hf5 jp⟩
 refine ⟨_, rfl, hS, ?_⟩
 refine jH 3 rfl hS (fun w0 hw0 => Run.build (evs.cons rfl (evs.cons rfl (evs.cons rfl evs.nil))) qPj (yS).choose_spec.1 (yS).choose_spec.2 (cells := DC f (fstF f) none 0 0 15) jK) ?_
 refine qV.m 4 rfl jK (qJ.box rfl) trivial rfl rfl ?_
 rintro _ w6 ⟨rfl, hF6⟩
 have hb6 : Blk w6 w5.heap.size 233 (DC f (fstF f) none 0 0 15) := hF6.blk
 have hg6 := hS.2.size
 refine ⟨⟨hS.1.frm hF6.frm jp, hS.2.own hF6.frm jp⟩, ?_⟩
 have hbc := hS.1.frm hF6.frm jp
 have hfr6 := hS.2.own hF6.frm jp
 have hne : gc ≠ w5.heap.size := by have := hS.1.lt; omega
 generalize hgd0 : w5.heap.size = gd at *
 have hS : (fun v => Blk v gc 173 (CI f).toArray ∧ Frm [] w v) w6 := ⟨hbc, hfr6⟩
 refine jH 5 rfl hS (fun w0 hw0 => Run.asg rfl) ?_
 refine qV.done jK ?_
 refine jN (jv4 0 4 5 7 ?_)
 refine jS (jS (jR ?_))
 refine jx .i64 0 ?_
 refine jO (jN (jB ?_))
 refine VC.loop (σ := Nat × Option Addr × Nat) (fun s => [(0, .slice A l.length c0), (4, .int .i64 ((chk l : Nat) : Int)), (5, .pointer (some ⟨gc, 0, none⟩)), (7, .pointer (some ⟨gd, 0, none⟩)), (23, .int .i64 s.1)]) (fun s wr => s.1 ≤ 16 ∧ Blk wr gc 173 (CI f).toArray ∧ IsD wr gd s.2.1 s.2.2 f (fstF f) (eI l s.1) 15 ∧ Frm [] w wr ∧ ∀ x ∈ ob s.2.1, w.heap.size ≤ x) (fun s => 16 - s.1) (0, none, 0) (js5 rfl rfl (by rw [← hgc]; rfl) (by rw [← hgd0]; rfl) rfl) ⟨jo, hbc, ⟨hb6, Own.nil _ _ _⟩, hfr6, lE⟩ ?_
 rintro ⟨n, B, c⟩ wr ⟨hn, hbc, hD, hfr, huB⟩
 dsimp only at hn hbc hD hfr huB ⊢
 refine jS (jR (jb rfl rfl (Bin.lssN _ 16) (jO (jN (jS ?_)))))
 refine jD rfl (fun hc1 => ?_) fun hc1 => ?_
 ·
  refine jQ (jN (jv5 0 4 5 7 23 ?_))
  refine jS (jB (jS (jR (jm rfl (ja rfl (jO (jN (jv6 0 4 5 7 8 23 ?_))))))))
  refine jS (jR (jm rfl (je (Run.lenS rfl zf) ?_)))
  refine jx .i64 0 ?_
  refine jO (jN (jB ?_))
  refine VC.loop (σ := Nat × Option Addr × Nat) (fun s => [(0, .slice A l.length c0), (4, .int .i64 ((chk l : Nat) : Int)), (5, .pointer (some ⟨gc, 0, none⟩)), (7, .pointer (some ⟨gd, 0, none⟩)), (8, .int .i64 n), (23, .int .i64 n), (26, .slice A l.length c0), (27, .int .i64 ((l.length : Nat) : Int)), (28, .int .i64 s.1)]) (fun s wr => s.1 ≤ l.length ∧ Blk wr gc 173 (CI f).toArray ∧ IsD wr gd s.2.1 s.2.2 f (fstF f) (eI l n ++ cR l n s.1) 15 ∧ Frm [] w wr ∧ ∀ x ∈ ob s.2.1, w.heap.size ≤ x) (fun s => l.length - s.1) (0, B, c) (js9 rfl rfl rfl rfl rfl rfl rfl rfl rfl) ⟨jo, hbc, by simpa [cR] using hD, hfr, huB⟩ ?_
  clear hD hbc hfr huB
  rintro ⟨i, B, c⟩ wr ⟨hi, hbc, hD, hfr, huB⟩
  dsimp only at hi hbc hD hfr huB ⊢
  have hsl : (eI l n ++ cR l n i).length ≤ l.length := by
   rw [zb, lA]
   have h1 := qQ9 l (n + 1)
   have h2 : atL l (n + 1) = atL l n + cn l n := rfl
   by_cases hn0 : n = 0
   · subst hn0; simp [cR, atL]
   have h3 := nE l n hn0 i hi
   have h4 : (l.take i).count (n : Int) ≤ l.count (n : Int) := (zha i l).count_le _
   have h5 : cn l n = l.count (n : Int) := by unfold cn; rw [if_neg hn0]
   omega
  refine jS (jR (jb rfl rfl (Bin.lssN _ _) (jO (jN (jS ?_)))))
  refine jD rfl (fun hc2 => ?_) fun hc2 => ?_
  ·
   obtain ⟨ad, rfl, hcell⟩ := tE (hr.belowW hfr.below) hc2
   have hgt := qJ3 l i hc2
   generalize hx : l[i] = x at *
   refine jQ (jN (jv9 0 4 5 7 8 23 26 27 28 ?_))
   refine jS (jB (jS (jR (jm rfl (je (Run.index1 _ rfl rfl zf zd jo) (jl rfl zg hcell (ja rfl (ja rfl (jO (jN (jv11 0 4 5 7 8 9 10 23 26 27 28 ?_)))))))))))
   refine jS ?_
   refine VC.split1 [(0, _), (4, _), (5, _), (7, _), (8, _), (9, _), (23, _), (26, _), (27, _), (28, _)] (js10 rfl rfl rfl rfl rfl rfl rfl rfl rfl rfl) 39 (.bool (decide (x = (n : Int) ∧ 0 < n))) ?_ ?_
   ·
    by_cases hs0 : x = (n : Int)
    ·
     refine jR (jm rfl (jm rfl (jb rfl rfl (Bin.eql _ _) (jM ?_))))
     refine jk (Run.mv rfl) ?_
     refine jk (Run.bin rfl rfl (Bin.gtrN _ 0)) ?_
     refine je (Run.pickT rfl rfl au) (jO ?_)
     refine jN ⟨(js11 (by rw [qQp hs0]; rfl) rfl rfl rfl rfl rfl rfl rfl rfl rfl rfl), rfl⟩
    refine jR (jm rfl (jm rfl (jb rfl rfl (Bin.eql _ _) (jM ?_))))
    refine jU ?_
    refine jU ?_
    refine je (Run.pickF rfl rfl au) (jO ?_)
    refine jN ⟨(js11 (by rw [qQq hs0]; rfl) rfl rfl rfl rfl rfl rfl rfl rfl rfl rfl), rfl⟩
   intro Γ hΓ
   refine jN (VC.sub _ hΓ ?_)
   refine VC.meet (σ := Option Addr × Nat) (fun s => [(0, .slice (some ad) l.length c0), (4, .int .i64 ((chk l : Nat) : Int)), (5, .pointer (some ⟨gc, 0, none⟩)), (7, .pointer (some ⟨gd, 0, none⟩)), (8, .int .i64 n), (23, .int .i64 n), (26, .slice (some ad) l.length c0), (27, .int .i64 ((l.length : Nat) : Int)), (28, .int .i64 i)]) (fun s w9 => Blk w9 gc 173 (CI f).toArray ∧ IsD w9 gd s.1 s.2 f (fstF f) (eI l n ++ cR l n (i + 1)) 15 ∧ Frm [] w w9 ∧ ∀ x ∈ ob s.1, w.heap.size ≤ x) ?_ ?_
   ·
    refine jD rfl (fun hc3 => ?_) fun hc3 => ?_
    ·
     refine jR (jm rfl (jm rfl (je (Run.nilck rfl) (jf rfl zbz rfl zay (jl rfl zbu (hD.1.cell 32) (jM ?_))))))
     refine Ops.m (qJ.buildS1 rfl zf zd gF jd jd rfl rfl) rfl ?_
     rintro _ w7 ⟨rfl, hF7⟩
     have ho7 := hD.2.frm hF7.frm jp
     have hb7 := hD.1.frm hF7.frm jp
     have hrd7 : Rd w7 1 (some ⟨wr.heap.size, 0, none⟩) 1 (NI [i]) := Rd.of_blk hF7.blk rfl
     refine Ops.m (qJ.app rfl rfl zf (fT) rfl jd ho7 hrd7 (gN [i]) jo jo) rfl ?_
     rintro _ w8 ⟨A8, c8, rfl, ho8, hf8, hob8⟩
     have hb8 := hb7.frm hf8 (ho7.ne_blk hb7 jd)
     have hbc8 := (hbc.frm hF7.frm jp).frm hf8 (ho7.ne_blk (hbc.frm hF7.frm jp) jd)
     have hfr7 := hfr.own hF7.frm jp
     have hfr8 := hfr7.own hf8 huB
     have hu8 := cO huB hob8 hfr7.size
     refine je (Run.nilck rfl) (jf rfl zbz rfl zay ?_)
     refine Ops.st (qR.store rfl rfl zay hb8 rfl rfl) ?_
     rintro w9 ⟨hb9, hf9, hs9⟩
     have ho9 := ho8.frm hf9 (fun x hx hx2 => by simp at hx2; subst hx2; exact ho8.ne_blk hb8 jd hx)
     refine jO ?_
     refine jN ⟨(A8, c8), (js9 rfl rfl rfl rfl rfl rfl rfl rfl rfl), ?_⟩
     have e : eI l n ++ cR l n (i + 1) = (eI l n ++ cR l n i) ++ [i] := by
      unfold cR
      rw [if_neg jo, if_neg jo, zex, zfo, zgx (by rw [hgt]; simpa using hc3.1), zj]
      rfl
     have e2 : (eI l n ++ cR l n i ++ [i]).length = (eI l n ++ cR l n i).length + 1 := zb
     refine ⟨hbc8.frm hf9 (by simpa using hne), ?_, hfr8.own hf9 (eP jo), hu8⟩
     rw [e]
     generalize eI l n ++ cR l n i = sy at *
     refine ⟨?_, ?_⟩
     ·
      rw [e2]
      exact hb9
     rw [e2, nF]
     exact ho9
    refine jQ ?_
    refine jN ⟨(B, c), (js9 rfl rfl rfl rfl rfl rfl rfl rfl rfl), ?_⟩
    have e : cR l n (i + 1) = cR l n i := by
     unfold cR
     split
     · rfl
     rw [zex, zfo, zgy (by rw [hgt]; simp; omega)]
     simp
    rw [e]
    exact ⟨hbc, hD, hfr, huB⟩
   rintro ⟨B9, c9⟩ w9 ⟨hbc9, hD9, hfr9, hu9⟩ Γ hΓ
   refine qK (jN (VC.sub _ hΓ ?_))
   refine jR (jb rfl rfl (Bin.add_i64 _ 1 jo) (jm rfl (jO ?_)))
   refine jN ⟨(i + 1, B9, c9), (js9 rfl rfl rfl rfl rfl rfl rfl rfl rfl), ?_, ?_⟩
   · exact ⟨hc2, hbc9, hD9, hfr9, hu9⟩
   first | omega | (dsimp only; omega)
  have hil : i = l.length := jo
  have hord : eI l n ++ cR l n i = eI l (n + 1) := by rw [pM, hil]; rfl
  rw [hord] at hD
  refine jX ?_
  refine qZ (qZ (qP ?_))
  refine qK (jN ?_)
  refine jv5 0 4 5 7 23 ?_
  refine jR (jb rfl rfl (Bin.add_i64 _ 1 jo) (jm rfl (jO ?_)))
  refine jN ⟨(n + 1, B, c), (js5 rfl rfl rfl rfl rfl), ?_, ?_⟩
  · exact ⟨hc1, hbc, hD, hfr, huB⟩
  first | omega | (dsimp only; omega)
 have hn16 : n = 16 := jo
 subst hn16
 refine jX ?_
 refine qZ (qZ (qP ?_))
 refine jN (jv3 4 5 7 ?_)
 refine jS (jS ?_)
 refine VC.split1 [(4, _), (5, _), (7, _)] (js3 rfl rfl rfl) 61 (.bool (decide (chk l = 2 ∧ (cJ l).length = 0))) ?_ ?_
 ·
  by_cases hs0 : chk l = 2
  ·
   refine jR (jm rfl (jb rfl rfl (Bin.eqlN _ 2) (jM ?_)))
   refine jk (Run.mv rfl) ?_
   refine jk (Run.nilck rfl) ?_
   refine jk (Run.fieldAddr rfl zbz rfl zay jd) ?_
   refine jk (Run.load rfl zbu (hD.1.cell 32)) ?_
   refine jk (Run.lenS rfl zf) ?_
   refine jk (Run.bin rfl rfl (Bin.eqlN _ 0)) ?_
   refine je (Run.pickT rfl rfl au) (jO ?_)
   refine jN ⟨(js4 (by rw [qQp hs0]; rfl) rfl rfl rfl), rfl⟩
  refine jR (jm rfl (jb rfl rfl (Bin.eqlN _ 2) (jM ?_)))
  refine jU ?_
  refine jU ?_
  refine jU ?_
  refine jU ?_
  refine jU ?_
  refine jU ?_
  refine je (Run.pickF rfl rfl au) (jO ?_)
  refine jN ⟨(js4 (by rw [qQq hs0]; rfl) rfl rfl rfl), rfl⟩
 intro Γ hΓ
 refine jN (VC.sub _ hΓ ?_)
 refine VC.meet (σ := Unit) (fun s => [(4, .int .i64 (((if chk l = 2 ∧ (cJ l).length = 0 then 0 else chk l) : Nat) : Int)), (5, .pointer (some ⟨gc, 0, none⟩)), (7, .pointer (some ⟨gd, 0, none⟩))]) (fun s w9 => Blk w9 gc 173 (CI f).toArray ∧ IsD w9 gd B c f (fstF f) (cJ l) (if chk l = 2 ∧ (cJ l).length = 0 then 0 else 15) ∧ Frm [] w w9) ?_ ?_
 ·
  refine jD rfl (fun hc4 => ?_) fun hc4 => ?_
  ·
   refine jR (jm rfl (je (Run.nilck rfl) (jf rfl zbz rfl zd ?_)))
   refine Ops.st (qR.store rfl rfl zd hD.1 rfl rfl) ?_
   rintro w9 ⟨hb9, hf9, hs9⟩
   have ho9 := hD.2.frm hf9 (fun x hx hx2 => by simp at hx2; subst hx2; exact hD.2.ne_blk hD.1 jd hx)
   refine jz 0 (jO ?_)
   refine jN ⟨(), (js3 (by rw [if_pos hc4]; rfl) rfl rfl), ?_⟩
   rw [if_pos hc4]
   exact ⟨hbc.frm hf9 (by simpa using hne), ⟨hb9, ho9⟩, hfr.own hf9 (eP jo)⟩
  refine jQ ?_
  refine jN ⟨(), (js3 (by rw [if_neg hc4]; rfl) rfl rfl), ?_⟩
  rw [if_neg hc4]
  exact ⟨hbc, hD, hfr⟩
 rintro _ w4 ⟨hbc4, hD4, hfr4⟩ Γ hΓ
 generalize he4 : (if chk l = 2 ∧ (cJ l).length = 0 then 0 else chk l) = e4 at *
 generalize hm4 : (if chk l = 2 ∧ (cJ l).length = 0 then 0 else 15) = m4 at *
 refine jN (VC.sub _ hΓ (jS (jS ?_)))
 refine VC.split1 [(4, _), (7, _)] (js2 rfl rfl) 79 (.bool (decide (e4 = 2 ∧ (cJ l).length = 1 ∧ f 1 = 1))) ?_ ?_
 ·
  refine jR ?_
  refine jm rfl (jb rfl rfl (Bin.eqlN _ 2) ?_)
  by_cases hs66 : e4 = 2
  ·
   refine jM ?_
   refine jk (Run.mv rfl) ?_
   refine jk (Run.nilck rfl) ?_
   refine jk (Run.fieldAddr rfl zbz rfl zay jd) ?_
   refine jk (Run.load rfl zbu (hD4.1.cell 32)) ?_
   refine jk (Run.lenS rfl zf) ?_
   refine jk (Run.bin rfl rfl (Bin.eqlN _ 1)) ?_
   by_cases hs73 : (cJ l).length = 1
   ·
    refine je (Run.pickT rfl rfl au) (jM ?_)
    refine jk (Run.indexA1 1 rfl rfl zdt zd jo) ?_
    refine jk (Run.load rfl zg ((hbc4.cell _).trans (by simpa using sQ f 1 jo))) ?_
    refine jk (Run.bin rfl rfl (Bin.eqlN _ 1)) ?_
    by_cases hs78 : f 1 = 1
    ·
     refine je (Run.pickT rfl rfl au) (jO ?_)
     refine jN ⟨(js3 (jC (by simp [*])) rfl rfl), rfl⟩
    refine je (Run.pickT rfl rfl au) (jO ?_)
    refine jN ⟨(js3 (jC (by simp [*])) rfl rfl), rfl⟩
   refine je (Run.pickT rfl rfl au) (jM ?_)
   refine jU ?_
   refine jU ?_
   refine jU ?_
   refine je (Run.pickF rfl rfl au) (jO ?_)
   refine jN ⟨(js3 (jC (by simp [*])) rfl rfl), rfl⟩
  refine jM ?_
  refine jU ?_
  refine jU ?_
  refine jU ?_
  refine jU ?_
  refine jU ?_
  refine jU ?_
  refine je (Run.pickF rfl rfl au) (jM ?_)
  refine jU ?_
  refine jU ?_
  refine jU ?_
  refine je (Run.pickF rfl rfl au) (jO ?_)
  refine jN ⟨(js3 (jC (by simp [*])) rfl rfl), rfl⟩
 intro Γ hΓ
 refine jN (VC.sub _ hΓ ?_)
 refine jD rfl (fun hc5 => ?_) fun hc5 => ?_
 ·
  obtain ⟨he2, hl1, hf1'⟩ := hc5
  subst he2
  have hch : chk l = 2 := by split at he4 <;> omega
  have hfg := hgd (nJ jo)
  subst hfg
  have hnew : newE l = 0 := by unfold newE; rw [if_pos ⟨hch, .inr ⟨hl1, hf1'⟩⟩]
  refine jR (jm rfl (je (Run.nilck rfl) (jf rfl zbz rfl zd ?_)))
  refine Ops.st (qR.store rfl rfl zd hD4.1 rfl rfl) ?_
  rintro w9 ⟨hb9, hf9, hs9⟩
  have ho9 := hD4.2.frm hf9 (fun x hx hx2 => by simp at hx2; subst hx2; exact hD4.2.ne_blk hD4.1 jd hx)
  refine jz 0 (jO (jN (jv2 4 7 ?_)))
  refine jS (jS (jR (jm rfl (jb rfl rfl (Bin.neqN _ 0) (jO (jN (jv3 4 7 84 ?_)))))))
  refine VC.condF rfl jp ?_
  refine jQ (jN (jv1 7 ?_))
  refine jS (jR (jm rfl (ja rfl (jz 0 (jO (jN (jv2 2 3 ?_)))))))
  refine jT ?_
  refine cG rfl rfl ?_
  refine ⟨hfr4.own hf9 (eP jo), ?_⟩
  rw [if_pos hnew]
  refine ⟨gd, B, c, rfl, ⟨?_, ho9⟩, tT jo huB⟩
  have hm : bM l = 1 := by unfold bM; rw [if_pos hch]; exact hl1
  rw [hm]
  exact hb9
 refine jQ (jN (jv2 4 7 ?_))
 refine jS (jS (jR (jm rfl (jb rfl rfl (Bin.neqN _ 0) (jO (jN (jv3 4 7 84 ?_)))))))
 refine jD rfl (fun hc6 => ?_) fun hc6 => ?_
 ·
  have hnew : newE l = e4 := by
   unfold newE
   split at he4
   · omega
   rename_i h
   rw [if_neg, he4]
   rintro ⟨h1, h2⟩
   have hfg := hgd (nJ jo)
   rcases h2 with h2 | ⟨h2, h3⟩
   · exact h ⟨h1, h2⟩
   exact hc5 ⟨jo, h2, by rw [hfg]; exact h3⟩
  refine jS (jR (jm rfl (ja rfl (ja rfl (jO (jN (jv2 2 3 ?_)))))))
  refine jT ?_
  refine qN (cG rfl rfl ?_)
  refine ⟨hfr4, ?_⟩
  rw [if_neg jo, hnew]
 have hnew : newE l = 0 := by
  unfold newE
  split
  · rfl
  rename_i h
  split at he4
  · rename_i h2; exact absurd ⟨h2.1, .inl h2.2⟩ h
  omega
 have hch : chk l ≠ 1 := by
  intro h
  unfold newE at hnew
  rw [h, if_neg jo] at hnew
  omega
 have hfg := hgd (nJ hch)
 subst hfg
 have hmost : m4 = bM l := by
  unfold bM
  split at he4
  · rename_i h; rw [if_pos h] at hm4; rw [if_pos h.1]; omega
  rename_i h; rw [if_neg h] at hm4; rw [if_neg jo]; omega
 refine jQ (jN (jv1 7 ?_))
 refine jS (jR (jm rfl (ja rfl (jz 0 (jO (jN (jv2 2 3 ?_)))))))
 refine jT ?_
 refine cG rfl rfl ?_
 refine ⟨hfr4, ?_⟩
 rw [if_pos hnew]
 refine ⟨gd, B, c, rfl, ?_, tT jo huB⟩
 rw [← hmost]
 exact hD4
end
section
open Go.RowKit
def BL (l : List Bool) : List Value := l.map Value.bool
theorem qSu (xs : List Nat) (h : ∀ x ∈ xs, x < 256) : NB xs = U8 (xs.map UInt8.ofNat) := by
 simp only [NB, U8, zdg]
 apply zcx
 intro x hx
 have := h x hx
 simp
 omega
end
section
open Go.RowKit
def qNz (bs : List Nat) (p : Nat) (n : Int) (v e p' : Nat) : Prop :=
 (n < 0 ∨ 32 < n) ∧ v = 0 ∧ e = 1 ∧ p' = p ∨ ∃ m : Nat, n = m ∧ m ≤ 32 ∧ (8 * bs.length - p < m ∧ v = 0 ∧ e = 2 ∧ p' = p ∨ m ≤ 8 * bs.length - p ∧ v = num (((ofB bs).drop p).take m) ∧ e = 0 ∧ p' = p + m)
theorem qXd (g p : Nat) (n : Int) (A : Option Addr) (bs : List Nat) (w : World) (hp : p ≤ 8 * bs.length) (hbs : bs.length ≤ 1000000000) (hB : ∀ b ∈ bs, b < 256) (hR : IsR w g A bs p) :
  Calls Tryz.prog 131 #[.pointer (some ⟨g, 0, none⟩), .int .i64 n] w fun e w' => ∃ v k p', e = .returned (.tuple #[.int .u64 ((v : Nat) : Int), .int .i64 ((k : Nat) : Int)]) ∧ qNz bs p n v k p' ∧ p' ≤ 8 * bs.length ∧ IsR w' g A bs p' ∧ Frm [g] w w' := by
 by_cases h1 : n < 0
 · exact (qH2 g n w h1).mono fun e w' ⟨he, hw⟩ => by subst hw; exact ⟨0, 1, p, he, .inl ⟨.inl h1, rfl, rfl, rfl⟩, hp, hR, Frm.refl _ _⟩
 by_cases h2 : 32 < n
 · exact (qH3 g n w h2).mono fun e w' ⟨he, hw⟩ => by subst hw; exact ⟨0, 1, p, he, .inl ⟨.inr h2, rfl, rfl, rfl⟩, hp, hR, Frm.refl _ _⟩
 obtain ⟨m, rfl⟩ : ∃ m : Nat, n = m := ⟨n.toNat, jo⟩
 by_cases h3 : 8 * bs.length - p < m
 · exact (qVa g m p A bs w hp hbs hR jo h3).mono fun e w' ⟨he, hd⟩ => ⟨0, 2, p, he, .inr ⟨m, rfl, jo, .inl ⟨h3, rfl, rfl, rfl⟩⟩, hp, hR.frm hd.frm jp, hd.frm.mono jp⟩
 exact (qPp g m p A bs w hp hbs hB hR jo jo).mono fun e w' ⟨he, hR', hf⟩ => ⟨_, 0, p + m, he, .inr ⟨m, rfl, jo, .inr ⟨jo, rfl, rfl, rfl⟩⟩, jo, hR', hf⟩
def OctR (w' : World) (bs : List Nat) (p : Nat) (n : Int) (B : Option Addr) (nl c e p' : Nat) : Prop :=
 n < 0 ∧ nl = 0 ∧ e = 1 ∧ p' = (p + 7) / 8 * 8 ∨ ∃ m : Nat, n = m ∧ ((8 * bs.length - (p + 7) / 8 * 8) / 8 < m ∧ nl = 0 ∧ e = 2 ∧ p' = (p + 7) / 8 * 8 ∨ m ≤ (8 * bs.length - (p + 7) / 8 * 8) / 8 ∧ nl = m ∧ e = 0 ∧ p' = (p + 7) / 8 * 8 + 8 * m ∧ Own w' 5 1 B m c (NB ((bs.drop ((p + 7) / 8)).take m)))
theorem qVj (g p : Nat) (n : Int) (A : Option Addr) (bs : List Nat) (w : World) (hp : p ≤ 8 * bs.length) (hbs : bs.length ≤ 1000000000) (hR : IsR w g A bs p) :
  Calls Tryz.prog 134 #[.pointer (some ⟨g, 0, none⟩), .int .i64 n] w fun e w' => ∃ B nl c k p', e = .returned (.tuple #[.slice B nl c, .int .i64 ((k : Nat) : Int)]) ∧ OctR w' bs p n B nl c k p' ∧ p' ≤ 8 * bs.length ∧ IsR w' g A bs p' ∧ Frm [g] w w' := by
 by_cases h1 : n < 0
 · exact (qVb g n p A bs w hp hbs hR h1).mono fun e w' ⟨he, hR', hf⟩ => ⟨none, 0, 0, 1, _, he, .inl ⟨h1, rfl, rfl, rfl⟩, jo, hR', hf⟩
 obtain ⟨m, rfl⟩ : ∃ m : Nat, n = m := ⟨n.toNat, jo⟩
 by_cases h3 : (8 * bs.length - (p + 7) / 8 * 8) / 8 < m
 · exact (qQ7 g m p A bs w hp hbs hR h3).mono fun e w' ⟨he, hR', hf⟩ => ⟨none, 0, 0, 2, _, he, .inr ⟨m, rfl, .inl ⟨h3, rfl, rfl, rfl⟩⟩, jo, hR', hf⟩
 exact (qW6 g m p A bs w hp hbs hR jo).mono fun e w' ⟨B, c, he, ho, hR', hf, _⟩ => ⟨B, m, c, 0, _, he, .inr ⟨m, rfl, .inr ⟨jo, rfl, rfl, rfl, ho⟩⟩, jo, hR', hf⟩
theorem oF (l : List Nat) (p m : Nat) (h : p + m ≤ l.length) {w : World} {A : Option Addr} {c : Nat} (hr : Rd w 1 A l.length (NB l)) (hc : l.length ≤ c) :
  Rd w 1 (cP A c p 1) ((l.drop p).take m).length (NB ((l.drop p).take m)) := by
 have e := hr.cut (l := p) (r := p + m) (cap := c) jo h hc
 have e1 : ((l.drop p).take m).length = p + m - p := by simp; omega
 have e2 : NB ((l.drop p).take m) = ((NB l).drop (p * 1)).take ((p + m - p) * 1) := by simp [NB, zeg, List.map_drop]
 rw [e1, e2]
 exact e
end
section
open Go.RowKit
def sX (l : List Int) : Nat := (l.map fun x => if 0 < x then 2 ^ (15 - x.toNat) else 0).sum
theorem pP {f h : Nat → Nat} : ∀ i, (∀ k, k < i → f k = h k) → KC f i = KC h i
 | 0, _ => rfl
 | i + 1, e => by rw [KC, KC, pP i (fun k hk => e k jo), e i jo]
theorem qYc (f h : Nat → Nat) : ∀ i, KC (fun k => f k + h k) i = KC f i + KC h i
 | 0 => rfl
 | i + 1 => by rw [KC, KC, KC, qYc f h i, zfr]; omega
theorem qJ4 : ∀ i, KC (fun _ => 0) i = 0
 | 0 => rfl
 | i + 1 => by rw [KC, qJ4 i, zff]
theorem qYd (m : Nat) : ∀ i, KC (fun k => if k = m then 1 else 0) i = if m < i then 2 ^ (15 - m) else 0
 | 0 => by simp [KC]
 | i + 1 => by
  rw [KC, qYd m i]
  by_cases h : i = m
  · subst h; simp
  by_cases h2 : m < i
  · simp [h, h2, show m < i + 1 by omega]
  simp [h, h2, show ¬ m < i + 1 by omega]
theorem qJ5 (l : List Int) (h : ∀ x ∈ l, 0 ≤ x ∧ x ≤ 15) : KC (cn l) 16 = sX l := by
 induction l with
 | nil =>
  have e : KC (cn []) 16 = KC (fun _ => 0) 16 := pP 16 (fun k _ => by simp [cn])
  rw [e, qJ4]; rfl
 | cons a r ih =>
  have ha := h a jp
  obtain ⟨m, rfl⟩ : ∃ m : Nat, a = m := ⟨a.toNat, jo⟩
  have ih := ih (fun x hx => h x (by simp [hx]))
  by_cases hm : m = 0
  ·
   subst hm
   have e : KC (cn (((0 : Nat) : Int) :: r)) 16 = KC (cn r) 16 := pP 16 (fun k _ => by
    unfold cn
    split
    · rfl
    rename_i hk
    rw [zgq]
    have : ¬ (((0 : Nat) : Int) == (k : Int)) = true := by simp; omega
    rw [if_neg this, zdh])
   rw [e, ih]
   simp [sX]
  have e : KC (cn ((m : Int) :: r)) 16 = KC (fun k => (if k = m then 1 else 0) + cn r k) 16 := pP 16 (fun k _ => by
   unfold cn
   by_cases hk : k = 0
   · simp [hk]; omega
   rw [if_neg hk, if_neg hk, zgq]
   by_cases hkm : k = m
   · subst hkm; simp; omega
   have : ¬ ((m : Int) == (k : Int)) = true := by simp; omega
   rw [if_neg this, if_neg hkm]; omega)
  rw [e, qYc, qYd, if_pos jo, ih]
  unfold sX
  rw [zbj, zel, if_pos jo, zal]
theorem qYe (l : List Int) (i : Nat) (h : i < l.length) : sX (l.take (i + 1)) = sX (l.take i) + if 0 < l[i] then 2 ^ (15 - l[i].toNat) else 0 := by
 unfold sX
 rw [zaj, za h]
 simp only [Option.toList_some, zbx, zgr, zbj, List.map_nil, zel, List.sum_nil, zdh]
end
section
open Go.RowKit
theorem qXe {l : List Int} {n v : Nat} (h : ¬ (bU l n ≤ v ∧ v - bU l n < cn l n)) : hit l n v = none := by unfold hit; rw [if_neg h]
theorem qH5 {l : List Int} {n v : Nat} (h : bU l n ≤ v ∧ v - bU l n < cn l n) : hit l n v = some ((cJ l).getD (atL l n + (v - bU l n)) 0) := by unfold hit; rw [if_pos h]
theorem qR5 (v : Nat) (b : Bool) : (v * 2 ^ 1) ||| b.toNat = 2 * v + b.toNat := by
 have h := qQ1 b.toNat 1 true (by cases b <;> decide)
 have h2 : (v * 2 ^ 1) ||| b.toNat = v * 2 ^ 1 + b.toNat := by
  rw [zcf, ← zgh (by cases b <;> decide)]
 rw [h2]
 omega
theorem qVk (g gr : Nat) (B Ar : Option Addr) (c : Nat) (l : List Int) (most p : Nat) (bs : List Nat) (w : World) (hl : l.length ≤ 320) (hm : most ≤ 15) (hp : p ≤ 8 * bs.length) (hbs : bs.length ≤ 1000000000) (hB : ∀ b ∈ bs, b < 256)
  (hD : IsD w g B c (cn l) (bU l) (cJ l) most) (hR : IsR w gr Ar bs p) :
  Calls Tryz.prog 146 #[.pointer (some ⟨g, 0, none⟩), .pointer (some ⟨gr, 0, none⟩)] w fun e w' => e = .returned (.tuple #[.int .i64 (((tk l (ofB bs) most 1 0 p).1 : Nat) : Int), .int .i64 (((tk l (ofB bs) most 1 0 p).2.2 : Nat) : Int)]) ∧
   (tk l (ofB bs) most 1 0 p).2.1 ≤ 8 * bs.length ∧ IsR w' gr Ar bs (tk l (ofB bs) most 1 0 p).2.1 ∧ Frm [gr] w w' := by
 have hgr : g ≠ gr := hD.1.ne hR.choose_spec.1 jd
 have hgB : gr ∉ ob B := hD.2.ne_blk hR.choose_spec.1 jd
 have hne : ∀ x ∈ g :: ob B, x ∉ [gr] := by
  intro x hx hx2
  simp at hx2
  subst hx2
  rcases zcq.1 hx with h | h
  · exact hgr h.symm
  exact hgB h
 generalize hT : tk l (ofB bs) most 1 0 p = R
 have holen := lA l 16
 have hbl := cW bs
 refine VC.calls (nt := 77) (res := #[.tmp 4, .tmp 5]) Tryz.func146 rfl Tryz.ntmps146 Tryz.results146 rfl ?_
 refine jS (jR (jz 0 (jz 0 (jO (jN (jv2 0 1 ?_))))))
 refine jS (jR ?_)
 refine jy .u64 0 ?_
 refine jz 0 (jO (jN (jS (jS (jR (jz 1 (jO (jN (jB ?_)))))))))
 refine VC.loop (σ := Nat × Nat × Nat × Nat) (fun s => [(0, .pointer (some ⟨g, 0, none⟩)), (1, .pointer (some ⟨gr, 0, none⟩)), (6, .int .u64 ((s.2.2.1 : Nat) : Int)), (7, .int .i64 ((atL l s.2.1 : Nat) : Int)), (8, .int .i64 ((s.2.1 : Nat) : Int))]) (fun s wr => s.1 + s.2.1 = most + 1 ∧ 1 ≤ s.2.1 ∧ s.2.2.1 < 2 ^ (s.2.1 - 1) ∧ s.2.2.2 ≤ 8 * bs.length ∧ tk l (ofB bs) s.1 s.2.1 s.2.2.1 s.2.2.2 = R ∧ IsR wr gr Ar bs s.2.2.2 ∧ IsD wr g B c (cn l) (bU l) (cJ l) most ∧ Frm [gr] w wr) (fun s => s.1) (most, 1, 0, p) (js5 rfl rfl rfl (by rw [show atL l 1 = 0 by simp [atL, cn]]; rfl) rfl) ⟨rfl, zk 1, jp, hp, hT, hR, hD, Frm.refl _ _⟩ ?_
 clear hT hR hp hD
 rintro ⟨m, n, v, q⟩ wr ⟨hmn, hn1, hv, hq, hT, hR, hD, hfr⟩
 dsimp only at hmn hn1 hv hq hT hR hD hfr ⊢
 refine jS (jS (jR (jm rfl (jm rfl (je (Run.nilck rfl) (jf rfl zbz rfl zd (jl rfl zg (hD.1.cell 33) (jb rfl rfl (Bin.leqN _ _) (jO (jN (jv6 0 1 6 7 8 17 ?_)))))))))))
 refine jD rfl (fun hc1 => ?_) fun hc1 => ?_
 ·
  obtain ⟨m, rfl⟩ : ∃ k, m = k + 1 := ⟨m - 1, jo⟩
  have hpw : 2 ^ (n - 1) ≤ 2 ^ 14 := zae jo jo
  have hpn : 2 ^ n = 2 ^ (n - 1) * 2 := by rw [← zbt]; congr 1; omega
  have hsm := yE l hl n jo
  have hat := qQ9 l (n + 1)
  have hat2 : atL l (n + 1) = atL l n + cn l n := rfl
  have hat16 := qH4 l (jo : n + 1 ≤ 16)
  refine jQ (jN (jv5 0 1 6 7 8 ?_))
  refine jS (jB (jS (jR (jM ?_))))
  refine Ops.cl (jE2 Tryz.call131) (qXd gr q 1 Ar bs _ hq jo hB hR) rfl ?_
  rintro e w4 ⟨b0, e4, q4, rfl, hTk, hq4, hR4, hf4⟩
  refine ⟨_, rfl, ?_⟩
  have hD4 := hD.frm hf4 hne
  have hfr4 := hfr.trans hf4 jp
  obtain ⟨k1, hk1, _, hTk⟩ := hTk.resolve_left jo
  have hk1 : k1 = 1 := jo
  subst hk1
  refine jm rfl (je (Run.extract rfl rfl) (je (Run.extract rfl rfl) (ja rfl (ja rfl (jO (jN (jv7 0 1 6 7 8 9 10 ?_)))))))
  refine jS (jS (jR (jm rfl (jb rfl rfl (Bin.neqN _ 0) (jO (jN (jv8 0 1 6 7 8 9 10 26 ?_)))))))
  refine jD rfl (fun hc2 => ?_) fun hc2 => ?_
  ·
   obtain ⟨hq5, rfl, rfl, rfl⟩ := hTk.resolve_right (fun h => by have := h.2.2.1; omega)
   have hnone : (ofB bs)[q4]? = none := zr jo
   rw [tk, hnone] at hT
   dsimp only at hT
   subst hT
   refine jS (jR (jm rfl (jz 0 (ja rfl (jO (jN (jv2 4 5 ?_)))))))
   refine jT ?_
   refine qN (qD (qN (qN (qD (qN (cG rfl rfl ?_))))))
   exact ⟨rfl, hq4, hR4, hfr4⟩
  obtain ⟨hq5, hb0, _, rfl⟩ := hTk.resolve_left (fun h => by have := h.2.2.1; omega)
  obtain ⟨b, hb⟩ : ∃ b, (ofB bs)[q]? = some b := ⟨_, za (jo : q < (ofB bs).length)⟩
  have hb0e : b0 = b.toNat := by rw [hb0, qSt _ _ _ hb]; simp [num]
  clear hb0
  subst hb0e
  have hb1 : b.toNat ≤ 1 := Bool.toNat_le _
  rw [tk, hb] at hT
  dsimp only at hT
  refine jQ (jN (jv6 0 1 6 7 8 9 ?_))
  refine jS (jR (jm rfl (jb rfl rfl (Bin.shl_u64 _ 1 jo jo) (jm rfl (jb rfl rfl (Bin.or_u64 _ _ jo jo) ?_)))))
  rw [qR5]
  refine ja rfl (jO (jN (jv5 0 1 6 7 8 ?_)))
  refine jS (jS (jR (jm rfl (jm rfl (jm rfl (je (Run.nilck rfl) (jf rfl zbz rfl zfe (je (Run.indexA1 _ rfl rfl zes zbd jo) (jl rfl zcc (by simpa using (hD4.1.cell (16 + n)).trans (DC_f _ _ _ _ _ _ n jo)) (jb rfl rfl (Bin.subU _ _ jo) ?_))))))))))
  refine ja rfl (jO (jN (jv6 0 1 6 7 8 11 ?_)))
  refine jS ?_
  refine VC.split1 [(0, _), (1, _), (6, _), (7, _), (8, _), (11, _)] (js6 rfl rfl rfl rfl rfl rfl) 58 (.bool (decide (bU l n ≤ 2 * v + b.toNat ∧ 2 * v + b.toNat - bU l n < cn l n))) ?_ ?_
  ·
   refine jR ?_
   refine jm rfl (jm rfl (jm rfl (je (Run.nilck rfl) (jf rfl zbz rfl zfe (je (Run.indexA1 _ rfl rfl zes zbd jo) (jl rfl zcc (by simpa using (hD4.1.cell (16 + n)).trans (DC_f _ _ _ _ _ _ n jo)) (jb rfl rfl (Bin.geqN _ _) ?_)))))))
   by_cases hs47 : bU l n ≤ 2 * v + b.toNat
   ·
    have hsub : (2 * v + b.toNat + 18446744073709551616 - bU l n) % 18446744073709551616 = 2 * v + b.toNat - bU l n := jo
    refine jM ?_
    refine jk (Run.mv rfl) ?_
    refine jk (Run.mv rfl) ?_
    refine jk (Run.mv rfl) ?_
    refine jk (Run.nilck rfl) ?_
    refine jk (Run.fieldAddr rfl zbz rfl zbr jd) ?_
    refine jk (Run.indexA1 _ rfl rfl zdt zd jo) ?_
    refine jk (Run.load rfl zg (by simpa using (hD4.1.cell n).trans (DC_c _ _ _ _ _ _ n jo))) ?_
    refine jk (Run.convN _ rfl zx zab (by simp only [bmax]; omega)) ?_
    refine jk (Run.bin rfl rfl (Bin.lssN _ _)) ?_
    by_cases hs57 : 2 * v + b.toNat - bU l n < cn l n
    ·
     refine je (Run.pickT rfl rfl au) (jO ?_)
     refine jN ⟨(js7 (jC (by simp [*])) rfl rfl rfl rfl rfl rfl), rfl⟩
    refine je (Run.pickT rfl rfl au) (jO ?_)
    refine jN ⟨(js7 (jC (by simp [*])) rfl rfl rfl rfl rfl rfl), rfl⟩
   refine jM ?_
   refine jU ?_
   refine jU ?_
   refine jU ?_
   refine jU ?_
   refine jU ?_
   refine jU ?_
   refine jU ?_
   refine jU ?_
   refine jU ?_
   refine je (Run.pickF rfl rfl au) (jO ?_)
   refine jN ⟨(js7 (jC (by simp [*])) rfl rfl rfl rfl rfl rfl), rfl⟩
  intro Γ hΓ
  refine jN (VC.sub _ hΓ ?_)
  refine jD rfl (fun hc3 => ?_) fun hc3 => ?_
  ·
   have hsub : (2 * v + b.toNat + 18446744073709551616 - bU l n) % 18446744073709551616 = 2 * v + b.toNat - bU l n := jo
   rw [qH5 hc3] at hT
   dsimp only at hT
   subst hT
   have hlt : atL l n + (2 * v + b.toNat - bU l n) < (cJ l).length := by unfold cJ; rw [holen]; omega
   obtain ⟨ad, rfl, hcell⟩ := tF hD4.2.rd hlt
   refine jS (jR (jm rfl (je (Run.nilck rfl) (jf rfl zbz rfl zay (jl rfl zbu (hD4.1.cell 32) (jm rfl (jm rfl (je (Run.convN _ rfl zab zx (by simp only [bmax]; omega)) (jb rfl rfl (Bin.add_i64 _ _ jo) (je (Run.index1 _ rfl rfl zf zd jo) (jl rfl zg (by rw [hsub]; exact hcell) (ja rfl (jz 0 (jO (jN (jv2 4 5 ?_))))))))))))))))
   refine jT ?_
   refine qN (qD (qN (qN (qD (qN (cG rfl rfl ?_))))))
   refine ⟨?_, hq4, hR4, hfr4⟩
   rw [zc, za hlt]
   rfl
  rw [qXe hc3] at hT
  dsimp only at hT
  refine jQ (jN (jv5 0 1 6 7 8 ?_))
  refine jR (jm rfl (jm rfl (jm rfl (je (Run.nilck rfl) (jf rfl zbz rfl zbr (je (Run.indexA1 _ rfl rfl zdt zd jo) (jl rfl zg (by simpa using (hD4.1.cell n).trans (DC_c _ _ _ _ _ _ n jo)) (jb rfl rfl (Bin.add_i64 _ _ jo) ?_))))))))
  refine ja rfl (jO ?_)
  refine qK (jN ?_)
  refine jv5 0 1 6 7 8 ?_
  refine jR (jm rfl (jb rfl rfl (Bin.add_i64 _ 1 jo) (ja rfl (jO ?_))))
  refine jN ⟨(m, n + 1, 2 * v + b.toNat, q + 1), (js5 rfl rfl rfl rfl rfl), ?_, ?_⟩
  · exact ⟨by dsimp only; omega, by dsimp only; omega, by dsimp only; rw [zfp]; omega, hq4, hT, hR4, hD4, hfr4⟩
  first | omega | (dsimp only; omega)
 have hm0 : m = 0 := jo
 subst hm0
 rw [tk] at hT
 subst hT
 refine jX ?_
 refine qZ (qZ (qP ?_))
 refine jN ?_
 refine VC.sub [] .nil ?_
 refine jS (jR (jz 0 (jz 11 (jO (jN (jT ?_))))))
 refine cG rfl rfl ?_
 exact ⟨rfl, hq, hR, hfr⟩
end
section
open Go.RowKit
def lgM (bs : List Nat) : Nat → Nat → Nat → Nat
 | _, _, 0 => 0
 | f, a, m + 1 => if a < bs.length ∧ bs.getD f 0 = bs.getD a 0 then lgM bs (f + 1) (a + 1) m + 1 else 0
def longM (bs : List Nat) (f a : Nat) : Nat := lgM bs f a 258
theorem qYf (bs : List Nat) : ∀ m f a, lgM bs f a m ≤ m
 | 0, _, _ => zk _
 | m + 1, f, a => by
  unfold lgM
  split
  · have := qYf bs m (f + 1) (a + 1); omega
  omega
theorem qJ6 (bs : List Nat) : ∀ m f a, a ≤ bs.length → a + lgM bs f a m ≤ bs.length
 | 0, _, _, h => h
 | m + 1, f, a, h => by
  unfold lgM
  split
  ·
   rename_i h1
   have := qJ6 bs m (f + 1) (a + 1) jo; omega
  omega
theorem qXf (bs : List Nat) : ∀ m f a k, k ≤ m → (k ≤ lgM bs f a m ↔ ∀ j, j < k → a + j < bs.length ∧ bs.getD (f + j) 0 = bs.getD (a + j) 0)
 | 0, f, a, k, hk => by
  obtain rfl : k = 0 := jo
  simp
 | m + 1, f, a, 0, hk => jp
 | m + 1, f, a, k + 1, hk => by
  unfold lgM
  by_cases h : a < bs.length ∧ bs.getD f 0 = bs.getD a 0
  ·
   rw [if_pos h]
   have ih := qXf bs m (f + 1) (a + 1) k jo
   constructor
   ·
    intro h1 j hj
    cases j with
    | zero => exact h
    | succ j =>
     have := ih.1 jo j jo
     rw [show f + 1 + j = f + (j + 1) by omega, show a + 1 + j = a + (j + 1) by omega] at this
     exact this
   intro h1
   have := ih.2 (fun j hj => by
    have := h1 (j + 1) jo
    rw [show f + 1 + j = f + (j + 1) by omega, show a + 1 + j = a + (j + 1) by omega]
    exact this)
   omega
  rw [if_neg h]
  constructor
  · intro h1; omega
  intro h1; exact absurd (h1 0 jo) h
theorem qXg (bs : List Nat) (f a : Nat) : longM bs f a ≤ 258 := qYf bs 258 f a
theorem qYg (bs : List Nat) (f a : Nat) (h : a ≤ bs.length) : a + longM bs f a ≤ bs.length := qJ6 bs 258 f a h
theorem qZ8 (bs : List Nat) (f a : Nat) : 3 ≤ longM bs f a ↔ a + 3 ≤ bs.length ∧ bs.getD f 0 = bs.getD a 0 ∧ bs.getD (f + 1) 0 = bs.getD (a + 1) 0 ∧ bs.getD (f + 2) 0 = bs.getD (a + 2) 0 := by
 refine (qXf bs 258 f a 3 jo).trans ⟨fun h => ⟨?_, (h 0 jo).2, (h 1 jo).2, (h 2 jo).2⟩, fun ⟨h0, h1, h2, h3⟩ j hj => ?_⟩
 · have := (h 2 jo).1; omega
 rcases (by omega : j = 0 ∨ j = 1 ∨ j = 2) with rfl | rfl | rfl
 · exact ⟨jo, h1⟩
 · exact ⟨jo, h2⟩
 exact ⟨jo, h3⟩
def bst (bs : List Nat) (a : Nat) : Nat → Nat × Nat
 | 0 => (0, 0)
 | D + 1 => if (bst bs a D).1 < longM bs (a - (D + 1)) a then (longM bs (a - (D + 1)) a, D + 1) else bst bs a D
def lV (r : Nat × Nat) : Nat × Nat := if r.1 < 3 then (0, 0) else r
def qO (bs : List Nat) (a : Nat) : Nat × Nat := lV (bst bs a a)
theorem qYh (bs : List Nat) (a : Nat) : ∀ D, (bst bs a D).1 ≤ 258
 | 0 => by simp [bst]
 | D + 1 => by
  unfold bst
  split
  · exact qXg bs _ _
  exact qYh bs a D
theorem qXh (bs : List Nat) (a : Nat) : ∀ D, (bst bs a D).2 ≤ D ∧ ((bst bs a D).1 = 0 ∨ (1 ≤ (bst bs a D).2 ∧ (bst bs a D).1 = longM bs (a - (bst bs a D).2) a))
 | 0 => by simp [bst]
 | D + 1 => by
  have ih := qXh bs a D
  unfold bst
  split
  · exact ⟨zk _, .inr ⟨jp, rfl⟩⟩
  exact ⟨jo, ih.2⟩
theorem oA (bs : List Nat) (a D : Nat) : ∀ k, (∀ d, D < d → d ≤ D + k → longM bs (a - d) a < 3) → lV (bst bs a (D + k)) = lV (bst bs a D)
 | 0, _ => rfl
 | k + 1, h => by
  have ih := oA bs a D k (fun d h1 h2 => h d h1 jo)
  have h3 := h (D + k + 1) jo jo
  rw [← ih]
  show lV (bst bs a (D + k + 1)) = _
  rw [bst]
  split
  ·
   rename_i h4
   unfold lV
   rw [if_pos h3, if_pos jo]
  rfl
theorem qH6 (bs : List Nat) (a D : Nat) (h : 3 ≤ longM bs (a - (D + 1)) a) : lV (bst bs a (D + 1)) = if (lV (bst bs a D)).1 < longM bs (a - (D + 1)) a then (longM bs (a - (D + 1)) a, D + 1) else lV (bst bs a D) := by
 rw [bst]
 generalize longM bs (a - (D + 1)) a = n at h ⊢
 generalize bst bs a D = r
 unfold lV
 by_cases h1 : r.1 < 3
 · rw [if_pos h1, if_pos (by omega : r.1 < n), if_neg (by dsimp only; omega), if_pos (by dsimp only; omega)]
 rw [if_neg h1]
 by_cases h2 : r.1 < n
 ·
  simp only [if_pos h2]
  rw [if_neg jo]
 simp only [if_neg h2, if_neg h1]
theorem lB (bs : List Nat) (a : Nat) (ha : a ≤ bs.length) : qO bs a = (0, 0) ∨ (3 ≤ (qO bs a).1 ∧ (qO bs a).1 ≤ 258 ∧ 1 ≤ (qO bs a).2 ∧ (qO bs a).2 ≤ a ∧ a + (qO bs a).1 ≤ bs.length ∧ (qO bs a).1 = longM bs (a - (qO bs a).2) a) := by
 unfold qO lV
 split
 · exact .inl rfl
 rename_i h
 obtain ⟨h1, h2⟩ := qXh bs a a
 have h4 := qYh bs a a
 rcases h2 with h2 | ⟨h2, h3⟩
 · omega
 exact .inr ⟨jo, h4, h2, h1, by rw [h3]; exact qYg bs _ a ha, h3⟩
def tri (bs : List Nat) (p : Nat) : Nat × Nat × Nat := (bs.getD p 0, bs.getD (p + 1) 0, bs.getD (p + 2) 0)
def bB (bs : List Nat) (k : Nat × Nat × Nat) : Nat → List Nat
 | 0 => []
 | u + 1 => if u + 3 ≤ bs.length ∧ tri bs u = k then bB bs k u ++ [u] else bB bs k u
theorem kQ (bs : List Nat) (k : Nat × Nat × Nat) (p : Nat) : ∀ u : Nat, p ∈ bB bs k u ↔ p < u ∧ p + 3 ≤ bs.length ∧ tri bs p = k
 | 0 => by simp [bB]
 | u + 1 => by
  unfold bB
  have ih := kQ bs k p u
  split
  ·
   rename_i h
   rw [List.mem_append, ih, zh]
   constructor
   ·
    rintro (⟨h1, h2, h3⟩ | rfl)
    · exact ⟨jo, h2, h3⟩
    exact ⟨jo, h.1, h.2⟩
   rintro ⟨h1, h2, h3⟩
   by_cases h4 : p = u
   · exact .inr h4
   exact .inl ⟨jo, h2, h3⟩
  rename_i h
  rw [ih]
  constructor
  ·
   rintro ⟨h1, h2, h3⟩
   exact ⟨jo, h2, h3⟩
  rintro ⟨h1, h2, h3⟩
  by_cases h4 : p = u
  · subst h4; exact absurd ⟨h2, h3⟩ h
  exact ⟨jo, h2, h3⟩
theorem uL (bs : List Nat) (k : Nat × Nat × Nat) : ∀ u, (bB bs k u).length ≤ u
 | 0 => zk _
 | u + 1 => by
  unfold bB
  have ih := uL bs k u
  split
  · rw [zb]; simp; omega
  omega
theorem oG (bs : List Nat) (k : Nat × Nat × Nat) : ∀ u, (bB bs k u).Pairwise (· < ·)
 | 0 => by simp [bB]
 | u + 1 => by
  unfold bB
  split
  ·
   rw [List.pairwise_append]
   refine ⟨oG bs k u, jp, fun x hx y hy => ?_⟩
   rw [zh] at hy
   rw [hy]
   exact ((kQ bs k x u).1 hx).1
  exact oG bs k u
theorem nK (bs : List Nat) (p a : Nat) (ha : a + 3 ≤ bs.length) : 3 ≤ longM bs p a ↔ tri bs p = tri bs a := by
 rw [qZ8]
 unfold tri
 simp only [Prod.mk.injEq]
 exact ⟨fun h => h.2, fun h => ⟨ha, h⟩⟩
def kX (bs : List Nat) (a i : Nat) : Nat × Nat :=
 lV (bst bs a (if i < (bB bs (tri bs a) a).length then a - (bB bs (tri bs a) a).getD i 0 else 0))
theorem qH7 (bs : List Nat) (a : Nat) : kX bs a (bB bs (tri bs a) a).length = (0, 0) := by
 unfold kX
 rw [if_neg (Nat.lt_irrefl _)]
 rfl
theorem wV {bs : List Nat} {k : Nat × Nat × Nat} {u i : Nat} (hi : i < (bB bs k u).length) : (bB bs k u).getD i 0 < u ∧ (bB bs k u).getD i 0 + 3 ≤ bs.length ∧ tri bs ((bB bs k u).getD i 0) = k := by
 refine (kQ bs k _ u).1 ?_
 rw [zc, za hi]
 exact zw hi
theorem sZ {bs : List Nat} {k : Nat × Nat × Nat} {u i j : Nat} (hij : i < j) (hj : j < (bB bs k u).length) : (bB bs k u).getD i 0 < (bB bs k u).getD j 0 := by
 have hi : i < (bB bs k u).length := jo
 rw [zc, zc, za hj, za hi]
 exact List.pairwise_iff_getElem.1 (oG bs k u) i j jo hj hij
theorem wW {bs : List Nat} {k : Nat × Nat × Nat} {u p : Nat} (h : p ∈ bB bs k u) : ∃ j, j < (bB bs k u).length ∧ (bB bs k u).getD j 0 = p := by
 obtain ⟨j, hj, he⟩ := zbc h
 exact ⟨j, hj, by rw [zc, za hj]; exact he⟩
theorem yF (bs : List Nat) (a i : Nat) (ha : a + 3 ≤ bs.length) (hi : i < (bB bs (tri bs a) a).length) :
  kX bs a i = (let p := (bB bs (tri bs a) a).getD i 0; if (kX bs a (i + 1)).1 < longM bs p a then (longM bs p a, a - p) else kX bs a (i + 1)) := by
 obtain ⟨h1, h2, h3⟩ := wV hi
 dsimp only
 generalize hp : (bB bs (tri bs a) a).getD i 0 = p at h1 h2 h3
 have h4 : 3 ≤ longM bs p a := (nK bs p a ha).2 h3
 have e1 : kX bs a (i + 1) = lV (bst bs a (a - p - 1)) := by
  unfold kX
  split
  ·
   rename_i h5
   obtain ⟨g1, g2, g3⟩ := wV h5
   have g4 := sZ (Nat.lt_succ_self i) h5
   rw [hp] at g4
   generalize hq : (bB bs (tri bs a) a).getD (i + 1) 0 = q at g1 g2 g3 g4
   have := oA bs a (a - q) (q - p - 1) (fun d hd1 hd2 => by
    refine zgi fun h6 => ?_
    have h7 := (nK bs (a - d) a ha).1 h6
    obtain ⟨j, hj, he⟩ := wW ((kQ bs (tri bs a) (a - d) a).2 ⟨jo, jo, h7⟩)
    by_cases hji : j ≤ i
    ·
     by_cases hje : j = i
     · subst hje; omega
     have := sZ (jo : j < i) hi; omega
    by_cases hje : j = i + 1
    · subst hje; omega
    have := sZ (jo : i + 1 < j) hj; omega)
   rw [show a - q + (q - p - 1) = a - p - 1 by omega] at this
   exact this.symm
  rename_i h5
  have := oA bs a 0 (a - p - 1) (fun d hd1 hd2 => by
   refine zgi fun h6 => ?_
   have h7 := (nK bs (a - d) a ha).1 h6
   obtain ⟨j, hj, he⟩ := wW ((kQ bs (tri bs a) (a - d) a).2 ⟨jo, jo, h7⟩)
   by_cases hje : j = i
   · subst hje; omega
   have := sZ (jo : j < i) hi; omega)
  rw [zan] at this
  exact this.symm
 rw [e1]
 have e2 : kX bs a i = lV (bst bs a (a - p)) := by
  unfold kX
  rw [if_pos hi, hp]
 rw [e2]
 have := qH6 bs a (a - p - 1) (by rw [show a - (a - p - 1 + 1) = p by omega]; exact h4)
 rw [show a - p - 1 + 1 = a - p by omega, show a - (a - p) = p by omega] at this
 exact this
theorem yA (bs : List Nat) (a : Nat) (ha : a + 3 ≤ bs.length) : kX bs a 0 = qO bs a := by
 unfold kX qO
 split
 ·
  rename_i h
  obtain ⟨g1, g2, g3⟩ := wV h
  generalize hp : (bB bs (tri bs a) a).getD 0 0 = p at g1 g2 g3
  have := oA bs a (a - p) p (fun d hd1 hd2 => by
   refine zgi fun h6 => ?_
   have h7 := (nK bs (a - d) a ha).1 h6
   by_cases hd : d ≤ a
   ·
    obtain ⟨j, hj, he⟩ := wW ((kQ bs (tri bs a) (a - d) a).2 ⟨jo, jo, h7⟩)
    by_cases hje : j = 0
    · subst hje; omega
    have := sZ (jo : 0 < j) hj; omega
   omega)
  rw [show a - p + p = a by omega] at this
  exact this.symm
 rename_i h
 have := oA bs a 0 a (fun d hd1 hd2 => by
  refine zgi fun h6 => ?_
  have h7 := (nK bs (a - d) a ha).1 h6
  obtain ⟨j, hj, he⟩ := wW ((kQ bs (tri bs a) (a - d) a).2 ⟨jo, jo, h7⟩)
  omega)
 rw [zan] at this
 exact this.symm
theorem yI (bs : List Nat) (a : Nat) (ha : a + 3 ≤ bs.length) : ∀ i, i ≤ (bB bs (tri bs a) a).length → (kX bs a i).1 = 258 → qO bs a = kX bs a i
 | 0, _, _ => (yA bs a ha).symm
 | i + 1, hi, h => by
  have := yF bs a i ha jo
  dsimp only at this
  have hl := qXg bs ((bB bs (tri bs a) a).getD i 0) a
  rw [if_neg jo] at this
  rw [← this]
  exact yI bs a ha i jo (by rw [this]; exact h)
theorem qZ9 (bs : List Nat) (a : Nat) (h : bs.length < a + 3) (ha : a ≤ bs.length) : qO bs a = (0, 0) := by
 rcases lB bs a ha with h1 | ⟨h1, _, _, _, h2, _⟩
 · exact h1
 omega
abbrev Tk := Nat × Nat × Nat
def fD (bs : List Nat) : Nat → Nat → List Tk
 | 0, _ => []
 | m + 1, a => if bs.length ≤ a then [] else if (qO bs a).1 = 0 then (bs.getD a 0, 0, 0) :: fD bs m (a + 1) else (0, (qO bs a).1, (qO bs a).2) :: fD bs m (a + (qO bs a).1)
theorem sJ (bs : List Nat) (m a : Nat) (h : bs.length ≤ a) : fD bs m a = [] := by
 cases m with
 | zero => rfl
 | succ m => rw [fD, if_pos h]
theorem mM (bs : List Nat) : ∀ m n a, bs.length ≤ a + m → bs.length ≤ a + n → fD bs m a = fD bs n a
 | 0, n, a, h1, _ => by rw [sJ bs n a jo]; rfl
 | m + 1, 0, a, _, h2 => by rw [sJ bs (m + 1) a jo]; rfl
 | m + 1, n + 1, a, h1, h2 => by
  unfold fD
  split
  · rfl
  split
  · rw [mM bs m n (a + 1) jo jo]
  rename_i h3 h4
  rw [mM bs m n (a + (qO bs a).1) jo jo]
def bJ (bs : List Nat) (a : Nat) : List Tk := fD bs (bs.length - a) a
theorem qXi (bs : List Nat) (a : Nat) (h : bs.length ≤ a) : bJ bs a = [] := sJ bs _ a h
theorem qXj (bs : List Nat) (a : Nat) (h : a < bs.length) (h0 : (qO bs a).1 = 0) : bJ bs a = (bs.getD a 0, 0, 0) :: bJ bs (a + 1) := by
 unfold bJ
 rw [show bs.length - a = (bs.length - a - 1) + 1 by omega, fD, if_neg jo, if_pos h0, mM bs (bs.length - a - 1) (bs.length - (a + 1)) (a + 1) jo jo]
theorem wY (bs : List Nat) (a : Nat) (h : a < bs.length) (h0 : (qO bs a).1 ≠ 0) : bJ bs a = (0, (qO bs a).1, (qO bs a).2) :: bJ bs (a + (qO bs a).1) := by
 unfold bJ
 rw [show bs.length - a = (bs.length - a - 1) + 1 by omega, fD, if_neg jo, if_neg h0, mM bs (bs.length - a - 1) (bs.length - (a + (qO bs a).1)) (a + (qO bs a).1) jo jo]
end
section
open Go.RowKit
open Go.Maps (Keyed)
def K3 (x : Nat × Nat × Nat) : Value := .agg #[.int .u8 ((x.1 : Nat) : Int), .int .u8 ((x.2.1 : Nat) : Int), .int .u8 ((x.2.2 : Nat) : Int)]
theorem qYi (a b : Nat × Nat × Nat) (h : K3 a = K3 b) : a = b := by
 obtain ⟨a1, a2, a3⟩ := a
 obtain ⟨b1, b2, b3⟩ := b
 simp only [K3, Value.agg.injEq, Array.mk.injEq, List.cons.injEq, Value.int.injEq, true_and, and_true] at h
 obtain ⟨h1, h2, h3⟩ := h
 rw [Int.ofNat.inj h1, Int.ofNat.inj h2, Int.ofNat.inj h3]
theorem qSv : laidOutB Tryz.prog = true := by kernel_rfl
theorem law3 : Keyed Tryz.prog 201 := Keyed.of_law (deep_law_laid qSv (m := 2) jo (of_decide_eq_true jK) jK (by rw [zeu]))
theorem qYj : Tryz.prog.cellsOf 201 = 3 := by kernel_rfl
theorem qR6 : Tryz.prog.cellsOf 5 = 1 := by kernel_rfl
theorem qSw : Tryz.prog.keyType 201 = true := by kernel_rfl
theorem wf8 (n : Nat) (h : n < 256) : (Lit.int .u8 (n : Int)).wf = true := by
 have e1 : IntKind.min .u8 = 0 := jd
 have e2 : IntKind.max .u8 = 255 := jd
 simp only [Lit.wf, e1, e2, zep, decide_eq_true_eq]
 omega
theorem qSx (d a b c : Nat) (h1 : a < 256) (h2 : b < 256) (h3 : c < 256) : Tryz.prog.keyLits (d + 2) 201 [.int .u8 (a : Int), .int .u8 (b : Int), .int .u8 (c : Int)] = some [.int .u8 (a : Int), .int .u8 (b : Int), .int .u8 (c : Int)] := by
 have e (n : Nat) (h : n < 256) : Tryz.prog.keyLits (d + 1) 5 [.int .u8 (n : Int)] = some [.int .u8 (n : Int)] := by
  unfold Program.keyLits
  rw [zbh]
  simp only [wf8 n h, and_self, if_true]
 unfold Program.keyLits
 rw [zeu]
 have e3 : List.range 3 = [0, 1, 2] := rfl
 simp only [qYj, qR6, e3, zq, zct, zan, Nat.reduceAdd, if_true, List.mapM_cons, List.mapM_nil, zff, zfs, Nat.reduceMul, zcd, zdr, zac, zdo, e a h1, e b h2, e c h3]
 rfl
theorem key3 (x : Nat × Nat × Nat) (h1 : x.1 < 256) (h2 : x.2.1 < 256) (h3 : x.2.2 < 256) : ∃ l, keyOf Tryz.prog 201 (K3 x) = some l := by
 have hf : (K3 x).formed Tryz.prog 201 = true := by
  unfold K3 Value.formed
  rw [zeu]
  simp only [qYj]
  rfl
 have e1 : Tryz.prog.types.size + 1 = (Tryz.prog.types.size - 1) + 2 := by kernel_rfl
 have hk : Tryz.prog.keyLits (Tryz.prog.types.size + 1) 201 (K3 x).cells.toList = some [.int .u8 ((x.1 : Nat) : Int), .int .u8 ((x.2.1 : Nat) : Int), .int .u8 ((x.2.2 : Nat) : Int)] := by
  rw [e1]
  exact qSx _ _ _ _ h1 h2 h3
 exact ⟨_, by unfold keyOf; rw [zeu]; simp only [qSw, hf, Bool.and_self, if_true, hk]; rfl⟩
def PlV (F : Nat × Nat × Nat → Option Addr × Nat) (bs : List Nat) (u : Nat) (x : Nat × Nat × Nat) : Value := .slice (F x).1 (bB bs x u).length (F x).2
def PlM (F : Nat × Nat × Nat → Option Addr × Nat) (bs : List Nat) (u : Nat) (x : Nat × Nat × Nat) : Option Value := if bB bs x u = [] then none else some (PlV F bs u x)
structure IsP (B : Nat) (w : World) (gm : Nat) (bs : List Nat) (u : Nat) (F : Nat × Nat × Nat → Option Addr × Nat) : Prop where
 hgm : B ≤ gm
 map : MpF Tryz.prog 201 K3 w gm (PlM F bs u)
 own : ∀ x, Own w 3 1 (F x).1 (bB bs x u).length (F x).2 (NI (bB bs x u))
 up : ∀ x, ∀ z ∈ ob (F x).1, B ≤ z
 nil : ∀ x, bB bs x u = [] → F x = (none, 0)
 apart : ∀ x y, x ≠ y → ∀ z ∈ ob (F x).1, z ∉ ob (F y).1
theorem IsP.getD {B : Nat} {w : World} {gm u : Nat} {bs : List Nat} {F : Nat × Nat × Nat → Option Addr × Nat} (h : IsP B w gm bs u F) (x : Nat × Nat × Nat) : (PlM F bs u x).getD (.slice none 0 0) = .slice (F x).1 (bB bs x u).length (F x).2 := by
 unfold PlM
 split
 ·
  rename_i h1
  rw [h.nil x h1, h1]
  rfl
 rfl
theorem IsP.frm {B : Nat} {w w' : World} {gm u : Nat} {bs : List Nat} {F : Nat × Nat × Nat → Option Addr × Nat} {S : List Nat} (h : IsP B w gm bs u F) (f : Frm S w w') (h1 : gm ∉ S) (h2 : ∀ x, ∀ z ∈ ob (F x).1, z ∉ S) : IsP B w' gm bs u F :=
 ⟨h.hgm, h.map.frm f h1, fun x => (h.own x).frm f (h2 x), h.up, h.nil, h.apart⟩
theorem IsP.blk {B : Nat} {w : World} {gm u b : Nat} {bs : List Nat} {F : Nat × Nat × Nat → Option Addr × Nat} {t : TypeId} {cs : Array Value} (h : IsP B w gm bs u F) (hb : Blk w b t cs) (ht : 3 ≠ t) : gm ∉ [b] ∧ ∀ x, ∀ z ∈ ob (F x).1, z ∉ [b] := by
 refine ⟨by simpa using h.map.ne_blk hb, fun x z hz hx => ?_⟩
 rw [zh] at hx
 subst hx
 exact (h.own x).ne_blk hb ht hz
theorem IsP.same {B : Nat} {w : World} {gm u : Nat} {bs : List Nat} {F : Nat × Nat × Nat → Option Addr × Nat} (h : IsP B w gm bs u F) (hn : bs.length < u + 3) : IsP B w gm bs (u + 1) F := by
 have e (x : Nat × Nat × Nat) : bB bs x (u + 1) = bB bs x u := by rw [bB, if_neg jo]
 have e2 : PlM F bs (u + 1) = PlM F bs u := by
  funext x
  unfold PlM PlV
  rw [e x]
 exact ⟨h.hgm, by rw [e2]; exact h.map, fun x => by rw [e x]; exact h.own x, h.up, fun x hx => h.nil x (by rw [← e x]; exact hx), h.apart⟩
theorem IsP.row {B : Nat} {w : World} {gm u n c : Nat} {bs : List Nat} {F : Nat × Nat × Nat → Option Addr × Nat} {A : Option Addr} {t : TypeId} {xs : List Value} (h : IsP B w gm bs u F) (ho : Own w t 1 A n c xs) : gm ∉ ob A := by
 rcases ho.cases with ⟨rfl, _⟩ | ⟨g, cur, rfl, hb, _⟩
 · simp [ob]
 simpa [ob] using h.map.ne_blk hb
theorem IsP.put {B gm p c6 : Nat} {w4 w5 w6 w7 : World} {bs : List Nat} {G : Nat × Nat × Nat → Option Addr × Nat} {A6 : Option Addr} {v0 : Value} (h : IsP B w4 gm bs p G) (hp : p + 3 ≤ bs.length) (hB : B ≤ w4.heap.size) (hf5 : Frm [gm] w4 w5) (hs5 : w5.heap.size = w4.heap.size)
  (ho6 : Own w6 3 1 A6 ((bB bs (tri bs p) p).length + 1) c6 (NI (bB bs (tri bs p) p) ++ NI [p])) (hf6 : Frm (ob (G (tri bs p)).1) w5 w6) (hob6 : ob A6 = ob (G (tri bs p)).1 ∨ ob A6 = [w5.heap.size])
  (hM6 : MpF Tryz.prog 201 K3 w6 gm (fun y => if y = tri bs p then some v0 else PlM G bs p y))
  (hM7 : MpF Tryz.prog 201 K3 w7 gm (fun y => if y = tri bs p then some (.slice A6 ((bB bs (tri bs p) p).length + 1) c6) else if y = tri bs p then some v0 else PlM G bs p y)) (hf7 : Frm [gm] w6 w7) :
  IsP B w7 gm bs (p + 1) (fun y => if y = tri bs p then (A6, c6) else G y) := by
 have e (y : Nat × Nat × Nat) : bB bs y (p + 1) = if y = tri bs p then bB bs (tri bs p) p ++ [p] else bB bs y p := by
  rw [bB]
  by_cases hy : y = tri bs p
  · rw [if_pos ⟨hp, hy.symm⟩, if_pos hy, hy]
  rw [if_neg (fun hh => hy hh.2.symm), if_neg hy]
 have rowAt {n c : Nat} {A : Option Addr} {xs : List Value} (ho : Own w6 3 1 A n c xs) : gm ∉ ob A := by
  rcases ho.cases with ⟨rfl, _⟩ | ⟨g, cur, rfl, hb, _⟩
  · simp [ob]
  simpa [ob] using hM6.ne_blk hb
 have own6 (y : Nat × Nat × Nat) (hy : y ≠ tri bs p) : Own w6 3 1 (G y).1 (bB bs y p).length (G y).2 (NI (bB bs y p)) :=
  ((h.own y).frm hf5 (fun z hz hx => h.row (h.own y) (by rw [zh] at hx; rw [← hx]; exact hz))).frm hf6 (h.apart y _ hy)
 have up6 : ∀ z ∈ ob A6, B ≤ z := cO (h.up _) hob6 jo
 refine ⟨h.hgm, ?_, fun y => ?_, fun y => ?_, fun y hy => ?_, fun x y hxy z hz => ?_⟩
 ·
  have e2 : PlM (fun y => if y = tri bs p then (A6, c6) else G y) bs (p + 1) = (fun y => if y = tri bs p then some (.slice A6 ((bB bs (tri bs p) p).length + 1) c6) else if y = tri bs p then some v0 else PlM G bs p y) := by
   funext y
   unfold PlM PlV
   rw [e y]
   by_cases hy : y = tri bs p
   ·
    simp only [if_pos hy]
    rw [if_neg jp, zb]
    rfl
   simp only [if_neg hy]
  rw [e2]
  exact hM7
 ·
  rw [e y]
  by_cases hy : y = tri bs p
  ·
   simp only [if_pos hy, zb, zq, zct, nF]
   exact ho6.frm hf7 (fun z hz hx => rowAt ho6 (by rw [zh] at hx; rw [← hx]; exact hz))
  simp only [if_neg hy]
  exact (own6 y hy).frm hf7 (fun z hz hx => rowAt (own6 y hy) (by rw [zh] at hx; rw [← hx]; exact hz))
 ·
  by_cases hy : y = tri bs p
  · rw [if_pos hy]; exact up6
  rw [if_neg hy]; exact h.up y
 ·
  rw [e y] at hy
  by_cases hy2 : y = tri bs p
  ·
   rw [if_pos hy2] at hy
   simp at hy
  rw [if_neg hy2] at hy ⊢
  exact h.nil y hy
 by_cases h1 : x = tri bs p
 ·
  rw [if_pos h1] at hz
  rw [if_neg (fun h2 => hxy (h1.trans h2.symm))]
  rcases hob6 with h3 | h3
  ·
   dsimp only at hz
   rw [h3] at hz
   exact h.apart _ y (fun h2 => hxy (h1.trans h2)) z hz
  dsimp only at hz
  rw [h3, zh] at hz
  intro hx
  have := (h.own y).lt z hx
  omega
 rw [if_neg h1] at hz
 by_cases h2 : y = tri bs p
 ·
  rw [if_pos h2]
  dsimp only
  rcases hob6 with h3 | h3
  ·
   rw [h3]
   exact h.apart x _ h1 z hz
  rw [h3, zh]
  have := (h.own x).lt z hz
  omega
 rw [if_neg h2]
 exact h.apart x y hxy z hz
structure IsF (w0 w : World) (gf gm : Nat) (Ab : Option Addr) (cb : Nat) (bs : List Nat) (u : Nat) (F : Nat × Nat × Nat → Option Addr × Nat) : Prop where
 blk : Blk w gf 159 #[.slice Ab bs.length cb, .map (some gm), .int .i64 ((u : Nat) : Int)]
 rd0 : Rd w0 1 Ab bs.length (NB bs)
 below : Below w0.heap.size w0 w
 hgf : w0.heap.size ≤ gf
 pl : IsP w0.heap.size w gm bs u F
theorem IsF.rd {w0 w : World} {gf gm cb u : Nat} {Ab : Option Addr} {bs : List Nat} {F : Nat × Nat × Nat → Option Addr × Nat} (h : IsF w0 w gf gm Ab cb bs u F) : Rd w 1 Ab bs.length (NB bs) := h.rd0.belowW h.below
theorem IsF.frm {w0 w w' : World} {gf gm cb u : Nat} {Ab : Option Addr} {bs : List Nat} {F : Nat × Nat × Nat → Option Addr × Nat} {S : List Nat} (h : IsF w0 w gf gm Ab cb bs u F) (f : Frm S w w') (hS : ∀ x ∈ S, w.heap.size ≤ x) : IsF w0 w' gf gm Ab cb bs u F := by
 have h0 := h.below.size
 refine ⟨h.blk.frm f (fun hx => ?_), h.rd0, f.onto h.below (fun x hx => zo h0 (hS x hx)) h0, h.hgf, h.pl.frm f (fun hx => ?_) (fun x z hz hx => ?_)⟩
 · have := hS _ hx; have := h.blk.lt; omega
 · have := hS _ hx; have := h.pl.map.lt; omega
 have := hS _ hx; have := (h.pl.own x).lt z hz; omega
theorem IsF.drawn {w0 w w' : World} {gf gm cb u : Nat} {Ab : Option Addr} {bs : List Nat} {F : Nat × Nat × Nat → Option Addr × Nat} (h : IsF w0 w gf gm Ab cb bs u F) (f : qQ w w') : IsF w0 w' gf gm Ab cb bs u F := h.frm f.frm jp
theorem IsF.frm2 {w0 w w' : World} {gf gm cb u : Nat} {Ab : Option Addr} {bs : List Nat} {F : Nat × Nat × Nat → Option Addr × Nat} {S : List Nat} (h : IsF w0 w gf gm Ab cb bs u F) (f : Frm S w w') (h1 : gf ∉ S) (h2 : gm ∉ S) (h3 : ∀ x, ∀ z ∈ ob (F x).1, z ∉ S) (h4 : ∀ x ∈ S, w0.heap.size ≤ x) : IsF w0 w' gf gm Ab cb bs u F :=
 ⟨h.blk.frm f h1, h.rd0, f.onto h.below h4 h.below.size, h.hgf, h.pl.frm f h2 h3⟩
theorem IsF.set {w0 w w' : World} {gf gm cb u b : Nat} {Ab : Option Addr} {bs : List Nat} {F : Nat × Nat × Nat → Option Addr × Nat} {t : TypeId} {cs : Array Value} (h : IsF w0 w gf gm Ab cb bs u F) (f : Frm [b] w w') (hb : Blk w b t cs) (h1 : 3 ≠ t) (h2 : 159 ≠ t) (hB : w0.heap.size ≤ b) : IsF w0 w' gf gm Ab cb bs u F :=
 ⟨h.blk.frm f (fun hx => h.blk.ne hb h2 (by simpa using hx)), h.rd0, f.onto h.below (by simpa using hB) h.below.size, h.hgf, h.pl.frm f (h.pl.blk hb h1).1 (h.pl.blk hb h1).2⟩
def Kpf (gf : Nat) (F : Nat × Nat × Nat → Option Addr × Nat) (w w' : World) : Prop := w.heap.size ≤ w'.heap.size ∧ ∀ b t cs, b ≠ gf → (∀ y, b ∉ ob (F y).1) → Blk w b t cs → Blk w' b t cs
theorem Kpf.refl (gf : Nat) (F : Nat × Nat × Nat → Option Addr × Nat) (w : World) : Kpf gf F w w := ⟨zk _, fun _ _ _ _ _ h => h⟩
theorem Kpf.step {gf : Nat} {F : Nat × Nat × Nat → Option Addr × Nat} {a b c : World} {S : List Nat} (h : Kpf gf F a b) (f : Frm S b c) (hS : ∀ x ∈ S, x = gf ∨ a.heap.size ≤ x ∨ (∃ y, x ∈ ob (F y).1) ∨ (∀ t cs, ¬ Blk b x t cs)) : Kpf gf F a c :=
 ⟨zo h.1 f.size, fun x t cs h1 h2 h3 => (h.2 x t cs h1 h2 h3).frm f (fun hx => by
  rcases hS x hx with h4 | h4 | ⟨y, h4⟩ | h4
  · exact h1 h4
  · have := h3.lt; omega
  · exact h2 y h4
  exact h4 t cs (h.2 x t cs h1 h2 h3))⟩
theorem Kpf.mp {gf g : Nat} {F : Nat × Nat × Nat → Option Addr × Nat} {a b c : World} {M : Nat × Nat × Nat → Option Value} (h : Kpf gf F a b) (f : Frm [g] b c) (hm : MpF Tryz.prog 201 K3 b g M) : Kpf gf F a c := h.step f fun x hx => .inr (.inr (.inr fun t cs h3 => by
 rw [zh] at hx
 subst hx
 exact hm.ne_blk h3 rfl))
theorem Kpf.blk {w0 w w' : World} {gf gm cb u b : Nat} {Ab : Option Addr} {bs : List Nat} {F : Nat × Nat × Nat → Option Addr × Nat} {t : TypeId} {cs : Array Value} (k : Kpf gf F w w') (h : IsF w0 w gf gm Ab cb bs u F) (hb : Blk w b t cs) (h1 : 3 ≠ t) (h2 : 159 ≠ t) : Blk w' b t cs :=
 k.2 b t cs (fun e => h.blk.ne hb h2 e.symm) (fun y => (h.pl.own y).ne_blk hb h1) hb
theorem Kpf.own {w0 w w' : World} {gf gm cb u : Nat} {Ab : Option Addr} {bs : List Nat} {F : Nat × Nat × Nat → Option Addr × Nat} {e size n cap : Nat} {A : Option Addr} {xs : List Value} (k : Kpf gf F w w') (h0 : IsF w0 w gf gm Ab cb bs u F) (h : Own w e size A n cap xs) (h1 : 3 ≠ e) (h2 : 159 ≠ e) : Own w' e size A n cap xs := by
 refine ⟨h.1, ?_⟩
 rcases h.cases with ⟨rfl, rfl, rfl, _⟩ | ⟨g, cur, rfl, hb, hn, hc, hs, ht⟩
 · exact .inl ⟨rfl, rfl⟩
 exact .inr ⟨g, cap, cur, rfl, zas _, k.blk h0 hb h1 h2, hn, hc, hs, ht⟩
def sK (F G : Nat × Nat × Nat → Option Addr × Nat) (n : Nat) : Prop := ∀ y, ∀ z ∈ ob (G y).1, z ∈ ob (F y).1 ∨ n ≤ z
theorem Below.set {B : Nat} {w0 w w' : World} {g : Nat} (h : Below B w0 w) (f : Frm [g] w w') (hg : B ≤ g) (hB : B ≤ w.heap.size) : Below B w0 w' := f.onto h (by simpa using hg) hB
theorem kP {bs : List Nat} (h : ∀ b ∈ bs, b < 256) (i : Nat) : bs.getD i 0 < 256 := by
 rw [zc]
 cases hi : bs[i]? with
 | none => simp
 | some x => exact h x (zcw hi)
theorem uY {w : World} {ad : Addr} {bs : List Nat} {p : Nat} (h : Rd w 1 (some ad) bs.length (NB bs)) (hp : p + 3 ≤ bs.length) : ∀ (j : Nat) (v : Value), (NB [bs.getD p 0, bs.getD (p + 1) 0, bs.getD (p + 2) 0])[j]? = some v → w.cell? ((ad.add (p * 1)).add j) = some v := by
 obtain ⟨ad', e, _, hc⟩ := h.2 jo
 cases e
 intro j v hv
 have hj : j < 3 := (List.getElem?_eq_some_iff.1 hv).1
 have e1 : (ad.add (p * 1)).add j = ad.add (p + j) := by rw [zdm]; exact add_add ad p j
 rw [e1]
 refine hc (p + j) v ?_
 rw [oD bs (p + j) jo, ← hv]
 rcases (by omega : j = 0 ∨ j = 1 ∨ j = 2) with rfl | rfl | rfl <;> rfl
theorem qH8 {bs : List Nat} {f a m : Nat} (h : ¬ (a < bs.length ∧ bs.getD f 0 = bs.getD a 0)) : lgM bs f a m = 0 := by
 cases m with
 | zero => rfl
 | succ m => rw [lgM, if_neg h]
theorem qR7 {bs : List Nat} {f a m : Nat} (h1 : a < bs.length) (h2 : bs.getD f 0 = bs.getD a 0) (hm : 0 < m) : lgM bs f a m = lgM bs (f + 1) (a + 1) (m - 1) + 1 := by
 obtain ⟨k, rfl⟩ : ∃ k, m = k + 1 := ⟨m - 1, jo⟩
 rw [lgM, if_pos ⟨h1, h2⟩]
 rfl
theorem qYk (w0 w : World) (gf gm cb u f a : Nat) (Ab : Option Addr) (bs : List Nat) (F : Nat × Nat × Nat → Option Addr × Nat) (hf : f < a) (ha : a ≤ bs.length) (hl : bs.length ≤ 1000000) (hF : IsF w0 w gf gm Ab cb bs u F) :
  Calls Tryz.prog 121 #[.pointer (some ⟨gf, 0, none⟩), .int .i64 ((f : Nat) : Int), .int .i64 ((a : Nat) : Int)] w fun e w' => e = .returned (.int .i64 ((longM bs f a : Nat) : Int)) ∧ qQ w w' := by
 have hb := hF.blk
 have hrd := hF.rd
 obtain ⟨ad, hA, hadlt, hadc⟩ := hrd.2 jo
 subst hA
 refine VC.calls (nt := 45) (res := #[.tmp 6]) Tryz.func121 rfl Tryz.ntmps121 Tryz.results121 rfl ?_
 refine jS (jR (jz 0 (jO (jN (jv3 0 1 2 ?_)))))
 refine jS (jR (jz 0 (jO (jN (jS (jB ?_))))))
 refine VC.loop (σ := Nat) (fun s => [(0, .pointer (some ⟨gf, 0, none⟩)), (1, .int .i64 ((f : Nat) : Int)), (2, .int .i64 ((a : Nat) : Int)), (7, .int .i64 ((s : Nat) : Int))]) (fun s wr => s ≤ 258 ∧ a + s ≤ bs.length ∧ longM bs f a = s + lgM bs (f + s) (a + s) (258 - s) ∧ qQ w wr) (fun s => 258 - s) 0 (js4 rfl rfl rfl rfl) ⟨jo, jo, by simp [longM], qQ.refl w⟩ ?_
 rintro n wr ⟨hn, hna, hlg, hd⟩
 have hbr := hb.drawn hd
 have hcell : ∀ j, j < bs.length → wr.cell? (ad.add j) = some (.int .u8 ((bs.getD j 0 : Nat) : Int)) := fun j hj => by
  obtain ⟨m, rfl⟩ := hd
  exact hadc j _ (oD bs j hj)
 refine jS (jS ?_)
 refine VC.splitR [(0, .pointer (some ⟨gf, 0, none⟩)), (1, .int .i64 ((f : Nat) : Int)), (2, .int .i64 ((a : Nat) : Int)), (7, .int .i64 ((n : Nat) : Int))] (qQ w) 41 (.bool (decide (a + n < bs.length ∧ n < 258 ∧ bs.getD (f + n) 0 = bs.getD (a + n) 0))) ?_ ?_
 ·
  refine VC.still jK jK ?_
  refine qM ?_
  refine qM ?_
  refine qE (Run.bin rfl rfl (Bin.add_i64 _ _ jo)) ?_
  refine qM ?_
  refine qE (Run.nilck rfl) ?_
  refine qE (Run.fieldAddr rfl zbg rfl zl jd) ?_
  refine qE (Run.load rfl zt (hbr.cell 0)) ?_
  refine qE (Run.lenS rfl ze) ?_
  refine qE (Run.bin rfl rfl (Bin.lssN _ _)) ?_
  by_cases hs16 : a + n < bs.length
  ·
   refine qM ?_
   refine qG (Run.mv rfl) ?_
   refine qG (Run.bin rfl rfl (Bin.lssN _ 258)) ?_
   by_cases hs19 : n < 258
   ·
    refine qE (Run.pickT rfl rfl au) ?_
    refine qM ?_
    refine qG (Run.mv rfl) ?_
    refine qG (Run.nilck rfl) ?_
    refine qG (Run.fieldAddr rfl zbg rfl zl jd) ?_
    refine qG (Run.load rfl zt (hbr.cell 0)) ?_
    refine qG (Run.mv rfl) ?_
    refine qG (Run.mv rfl) ?_
    refine qG (Run.bin rfl rfl (Bin.add_i64 _ _ jo)) ?_
    refine qG (Run.index1 _ rfl rfl ze zad jo) ?_
    refine qG (Run.load rfl zdn (hcell _ jo)) ?_
    refine qG (Run.mv rfl) ?_
    refine qG (Run.nilck rfl) ?_
    refine qG (Run.fieldAddr rfl zbg rfl zl jd) ?_
    refine qG (Run.load rfl zt (hbr.cell 0)) ?_
    refine qG (Run.mv rfl) ?_
    refine qG (Run.mv rfl) ?_
    refine qG (Run.bin rfl rfl (Bin.add_i64 _ _ jo)) ?_
    refine qG (Run.index1 _ rfl rfl ze zad jo) ?_
    refine qG (Run.load rfl zdn (hcell _ jo)) ?_
    refine qG (Run.bin rfl rfl (Bin.eqlN _ _)) ?_
    by_cases hs40 : bs.getD (f + n) 0 = bs.getD (a + n) 0
    ·
     refine qE (Run.pickT rfl rfl au) ?_
     refine qW.nil ?_
     refine jN ⟨(js5 (jC (by simp [*])) rfl rfl rfl rfl), (hd.trans (qQ.drew _))⟩
    refine qE (Run.pickT rfl rfl au) ?_
    refine qW.nil ?_
    refine jN ⟨(js5 (jC (by simp [*])) rfl rfl rfl rfl), (hd.trans (qQ.drew _))⟩
   refine qE (Run.pickT rfl rfl au) ?_
   refine qM ?_
   refine qU ?_
   refine qU ?_
   refine qU ?_
   refine qU ?_
   refine qU ?_
   refine qU ?_
   refine qU ?_
   refine qU ?_
   refine qU ?_
   refine qU ?_
   refine qU ?_
   refine qU ?_
   refine qU ?_
   refine qU ?_
   refine qU ?_
   refine qU ?_
   refine qU ?_
   refine qU ?_
   refine qU ?_
   refine qE (Run.pickF rfl rfl au) ?_
   refine qW.nil ?_
   refine jN ⟨(js5 (jC (by simp [*])) rfl rfl rfl rfl), (hd.trans (qQ.drew _))⟩
  refine qM ?_
  refine qU ?_
  refine qU ?_
  refine qE (Run.pickF rfl rfl au) ?_
  refine qM ?_
  refine qU ?_
  refine qU ?_
  refine qU ?_
  refine qU ?_
  refine qU ?_
  refine qU ?_
  refine qU ?_
  refine qU ?_
  refine qU ?_
  refine qU ?_
  refine qU ?_
  refine qU ?_
  refine qU ?_
  refine qU ?_
  refine qU ?_
  refine qU ?_
  refine qU ?_
  refine qU ?_
  refine qU ?_
  refine qE (Run.pickF rfl rfl au) ?_
  refine qW.nil ?_
  refine jN ⟨(js5 (jC (by simp [*])) rfl rfl rfl rfl), (hd.trans (qQ.drew _))⟩
 intro Γ wr2 hΓ hd2
 refine jN (VC.sub _ hΓ ?_)
 refine jD rfl (fun hc1 => ?_) fun hc1 => ?_
 ·
  refine jQ (jN (jv4 0 1 2 7 ?_))
  refine jB (jR (jm rfl (jb rfl rfl (Bin.add_i64 _ 1 jo) (ja rfl (jO ?_)))))
  refine qK (jN ⟨n + 1, (js4 rfl rfl rfl rfl), ?_, ?_⟩)
  ·
   obtain ⟨h1, h2, h3⟩ := hc1
   refine ⟨jo, jo, ?_, hd2⟩
   rw [hlg, qR7 h1 h3 jo, show f + (n + 1) = f + n + 1 by omega, show a + (n + 1) = a + n + 1 by omega, show 258 - (n + 1) = 258 - n - 1 by omega]
   omega
  first | omega | (dsimp only; omega)
 refine jX ?_
 refine qZ (qZ (qP ?_))
 refine jN (jv1 7 ?_)
 refine jS (jR (jm rfl (ja rfl (jO (jN (jv1 6 ?_))))))
 refine jT ?_
 refine qC rfl ?_
 refine ⟨?_, hd2⟩
 rw [hlg]
 by_cases h2 : n < 258
 ·
  rw [qH8 (fun h => hc1 ⟨h.1, h2, h.2⟩)]
  rfl
 rw [show 258 - n = 0 by omega]
 rfl
theorem qYl (w0 w : World) (gf gm cb u a : Nat) (Ab : Option Addr) (bs : List Nat) (F : Nat × Nat × Nat → Option Addr × Nat) (hu : u ≤ a) (hl : bs.length ≤ 1000000) (hcb : bs.length ≤ cb) (ha : a ≤ bs.length) (hB : ∀ b ∈ bs, b < 256) (hF : IsF w0 w gf gm Ab cb bs u F) :
  Calls Tryz.prog 119 #[.pointer (some ⟨gf, 0, none⟩), .int .i64 ((a : Nat) : Int)] w fun e w' => e = .returned (.tuple #[]) ∧ Kpf gf F w w' ∧ ∃ F', sK F F' w.heap.size ∧ IsF w0 w' gf gm Ab cb bs a F' := by
 refine VC.calls (nt := 59) (res := #[]) Tryz.func119 rfl Tryz.ntmps119 Tryz.results119 rfl ?_
 refine jB ?_
 refine VC.loop (σ := Nat × (Nat × Nat × Nat → Option Addr × Nat)) (fun s => [(0, .pointer (some ⟨gf, 0, none⟩)), (1, .int .i64 ((a : Nat) : Int))]) (fun s wr => s.1 ≤ a ∧ IsF w0 wr gf gm Ab cb bs s.1 s.2 ∧ Kpf gf F w wr ∧ sK F s.2 w.heap.size) (fun s => a - s.1) (u, F) (js2 rfl rfl) ⟨hu, hF, Kpf.refl gf F w, fun _ _ h => .inl h⟩ ?_
 rintro ⟨p, G⟩ wr ⟨hp, hI, hkp, hro⟩
 dsimp only at hp hI
 have hb := hI.blk
 have hpl := uL bs (tri bs p) p
 refine jS (jS (jR (jm rfl (je (Run.nilck rfl) (jf rfl zbg rfl zd (jl rfl zg (hb.cell 2) (jm rfl (jb rfl rfl (Bin.lssN _ _) (jO (jN (jv3 0 1 10 ?_)))))))))))
 refine jD rfl (fun hc1 => ?_) fun hc1 => ?_
 ·
  refine jQ (jN (jv2 0 1 ?_))
  refine jS (jB (jS ?_))
  refine VC.still jK jK ?_
  refine qM ?_
  refine qE (Run.nilck rfl) ?_
  refine qE (Run.fieldAddr rfl zbg rfl zd jd) ?_
  refine qE (Run.load rfl zg (hb.cell 2)) ?_
  refine qE (Run.bin rfl rfl (Bin.add_i64 _ 3 jo)) ?_
  refine qM ?_
  refine qE (Run.nilck rfl) ?_
  refine qE (Run.fieldAddr rfl zbg rfl zl jd) ?_
  refine qE (Run.load rfl zt (hb.cell 0)) ?_
  refine qE (Run.lenS rfl ze) ?_
  refine qE (Run.bin rfl rfl (Bin.leqN _ _)) ?_
  refine qW.nil ?_
  refine jN (jv3 0 1 28 ?_)
  refine VC.meet (σ := Nat × Nat × Nat → Option Addr × Nat) (fun s => [(0, .pointer (some ⟨gf, 0, none⟩)), (1, .int .i64 ((a : Nat) : Int))]) (fun s wr => Blk wr gf 159 #[.slice Ab bs.length cb, .map (some gm), .int .i64 ((p : Nat) : Int)] ∧ Below w0.heap.size w0 wr ∧ IsP w0.heap.size wr gm bs (p + 1) s ∧ Kpf gf F w wr ∧ sK F s w.heap.size) ?_ ?_
  ·
   refine jD rfl (fun hc2 => ?_) fun hc2 => ?_
   ·
    refine jS ?_
    refine VC.heldL 17 (fun v => IsF w0 v gf gm Ab cb bs p G) jK ?_
    have hI3 := (hI.drawn (qQ.drew _)).drawn (qQ.drew _)
    obtain ⟨ad, hA, hadlt, hadc⟩ := hI3.rd.2 jo
    subst hA
    have hS : (fun v => IsF w0 v gf gm (some ad) cb bs p G) wr.drew.drew := hI3
    have hcut : cP (some ad) cb p 1 = some (ad.add (p * 1)) := by unfold cP; rw [if_neg jo]; rfl
    refine jH 0 rfl hS (fun w0 hw0 => Run.mv rfl) ?_
    refine jH 1 rfl hS (fun w0 hw0 => Run.nilck rfl) ?_
    refine jH 2 rfl hS (fun w0 hw0 => Run.fieldAddr rfl zbg rfl zl jd) ?_
    refine jH 3 rfl hS (fun w0 hw0 => Run.load rfl zt (hw0.blk.cell 0)) ?_
    refine jH 4 rfl hS (fun w0 hw0 => Run.mv rfl) ?_
    refine jH 5 rfl hS (fun w0 hw0 => Run.nilck rfl) ?_
    refine jH 6 rfl hS (fun w0 hw0 => Run.fieldAddr rfl zbg rfl zd jd) ?_
    refine jH 7 rfl hS (fun w0 hw0 => Run.load rfl zg (hw0.blk.cell 2)) ?_
    refine jH 8 rfl hS (fun w0 hw0 => Run.mv rfl) ?_
    refine jH 9 rfl hS (fun w0 hw0 => Run.nilck rfl) ?_
    refine jH 10 rfl hS (fun w0 hw0 => Run.fieldAddr rfl zbg rfl zd jd) ?_
    refine jH 11 rfl hS (fun w0 hw0 => Run.load rfl zg (hw0.blk.cell 2)) ?_
    refine jH 12 rfl hS (fun w0 hw0 => Run.bin rfl rfl (Bin.add_i64 _ 3 jo)) ?_
    refine jH 13 rfl hS (fun w0 hw0 => Run.sliceS _ _ rfl ze zad (evB.some_ rfl) (evB.some_ rfl) jo jo) ?_
    rw [hcut]
    refine jH 14 rfl hS (fun w0 hw0 => Run.toArr rfl zeu jo) ?_
    refine jH 15 rfl hS (fun w0 hw0 => Run.loadA (cs := NB [bs.getD p 0, bs.getD (p + 1) 0, bs.getD (p + 2) 0]) rfl Tryz.isAgg201 Tryz.sizeOf201 (uY hw0.rd jo) rfl) ?_
    refine qV.m 16 rfl jK (qJ.alloc qPi) trivial rfl rfl ?_
    rintro _ w2 ⟨rfl, hF2⟩
    have hI4 := hI3.frm hF2.frm jp
    refine ⟨hI4, ?_⟩
    refine qV.stL rfl jK (qR.storeA rfl rfl Tryz.sizeOf201 hF2.blk rfl (dH _)) trivial rfl ?_
    rintro w3 ⟨hk3, hf3, hs3⟩
    have hI5 : IsF w0 w3 gf gm (some ad) cb bs p G := hI4.set hf3 hF2.blk jd jd (by have := hI3.below.size; omega)
    generalize hgk : (World.drew (World.drew wr)).heap.size = gk at hk3 hf3 ⊢
    refine qV.done jK ?_
    refine jN (jv3 0 1 4 ?_)
    refine VC.heldL 14 (fun v => Blk v gf 159 #[.slice (some ad) bs.length cb, .map (some gm), .int .i64 ((p : Nat) : Int)] ∧ Blk v gk 201 #[.int .u8 ((bs.getD p 0 : Nat) : Int), .int .u8 ((bs.getD (p + 1) 0 : Nat) : Int), .int .u8 ((bs.getD (p + 2) 0 : Nat) : Int)]) jK ?_
    have hI6 := hI5.drawn (qQ.drew _)
    have hk6 := hk3.drawn (qQ.drew _)
    have hS : (fun v => Blk v gf 159 #[.slice (some ad) bs.length cb, .map (some gm), .int .i64 ((p : Nat) : Int)] ∧ Blk v gk 201 #[.int .u8 ((bs.getD p 0 : Nat) : Int), .int .u8 ((bs.getD (p + 1) 0 : Nat) : Int), .int .u8 ((bs.getD (p + 2) 0 : Nat) : Int)]) w3.drew := ⟨hI6.blk, hk6⟩
    refine jH 0 rfl hS (fun w0 hw0 => Run.mv rfl) ?_
    refine jH 1 rfl hS (fun w0 hw0 => Run.nilck rfl) ?_
    refine jH 2 rfl hS (fun w0 hw0 => Run.fieldAddr rfl zbg rfl Tryz.sizeOf157 jd) ?_
    refine jH 3 rfl hS (fun w0 hw0 => Run.load rfl Tryz.isAgg157 (hw0.1.cell 1)) ?_
    refine jH 4 rfl hS (fun w0 hw0 => Run.loadB rfl Tryz.isAgg201 Tryz.sizeOf201 (hw0.2) rfl) ?_
    refine qV.r1 5 rfl jK hS (Run.mv rfl) trivial rfl rfl ?_
    refine qV.r1 6 rfl jK hS (Run.nilck rfl) trivial rfl rfl ?_
    refine qV.r1 7 rfl jK hS (Run.fieldAddr rfl zbg rfl zd jd) trivial rfl rfl ?_
    refine qV.r1 8 rfl jK hS (Run.load rfl zg (hS.1.cell 2)) trivial rfl rfl ?_
    refine qV.m 9 rfl jK (qJ.buildS1 rfl zf zd gF jd jd rfl rfl) trivial rfl rfl ?_
    rintro _ w4 ⟨rfl, hF4⟩
    have hI7 := hI6.frm hF4.frm jp
    have hk7 := hk6.frm hF4.frm jp
    refine ⟨⟨hI7.blk, hk7⟩, ?_⟩
    obtain ⟨kl, hkey⟩ := key3 (tri bs p) (kP hB p) (kP hB (p + 1)) (kP hB (p + 2))
    have hrd7 : Rd w4 1 (some ⟨w3.drew.heap.size, 0, none⟩) 1 (NI [p]) := Rd.of_blk hF4.blk rfl
    refine qV.m 10 rfl jK (qJ.mapEntry (x := tri bs p) rfl rfl hI7.pl.map law3 qYi Tryz.underlying157 qWp hkey) trivial rfl rfl ?_
    rintro r w5 ⟨n, hr, hE5, hf5, hs5⟩
    rw [hI7.pl.getD] at hr
    subst hr
    have hS := And.intro (hI7.blk.frm hf5 (by simpa using (hI7.pl.map.ne_blk hI7.blk).symm)) (hk7.frm hf5 (by simpa using (hI7.pl.map.ne_blk hk7).symm))
    refine ⟨hS, ?_⟩
    have ho5 := (hI7.pl.own (tri bs p)).frm hf5 (fun z hz hx => hI7.pl.row (hI7.pl.own (tri bs p)) (by rw [zh] at hx; rw [← hx]; exact hz))
    have hrd5 := hrd7.frm hf5 (by simpa [ob] using (hI7.pl.map.ne_blk hF4.blk).symm)
    refine jH 11 rfl hS (fun w0 hw0 => Run.extract rfl rfl) ?_
    refine jH 13 rfl hS (fun w0 hw0 => Run.extract rfl rfl) ?_
    refine qV.m 12 rfl jK (qJ.app rfl rfl zf (fT) rfl jd ho5 hrd5 (gN [p]) jo jo) trivial rfl rfl ?_
    rintro _ w6 ⟨A6, c6, rfl, ho6, hf6, hob6⟩
    have hgx := hI7.pl.row (hI7.pl.own (tri bs p))
    have hE6 := hE5.frm hf6 hgx
    have hb6 := hS.1.frm hf6 (ho5.ne_blk hS.1 jd)
    refine ⟨⟨hb6, hS.2.frm hf6 (ho5.ne_blk hS.2 jd)⟩, ?_⟩
    refine qV.stL rfl jK (qR.entryStore rfl rfl rfl hE6 qYi) trivial rfl ?_
    rintro w7 ⟨hM7, hf7, hs7⟩
    have hbelow : Below w0.heap.size w0 w7 := by
     have h5 := hf5.onto hI7.below (by simpa using hI7.pl.hgm) hI7.below.size
     have h6 := hf6.onto h5 (hI7.pl.up _) h5.size
     exact hf7.onto h6 (by simpa using hI7.pl.hgm) h6.size
    refine qV.done jK ?_
    refine jN ⟨(fun y => if y = tri bs p then (A6, c6) else G y), (js2 rfl rfl), ?_⟩
    refine ⟨hb6.frm hf7 (by simpa using (hE6.mp.ne_blk hb6).symm), hbelow, hI7.pl.put hc2 hI7.below.size hf5 hs5 ho6 hf6 hob6 hE6.mp hM7 hf7, ?_, ?_⟩
    ·
     have k3 : Kpf gf F w w3 := (hkp.step ((qQ.drew wr).frm.trans ((qQ.drew _).frm.trans hF2.frm jp) jp) jp).step hf3 (fun x hx => .inr (.inl (by rw [zh] at hx; rw [hx, ← hgk]; exact hkp.1)))
     refine (((k3.step ((qQ.drew w3).frm.trans hF4.frm jp) jp).mp hf5 hI7.pl.map).step hf6 (fun x hx => ?_)).mp hf7 hE6.mp
     rcases hro _ x hx with h | h
     · exact .inr (.inr (.inl ⟨_, h⟩))
     exact .inr (.inl h)
    intro y z hz
    by_cases hy : y = tri bs p
    ·
     simp only [if_pos hy] at hz
     rcases hob6 with h | h
     ·
      rw [h] at hz
      rw [hy]
      exact hro _ z hz
     rw [h, zh] at hz
     have h1 := hkp.1
     have h2 := hF2.size
     have h3 := hF4.size
     have h5 := hf3.size
     have e1 : wr.drew.drew.heap.size = wr.heap.size := rfl
     have e2 : w3.drew.heap.size = w3.heap.size := rfl
     exact .inr jo
    simp only [if_neg hy] at hz
    exact hro y z hz
   refine jQ ?_
   refine jN ⟨G, (js2 rfl rfl), ?_⟩
   have hI8 := hI.drawn (qQ.drew _)
   exact ⟨hI8.blk, hI8.below, hI8.pl.same jo, hkp.step (qQ.drew wr).frm jp, hro⟩
  rintro G2 w9 ⟨hb9, hbel9, hP9, hkp9, hro9⟩ Γ hΓ
  refine qK (jN (VC.sub _ hΓ ?_))
  refine jR (jm rfl (je (Run.nilck rfl) (jf rfl zbg rfl zd (jl rfl zg (hb9.cell 2) (jb rfl rfl (Bin.add_i64 _ 1 jo) (je (Run.nilck rfl) (jf rfl zbg rfl zd ?_)))))))
  refine Ops.st (qR.store rfl rfl zd hb9 rfl rfl) ?_
  rintro w10 ⟨hb10, hf10, hs10⟩
  refine jO ?_
  refine jN ⟨(p + 1, G2), (js2 rfl rfl), ?_, ?_⟩
  · refine ⟨by dsimp only; omega, ⟨hb10, hF.rd0, hf10.onto hbel9 (by simpa using hF.hgf) hbel9.size, hF.hgf, hP9.frm hf10 (hP9.blk hb9 jd).1 (hP9.blk hb9 jd).2⟩, hkp9.step hf10 jp, hro9⟩
  first | omega | (dsimp only; omega)
 refine jX ?_
 refine qZ (qZ (qP ?_))
 refine eV ?_
 have hpa : p = a := jo
 subst hpa
 exact ⟨rfl, hkp, G, hro, hI⟩
end
section
open Go.RowKit
theorem Run.minI {P : Program} {Γ : Env} {w : World} {dst : Option Tmp} {pos : String} {after : Array Edge} {g : Option (Nat × Bool)} {t : TypeId} {x y : Operand} {k : IntKind} {a b : Int} {ts : Array TypeId} (hx : ev? Γ x = some (.int k a)) (hy : ev? Γ y = some (.int k b)) :
  Run P ⟨dst, .call ⟨.builtin .min, #[x, y], ts⟩, t, pos, after, g⟩ Γ w (.int k (if b < a then b else a)) := fun ρ hρ => by
 simp [execOp, resolve, invoke, builtin, Builtin.min_, Builtin.min2, hρ _ _ hx, hρ _ _ hy]
def tA (ds : List Nat) : List Deferred := ds.map fun d => { target := .collected d, args := #[] }
abbrev DQ := Exit → List Nat → Env → World → Prop
def qVl (m : Nat) (Q : DQ) (e : Exit) (a : Act) (w : World) : Prop := ∃ ds Γ, Sat ⟨m, tA ds, none⟩ Γ a ∧ Q e ds Γ w
def DV (P : Program) (m : Nat) (c : Code) (ds : List Nat) (Γ : Env) (w : World) (Q : DQ) : Prop := ∀ a, Sat ⟨m, tA ds, none⟩ Γ a → ∀ k, c.wpIn (wd none) k P (qVl m Q) a w
def wG (K : List Nat → Env → World → Prop) (Q : DQ) : DQ
 | .normal, ds, Γ, w => K ds Γ w
 | e, ds, Γ, w => Q e ds Γ w
def sV (id : Nat) (Q : DQ) : DQ
 | .exit i, ds, Γ, w => if i = id then Q .normal ds Γ w else Q (.exit i) ds Γ w
 | e, ds, Γ, w => Q e ds Γ w
section
variable {P : Program} {m : Nat} {ds : List Nat} {Γ : Env} {w : World} {Q : DQ} {K : List Nat → Env → World → Prop} {i id : Nat}
theorem bI (h : K ds Γ w) : wG K Q .normal ds Γ w := h
theorem qJ7 (h : Q .ret ds Γ w) : wG K Q .ret ds Γ w := h
theorem qJ8 (h : Q (.exit i) ds Γ w) : wG K Q (.exit i) ds Γ w := h
theorem uO (h : Q .normal ds Γ w) : sV id Q .normal ds Γ w := h
theorem qXk (h : Q .normal ds Γ w) : sV id Q (.exit id) ds Γ w := by simp only [sV, if_true]; exact h
theorem DV.vc {c : Code} (h : VC P ⟨m, tA ds, none⟩ c Γ w (fun e Γ' w' => Q e ds Γ' w')) : DV P m c ds Γ w Q := fun a hs k =>
 wpIn_mono (h a hs k) fun _ _ _ ⟨Γ', hs', q⟩ => ⟨ds, Γ', hs', q⟩
theorem DV.sub {c : Code} (Γ' : Env) (hs : Sub Γ Γ') (h : DV P m c ds Γ' w Q) : DV P m c ds Γ w Q := fun a ha => h a (ha.sub hs)
theorem DV.seq {x y : Code} (h : DV P m x ds Γ w (wG (fun ds' Γ' w' => DV P m y ds' Γ' w' Q) Q)) : DV P m (.seq x y) ds Γ w Q := by
 intro a hs k
 refine wpIn_seq (wpIn_mono (h a hs k) ?_)
 intro e a' w' hq
 obtain ⟨ds', Γ', hs', q⟩ := hq
 cases e with
 | normal => exact q a' hs' k
 | exit id => exact ⟨ds', Γ', hs', q⟩
 | goto l => exact ⟨ds', Γ', hs', q⟩
 | ret => exact ⟨ds', Γ', hs', q⟩
 | panic c => exact ⟨ds', Γ', hs', q⟩
 | outgrown => exact ⟨ds', Γ', hs', q⟩
theorem DV.block {c : Code} (h : DV P m c ds Γ w (sV id Q)) : DV P m (.block id c) ds Γ w Q := by
 intro a hs k
 refine wpIn_block (wpIn_mono (h a hs k) ?_)
 intro e a' w' hq
 obtain ⟨ds', Γ', hs', q⟩ := hq
 cases e with
 | normal => exact ⟨ds', Γ', hs', q⟩
 | exit i =>
  simp only [sV] at q
  by_cases hi : i = id
  · rw [if_pos hi] at q; simp only [Exit.inBlock, hi, if_true]; exact ⟨ds', Γ', hs', q⟩
  rw [if_neg hi] at q; simp only [Exit.inBlock, hi, if_false]; exact ⟨ds', Γ', hs', q⟩
 | goto l => exact ⟨ds', Γ', hs', q⟩
 | ret => exact ⟨ds', Γ', hs', q⟩
 | panic c => exact ⟨ds', Γ', hs', q⟩
 | outgrown => exact ⟨ds', Γ', hs', q⟩
theorem DV.condB {c : Operand} {x y : Code} {b : Bool} (hc : ev? Γ c = some (.bool b)) (ht : b = true → DV P m x ds Γ w Q) (hf : b = false → DV P m y ds Γ w Q) : DV P m (.cond c x y) ds Γ w Q := by
 intro a hs k
 have e := hs.fits _ _ hc
 exact wpIn_cond_split e (fun h => ht h a hs k) (fun h => hf h a hs k)
theorem DV.condD {c : Operand} {x y : Code} {p : Prop} [Decidable p] (hc : ev? Γ c = some (.bool (decide p))) (ht : p → DV P m x ds Γ w Q) (hf : ¬ p → DV P m y ds Γ w Q) : DV P m (.cond c x y) ds Γ w Q :=
 DV.condB hc (fun e => ht (of_decide_eq_true e)) (fun e => hf (of_decide_eq_false e))
theorem DV.condT {c : Operand} {x y : Code} {b : Bool} (hc : ev? Γ c = some (.bool b)) (hb : b = true) (h : DV P m x ds Γ w Q) : DV P m (.cond c x y) ds Γ w Q :=
 DV.condB hc (fun _ => h) (fun e => by rw [hb] at e; cases e)
theorem DV.condF {c : Operand} {x y : Code} {b : Bool} (hc : ev? Γ c = some (.bool b)) (hb : b = false) (h : DV P m y ds Γ w Q) : DV P m (.cond c x y) ds Γ w Q :=
 DV.condB hc (fun e => by rw [hb] at e; cases e) (fun _ => h)
theorem DV.skip (h : Q .normal ds Γ w) : DV P m .skip ds Γ w Q := DV.vc (VC.skip h)
theorem DV.loop {σ : Type} {c : Code} (D : σ → List Nat) (env : σ → Env) (inv : σ → World → Prop) (μ : σ → Nat) (s0 : σ) (hD0 : ds = D s0) (hs0 : Sub Γ (env s0)) (h0 : inv s0 w)
  (round : ∀ s w, inv s w → DV P m c (D s) (env s) w (wG (fun ds' Γ' w' => ∃ s', ds' = D s' ∧ Sub Γ' (env s') ∧ inv s' w' ∧ μ s' < μ s) Q)) : DV P m (.loop c) ds Γ w Q := by
 subst hD0
 intro a hs m0
 refine wpIn_loop_ghost (fun k a w => ∃ s, μ s = k ∧ Sat ⟨m, tA (D s), none⟩ (env s) a ∧ inv s w) (μ s0) ⟨s0, rfl, hs.sub hs0, h0⟩ ?_
 rintro k a w ⟨s, rfl, hsa, hi⟩
 refine wpIn_mono (round s w hi a hsa m0) ?_
 intro e a' w' hq
 obtain ⟨ds', Γ', hs', q⟩ := hq
 cases e with
 | normal =>
  obtain ⟨s', rfl, hsub, hinv, hlt⟩ := q
  exact ⟨μ s', hlt, s', rfl, hs'.sub hsub, hinv⟩
 | exit id => exact ⟨ds', Γ', hs', q⟩
 | goto l => exact ⟨ds', Γ', hs', q⟩
 | ret => exact ⟨ds', Γ', hs', q⟩
 | panic c => exact ⟨ds', Γ', hs', q⟩
 | outgrown => exact ⟨ds', Γ', hs', q⟩
end
abbrev dP (w : World) (d : Nat) : Prop := w.heap[d]? = some (.deferred (some []))
theorem dP.frm {w w' : World} {S : List Nat} {d : Nat} (h : dP w d) (k : Frm S w w') (hd : d ∉ S) : dP w' d := (k.block d (Array.getElem?_eq_some_iff.1 h).1 hd).trans h
theorem dP.ne_blk {w : World} {d g : Nat} {t : TypeId} {cs : Array Value} (h : dP w d) (hb : Blk w g t cs) : d ≠ g := by
 rintro rfl
 unfold Blk at hb
 rw [h] at hb
 cases hb
theorem dP.ne_own {w : World} {d e size n c : Nat} {A : Option Addr} {xs : List Value} (h : dP w d) (ho : Own w e size A n c xs) : d ∉ ob A := by
 rcases ho.cases with ⟨rfl, _⟩ | ⟨g, cur, rfl, hb, _⟩
 · simp [ob]
 simp only [ob, zh]
 exact h.ne_blk hb
theorem dP.drew {w : World} {d : Nat} (h : dP w d) : dP w.drew d := h
theorem Frm.putObj (w : World) (l : Nat) (o : Obj) : Frm [l] w (w.putObj l o) :=
 ⟨rfl, rfl, rfl, by simp [World.putObj], fun k _ hk => World.putObj_heap_other (fun e => hk (by simp [e]))⟩
def endD (P : Program) (res : Array ResultVar) (R : Ending → World → Prop) : DQ
 | .normal, ds, Γ, w | .ret, ds, Γ, w => ds.Nodup ∧ (∀ d ∈ ds, dP w d) ∧ ∀ w', Frm ds w w' → fP P res R .ret Γ w'
 | _, _, _, _ => False
section
variable {P : Program} {m : Nat} {ds : List Nat} {Γ : Env} {w : World} {res : Array ResultVar} {R : Ending → World → Prop}
theorem sW (h1 : ds.Nodup) (h2 : ∀ d ∈ ds, dP w d) (h : ∀ w', Frm ds w w' → fP P res R .ret Γ w') : endD P res R .ret ds Γ w := ⟨h1, h2, h⟩
theorem sY {fn : Func} {tmps : Array Value} {k : Nat} {F : Fence} : ∀ (ds : List Nat) (w : World), ds.Nodup → (∀ d ∈ ds, dP w d) →
  (∀ w', Frm ds w w' → ∃ v, (results fn tmps).run P w' = .ok v w' ∧ R (.returned v) w') → LeavesInM F k P fn tmps R (tA ds) .returning w
 | [], w, _, _, h => by
  obtain ⟨v, h1, h2⟩ := h w (Frm.refl _ _)
  exact ⟨v, h1, h2⟩
 | d :: ds, w, hn, hm, h => by
  obtain ⟨hn1, hn2⟩ := List.nodup_cons.1 hn
  refine ⟨jp, .inl ⟨d, w.putObj d (.deferred none), rfl, run_takeDeferred (hm d jp), ?_⟩⟩
  have hf := Frm.putObj w d (.deferred none)
  refine sY ds _ hn2 (fun x hx => ?_) (fun w' hw' => h w' ?_)
  · exact (hm x (by simp [hx])).frm hf (by simp; rintro rfl; exact hn1 hx)
  exact (hf.mono (T := d :: ds) jp).trans hw' (fun x hx => .inl (by simp [hx]))
theorem DV.calls {f : FuncId} {fn : Func} {c : Code} {args : List Value} {nt : Nat} (hf : P.funcs[f]? = some fn) (hb : fn.body = some c) (hn : fn.ntmps = nt) (hr : fn.results = res) (hl0 : Nat.ble args.length nt = true)
  (h : DV P nt c [] (argEnv 0 args) w (endD P res R)) : Calls P f args.toArray w R := by
 have hl : args.length ≤ nt := zey hl0
 refine callsIn_wide.1 (callsIn_of_wp_marks (F := Fence.wide) (n := 0) hf hb trivial ?_)
 refine wpIn_mono (h _ ?_ 0) ?_
 ·
  refine ⟨?_, rfl, ?_⟩
  ·
   simp only [zgz, zck, zgj, hn]
   omega
  intro t v ht
  obtain ⟨_, h2⟩ := mG args 0 t v ht
  simp only [zcn] at h2
  have hlt : t < args.length := (List.getElem?_eq_some_iff.1 h2).1
  rw [zbq, zez (by simpa using hlt)]
  simp [h2]
 rintro e a w' ⟨ds, Γ, hs, hq⟩
 have key : ds.Nodup ∧ (∀ d ∈ ds, dP w' d) ∧ (∀ w'', Frm ds w' w'' → fP P res R .ret Γ w'') → LeavesInM Fence.wide 0 P fn a.tmps R a.defers .returning w' := by
  rintro ⟨h1, h2, h3⟩
  rw [hs.defers]
  refine sY ds w' h1 h2 (fun w'' hw'' => ?_)
  obtain ⟨vs, h4, h5⟩ := fK hs hr (h3 w'' hw'')
  exact ⟨_, h4, h5⟩
 cases e with
 | normal => exact key hq
 | ret => exact key hq
 | _ => exact hq.elim
end
def kZ (P : Program) (l : Nat) (args : Array Value) (W : World) (R : Ending → World → Prop) : Prop := ∀ k, YieldAt (wd none) k P l args W R
theorem kZ.mono {P : Program} {l : Nat} {args : Array Value} {W : World} {R R' : Ending → World → Prop} (h : kZ P l args W R) (hr : ∀ e w', R e w' → R' e w') : kZ P l args W R' := fun k =>
 let ⟨fn, tmps, assign, body, h1, h2⟩ := h k; ⟨fn, tmps, assign, body, h1, h2.mono hr⟩
def Off (Bt : List Nat) (W W' : World) : Prop := ∃ C, Frm C W W' ∧ ∀ b ∈ Bt, b ∉ C
theorem Off.blk {Bt : List Nat} {W W' : World} {g : Nat} {t : TypeId} {cs : Array Value} (h : Off Bt W W') (hb : Blk W g t cs) (hg : g ∈ Bt) : Blk W' g t cs := by
 obtain ⟨C, hf, hC⟩ := h
 exact hb.frm hf (hC g hg)
theorem Off.rd {Bt : List Nat} {W W' : World} {size n : Nat} {A : Option Addr} {xs : List Value} (h : Off Bt W W') (hr : Rd W size A n xs) (hg : 0 < n → ∀ x ∈ ob A, x ∈ Bt) : Rd W' size A n xs := by
 obtain ⟨C, hf, hC⟩ := h
 exact hr.frm hf fun hn x hx => hC x (hg hn x hx)
def qH9 {α : Type} (P : Program) (gf : FuncId) (lb : Array Value) (encs : α → Array Value) (B Bt : List Nat) (Kp : World → Prop) (xs : List α) : Prop :=
 ∀ (l : Nat) (J Jx : List α → World → Prop) (W : World),
  (∀ pre W W', J pre W → Frm B W W' → J pre W') → (∀ pre W W', Jx pre W → Frm B W W' → Jx pre W') → Kp W →
  (∀ pre x W1, J pre W1 → (pre ++ [x]) <+: xs → kZ P l (encs x) W1 fun e W' => Off Bt W1 W' ∧ ((e = .returned (.bool true) ∧ J (pre ++ [x]) W') ∨ (e = .returned (.bool false) ∧ Jx (pre ++ [x]) W'))) →
  J [] W → Calls P gf (#[.func (.yield l) #[] #[]] ++ lb) W fun e W' => (∃ v, e = .returned v) ∧ (J xs W' ∨ ∃ pre, Jx pre W')
theorem Ops.yield {P : Program} {n : NF} {Γ : Env} {w : World} {Q : Exit → Env → World → Prop} {ops : Array Oper} {rest : List Oper} {dst : Option Tmp} {T : TypeId} {pos : String} {after : Array Edge} {l : Nat} {c : Operand} {xs : List Operand} {vs : List Value} {ts : Array TypeId} {R : Ending → World → Prop}
  (hro : n.ro = none) (hc : ev? Γ c = some (.func (.yield l) #[] #[])) (hv : evs Γ xs vs) (hy : kZ P l vs.toArray w R) {d : Nat} (hd : dst = some d) (hn : Nat.blt d n.n = true)
  (k : ∀ e w', R e w' → ∃ v, e = .returned v ∧ Ops P n ops rest ((d, v) :: Γ) w' Q) : Ops P n ops (⟨dst, .call ⟨.value c, xs.toArray, ts⟩, T, pos, after, none⟩ :: rest) Γ w Q :=
 Ops.of_wp trivial fun a hs m => by
  rw [hro]
  refine ⟨dF, ?_⟩
  obtain ⟨fn, tmps, assign, body, h1, h2⟩ := hy (m - 1)
  have e1 := gX hs.fits xs vs hv
  have e2 : a.eval c = .func (.yield l) #[] #[] := hs.fits _ _ hc
  have hrun : (execOp a.eval ⟨dst, .call ⟨.value c, xs.toArray, ts⟩, T, pos, after, none⟩).run P w = .ok (.round l fn tmps assign body) w := by
   simp [execOp, resolve, e2, Deferred.ofValue, invoke, callFunc, e1, h1]
  rw [gW hrun jp, Oper.uponIn_round, hd]
  refine ⟨fun h => by simp [wd, Fence.wide] at h, h2.mono ?_⟩
  intro e w' hR
  obtain ⟨v, rfl, hk⟩ := k e w' hR
  have := hk _ (hs.put hn v) m
  rw [hro] at this
  exact this
theorem KeepsOthers.of_frm {S : List Nat} {W W' : World} (h : Frm S W W') (hS : ∀ b ∈ S, ∀ o, W.heap[b]? = some o → o.isCells = true) : KeepsOthers W W' :=
 ⟨h.size, fun k o hk ho => (h.block k (Array.getElem?_eq_some_iff.1 hk).1 (fun hx => by have := hS k hx o hk; rw [ho] at this; cases this)).trans hk⟩
theorem KeepsOthers.frm0 {W W' : World} (h : Frm [] W W') : KeepsOthers W W' := KeepsOthers.of_frm h jp
theorem KeepsOthers.blk {W W' : World} {g : Nat} {t : TypeId} {cs : Array Value} (h : Frm [g] W W') (hb : Blk W g t cs) : KeepsOthers W W' := KeepsOthers.of_frm h (fun b hx o ho => by
 simp at hx; subst hx
 unfold Blk at hb
 rw [hb] at ho
 cases ho; rfl)
theorem KeepsOthers.own {W W' : World} {e size n c : Nat} {A : Option Addr} {xs : List Value} (h : Frm (ob A) W W') (ho : Own W e size A n c xs) : KeepsOthers W W' := by
 rcases ho.cases with ⟨rfl, _⟩ | ⟨g, cur, rfl, hb, _⟩
 · exact KeepsOthers.frm0 h
 exact KeepsOthers.blk h hb
def jI (Bt : List Nat) (W W' : World) : Prop := ∃ C, Frm C W W' ∧ ∀ b ∈ C, b ∉ Bt ∧ ∀ o, W.heap[b]? = some o → o.isCells = true
theorem jI.frm0 {Bt : List Nat} {W W' : World} (h : Frm [] W W') : jI Bt W W' := ⟨[], h, jp⟩
theorem jI.off {Bt : List Nat} {W W' : World} (h : jI Bt W W') : Off Bt W W' := by
 obtain ⟨C, hf, hC⟩ := h
 exact ⟨C, hf, fun b hb hx => (hC b hx).1 hb⟩
theorem jI.others {Bt : List Nat} {W W' : World} (h : jI Bt W W') : KeepsOthers W W' := by
 obtain ⟨C, hf, hC⟩ := h
 exact KeepsOthers.of_frm hf fun b hb o ho => (hC b hb).2 o ho
theorem Blk.isC {W : World} {g : Nat} {t : TypeId} {cs : Array Value} (hb : Blk W g t cs) : ∀ o, W.heap[g]? = some o → o.isCells = true := fun o ho => by
 unfold Blk at hb
 rw [hb] at ho
 cases ho; rfl
theorem Own.isC {W : World} {e size n c : Nat} {A : Option Addr} {xs : List Value} (ho : Own W e size A n c xs) : ∀ g ∈ ob A, ∀ o, W.heap[g]? = some o → o.isCells = true := by
 rcases ho.cases with ⟨rfl, _⟩ | ⟨g, cur, rfl, hb, _⟩
 · simp [ob]
 intro x hx
 simp only [ob, zh] at hx
 subst hx
 exact hb.isC
def qR8 {α : Type} (Bt : List Nat) (I : List α → World → Prop) (Ix : Exit → List α → World → Prop) (xs : List α) (W : World) : Exit → Env → World → Prop
 | .normal, _, W' => jI Bt W W' ∧ I xs W'
 | .ret, _, W' => jI Bt W W' ∧ Ix .ret xs W'
 | .exit id, _, W' => jI Bt W W' ∧ Ix (.exit id) xs W'
 | _, _, _ => False
theorem sG : ∀ (l : List (Nat × Value)) (tmps : Array Value) (Γ : Env) (N : Nat), tmps.size = N → (∀ t v, get? Γ t = some v → tmps.getD t undef = v) → (∀ x ∈ l, x.1 < N) →
  (l.foldl (fun t (x : Nat × Value) => t.setIfInBounds x.1 x.2) tmps).size = N ∧ ∀ t v, get? (l.reverse ++ Γ) t = some v → (l.foldl (fun t (x : Nat × Value) => t.setIfInBounds x.1 x.2) tmps).getD t undef = v
 | [], tmps, Γ, N, hN, h, _ => ⟨hN, by simpa using h⟩
 | (p, u) :: r, tmps, Γ, N, hN, h, hl => by
  have hp : p < tmps.size := by rw [hN]; exact hl (p, u) jp
  have h1 := sG r (tmps.setIfInBounds p u) ((p, u) :: Γ) N (by simpa using hN) (fun t v ht => by
   simp only [get?] at ht
   cases hq : Nat.beq p t with
   | true =>
    rw [hq] at ht
    simp only [cond_true, Option.some.injEq] at ht
    subst ht
    rw [← zds hq]
    simp [zbq, hp]
   | false =>
    rw [hq] at ht
    simp only [cond_false] at ht
    have hne : p ≠ t := fun e => by subst e; rw [Nat.beq_refl] at hq; cases hq
    have := h t v ht
    rw [zbq, Array.getElem?_setIfInBounds_ne hne, ← zbq]
    exact this) (fun x hx => hl x (by simp [hx]))
  rw [zdy]
  have e : ((p, u) :: r).reverse ++ Γ = r.reverse ++ (p, u) :: Γ := jp
  rw [e]
  exact h1
abbrev NC (w W : World) (B S : List Nat) : Prop := ∀ b ∈ S, b ∈ B ∨ (w.heap.size ≤ b ∧ ∀ o, W.heap[b]? = some o → o.isCells = false)
theorem Blk.nc {w W : World} {B S : List Nat} {g : Nat} {t : TypeId} {cs : Array Value} (hb : Blk W g t cs) (hS : NC w W B S) (hg : g ∉ B) : g ∉ S := fun h => by
 rcases hS g h with h1 | ⟨_, h1⟩
 · exact hg h1
 have := h1 _ hb
 cases this
theorem Own.nc {w W : World} {B S : List Nat} {e size n c : Nat} {A : Option Addr} {xs : List Value} (ho : Own W e size A n c xs) (hS : NC w W B S) (hg : ∀ x ∈ ob A, x ∉ B) : ∀ x ∈ ob A, x ∉ S := by
 rcases ho.cases with ⟨rfl, _⟩ | ⟨g, cur, rfl, hb, _⟩
 · simp [ob]
 intro x hx
 have hx2 := hg x hx
 simp only [ob, zh] at hx
 subst hx
 exact hb.nc hS hx2
theorem Frm.nc {w0 w W W' : World} {B S : List Nat} (h : Frm [] w0 W) (k : Frm S W W') (hS : NC w W B S) (hB : ∀ b ∈ B, w0.heap.size ≤ b) (hw : w0.heap.size ≤ w.heap.size) : Frm [] w0 W' := h.own k fun b hb => by
 rcases hS b hb with h1 | ⟨h1, _⟩
 · exact hB b h1
 omega
theorem DV.range {α : Type} {P : Program} {m : Nat} {ds : List Nat} {Γ : Env} {w : World} {Q : DQ} {g : Operand} {ps : List Tmp} {assign body : Code} {gf : FuncId} {lb : Array Value} {Kp : World → Prop} {xs : List α} {B Bt : List Nat} (encs : α → List Value)
  (hit : qH9 P gf lb (fun x => (encs x).toArray) B Bt Kp xs) (hg : ev? Γ g = some (.func (.func gf) #[] lb)) (eg : ∀ args w, (callFunc gf args).run P w = .ok (.enter gf args) w) (hps : ∀ x, (encs x).length = ps.length) (hpm : (ps.all fun p => Nat.blt p m) = true)
  (I : List α → World → Prop) (Ix : Exit → List α → World → Prop) (ΓA : α → Env)
  (hI : ∀ pre W W' S, I pre W → Frm S W W' → NC w W B S → I pre W') (hIx : ∀ e pre W W' S, Ix e pre W → Frm S W W' → NC w W B S → Ix e pre W') (hK : ∀ W, Frm [] w W → Kp W) (hB : ∀ b ∈ B, b ∈ Bt) (hBt : ∀ b ∈ Bt, b < w.heap.size) (h0 : I [] w)
  (hassign : ∀ l x W, VC P ⟨m, [], some l⟩ assign ((ps.zip (encs x)).reverse ++ Γ) W (gC (fun Γ' W' => W' = W ∧ Sub Γ' (ΓA x)) (fun _ _ _ => False)))
  (hbody : ∀ l pre x W, I pre W → (pre ++ [x]) <+: xs → w.heap.size + 2 ≤ W.heap.size → dP W w.heap.size → VC P ⟨m, [], some l⟩ body (ΓA x) W (qR8 Bt I Ix (pre ++ [x]) W))
  (hdone : ∀ W, I xs W → w.heap.size + 2 ≤ W.heap.size → dP W w.heap.size → Q .normal (w.heap.size :: ds) Γ W)
  (hret : ∀ pre W, Ix .ret pre W → w.heap.size + 2 ≤ W.heap.size → dP W w.heap.size → Q .ret (w.heap.size :: ds) Γ W)
  (hexit : ∀ id pre W, Ix (.exit id) pre W → w.heap.size + 2 ≤ W.heap.size → dP W w.heap.size → Q (.exit id) (w.heap.size :: ds) Γ W) : DV P m (.rangeFunc g ps.toArray assign body) ds Γ w Q := by
 intro a hs k
 refine wpIn_rangeFunc ?_
 intro fn hfn
 obtain ⟨rec, hrec⟩ : ∃ rec : LoopState → Option Code → Loop, rec = fun st pe => { state := st, pending := pe, fn, tmps := a.tmps, params := ps.toArray, assign, body, defers := w.heap.size } := ⟨_, rfl⟩
 obtain ⟨W1, hW1⟩ : ∃ W1, (w.alloc (.deferred (some []))).alloc (.loop (rec .ready none)) = W1 := ⟨_, rfl⟩
 have hL1 : W1.heap[w.heap.size + 1]? = some (.loop (rec .ready none)) := by
  rw [← hW1]; have := World.alloc_heap_new (w.alloc (.deferred (some []))) (.loop (rec .ready none)); rwa [World.size_alloc] at this
 have hK1 : dP W1 w.heap.size := by
  rw [← hW1]; exact (Below.heap_alloc _ _ _ jp).trans (World.alloc_heap_new w _)
 have hF1 : Frm [] w W1 := by rw [← hW1]; exact ((Frm.refl [] w).alloc _).alloc _
 have hI1 : I [] W1 := hI [] w W1 [] h0 hF1 (fun b hb => by cases hb)
 have hsz : ∀ W : World, ∀ r, W.heap[w.heap.size + 1]? = some (.loop r) → w.heap.size + 2 ≤ W.heap.size := fun W r h => by
  have := (Array.getElem?_eq_some_iff.1 h).1; omega
 have hnc : ∀ W r, W.heap[w.heap.size + 1]? = some (.loop r) → NC w W B [w.heap.size + 1] := fun W r h b hb => by
  simp only [zh] at hb
  subst hb
  refine .inr ⟨jo, fun o ho => by rw [h] at ho; cases ho; rfl⟩
 have hmk : ∀ (W : World) o, dP W w.heap.size → dP (W.putObj (w.heap.size + 1) o) w.heap.size := fun W o h => (World.putObj_heap_other jo).trans h
 refine ⟨w.heap.size + 1, [{ target := .collected w.heap.size, args := #[] }], W1, { target := .fn (.func gf) lb, args := #[.func (.yield (w.heap.size + 1)) #[] #[]] }, W1, gf,
  #[.func (.yield (w.heap.size + 1)) #[] #[]] ++ lb, W1, ?_, ?_, fun _ _ => trivial, ?_, fun h => by simp [wd, Fence.wide] at h, ?_⟩
 · rw [← hW1, hrec]; exact run_enterLoop_outer _ _ _ _ _
 ·
  have e1 : a.eval g = .func (.func gf) #[] lb := hs.fits _ _ hg
  simp only [resolve, e1]
  simp [go_sem]
 · simp [invoke, go_sem, eg]
 let J : List α → World → Prop := fun pre W => I pre W ∧ W.heap[w.heap.size + 1]? = some (.loop (rec .ready none)) ∧ dP W w.heap.size
 let Jx : List α → World → Prop := fun pre W => ((Ix .ret pre W ∧ W.heap[w.heap.size + 1]? = some (.loop (rec .done (some .ret)))) ∨ ∃ id, Ix (.exit id) pre W ∧ W.heap[w.heap.size + 1]? = some (.loop (rec .done (some (.exit id))))) ∧ dP W w.heap.size
 have keepL : ∀ {W W' : World} {r}, Frm B W W' → W.heap[w.heap.size + 1]? = some (.loop r) → W'.heap[w.heap.size + 1]? = some (.loop r) := fun hf h => (hf.block _ (Array.getElem?_eq_some_iff.1 h).1 (fun hx => by have := hBt _ (hB _ hx); omega)).trans h
 have keepM : ∀ {W W' : World}, Frm B W W' → dP W w.heap.size → dP W' w.heap.size := fun hf h => h.frm hf (fun hx => by have := hBt _ (hB _ hx); omega)
 refine mY.2 ((hit (w.heap.size + 1) J Jx W1 ?_ ?_ (hK _ hF1) ?_ ⟨hI1, hL1, hK1⟩).mono ?_)
 ·
  rintro pre W W' ⟨h1, h2, h3⟩ hf
  exact ⟨hI pre W W' B h1 hf (fun b hb => .inl hb), keepL hf h2, keepM hf h3⟩
 ·
  rintro pre W W' ⟨h1, h3⟩ hf
  refine ⟨?_, keepM hf h3⟩
  rcases h1 with ⟨h1, h2⟩ | ⟨id, h1, h2⟩
  · exact .inl ⟨hIx _ pre W W' B h1 hf (fun b hb => .inl hb), keepL hf h2⟩
  exact .inr ⟨id, hIx _ pre W W' B h1 hf (fun b hb => .inl hb), keepL hf h2⟩
 ·
  rintro pre x W ⟨hi, hl, hk⟩ hpre k'
  have hlt : w.heap.size + 1 < W.heap.size := (Array.getElem?_eq_some_iff.1 hl).1
  have hy := run_yield (P := P) (args := (encs x).toArray) hl (by rw [hrec]; simpa using hps x)
  rw [hrec] at hy
  refine ⟨fn, _, assign, body, hy, roundIn_of_wpIn hfn ?_⟩
  have hz : (ps.toArray.zip (encs x).toArray).foldl (fun tmps (t, a) => tmps.setIfInBounds t a) a.tmps = (ps.zip (encs x)).foldl (fun t (x : Nat × Value) => t.setIfInBounds x.1 x.2) a.tmps := by
   simp [List.zip_toArray]
  obtain ⟨hfs, hfg⟩ := sG (ps.zip (encs x)) a.tmps Γ m hs.size hs.at_ (fun y hy => by
   have h1 := (List.of_mem_zip hy).1
   have h2 := List.all_eq_true.1 hpm _ h1
   simpa [zed] using h2)
  dsimp only
  rw [hz]
  refine wpIn_mono (hassign (w.heap.size + 1) x W { tmps := (ps.zip (encs x)).foldl (fun t (x : Nat × Value) => t.setIfInBounds x.1 x.2) a.tmps, defers := [] } ⟨hfs, rfl, hfg⟩ k') ?_
  rintro e a1 W' ⟨Γ1, hs1, hq1⟩
  cases e with
  | normal =>
   obtain ⟨rfl, hsub⟩ := hq1
   have hl2 : (W'.putObj (w.heap.size + 1) (.loop { rec .ready none with state := .busy })).heap[w.heap.size + 1]? = some (.loop { rec .ready none with state := .busy }) := World.putObj_heap_same hlt
   have hf2 := Frm.putObj W' (w.heap.size + 1) (.loop { rec .ready none with state := .busy })
   have hi2 := hI pre _ _ _ hi hf2 (hnc _ _ hl)
   refine ⟨_, run_beginRound hl (by rw [hrec]), ?_⟩
   refine wpIn_mono (hbody (w.heap.size + 1) pre x _ hi2 hpre (hsz _ _ hl2) (hmk _ _ hk) a1 (hs1.sub hsub) k') ?_
   have fin : ∀ (jump : Option Code) (W3 : World), KeepsOthers (W'.putObj (w.heap.size + 1) (.loop { rec .ready none with state := .busy })) W3 →
     (Instr.endRound (w.heap.size + 1) jump).run P W3 = .ok (.bool jump.isNone) (W3.putObj (w.heap.size + 1) (.loop (rec (if jump.isNone then .ready else .done) jump))) ∧
     W3.heap[w.heap.size + 1]? = some (.loop { rec .ready none with state := .busy }) ∧
     (W3.putObj (w.heap.size + 1) (.loop (rec (if jump.isNone then .ready else .done) jump))).heap[w.heap.size + 1]? = some (.loop (rec (if jump.isNone then .ready else .done) jump)) ∧
     dP (W3.putObj (w.heap.size + 1) (.loop (rec (if jump.isNone then .ready else .done) jump))) w.heap.size := fun jump W3 hk3 => by
    have hl3 := hk3.same _ _ hl2 rfl
    have := run_endRound (P := P) jump hl3
    rw [hrec] at this ⊢
    exact ⟨this, by rw [hrec] at hl3; exact hl3, World.putObj_heap_same (Array.getElem?_eq_some_iff.1 hl3).1, hmk _ _ (hk3.same _ _ (hmk _ _ hk) rfl)⟩
   have offs : ∀ {W3 : World} {o : Obj}, jI Bt (W'.putObj (w.heap.size + 1) (.loop { rec .ready none with state := .busy })) W3 → Off Bt W' (W3.putObj (w.heap.size + 1) o) := fun {W3 o} hw => by
    obtain ⟨C, hf, hC⟩ := hw.off
    refine ⟨(w.heap.size + 1) :: C, ((hf2.mono (T := (w.heap.size + 1) :: C) jp).trans hf (fun x hx => .inl (by simp [hx]))).trans (Frm.putObj W3 _ o) jp, fun b hb hx => ?_⟩
    rcases zcq.1 hx with rfl | hx
    · have := hBt _ hb; omega
    exact hC b hb hx
   rintro e a3 W3 ⟨Γ3, _, hp⟩
   cases e with
   | normal =>
    obtain ⟨hk3, hi3⟩ := hp
    obtain ⟨hr, hl3, hl4, hk4⟩ := fin none W3 hk3.others
    exact ⟨_, _, hr, offs hk3, .inl ⟨rfl, hI _ _ _ _ hi3 (Frm.putObj W3 _ _) (hnc _ _ hl3), hl4, hk4⟩⟩
   | ret =>
    obtain ⟨hk3, hi3⟩ := hp
    obtain ⟨hr, hl3, hl4, hk4⟩ := fin (some .ret) W3 hk3.others
    exact ⟨_, _, hr, offs hk3, .inr ⟨rfl, .inl ⟨hIx _ _ _ _ _ hi3 (Frm.putObj W3 _ _) (hnc _ _ hl3), hl4⟩, hk4⟩⟩
   | exit id =>
    obtain ⟨hk3, hi3⟩ := hp
    obtain ⟨hr, hl3, hl4, hk4⟩ := fin (some (.exit id)) W3 hk3.others
    exact ⟨_, _, hr, offs hk3, .inr ⟨rfl, .inr ⟨id, hIx _ _ _ _ _ hi3 (Frm.putObj W3 _ _) (hnc _ _ hl3), hl4⟩, hk4⟩⟩
   | goto t => exact hp.elim
   | panic ch => exact hp.elim
   | outgrown => exact hp.elim
  | exit id => exact hq1.elim
  | goto t => exact hq1.elim
  | ret => exact hq1.elim
  | panic ch => exact hq1.elim
  | outgrown => exact hq1.elim
 have hs' : Sat ⟨m, tA (w.heap.size :: ds), none⟩ Γ { a with defers := [{ target := .collected w.heap.size, args := #[] }] ++ a.defers } := ⟨hs.size, by show [_] ++ a.defers = _; rw [hs.defers]; rfl, hs.at_⟩
 rintro e W2 ⟨⟨v, rfl⟩, (⟨hi, hl, hk⟩ | ⟨pre, h1, hk⟩)⟩
 ·
  have hend := run_endLoop (P := P) hl (by rw [hrec]; simp)
  refine ⟨none, _, by rw [hend, hrec], ?_⟩
  exact ⟨_, Γ, hs', hdone _ (hI _ _ _ _ hi (Frm.putObj _ _ _) (hnc _ _ hl)) (zo (hsz _ _ hl) (Frm.putObj _ _ _).size) (hmk _ _ hk)⟩
 rcases h1 with ⟨hi, hl⟩ | ⟨id, hi, hl⟩
 ·
  have hend := run_endLoop (P := P) hl (by rw [hrec]; simp)
  refine ⟨some .ret, _, by rw [hend, hrec], ?_⟩
  exact wpIn_ret (Q := qVl m Q) ⟨_, Γ, hs', hret _ _ (hIx _ _ _ _ _ hi (Frm.putObj _ _ _) (hnc _ _ hl)) (zo (hsz _ _ hl) (Frm.putObj _ _ _).size) (hmk _ _ hk)⟩
 have hend := run_endLoop (P := P) hl (by rw [hrec]; simp)
 refine ⟨some (.exit id), _, by rw [hend, hrec], ?_⟩
 exact wpIn_exit (Q := qVl m Q) ⟨_, Γ, hs', hexit _ _ _ (hIx _ _ _ _ _ hi (Frm.putObj _ _ _) (hnc _ _ hl)) (zo (hsz _ _ hl) (Frm.putObj _ _ _).size) (hmk _ _ hk)⟩
end
section
open Go.RowKit Go.Sort
abbrev Tx := List UInt8
def SB (ss : List Tx) : List Value := ss.map encStr
theorem Own.holds {w : World} {g c : Nat} {e : TypeId} {ss : List Tx} (h : Own w e 1 (some ⟨g, 0, none⟩) ss.length c (SB ss)) : Holds encStr w g 0 ss.toArray ∧ g < w.heap.size := by
 rcases h.cases with ⟨h0, _⟩ | ⟨g', cur, hA, hb, h1, h2, h3, h4⟩
 · cases h0
 cases hA
 exact ⟨holds_of_block hb (by rw [zdm] at h4; exact h4), hb.lt⟩
end
section
open Go.RowKit Go.ChangeShapes Go.WideShapes Go.Deep
section
variable {H : Type} {enc : TypeId × Value → H} {P : Program} {w : World} {base : Nat} {spare : Nat → Bool} {held : Bool} {n : Nat} {cs : List Value} {x : DataW H × List MemPlace} {t e : TypeId}
theorem qMa {k : IntKind} (ht : P.underlying t = some (.int k)) (h : DataW.trod enc P w base spare held n t cs = some x) : ∃ z, cs = [.int k z] ∧ (Lit.int k z).wf = true := by
 obtain ⟨z, h1, _, h2⟩ := DataW.trod_int ht h
 exact ⟨z, h1, h2⟩
theorem qVm (ht : P.underlying t = some (.slice e)) (h : DataW.trod enc P w base spare held n t cs = some x) : ∃ A l c, cs = [.slice A l c] := by
 rcases open_slice ht h with ⟨hcs, _⟩ | ⟨ad, l, c, _, _, _, _, hcs, _⟩
 · exact ⟨_, _, _, hcs⟩
 exact ⟨_, _, _, hcs⟩
end
end
section
open Go.RowKit
def jW (L : List Nat) : Nat → List (Nat × Nat)
 | 0 => []
 | m + 1 => (m, L.getD m 0) :: jW L m
theorem jE (a : List Nat) (i : Nat) (h : i < a.length) : (NI a)[i]? = some (.int .i64 ((a.getD i 0 : Nat) : Int)) := by
 simp [NI, h]
theorem qYm (g1 c : Nat) (A : Option Addr) (L : List Nat) (hl : L.length ≤ 1000000) :
  qH9 Tryz.prog 139 #[.pointer (some ⟨g1, 0, none⟩)] (fun x : Nat × Nat => #[.int .i64 ((x.1 : Nat) : Int), .int .i64 ((x.2 : Nat) : Int)]) [] (g1 :: ob A) (fun w => Blk w g1 64 #[.slice A L.length c] ∧ Rd w 1 A L.length (NI L)) (jW L L.length) := by
 rintro l J Jx w hJ hJx ⟨hb1, hrd⟩ hY h0
 refine VC.calls (nt := 19) (res := #[]) Tryz.func139 rfl Tryz.ntmps139 Tryz.results139 rfl ?_
 refine jS (jR (jl rfl zbu (hb1.cell 0) (je (Run.lenS rfl zf) (jb rfl rfl (Bin.subZ _ 1 jo jo) (ja rfl (jO (jN (jv3 0 1 3 ?_))))))))
 refine jB ?_
 refine VC.loop (σ := Nat × List (Nat × Nat)) (fun s => [(0, .func (.yield l) #[] #[]), (1, .pointer (some ⟨g1, 0, none⟩)), (3, .int .i64 (((s.1 : Nat) : Int) - 1))]) (fun s wr => s.1 ≤ L.length ∧ jW L L.length = s.2 ++ jW L s.1 ∧ Blk wr g1 64 #[.slice A L.length c] ∧ Rd wr 1 A L.length (NI L) ∧ J s.2 wr) (fun s => s.1) (L.length, []) (js3 rfl rfl rfl) ⟨zk _, rfl, hb1, hrd, h0⟩ ?_
 rintro ⟨m, pre⟩ wr ⟨hm, hsp, hb1, hrd, hj⟩
 dsimp only at hm hsp hj ⊢
 refine jS (jS (jR (jm rfl (jb rfl rfl (Bin.geq _ 0) (jO (jN (jv4 0 1 3 8 ?_)))))))
 refine jD rfl (fun hc1 => ?_) fun hc1 => ?_
 ·
  obtain ⟨i, rfl⟩ : ∃ i, m = i + 1 := ⟨m - 1, jo⟩
  have ei : (((i + 1 : Nat) : Int) - 1) = ((i : Nat) : Int) := jo
  rw [ei]
  obtain ⟨ad, rfl, hadlt, hadc⟩ := hrd.2 jo
  have hcell := hadc i _ (jE L i jo)
  have hpre : (pre ++ [(i, L.getD i 0)]) <+: jW L L.length := ⟨jW L i, by rw [hsp, jW]; simp⟩
  refine jQ (jN (jv3 0 1 3 ?_))
  refine jS (jB (jS (jR (jm rfl (jm rfl (jl rfl zbu (hb1.cell 0) (jm rfl (je (Run.index1 _ rfl rfl zf zd jo) (jl rfl zg hcell ?_)))))))))
  refine Ops.yield rfl rfl (evs.cons rfl (evs.cons rfl evs.nil)) ((by simpa using hY pre (i, L.getD i 0) wr hj hpre : kZ Tryz.prog l #[_, _] wr _)) rfl rfl ?_
  rintro e w1 ⟨hoff, hR0⟩
  obtain ⟨yb, rfl, hR⟩ : ∃ yb : Bool, e = .returned (.bool yb) ∧ ((yb = true ∧ J (pre ++ [(i, L.getD i 0)]) w1) ∨ (yb = false ∧ Jx (pre ++ [(i, L.getD i 0)]) w1)) := by
   rcases hR0 with ⟨rfl, h⟩ | ⟨rfl, h⟩
   · exact ⟨true, rfl, .inl ⟨rfl, h⟩⟩
   exact ⟨false, rfl, .inr ⟨rfl, h⟩⟩
  refine ⟨_, rfl, ?_⟩
  have hb1 := hoff.blk hb1 jp
  have hrd := hoff.rd hrd (fun _ x hx => by simp [hx])
  refine je (Run.not rfl) (jO (jN (jv4 0 1 3 18 ?_)))
  refine VC.condB rfl (fun hc2 => ?_) (fun hc2 => ?_)
  ·
   refine jT ?_
   refine qD (qN (qN (qD (end0 ?_))))
   exact ⟨⟨_, rfl⟩, .inr ⟨_, (hR.resolve_left (fun h => by rw [h.1] at hc2; simp at hc2)).2⟩⟩
  refine jQ ?_
  refine qK (jN ?_)
  refine jv3 0 1 3 ?_
  refine jR (jm rfl (jb rfl rfl (Bin.subZ _ 1 jo jo) (ja rfl (jO ?_))))
  refine jN ⟨(i, pre ++ [(i, L.getD i 0)]), (js3 rfl rfl rfl), ?_, ?_⟩
  · exact ⟨by dsimp only; omega, by rw [hsp, jW]; simp, hb1, hrd, (hR.resolve_right (fun h => by rw [h.1] at hc2; simp at hc2)).2⟩
  first | omega | (dsimp only; omega)
 refine jX ?_
 refine qZ (qZ (qP ?_))
 refine eV ?_
 have hm0 : m = 0 := jo
 subst hm0
 refine ⟨⟨_, rfl⟩, .inl ?_⟩
 rw [hsp, jW, zcz]
 exact hj
theorem qVn (A : Option Addr) (n c : Nat) (w : World) :
  Calls Tryz.prog 120 #[.slice A n c] w fun e w' => ∃ g1, e = .returned (.func (.func 139) #[] #[.pointer (some ⟨g1, 0, none⟩)]) ∧ Blk w' g1 64 #[.slice A n c] ∧ Frm [] w w' ∧ w.heap.size ≤ g1 := by
 refine VC.calls (nt := 4) (res := #[.tmp 2]) Tryz.func120 rfl Tryz.ntmps120 Tryz.results120 rfl ?_
 refine jS (jR ?_)
 refine Ops.m (qJ.box rfl) rfl ?_
 rintro _ w1 ⟨rfl, hF⟩
 refine ja rfl (jO (jN (jv1 1 ?_)))
 refine jS (jR (je (Run.mkFunc evs.nil (evs.cons rfl evs.nil)) (ja rfl (jO (jN (jv1 2 ?_))))))
 refine jT ?_
 refine qC rfl ?_
 exact ⟨_, rfl, hF.blk, hF.frm, zk _⟩
theorem qMb {L : List Nat} {pre : List (Nat × Nat)} {x : Nat × Nat} : ∀ {m : Nat}, (pre ++ [x]) <+: jW L m → pre.length + x.1 + 1 = m ∧ x.2 = L.getD x.1 0 := by
 induction pre with
 | nil =>
  intro m h
  cases m with
  | zero => have := h.length_le; simp [jW] at this
  | succ m =>
   rw [jW, zbo, List.cons_prefix_cons] at h
   obtain ⟨rfl, _⟩ := h
   exact ⟨jp, rfl⟩
 | cons y pre ih =>
  intro m h
  cases m with
  | zero => have := h.length_le; simp [jW] at this
  | succ m =>
   rw [jW, zdf, List.cons_prefix_cons] at h
   obtain ⟨h1, h2⟩ := ih h.2
   exact ⟨by rw [zq]; omega, h2⟩
theorem qXl (L : List Nat) : ∀ m, (jW L m).length = m
 | 0 => rfl
 | m + 1 => by rw [jW, zq, qXl L m]
def BeI (w0 w : World) (gf gm cb a : Nat) (Ab : Option Addr) (bs : List Nat) (F G : Nat × Nat × Nat → Option Addr × Nat) (g2 g3 g6 g7 : Nat) (r : Nat × Nat) (W : World) : Prop :=
 IsF w0 W gf gm Ab cb bs a G ∧ Kpf gf F w W ∧ Blk W g2 156 #[.pointer (some ⟨gf, 0, none⟩)] ∧ Blk W g3 3 #[.int .i64 ((a : Nat) : Int)] ∧ Blk W g6 3 #[.int .i64 ((r.1 : Nat) : Int)] ∧ Blk W g7 3 #[.int .i64 ((r.2 : Nat) : Int)]
theorem BeI.nc {w0 w w1 W W' : World} {gf gm cb a : Nat} {Ab : Option Addr} {bs : List Nat} {F G : Nat × Nat × Nat → Option Addr × Nat} {g2 g3 g6 g7 : Nat} {r : Nat × Nat} {S : List Nat} (h : BeI w0 w gf gm cb a Ab bs F G g2 g3 g6 g7 r W) (f : Frm S W W') (hS : NC w1 W [] S) (hm : gm < w1.heap.size) (hB : w.heap.size ≤ w1.heap.size) (hB0 : w0.heap.size ≤ w1.heap.size) : BeI w0 w gf gm cb a Ab bs F G g2 g3 g6 g7 r W' := by
 obtain ⟨h1, h2, h3, h4, h5, h6⟩ := h
 have hb (x : Nat) (hx : x ∈ S) : w1.heap.size ≤ x := by
  rcases hS x hx with h | ⟨h, _⟩
  · cases h
  exact h
 refine ⟨⟨h1.blk.frm f (h1.blk.nc hS jp), h1.rd0, f.onto h1.below (fun x hx => by have := hb x hx; omega) h1.below.size, h1.hgf, h1.pl.frm f (fun hx => by have := hb _ hx; omega) (fun x => (h1.pl.own x).nc hS jp)⟩,
  h2.step f (fun x hx => .inr (.inl (by have := hb x hx; omega))), h3.frm f (h3.nc hS jp), h4.frm f (h4.nc hS jp), h5.frm f (h5.nc hS jp), h6.frm f (h6.nc hS jp)⟩
theorem qYn (w0 w : World) (gf gm cb u a : Nat) (Ab : Option Addr) (bs : List Nat) (F : Nat × Nat × Nat → Option Addr × Nat) (hu : u ≤ a) (hl : bs.length ≤ 32768) (hcb : bs.length ≤ cb) (ha : a < bs.length) (hB : ∀ b ∈ bs, b < 256) (hF : IsF w0 w gf gm Ab cb bs u F) :
  Calls Tryz.prog 91 #[.pointer (some ⟨gf, 0, none⟩), .int .i64 ((a : Nat) : Int)] w fun e w' => e = .returned (.tuple #[.int .i64 (((qO bs a).1 : Nat) : Int), .int .i64 (((qO bs a).2 : Nat) : Int)]) ∧ Kpf gf F w w' ∧ ∃ G, sK F G w.heap.size ∧ IsF w0 w' gf gm Ab cb bs a G := by
 obtain ⟨ad, hA, _, _⟩ := hF.rd.2 jo
 subst hA
 have hgfl := hF.blk.lt
 have hgml := hF.pl.map.lt
 have hw0 := hF.below.size
 have hcut (h : a + 3 ≤ bs.length) : cP (some ad) cb a 1 = some (ad.add (a * 1)) := by unfold cP; rw [if_neg jo]; rfl
 refine DV.calls (nt := 61) (res := #[.tmp 4, .tmp 5]) Tryz.func91 rfl Tryz.ntmps91 Tryz.results91 rfl ?_
 refine DV.seq ?_
 refine DV.vc ?_
 refine jR ?_
 refine Ops.m (qJ.box rfl) rfl ?_
 rintro _ w1 ⟨rfl, hF1⟩
 refine Ops.m (qJ.box rfl) rfl ?_
 rintro _ w2 ⟨rfl, hF2⟩
 have hb2 : Blk w2 w.heap.size 156 #[.pointer (some ⟨gf, 0, none⟩)] := hF1.blk.frm hF2.frm jp
 have hb3 : Blk w2 w1.heap.size 3 #[.int .i64 ((a : Nat) : Int)] := hF2.blk
 have hI2 := (hF.frm hF1.frm jp).frm hF2.frm jp
 have K2 : Kpf gf F w w2 := ((Kpf.refl gf F w).step hF1.frm jp).step hF2.frm jp
 have hsz2 : w2.heap.size = w.heap.size + 2 := by rw [hF2.size, hF1.size]
 have hg3' := hF1.size
 generalize hg2 : w.heap.size = g2 at hb2 ⊢
 generalize hg3 : w1.heap.size = g3 at hb3 ⊢
 have hFlt : ∀ y, ∀ z ∈ ob (F y).1, z < w.heap.size := fun y z hz => (hF.pl.own y).lt z hz
 refine jz 0 (jz 0 (jO ?_))
 refine bI ?_
 refine DV.sub [(2, _), (3, _), (4, _), (5, _)] (js4 rfl rfl rfl rfl) ?_
 refine DV.seq ?_
 refine DV.vc ?_
 refine jR (jl rfl Tryz.isAgg156 (hb2.cell 0) (jl rfl zg (hb3.cell 0) ?_))
 refine Ops.cl (jE2 Tryz.call119) (qYl w0 w2 gf gm cb u a (some ad) bs F hu jo hcb jo hB hI2) rfl ?_
 rintro e w3 ⟨rfl, K3, G, hro, hI3⟩
 refine ⟨_, rfl, ?_⟩
 have hb2 := K3.blk hI2 hb2 jd jd
 have hb3 := K3.2 g3 _ _ jo (fun y hy => by have := hFlt y _ hy; omega) hb3
 have K3 : Kpf gf F w w3 := ⟨zo K2.1 K3.1, fun b t cs h1 h2 h3 => K3.2 b t cs h1 h2 (K2.2 b t cs h1 h2 h3)⟩
 have hro3 : sK F G w.heap.size := fun y z hz => by
  rcases hro y z hz with h | h
  · exact .inl h
  exact .inr jo
 have hG3 : ∀ y, ∀ z ∈ ob (G y).1, z ≠ g3 ∧ z < w3.heap.size := fun y z hz => by
  refine ⟨?_, (hI3.pl.own y).lt z hz⟩
  rcases hro y z hz with h | h
  · have := hFlt y z h; omega
  omega
 have hl3 := hb3.lt
 have hk3 := K3.1
 refine jO ?_
 refine bI ?_
 refine DV.sub [(2, _), (3, _), (4, _), (5, _)] (js4 rfl rfl rfl rfl) ?_
 refine DV.seq ?_
 refine DV.seq ?_
 refine DV.vc ?_
 refine VC.still jK jK ?_
 refine qE (Run.load rfl zg (hb3.cell 0)) ?_
 refine qE (Run.bin rfl rfl (Bin.add_i64 _ 3 jo)) ?_
 refine qE (Run.load rfl Tryz.isAgg156 (hb2.cell 0)) ?_
 refine qE (Run.nilck rfl) ?_
 refine qE (Run.fieldAddr rfl zbg rfl zl jd) ?_
 refine qE (Run.load rfl zt (hI3.blk.cell 0)) ?_
 refine qE (Run.lenS rfl ze) ?_
 refine qE (Run.bin rfl rfl (Bin.gtrN _ _)) ?_
 refine qW.nil ?_
 refine bI ?_
 refine DV.sub [(2, _), (3, _), (4, _), (5, _), (21, _)] (js5 rfl rfl rfl rfl rfl) ?_
 refine DV.vc ?_
 refine jD rfl (fun hc1 => ?_) fun hc1 => ?_
 ·
  refine jS (jR (jz 0 (jz 0 (jO (jN (jv2 4 5 ?_))))))
  refine jT ?_
  refine qJ7 (sW jp jp (fun wz hsh => ?_))
  have hIz := (hI3.drawn (qQ.drew _)).frm hsh jp
  have Kz := (K3.step (qQ.drew w3).frm jp).step hsh jp
  refine cG rfl rfl ?_
  rw [qZ9 bs a jo jo]
  exact ⟨rfl, Kz, G, hg2 ▸ hro3, hIz⟩
 refine jQ ?_
 refine bI ?_
 refine DV.sub [(2, _), (3, _), (4, _), (5, _)] (js4 rfl rfl rfl rfl) ?_
 refine DV.seq ?_
 refine DV.vc ?_
 refine jR ?_
 refine Ops.m (qJ.alloc gF) rfl ?_
 rintro _ w4 ⟨rfl, hF4⟩
 have hI4 := (hI3.drawn (qQ.drew _)).frm hF4.frm jp
 have K4 := (K3.step (qQ.drew w3).frm jp).step hF4.frm jp
 have hb2 := (hb2.drawn (qQ.drew _)).frm hF4.frm jp
 have hb3 := (hb3.drawn (qQ.drew _)).frm hF4.frm jp
 have hs4 : w4.heap.size = w3.heap.size + 1 := hF4.size
 have hb6 : Blk w4 w3.drew.heap.size 3 #[.int .i64 ((0 : Nat) : Int)] := hF4.blk
 have hg6' : w3.drew.heap.size = w3.heap.size := rfl
 generalize hg6 : w3.drew.heap.size = g6 at hb6 hg6' ⊢
 refine Ops.m (qJ.alloc gF) rfl ?_
 rintro _ w5 ⟨rfl, hF5⟩
 have hI5 := hI4.frm hF5.frm jp
 have K5 := K4.step hF5.frm jp
 have hb2 := hb2.frm hF5.frm jp
 have hb3 := hb3.frm hF5.frm jp
 have hb6 := hb6.frm hF5.frm jp
 have hs5 := hF5.size
 have hb7 : Blk w5 w4.heap.size 3 #[.int .i64 ((0 : Nat) : Int)] := hF5.blk
 generalize hg7 : w4.heap.size = g7 at hb7 ⊢
 have hoff (W : World) (S : List Nat) (hS : ∀ x ∈ S, x = g6 ∨ x = g7) : gf ∉ S ∧ gm ∉ S ∧ (∀ y, ∀ z ∈ ob (G y).1, z ∉ S) ∧ (∀ x ∈ S, w0.heap.size ≤ x) ∧ g3 ∉ S ∧ ∀ x ∈ S, w.heap.size ≤ x := by
  refine ⟨fun h => ?_, fun h => ?_, fun y z hz h => ?_, fun x h => ?_, fun h => ?_, fun x h => ?_⟩
  · rcases hS _ h with h | h <;> omega
  · rcases hS _ h with h | h <;> omega
  ·
   have := (hG3 y z hz).2
   rcases hS _ h with h | h <;> omega
  · rcases hS _ h with h | h <;> omega
  · rcases hS _ h with h | h <;> omega
  rcases hS _ h with h | h <;> omega
 refine Ops.st (qR.store rfl rfl zd hb6 rfl rfl) ?_
 rintro w6 ⟨hb6n, hf6, hs6⟩
 have hb6 : Blk w6 g6 3 #[.int .i64 ((0 : Nat) : Int)] := hb6n
 obtain ⟨o1, o2, o3, o4, o5, o6⟩ := hoff w [g6] jp
 have hI6 := hI5.frm2 hf6 o1 o2 o3 o4
 have K6 := K5.step hf6 (fun x hx => .inr (.inl (o6 x hx)))
 have hb2 := hb2.frm hf6 (by simp; omega)
 have hb3 := hb3.frm hf6 o5
 have hb7 := hb7.frm hf6 (by simp; omega)
 refine Ops.st (qR.store rfl rfl zd hb7 rfl rfl) ?_
 rintro w7 ⟨hb7n, hf7, hs7⟩
 have hb7 : Blk w7 g7 3 #[.int .i64 ((0 : Nat) : Int)] := hb7n
 obtain ⟨o1, o2, o3, o4, o5, o6⟩ := hoff w [g7] jp
 have hI7 := hI6.frm2 hf7 o1 o2 o3 o4
 have K7 := K6.step hf7 (fun x hx => .inr (.inl (o6 x hx)))
 have hb2 := hb2.frm hf7 (by simp; omega)
 have hb3 := hb3.frm hf7 o5
 have hb6 := hb6.frm hf7 (by simp; omega)
 obtain ⟨kl, hkey⟩ := key3 (tri bs a) (kP hB a) (kP hB (a + 1)) (kP hB (a + 2))
 refine jO ?_
 refine bI ?_
 refine DV.seq ?_
 refine DV.seq ?_
 refine DV.vc ?_
 refine VC.tail 15 jK jK ?_
 simp only [zac, zdo, zdr, zcd]
 refine qE (Run.load rfl Tryz.isAgg156 (hb2.cell 0)) ?_
 refine qE (Run.nilck rfl) ?_
 refine qE (Run.fieldAddr rfl zbg rfl Tryz.sizeOf157 jd) ?_
 refine qE (Run.load rfl Tryz.isAgg157 (hI7.blk.cell 1)) ?_
 refine qE (Run.load rfl Tryz.isAgg156 (hb2.cell 0)) ?_
 refine qE (Run.nilck rfl) ?_
 refine qE (Run.fieldAddr rfl zbg rfl zl jd) ?_
 refine qE (Run.load rfl zt (hI7.blk.cell 0)) ?_
 refine qE (Run.load rfl zg (hb3.cell 0)) ?_
 refine qE (Run.load rfl zg (hb3.cell 0)) ?_
 refine qE (Run.bin rfl rfl (Bin.add_i64 _ 3 jo)) ?_
 refine qE (Run.sliceS _ _ rfl ze zad (evB.some_ rfl) (evB.some_ rfl) jo jo) ?_
 rw [hcut jo]
 refine qE (Run.toArr rfl zeu jo) ?_
 refine qE (Run.loadA (cs := NB [bs.getD a 0, bs.getD (a + 1) 0, bs.getD (a + 2) 0]) rfl Tryz.isAgg201 Tryz.sizeOf201 (uY hI7.rd jo) rfl) ?_
 refine qE (Run.lookup (x := tri bs a) rfl rfl hI7.pl.map law3 Tryz.underlying157 qWp hkey) ?_
 rw [hI7.pl.getD]
 refine qW.nil ?_
 refine Ops.cl (jE1 Tryz.call120) (qVn _ _ _ _) rfl ?_
 rintro e w8 ⟨g1, rfl, hb1, hf8, hg1⟩
 refine ⟨_, rfl, ?_⟩
 have hg1 : w7.heap.size ≤ g1 := hg1
 have hI8 := (hI7.drawn (qQ.drew _)).frm hf8 jp
 have K8 := (K7.step (qQ.drew w7).frm jp).step hf8 jp
 have hb2 := (hb2.drawn (qQ.drew _)).frm hf8 jp
 have hb3 := (hb3.drawn (qQ.drew _)).frm hf8 jp
 have hb6 := (hb6.drawn (qQ.drew _)).frm hf8 jp
 have hb7 := (hb7.drawn (qQ.drew _)).frm hf8 jp
 have hs8 : w7.heap.size ≤ w8.heap.size := hf8.size
 have hrow := hI8.pl.own (tri bs a)
 have hll := uL bs (tri bs a) a
 have hUend := qH7 bs a
 generalize hn : (bB bs (tri bs a) a).length = n at *
 refine jO ?_
 refine bI ?_
 refine DV.sub [(2, _), (3, _), (4, _), (5, _), (6, _), (7, _), (37, _)] (js7 rfl rfl rfl rfl rfl rfl rfl) ?_
 refine DV.block ?_
 refine DV.range (ps := [38, 39]) (fun x : Nat × Nat => [.int .i64 ((x.1 : Nat) : Int), .int .i64 ((x.2 : Nat) : Int)]) (hn ▸ qYm g1 (G (tri bs a)).2 (G (tri bs a)).1 (bB bs (tri bs a) a) jo) rfl Tryz.call139 (fun _ => rfl) rfl (fun pre W => BeI w0 w gf gm cb a (some ad) bs F G g2 g3 g6 g7 (kX bs a (n - pre.length)) W) (fun e pre W => e = .exit 0 ∧ BeI w0 w gf gm cb a (some ad) bs F G g2 g3 g6 g7 (qO bs a) W) (fun x => [(2, .pointer (some ⟨g2, 0, none⟩)), (3, .pointer (some ⟨g3, 0, none⟩)), (6, .pointer (some ⟨g6, 0, none⟩)), (7, .pointer (some ⟨g7, 0, none⟩)), (9, .int .i64 ((x.2 : Nat) : Int))]) ?_ ?_ ?_ ?_ ?_ ?_ ?_ ?_ ?_ ?_ ?_
 · exact fun pre W W' S h f hS => h.nc f hS jo jo jo
 · exact fun e pre W W' S h f hS => ⟨h.1, h.2.nc f hS jo jo jo⟩
 · exact fun W hf => ⟨hb1.frm hf jp, (hrow.frm hf jp).rd⟩
 · simp
 ·
  intro b hb
  rcases zcq.1 hb with rfl | hb
  · exact hb1.lt
  exact hrow.lt b hb
 ·
  rw [zct, zcn, hUend]
  exact ⟨hI8, K8, hb2, hb3, hb6, hb7⟩
 ·
  intro l x W
  refine jv6 2 3 6 7 38 39 ?_
  refine jR (ja rfl (jO ?_))
  refine jN ⟨rfl, (js5 rfl rfl rfl rfl rfl)⟩
 ·
  rintro l pre x W ⟨hIW, hKW, hb2, hb3, hb6, hb7⟩ hpre hsz hmk
  obtain ⟨hlen, hval⟩ := qMb hpre
  have hxn : x.1 < (bB bs (tri bs a) a).length := jo
  obtain ⟨p1, p2, p3⟩ := wV hxn
  have hU := yF bs a x.1 jo hxn
  dsimp only at hU
  rw [← hval] at hU p1 p2 p3
  have hfull := yI bs a jo (x.1 + 1) jo
  have e1 : n - pre.length = x.1 + 1 := jo
  have hb60 := hb6
  have hb70 := hb7
  clear hval
  rw [e1] at hb6 hb7
  generalize kX bs a (x.1 + 1) = r at hU hfull hb6 hb7
  refine jB (jS (jS ?_))
  refine VC.split1 [(2, _), (3, _), (6, _), (7, _), (9, _)] (js5 rfl rfl rfl rfl rfl) 47 (.bool (decide (32768 < a - x.2 ∨ r.1 = 258))) ?_ ?_
  ·
   refine jR (jl rfl zg (hb3.cell 0) (jm rfl (jb rfl rfl (Bin.sub_i64 _ _ jo jo) (jb rfl rfl (Bin.gtrN _ 32768) ?_))))
   by_cases hs43 : 32768 < a - x.2
   ·
    refine jM ?_
    refine jU ?_
    refine jU ?_
    refine je (Run.pickT rfl rfl au) (jO ?_)
    refine jN ⟨(js6 (jC (by simp [*])) rfl rfl rfl rfl rfl), rfl⟩
   refine jM ?_
   refine jk (Run.load rfl zg (hb6.cell 0)) ?_
   refine jk (Run.bin rfl rfl (Bin.eqlN _ 258)) ?_
   by_cases hs46 : r.1 = 258
   ·
    refine je (Run.pickF rfl rfl au) (jO ?_)
    refine jN ⟨(js6 (jC (by simp [*])) rfl rfl rfl rfl rfl), rfl⟩
   refine je (Run.pickF rfl rfl au) (jO ?_)
   refine jN ⟨(js6 (jC (by simp [*])) rfl rfl rfl rfl rfl), rfl⟩
  intro Γ hΓ
  refine jN (VC.sub _ hΓ ?_)
  refine jD rfl (fun hc2 => ?_) fun hc2 => ?_
  ·
   refine jX ?_
   refine qZ (pJ rfl (?_))
   refine ⟨jI.frm0 (Frm.refl _ _), rfl, ?_⟩
   rw [hfull (hc2.resolve_left jo)]
   exact ⟨hIW, hKW, hb2, hb3, hb6, hb7⟩
  refine jQ (jN (jv5 2 3 6 7 9 ?_))
  refine jS (jR (jl rfl Tryz.isAgg156 (hb2.cell 0) (jm rfl (jl rfl zg (hb3.cell 0) ?_))))
  refine Ops.cl (jE3 Tryz.call121) (qYk w0 W gf gm cb a x.2 a (some ad) bs G p1 jo jo hIW) rfl ?_
  rintro e W2 ⟨rfl, hd2⟩
  refine ⟨_, rfl, ?_⟩
  have hI2W := hIW.drawn hd2
  have hK2W := hKW.step hd2.frm jp
  have hb2 := hb2.drawn hd2
  have hb3 := hb3.drawn hd2
  have hb6 := hb6.drawn hd2
  have hb7 := hb7.drawn hd2
  refine ja rfl (jO (jN (jv5 3 6 7 9 10 ?_)))
  refine jS (jR (jm rfl (jl rfl zg (hb6.cell 0) (jb rfl rfl (Bin.gtrN _ _) (jO (jN (jv6 3 6 7 9 10 54 ?_)))))))
  refine jD rfl (fun hc3 => ?_) fun hc3 => ?_
  ·
   refine VC.heldL 5 (fun v => Blk v g3 3 #[.int .i64 ((a : Nat) : Int)]) jK ?_
   have hS : (fun v => Blk v g3 3 #[.int .i64 ((a : Nat) : Int)]) W2.drew := hb3.drawn (qQ.drew _)
   refine jH 0 rfl hS (fun w0 hw0 => Run.mv rfl) ?_
   refine jH 1 rfl hS (fun w0 hw0 => Run.load rfl zg (hw0.cell 0)) ?_
   refine jH 2 rfl hS (fun w0 hw0 => Run.mv rfl) ?_
   refine jH 3 rfl hS (fun w0 hw0 => Run.bin rfl rfl (Bin.sub_i64 _ _ jo jo)) ?_
   refine qV.st 4 rfl jK (qR.store rfl rfl zd (hb6.drawn (qQ.drew _)) rfl rfl) trivial rfl ?_
   rintro W3 ⟨hb6n, hf3, hs3⟩
   have hb6n : Blk W3 g6 3 #[.int .i64 ((longM bs x.2 a : Nat) : Int)] := hb6n
   have hb7 := (hb7.drawn (qQ.drew _)).frm hf3 (by simp; omega)
   have hS3 := hS.frm hf3 (by simp; omega)
   refine ⟨hS3, ?_⟩
   refine qV.stL rfl jK (qR.store rfl rfl zd hb7 rfl rfl) trivial rfl ?_
   rintro W4 ⟨hb7n, hf4, hs4⟩
   have hb7n : Blk W4 g7 3 #[.int .i64 ((a - x.2 : Nat) : Int)] := hb7n
   refine qV.done jK ?_
   refine qK (?_)
   have hf24 : Frm [g6, g7] W2 W4 := (((qQ.drew W2).frm.mono (T := [g6, g7]) jp).trans hf3 jp).trans hf4 jp
   obtain ⟨o1, o2, o3, o4, o5, o6⟩ := hoff w [g6, g7] jp
   refine ⟨⟨[g6, g7], (hd2.frm.mono jp).trans hf24 jp, ?_⟩, ?_⟩
   ·
    intro b hb
    refine ⟨fun h => ?_, fun o ho => ?_⟩
    ·
     rcases zcq.1 h with h | h
     · subst h; simp only [zcq, zcj, or_false] at hb; rcases hb with hb | hb <;> omega
     exact o3 _ b h hb
    simp only [zcq, zcj, or_false] at hb
    obtain ⟨m, rfl⟩ := hd2
    rcases hb with rfl | rfl
    · exact hb60.isC o ho
    exact hb70.isC o ho
   have e2 : n - (pre ++ [x]).length = x.1 := by rw [zb]; simp; omega
   dsimp only
   rw [e2, hU, if_pos hc3]
   exact ⟨hI2W.frm2 hf24 o1 o2 o3 o4, hK2W.step hf24 (fun x hx => .inr (.inl (o6 x hx))), hb2.frm hf24 (by simp; omega), hb3.frm hf24 o5, hb6n.frm hf4 (by simp; omega), hb7n⟩
  refine jQ ?_
  refine qK (?_)
  refine ⟨jI.frm0 hd2.frm, ?_⟩
  have e2 : n - (pre ++ [x]).length = x.1 := by rw [zb]; simp; omega
  dsimp only
  rw [e2, hU, if_neg hc3]
  exact ⟨hI2W, hK2W, hb2, hb3, hb6, hb7⟩
 ·
  rintro W ⟨hIW, hKW, hb2, hb3, hb6, hb7⟩ hsz hmk
  rw [qXl, Nat.sub_self, yA bs a jo] at hb6 hb7
  refine uO (bI ?_)
  refine DV.sub [(6, _), (7, _)] (js2 rfl rfl) ?_
  refine DV.seq ?_
  refine DV.vc ?_
  refine VC.still jK jK ?_
  refine qE (Run.load rfl zg (hb6.cell 0)) ?_
  refine qE (Run.load rfl zg (hb7.cell 0)) ?_
  refine qA ?_
  refine qA ?_
  refine qW.nil ?_
  refine bI ?_
  refine DV.sub [(4, _), (5, _)] (js2 rfl rfl) ?_
  refine DV.vc (jT ?_)
  refine sW jp (fun d hd => by simp only [zh] at hd; subst hd; exact hmk) (fun wz hsh => ?_)
  have hIz := (hIW.drawn (qQ.drew _)).frm2 hsh (by simp; omega) (by simp; omega) (fun y z hz => by have := (hG3 y z hz).2; simp; omega) (by simp; omega)
  have Kz := (hKW.step (qQ.drew W).frm jp).step hsh (fun x hx => .inr (.inl (by simp at hx; omega)))
  refine cG rfl rfl ?_
  exact ⟨rfl, Kz, G, hg2 ▸ hro3, hIz⟩
 · exact fun _ _ h => absurd h.1 jp
 rintro id pre W ⟨he, hIW, hKW, hb2, hb3, hb6, hb7⟩ hsz hmk
 cases he
 refine qXk ?_
 refine bI ?_
 refine DV.sub [(6, _), (7, _)] (js2 rfl rfl) ?_
 refine DV.seq ?_
 refine DV.vc ?_
 refine VC.still jK jK ?_
 refine qE (Run.load rfl zg (hb6.cell 0)) ?_
 refine qE (Run.load rfl zg (hb7.cell 0)) ?_
 refine qA ?_
 refine qA ?_
 refine qW.nil ?_
 refine bI ?_
 refine DV.sub [(4, _), (5, _)] (js2 rfl rfl) ?_
 refine DV.vc (jT ?_)
 refine sW jp (fun d hd => by simp only [zh] at hd; subst hd; exact hmk) (fun wz hsh => ?_)
 have hIz := (hIW.drawn (qQ.drew _)).frm2 hsh (by simp; omega) (by simp; omega) (fun y z hz => by have := (hG3 y z hz).2; simp; omega) (by simp; omega)
 have Kz := (hKW.step (qQ.drew W).frm jp).step hsh (fun x hx => .inr (.inl (by simp at hx; omega)))
 refine cG rfl rfl ?_
 exact ⟨rfl, Kz, G, hg2 ▸ hro3, hIz⟩
def oH (t : Tk) : List Value := [.int .u8 ((t.1 : Nat) : Int), .int .i64 ((t.2.1 : Nat) : Int), .int .i64 ((t.2.2 : Nat) : Int)]
def TC (l : List Tk) : List Value := l.flatMap oH
theorem yL (a b : List Tk) : TC (a ++ b) = TC a ++ TC b := by simp [TC]
theorem TC_one (l : List Tk) : ∀ u ∈ TC l, u.oneCell' = true := by
 intro u hu
 obtain ⟨t, _, ht⟩ := List.mem_flatMap.1 hu
 simp only [oH, zcq, zcj, or_false] at ht
 rcases ht with rfl | rfl | rfl <;> rfl
theorem pR (bs : List Nat) : ∀ m a, (fD bs m a).length ≤ m
 | 0, a => zk _
 | m + 1, a => by
  unfold fD
  split
  · simp
  split
  · have := pR bs m (a + 1); simp; omega
  have := pR bs m (a + (qO bs a).1); simp; omega
theorem qPq (w : World) : (zeroValue 159).run Tryz.prog w = .ok (.agg #[.slice none 0 0, .map none, .int .i64 0]) w := by
 simp only [zeroValue, Sem.run_bind, Tryz.typeInfo159, Result.andThen_ok]; rfl
theorem yO : ∃ fs, Tryz.prog.underlying 159 = some (.struct fs) ∧ ∀ w, (fs.mapM fun f => do pure (f.offset, ← sizeOf f.type) : Sem (Array (Nat × Nat))).run Tryz.prog w = .ok #[(0, 1), (1, 1), (2, 1)] w :=
 ⟨_, zbg, fun w => by simp [zl, Tryz.sizeOf157, zd]⟩
theorem IsF.tok {w0 w w' : World} {gf gm cb u n c : Nat} {Ab B : Option Addr} {bs : List Nat} {F : Nat × Nat × Nat → Option Addr × Nat} {xs : List Value} (h : IsF w0 w gf gm Ab cb bs u F) (ho : Own w 132 3 B n c xs) (hup : ∀ x ∈ ob B, w0.heap.size ≤ x) (f : Frm (ob B) w w') : IsF w0 w' gf gm Ab cb bs u F :=
 h.frm2 f (ho.ne_blk h.blk jd) (by
  rcases ho.cases with ⟨rfl, _⟩ | ⟨g, cur, rfl, hb, _⟩
  · simp [ob]
  simpa [ob] using h.pl.map.ne_blk hb) (fun x => (h.pl.own x).ne_own ho jd) hup
theorem wH (A : Option Addr) (c : Nat) (bs : List Nat) (w : World) (hl : bs.length ≤ 32768) (hc : bs.length ≤ c) (hB : ∀ b ∈ bs, b < 256) (hr : Rd w 1 A bs.length (NB bs)) :
  Calls Tryz.prog 55 #[.slice A bs.length c] w fun e w' => ∃ B d, e = .returned (.tuple #[.slice B (bJ bs 0).length d, .int .i64 ((0 : Nat) : Int)]) ∧ Own w' 132 3 B (bJ bs 0).length d (TC (bJ bs 0)) ∧ Frm [] w w' ∧ ∀ x ∈ ob B, w.heap.size ≤ x := by
 have h70 : ¬ 65536 < bs.length := jo
 refine VC.calls (nt := 48) (res := #[.tmp 2, .tmp 3]) Tryz.func55 rfl Tryz.ntmps55 Tryz.results55 rfl ?_
 refine jS (jR (ja rfl (jz 0 (jO (jN (jv1 0 ?_))))))
 refine jS (jS (jR (jm rfl (je (Run.lenS rfl ze) (jb rfl rfl (Bin.gtrN _ 65536) (jO (jN (jv2 0 11 ?_))))))))
 refine VC.condF rfl (by simp; omega) ?_
 refine jQ (jN (jv1 0 ?_))
 refine jS (jR (jM ?_))
 refine Ops.m (qJ.makeMap (P := Tryz.prog) (k := 201) (enc := K3)) rfl ?_
 rintro _ w1 ⟨rfl, hM1, hf1, hs1⟩
 refine je (Run.build (evs.cons rfl (evs.cons rfl evs.nil)) qPq yO.choose_spec.1 yO.choose_spec.2 rfl) ?_
 refine Ops.m (qJ.box rfl) rfl ?_
 rintro _ w2 ⟨rfl, hF2⟩
 have hM2 := hM1.frm hF2.frm jp
 have hb0 : Blk w2 w1.heap.size 159 #[.slice A bs.length c, .map (some w.heap.size), .int .i64 ((0 : Nat) : Int)] := hF2.blk
 generalize hgm : w.heap.size = gm at hM2 hb0 ⊢
 generalize hgf : w1.heap.size = gf at hb0 ⊢
 have hI0 : IsF w w2 gf gm A c bs 0 (fun _ => (none, 0)) := by
  refine ⟨hb0, hr, ((hf1.trans hF2.frm jp).below), jo, ⟨jo, ?_, fun x => Own.nil _ _ _, fun x => by simp [ob], fun x _ => rfl, fun x y _ => by simp [ob]⟩⟩
  have e : PlM (fun _ => (none, 0)) bs 0 = fun _ => none := by funext x; unfold PlM; rw [if_pos (by rfl)]
  rw [e]
  exact hM2
 have htl0 := pR bs bs.length 0
 refine ja rfl (jO (jN (jv2 0 4 ?_)))
 refine jS (jR (ja rfl (jO (jN (jS (jS (jR (jz 0 (jO (jN (jB ?_)))))))))))
 refine VC.loop (σ := Nat × Nat × List Tk × Option Addr × Nat × (Nat × Nat × Nat → Option Addr × Nat)) (fun s => [(0, .slice A bs.length c), (4, .pointer (some ⟨gf, 0, none⟩)), (5, .slice s.2.2.2.1 s.2.2.1.length s.2.2.2.2.1), (6, .int .i64 ((s.1 : Nat) : Int))]) (fun s wr => s.1 ≤ bs.length ∧ s.2.1 ≤ s.1 ∧ s.2.2.1.length ≤ s.1 ∧ bJ bs 0 = s.2.2.1 ++ bJ bs s.1 ∧ IsF w wr gf gm A c bs s.2.1 s.2.2.2.2.2 ∧ Own wr 132 3 s.2.2.2.1 s.2.2.1.length s.2.2.2.2.1 (TC s.2.2.1) ∧ ∀ x ∈ ob s.2.2.2.1, w.heap.size ≤ x) (fun s => bs.length - s.1) (0, 0, [], none, 0, fun _ => (none, 0)) (js4 rfl rfl rfl rfl) ⟨zas _, zk _, zk _, rfl, hI0, Own.nil _ _ _, by simp [ob]⟩ ?_
 rintro ⟨a, u, pre, B, d, F⟩ wr ⟨ha, hu, hpl, hsp, hI, hO, hup⟩
 dsimp only at ha hu hpl hsp hI hO hup ⊢
 refine jS (jS (jR (jm rfl (jm rfl (je (Run.lenS rfl ze) (jb rfl rfl (Bin.lssN _ _) (jO (jN (jv5 0 4 5 6 19 ?_)))))))))
 refine jD rfl (fun hc2 => ?_) fun hc2 => ?_
 ·
  refine jQ (jN (jv4 0 4 5 6 ?_))
  refine jB (jS (jR (jm rfl (jM ?_))))
  refine Ops.cl (jE2 Tryz.call91) (qYn w wr gf gm c u a A bs F hu jo hc jo hB hI) rfl ?_
  rintro e w3 ⟨rfl, K3, G, hro, hI3⟩
  refine ⟨_, rfl, ?_⟩
  have hO := K3.own hI hO jd jd
  have hbf := lB bs a jo
  refine jm rfl (je (Run.extract rfl rfl) (je (Run.extract rfl rfl) (ja rfl (ja rfl (jO (jN (jv6 0 4 5 6 7 8 ?_)))))))
  refine jS (jS (jR (jm rfl (jb rfl rfl (Bin.eqlN _ 0) (jO (jN (jv7 0 4 5 6 7 8 27 ?_)))))))
  refine jD rfl (fun hc3 => ?_) fun hc3 => ?_
  ·
   obtain ⟨ad, rfl, hadlt, hadc⟩ := hI3.rd.2 jo
   have hcell := hadc a _ (oD bs a jo)
   have hnx := qXj bs a jo hc3
   refine jS (jR (jm rfl (jm rfl (jm rfl (je (Run.index1 _ rfl rfl ze zad jo) (jl rfl zdn hcell (je (Run.build (evs.cons rfl evs.nil) mA (nT).choose_spec.1 (nT).choose_spec.2 rfl) ?_)))))))
   refine Ops.m (qJ.buildS1 rfl zdx zen mA jd jd rfl rfl) rfl ?_
   rintro _ w4 ⟨rfl, hF4⟩
   have hI4 := hI3.frm hF4.frm jp
   have hO4 := hO.frm hF4.frm jp
   have hrd4 : Rd w4 3 (some ⟨w3.heap.size, 0, none⟩) 1 (TC [(bs.getD a 0, 0, 0)]) := Rd.of_blk (n := 1) (size := 3) hF4.blk rfl
   refine Ops.m (qJ.app rfl rfl zdx (qJy) rfl jd hO4 hrd4 (TC_one _) jo jo) rfl ?_
   rintro _ w5 ⟨B5, d5, rfl, hO5, hf5, hob5⟩
   have hI5 := hI4.tok hO4 hup hf5
   rw [← yL] at hO5
   have hup5 := cO hup hob5 (hI4.below.size)
   refine ja rfl (jO (jN (jv4 0 4 5 6 ?_)))
   refine jS (jR (jm rfl (jb rfl rfl (Bin.add_i64 _ 1 jo) (ja rfl (jO (jN (jv4 0 4 5 6 ?_)))))))
   refine jX ?_
   refine qZ (qP ?_)
   refine jN ⟨(a + 1, a, pre ++ [(bs.getD a 0, 0, 0)], B5, d5, G), (js4 rfl rfl (by rw [zb]; rfl) rfl), ?_, ?_⟩
   · refine ⟨by dsimp only; omega, by dsimp only; omega, by rw [zb]; simp; omega, by rw [hsp, hnx]; simp, hI5, by rw [zb]; exact hO5, hup5⟩
   first | omega | (dsimp only; omega)
  have hnx := wY bs a jo hc3
  have hbm : 3 ≤ (qO bs a).1 ∧ a + (qO bs a).1 ≤ bs.length := by
   rcases hbf with h | ⟨h1, _, _, _, h2, _⟩
   · rw [h] at hc3; exact absurd rfl hc3
   exact ⟨h1, h2⟩
  refine jQ (jN (jv6 0 4 5 6 7 8 ?_))
  refine jS (jR (jm rfl (jm rfl (jm rfl (je (Run.build (evs.cons rfl (evs.cons rfl evs.nil)) mA (nT).choose_spec.1 (nT).choose_spec.2 rfl) ?_)))))
  refine Ops.m (qJ.buildS1 rfl zdx zen mA jd jd rfl rfl) rfl ?_
  rintro _ w4 ⟨rfl, hF4⟩
  have hI4 := hI3.frm hF4.frm jp
  have hO4 := hO.frm hF4.frm jp
  have hrd4 : Rd w4 3 (some ⟨w3.heap.size, 0, none⟩) 1 (TC [(0, (qO bs a).1, (qO bs a).2)]) := Rd.of_blk (n := 1) (size := 3) hF4.blk rfl
  refine Ops.m (qJ.app rfl rfl zdx (qJy) rfl jd hO4 hrd4 (TC_one _) jo jo) rfl ?_
  rintro _ w5 ⟨B5, d5, rfl, hO5, hf5, hob5⟩
  have hI5 := hI4.tok hO4 hup hf5
  rw [← yL] at hO5
  have hup5 := cO hup hob5 (hI4.below.size)
  refine ja rfl (jO (jN (jv5 0 4 5 6 7 ?_)))
  refine jR (jm rfl (jm rfl (jb rfl rfl (Bin.add_i64 _ _ jo) (ja rfl (jO ?_)))))
  refine qK (jN ⟨(a + (qO bs a).1, a, pre ++ [(0, (qO bs a).1, (qO bs a).2)], B5, d5, G), (js4 rfl rfl (by rw [zb]; rfl) rfl), ?_, ?_⟩)
  · refine ⟨by dsimp only; omega, by dsimp only; omega, by rw [zb]; simp; omega, by rw [hsp, hnx]; simp, hI5, by rw [zb]; exact hO5, hup5⟩
  first | omega | (dsimp only; omega)
 refine jX ?_
 refine qZ (qZ (qP ?_))
 refine jN (jv1 5 ?_)
 refine jS (jR (jm rfl (ja rfl (jz 0 (jO (jN (jv2 2 3 ?_)))))))
 refine jT ?_
 refine cG rfl rfl ?_
 have ea : a = bs.length := jo
 have et : bJ bs 0 = pre := by rw [hsp, ea, qXi bs bs.length (zk _), zcz]
 rw [et]
 exact ⟨_, _, rfl, hO, Frm.of_below hI.below, fun x hx => by rw [← hgm]; exact hup x hx⟩
end
end Go.Proofs.YtndjgmbfkkgpdaaGreat
