/-
  Octets of a text: the copy that a conversion makes (its block bears a mark behind its last cell); texts held against one another.
-/
import Derived.Test.YtmfglifjnoilnaaEng10
import Derived.Laws.IdiomStrings
import Derived.Sort.Walk0
import Derived.Sort.EncStr
namespace Go.Proofs.Ytmfglifjnoilnaa
open Go.RowKit

/-- Block g is known whole, and marked behind its last cell. -/
def Fro (w : World) (g : Nat) (e : TypeId) (cs : Array Value) : Prop := w.heap[g]? = some (.cells cs e (cs.size, cs.size + 1))
section
variable {S : List Nat} {w w' : World} {g : Nat} {e : TypeId} {cs : Array Value}
theorem Fro.lt (h : Fro w g e cs) : g < w.heap.size := (Array.getElem?_eq_some_iff.1 h).1
theorem Fro.cell (h : Fro w g e cs) (i : Nat) : w.cell? ⟨g, i, none⟩ = cs[i]? := by
  unfold Fro at h
  simp [World.cell?, h]
theorem Fro.frozen (h : Fro w g e cs) {i : Nat} (hi : i < cs.size) : w.frozen? ⟨g, i, none⟩ = false := by
  unfold Fro at h
  simp [World.frozen?, h]
  omega
theorem Fro.frm (h : Fro w g e cs) (k : Frm S w w') (hg : g ∉ S) : Fro w' g e cs := (k.block g h.lt hg).trans h
theorem Fro.set (h : Fro w g e cs) (i : Nat) (u : Value) : Fro (w.setCell ⟨g, i, none⟩ u) g e (cs.setIfInBounds i u) := by
  unfold Fro at *
  have hlt := (Array.getElem?_eq_some_iff.1 h).1
  have hb := (Array.getElem?_eq_some_iff.1 h).2
  simp [World.setCell, Array.getElem?_modify, h]
theorem Fro.rd (h : Fro w g e cs) {l : List UInt8} (hl : cs.toList.take l.length = U8 l) : Rd w 1 (some ⟨g, 0, none⟩) l.length (U8 l) := by
  refine ⟨by simp [U8], fun hn => ⟨_, rfl, h.lt, fun j u hu => ?_⟩⟩
  have e1 : (⟨g, 0, none⟩ : Addr).add j = ⟨g, j, none⟩ := by unfold Addr.add; split <;> simp_all
  rw [e1, h.cell]
  have hj : j < l.length := by have := (List.getElem?_eq_some_iff.1 hu).1; simpa [U8] using this
  rw [← hl, List.getElem?_take_of_lt hj] at hu
  simpa using hu
end
section
variable {P : Program} {n : NF} {Γ : Env} {w : World} {dst : Option Tmp} {T : TypeId} {pos : String} {after : Array Edge} {g : Option (Nat × Bool)}
theorem Does.bytesOf {src dstT e : TypeId} {x : Operand} {s : ByteArray} (hx : ev? Γ x = some (.string s)) (hs : P.underlying src = some .string) (hd : P.underlying dstT = some (.slice e)) (he : P.underlying e = some (.int .u8)) :
    Does P ⟨dst, .convert src dstT x, T, pos, after, g⟩ Γ w (fun r w' => ∃ c cs, r = .slice (some ⟨w.heap.size, 0, none⟩) s.data.toList.length c ∧ Fro w' w.heap.size e cs ∧ cs.toList.take s.data.toList.length = U8 s.data.toList ∧ Frm [] w w') := fun ρ hρ => by
  have h := run_bytes_of_string (P := P) w src dstT e s hs hd he
  have hsz : s.data.toList.length = s.size := rfl
  refine ⟨.slice (some ⟨w.heap.size, 0, none⟩) s.size (grownCap w s.size 0 e), w.drew.alloc (.cells (bytesRow s (grownCap w s.size 0 e)) e ((bytesRow s (grownCap w s.size 0 e)).size, (bytesRow s (grownCap w s.size 0 e)).size + 1)), ?_,
    grownCap w s.size 0 e, bytesRow s (grownCap w s.size 0 e), by rw [hsz], ?_, ?_, ?_⟩
  · simp only [execOp, hρ _ _ hx, Sem.run_bind, h, Result.andThen_ok]
    rfl
  · unfold Fro
    show (w.heap.push _)[w.heap.size]? = _
    simp
  · unfold bytesRow U8
    simp
  · exact ((Frm.refl [] w).drew).alloc _
theorem Acts.storeFro {t e : TypeId} {x y : Operand} {gb i : Nat} {cs : Array Value} {v : Value} (hx : ev? Γ x = some (.pointer (some ⟨gb, i, none⟩))) (hy : ev? Γ y = some v)
    (hz : ∀ w, (sizeOf t).run P w = .ok 1 w) (hb : Fro w gb e cs) (hi : i < cs.size) (h1 : v.oneCell' = true) :
    Acts P ⟨dst, .store t x y, T, pos, after, g⟩ Γ w (fun w' => Fro w' gb e (cs.setIfInBounds i v) ∧ Frm [gb] w w' ∧ w'.heap.size = w.heap.size) := fun ρ hρ => by
  have hcells : v.cells = #[v] := by cases v <;> first | rfl | cases h1
  have hc := hb.cell i
  rw [Array.getElem?_eq_getElem hi] at hc
  refine ⟨w.setCell ⟨gb, i, none⟩ v, ?_, hb.set i v, Frm.set1 w ⟨gb, i, none⟩ v, by simp⟩
  simp [execOp, hρ _ _ hx, hρ _ _ hy, Instr.storeAt, Instr.sureAddr, storeVar, hcells, hz, storeCells, run_store P _ _ _ _ h1, add_zero', hc, hb.frozen hi]
theorem Run.lssStr {t yT : TypeId} {x y : Operand} {a b : ByteArray} (hx : ev? Γ x = some (.string a)) (hy : ev? Γ y = some (.string b)) :
    Run P ⟨dst, .binOp .lss t x y yT, T, pos, after, g⟩ Γ w (.bool (decide (a.data.toList < b.data.toList))) := fun ρ hρ => by
  have e : Op.bytesLess a.data.toList b.data.toList = decide (a.data.toList < b.data.toList) := Go.Proofs.bytesLess_eq _ _
  rw [← e]
  simp [execOp, hρ _ _ hx, hρ _ _ hy, eqGuard, binOp, Op.stringOp, ByteArray.toList_eq]
theorem Run.gtrStr {t yT : TypeId} {x y : Operand} {a b : ByteArray} (hx : ev? Γ x = some (.string a)) (hy : ev? Γ y = some (.string b)) :
    Run P ⟨dst, .binOp .gtr t x y yT, T, pos, after, g⟩ Γ w (.bool (decide (b.data.toList < a.data.toList))) := fun ρ hρ => by
  have e : (!(decide (a.data.toList < b.data.toList) || a.data.toList == b.data.toList)) = decide (b.data.toList < a.data.toList) := by
    rw [Bool.eq_iff_iff]
    simp only [Bool.not_eq_true', Bool.or_eq_false_iff, decide_eq_false_iff_not, beq_eq_false_iff_ne, ne_eq, decide_eq_true_eq]
    constructor
    · rintro ⟨h1, h2⟩
      rcases Classical.em (b.data.toList < a.data.toList) with h3 | h3
      · exact h3
      · exact absurd (List.le_antisymm (List.not_lt.1 h3) (List.not_lt.1 h1)) h2
    · intro h
      exact ⟨fun h2 => List.lt_irrefl _ (List.lt_trans h h2), fun h2 => by rw [h2] at h; exact List.lt_irrefl _ h⟩
  rw [← e, ← Go.Proofs.bytesLess_eq]
  simp [execOp, hρ _ _ hx, hρ _ _ hy, eqGuard, binOp, Op.stringOp, ByteArray.toList_eq]
/-! ### texts as lists of octets -/
theorem Does.bytesOfT {src dstT e : TypeId} {x : Operand} {s : List UInt8} (hx : ev? Γ x = some (encStr s)) (hs : P.underlying src = some .string) (hd : P.underlying dstT = some (.slice e)) (he : P.underlying e = some (.int .u8)) :
    Does P ⟨dst, .convert src dstT x, T, pos, after, g⟩ Γ w (fun r w' => ∃ c cs, r = .slice (some ⟨w.heap.size, 0, none⟩) s.length c ∧ Fro w' w.heap.size e cs ∧ cs.toList.take s.length = U8 s ∧ Frm [] w w') := Does.bytesOf hx hs hd he
theorem Run.lenT {t : TypeId} {x : Operand} {s : List UInt8} (hx : ev? Γ x = some (encStr s)) (ht : P.underlying t = some .string) :
    Run P ⟨dst, .call ⟨.builtin .len, #[x], #[t]⟩, T, pos, after, g⟩ Γ w (.int .i64 ((s.length : Nat) : Int)) := Run.lenStr hx ht
theorem Run.eqlT {t yT : TypeId} {x y : Operand} {a b : List UInt8} (hx : ev? Γ x = some (encStr a)) (hy : ev? Γ y = some (encStr b)) : Run P ⟨dst, .binOp .eql t x y yT, T, pos, after, g⟩ Γ w (.bool (decide (a = b))) := Run.eqlStr hx hy
theorem Run.neqT {t yT : TypeId} {x y : Operand} {a b : List UInt8} (hx : ev? Γ x = some (encStr a)) (hy : ev? Γ y = some (encStr b)) : Run P ⟨dst, .binOp .neq t x y yT, T, pos, after, g⟩ Γ w (.bool (decide (a ≠ b))) := Run.neqStr hx hy
theorem Run.lssT {t yT : TypeId} {x y : Operand} {a b : List UInt8} (hx : ev? Γ x = some (encStr a)) (hy : ev? Γ y = some (encStr b)) : Run P ⟨dst, .binOp .lss t x y yT, T, pos, after, g⟩ Γ w (.bool (decide (a < b))) := Run.lssStr hx hy
theorem Run.gtrT {t yT : TypeId} {x y : Operand} {a b : List UInt8} (hx : ev? Γ x = some (encStr a)) (hy : ev? Γ y = some (encStr b)) : Run P ⟨dst, .binOp .gtr t x y yT, T, pos, after, g⟩ Γ w (.bool (decide (b < a))) := Run.gtrStr hx hy
theorem Run.addT {t yT : TypeId} {x y : Operand} {a b : List UInt8} (hx : ev? Γ x = some (encStr a)) (hy : ev? Γ y = some (encStr b)) (hs : a.length + b.length ≤ 9223372036854775807) :
    Run P ⟨dst, .binOp .add t x y yT, T, pos, after, g⟩ Γ w (encStr (a ++ b)) := by
  have h := Run.addStr (P := P) (w := w) (T := T) (dst := dst) (pos := pos) (after := after) (g := g) (t := t) (yT := yT) hx hy hs
  have e : (⟨a.toArray⟩ : ByteArray) ++ ⟨b.toArray⟩ = ⟨(a ++ b).toArray⟩ := by
    apply ByteArray.ext
    rw [ByteArray.data_append]
    simp
  rw [e] at h
  exact h
theorem Run.indexT {t : TypeId} {x i : Operand} {s : List UInt8} {k : IntKind} (j : Nat) {b : UInt8} (hx : ev? Γ x = some (encStr s)) (hi : ev? Γ i = some (.int k j)) (ht : P.underlying t = some .string) (hj : s[j]? = some b) :
    Run P ⟨dst, .index t x i, T, pos, after, g⟩ Γ w (.int .u8 ((b.toNat : Nat) : Int)) := Run.indexStr j b hx hi ht hj
theorem Run.sliceT {t : TypeId} {x : Operand} {s : List UInt8} {lo hi : Option Operand} (l h : Nat) (hx : ev? Γ x = some (encStr s)) (ht : P.underlying t = some .string)
    (hlo : evB Γ lo 0 l) (hhi : evB Γ hi s.length h) (h1 : l ≤ h) (h2 : h ≤ s.length) :
    Run P ⟨dst, .slice t x lo hi none, T, pos, after, g⟩ Γ w (encStr ((s.drop l).take (h - l))) := by
  have h3 := Run.sliceStr (P := P) (w := w) (T := T) (dst := dst) (pos := pos) (after := after) (g := g) (t := t) l h hx ht hlo hhi h1 h2
  have e : (⟨s.toArray⟩ : ByteArray).extract l h = ⟨((s.drop l).take (h - l)).toArray⟩ := by
    apply ByteArray.ext
    simp [ByteArray.data_extract]
  rw [e] at h3
  exact h3
theorem Run.strOfT {src dstT e : TypeId} {x : Operand} {A : Option Addr} {n c : Nat} {l : List UInt8} (hx : ev? Γ x = some (.slice A n c)) (hs : P.underlying src = some (.slice e)) (he : P.underlying e = some (.int .u8)) (hd : P.underlying dstT = some .string)
    (hr : Rd w 1 A n (U8 l)) : Run P ⟨dst, .convert src dstT x, T, pos, after, g⟩ Γ w (encStr l) := Run.strOf hx hs he hd hr
/-- An element of one cell of an array's value. -/
theorem Run.indexArr1 {t e : TypeId} {x i : Operand} {n : Nat} {k : IntKind} {cs : Array Value} {v : Value} (j : Nat) (hx : ev? Γ x = some (.agg cs)) (hi : ev? Γ i = some (.int k j)) (ht : P.underlying t = some (.array n e))
    (ha : ∀ w, (isAgg e).run P w = .ok false w) (hz : ∀ w, (sizeOf e).run P w = .ok 1 w) (hl : cs.size = n) (hj : cs[j]? = some v) : Run P ⟨dst, .index t x i, T, pos, after, g⟩ Γ w v := fun ρ hρ => by
  have hlt := (Array.getElem?_eq_some_iff.1 hj).1
  have h4 : j < n := by omega
  simp [execOp, hρ _ _ hx, hρ _ _ hi, Instr.index, asIntOf, run_underlying ht, h4, part, ha, hz, hj]
end
end Go.Proofs.Ytmfglifjnoilnaa
