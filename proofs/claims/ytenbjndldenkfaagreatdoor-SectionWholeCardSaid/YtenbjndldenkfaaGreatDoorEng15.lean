/-
  Ranges over texts.
-/
import Derived.Test.YtenbjndldenkfaaGreatDoorEngC
import Derived.Laws.RangeString
import Derived.Scope
import Derived.ControlIn
namespace Go.Proofs.YtenbjndldenkfaaGreatDoor
open Go.RowKit
variable {P : Program} {Γ : Env} {w : World} {dst : Option Tmp} {pos : String} {after : Array Edge} {g : Option (Nat × Bool)} {T : TypeId}
/-- An iterator over a text lies at a block. -/
def SIt (w : World) (b : Nat) (s : ByteArray) (p : Nat) : Prop := w.heap[b]? = some (.stringIter s p)
theorem Does.rangeS {t : TypeId} {x : Operand} {s : ByteArray} (hx : ev? Γ x = some (.string s)) (ht : P.underlying t = some .string) :
    Does P ⟨dst, .range t x, T, pos, after, g⟩ Γ w (fun r w' => r = .pointer (some ⟨w.heap.size, 0, none⟩) ∧ SIt w' w.heap.size s 0 ∧ Frm [] w w') := fun ρ hρ => by
  refine ⟨_, w.iter s 0, ?_, rfl, World.iter_heap _ _ _, (Frm.refl [] w).alloc _⟩
  simp [execOp, hρ _ _ hx, run_range_string w t s ht]
theorem Does.nextS {x : Operand} {s : ByteArray} {b p : Nat} (hx : ev? Γ x = some (.pointer (some ⟨b, 0, none⟩))) (hb : SIt w b s p) (hp : p < s.size) :
    Does P ⟨dst, .next x true, T, pos, after, g⟩ Γ w (fun r w' => r = .tuple #[.bool true, .int .i64 (p : Int), .int .i32 ((Utf8.decode s p).1 : Int)] ∧ SIt w' b s (p + (Utf8.decode s p).2) ∧ Frm [b] w w') := fun ρ hρ => by
  refine ⟨_, w.putObj b (.stringIter s (p + (Utf8.decode s p).2)), ?_, rfl, by have := (Array.getElem?_eq_some_iff.1 hb).1; simp [SIt, World.putObj, this], Frm.putObj _ _ _⟩
  have hb' : w.heap[b]? = some (.stringIter s p) := hb
  simp [execOp, hρ _ _ hx, Instr.next, getObj, setObj, Sem.run, hb', hp, World.putObj, goInt]
theorem Does.nextEnd {x : Operand} {s : ByteArray} {b p : Nat} (hx : ev? Γ x = some (.pointer (some ⟨b, 0, none⟩))) (hb : SIt w b s p) (hp : ¬ p < s.size) :
    Does P ⟨dst, .next x true, T, pos, after, g⟩ Γ w (fun r w' => r = .tuple #[.bool false] ∧ w = w') := fun ρ hρ => by
  refine ⟨_, w, ?_, rfl, rfl⟩
  have hb' : w.heap[b]? = some (.stringIter s p) := hb
  simp [execOp, hρ _ _ hx, Instr.next, getObj, Sem.run, hb', hp]
theorem Run.runeS {src dstT : TypeId} {x : Operand} {k : IntKind} {a : Int} {d : TypeDesc} (hx : ev? Γ x = some (.int k a)) (hs : P.underlying src = some d) (hd : P.underlying dstT = some .string) :
    Run P ⟨dst, .convert src dstT x, T, pos, after, g⟩ Γ w (.string (Utf8.encode a)) := fun ρ hρ => by
  simp [execOp, hρ _ _ hx, convert, run_underlying hs, run_underlying hd, Conv.intToString]
/-- A scope whose body does not jump. -/
def straightQ (Q : Exit → Env → World → Prop) : Exit → Env → World → Prop
  | .goto _, _, _ => False
  | e, Γ, w => Q e Γ w
section
variable {Q : Exit → Env → World → Prop} {i : Nat} {ch : List PanicEntry}
theorem straightQ_n (h : Q .normal Γ w) : straightQ Q .normal Γ w := h
theorem straightQ_r (h : Q .ret Γ w) : straightQ Q .ret Γ w := h
theorem straightQ_x (h : Q (.exit i) Γ w) : straightQ Q (.exit i) Γ w := h
theorem straightQ_p (h : Q (.panic ch) Γ w) : straightQ Q (.panic ch) Γ w := h
end
theorem VC.scope {n : NF} {c : Code} {Q : Exit → Env → World → Prop} (hro : n.ro = none) (h : VC P n c Γ w (straightQ Q)) : VC P n (.scope c) Γ w Q := by
  intro a hs m
  rw [hro, wd_none]
  refine wpIn_wide.2 (wp_scope_straight ?_)
  have h1 := h a hs m
  rw [hro, wd_none] at h1
  refine wp_mono (wpIn_wide.1 h1) ?_
  intro e a' w' hq
  obtain ⟨Γ', hs', q⟩ := hq
  cases e with
  | goto l => exact q.elim
  | _ => exact ⟨Γ', hs', q⟩
theorem eqF_str {P : Program} {w : World} {d : Nat} {xs ys : Array Value} {f : Field} {fs : List Field} {a b : List UInt8} {r : Bool} (hn : f.name ≠ "_") (ht : ∀ w, (isAgg f.type).run P w = .ok false w) (hu : P.underlying f.type = some .string)
    (hx : xs[f.offset]? = some (encStr a)) (hy : ys[f.offset]? = some (encStr b)) (h : (Op.eqFields (d + 1) xs ys fs).run P w = .ok r w) : (Op.eqFields (d + 1) xs ys (f :: fs)).run P w = .ok (decide (a = b) && r) w := by
  have e1 : (a == b) = decide (a = b) := by rw [Bool.eq_iff_iff]; simp
  have e2 : (Op.equalIn (d + 1) f.type (encStr a) (encStr b)).run P w = .ok (a == b) w := by
    have := run_equalIn_string (P := P) w d f.type ⟨a.toArray⟩ ⟨b.toArray⟩ hu
    rw [ByteArray.toList_eq, ByteArray.toList_eq] at this
    exact this
  simp only [Op.eqFields, if_pos hn, Sem.run_bind, part, ht, Result.andThen_ok, Bool.false_eq_true, if_false, hx, hy, Sem.run_pure, e2, Sem.run_ite]
  by_cases hab : a = b
  · simp [hab, h]
  · simp [hab, e1]
end Go.Proofs.YtenbjndldenkfaaGreatDoor
