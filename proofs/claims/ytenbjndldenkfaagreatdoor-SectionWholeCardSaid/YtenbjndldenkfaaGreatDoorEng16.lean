/-
  A text's octets behind a row of its own; labels that are come to straight.
-/
import Derived.Test.YtenbjndldenkfaaGreatDoorEng15
import Derived.Lib.AppendStr
namespace Go.Proofs.YtenbjndldenkfaaGreatDoor
open Go.RowKit
theorem VC.label {P : Program} {n : NF} {Γ : Env} {w : World} {Q : Exit → Env → World → Prop} {l : Nat} (h : Q .normal Γ w) : VC P n (.label l) Γ w Q := fun _ hs _ => wpIn_label ⟨Γ, hs, h⟩
section
variable {P : Program} {Γ : Env} {w : World} {dst : Option Tmp} {pos : String} {after : Array Edge} {g : Option (Nat × Bool)} {T : TypeId}
theorem Own.based {w : World} {e size n c B : Nat} {A : Option Addr} {xs : List Value} (h : Own w e size A n c xs) (hA : ∀ x ∈ ob A, B ≤ x) : w.ownsRow B e size (.slice A n c) n xs := by
  refine ⟨h.1, ?_⟩
  rcases h.cases with ⟨rfl, h1, h2, _⟩ | ⟨g, cur, rfl, h1, h2, h3, h4, h5⟩
  · exact .inl ⟨by rw [h1, h2], h1⟩
  · exact .inr ⟨g, c, cur, rfl, hA g (by simp [ob]), h1, h2, h3, h4, h5⟩
theorem Does.appStr {t u e : TypeId} {x y : Operand} {n cap : Nat} (B : Nat) {A : Option Addr} {xs : List Value} {q : List UInt8} (hx : ev? Γ x = some (.slice A n cap)) (hy : ev? Γ y = some (encStr q))
    (ht : P.underlying t = some (.slice e)) (hu : P.underlying u = some .string) (hi : (P.info? e).map (fun i => (i.zero, i.size, i.bytes)) = some (some (.int .u8 0), 1, 1))
    (ho : Own w e 1 A n cap xs) (hA : ∀ x ∈ ob A, B ≤ x) (hB : B ≤ w.heap.size) (hb : n + q.length ≤ 140737488355328) :
    Does P ⟨dst, .call ⟨.builtin .append, #[x, y], #[t, u]⟩, T, pos, after, g⟩ Γ w
      (fun r w' => ∃ A' c', r = .slice A' (n + q.length) c' ∧ Own w' e 1 A' (n + q.length) c' (xs ++ U8 q) ∧ Frm (ob A) w w' ∧ ∀ x ∈ ob A', B ≤ x) := fun ρ hρ => by
  obtain ⟨i0, hi0, hz0, hz1, hz2⟩ := info_parts hi
  have ex : (execOp ρ ⟨dst, .call ⟨.builtin .append, #[x, y], #[t, u]⟩, T, pos, after, g⟩).run P w = ((Builtin.append_ #[t, u] T #[.slice A n cap, .string ⟨q.toArray⟩]).run P w).andThen fun a w => .ok (.value a) w := by
    simp [execOp, resolve, invoke, builtin, hρ _ _ hx, hρ _ _ hy, encStr]
  have hsz : (⟨q.toArray⟩ : ByteArray).size = q.length := by show q.toArray.size = _; simp
  obtain ⟨v', w', hrun, hown, hgr, hnil⟩ := Lib.run_append_own_string (P := P) (w := w) B t u T e i0 ht hu hi0 hz0 hz1 hz2 (.slice A n cap) n xs (ho.based hA) ⟨q.toArray⟩ (by rw [hsz]; unfold maxLen; omega) (by rw [hsz]; exact hb) hB
  rw [hsz] at hown
  have hc : Lib.strCells ⟨q.toArray⟩ = U8 q := by simp [Lib.strCells, U8]
  rw [hc] at hown
  have hblk : ∀ (X : Option Addr) (p q : Nat), (Value.slice X p q).ownBlock.toList = ob X := by intro X p q; cases X <;> rfl
  have hfr : Frm (ob A) w w' := by
    have := Frm.grown hgr
    rwa [hblk] at this
  rcases hown.2 with ⟨rfl, h0⟩ | ⟨g', cap', cur', rfl, h1, h2, h3, h4, h5, h6⟩
  · refine ⟨_, w', by rw [ex, hrun]; rfl, none, 0, by rw [h0], ⟨hown.1, .inl ⟨by rw [h0], h0⟩⟩, hfr, by simp [ob]⟩
  · exact ⟨_, w', by rw [ex, hrun]; rfl, some ⟨g', 0, none⟩, cap', rfl, ⟨hown.1, .inr ⟨g', cap', cur', rfl, Nat.zero_le _, h2, h3, h4, h5, h6⟩⟩, hfr, by simp [ob]; exact h1⟩
end
end Go.Proofs.YtenbjndldenkfaaGreatDoor
