/-
  The builtin clear, on the rest of an owned row; operations whose value nobody takes; a call through a value that holds a function.
-/
import Derived.Test.YtmfglifjnoilnaaEng11
namespace Go.Proofs.Ytmfglifjnoilnaa
open Go.RowKit
section
variable {P : Program} {n : NF} {Γ : Env} {w : World} {Q : Exit → Env → World → Prop} {ops : Array Oper} {rest : List Oper} {op : Op} {T : TypeId} {pos : String} {after : Array Edge} {g : Option (Nat × Bool)} {dst : Option Tmp}
theorem Ops.m0 {R : Value → World → Prop} (h : Does P ⟨none, op, T, pos, after, none⟩ Γ w R) (k : ∀ v w', R v w' → Ops P n ops rest Γ w' Q) : Ops P n ops (⟨none, op, T, pos, after, none⟩ :: rest) Γ w Q :=
  Ops.of_wp (show Up ops Γ none from trivial) fun a hs m => by
    obtain ⟨v, w', hr, hR⟩ := h _ hs.fits
    refine ⟨about_wd, ?_⟩
    rw [semAt_run hr (by simp), Oper.uponIn_value]
    exact k v w' hR _ hs m
theorem zeroCells_toList (z : Array Value) (m : Nat) (u : Value) (h : u ∈ (Builtin.zeroCells z m).toList) : u ∈ z.toList := by
  simp only [Builtin.zeroCells, Array.toList_map, List.mem_map] at h
  obtain ⟨i, hi, rfl⟩ := h
  have hp : 0 < z.size := by
    rcases Nat.eq_zero_or_pos z.size with h0 | h0
    · simp [h0] at hi
    · exact h0
  have hlt : i % z.size < z.size := Nat.mod_lt _ hp
  rw [getElem!_pos z _ hlt]
  exact Array.getElem_mem_toList _
theorem Does.clearCut {t e size m cap k : Nat} {x : Operand} {gb : Nat} {xs : List Value} {z : Value} (hx : ev? Γ x = some (.slice (cutA (some ⟨gb, 0, none⟩) cap k size) (m - k) (cap - k))) (ht : P.underlying t = some (.slice e)) (hz : ∀ w, (zeroValue e).run P w = .ok z w)
    (hzs : z.cells.size = size) (h1 : ∀ u ∈ z.cells.toList, u.oneCell' = true) (ho : Own w e size (some ⟨gb, 0, none⟩) m cap xs) (hk : k ≤ m) :
    Does P ⟨dst, .call ⟨.builtin .clear, #[x], #[t]⟩, T, pos, after, g⟩ Γ w (fun _ w' => Own w' e size (some ⟨gb, 0, none⟩) k cap (xs.take (k * size)) ∧ Frm [gb] w w') := fun ρ hρ => by
  have ex : (execOp ρ ⟨dst, .call ⟨.builtin .clear, #[x], #[t]⟩, T, pos, after, g⟩).run P w = ((Builtin.clear_ #[t] T #[.slice (cutA (some ⟨gb, 0, none⟩) cap k size) (m - k) (cap - k)]).run P w).andThen fun a w => .ok (.value a) w := by
    simp [execOp, resolve, invoke, builtin, hρ _ _ hx]
  have hnc := ho.le
  rcases Nat.lt_or_ge k m with hlt | hge
  · rcases ho.cases with ⟨hA, _⟩ | ⟨g', cur, hA, hb, _, hc, hs, htk⟩
    · cases hA
    · injection hA with hA
      injection hA with hA
      subst hA
      have ecut : cutA (some (⟨gb, 0, none⟩ : Addr)) cap k size = some ⟨gb, k * size, none⟩ := by
        unfold cutA
        rw [if_neg (by omega), Option.map_some, add_mk]
      have hmk : m - k ≠ 0 := by omega
      obtain ⟨j, hj⟩ : ∃ j, m - k = j + 1 := ⟨m - k - 1, by omega⟩
      have hzl : (Builtin.zeroCells z.cells (m - k)).toList.length = (m - k) * size := by simp [Builtin.zeroCells, hzs]
      have e1 : (m - k) * size + k * size = m * size := by rw [← Nat.add_mul]; congr 1; omega
      have e2 : m * size ≤ cap * size := Nat.mul_le_mul_right _ hnc
      have hr := run_storeCells_at (P := P) gb (k * size) e (Builtin.zeroCells z.cells (m - k)).toList 0 cur w hb (by rw [hzl, hs]; omega) (fun u hu => h1 u (zeroCells_toList _ _ _ hu))
      simp only [Nat.add_zero, hzl] at hr
      generalize hcs : (List.take (k * size) cur.toList ++ (Builtin.zeroCells z.cells (m - k)).toList ++ List.drop (k * size + (m - k) * size) cur.toList).toArray = cs' at hr
      refine ⟨.tuple #[], w.setRow gb cs', ?_, ⟨?_, .inr ⟨gb, cap, cs', rfl, Nat.zero_le _, setRow_heap w gb cur _ e (0, 0) hb, by omega, hc, ?_, ?_⟩⟩, ?_⟩
      · rw [ex, ecut, hj]
        rw [hj] at hr
        simp [Builtin.clear_, run_underlying ht, hz, hr]
      · rw [List.length_take, ho.len]
        have : k * size ≤ m * size := Nat.mul_le_mul_right _ hk
        omega
      · subst hcs
        simp only [List.size_toArray, List.length_append, List.length_take, List.length_drop, Array.length_toList, hzl, hs]
        omega
      · subst hcs
        have e3 : (cur.toList.take (k * size)).length = k * size := by rw [List.length_take, Array.length_toList, hs]; omega
        simp only [List.append_assoc]
        rw [List.take_append_of_le_length (by rw [e3]; exact Nat.le_refl _), List.take_of_length_le (by rw [e3]; exact Nat.le_refl _), ← htk, List.take_take, Nat.min_eq_left (by omega)]
      · exact ⟨rfl, rfl, rfl, by simp [World.setRow], fun k _ hS => setRow_other w gb k _ (by simpa using hS)⟩
  · have hkm : k = m := by omega
    subst hkm
    refine ⟨.tuple #[], w, ?_, ?_, Frm.refl _ _⟩
    · rw [ex, Nat.sub_self]
      cases hA : cutA (some (⟨gb, 0, none⟩ : Addr)) cap k size <;> simp [Builtin.clear_, run_underlying ht]
    · rw [List.take_of_length_le (by rw [ho.len]; exact Nat.le_refl _)]
      exact ho
end
end Go.Proofs.Ytmfglifjnoilnaa
