/-
  Rows of octets that a conversion has marked: a text's, and one built of octets; what is put behind them.
-/
import Derived.Test.YtenbjndldenkfaaGreatDoorEng16
import Derived.ArgAppend
namespace Go.Proofs.YtenbjndldenkfaaGreatDoor
open Go.RowKit
section
variable {P : Program} {Γ : Env} {w : World} {dst : Option Tmp} {pos : String} {after : Array Edge} {g : Option (Nat × Bool)} {T : TypeId}
theorem Does.bytesOfC {src dstT e : TypeId} {x : Operand} {s : List UInt8} (hx : ev? Γ x = some (encStr s)) (hs : P.underlying src = some .string) (hd : P.underlying dstT = some (.slice e)) (he : P.underlying e = some (.int .u8)) :
    Does P ⟨dst, .convert src dstT x, T, pos, after, g⟩ Γ w (fun r w' => ∃ c cs, r = .slice (some ⟨w.heap.size, 0, none⟩) s.length c ∧ s.length ≤ c ∧ Fro w' w.heap.size e cs ∧ cs.toList.take s.length = U8 s ∧ Frm [] w w') := fun ρ hρ => by
  have h := run_bytes_of_string (P := P) w src dstT e ⟨s.toArray⟩ hs hd he
  have hsz : (⟨s.toArray⟩ : ByteArray).size = s.length := by show s.toArray.size = _; simp
  rw [hsz] at h
  refine ⟨.slice (some ⟨w.heap.size, 0, none⟩) s.length (grownCap w s.length 0 e), w.drew.alloc (.cells (bytesRow ⟨s.toArray⟩ (grownCap w s.length 0 e)) e ((bytesRow ⟨s.toArray⟩ (grownCap w s.length 0 e)).size, (bytesRow ⟨s.toArray⟩ (grownCap w s.length 0 e)).size + 1)), ?_,
    grownCap w s.length 0 e, bytesRow ⟨s.toArray⟩ (grownCap w s.length 0 e), rfl, grownCap_ge _ _ _ _, ?_, ?_, ?_⟩
  · have hx' := hρ _ _ hx
    simp only [execOp, hx', encStr, Sem.run_bind, h, Result.andThen_ok]
    rfl
  · unfold Fro
    show (w.heap.push _)[w.heap.size]? = _
    simp
  · unfold bytesRow U8
    simp
  · exact ((Frm.refl [] w).drew).alloc _
/-- A conversion of a row to its own type marks its block. -/
theorem Does.mark {t e : TypeId} {x : Operand} {gb n c : Nat} {cs : Array Value} (hx : ev? Γ x = some (.slice (some ⟨gb, 0, none⟩) n c)) (ht : P.underlying t = some (.slice e)) (he : P.underlying e = some (.int .u8)) (hb : Blk w gb e cs) :
    Does P ⟨dst, .convert t t x, T, pos, after, g⟩ Γ w (fun r w' => r = .slice (some ⟨gb, 0, none⟩) n c ∧ Fro w' gb e cs ∧ Frm [gb] w w') := fun ρ hρ => by
  have hsh : w.shape? gb = some (e, cs.size) := by
    unfold Blk at hb
    unfold World.shape?
    rw [hb]
  refine ⟨.slice (some ⟨gb, 0, none⟩) n c, w.freeze ⟨gb, cs.size, none⟩ 1, ?_, rfl, ?_, ?_⟩
  · simp [execOp, hρ _ _ hx, convert, run_underlying ht, run_underlying he, markStringish, hsh]
  · unfold Blk at hb
    unfold Fro World.freeze
    rw [if_neg (by decide)]
    show (w.heap.modify gb _)[gb]? = _
    rw [Array.getElem?_modify, if_pos rfl, hb]
    rfl
  · refine ⟨?_, ?_, ?_, ?_, ?_⟩
    · unfold World.freeze; rw [if_neg (by decide)]
    · unfold World.freeze; rw [if_neg (by decide)]
    · unfold World.freeze; rw [if_neg (by decide)]
    · unfold World.freeze; rw [if_neg (by decide)]; simp
    · intro i hi hni
      unfold World.freeze
      rw [if_neg (by decide)]
      show (w.heap.modify gb _)[i]? = _
      rw [Array.getElem?_modify, if_neg (fun h => hni (by simp [h]))]
/-- A row of one's own, or one that is marked and full. -/
def OwnF (w : World) (e : TypeId) (A : Option Addr) (n c : Nat) (xs : List Value) : Prop := Own w e 1 A n c xs ∨ ∃ (gb : Nat) (cs : Array Value), A = some ⟨gb, 0, none⟩ ∧ c = n ∧ cs.toList = xs ∧ xs.length = n ∧ Fro w gb e cs
theorem OwnF.frm {w w' : World} {S : List Nat} {e n c : Nat} {A : Option Addr} {xs : List Value} (h : OwnF w e A n c xs) (k : Frm S w w') (hS : ∀ x ∈ ob A, x ∉ S) : OwnF w' e A n c xs := by
  rcases h with h | ⟨gb, cs, rfl, h1, h2, h3, h4⟩
  · exact .inl (h.frm k hS)
  · exact .inr ⟨gb, cs, rfl, h1, h2, h3, h4.frm k (hS gb (by simp [ob]))⟩
theorem OwnF.lt {w : World} {e n c : Nat} {A : Option Addr} {xs : List Value} (h : OwnF w e A n c xs) : ∀ x ∈ ob A, x < w.heap.size := by
  rcases h with h | ⟨gb, cs, rfl, h1, h2, h3, h4⟩
  · exact h.lt
  · simpa [ob] using h4.lt
theorem OwnF.cells {w : World} {e n c gb : Nat} {cs : Array Value} {xs : List Value} (h2 : cs.toList = xs) (h4 : Fro w gb e cs) : ∀ j u, xs[j]? = some u → w.cell? ((⟨gb, 0, none⟩ : Addr).add j) = some u := by
  intro j u hu
  have e1 : (⟨gb, 0, none⟩ : Addr).add j = ⟨gb, j, none⟩ := by unfold Addr.add; split <;> simp_all
  rw [e1, h4.cell, ← hu, ← h2, Array.getElem?_toList]
theorem OwnF.rd {w : World} {e n c : Nat} {A : Option Addr} {xs : List Value} (h : OwnF w e A n c xs) : Rd w 1 A n xs := by
  rcases h with h | ⟨gb, cs, rfl, h1, h2, h3, h4⟩
  · exact h.rd
  · exact ⟨by omega, fun hn => ⟨_, rfl, h4.lt, OwnF.cells (n := n) (c := c) h2 h4⟩⟩
theorem OwnF.le {w : World} {e n c : Nat} {A : Option Addr} {xs : List Value} (h : OwnF w e A n c xs) : n ≤ c := by
  rcases h with h | ⟨gb, cs, rfl, h1, h2, h3, h4⟩
  · exact h.le
  · omega
theorem OwnF.ne_blk {w : World} {e t n c gb : Nat} {A : Option Addr} {xs : List Value} {cs : Array Value} (h : OwnF w e A n c xs) (hb : Blk w gb t cs) (hne : e ≠ t) : gb ∉ ob A := by
  rcases h with h | ⟨g2, cs2, rfl, h1, h2, h3, h4⟩
  · exact h.ne_blk hb hne
  · intro hm
    simp only [ob, List.mem_singleton] at hm
    subst hm
    unfold Fro at h4
    unfold Blk at hb
    rw [h4] at hb
    injection hb with hb
    injection hb with _ hb _
    exact hne hb
theorem Does.appF {t e : TypeId} {x y : Operand} {z : Value} {bytes n m cap c2 : Nat} {A B : Option Addr} {xs news : List Value} (hx : ev? Γ x = some (.slice A n cap)) (hy : ev? Γ y = some (.slice B m c2))
    (ht : P.underlying t = some (.slice e)) (hi : (P.info? e).map (fun i => (i.zero, i.size, i.bytes)) = some (some z, 1, bytes)) (hzs : z.cells.size = 1)
    (ho : OwnF w e A n cap xs) (hr : Rd w 1 B m news) (h1 : ∀ u ∈ news, u.oneCell' = true) (hm : 0 < m) (h63 : n + m ≤ 9223372036854775807) (hb : (n + m) * bytes ≤ 140737488355328) :
    Does P ⟨dst, .call ⟨.builtin .append, #[x, y], #[t, t]⟩, T, pos, after, g⟩ Γ w
      (fun r w' => ∃ A' c', r = .slice A' (n + m) c' ∧ Own w' e 1 A' (n + m) c' (xs ++ news) ∧ Frm (ob A) w w' ∧ ∀ x ∈ ob A', x ∈ ob A ∨ w.heap.size ≤ x) := by
  rcases ho with ho | ⟨gb, cs, rfl, rfl, h2, h3, h4⟩
  · intro ρ hρ
    obtain ⟨r, w', hrun, A', c', rfl, k1, k2, k3⟩ := Does.app hx hy ht hi hzs (by decide) ho hr h1 h63 hb ρ hρ
    exact ⟨_, w', hrun, A', c', rfl, k1, k2, fun x hx => by
      rcases k3 with h | h
      · exact .inl (h ▸ hx)
      · rw [h] at hx; simp only [List.mem_singleton] at hx; exact .inr (by omega)⟩
  · intro ρ hρ
    obtain ⟨i0, hi0, hz0, hz1, hz2⟩ := info_parts hi
    obtain ⟨ad, rfl, hlt, hcell⟩ := hr.2 hm
    have ex : (execOp ρ ⟨dst, .call ⟨.builtin .append, #[x, y], #[t, t]⟩, T, pos, after, g⟩).run P w = ((Builtin.append_ #[t, t] T #[.slice (some ⟨gb, 0, none⟩) cap cap, .slice (some ad) m c2]).run P w).andThen fun a w => .ok (.value a) w := by
      simp [execOp, resolve, invoke, builtin, hρ _ _ hx, hρ _ _ hy]
    obtain ⟨v', w', hrun, hown, hgr⟩ := run_append_arg_grows (P := P) w t T e i0 z 1 bytes ht hi0 hz0 hz1 hz2 hzs (by decide) ⟨gb, 0, none⟩ cap cap xs (by omega) (OwnF.cells (n := cap) (c := cap) h2 h4) ad m c2 news hr.1 hcell (by omega) h63 hb
    rcases hown.2 with ⟨rfl, h0⟩ | ⟨g', cap', cur', rfl, k1, k2, k3, k4, k5, k6⟩
    · omega
    · have hfr : Frm [] w w' := Frm.grown hgr
      exact ⟨_, w', by rw [ex, hrun]; rfl, some ⟨g', 0, none⟩, cap', rfl, ⟨hown.1, .inr ⟨g', cap', cur', rfl, Nat.zero_le _, k2, k3, k4, k5, k6⟩⟩, hfr.mono (by simp), fun x hx => by simp only [ob, List.mem_singleton] at hx; exact .inr (by omega)⟩
theorem Does.appFS {t u e : TypeId} {x y : Operand} {n cap : Nat} (B : Nat) {A : Option Addr} {xs : List Value} {q : List UInt8} (hx : ev? Γ x = some (.slice A n cap)) (hy : ev? Γ y = some (encStr q))
    (ht : P.underlying t = some (.slice e)) (hu : P.underlying u = some .string) (hi : (P.info? e).map (fun i => (i.zero, i.size, i.bytes)) = some (some (.int .u8 0), 1, 1))
    (ho : OwnF w e A n cap xs) (hq : 0 < q.length) (hA : ∀ x ∈ ob A, B ≤ x) (hB : B ≤ w.heap.size) (hb : n + q.length ≤ 140737488355328) :
    Does P ⟨dst, .call ⟨.builtin .append, #[x, y], #[t, u]⟩, T, pos, after, g⟩ Γ w
      (fun r w' => ∃ A' c', r = .slice A' (n + q.length) c' ∧ Own w' e 1 A' (n + q.length) c' (xs ++ U8 q) ∧ Frm (ob A) w w' ∧ ∀ x ∈ ob A', B ≤ x) := by
  rcases ho with ho | ⟨gb, cs, rfl, rfl, h2, h3, h4⟩
  · exact Does.appStr B hx hy ht hu hi ho hA hB hb
  · intro ρ hρ
    obtain ⟨i0, hi0, hz0, hz1, hz2⟩ := info_parts hi
    have ex : (execOp ρ ⟨dst, .call ⟨.builtin .append, #[x, y], #[t, u]⟩, T, pos, after, g⟩).run P w = ((Builtin.append_ #[t, u] T #[.slice (some ⟨gb, 0, none⟩) cap cap, .string ⟨q.toArray⟩]).run P w).andThen fun a w => .ok (.value a) w := by
      simp [execOp, resolve, invoke, builtin, hρ _ _ hx, hρ _ _ hy, encStr]
    have hsz : (⟨q.toArray⟩ : ByteArray).size = q.length := by show q.toArray.size = _; simp
    have hc : Lib.strCells ⟨q.toArray⟩ = U8 q := by simp [Lib.strCells, U8]
    have hfit := growslice_fits (need := cap + q.length) (old := cap) (bytes := i0.bytes) (by omega) (by rw [hz2]; omega)
    have hrun := Lib.run_append_grow_string (P := P) w t u T e i0 (.int .u8 0) ht hu hi0 hz0 ⟨gb, 0, none⟩ cap cap xs (by rw [hz1]; omega) (OwnF.cells (n := cap) (c := cap) h2 h4) ⟨q.toArray⟩ (by rw [hsz]; omega) (by rw [hsz]; omega) (by rw [hsz]; exact hfit)
    rw [hsz, hc] at hrun
    have hge := grownCap_ge w (cap + q.length) cap e
    have hcm := grownCap_le_maxLen w (cap + q.length) cap e (by unfold maxLen; omega)
    have hU : (U8 q).length = q.length := by simp [U8]
    refine ⟨_, _, by rw [ex, hrun]; rfl, some ⟨w.heap.size, 0, none⟩, _, rfl, ⟨by rw [List.length_append, hU]; omega, .inr ⟨w.heap.size, _, _, rfl, Nat.zero_le _, heap_alloc_new w.drew _, hge, hcm, ?_, ?_⟩⟩, ((Frm.refl _ w).drew).alloc _, fun x hx => by simp only [ob, List.mem_singleton] at hx; omega⟩
    · simp only [Array.size_append, List.size_toArray, size_zeroCells, hU, h3]
      simp only [Value.cells]
      show cap + q.length + (_ - _) * 1 = _
      omega
    · simp only [Array.toList_append]
      rw [List.take_append_of_le_length (by simp [hU]; omega), List.take_of_length_le (by simp [hU]; omega)]
end
end Go.Proofs.YtenbjndldenkfaaGreatDoor
