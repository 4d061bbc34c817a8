/-
  Arguments that came in, read: slices of whatever takes one cell.
-/
import Derived.Test.YtmfglifjnoilnaaOpen
import Derived.Deep.Strs
namespace Go.Proofs.Ytmfglifjnoilnaa
open Go.RowKit Go.ChangeShapes Go.WideShapes Go.Deep
section
variable {H : Type} {enc : TypeId × Value → H} {P : Program} {w : World} {base : Nat} {spare : Nat → Bool} {held : Bool}
theorem rd_slice1 {α : Type} (cell : α → Value) (Q : α → Prop) {t e : TypeId} {fuel len cap : Nat} {a : Option Addr} {x : DataW H × List MemPlace} (ht : P.underlying t = some (.slice e)) (hc : P.cellsOf e = 1)
    (hel : ∀ (v : Value) (n : Nat) (y : DataW H × List MemPlace), DataW.trod enc P w base spare held n e [v] = some y → ∃ s : α, v = cell s ∧ Q s)
    (h : DataW.trod enc P w base spare held fuel t [.slice a len cap] = some x) :
    ∃ ls : List α, ls.length = len ∧ len ≤ cap ∧ cap ≤ 9223372036854775807 ∧ Rd w 1 a len (ls.map cell) ∧ ∀ s ∈ ls, Q s := by
  rcases open_slice1 ht hc h with ⟨hcs, _⟩ | ⟨ad, l, c, m, n, V, D, Pl, hcs, _, hl, hm, hmm, _, hi⟩
  · simp only [List.cons.injEq, Value.slice.injEq, and_true] at hcs
    obtain ⟨rfl, rfl, rfl⟩ := hcs
    exact ⟨[], rfl, Nat.le_refl _, by omega, Rd.nil _ _ _, by simp⟩
  · simp only [List.cons.injEq, Value.slice.injEq, and_true] at hcs
    obtain ⟨rfl, rfl, rfl⟩ := hcs
    have hml : len ≤ m := by rw [hmm]; split <;> omega
    obtain ⟨ls, hll, hq⟩ := list_choose (Q := fun i s => V i = cell s ∧ Q s) len (fun i hil => hel _ _ _ (hi i (by omega)).2)
    have hcell : ∀ j u, (ls.map cell)[j]? = some u → w.cell? (ad.add j) = some u := by
      intro j u hu
      rw [List.getElem?_map] at hu
      obtain ⟨s, hs, rfl⟩ := Option.map_eq_some_iff.1 hu
      have hj : j < ls.length := (List.getElem?_eq_some_iff.1 hs).1
      rw [(hi j (by omega)).1, (hq j s hs).1]
    refine ⟨ls, hll, hl, by simpa [maxLen] using hm, ⟨by simp [hll], fun hn => ⟨ad, rfl, ?_, hcell⟩⟩, fun s hs => ?_⟩
    · have := World.block_lt_of_cell? w _ (hcell 0 _ (List.getElem?_eq_getElem (by simp; omega)))
      rwa [block_add] at this
    · obtain ⟨i, hi', hli⟩ := List.getElem_of_mem hs
      exact (hq i s (by rw [List.getElem?_eq_getElem hi', hli])).2
/-- A slice of texts. -/
theorem rd_strs {t e : TypeId} {fuel len cap : Nat} {a : Option Addr} {x : DataW H × List MemPlace} (ht : P.underlying t = some (.slice e)) (he : P.underlying e = some .string) (hc : P.cellsOf e = 1)
    (h : DataW.trod enc P w base spare held fuel t [.slice a len cap] = some x) :
    ∃ ls : List ByteArray, ls.length = len ∧ len ≤ cap ∧ cap ≤ 9223372036854775807 ∧ Rd w 1 a len (ls.map .string) ∧ ∀ s ∈ ls, s.size ≤ maxLen :=
  rd_slice1 .string (fun s => s.size ≤ maxLen) ht hc (fun v n y hy => by
    obtain ⟨s, h1, _, h3⟩ := DataW.trod_string he hy
    exact ⟨s, by simpa using h1, h3⟩) h
/-- A slice of octets, somewhere: address, capacity, octets. -/
def SL (y : Option Addr × Nat × List Nat) : Value := .slice y.1 y.2.2.length y.2.1
theorem rd_bytess {t e e2 : TypeId} {fuel len cap : Nat} {a : Option Addr} {x : DataW H × List MemPlace} (ht : P.underlying t = some (.slice e)) (he : P.underlying e = some (.slice e2)) (h2 : P.underlying e2 = some (.int .u8)) (hc : P.cellsOf e = 1) (hc2 : P.cellsOf e2 = 1)
    (h : DataW.trod enc P w base spare held fuel t [.slice a len cap] = some x) :
    ∃ ls : List (Option Addr × Nat × List Nat), ls.length = len ∧ len ≤ cap ∧ cap ≤ 9223372036854775807 ∧ Rd w 1 a len (ls.map SL) ∧ ∀ y ∈ ls, y.2.2.length ≤ y.2.1 ∧ (∀ b ∈ y.2.2, b < 256) ∧ Rd w 1 y.1 y.2.2.length (NB y.2.2) :=
  rd_slice1 SL _ ht hc (fun v n y hy => by
    have hv : ∃ A l c, v = .slice A l c := by
      rcases open_slice1 he hc2 hy with ⟨hcs, _⟩ | ⟨ad, l, c, _, _, _, _, _, hcs, _⟩
      · exact ⟨_, _, _, by simpa using hcs⟩
      · exact ⟨_, _, _, by simpa using hcs⟩
    obtain ⟨A, l, c, rfl⟩ := hv
    obtain ⟨bs, rfl, h4, _, h5, h6⟩ := rd_bytes he h2 hc2 hy
    exact ⟨(A, c, bs), rfl, h4, h5, h6⟩) h
end
end Go.Proofs.Ytmfglifjnoilnaa
