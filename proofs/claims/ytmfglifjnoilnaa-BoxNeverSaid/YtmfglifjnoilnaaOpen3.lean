/-
  Structs as arguments: their fields, one by one.
-/
import Derived.Test.YtmfglifjnoilnaaStr
import Derived.Test.YtmfglifjnoilnaaFlagA
namespace Go.Proofs.Ytmfglifjnoilnaa
open Go.RowKit Go.ChangeShapes Go.WideShapes Go.Deep
section
variable {H : Type} {enc : TypeId × Value → H} {P : Program} {w : World} {base : Nat} {spare : Nat → Bool} {held : Bool} {n : Nat} {cs : List Value} {x : DataW H × List MemPlace} {t e : TypeId}
theorem open_field {fs : Array Field} (ht : P.underlying t = some (.struct fs)) (h : DataW.trod enc P w base spare held n t cs = some x) :
    cs.length = P.cellsOf t ∧ ∃ n', ∀ (i : Nat) (f : Field), fs[i]? = some f → ∃ y, DataW.trod enc P w base spare held n' f.type ((cs.drop f.offset).take (P.cellsOf f.type)) = some y := by
  obtain ⟨xs, n', _, _, hl, hxl, hf⟩ := DataW.trod_struct ht h
  refine ⟨hl, n', fun i f hif => ?_⟩
  have hi : i < xs.length := by rw [hxl]; exact (Array.getElem?_eq_some_iff.1 hif).1
  exact ⟨xs[i], (hf i f hif).trans (List.getElem?_eq_getElem hi)⟩
theorem int_form {k : IntKind} (ht : P.underlying t = some (.int k)) (h : DataW.trod enc P w base spare held n t cs = some x) : ∃ z, cs = [.int k z] ∧ (Lit.int k z).wf = true := by
  obtain ⟨z, h1, _, h2⟩ := DataW.trod_int ht h
  exact ⟨z, h1, h2⟩
theorem str_form (ht : P.underlying t = some .string) (h : DataW.trod enc P w base spare held n t cs = some x) : ∃ q : Tx, cs = [encStr q] ∧ q.length ≤ 9223372036854775807 := by
  obtain ⟨s, h1, _, h2⟩ := DataW.trod_string ht h
  exact ⟨s.data.toList, h1, by simpa [maxLen] using h2⟩
theorem slice_form (ht : P.underlying t = some (.slice e)) (h : DataW.trod enc P w base spare held n t cs = some x) : ∃ A l c, cs = [.slice A l c] := by
  rcases open_slice ht h with ⟨hcs, _⟩ | ⟨ad, l, c, _, _, _, _, hcs, _⟩
  · exact ⟨_, _, _, hcs⟩
  · exact ⟨_, _, _, hcs⟩
theorem txs_form (ht : P.underlying t = some (.slice e)) (he : P.underlying e = some .string) (hc : P.cellsOf e = 1) (h : DataW.trod enc P w base spare held n t cs = some x) :
    ∃ A c, ∃ l : List Tx, cs = [.slice A l.length c] ∧ l.length ≤ c ∧ c ≤ 9223372036854775807 ∧ Rd w 1 A l.length (SB l) := by
  obtain ⟨A, len, c, rfl⟩ := slice_form ht h
  obtain ⟨l, rfl, h1, h2, h3⟩ := rd_txs ht he hc h
  exact ⟨A, c, l, rfl, h1, h2, h3⟩
theorem ints_form (ht : P.underlying t = some (.slice e)) (he : P.underlying e = some (.int .i64)) (hc : P.cellsOf e = 1) (h : DataW.trod enc P w base spare held n t cs = some x) :
    ∃ A c, ∃ l : List Int, cs = [.slice A l.length c] ∧ l.length ≤ c ∧ c ≤ 9223372036854775807 ∧ Rd w 1 A l.length (IB l) := by
  obtain ⟨A, len, c, rfl⟩ := slice_form ht h
  obtain ⟨l, rfl, h1, h2, h3, _⟩ := rd_ints ht he hc h
  exact ⟨A, c, l, rfl, h1, h2, h3⟩
end
end Go.Proofs.Ytmfglifjnoilnaa
