/-
  The chapter's examples of layer 26, on plain boxes.
-/
import Derived.Test.YtmfglifjnoilnaaBoxH
namespace Go.Proofs.Ytmfglifjnoilnaa
open Go.RowKit

theorem may_of {v n : Int} {l : List MsgP} (h1 : 1 ≤ v ∧ v ≤ 2147483647 ∧ 1 ≤ n ∧ n ≤ 2147483648 ∧ l.length ≤ 128)
    (h2 : ∀ j (h : j < l.length), prevU l j < l[j].uid ∧ l[j].uid < n ∧ DateOk l[j].sec l[j].zone ∧ 0 ≤ l[j].size ∧ l[j].blob ≠ 0) (h3 : ∀ m ∈ l, checkF m.flags) : mayB ⟨v, n, l⟩ :=
  ⟨h1, fun j hj => ⟨(h2 j hj).1, (h2 j hj).2.1, (h2 j hj).2.2.1, (h2 j hj).2.2.2.1, (h2 j hj).2.2.2.2, h3 _ (List.getElem_mem hj)⟩⟩
/-- A message of no flags. -/
def m0 (b : Nat) : MsgP := ⟨0, 0, 0, 0, b, []⟩
def m1 (u : Int) (b : Nat) (f : List Tx) : MsgP := ⟨u, 0, 0, 0, b, f⟩
theorem checkF_del : checkF [deletedF] := checkF_iff.2 ⟨by decide +kernel, by decide, by decide +kernel⟩
theorem ok0 (b : Nat) (hb : b ≠ 0) : MsgOk (m0 b) := ⟨show DateOk 0 0 by decide, Int.le_refl 0, hb, checkF_nil⟩
theorem may0 : mayB ⟨7, 1, []⟩ := may_of (by decide) (by decide) (by simp)
theorem may1 : mayB ⟨7, 2, [m1 1 1 []]⟩ := may_of (by decide) (by decide) (by simp [m1, checkF_nil])
theorem may2 : mayB ⟨7, 3, [m1 1 1 [], m1 2 2 []]⟩ := may_of (by decide) (by decide) (by simp [m1, checkF_nil])
theorem may3 : mayB ⟨7, 3, [m1 1 1 [deletedF], m1 2 2 []]⟩ := may_of (by decide) (by decide) (by simp [m1, checkF_nil, checkF_del])
theorem may4 : mayB ⟨7, 3, [m1 2 2 []]⟩ := may_of (by decide) (by decide) (by simp [m1, checkF_nil])
theorem app1 : appendB ⟨7, 1, []⟩ (m0 1) = .ok ⟨7, 2, [m1 1 1 []]⟩ := by
  unfold appendB
  rw [if_neg (by rintro (h | h); exact h may0; exact h (ok0 1 (by decide))), if_neg (by decide), if_neg (by decide)]
  rfl
theorem app2 : appendB ⟨7, 2, [m1 1 1 []]⟩ (m0 2) = .ok ⟨7, 3, [m1 1 1 [], m1 2 2 []]⟩ := by
  unfold appendB
  rw [if_neg (by rintro (h | h); exact h may1; exact h (ok0 2 (by decide))), if_neg (by decide), if_neg (by decide)]
  rfl
theorem app3 : appendB ⟨7, 3, [m1 2 2 []]⟩ (m0 3) = .ok ⟨7, 4, [m1 2 2 [], m1 3 3 []]⟩ := by
  unfold appendB
  rw [if_neg (by rintro (h | h); exact h may4; exact h (ok0 3 (by decide))), if_neg (by decide), if_neg (by decide)]
  rfl
/-- '\deleted', as it comes. -/
def smallDel : Tx := [92, 100, 101, 108, 101, 116, 101, 100]
theorem chgF : changeF [] 1 [smallDel] = .ok [deletedF] := by
  unfold changeF
  rw [if_neg (by rintro (h | h | h); exact h checkF_nil; omega; omega), show toldL [smallDel] = some [deletedF] by decide +kernel]
  show normF ([deletedF] ++ []) = _
  rw [List.append_nil]
  exact checkF_del
theorem chg1 : changeB ⟨7, 3, [m1 1 1 [], m1 2 2 []]⟩ 1 1 [smallDel] = .ok ⟨7, 3, [m1 1 1 [deletedF], m1 2 2 []]⟩ := by
  unfold changeB
  rw [if_neg (fun h => h may2), if_neg (by decide)]
  show (match changeF [] 1 [smallDel] with | .error e => .error e | .ok r => .ok ⟨7, 3, [m1 1 1 [], m1 2 2 []].set 0 { m1 1 1 [] with flags := r }⟩ : Except Nat BoxV) = _
  rw [chgF]
  rfl
theorem go1 : marksQ (goesQ true []) 0 [m1 1 1 [deletedF], m1 2 2 []] = [1] := by decide +kernel
theorem go2 : ([m1 1 1 [deletedF], m1 2 2 []].filter fun m => !goesQ true [] m) = [m1 2 2 []] := by decide +kernel
end Go.Proofs.Ytmfglifjnoilnaa
