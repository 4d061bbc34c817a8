/-
  What the laws of layer 19 say it with: texts cut, the examples.
-/
import Derived.Test.YtenbjndldenkfaaGreatDoorParH
namespace Go.Proofs.YtenbjndldenkfaaGreatDoor
open Go.RowKit Go.Sort

def few400 (q : Tx) : Tx := q.take 400
theorem few400_le (q : Tx) : (few400 q).length ≤ 400 := by unfold few400; simp; omega
theorem Med.of {m : Med} {a b : Tx} {c : List Par} (h1 : m.ty = a) (h2 : m.sub = b) (h3 : m.ps = c) : m = ⟨a, b, c⟩ := by cases m; simp_all
theorem sameQ_self (m : Med) : sameQ m m = true := decide_eq_true ⟨rfl, rfl, rfl⟩
theorem ex19a : medQ [84, 101, 120, 116, 47, 72, 84, 77, 76, 59, 32, 67, 104, 97, 114, 115, 101, 116, 61, 34, 97, 59, 92, 34, 98, 34, 32, 59, 32, 120, 61, 121, 32, 122] = ⟨[116, 101, 120, 116], [104, 116, 109, 108], [([99, 104, 97, 114, 115, 101, 116], [97, 59, 34, 98]), ([120], [121])]⟩ := Med.of (by decide +kernel) (by decide +kernel) (by decide +kernel)
theorem ex19b : medQ [116, 101, 120, 116] = ⟨[116, 101, 120, 116], [112, 108, 97, 105, 110], []⟩ := Med.of (by decide +kernel) (by decide +kernel) (by decide +kernel)
theorem ex19c : medQ [97, 47, 98, 59, 32, 61, 99, 59, 32, 100] = ⟨[97], [98], []⟩ := Med.of (by decide +kernel) (by decide +kernel) (by decide +kernel)

end Go.Proofs.YtenbjndldenkfaaGreatDoor
