/-
  'ParamReads': the media of any text is the document's; so is whether any is a token.
-/
import Derived.Test.YtenbjndldenkfaaGreatDoorParL0
namespace Go.Proofs.YtenbjndldenkfaaGreatDoor
open Go.RowKit Go.Sort


theorem medQ_count (q : Tx) : (medQ q).ps.length ≤ (pcs false q).length := by
  unfold medQ
  split
  · simp [med0]
  · rename_i p ps h
    unfold medOf
    split
    · have := pars_count ps
      show (ps.flatMap parQ).length ≤ _
      rw [h, List.length_cons]
      omega
    · show ([] : List Par).length ≤ _
      simp

end Go.Proofs.YtenbjndldenkfaaGreatDoor
