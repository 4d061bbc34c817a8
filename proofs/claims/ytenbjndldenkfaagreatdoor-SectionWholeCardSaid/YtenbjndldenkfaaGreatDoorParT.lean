/-
  Texts without blanks at their ends.
-/
import Derived.Test.YtenbjndldenkfaaGreatDoorEngC
import Derived.Test.YtenbjndldenkfaaGreatDoorTy
import Derived.Test.YtenbjndldenkfaaGreatDoorShelf
namespace Go.Proofs.YtenbjndldenkfaaGreatDoor
open Go.RowKit Go.Sort

/-- A blank. -/
abbrev Bl (c : UInt8) : Prop := c = 32 ∨ c = 9
def leftB : Tx → Tx
  | [] => []
  | x :: r => if Bl x then leftB r else x :: r
def rightB (s : Tx) : Tx := (leftB s.reverse).reverse
theorem rightB_snoc (r : Tx) (x : UInt8) : rightB (r ++ [x]) = if Bl x then rightB r else r ++ [x] := by
  unfold rightB
  rw [List.reverse_append]
  show (leftB (x :: r.reverse)).reverse = _
  rw [leftB]
  split <;> simp
/-- The blanks' set lies at a block. -/
def SetB (w : World) (b : Nat) : Prop := Blk w b 178 (Lib.setCells [32, 9])
theorem SetB.cell {w : World} {b : Nat} (h : SetB w b) (x : UInt8) : w.cell? ⟨b, x.toNat, none⟩ = some (.bool (decide (Bl x))) := by
  rw [Blk.cell h x.toNat, Lib.setCells_at]
  congr 2
  rw [Bool.eq_iff_iff]
  simp
theorem contB_spec (b : Nat) (x : UInt8) (w : World) (h : SetB w b) : Calls Tryz.prog 202 #[.pointer (some ⟨b, 0, none⟩), .int .u8 ((x.toNat : Nat) : Int)] w fun e w' => e = .returned (.bool (decide (Bl x))) ∧ w = w' :=
  (Tryz.asciiSet_contains b x _ w (h.cell x)).mono fun e w' ⟨h, hw⟩ => ⟨h, hw.symm⟩

set_option maxRecDepth 100000 in
theorem tleftA_spec (q : Tx) (b : Nat) (w : World) (h : SetB w b) (hq : q.length ≤ 1000000) : Calls Tryz.prog 170 #[encStr q, .pointer (some ⟨b, 0, none⟩)] w fun e w' => e = .returned (encStr (leftB q)) ∧ w = w' := by
  refine VC.calls (nt := 16) (res := #[.tmp 4]) Tryz.func170 rfl Tryz.ntmps170 Tryz.results170 rfl ?_
  refine VC.seq ?_
  refine VC.region ?_
  refine Ops.r (Run.asg rfl) rfl ?_
  refine Ops.nil ?_
  refine thenQ_n ?_
  refine VC.sub [(0, _), (1, _)] (.cons rfl (.cons rfl .nil)) ?_
  refine VC.seq ?_
  refine VC.block ?_
  refine VC.loop (σ := Tx) (fun s => [(0, encStr s), (1, .pointer (some ⟨b, 0, none⟩))]) (fun s wr => leftB s = leftB q ∧ s.length ≤ q.length ∧ w = wr) (fun s => s.length) q (.cons rfl (.cons rfl .nil)) ⟨rfl, Nat.le_refl _, rfl⟩ ?_
  rintro r _ ⟨hr, hrl, rfl⟩
  refine VC.seq ?_
  refine VC.seq ?_
  refine VC.region ?_
  refine Ops.r (Run.mv rfl) rfl ?_
  refine Ops.r (Run.lenT rfl Tryz.underlying9) rfl ?_
  refine Ops.r (Run.bin rfl rfl (Bin.gtrN _ 0)) rfl ?_
  refine Ops.nil ?_
  refine thenQ_n ?_
  refine VC.sub [(0, _), (1, _), (7, _)] (.cons rfl (.cons rfl (.cons rfl .nil))) ?_
  refine VC.condD rfl (fun hc1 => ?_) (fun hc1 => ?_)
  · skip
    obtain ⟨x, r, rfl⟩ : ∃ x r2, r = x :: r2 := by
      cases r with
      | nil => exact absurd hc1 (by simp)
      | cons a r => exact ⟨a, r, rfl⟩
    have hrx : leftB (x :: r) = if Bl x then leftB r else x :: r := rfl
    refine VC.skip ?_
    refine thenQ_n ?_
    refine VC.sub [(0, _), (1, _)] (.cons rfl (.cons rfl .nil)) ?_
    refine VC.block ?_
    refine VC.seq ?_
    refine VC.seq ?_
    refine VC.region ?_
    refine Ops.r (Run.mv rfl) rfl ?_
    refine Ops.r (Run.mv rfl) rfl ?_
    refine Ops.r (Run.indexT 0 rfl rfl Tryz.underlying9 rfl) rfl ?_
    refine Ops.cl (Enters.fn (evs.cons rfl (evs.cons rfl evs.nil)) Tryz.call202) (contB_spec b x _ h) rfl ?_
    rintro e _ ⟨rfl, rfl⟩
    refine ⟨_, rfl, ?_⟩
    refine Ops.r (Run.not rfl) rfl ?_
    refine Ops.nil ?_
    refine thenQ_n ?_
    refine VC.sub [(0, _), (1, _), (12, _)] (.cons rfl (.cons rfl (.cons rfl .nil))) ?_
    refine VC.condB rfl (fun hc2 => ?_) (fun hc2 => ?_)
    · skip
      have hbx : ¬ Bl x := fun h => by rw [decide_eq_true h] at hc2; cases hc2
      refine VC.exit ?_
      refine thenQ_x (blockQ_o rfl (thenQ_x (blockQ_x ?_)))
      refine thenQ_n ?_
      refine VC.sub [(0, _)] (.cons rfl .nil) ?_
      refine VC.seq ?_
      refine VC.region ?_
      refine Ops.r (Run.mv rfl) rfl ?_
      refine Ops.r (Run.asg rfl) rfl ?_
      refine Ops.nil ?_
      refine thenQ_n ?_
      refine VC.sub [(4, _)] (.cons rfl .nil) ?_
      refine VC.ret ?_
      refine end1 rfl ?_
      refine ⟨?_, rfl⟩
      rw [← hr, hrx, if_neg hbx]
    · skip
      have hbx : Bl x := Classical.byContradiction fun h => by rw [decide_eq_false h] at hc2; cases hc2
      refine VC.skip ?_
      refine thenQ_n ?_
      refine VC.sub [(0, _), (1, _)] (.cons rfl (.cons rfl .nil)) ?_
      refine VC.region ?_
      refine Ops.r (Run.mv rfl) rfl ?_
      refine Ops.r (Run.sliceT 1 (x :: r).length rfl Tryz.underlying9 (evB.some_ rfl) evB.none_ (by simp) (by simp)) rfl ?_
      refine Ops.r (Run.asg rfl) rfl ?_
      refine Ops.nil ?_
      refine blockQ_n (thenQ_n ⟨r, (.cons (by simp; rfl) (.cons rfl .nil)), ?_, ?_⟩)
      · skip
        rw [hrx, if_pos hbx] at hr
        exact ⟨hr, by simp at hrl; omega, rfl⟩
      · skip
        simp
  · skip
    refine VC.exit ?_
    refine thenQ_x (thenQ_x (blockQ_x ?_))
    refine thenQ_n ?_
    refine VC.sub [(0, _)] (.cons rfl .nil) ?_
    refine VC.seq ?_
    refine VC.region ?_
    refine Ops.r (Run.mv rfl) rfl ?_
    refine Ops.r (Run.asg rfl) rfl ?_
    refine Ops.nil ?_
    refine thenQ_n ?_
    refine VC.sub [(4, _)] (.cons rfl .nil) ?_
    refine VC.ret ?_
    refine end1 rfl ?_
    refine ⟨?_, rfl⟩
    have : r = [] := by
      cases r with
      | nil => rfl
      | cons a r => exact absurd (by simp) hc1
    subst this
    rw [← hr]
    rfl

set_option maxRecDepth 100000 in
theorem trightA_spec (q : Tx) (b : Nat) (w : World) (h : SetB w b) (hq : q.length ≤ 1000000) : Calls Tryz.prog 171 #[encStr q, .pointer (some ⟨b, 0, none⟩)] w fun e w' => e = .returned (encStr (rightB q)) ∧ w = w' := by
  refine VC.calls (nt := 22) (res := #[.tmp 4]) Tryz.func171 rfl Tryz.ntmps171 Tryz.results171 rfl ?_
  refine VC.seq ?_
  refine VC.region ?_
  refine Ops.r (Run.asg rfl) rfl ?_
  refine Ops.nil ?_
  refine thenQ_n ?_
  refine VC.sub [(0, _), (1, _)] (.cons rfl (.cons rfl .nil)) ?_
  refine VC.seq ?_
  refine VC.block ?_
  refine VC.loop (σ := Tx) (fun s => [(0, encStr s), (1, .pointer (some ⟨b, 0, none⟩))]) (fun s wr => rightB s = rightB q ∧ s.length ≤ q.length ∧ w = wr) (fun s => s.length) q (.cons rfl (.cons rfl .nil)) ⟨rfl, Nat.le_refl _, rfl⟩ ?_
  rintro r _ ⟨hr, hrl, rfl⟩
  refine VC.seq ?_
  refine VC.seq ?_
  refine VC.region ?_
  refine Ops.r (Run.mv rfl) rfl ?_
  refine Ops.r (Run.lenT rfl Tryz.underlying9) rfl ?_
  refine Ops.r (Run.bin rfl rfl (Bin.gtrN _ 0)) rfl ?_
  refine Ops.nil ?_
  refine thenQ_n ?_
  refine VC.sub [(0, _), (1, _), (7, _)] (.cons rfl (.cons rfl (.cons rfl .nil))) ?_
  refine VC.condD rfl (fun hc1 => ?_) (fun hc1 => ?_)
  · skip
    obtain ⟨r, x, rfl⟩ : ∃ r2 x, r = r2 ++ [x] := ⟨r.dropLast, r.getLast (fun h => by subst h; simp at hc1), (List.dropLast_concat_getLast _).symm⟩
    have hrx := rightB_snoc r x
    have hlx : (r ++ [x]).length = r.length + 1 := by simp
    refine VC.skip ?_
    refine thenQ_n ?_
    refine VC.sub [(0, _), (1, _)] (.cons rfl (.cons rfl .nil)) ?_
    refine VC.block ?_
    refine VC.seq ?_
    refine VC.seq ?_
    refine VC.region ?_
    refine Ops.r (Run.mv rfl) rfl ?_
    refine Ops.r (Run.mv rfl) rfl ?_
    refine Ops.r (Run.mv rfl) rfl ?_
    refine Ops.r (Run.lenT rfl Tryz.underlying9) rfl ?_
    refine Ops.r (Run.bin rfl rfl (Bin.subN (r ++ [x]).length 1 (by omega) (by simp [bmax]; omega))) rfl ?_
    refine Ops.r (Run.indexT _ rfl rfl Tryz.underlying9 (show (r ++ [x])[(r ++ [x]).length - 1]? = some x by rw [hlx]; simp)) rfl ?_
    refine Ops.cl (Enters.fn (evs.cons rfl (evs.cons rfl evs.nil)) Tryz.call202) (contB_spec b x _ h) rfl ?_
    rintro e _ ⟨rfl, rfl⟩
    refine ⟨_, rfl, ?_⟩
    refine Ops.r (Run.not rfl) rfl ?_
    refine Ops.nil ?_
    refine thenQ_n ?_
    refine VC.sub [(0, _), (1, _), (15, _)] (.cons rfl (.cons rfl (.cons rfl .nil))) ?_
    refine VC.condB rfl (fun hc2 => ?_) (fun hc2 => ?_)
    · skip
      have hbx : ¬ Bl x := fun h => by rw [decide_eq_true h] at hc2; cases hc2
      refine VC.exit ?_
      refine thenQ_x (blockQ_o rfl (thenQ_x (blockQ_x ?_)))
      refine thenQ_n ?_
      refine VC.sub [(0, _)] (.cons rfl .nil) ?_
      refine VC.seq ?_
      refine VC.region ?_
      refine Ops.r (Run.mv rfl) rfl ?_
      refine Ops.r (Run.asg rfl) rfl ?_
      refine Ops.nil ?_
      refine thenQ_n ?_
      refine VC.sub [(4, _)] (.cons rfl .nil) ?_
      refine VC.ret ?_
      refine end1 rfl ?_
      refine ⟨?_, rfl⟩
      rw [← hr, hrx, if_neg hbx]
    · skip
      have hbx : Bl x := Classical.byContradiction fun h => by rw [decide_eq_false h] at hc2; cases hc2
      refine VC.skip ?_
      refine thenQ_n ?_
      refine VC.sub [(0, _), (1, _)] (.cons rfl (.cons rfl .nil)) ?_
      refine VC.region ?_
      refine Ops.r (Run.mv rfl) rfl ?_
      refine Ops.r (Run.mv rfl) rfl ?_
      refine Ops.r (Run.lenT rfl Tryz.underlying9) rfl ?_
      refine Ops.r (Run.bin rfl rfl (Bin.subN (r ++ [x]).length 1 (by omega) (by simp [bmax]; omega))) rfl ?_
      refine Ops.r (Run.sliceT 0 ((r ++ [x]).length - 1) rfl Tryz.underlying9 evB.none_ (evB.some_ rfl) (by omega) (show (r ++ [x]).length - 1 ≤ (r ++ [x]).length by omega)) rfl ?_
      refine Ops.r (Run.asg rfl) rfl ?_
      refine Ops.nil ?_
      refine blockQ_n (thenQ_n ⟨r, (.cons (by rw [show (((r ++ [x]).drop 0).take ((r ++ [x]).length - 1 - 0)) = r by rw [hlx]; simp]; rfl) (.cons rfl .nil)), ?_, ?_⟩)
      · skip
        rw [hrx, if_pos hbx] at hr
        exact ⟨hr, by omega, rfl⟩
      · skip
        simp
  · skip
    refine VC.exit ?_
    refine thenQ_x (thenQ_x (blockQ_x ?_))
    refine thenQ_n ?_
    refine VC.sub [(0, _)] (.cons rfl .nil) ?_
    refine VC.seq ?_
    refine VC.region ?_
    refine Ops.r (Run.mv rfl) rfl ?_
    refine Ops.r (Run.asg rfl) rfl ?_
    refine Ops.nil ?_
    refine thenQ_n ?_
    refine VC.sub [(4, _)] (.cons rfl .nil) ?_
    refine VC.ret ?_
    refine end1 rfl ?_
    refine ⟨?_, rfl⟩
    have : r = [] := by
      cases r with
      | nil => rfl
      | cons a r => exact absurd (by simp) hc1
    subst this
    rw [← hr]
    rfl

end Go.Proofs.YtenbjndldenkfaaGreatDoor
