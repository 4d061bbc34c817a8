/-
  Lemmas on the way, joined: ParU, SeqP, ParV, ParW, ParD, ParE, Eng15, ParX, SeqC, ParP, ParR, ParB, ParC, ParE2, ParF, ParL0, ParLR, HeadP, PartP, AdP, SecP.
-/
import Derived.Lib.Bytealg
import Derived.Lib.SlicesCompact
import Derived.Laws.RangeString
import Derived.Scope
import Derived.ControlIn
import Derived.Lib.Builder
import Derived.Lib.LastIndexByte
import Derived.Test.YtenbjndldenkfaaGreatDoorPk0
namespace Go.Proofs.YtenbjndldenkfaaGreatDoor
open Go.RowKit Go.Sort

theorem frm_alloc (w : World) (o : Obj) : Frm [] w (w.alloc o) := (Frm.refl [] w).alloc o
theorem mkset_spec (w : World) : Calls Tryz.prog 169 #[encStr [32, 9]] w fun e w' => e = .returned (.tuple #[.agg (Lib.setCells [32, 9]), .bool true]) ∧ Frm [] w w' :=
  (Tryz.strings_makeASCIISet (fun w => (zero178 w).trans (by kernel_rfl)) ⟨#[32, 9]⟩ w (by decide) (by
    intro j b hb
    match j, hb with
    | 0, hb => cases hb; decide
    | 1, hb => cases hb; decide
    | j + 2, hb => simp at hb)).mono fun e w' ⟨h, hw⟩ => ⟨h, by rw [hw]; exact frm_alloc _ _⟩
theorem set_one : ∀ v ∈ (Lib.setCells [32, 9]).toList, v.oneCell' = true := by
  have h := Lib.setCells_one [32, 9]
  intro v hv
  rw [Array.all_eq_true] at h
  obtain ⟨i, hi, rfl⟩ := Array.getElem_of_mem (Array.mem_toList_iff.1 hv)
  exact h i hi


theorem leftB_le : ∀ q : Tx, (leftB q).length ≤ q.length
  | [] => Nat.le_refl _
  | x :: r => by
    have := leftB_le r
    unfold leftB
    split
    · simp; omega
    · exact Nat.le_refl _
theorem rightB_le (q : Tx) : (rightB q).length ≤ q.length := by
  unfold rightB
  rw [List.length_reverse]
  exact Nat.le_trans (leftB_le _) (by simp)

set_option maxRecDepth 100000 in
theorem trimS_spec (q : Tx) (w : World) (hq : q.length ≤ 1000000) : Calls Tryz.prog 125 #[encStr q, encStr [32, 9]] w fun e w' => e = .returned (encStr (leftB (rightB q))) ∧ Frm [] w w' := by
  refine VC.calls (nt := 43) (res := #[.tmp 4]) Tryz.func125 rfl Tryz.ntmps125 Tryz.results125 rfl ?_
  refine VC.seq ?_
  refine VC.region ?_
  refine Ops.r (Run.asg rfl) rfl ?_
  refine Ops.nil ?_
  refine thenQ_n ?_
  refine VC.sub [(0, _), (1, _)] (.cons rfl (.cons rfl .nil)) ?_
  refine VC.seq ?_
  refine VC.seq ?_
  refine VC.split1 [(0, _), (1, _)] (.cons rfl (.cons rfl .nil)) 12 (.bool (decide (q = []))) ?_ ?_
  · refine VC.region ?_
    refine Ops.r (Run.mv rfl) rfl ?_
    refine Ops.r (Run.eqlT rfl rfl) rfl ?_
    by_cases hs8 : q = []
    · skip
      refine Ops.r (Run.mv rfl) rfl ?_
      refine Ops.sk rfl au rfl ?_
      refine Ops.sk rfl au rfl ?_
      refine Ops.r (Run.pickT rfl rfl au) rfl ?_
      refine Ops.nil ?_
      refine thenQ_n ⟨(.cons (congrArg (fun b => some (Value.bool b)) (Eq.symm (by first | exact decide_eq_true ‹_› | exact decide_eq_false ‹_›))) (.cons rfl (.cons rfl .nil))), rfl⟩
    · skip
      refine Ops.r (Run.mv rfl) rfl ?_
      refine Ops.rg rfl au (Run.mv rfl) rfl ?_
      refine Ops.rg rfl au (Run.eqlT rfl rfl) rfl ?_
      refine Ops.r (Run.pickF rfl rfl au) rfl ?_
      refine Ops.nil ?_
      refine thenQ_n ⟨(.cons (congrArg (fun b => some (Value.bool b)) (Eq.symm (by first | exact decide_eq_true ‹_› | exact decide_eq_false ‹_›))) (.cons rfl (.cons rfl .nil))), rfl⟩
  · intro Γ hΓ
    refine thenQ_n (VC.sub _ hΓ ?_)
    refine VC.condD rfl (fun hc1 => ?_) (fun hc1 => ?_)
    · skip
      refine VC.seq ?_
      refine VC.region ?_
      refine Ops.r (Run.mv rfl) rfl ?_
      refine Ops.r (Run.asg rfl) rfl ?_
      refine Ops.nil ?_
      refine thenQ_n ?_
      refine VC.sub [(4, _)] (.cons rfl .nil) ?_
      refine VC.ret ?_
      refine thenQ_r (end1 rfl ?_)
      exact ⟨by rw [hc1]; rfl, Frm.refl _ _⟩
    · skip
      refine VC.skip ?_
      refine thenQ_n ?_
      refine VC.sub [(0, _), (1, _)] (.cons rfl (.cons rfl .nil)) ?_
      refine VC.seq ?_
      refine VC.seq ?_
      refine VC.split1 [(0, _), (1, _)] (.cons rfl (.cons rfl .nil)) 21 (.bool (decide (False))) ?_ ?_
      · refine VC.region ?_
        refine Ops.r (Run.mv rfl) rfl ?_
        refine Ops.r (Run.lenT rfl Tryz.underlying9) rfl ?_
        refine Ops.r (Run.bin rfl rfl (Bin.eqlN _ 1)) rfl ?_
        refine Ops.r (Run.mv rfl) rfl ?_
        refine Ops.sk rfl au rfl ?_
        refine Ops.sk rfl au rfl ?_
        refine Ops.sk rfl au rfl ?_
        refine Ops.r (Run.pickF rfl rfl au) rfl ?_
        refine Ops.nil ?_
        refine thenQ_n ⟨(.cons (congrArg (fun b => some (Value.bool b)) (by decide)) (.cons rfl (.cons rfl .nil))), rfl⟩
      · intro Γ hΓ
        refine thenQ_n (VC.sub _ hΓ ?_)
        refine VC.condF rfl (rfl) ?_
        refine VC.skip ?_
        refine thenQ_n ?_
        refine VC.sub [(0, _), (1, _)] (.cons rfl (.cons rfl .nil)) ?_
        refine VC.seq ?_
        refine VC.seq ?_
        refine VC.region ?_
        refine Ops.r (Run.mv rfl) rfl ?_
        refine Ops.cl (Enters.fn (evs.cons rfl evs.nil) Tryz.call169) (mkset_spec _) rfl ?_
        rintro e w1 ⟨rfl, hf1⟩
        refine ⟨_, rfl, ?_⟩
        refine Ops.r (Run.mv rfl) rfl ?_
        refine Ops.r (Run.extract rfl rfl) rfl ?_
        refine Ops.r (Run.extract rfl rfl) rfl ?_
        refine Ops.m (Does.alloc zero178) rfl ?_
        rintro _ w2 ⟨rfl, hF2⟩
        have hb5 := hF2.blk
        have K := hf1.trans hF2.frm (by simp)
        have hs5 := hf1.size
        generalize hg5 : w1.heap.size = g5 at hb5 hs5 ⊢
        refine Ops.st (Acts.storeA rfl rfl Tryz.sizeOf178 hb5 rfl set_one) ?_
        rintro w3 ⟨hb5n, hf3, _⟩
        have hb5 : SetB w3 g5 := hb5n
        have K := Frm.own K hf3 (fun y hy => by simp at hy; omega)
        refine Ops.r (Run.asg rfl) rfl ?_
        refine Ops.nil ?_
        refine thenQ_n ?_
        refine VC.sub [(0, _), (1, _), (5, _), (6, _)] (.cons rfl (.cons rfl (.cons rfl (.cons rfl .nil)))) ?_
        refine VC.seq ?_
        refine VC.region ?_
        refine Ops.r (Run.mv rfl) rfl ?_
        refine Ops.nil ?_
        refine thenQ_n ?_
        refine VC.sub [(0, _), (1, _), (5, _), (34, _)] (.cons rfl (.cons rfl (.cons rfl (.cons rfl .nil)))) ?_
        refine VC.condT rfl (rfl) ?_
        refine VC.seq ?_
        refine VC.region ?_
        refine Ops.r (Run.mv rfl) rfl ?_
        refine Ops.cl (Enters.fn (evs.cons rfl (evs.cons rfl evs.nil)) Tryz.call171) (trightA_spec q g5 _ hb5 hq) rfl ?_
        rintro e _ ⟨rfl, rfl⟩
        refine ⟨_, rfl, ?_⟩
        refine Ops.cl (Enters.fn (evs.cons rfl (evs.cons rfl evs.nil)) Tryz.call170) (tleftA_spec (rightB q) g5 _ hb5 (Nat.le_trans (rightB_le q) hq)) rfl ?_
        rintro e _ ⟨rfl, rfl⟩
        refine ⟨_, rfl, ?_⟩
        refine Ops.r (Run.asg rfl) rfl ?_
        refine Ops.nil ?_
        refine thenQ_n ?_
        refine VC.sub [(4, _)] (.cons rfl .nil) ?_
        refine VC.ret ?_
        refine thenQ_r (end1 rfl ?_)
        exact ⟨rfl, K⟩

set_option maxRecDepth 100000 in
theorem trimLS_spec (q : Tx) (w : World) (hq : q.length ≤ 1000000) : Calls Tryz.prog 209 #[encStr q, encStr [32, 9]] w fun e w' => e = .returned (encStr (leftB q)) ∧ Frm [] w w' := by
  refine VC.calls (nt := 37) (res := #[.tmp 4]) Tryz.func209 rfl Tryz.ntmps209 Tryz.results209 rfl ?_
  refine VC.seq ?_
  refine VC.region ?_
  refine Ops.r (Run.asg rfl) rfl ?_
  refine Ops.nil ?_
  refine thenQ_n ?_
  refine VC.sub [(0, _), (1, _)] (.cons rfl (.cons rfl .nil)) ?_
  refine VC.seq ?_
  refine VC.seq ?_
  refine VC.split1 [(0, _), (1, _)] (.cons rfl (.cons rfl .nil)) 12 (.bool (decide (q = []))) ?_ ?_
  · refine VC.region ?_
    refine Ops.r (Run.mv rfl) rfl ?_
    refine Ops.r (Run.eqlT rfl rfl) rfl ?_
    by_cases hs8 : q = []
    · skip
      refine Ops.r (Run.mv rfl) rfl ?_
      refine Ops.sk rfl au rfl ?_
      refine Ops.sk rfl au rfl ?_
      refine Ops.r (Run.pickT rfl rfl au) rfl ?_
      refine Ops.nil ?_
      refine thenQ_n ⟨(.cons (congrArg (fun b => some (Value.bool b)) (Eq.symm (by first | exact decide_eq_true ‹_› | exact decide_eq_false ‹_›))) (.cons rfl (.cons rfl .nil))), rfl⟩
    · skip
      refine Ops.r (Run.mv rfl) rfl ?_
      refine Ops.rg rfl au (Run.mv rfl) rfl ?_
      refine Ops.rg rfl au (Run.eqlT rfl rfl) rfl ?_
      refine Ops.r (Run.pickF rfl rfl au) rfl ?_
      refine Ops.nil ?_
      refine thenQ_n ⟨(.cons (congrArg (fun b => some (Value.bool b)) (Eq.symm (by first | exact decide_eq_true ‹_› | exact decide_eq_false ‹_›))) (.cons rfl (.cons rfl .nil))), rfl⟩
  · intro Γ hΓ
    refine thenQ_n (VC.sub _ hΓ ?_)
    refine VC.condD rfl (fun hc1 => ?_) (fun hc1 => ?_)
    · skip
      refine VC.seq ?_
      refine VC.region ?_
      refine Ops.r (Run.mv rfl) rfl ?_
      refine Ops.r (Run.asg rfl) rfl ?_
      refine Ops.nil ?_
      refine thenQ_n ?_
      refine VC.sub [(4, _)] (.cons rfl .nil) ?_
      refine VC.ret ?_
      refine thenQ_r (end1 rfl ?_)
      exact ⟨by rw [hc1]; rfl, Frm.refl _ _⟩
    · skip
      refine VC.skip ?_
      refine thenQ_n ?_
      refine VC.sub [(0, _), (1, _)] (.cons rfl (.cons rfl .nil)) ?_
      refine VC.seq ?_
      refine VC.seq ?_
      refine VC.split1 [(0, _), (1, _)] (.cons rfl (.cons rfl .nil)) 21 (.bool (decide (False))) ?_ ?_
      · refine VC.region ?_
        refine Ops.r (Run.mv rfl) rfl ?_
        refine Ops.r (Run.lenT rfl Tryz.underlying9) rfl ?_
        refine Ops.r (Run.bin rfl rfl (Bin.eqlN _ 1)) rfl ?_
        refine Ops.r (Run.mv rfl) rfl ?_
        refine Ops.sk rfl au rfl ?_
        refine Ops.sk rfl au rfl ?_
        refine Ops.sk rfl au rfl ?_
        refine Ops.r (Run.pickF rfl rfl au) rfl ?_
        refine Ops.nil ?_
        refine thenQ_n ⟨(.cons (congrArg (fun b => some (Value.bool b)) (by decide)) (.cons rfl (.cons rfl .nil))), rfl⟩
      · intro Γ hΓ
        refine thenQ_n (VC.sub _ hΓ ?_)
        refine VC.condF rfl (rfl) ?_
        refine VC.skip ?_
        refine thenQ_n ?_
        refine VC.sub [(0, _), (1, _)] (.cons rfl (.cons rfl .nil)) ?_
        refine VC.seq ?_
        refine VC.seq ?_
        refine VC.region ?_
        refine Ops.r (Run.mv rfl) rfl ?_
        refine Ops.cl (Enters.fn (evs.cons rfl evs.nil) Tryz.call169) (mkset_spec _) rfl ?_
        rintro e w1 ⟨rfl, hf1⟩
        refine ⟨_, rfl, ?_⟩
        refine Ops.r (Run.mv rfl) rfl ?_
        refine Ops.r (Run.extract rfl rfl) rfl ?_
        refine Ops.r (Run.extract rfl rfl) rfl ?_
        refine Ops.m (Does.alloc zero178) rfl ?_
        rintro _ w2 ⟨rfl, hF2⟩
        have hb5 := hF2.blk
        have K := hf1.trans hF2.frm (by simp)
        have hs5 := hf1.size
        generalize hg5 : w1.heap.size = g5 at hb5 hs5 ⊢
        refine Ops.st (Acts.storeA rfl rfl Tryz.sizeOf178 hb5 rfl set_one) ?_
        rintro w3 ⟨hb5n, hf3, _⟩
        have hb5 : SetB w3 g5 := hb5n
        have K := Frm.own K hf3 (fun y hy => by simp at hy; omega)
        refine Ops.r (Run.asg rfl) rfl ?_
        refine Ops.nil ?_
        refine thenQ_n ?_
        refine VC.sub [(0, _), (1, _), (5, _), (6, _)] (.cons rfl (.cons rfl (.cons rfl (.cons rfl .nil)))) ?_
        refine VC.seq ?_
        refine VC.region ?_
        refine Ops.r (Run.mv rfl) rfl ?_
        refine Ops.nil ?_
        refine thenQ_n ?_
        refine VC.sub [(0, _), (1, _), (5, _), (31, _)] (.cons rfl (.cons rfl (.cons rfl (.cons rfl .nil)))) ?_
        refine VC.condT rfl (rfl) ?_
        refine VC.seq ?_
        refine VC.region ?_
        refine Ops.r (Run.mv rfl) rfl ?_
        refine Ops.cl (Enters.fn (evs.cons rfl (evs.cons rfl evs.nil)) Tryz.call170) (tleftA_spec q g5 _ hb5 hq) rfl ?_
        rintro e _ ⟨rfl, rfl⟩
        refine ⟨_, rfl, ?_⟩
        refine Ops.r (Run.asg rfl) rfl ?_
        refine Ops.nil ?_
        refine thenQ_n ?_
        refine VC.sub [(4, _)] (.cons rfl .nil) ?_
        refine VC.ret ?_
        refine thenQ_r (end1 rfl ?_)
        exact ⟨rfl, K⟩

end Go.Proofs.YtenbjndldenkfaaGreatDoor

namespace Go.Proofs.YtenbjndldenkfaaGreatDoor
open Go.RowKit
/-! ### a text cut at a sign -/
theorem idxB_cases : ∀ (l : Tx) (c : UInt8), (Lib.indexByte l c = -1 ∧ c ∉ l) ∨ ∃ a b, l = a ++ c :: b ∧ c ∉ a ∧ Lib.indexByte l c = ((a.length : Nat) : Int)
  | [], c => .inl ⟨rfl, by simp⟩
  | x :: r, c => by
    unfold Lib.indexByte
    by_cases h : x = c
    · subst h
      exact .inr ⟨[], r, rfl, by simp, by simp⟩
    · have hb : (x == c) = false := by simpa using h
      rw [hb]
      rcases idxB_cases r c with ⟨h1, h2⟩ | ⟨a, b, rfl, h2, h3⟩
      · left
        refine ⟨by simp [h1], ?_⟩
        simp only [List.mem_cons, not_or]
        exact ⟨fun e => h e.symm, h2⟩
      · right
        refine ⟨x :: a, b, rfl, ?_, ?_⟩
        · simp only [List.mem_cons, not_or]
          exact ⟨fun e => h e.symm, h2⟩
        · rw [h3]
          have : ¬ ((a.length : Nat) : Int) = -1 := by omega
          simp [this]
/-- What is ahead of a sign. -/
def befF (c : UInt8) : Tx → Tx
  | [] => []
  | x :: r => if x = c then [] else x :: befF c r
/-- What is behind it. -/
def aftF (c : UInt8) : Tx → Tx
  | [] => []
  | x :: r => if x = c then r else aftF c r
theorem bef_no {c : UInt8} : ∀ {s : Tx}, c ∉ s → befF c s = s ∧ aftF c s = []
  | [], _ => ⟨rfl, rfl⟩
  | x :: r, h => by
    simp only [List.mem_cons, not_or] at h
    have hx : x ≠ c := fun e => h.1 e.symm
    simp [befF, aftF, hx, bef_no h.2]
theorem bef_at {c : UInt8} : ∀ {a b : Tx}, c ∉ a → befF c (a ++ c :: b) = a ∧ aftF c (a ++ c :: b) = b
  | [], b, _ => by simp [befF, aftF]
  | x :: r, b, h => by
    simp only [List.mem_cons, not_or] at h
    have hx : x ≠ c := fun e => h.1 e.symm
    simp [befF, aftF, hx, bef_at (b := b) h.2]
/-- A text's words. -/
def splitF (c : UInt8) : Tx → List Tx
  | [] => [[]]
  | x :: r => if x = c then [] :: splitF c r else match splitF c r with
    | [] => [[x]]
    | p :: ps => (x :: p) :: ps
theorem bef_len (c : UInt8) : ∀ s : Tx, (befF c s).length ≤ s.length ∧ (aftF c s).length ≤ s.length
  | [] => ⟨Nat.le_refl _, Nat.le_refl _⟩
  | x :: r => by
    have := bef_len c r
    unfold befF aftF
    split <;> simp <;> omega
/-! ### numbers and spans -/
/-- A decimal number, behind what is read of it. -/
def decN (n : Nat) (s : Tx) : Nat := s.foldl (fun n x => 10 * n + (x.toNat - 48)) n
abbrev Dig (x : UInt8) : Prop := 48 ≤ x.toNat ∧ x.toNat ≤ 57
def numQ (s : Tx) : Int :=
  if s = [42] then 0 else if s = [] ∨ 10 < s.length ∨ s.head? = some 48 then -1
  else if (∀ x ∈ s, Dig x) ∧ decN 0 s ≤ 2147483647 then ((decN 0 s : Nat) : Int) else -1
/-- A span: its two ends. -/
abbrev Sp := Int × Int
def spanQ (w : Tx) : Sp := (numQ (befF 58 w), if 58 ∈ w then numQ (aftF 58 w) else numQ (befF 58 w))
def GoodW (w : Tx) : Prop := 0 ≤ (spanQ w).1 ∧ 0 ≤ (spanQ w).2
instance (w : Tx) : Decidable (GoodW w) := by unfold GoodW; infer_instance
def ParseOk (s : Tx) : Prop := (∀ w ∈ splitF 44 s, GoodW w) ∧ (splitF 44 s).length ≤ 64
instance (s : Tx) : Decidable (ParseOk s) := by unfold ParseOk; infer_instance
/-- A span's less and greater end, where 0 is the greatest. -/
def endsQ (x : Sp) (g : Int) : Int × Int :=
  let a := if x.1 = 0 then g else x.1
  let b := if x.2 = 0 then g else x.2
  (if b < a then b else a, if a < b then b else a)
def InQ (x : Sp) (g n : Int) : Prop := (endsQ x g).1 ≤ n ∧ n ≤ (endsQ x g).2
instance (x : Sp) (g n : Int) : Decidable (InQ x g n) := by unfold InQ; infer_instance
def hasQ (l : List Sp) (n g : Int) : Prop := 0 < n ∧ 0 < g ∧ ∃ x ∈ l, InQ x g n
instance (l : List Sp) (n g : Int) : Decidable (hasQ l n g) := by unfold hasQ; infer_instance
def BadP (many : Int) (x : Sp) : Prop := many < 1 ∨ many < (endsQ x many).2 ∨ (endsQ x many).1 < 1
instance (many : Int) (x : Sp) : Decidable (BadP many x) := by unfold BadP; infer_instance
/-- Is a number right at its place? -/
def RiseAt (us : List Int) (i : Nat) : Prop := 1 ≤ us.getD i 0 ∧ (0 < i → us.getD (i - 1) 0 < us.getD i 0)
instance (us : List Int) (i : Nat) : Decidable (RiseAt us i) := by unfold RiseAt; infer_instance
/-- Do numbers rise, from 1 on? -/
def RiseQ (us : List Int) : Prop := ∀ i, i < us.length → RiseAt us i
instance (us : List Int) : Decidable (RiseQ us) := by unfold RiseQ; infer_instance
end Go.Proofs.YtenbjndldenkfaaGreatDoor

namespace Go.Proofs.YtenbjndldenkfaaGreatDoor
open Go.RowKit Go.Sort

/-- The signs that a token may not have. -/
def spcQ : Tx := [40, 41, 60, 62, 64, 44, 59, 58, 92, 34, 47, 91, 93, 63, 61]
def TokC (c : UInt8) : Prop := 33 ≤ c.toNat ∧ c.toNat ≤ 126 ∧ c ∉ spcQ
instance (c : UInt8) : Decidable (TokC c) := by unfold TokC; infer_instance
def TokQ (s : Tx) : Prop := s ≠ [] ∧ ∀ c ∈ s, TokC c
instance (s : Tx) : Decidable (TokQ s) := by unfold TokQ; infer_instance
theorem spc_ge (c : UInt8) : 0 ≤ Lib.indexByte spcQ c ↔ c ∈ spcQ := by
  rcases idxB_cases spcQ c with ⟨h1, h2⟩ | ⟨a, b, h1, h2, h3⟩
  · rw [h1]; exact ⟨fun h => by omega, fun h => absurd h h2⟩
  · rw [h3]; exact ⟨fun _ => by rw [h1]; simp, fun _ => by omega⟩
theorem sIdx_spec (s : Tx) (c : UInt8) (w : World) : Calls Tryz.prog 113 #[encStr s, .int .u8 ((c.toNat : Nat) : Int)] w fun e w' => e = .returned (.int .i64 (Lib.indexByte s c)) ∧ w = w' := by
  have h := Tryz.strings_IndexByte ⟨s.toArray⟩ ((c.toNat : Nat) : Int) w
  have e1 : (((c.toNat : Nat) : Int)).toNat.toUInt8 = c := by simp
  rw [e1] at h
  exact h.mono fun e w' ⟨h, hw⟩ => ⟨h, hw.symm⟩

set_option maxRecDepth 100000 in
theorem token_spec (q : Tx) (w : World) (hq : q.length ≤ 1000000) : Calls Tryz.prog 76 #[encStr q] w fun e w' => e = .returned (.bool (decide (TokQ q))) ∧ w = w' := by
  refine VC.calls (nt := 29) (res := #[.tmp 2]) Tryz.func76 rfl Tryz.ntmps76 Tryz.results76 rfl ?_
  refine VC.seq ?_
  refine VC.region ?_
  refine Ops.r (Run.asg rfl) rfl ?_
  refine Ops.nil ?_
  refine thenQ_n ?_
  refine VC.sub [(0, _)] (.cons rfl .nil) ?_
  refine VC.seq ?_
  refine VC.seq ?_
  refine VC.region ?_
  refine Ops.r (Run.mv rfl) rfl ?_
  refine Ops.r (Run.lenT rfl Tryz.underlying9) rfl ?_
  refine Ops.r (v := .int .i64 ((0 : Nat) : Int)) (Run.mv rfl) rfl ?_
  refine Ops.nil ?_
  refine thenQ_n ?_
  refine VC.sub [(0, _), (5, _), (6, _)] (.cons rfl (.cons rfl (.cons rfl .nil))) ?_
  refine VC.block ?_
  refine VC.loop (σ := Nat) (fun s => [(0, encStr q), (5, .int .i64 ((q.length : Nat) : Int)), (6, .int .i64 ((s : Nat) : Int))]) (fun s wr => s ≤ q.length ∧ (∀ c ∈ q.take s, TokC c) ∧ w = wr) (fun s => q.length - s) 0 (.cons rfl (.cons rfl (.cons rfl .nil))) ⟨by omega, by simp, rfl⟩ ?_
  rintro i _ ⟨hi, hd, rfl⟩
  refine VC.seq ?_
  refine VC.region ?_
  refine Ops.r (Run.bin rfl rfl (Bin.lssN _ _)) rfl ?_
  refine Ops.nil ?_
  refine thenQ_n ?_
  refine VC.seq ?_
  refine VC.condD rfl (fun hc1 => ?_) (fun hc1 => ?_)
  · skip
    have hts : q.take (i + 1) = q.take i ++ [q[i]] := by rw [List.take_add_one, List.getElem?_eq_getElem hc1]; rfl
    have hxm : q[i] ∈ q := List.getElem_mem hc1
    have hgx : q[i]? = some q[i] := List.getElem?_eq_getElem hc1
    generalize hx : q[i] = x at *
    have hsp := spc_ge x
    have htc : TokC x ↔ (33 ≤ x.toNat ∧ x.toNat ≤ 126 ∧ x ∉ spcQ) := Iff.rfl
    refine VC.skip ?_
    refine thenQ_n ?_
    refine VC.sub [(0, _), (5, _), (6, _)] (.cons rfl (.cons rfl (.cons rfl .nil))) ?_
    refine VC.seq ?_
    refine VC.block ?_
    refine VC.seq ?_
    refine VC.region ?_
    refine Ops.r (Run.mv rfl) rfl ?_
    refine Ops.r (Run.asg rfl) rfl ?_
    refine Ops.nil ?_
    refine thenQ_n ?_
    refine VC.sub [(0, _), (3, _), (5, _), (6, _)] (.cons rfl (.cons rfl (.cons rfl (.cons rfl .nil)))) ?_
    refine VC.seq ?_
    refine VC.split1 [(0, _), (5, _), (6, _)] (.cons rfl (.cons rfl (.cons rfl .nil))) 25 (.bool (decide (¬ TokC x))) ?_ ?_
    · refine VC.region ?_
      refine Ops.r (Run.mv rfl) rfl ?_
      refine Ops.r (Run.mv rfl) rfl ?_
      refine Ops.r (Run.indexT _ rfl rfl Tryz.underlying9 hgx) rfl ?_
      refine Ops.r (Run.bin rfl rfl (Bin.lssN _ 33)) rfl ?_
      by_cases hs12 : x.toNat < 33
      · skip
        refine Ops.r (Run.mv rfl) rfl ?_
        refine Ops.sk rfl au rfl ?_
        refine Ops.sk rfl au rfl ?_
        refine Ops.sk rfl au rfl ?_
        refine Ops.sk rfl au rfl ?_
        refine Ops.r (Run.pickT rfl rfl au) rfl ?_
        refine Ops.r (Run.mv rfl) rfl ?_
        refine Ops.sk rfl au rfl ?_
        refine Ops.sk rfl au rfl ?_
        refine Ops.sk rfl au rfl ?_
        refine Ops.sk rfl au rfl ?_
        refine Ops.sk rfl au rfl ?_
        refine Ops.r (Run.pickT rfl rfl au) rfl ?_
        refine Ops.nil ?_
        refine thenQ_n ⟨(.cons (congrArg (fun b => some (Value.bool b)) (Eq.symm (by first | exact decide_eq_true (fun h => by have := htc.1 h; omega) | exact decide_eq_decide.2 ⟨fun h => Classical.byContradiction fun h2 => h (htc.2 ⟨by omega, by omega, fun h3 => h2 (hsp.2 h3)⟩), fun h h2 => (htc.1 h2).2.2 (hsp.1 h)⟩))) (.cons rfl (.cons rfl (.cons rfl .nil)))), rfl⟩
      · skip
        refine Ops.r (Run.mv rfl) rfl ?_
        refine Ops.rg rfl au (Run.mv rfl) rfl ?_
        refine Ops.rg rfl au (Run.mv rfl) rfl ?_
        refine Ops.rg rfl au (Run.indexT _ rfl rfl Tryz.underlying9 hgx) rfl ?_
        refine Ops.rg rfl au (Run.bin rfl rfl (Bin.gtrN _ 126)) rfl ?_
        by_cases hs17 : 126 < x.toNat
        · skip
          refine Ops.r (Run.pickF rfl rfl au) rfl ?_
          refine Ops.r (Run.mv rfl) rfl ?_
          refine Ops.sk rfl au rfl ?_
          refine Ops.sk rfl au rfl ?_
          refine Ops.sk rfl au rfl ?_
          refine Ops.sk rfl au rfl ?_
          refine Ops.sk rfl au rfl ?_
          refine Ops.r (Run.pickT rfl rfl au) rfl ?_
          refine Ops.nil ?_
          refine thenQ_n ⟨(.cons (congrArg (fun b => some (Value.bool b)) (Eq.symm (by first | exact decide_eq_true (fun h => by have := htc.1 h; omega) | exact decide_eq_decide.2 ⟨fun h => Classical.byContradiction fun h2 => h (htc.2 ⟨by omega, by omega, fun h3 => h2 (hsp.2 h3)⟩), fun h h2 => (htc.1 h2).2.2 (hsp.1 h)⟩))) (.cons rfl (.cons rfl (.cons rfl .nil)))), rfl⟩
        · skip
          refine Ops.r (Run.pickF rfl rfl au) rfl ?_
          refine Ops.r (Run.mv rfl) rfl ?_
          refine Ops.rg rfl au (Run.mv rfl) rfl ?_
          refine Ops.rg rfl au (Run.mv rfl) rfl ?_
          refine Ops.rg rfl au (Run.indexT _ rfl rfl Tryz.underlying9 hgx) rfl ?_
          refine Ops.clg rfl au (Enters.fn (evs.cons rfl (evs.cons rfl evs.nil)) Tryz.call113) (sIdx_spec spcQ x _) rfl ?_
          rintro e _ ⟨rfl, rfl⟩
          refine ⟨_, rfl, ?_⟩
          refine Ops.rg rfl au (Run.bin rfl rfl (Bin.geq _ 0)) rfl ?_
          by_cases hs24 : 0 ≤ Lib.indexByte spcQ x
          · skip
            refine Ops.r (Run.pickF rfl rfl au) rfl ?_
            refine Ops.nil ?_
            refine thenQ_n ⟨(.cons (congrArg (fun b => some (Value.bool b)) (Eq.symm (by first | exact decide_eq_true (fun h => by have := htc.1 h; omega) | exact decide_eq_decide.2 ⟨fun h => Classical.byContradiction fun h2 => h (htc.2 ⟨by omega, by omega, fun h3 => h2 (hsp.2 h3)⟩), fun h h2 => (htc.1 h2).2.2 (hsp.1 h)⟩))) (.cons rfl (.cons rfl (.cons rfl .nil)))), rfl⟩
          · skip
            refine Ops.r (Run.pickF rfl rfl au) rfl ?_
            refine Ops.nil ?_
            refine thenQ_n ⟨(.cons (congrArg (fun b => some (Value.bool b)) (Eq.symm (by first | exact decide_eq_true (fun h => by have := htc.1 h; omega) | exact decide_eq_decide.2 ⟨fun h => Classical.byContradiction fun h2 => h (htc.2 ⟨by omega, by omega, fun h3 => h2 (hsp.2 h3)⟩), fun h h2 => (htc.1 h2).2.2 (hsp.1 h)⟩))) (.cons rfl (.cons rfl (.cons rfl .nil)))), rfl⟩
    · intro Γ hΓ
      refine thenQ_n (VC.sub _ hΓ ?_)
      refine VC.condD rfl (fun hc2 => ?_) (fun hc2 => ?_)
      · skip
        refine VC.seq ?_
        refine VC.region ?_
        refine Ops.r (Run.asg rfl) rfl ?_
        refine Ops.nil ?_
        refine thenQ_n ?_
        refine VC.sub [(2, _)] (.cons rfl .nil) ?_
        refine VC.ret ?_
        refine blockQ_r (thenQ_r (thenQ_r (blockQ_r (thenQ_r (end1 rfl ?_)))))
        exact ⟨by rw [decide_eq_false (fun h => hc2 (h.2 x hxm))], rfl⟩
      · skip
        refine VC.skip ?_
        refine blockQ_n (thenQ_n ?_)
        refine VC.sub [(0, _), (5, _), (6, _)] (.cons rfl (.cons rfl (.cons rfl .nil))) ?_
        refine VC.region ?_
        refine Ops.r (Run.bin rfl rfl (Bin.add_i64 _ 1 (by omega))) rfl ?_
        refine Ops.r (Run.mv rfl) rfl ?_
        refine Ops.nil ?_
        refine thenQ_n ⟨(i + 1), (.cons rfl (.cons rfl (.cons rfl .nil))), ?_, ?_⟩
        · skip
          refine ⟨hc1, fun y hy => ?_, rfl⟩
          rw [hts] at hy
          rcases List.mem_append.1 hy with h | h
          · exact hd y h
          · simp only [List.mem_singleton] at h; subst h; exact Classical.not_not.1 hc2
        · skip
          first | omega | (dsimp only; omega)
  · skip
    have hil : i = q.length := by omega
    subst hil
    rw [List.take_length] at hd
    refine VC.exit ?_
    refine thenQ_x (thenQ_x (blockQ_x ?_))
    refine thenQ_n ?_
    refine VC.sub [(0, _)] (.cons rfl .nil) ?_
    refine VC.seq ?_
    refine VC.region ?_
    refine Ops.r (Run.mv rfl) rfl ?_
    refine Ops.r (Run.neqT rfl rfl) rfl ?_
    refine Ops.r (Run.asg rfl) rfl ?_
    refine Ops.nil ?_
    refine thenQ_n ?_
    refine VC.sub [(2, _)] (.cons rfl .nil) ?_
    refine VC.ret ?_
    refine end1 rfl ?_
    exact ⟨by rw [decide_eq_decide.2 (show TokQ q ↔ q ≠ [] from ⟨fun h => h.1, fun h => ⟨h, hd⟩⟩)], rfl⟩

end Go.Proofs.YtenbjndldenkfaaGreatDoor

namespace Go.Proofs.YtenbjndldenkfaaGreatDoor
open Go.RowKit Go.Sort

def low (c : UInt8) : UInt8 := if 65 ≤ c.toNat ∧ c.toNat ≤ 90 then c + 32 else c
theorem low_nat (c : UInt8) : (low c).toNat = if 65 ≤ c.toNat ∧ c.toNat ≤ 90 then c.toNat + 32 else c.toNat := by
  unfold low
  split
  · rename_i h
    rw [UInt8.toNat_add]
    have : (32 : UInt8).toNat = 32 := rfl
    omega
  · rfl
def smallS (s : Tx) : Tx := s.map low
theorem smallS_len (s : Tx) : (smallS s).length = s.length := by simp [smallS]

theorem u8_set {n i : Nat} {cs : Array Value} {l : List UInt8} {c : UInt8} (h : cs.toList.take n = U8 l) (hl : l.length = n) (hi : i < n) : (cs.setIfInBounds i (.int .u8 ((c.toNat : Nat) : Int))).toList.take n = U8 (l.set i c) := by
  rw [Array.toList_setIfInBounds, List.take_set, h]
  simp [U8, List.map_set]
theorem low_step {s : Tx} {i : Nat} (h : i < s.length) : ((s.take i).map low ++ s.drop i).set i (low s[i]) = (s.take (i + 1)).map low ++ s.drop (i + 1) := by
  have e1 : ((s.take i).map low).length = i := by simp; omega
  rw [List.set_append_right _ _ (by omega), e1, Nat.sub_self, List.drop_eq_getElem_cons h, List.set_cons_zero]
  have e2 : s.take (i + 1) = s.take i ++ [s[i]] := by rw [List.take_add_one, List.getElem?_eq_getElem h]; rfl
  rw [e2]
  simp only [List.map_append, List.map_cons, List.map_nil, List.append_assoc, List.cons_append, List.nil_append]
theorem low_stay {s : Tx} {i : Nat} (h : i < s.length) (hl : low s[i] = s[i]) : (s.take i).map low ++ s.drop i = (s.take (i + 1)).map low ++ s.drop (i + 1) := by
  rw [← low_step h, hl]
  apply List.ext_getElem?
  intro j
  by_cases hj : j = i
  · subst hj
    have e1 : ((s.take j).map low).length = j := by simp; omega
    rw [List.getElem?_set_self (by simp; omega), List.getElem?_append_right (by omega), e1, Nat.sub_self, List.drop_eq_getElem_cons h]
    rfl
  · rw [List.getElem?_set_ne (Ne.symm hj)]

set_option maxRecDepth 100000 in
theorem lower_spec (q : Tx) (w : World) (hq : q.length ≤ 1000000) : Calls Tryz.prog 183 #[encStr q] w fun e w' => e = .returned (encStr (smallS q)) ∧ Frm [] w w' := by
  refine VC.calls (nt := 29) (res := #[.tmp 2]) Tryz.func183 rfl Tryz.ntmps183 Tryz.results183 rfl ?_
  refine VC.seq ?_
  refine VC.region ?_
  refine Ops.r (Run.asg rfl) rfl ?_
  refine Ops.nil ?_
  refine thenQ_n ?_
  refine VC.sub [(0, _)] (.cons rfl .nil) ?_
  refine VC.seq ?_
  refine VC.region ?_
  refine Ops.r (Run.mv rfl) rfl ?_
  refine Ops.m (Does.bytesOfT rfl Tryz.underlying9 Tryz.underlying22 Tryz.underlying5) rfl ?_
  rintro _ w1 ⟨c1, cs1, rfl, hF1, ht1, hf1⟩
  have hge : w.heap.size ≤ w.heap.size := Nat.le_refl _
  generalize hg : w.heap.size = g1 at hF1 hge ⊢
  refine Ops.r (Run.asg rfl) rfl ?_
  refine Ops.nil ?_
  refine thenQ_n ?_
  refine VC.sub [(3, _)] (.cons rfl .nil) ?_
  refine VC.seq ?_
  refine VC.seq ?_
  refine VC.region ?_
  refine Ops.r (Run.mv rfl) rfl ?_
  refine Ops.r (Run.lenS rfl Tryz.underlying22) rfl ?_
  refine Ops.r (v := .int .i64 ((0 : Nat) : Int)) (Run.mv rfl) rfl ?_
  refine Ops.nil ?_
  refine thenQ_n ?_
  refine VC.block ?_
  refine VC.loop (σ := Nat) (fun s => [(3, .slice (some ⟨g1, 0, none⟩) q.length c1), (8, .slice (some ⟨g1, 0, none⟩) q.length c1), (9, .int .i64 ((q.length : Nat) : Int)), (10, .int .i64 ((s : Nat) : Int))]) (fun s wr => s ≤ q.length ∧ Frm [] w wr ∧ ∃ cs, Fro wr g1 5 cs ∧ cs.toList.take q.length = U8 ((q.take s).map low ++ q.drop s)) (fun s => q.length - s) 0 (.cons rfl (.cons rfl (.cons rfl (.cons rfl .nil)))) ⟨by omega, hf1, cs1, hF1, by simpa using ht1⟩ ?_
  rintro i wr ⟨hi, hfr, cs, hF, ht⟩
  refine VC.seq ?_
  refine VC.region ?_
  refine Ops.r (Run.bin rfl rfl (Bin.lssN _ _)) rfl ?_
  refine Ops.nil ?_
  refine thenQ_n ?_
  refine VC.seq ?_
  refine VC.condD rfl (fun hc1 => ?_) (fun hc1 => ?_)
  · skip
    have hrd : Rd wr 1 (some ⟨g1, 0, none⟩) q.length (U8 ((q.take i).map low ++ q.drop i)) := by
      have h := hF.rd (l := (q.take i).map low ++ q.drop i) (by simpa [Nat.min_eq_left hi, Nat.add_sub_cancel' hi] using ht)
      simpa [Nat.min_eq_left hi, Nat.add_sub_cancel' hi] using h
    have hcell : wr.cell? ((⟨g1, 0, none⟩ : Addr).add (i * 1)) = some (.int .u8 ((q[i].toNat : Nat) : Int)) := by
      rw [Nat.mul_one]
      obtain ⟨ad, u, hA, hu, hc⟩ := hrd.at1 hc1
      cases hA
      rw [hc, ← hu]
      simp [U8, List.getElem?_append_right, Nat.min_eq_left hi, List.getElem?_eq_getElem, hc1]
    have hll : ((q.take i).map low ++ q.drop i).length = q.length := by simp; omega
    have hsz : i < cs.size := by
      have := congrArg List.length ht
      simp [U8] at this
      omega
    refine VC.skip ?_
    refine thenQ_n ?_
    refine VC.sub [(3, _), (8, _), (9, _), (10, _)] (.cons rfl (.cons rfl (.cons rfl (.cons rfl .nil)))) ?_
    refine VC.seq ?_
    refine VC.block ?_
    refine VC.seq ?_
    refine VC.region ?_
    refine Ops.r (Run.mv rfl) rfl ?_
    refine Ops.r (Run.indexS i rfl rfl Tryz.underlying22 Tryz.sizeOf5 hc1) rfl ?_
    refine Ops.r (Run.load rfl Tryz.isAgg5 hcell) rfl ?_
    refine Ops.r (Run.asg rfl) rfl ?_
    refine Ops.r (Run.asg rfl) rfl ?_
    refine Ops.nil ?_
    refine thenQ_n ?_
    refine VC.sub [(3, _), (4, _), (5, _), (8, _), (9, _), (10, _)] (.cons rfl (.cons rfl (.cons rfl (.cons rfl (.cons rfl (.cons rfl .nil)))))) ?_
    refine VC.seq ?_
    refine VC.split1 [(3, _), (4, _), (5, _), (8, _), (9, _), (10, _)] (.cons rfl (.cons rfl (.cons rfl (.cons rfl (.cons rfl (.cons rfl .nil)))))) 20 (.bool (decide ((65 ≤ q[i].toNat) ∧ (q[i].toNat ≤ 90)))) ?_ ?_
    · by_cases hs0 : 65 ≤ q[i].toNat
      · skip
        refine VC.region ?_
        refine Ops.r (Run.mv rfl) rfl ?_
        refine Ops.r (Run.bin rfl rfl (Bin.geqN _ 65)) rfl ?_
        refine Ops.r (Run.mv rfl) rfl ?_
        refine Ops.rg rfl au (Run.mv rfl) rfl ?_
        refine Ops.rg rfl au (Run.bin rfl rfl (Bin.leqN _ 90)) rfl ?_
        refine Ops.r (Run.pickT rfl rfl au) rfl ?_
        refine Ops.nil ?_
        refine thenQ_n ⟨(.cons (by rw [dand1 hs0]; rfl) (.cons rfl (.cons rfl (.cons rfl (.cons rfl (.cons rfl (.cons rfl .nil))))))), rfl⟩
      · skip
        refine VC.region ?_
        refine Ops.r (Run.mv rfl) rfl ?_
        refine Ops.r (Run.bin rfl rfl (Bin.geqN _ 65)) rfl ?_
        refine Ops.r (Run.mv rfl) rfl ?_
        refine Ops.sk rfl au rfl ?_
        refine Ops.sk rfl au rfl ?_
        refine Ops.r (Run.pickF rfl rfl au) rfl ?_
        refine Ops.nil ?_
        refine thenQ_n ⟨(.cons (by rw [dand0 hs0]; rfl) (.cons rfl (.cons rfl (.cons rfl (.cons rfl (.cons rfl (.cons rfl .nil))))))), rfl⟩
    · intro Γ hΓ
      refine thenQ_n (VC.sub _ hΓ ?_)
      refine VC.meet (σ := Unit) (fun s => [(3, .slice (some ⟨g1, 0, none⟩) q.length c1), (8, .slice (some ⟨g1, 0, none⟩) q.length c1), (9, .int .i64 ((q.length : Nat) : Int)), (10, .int .i64 ((i : Nat) : Int))]) (fun s wm => Frm [] w wm ∧ ∃ cs, Fro wm g1 5 cs ∧ cs.toList.take q.length = U8 ((q.take (i + 1)).map low ++ q.drop (i + 1))) ?_ ?_
      · skip
        refine VC.condD rfl (fun hc2 => ?_) (fun hc2 => ?_)
        · skip
          refine VC.region ?_
          refine Ops.r (Run.mv rfl) rfl ?_
          refine Ops.r (Run.mv rfl) rfl ?_
          refine Ops.r (Run.mv rfl) rfl ?_
          refine Ops.r (Run.bin rfl rfl (Bin.add_u8 _ 32 (by omega))) rfl ?_
          rw [show (q[i].toNat + 32 : Nat) = (low q[i]).toNat by rw [low_nat, if_pos hc2]]
          refine Ops.r (Run.indexS i rfl rfl Tryz.underlying22 Tryz.sizeOf5 hc1) rfl ?_
          rw [show (⟨g1, 0, none⟩ : Addr).add (i * 1) = ⟨g1, i, none⟩ by unfold Addr.add; rw [Nat.mul_one]; split <;> simp_all]
          refine Ops.st (Acts.storeFro rfl rfl Tryz.sizeOf5 hF hsz rfl) ?_
          rintro w2 ⟨hF2, hf2, hs2⟩
          refine Ops.nil ?_
          refine thenQ_n ⟨(), (.cons rfl (.cons rfl (.cons rfl (.cons rfl .nil)))), ?_⟩
          exact ⟨hfr.own hf2 (fun x hx => by simp at hx; omega), _, hF2, by rw [u8_set ht hll hc1, low_step hc1]⟩
        · skip
          refine VC.skip ?_
          refine thenQ_n ⟨(), (.cons rfl (.cons rfl (.cons rfl (.cons rfl .nil)))), ?_⟩
          exact ⟨hfr, cs, hF, by rw [ht, low_stay hc1 (UInt8.toNat_inj.1 (by rw [low_nat, if_neg hc2]))]⟩
      · skip
        rintro _ wm ⟨hfr2, cs2, hF2, ht2⟩ Γ hΓ
        refine blockQ_n (thenQ_n (VC.sub _ hΓ ?_))
        refine VC.region ?_
        refine Ops.r (Run.bin rfl rfl (Bin.add_i64 _ 1 (by omega))) rfl ?_
        refine Ops.r (Run.mv rfl) rfl ?_
        refine Ops.nil ?_
        refine thenQ_n ⟨(i + 1), (.cons rfl (.cons rfl (.cons rfl (.cons rfl .nil)))), ?_, ?_⟩
        · skip
          exact ⟨hc1, hfr2, cs2, hF2, ht2⟩
        · skip
          first | omega | (dsimp only; omega)
  · skip
    refine VC.exit ?_
    refine thenQ_x (thenQ_x (blockQ_x ?_))
    refine thenQ_n ?_
    refine VC.sub [(3, _)] (.cons rfl .nil) ?_
    refine VC.seq ?_
    refine VC.region ?_
    refine Ops.r (Run.mv rfl) rfl ?_
    have hR : Rd wr 1 (some ⟨g1, 0, none⟩) q.length (U8 (smallS q)) := by
      have him : i = q.length := by omega
      subst him
      have h := hF.rd (l := smallS q) (by rw [smallS_len, ht]; simp [smallS])
      rwa [smallS_len] at h
    refine Ops.r (Run.strOfT rfl Tryz.underlying22 Tryz.underlying5 Tryz.underlying9 hR) rfl ?_
    refine Ops.r (Run.asg rfl) rfl ?_
    refine Ops.nil ?_
    refine thenQ_n ?_
    refine VC.sub [(2, _)] (.cons rfl .nil) ?_
    refine VC.ret ?_
    refine end1 rfl ?_
    exact ⟨rfl, hfr⟩

set_option maxRecDepth 100000 in
theorem ptrim_spec (q : Tx) (w : World) (hq : q.length ≤ 1000000) : Calls Tryz.prog 182 #[encStr q] w fun e w' => e = .returned (encStr (leftB (rightB q))) ∧ Frm [] w w' := by
  refine VC.calls (nt := 5) (res := #[.tmp 2]) Tryz.func182 rfl Tryz.ntmps182 Tryz.results182 rfl ?_
  refine VC.seq ?_
  refine VC.region ?_
  refine Ops.r (Run.asg rfl) rfl ?_
  refine Ops.nil ?_
  refine thenQ_n ?_
  refine VC.sub [(0, _)] (.cons rfl .nil) ?_
  refine VC.seq ?_
  refine VC.region ?_
  refine Ops.r (Run.mv rfl) rfl ?_
  refine Ops.cl (Enters.fn (evs.cons rfl (evs.cons rfl evs.nil)) Tryz.call125) (trimS_spec q _ hq) rfl ?_
  rintro e w1 ⟨rfl, hf1⟩
  refine ⟨_, rfl, ?_⟩
  refine Ops.r (Run.asg rfl) rfl ?_
  refine Ops.nil ?_
  refine thenQ_n ?_
  refine VC.sub [(2, _)] (.cons rfl .nil) ?_
  refine VC.ret ?_
  refine end1 rfl ?_
  exact ⟨rfl, hf1⟩

end Go.Proofs.YtenbjndldenkfaaGreatDoor

namespace Go.Proofs.YtenbjndldenkfaaGreatDoor
open Go.RowKit
theorem dec_wide (s : ByteArray) (i : Nat) (h : i < s.size) (hb : 128 ≤ (s.get! i).toNat) :
    ∃ r n, Utf8.decode s i = (r, n) ∧ 128 ≤ r ∧ 1 ≤ n ∧ ∀ k, k < n → 128 ≤ (s.get! (i + k)).toNat ∧ i + k < s.size := by
  have h0 : ¬ (s.get! (i + 0)).toNat < 128 := by simpa using hb
  have one : ∀ k, k < 1 → 128 ≤ (s.get! (i + k)).toNat ∧ i + k < s.size := fun k hk => by
    have : k = 0 := by omega
    subst this
    exact ⟨by simpa using hb, h⟩
  have cont : ∀ k, (decide (i + k < s.size) && ((s.get! (i + k)).toNat / 64 == 2)) = true → 128 ≤ (s.get! (i + k)).toNat ∧ i + k < s.size := fun k hk => by
    simp only [Bool.and_eq_true, decide_eq_true_eq, beq_iff_eq] at hk
    exact ⟨by omega, hk.1⟩
  have err : (128 : Nat) ≤ Utf8.runeError := by decide
  unfold Utf8.decode
  dsimp only
  rw [if_neg h0]
  split
  · rename_i h1
    simp only [Bool.and_eq_true] at h1
    have c1 := cont 1 (by simpa using h1.2)
    split
    · refine ⟨_, _, rfl, by omega, by omega, fun k hk => ?_⟩
      match k, hk with
      | 0, _ => exact one 0 (by omega)
      | 1, _ => exact c1
    · exact ⟨_, _, rfl, err, by omega, one⟩
  · split
    · rename_i h1
      simp only [Bool.and_eq_true] at h1
      have c1 := cont 1 (by simpa using h1.1.2)
      have c2 := cont 2 (by simpa using h1.2)
      split
      · rename_i h2
        simp only [Bool.and_eq_true, decide_eq_true_eq] at h2
        refine ⟨_, _, rfl, by omega, by omega, fun k hk => ?_⟩
        match k, hk with
        | 0, _ => exact one 0 (by omega)
        | 1, _ => exact c1
        | 2, _ => exact c2
      · exact ⟨_, _, rfl, err, by omega, one⟩
    · split
      · rename_i h1
        simp only [Bool.and_eq_true] at h1
        have c1 := cont 1 (by simpa using h1.1.1.2)
        have c2 := cont 2 (by simpa using h1.1.2)
        have c3 := cont 3 (by simpa using h1.2)
        split
        · rename_i h2
          simp only [Bool.and_eq_true, decide_eq_true_eq] at h2
          refine ⟨_, _, rfl, by omega, by omega, fun k hk => ?_⟩
          match k, hk with
          | 0, _ => exact one 0 (by omega)
          | 1, _ => exact c1
          | 2, _ => exact c2
          | 3, _ => exact c3
        · exact ⟨_, _, rfl, err, by omega, one⟩
      · exact ⟨_, _, rfl, err, by omega, one⟩
end Go.Proofs.YtenbjndldenkfaaGreatDoor

namespace Go.Proofs.YtenbjndldenkfaaGreatDoor
open Go.RowKit
theorem enc_wide (r : Int) (h : 128 ≤ r) : ∃ a : List UInt8, ∃ z : UInt8, (Utf8.encode r).data.toList = a ++ [z] ∧ 1 ≤ a.length ∧ a.length ≤ 3 ∧ 128 ≤ z.toNat := by
  have hz : ∀ c : Nat, 128 ≤ (UInt8.ofNat (0x80 + c % 64)).toNat := fun c => by
    rw [UInt8.toNat_ofNat', Nat.mod_eq_of_lt (by omega)]
    omega
  unfold Utf8.encode
  have hc : ¬ (if Utf8.valid r = true then r.toNat else Utf8.runeError) < 0x80 := by
    split
    · omega
    · decide
  dsimp only
  generalize (if Utf8.valid r = true then r.toNat else Utf8.runeError) = c at *
  rw [if_neg hc]
  split
  · exact ⟨[_], _, rfl, by simp, by simp, hz _⟩
  · split
    · exact ⟨[_, _], _, rfl, by simp, by simp, hz _⟩
    · exact ⟨[_, _, _], _, rfl, by simp, by simp, hz _⟩
end Go.Proofs.YtenbjndldenkfaaGreatDoor

namespace Go.Proofs.YtenbjndldenkfaaGreatDoor
open Go.RowKit
variable {P : Program} {Γ : Env} {w : World} {dst : Option Tmp} {pos : String} {after : Array Edge} {g : Option (Nat × Bool)} {T : TypeId}
/-- An iterator over a text lies at a block. -/
def SIt (w : World) (b : Nat) (s : ByteArray) (p : Nat) : Prop := w.heap[b]? = some (.stringIter s p)
theorem Does.rangeS {t : TypeId} {x : Operand} {s : ByteArray} (hx : ev? Γ x = some (.string s)) (ht : P.underlying t = some .string) :
    Does P ⟨dst, .range t x, T, pos, after, g⟩ Γ w (fun r w' => r = .pointer (some ⟨w.heap.size, 0, none⟩) ∧ SIt w' w.heap.size s 0 ∧ Frm [] w w') := fun ρ hρ => by
  refine ⟨_, w.iter s 0, ?_, rfl, World.iter_heap _ _ _, (Frm.refl [] w).alloc _⟩
  simp [execOp, hρ _ _ hx, run_range_string w t s ht]
theorem Does.nextS {x : Operand} {s : ByteArray} {b p : Nat} (hx : ev? Γ x = some (.pointer (some ⟨b, 0, none⟩))) (hb : SIt w b s p) (hp : p < s.size) :
    Does P ⟨dst, .next x true, T, pos, after, g⟩ Γ w (fun r w' => r = .tuple #[.bool true, .int .i64 (p : Int), .int .i32 ((Utf8.decode s p).1 : Int)] ∧ SIt w' b s (p + (Utf8.decode s p).2) ∧ Frm [b] w w') := fun ρ hρ => by
  refine ⟨_, w.putObj b (.stringIter s (p + (Utf8.decode s p).2)), ?_, rfl, by have := (Array.getElem?_eq_some_iff.1 hb).1; simp [SIt, World.putObj, this], Frm.putObj _ _ _⟩
  have hb' : w.heap[b]? = some (.stringIter s p) := hb
  simp [execOp, hρ _ _ hx, Instr.next, getObj, setObj, Sem.run, hb', hp, World.putObj, goInt]
theorem Does.nextEnd {x : Operand} {s : ByteArray} {b p : Nat} (hx : ev? Γ x = some (.pointer (some ⟨b, 0, none⟩))) (hb : SIt w b s p) (hp : ¬ p < s.size) :
    Does P ⟨dst, .next x true, T, pos, after, g⟩ Γ w (fun r w' => r = .tuple #[.bool false] ∧ w = w') := fun ρ hρ => by
  refine ⟨_, w, ?_, rfl, rfl⟩
  have hb' : w.heap[b]? = some (.stringIter s p) := hb
  simp [execOp, hρ _ _ hx, Instr.next, getObj, Sem.run, hb', hp]
theorem Run.runeS {src dstT : TypeId} {x : Operand} {k : IntKind} {a : Int} {d : TypeDesc} (hx : ev? Γ x = some (.int k a)) (hs : P.underlying src = some d) (hd : P.underlying dstT = some .string) :
    Run P ⟨dst, .convert src dstT x, T, pos, after, g⟩ Γ w (.string (Utf8.encode a)) := fun ρ hρ => by
  simp [execOp, hρ _ _ hx, convert, run_underlying hs, run_underlying hd, Conv.intToString]
/-- A scope whose body does not jump. -/
def straightQ (Q : Exit → Env → World → Prop) : Exit → Env → World → Prop
  | .goto _, _, _ => False
  | e, Γ, w => Q e Γ w
section
variable {Q : Exit → Env → World → Prop} {i : Nat} {ch : List PanicEntry}
theorem straightQ_r (h : Q .ret Γ w) : straightQ Q .ret Γ w := h
end
theorem VC.scope {n : NF} {c : Code} {Q : Exit → Env → World → Prop} (hro : n.ro = none) (h : VC P n c Γ w (straightQ Q)) : VC P n (.scope c) Γ w Q := by
  intro a hs m
  rw [hro, wd_none]
  refine wpIn_wide.2 (wp_scope_straight ?_)
  have h1 := h a hs m
  rw [hro, wd_none] at h1
  refine wp_mono (wpIn_wide.1 h1) ?_
  intro e a' w' hq
  obtain ⟨Γ', hs', q⟩ := hq
  cases e with
  | goto l => exact q.elim
  | _ => exact ⟨Γ', hs', q⟩
theorem eqF_str {P : Program} {w : World} {d : Nat} {xs ys : Array Value} {f : Field} {fs : List Field} {a b : List UInt8} {r : Bool} (hn : f.name ≠ "_") (ht : ∀ w, (isAgg f.type).run P w = .ok false w) (hu : P.underlying f.type = some .string)
    (hx : xs[f.offset]? = some (encStr a)) (hy : ys[f.offset]? = some (encStr b)) (h : (Op.eqFields (d + 1) xs ys fs).run P w = .ok r w) : (Op.eqFields (d + 1) xs ys (f :: fs)).run P w = .ok (decide (a = b) && r) w := by
  have e1 : (a == b) = decide (a = b) := by rw [Bool.eq_iff_iff]; simp
  have e2 : (Op.equalIn (d + 1) f.type (encStr a) (encStr b)).run P w = .ok (a == b) w := by
    have := run_equalIn_string (P := P) w d f.type ⟨a.toArray⟩ ⟨b.toArray⟩ hu
    rw [ByteArray.toList_eq, ByteArray.toList_eq] at this
    exact this
  simp only [Op.eqFields, if_pos hn, Sem.run_bind, part, ht, Result.andThen_ok, Bool.false_eq_true, if_false, hx, hy, Sem.run_pure, e2, Sem.run_ite]
  by_cases hab : a = b
  · simp [hab, h]
  · simp [hab, e1]
end Go.Proofs.YtenbjndldenkfaaGreatDoor

namespace Go.Proofs.YtenbjndldenkfaaGreatDoor
open Go.RowKit Go.Sort

/-- What comes next of a text that is ranged over. -/
def nxt (s : ByteArray) (p : Nat) : Array Value := if p < s.size then #[.bool true, .int .i64 (p : Int), .int .i32 ((Utf8.decode s p).1 : Int)] else #[.bool false]
def nxtP (s : ByteArray) (p : Nat) : Nat := if p < s.size then p + (Utf8.decode s p).2 else p
theorem nxt0 (s : ByteArray) (p : Nat) : (nxt s p)[0]? = some (.bool (decide (p < s.size))) := by
  unfold nxt
  split
  · rename_i h; rw [decide_eq_true h]; rfl
  · rename_i h; rw [decide_eq_false h]; rfl
theorem nxt1 {s : ByteArray} {p : Nat} (h : p < s.size) : (nxt s p)[1]? = some (.int .i64 (p : Int)) := by unfold nxt; rw [if_pos h]; rfl
theorem nxt2 {s : ByteArray} {p : Nat} (h : p < s.size) : (nxt s p)[2]? = some (.int .i32 ((Utf8.decode s p).1 : Int)) := by unfold nxt; rw [if_pos h]; rfl
theorem Does.nextA {P : Program} {Γ : Env} {w : World} {dst : Option Tmp} {pos : String} {after : Array Edge} {g : Option (Nat × Bool)} {T : TypeId} {x : Operand} {s : ByteArray} {b p : Nat} (hx : ev? Γ x = some (.pointer (some ⟨b, 0, none⟩))) (hb : SIt w b s p) :
    Does P ⟨dst, .next x true, T, pos, after, g⟩ Γ w (fun r w' => r = .tuple (nxt s p) ∧ SIt w' b s (nxtP s p) ∧ Frm [b] w w') := by
  unfold nxt nxtP
  by_cases h : p < s.size
  · rw [if_pos h, if_pos h]; exact Does.nextS hx hb h
  · rw [if_neg h, if_neg h]; exact (Does.nextEnd hx hb h).mono fun v w' ⟨h1, h2⟩ => ⟨h1, h2 ▸ hb, h2 ▸ Frm.refl _ _⟩
theorem SIt.frm {w w' : World} {b p : Nat} {s : ByteArray} {S : List Nat} (h : SIt w b s p) (k : Frm S w w') (hb : b ∉ S) : SIt w' b s p := by
  have hlt : b < w.heap.size := (Array.getElem?_eq_some_iff.1 h).1
  exact (k.block b hlt hb).trans h
theorem rune_wide (r : Int) (h : 128 ≤ r) : ∃ (q : Tx) (z : UInt8), Value.string (Utf8.encode r) = encStr q ∧ 2 ≤ q.length ∧ q.length ≤ 4 ∧ q[q.length - 1]? = some z ∧ 128 ≤ z.toNat := by
  obtain ⟨a, z, h1, h2, h3, h4⟩ := enc_wide r h
  refine ⟨a ++ [z], z, ?_, by simp; omega, by simp; omega, by simp, h4⟩
  rw [← h1]

set_option maxRecDepth 100000 in
theorem useSet_spec (n : Nat) (w : World) (hn : n ≤ 1000000) : Calls Tryz.prog 220 #[.int .i64 ((n : Nat) : Int)] w fun e w' => e = .returned (.bool (decide (8 < n))) ∧ w = w' := by
  refine VC.calls (nt := 5) (res := #[.tmp 2]) Tryz.func220 rfl Tryz.ntmps220 Tryz.results220 rfl ?_
  refine VC.seq ?_
  refine VC.region ?_
  refine Ops.r (Run.asg rfl) rfl ?_
  refine Ops.nil ?_
  refine thenQ_n ?_
  refine VC.sub [(0, _)] (.cons rfl .nil) ?_
  refine VC.seq ?_
  refine VC.region ?_
  refine Ops.r (Run.mv rfl) rfl ?_
  refine Ops.r (Run.bin rfl rfl (Bin.gtrN _ 8)) rfl ?_
  refine Ops.r (Run.asg rfl) rfl ?_
  refine Ops.nil ?_
  refine thenQ_n ?_
  refine VC.sub [(2, _)] (.cons rfl .nil) ?_
  refine VC.ret ?_
  refine end1 rfl ?_
  exact ⟨rfl, rfl⟩

set_option maxRecDepth 100000 in
theorem idxRune_spec (r : Int) (w : World) (h0 : 128 ≤ r) (h1 : r ≤ 2147483647) : Calls Tryz.prog 217 #[encStr [32, 9], .int .i32 r] w fun e w' => e = .returned (.int .i64 (-1)) ∧ Frm [] w w' := by
  refine VC.calls (nt := 187) (res := #[.tmp 4]) Tryz.func217 rfl Tryz.ntmps217 Tryz.results217 rfl ?_
  refine VC.seq ?_
  refine VC.region ?_
  refine Ops.r (v := .int .i64 ((0 : Nat) : Int)) (Run.asg rfl) rfl ?_
  refine Ops.nil ?_
  refine thenQ_n ?_
  refine VC.sub [(0, _), (1, _)] (.cons rfl (.cons rfl .nil)) ?_
  refine VC.block ?_
  refine VC.seq ?_
  refine VC.split1 [(0, _), (1, _)] (.cons rfl (.cons rfl .nil)) 160 (.bool (decide (False))) ?_ ?_
  · refine VC.region ?_
    refine Ops.r (Run.mv rfl) rfl ?_
    refine Ops.r (Run.bin rfl rfl (Bin.leq 0 _)) rfl ?_
    refine Ops.r (Run.mv rfl) rfl ?_
    refine Ops.rg rfl au (Run.mv rfl) rfl ?_
    refine Ops.rg rfl au (Run.bin rfl rfl (Bin.lss _ 128)) rfl ?_
    refine Ops.r (Run.pickT rfl rfl au) rfl ?_
    refine Ops.r (Run.asg rfl) rfl ?_
    refine Ops.nil ?_
    refine thenQ_n ⟨(.cons (congrArg (fun b => some (Value.bool b)) (by first | rfl | exact decide_eq_false (by omega) | (symm; exact decide_eq_false (by omega)))) (.cons rfl (.cons rfl .nil))), rfl⟩
  · intro Γ hΓ
    refine thenQ_n (VC.sub _ hΓ ?_)
    refine VC.condF rfl (decide_eq_false (by simp)) ?_
    refine VC.seq ?_
    refine VC.region ?_
    refine Ops.r (Run.mv rfl) rfl ?_
    refine Ops.r (Run.bin rfl rfl (Bin.eql _ 65533)) rfl ?_
    refine Ops.r (Run.asg rfl) rfl ?_
    refine Ops.nil ?_
    refine thenQ_n ?_
    refine VC.sub [(0, _), (1, _), (171, _)] (.cons rfl (.cons rfl (.cons rfl .nil))) ?_
    refine VC.condD rfl (fun hc2 => ?_) (fun hc2 => ?_)
    · skip
      refine VC.seq ?_
      refine VC.seq ?_
      refine VC.region ?_
      refine Ops.r (Run.mv rfl) rfl ?_
      refine Ops.m (Does.rangeS rfl Tryz.underlying9) rfl ?_
      rintro _ w1 ⟨rfl, hit, K⟩
      have hgs : w.heap.size ≤ w.heap.size := Nat.le_refl _
      generalize hg : w.heap.size = gi at hit hgs ⊢
      refine Ops.nil ?_
      refine thenQ_n ?_
      refine VC.sub [(175, _)] (.cons rfl .nil) ?_
      refine VC.block ?_
      refine VC.loop (σ := Nat) (fun s => [(175, .pointer (some ⟨gi, 0, none⟩))]) (fun s wr => s ≤ 2 ∧ SIt wr gi ⟨#[32, 9]⟩ s ∧ Frm [] w wr) (fun s => 2 - s) 0 (.cons rfl .nil) ⟨by omega, hit, K⟩ ?_
      rintro i wr ⟨hi, hit, K⟩
      refine VC.seq ?_
      refine VC.region ?_
      refine Ops.m (Does.nextA rfl hit) rfl ?_
      rintro _ w2 ⟨rfl, hit2, hf2⟩
      have K2 := Frm.own K hf2 (fun y hy => by simp at hy; omega)
      refine Ops.r (Run.extract rfl (nxt0 _ _)) rfl ?_
      refine Ops.nil ?_
      refine thenQ_n ?_
      refine VC.seq ?_
      refine VC.condB rfl (fun hc3 => ?_) (fun hc3 => ?_)
      · skip
        have hp : i < (⟨#[32, 9]⟩ : ByteArray).size := of_decide_eq_true hc3
        have hi2 : i = 0 ∨ i = 1 := by have : (⟨#[32, 9]⟩ : ByteArray).size = 2 := rfl; omega
        have hnp : nxtP ⟨#[32, 9]⟩ i = i + 1 := by rcases hi2 with rfl | rfl <;> rfl
        rw [hnp] at hit2
        refine VC.skip ?_
        refine thenQ_n ?_
        refine VC.sub [(175, _), (176, _)] (.cons rfl (.cons rfl .nil)) ?_
        refine VC.block ?_
        refine VC.seq ?_
        refine VC.region ?_
        refine Ops.r (Run.extract rfl (nxt1 hp)) rfl ?_
        refine Ops.r (Run.extract rfl (nxt2 hp)) rfl ?_
        refine Ops.r (Run.asg rfl) rfl ?_
        refine Ops.r (Run.asg rfl) rfl ?_
        refine Ops.nil ?_
        refine thenQ_n ?_
        refine VC.sub [(5, _), (6, _), (175, _)] (.cons rfl (.cons rfl (.cons rfl .nil))) ?_
        refine VC.seq ?_
        refine VC.region ?_
        refine Ops.r (Run.mv rfl) rfl ?_
        refine Ops.r (Run.bin rfl rfl (Bin.eqlN _ 65533)) rfl ?_
        refine Ops.nil ?_
        refine thenQ_n ?_
        refine VC.sub [(5, _), (175, _), (181, _)] (.cons rfl (.cons rfl (.cons rfl .nil))) ?_
        refine VC.condF rfl (decide_eq_false (by rcases hi2 with rfl | rfl <;> decide)) ?_
        refine VC.skip ?_
        refine blockQ_n (thenQ_n ⟨(i + 1), (.cons rfl .nil), ?_, ?_⟩)
        · skip
          exact ⟨by omega, hit2, K2⟩
        · skip
          first | omega | (dsimp only; omega)
      · skip
        refine VC.exit ?_
        refine thenQ_x (thenQ_x (blockQ_x ?_))
        refine thenQ_n ?_
        refine VC.sub [] .nil ?_
        refine VC.seq ?_
        refine VC.region ?_
        refine Ops.r (v := .int .i64 (-1)) (Run.asg rfl) rfl ?_
        refine Ops.nil ?_
        refine thenQ_n ?_
        refine VC.ret ?_
        refine blockQ_r (end1 rfl ?_)
        exact ⟨rfl, K2⟩
    · skip
      refine VC.seq ?_
      refine VC.region ?_
      refine Ops.r (Run.mv rfl) rfl ?_
      refine Ops.cl (Enters.fn (evs.cons rfl evs.nil) Tryz.call223) ((Tryz.utf8_ValidRune r _)) rfl ?_
      rintro e w1 ⟨rfl, hw1⟩
      obtain rfl := hw1.symm
      refine ⟨_, rfl, ?_⟩
      refine Ops.r (Run.not rfl) rfl ?_
      refine Ops.r (Run.asg rfl) rfl ?_
      refine Ops.nil ?_
      refine thenQ_n ?_
      refine VC.sub [(0, _), (1, _), (183, _)] (.cons rfl (.cons rfl (.cons rfl .nil))) ?_
      refine VC.condB rfl (fun hc5 => ?_) (fun hc5 => ?_)
      · skip
        refine VC.seq ?_
        refine VC.region ?_
        refine Ops.r (v := .int .i64 (-1)) (Run.asg rfl) rfl ?_
        refine Ops.nil ?_
        refine thenQ_n ?_
        refine VC.sub [(4, _)] (.cons rfl .nil) ?_
        refine VC.ret ?_
        refine blockQ_r (end1 rfl ?_)
        exact ⟨rfl, Frm.refl _ _⟩
      · skip
        refine VC.scope rfl ?_
        refine VC.seq ?_
        refine VC.region ?_
        refine Ops.r (Run.mv rfl) rfl ?_
        obtain ⟨q, z, hq, hl1, hl2, hqz, hz⟩ := rune_wide r h0
        refine Ops.r (v := encStr q) (hq ▸ Run.runeS rfl Tryz.underlying21 Tryz.underlying9) rfl ?_
        refine Ops.r (Run.asg rfl) rfl ?_
        refine Ops.nil ?_
        refine thenQ_n ?_
        refine VC.sub [(0, _), (7, _)] (.cons rfl (.cons rfl .nil)) ?_
        refine VC.seq ?_
        refine VC.region ?_
        refine Ops.r (Run.mv rfl) rfl ?_
        refine Ops.r (Run.lenT rfl Tryz.underlying9) rfl ?_
        refine Ops.r (Run.bin rfl rfl (Bin.sub_i64 _ 1 (by omega) (by omega))) rfl ?_
        refine Ops.r (Run.asg rfl) rfl ?_
        refine Ops.nil ?_
        refine thenQ_n ?_
        refine VC.sub [(0, _), (7, _), (8, _)] (.cons rfl (.cons rfl (.cons rfl .nil))) ?_
        refine VC.seq ?_
        refine VC.region ?_
        refine Ops.r (Run.mv rfl) rfl ?_
        refine Ops.r (Run.asg rfl) rfl ?_
        refine Ops.nil ?_
        refine thenQ_n ?_
        refine VC.sub [(0, _), (7, _), (8, _), (9, _)] (.cons rfl (.cons rfl (.cons rfl (.cons rfl .nil)))) ?_
        refine VC.seq ?_
        refine VC.region ?_
        refine Ops.r (v := .int .i64 ((0 : Nat) : Int)) (Run.asg rfl) rfl ?_
        refine Ops.nil ?_
        refine thenQ_n ?_
        refine VC.sub [(0, _), (7, _), (8, _), (9, _)] (.cons rfl (.cons rfl (.cons rfl (.cons rfl .nil)))) ?_
        refine VC.seq ?_
        refine VC.block ?_
        refine VC.loop (σ := Unit) (fun s => [(0, encStr [32, 9]), (7, encStr q), (8, .int .i64 ((q.length - 1 : Nat) : Int)), (9, .int .i64 ((q.length - 1 : Nat) : Int))]) (fun s wr => Frm [] w wr) (fun s => 0) () (.cons rfl (.cons rfl (.cons rfl (.cons rfl .nil)))) (Frm.refl _ _) ?_
        rintro _ wr K
        refine VC.seq ?_
        refine VC.seq ?_
        refine VC.region ?_
        refine Ops.r (Run.mv rfl) rfl ?_
        refine Ops.r (Run.mv rfl) rfl ?_
        refine Ops.r (Run.lenT rfl Tryz.underlying9) rfl ?_
        refine Ops.r (Run.bin rfl rfl (Bin.lssN _ _)) rfl ?_
        refine Ops.nil ?_
        refine thenQ_n ?_
        refine VC.sub [(0, _), (7, _), (8, _), (9, _), (26, _)] (.cons rfl (.cons rfl (.cons rfl (.cons rfl (.cons rfl .nil))))) ?_
        refine VC.condD rfl (fun hc6 => ?_) (fun hc6 => ?_)
        · skip
          obtain ⟨y, z', rfl⟩ : ∃ y z', q = [y, z'] := by
            match q, hl1, hc6 with
            | [y, z'], _, _ => exact ⟨y, z', rfl⟩
            | _ :: _ :: _ :: _, _, h => exact absurd h (by simp)
          obtain rfl : z' = z := by simpa using hqz
          refine VC.skip ?_
          refine thenQ_n ?_
          refine VC.sub [(0, _), (7, _), (8, _), (9, _)] (.cons rfl (.cons rfl (.cons rfl (.cons rfl .nil)))) ?_
          refine VC.block ?_
          refine VC.scope rfl ?_
          refine VC.seq ?_
          refine VC.seq ?_
          refine VC.still (by kernel_rfl) (by kernel_rfl) ?_
          refine SOps.r (Run.mv rfl) rfl ?_
          refine SOps.r (Run.mv rfl) rfl ?_
          refine SOps.r (Run.indexT _ rfl rfl Tryz.underlying9 rfl) rfl ?_
          refine SOps.r (Run.mv rfl) rfl ?_
          refine SOps.r (Run.mv rfl) rfl ?_
          refine SOps.r (Run.indexT _ rfl rfl Tryz.underlying9 rfl) rfl ?_
          refine SOps.r (Run.bin rfl rfl (Bin.neqN _ _)) rfl ?_
          refine SOps.nil ?_
          refine thenQ_n ?_
          refine VC.sub [(0, _), (7, _), (8, _), (9, _), (33, _)] (.cons rfl (.cons rfl (.cons rfl (.cons rfl (.cons rfl .nil))))) ?_
          refine VC.condT rfl (decide_eq_true (by simp; omega)) ?_
          refine VC.seq ?_
          refine VC.tail 7 (by kernel_rfl) (by kernel_rfl) ?_
          simp only [List.take_succ_cons, List.take_zero, List.drop_succ_cons, List.drop_zero]
          refine SOps.r (Run.mv rfl) rfl ?_
          refine SOps.r (Run.mv rfl) rfl ?_
          refine SOps.r (Run.bin rfl rfl (Bin.add_i64 _ 1 (by omega))) rfl ?_
          refine SOps.r (Run.sliceT 2 2 rfl Tryz.underlying9 (evB.some_ rfl) evB.none_ (by omega) (by simp)) rfl ?_
          refine SOps.r (Run.mv rfl) rfl ?_
          refine SOps.r (Run.mv rfl) rfl ?_
          refine SOps.r (Run.indexT _ rfl rfl Tryz.underlying9 rfl) rfl ?_
          refine SOps.nil ?_
          refine Ops.cl (Enters.fn (evs.cons rfl (evs.cons rfl evs.nil)) Tryz.call113) (sIdx_spec [] z' _) rfl ?_
          rintro e _ ⟨rfl, rfl⟩
          refine ⟨_, rfl, ?_⟩
          refine Ops.r (Run.asg rfl) rfl ?_
          refine Ops.nil ?_
          refine thenQ_n ?_
          refine VC.sub [(0, _), (7, _), (8, _), (9, _), (11, _)] (.cons rfl (.cons rfl (.cons rfl (.cons rfl (.cons rfl .nil))))) ?_
          refine VC.seq ?_
          refine VC.seq ?_
          refine VC.region ?_
          refine Ops.r (Run.mv rfl) rfl ?_
          refine Ops.r (Run.bin rfl rfl (Bin.lss _ 0)) rfl ?_
          refine Ops.nil ?_
          refine thenQ_n ?_
          refine VC.sub [(0, _), (7, _), (8, _), (9, _), (11, _), (43, _)] (.cons rfl (.cons rfl (.cons rfl (.cons rfl (.cons rfl (.cons rfl .nil)))))) ?_
          refine VC.condT rfl (rfl) ?_
          refine VC.seq ?_
          refine VC.region ?_
          refine Ops.r (v := .int .i64 (-1)) (Run.asg rfl) rfl ?_
          refine Ops.nil ?_
          refine thenQ_n ?_
          refine VC.sub [(4, _)] (.cons rfl .nil) ?_
          refine VC.ret ?_
          refine thenQ_r (thenQ_r (straightQ_r (blockQ_r (thenQ_r (blockQ_r (thenQ_r (straightQ_r (blockQ_r (end1 rfl ?_)))))))))
          exact ⟨rfl, K.drew.drew⟩
        · skip
          refine VC.exit ?_
          refine thenQ_x (thenQ_x (blockQ_x ?_))
          refine thenQ_n ?_
          refine VC.sub [] .nil ?_
          refine VC.seq ?_
          refine VC.seq ?_
          refine VC.region ?_
          refine Ops.r (v := .int .i64 (-1)) (Run.asg rfl) rfl ?_
          refine Ops.nil ?_
          refine thenQ_n ?_
          refine VC.ret ?_
          refine thenQ_r (straightQ_r (blockQ_r (end1 rfl ?_)))
          exact ⟨rfl, K⟩

set_option maxRecDepth 100000 in
theorem idxRuneN_spec (c : UInt8) (w : World) (h0 : c.toNat < 128) : Calls Tryz.prog 217 #[encStr [32, 9], .int .i32 ((c.toNat : Nat) : Int)] w fun e w' => e = .returned (.int .i64 (Lib.indexByte [32, 9] c)) ∧ w = w' := by
  refine VC.calls (nt := 187) (res := #[.tmp 4]) Tryz.func217 rfl Tryz.ntmps217 Tryz.results217 rfl ?_
  refine VC.seq ?_
  refine VC.region ?_
  refine Ops.r (v := .int .i64 ((0 : Nat) : Int)) (Run.asg rfl) rfl ?_
  refine Ops.nil ?_
  refine thenQ_n ?_
  refine VC.sub [(0, _), (1, _)] (.cons rfl (.cons rfl .nil)) ?_
  refine VC.block ?_
  refine VC.seq ?_
  refine VC.split1 [(0, _), (1, _)] (.cons rfl (.cons rfl .nil)) 160 (.bool (decide (True))) ?_ ?_
  · refine VC.region ?_
    refine Ops.r (Run.mv rfl) rfl ?_
    refine Ops.r (Run.bin rfl rfl (Bin.leqN 0 _)) rfl ?_
    refine Ops.r (Run.mv rfl) rfl ?_
    refine Ops.rg rfl au (Run.mv rfl) rfl ?_
    refine Ops.rg rfl au (Run.bin rfl rfl (Bin.lssN _ 128)) rfl ?_
    refine Ops.r (Run.pickT rfl rfl au) rfl ?_
    refine Ops.r (Run.asg rfl) rfl ?_
    refine Ops.nil ?_
    refine thenQ_n ⟨(.cons (congrArg (fun b => some (Value.bool b)) (by first | rfl | (symm; exact decide_eq_true (by omega)) | exact decide_eq_true (by omega) | (simp; omega))) (.cons rfl (.cons rfl .nil))), rfl⟩
  · intro Γ hΓ
    refine thenQ_n (VC.sub _ hΓ ?_)
    refine VC.condT rfl (decide_eq_true trivial) ?_
    refine VC.seq ?_
    refine VC.region ?_
    refine Ops.r (Run.mv rfl) rfl ?_
    refine Ops.r (Run.mv rfl) rfl ?_
    refine Ops.r (Run.convN c.toNat rfl Tryz.underlying21 Tryz.underlying5 (by simp only [bmax]; omega)) rfl ?_
    refine Ops.cl (Enters.fn (evs.cons rfl (evs.cons rfl evs.nil)) Tryz.call113) (sIdx_spec [32, 9] c _) rfl ?_
    rintro e _ ⟨rfl, rfl⟩
    refine ⟨_, rfl, ?_⟩
    refine Ops.r (Run.asg rfl) rfl ?_
    refine Ops.nil ?_
    refine thenQ_n ?_
    refine VC.sub [(4, _)] (.cons rfl .nil) ?_
    refine VC.ret ?_
    refine blockQ_r (end1 rfl ?_)
    exact ⟨rfl, rfl⟩


theorem dec_le {s : ByteArray} {i r n : Nat} (h : Utf8.decode s i = (r, n)) : r ≤ 1114111 := by
  have e : Utf8.runeError ≤ 1114111 := by decide
  have hb : (s.get! (i + 0)).toNat < 256 := (s.get! (i + 0)).toNat_lt
  unfold Utf8.decode at h
  dsimp only at h
  split at h
  · injection h with h1 h2; omega
  · split at h
    · split at h
      · injection h with h1 h2; omega
      · injection h with h1 h2; omega
    · split at h
      · split at h
        · rename_i hv
          simp only [Bool.and_eq_true, decide_eq_true_eq] at hv
          injection h with h1 h2
          omega
        · injection h with h1 h2; omega
      · split at h
        · split at h
          · rename_i hv
            simp only [Bool.and_eq_true, decide_eq_true_eq, Utf8.valid, Bool.or_eq_true] at hv
            injection h with h1 h2
            omega
          · injection h with h1 h2; omega
        · injection h with h1 h2; omega

/-- The first blank of a text. -/
def FstB (s : Tx) (k : Int) : Prop := (k = -1 ∧ ∀ c ∈ s, ¬ Bl c) ∨ ∃ i : Nat, k = (i : Int) ∧ i < s.length ∧ (∀ c ∈ s.take i, ¬ Bl c) ∧ ∀ c, s[i]? = some c → Bl c
theorem idxBl (c : UInt8) : 0 ≤ Lib.indexByte [32, 9] c ↔ Bl c := by
  rcases idxB_cases [32, 9] c with ⟨h1, h2⟩ | ⟨a, b, h1, h2, h3⟩
  · rw [h1]
    simp only [List.mem_cons, List.not_mem_nil, or_false, not_or] at h2
    exact ⟨fun h => by omega, fun h => by rcases h with h | h <;> simp_all⟩
  · rw [h3]
    have hm : c ∈ ([32, 9] : Tx) := by rw [h1]; simp
    simp only [List.mem_cons, List.not_mem_nil, or_false] at hm
    exact ⟨fun _ => hm, fun _ => by omega⟩
theorem bl_lt {c : UInt8} (h : Bl c) : c.toNat < 128 := by rcases h with rfl | rfl <;> decide
theorem dec_get (s : Tx) (i : Nat) (h : i < s.length) : (⟨s.toArray⟩ : ByteArray).get! i = s[i] := by
  have hs : i < (⟨s.toArray⟩ : ByteArray).size := by show i < s.toArray.size; simpa using h
  show (s.toArray)[i]! = _
  simp [h]
/-- What a round of a range over a text's runes sees. -/
theorem dec_round (s : Tx) (i : Nat) (h : i < s.length) : ∃ r n, Utf8.decode ⟨s.toArray⟩ i = (r, n) ∧ 1 ≤ n ∧ i + n ≤ s.length ∧ r ≤ 1114111 ∧
    ((r < 128 ∧ n = 1 ∧ r = s[i].toNat) ∨ (128 ≤ r ∧ ∀ k, k < n → ∀ c, s[i + k]? = some c → ¬ Bl c)) := by
  have hs : i < (⟨s.toArray⟩ : ByteArray).size := by show i < s.toArray.size; simpa using h
  by_cases hb : s[i].toNat < 128
  · have := decode_ascii ⟨s.toArray⟩ i hs (by show (s.toArray[i]'_).toNat < 128; simpa using hb)
    refine ⟨_, _, this, by omega, by omega, ?_, .inl ⟨?_, rfl, ?_⟩⟩
    · show (s.toArray[i]'_).toNat ≤ _; simp; omega
    · show (s.toArray[i]'_).toNat < _; simpa using hb
    · show (s.toArray[i]'_).toNat = _; simp
  · obtain ⟨r, n, h1, h2, h3, h4⟩ := dec_wide ⟨s.toArray⟩ i hs (by rw [dec_get s i h]; omega)
    have h5 := (h4 (n - 1) (by omega)).2
    have h6 : (⟨s.toArray⟩ : ByteArray).size = s.length := by show s.toArray.size = _; simp
    rw [h6] at h5
    refine ⟨r, n, h1, h3, by omega, dec_le h1, .inr ⟨h2, fun k hk c hc hB => ?_⟩⟩
    have h7 := (h4 k hk).1
    obtain ⟨hlt, rfl⟩ := List.getElem?_eq_some_iff.1 hc
    rw [dec_get s _ hlt] at h7
    have := bl_lt hB
    omega

set_option maxRecDepth 100000 in
theorem idxAny_spec (q : Tx) (w : World) (hq : q.length ≤ 1000000) : Calls Tryz.prog 210 #[encStr q, encStr [32, 9]] w fun e w' => ∃ k, e = .returned (.int .i64 k) ∧ FstB q k ∧ Frm [] w w' := by
  refine VC.calls (nt := 55) (res := #[.tmp 4]) Tryz.func210 rfl Tryz.ntmps210 Tryz.results210 rfl ?_
  refine VC.seq ?_
  refine VC.region ?_
  refine Ops.r (v := .int .i64 ((0 : Nat) : Int)) (Run.asg rfl) rfl ?_
  refine Ops.nil ?_
  refine thenQ_n ?_
  refine VC.sub [(0, _), (1, _)] (.cons rfl (.cons rfl .nil)) ?_
  refine VC.seq ?_
  refine VC.seq ?_
  refine VC.region ?_
  refine Ops.r (Run.mv rfl) rfl ?_
  refine Ops.r (Run.eqlT rfl rfl) rfl ?_
  refine Ops.nil ?_
  refine thenQ_n ?_
  refine VC.sub [(0, _), (1, _), (12, _)] (.cons rfl (.cons rfl (.cons rfl .nil))) ?_
  refine VC.condF rfl (decide_eq_false (by simp)) ?_
  refine VC.skip ?_
  refine thenQ_n ?_
  refine VC.sub [(0, _), (1, _)] (.cons rfl (.cons rfl .nil)) ?_
  refine VC.seq ?_
  refine VC.seq ?_
  refine VC.region ?_
  refine Ops.r (Run.mv rfl) rfl ?_
  refine Ops.r (Run.lenT rfl Tryz.underlying9) rfl ?_
  refine Ops.r (Run.bin rfl rfl (Bin.eqlN _ 1)) rfl ?_
  refine Ops.nil ?_
  refine thenQ_n ?_
  refine VC.sub [(0, _), (1, _), (15, _)] (.cons rfl (.cons rfl (.cons rfl .nil))) ?_
  refine VC.condF rfl (decide_eq_false (by simp)) ?_
  refine VC.skip ?_
  refine thenQ_n ?_
  refine VC.sub [(0, _), (1, _)] (.cons rfl (.cons rfl .nil)) ?_
  refine VC.seq ?_
  refine VC.seq ?_
  refine VC.region ?_
  refine Ops.r (Run.mv rfl) rfl ?_
  refine Ops.r (Run.lenT rfl Tryz.underlying9) rfl ?_
  refine Ops.cl (Enters.fn (evs.cons rfl evs.nil) Tryz.call220) (useSet_spec q.length _ hq) rfl ?_
  rintro e _ ⟨rfl, rfl⟩
  refine ⟨_, rfl, ?_⟩
  refine Ops.nil ?_
  refine thenQ_n ?_
  refine VC.sub [(0, _), (1, _), (26, _)] (.cons rfl (.cons rfl (.cons rfl .nil))) ?_
  refine VC.meet (σ := Unit) (fun s => [(0, encStr q), (1, encStr [32, 9])]) (fun s wr => Frm [] w wr) ?_ ?_
  · skip
    refine VC.condB rfl (fun hc4 => ?_) (fun hc4 => ?_)
    · skip
      refine VC.seq ?_
      refine VC.region ?_
      refine Ops.r (Run.mv rfl) rfl ?_
      refine Ops.cl (Enters.fn (evs.cons rfl evs.nil) Tryz.call169) (mkset_spec _) rfl ?_
      rintro e w1 ⟨rfl, hf1⟩
      refine ⟨_, rfl, ?_⟩
      refine Ops.r (Run.mv rfl) rfl ?_
      refine Ops.r (Run.extract rfl rfl) rfl ?_
      refine Ops.r (Run.extract rfl rfl) rfl ?_
      refine Ops.m (Does.alloc zero178) rfl ?_
      rintro _ w2 ⟨rfl, hF2⟩
      have hb6 := hF2.blk
      have K := hf1.trans hF2.frm (by simp)
      have hs6 := hf1.size
      generalize hg6 : w1.heap.size = g6 at hb6 hs6 ⊢
      refine Ops.st (Acts.storeA rfl rfl Tryz.sizeOf178 hb6 rfl set_one) ?_
      rintro w3 ⟨hb6n, hf3, _⟩
      have hb6 : SetB w3 g6 := hb6n
      have K := Frm.own K hf3 (fun y hy => by simp at hy; omega)
      refine Ops.r (Run.asg rfl) rfl ?_
      refine Ops.nil ?_
      refine thenQ_n ?_
      refine VC.sub [(0, _), (1, _), (6, _), (7, _)] (.cons rfl (.cons rfl (.cons rfl (.cons rfl .nil)))) ?_
      refine VC.seq ?_
      refine VC.region ?_
      refine Ops.r (Run.mv rfl) rfl ?_
      refine Ops.nil ?_
      refine thenQ_n ?_
      refine VC.sub [(0, _), (1, _), (6, _), (32, _)] (.cons rfl (.cons rfl (.cons rfl (.cons rfl .nil)))) ?_
      refine VC.condT rfl (rfl) ?_
      refine VC.seq ?_
      refine VC.seq ?_
      refine VC.region ?_
      refine Ops.r (v := .int .i64 ((0 : Nat) : Int)) (Run.asg rfl) rfl ?_
      refine Ops.nil ?_
      refine thenQ_n ?_
      refine VC.sub [(0, _), (6, _), (8, _)] (.cons rfl (.cons rfl (.cons rfl .nil))) ?_
      refine VC.block ?_
      refine VC.loop (σ := Nat) (fun s => [(0, encStr q), (6, .pointer (some ⟨g6, 0, none⟩)), (8, .int .i64 ((s : Nat) : Int))]) (fun s wr => s ≤ q.length ∧ (∀ c ∈ q.take s, ¬ Bl c) ∧ w3 = wr) (fun s => q.length - s) 0 (.cons rfl (.cons rfl (.cons rfl .nil))) ⟨by omega, by simp, rfl⟩ ?_
      rintro i _ ⟨hi, hno, rfl⟩
      refine VC.seq ?_
      refine VC.seq ?_
      refine VC.region ?_
      refine Ops.r (Run.mv rfl) rfl ?_
      refine Ops.r (Run.mv rfl) rfl ?_
      refine Ops.r (Run.lenT rfl Tryz.underlying9) rfl ?_
      refine Ops.r (Run.bin rfl rfl (Bin.lssN _ _)) rfl ?_
      refine Ops.nil ?_
      refine thenQ_n ?_
      refine VC.sub [(0, _), (6, _), (8, _), (36, _)] (.cons rfl (.cons rfl (.cons rfl (.cons rfl .nil)))) ?_
      refine VC.condD rfl (fun hc6 => ?_) (fun hc6 => ?_)
      · skip
        have hts : q.take (i + 1) = q.take i ++ [q[i]] := by rw [List.take_add_one, List.getElem?_eq_getElem hc6]; rfl
        have hgx : q[i]? = some q[i] := List.getElem?_eq_getElem hc6
        generalize hx : q[i] = x at *
        refine VC.skip ?_
        refine thenQ_n ?_
        refine VC.sub [(0, _), (6, _), (8, _)] (.cons rfl (.cons rfl (.cons rfl .nil))) ?_
        refine VC.seq ?_
        refine VC.block ?_
        refine VC.seq ?_
        refine VC.region ?_
        refine Ops.r (Run.mv rfl) rfl ?_
        refine Ops.r (Run.mv rfl) rfl ?_
        refine Ops.r (Run.indexT _ rfl rfl Tryz.underlying9 hgx) rfl ?_
        refine Ops.cl (Enters.fn (evs.cons rfl (evs.cons rfl evs.nil)) Tryz.call202) (contB_spec g6 x _ hb6) rfl ?_
        rintro e _ ⟨rfl, rfl⟩
        refine ⟨_, rfl, ?_⟩
        refine Ops.nil ?_
        refine thenQ_n ?_
        refine VC.sub [(0, _), (6, _), (8, _), (42, _)] (.cons rfl (.cons rfl (.cons rfl (.cons rfl .nil)))) ?_
        refine VC.condB rfl (fun hc7 => ?_) (fun hc7 => ?_)
        · skip
          refine VC.seq ?_
          refine VC.region ?_
          refine Ops.r (Run.mv rfl) rfl ?_
          refine Ops.r (Run.asg rfl) rfl ?_
          refine Ops.nil ?_
          refine thenQ_n ?_
          refine VC.sub [(4, _)] (.cons rfl .nil) ?_
          refine VC.ret ?_
          refine blockQ_r (thenQ_r (thenQ_r (blockQ_r (thenQ_r (thenQ_r (thenQ_r (end1 rfl ?_)))))))
          refine ⟨_, rfl, .inr ⟨i, rfl, hc6, hno, fun c hc => ?_⟩, K⟩
          rw [hgx] at hc
          cases hc
          exact of_decide_eq_true hc7
        · skip
          refine VC.skip ?_
          refine blockQ_n (thenQ_n ?_)
          refine VC.sub [(0, _), (6, _), (8, _)] (.cons rfl (.cons rfl (.cons rfl .nil))) ?_
          refine VC.region ?_
          refine Ops.r (Run.mv rfl) rfl ?_
          refine Ops.r (Run.bin rfl rfl (Bin.add_i64 _ 1 (by omega))) rfl ?_
          refine Ops.r (Run.asg rfl) rfl ?_
          refine Ops.nil ?_
          refine thenQ_n ⟨(i + 1), (.cons rfl (.cons rfl (.cons rfl .nil))), ?_, ?_⟩
          · skip
            refine ⟨hc6, fun y hy => ?_, rfl⟩
            rw [hts] at hy
            rcases List.mem_append.1 hy with h | h
            · exact hno y h
            · simp only [List.mem_singleton] at h; subst h; exact of_decide_eq_false hc7
          · skip
            first | omega | (dsimp only; omega)
      · skip
        refine VC.exit ?_
        refine thenQ_x (thenQ_x (blockQ_x ?_))
        refine thenQ_n ?_
        refine VC.sub [] .nil ?_
        refine VC.seq ?_
        refine VC.region ?_
        refine Ops.r (v := .int .i64 (-1)) (Run.asg rfl) rfl ?_
        refine Ops.nil ?_
        refine thenQ_n ?_
        refine VC.ret ?_
        refine thenQ_r (thenQ_r (end1 rfl ?_))
        refine ⟨_, rfl, .inl ⟨rfl, ?_⟩, K⟩
        have : i = q.length := by omega
        subst this
        rw [List.take_length] at hno
        exact hno
    · skip
      refine VC.skip ?_
      refine thenQ_n ⟨(), (.cons rfl (.cons rfl .nil)), ?_⟩
      exact Frm.refl _ _
  · skip
    rintro _ wx hfx Γ hΓ
    refine thenQ_n (VC.sub _ hΓ ?_)
    refine VC.seq ?_
    refine VC.seq ?_
    refine VC.region ?_
    refine Ops.r (Run.mv rfl) rfl ?_
    refine Ops.m (Does.rangeS rfl Tryz.underlying9) rfl ?_
    rintro _ w4 ⟨rfl, hit, K4⟩
    have K4 := hfx.trans K4 (by simp)
    have hgs := hfx.size
    generalize hg : wx.heap.size = gi at hit hgs ⊢
    refine Ops.nil ?_
    refine thenQ_n ?_
    refine VC.sub [(1, _), (45, _)] (.cons rfl (.cons rfl .nil)) ?_
    refine VC.block ?_
    refine VC.loop (σ := Nat) (fun s => [(1, encStr [32, 9]), (45, .pointer (some ⟨gi, 0, none⟩))]) (fun s wr => s ≤ q.length ∧ (∀ c ∈ q.take s, ¬ Bl c) ∧ SIt wr gi ⟨q.toArray⟩ s ∧ Frm [] w wr) (fun s => q.length - s) 0 (.cons rfl (.cons rfl .nil)) ⟨by omega, by simp, hit, K4⟩ ?_
    rintro i wr ⟨hi, hno, hit, K⟩
    refine VC.seq ?_
    refine VC.region ?_
    refine Ops.m (Does.nextA rfl hit) rfl ?_
    rintro _ w5 ⟨rfl, hit2, hf2⟩
    have K2 := Frm.own K hf2 (fun y hy => by simp at hy; omega)
    have hsz : (⟨q.toArray⟩ : ByteArray).size = q.length := by show q.toArray.size = _; simp
    refine Ops.r (Run.extract rfl (nxt0 _ _)) rfl ?_
    refine Ops.nil ?_
    refine thenQ_n ?_
    refine VC.seq ?_
    refine VC.condB rfl (fun hc8 => ?_) (fun hc8 => ?_)
    · skip
      have hp : i < (⟨q.toArray⟩ : ByteArray).size := of_decide_eq_true hc8
      refine VC.skip ?_
      refine thenQ_n ?_
      refine VC.sub [(1, _), (45, _), (46, _)] (.cons rfl (.cons rfl (.cons rfl .nil))) ?_
      refine VC.block ?_
      refine VC.seq ?_
      refine VC.region ?_
      refine Ops.r (Run.extract rfl (nxt1 hp)) rfl ?_
      refine Ops.r (Run.extract rfl (nxt2 hp)) rfl ?_
      refine Ops.r (Run.asg rfl) rfl ?_
      refine Ops.r (Run.asg rfl) rfl ?_
      refine Ops.nil ?_
      refine thenQ_n ?_
      refine VC.sub [(1, _), (9, _), (10, _), (45, _)] (.cons rfl (.cons rfl (.cons rfl (.cons rfl .nil)))) ?_
      refine VC.seq ?_
      refine VC.region ?_
      refine Ops.r (Run.mv rfl) rfl ?_
      refine Ops.r (Run.mv rfl) rfl ?_
      obtain ⟨r, n, hd, hn1, hn2, hr, hcase⟩ := dec_round q i (by omega)
      have hnp : nxtP ⟨q.toArray⟩ i = i + n := by unfold nxtP; rw [if_pos hp, hd]
      rw [hnp] at hit2
      rw [hd]
      have hone : Calls Tryz.prog 217 #[encStr [32, 9], .int .i32 ((r : Nat) : Int)] w5 fun e w' => ∃ k, e = .returned (.int .i64 k) ∧ (0 ≤ k ↔ r < 128 ∧ Bl q[i]) ∧ Frm [] w5 w' := by
        rcases hcase with ⟨h1, h2, h3⟩ | ⟨h1, h2⟩
        · subst h3
          exact (idxRuneN_spec _ _ h1).mono fun e w' ⟨h, hw⟩ => ⟨_, h, ⟨fun h => ⟨h1, (idxBl _).1 h⟩, fun h => (idxBl _).2 h.2⟩, hw ▸ Frm.refl _ _⟩
        · exact (idxRune_spec r _ (by omega) (by omega)).mono fun e w' ⟨h, hw⟩ => ⟨_, h, ⟨fun h => by omega, fun h => by omega⟩, hw⟩
      refine Ops.cl (Enters.fn (evs.cons rfl (evs.cons rfl evs.nil)) Tryz.call217) (hone) rfl ?_
      rintro e w6 ⟨k, rfl, hk, hf6⟩
      refine ⟨_, rfl, ?_⟩
      have hit3 := hit2.frm hf6 (by simp)
      have K3 := K2.trans hf6 (by simp)
      refine Ops.r (Run.bin rfl rfl (Bin.geq _ 0)) rfl ?_
      refine Ops.nil ?_
      refine thenQ_n ?_
      refine VC.sub [(1, _), (9, _), (45, _), (53, _)] (.cons rfl (.cons rfl (.cons rfl (.cons rfl .nil)))) ?_
      refine VC.condD rfl (fun hc9 => ?_) (fun hc9 => ?_)
      · skip
        refine VC.seq ?_
        refine VC.region ?_
        refine Ops.r (Run.mv rfl) rfl ?_
        refine Ops.r (Run.asg rfl) rfl ?_
        refine Ops.nil ?_
        refine thenQ_n ?_
        refine VC.sub [(4, _)] (.cons rfl .nil) ?_
        refine VC.ret ?_
        refine blockQ_r (thenQ_r (blockQ_r (thenQ_r (end1 rfl ?_))))
        have hkb := hk.1 (by omega)
        refine ⟨_, rfl, .inr ⟨i, rfl, by omega, hno, fun c hc => ?_⟩, K3⟩
        rw [List.getElem?_eq_getElem (show i < q.length by omega)] at hc
        cases hc
        exact hkb.2
      · skip
        refine VC.skip ?_
        refine blockQ_n (thenQ_n ⟨(i + n), (.cons rfl (.cons rfl .nil)), ?_, ?_⟩)
        · skip
          refine ⟨hn2, fun y hy => ?_, hit3, K3⟩
          obtain ⟨j, hj, rfl⟩ := List.getElem_of_mem hy
          rw [List.getElem_take]
          rw [List.length_take] at hj
          by_cases hji : j < i
          · exact hno _ (by rw [List.mem_iff_getElem]; exact ⟨j, by rw [List.length_take]; omega, by rw [List.getElem_take]⟩)
          · rcases hcase with ⟨h1, h2, h3⟩ | ⟨h1, h2⟩
            · have : j = i := by omega
              subst this
              exact fun h => hc9 (by have := hk.2 ⟨h1, h⟩; omega)
            · exact h2 (j - i) (by omega) _ (by rw [show i + (j - i) = j by omega]; exact List.getElem?_eq_getElem (by omega))
        · skip
          first | omega | (dsimp only; omega)
    · skip
      refine VC.exit ?_
      refine thenQ_x (thenQ_x (blockQ_x ?_))
      refine thenQ_n ?_
      refine VC.sub [] .nil ?_
      refine VC.seq ?_
      refine VC.region ?_
      refine Ops.r (v := .int .i64 (-1)) (Run.asg rfl) rfl ?_
      refine Ops.nil ?_
      refine thenQ_n ?_
      refine VC.ret ?_
      refine end1 rfl ?_
      refine ⟨_, rfl, .inl ⟨rfl, ?_⟩, K2⟩
      have : ¬ i < (⟨q.toArray⟩ : ByteArray).size := of_decide_eq_false hc8
      have : i = q.length := by omega
      subst this
      rw [List.take_length] at hno
      exact hno

end Go.Proofs.YtenbjndldenkfaaGreatDoor

namespace Go.Proofs.YtenbjndldenkfaaGreatDoor
open Go.RowKit Go.Sort

theorem index1_spec (s : Tx) (c : UInt8) (w : World) : Calls Tryz.prog 153 #[encStr s, encStr [c]] w fun e w' => e = .returned (.int .i64 (Lib.indexByte s c)) ∧ w = w' :=
  (Tryz.stringslite_Index_one ⟨s.toArray⟩ c w).mono fun e w' ⟨h, hw⟩ => ⟨h, hw.symm⟩
set_option maxRecDepth 100000 in
theorem lcut_spec (s : Tx) (c : UInt8) (w : World) (hs : s.length ≤ 1000000) : Calls Tryz.prog 114 #[encStr s, encStr [c]] w fun e w' => e = .returned (.tuple #[encStr (befF c s), encStr (aftF c s), .bool (decide (c ∈ s))]) ∧ Frm [] w w' := by
  refine VC.calls (nt := 23) (res := #[.tmp 4, .tmp 5, .tmp 6]) Tryz.func114 rfl Tryz.ntmps114 Tryz.results114 rfl ?_
  refine VC.seq ?_
  refine VC.region ?_
  refine Ops.r (Run.asg rfl) rfl ?_
  refine Ops.r (Run.asg rfl) rfl ?_
  refine Ops.r (Run.asg rfl) rfl ?_
  refine Ops.nil ?_
  refine thenQ_n ?_
  refine VC.sub [(0, _), (1, _)] (.cons rfl (.cons rfl .nil)) ?_
  refine VC.seq ?_
  refine VC.seq ?_
  refine VC.region ?_
  refine Ops.r (Run.mv rfl) rfl ?_
  refine Ops.r (Run.mv rfl) rfl ?_
  refine Ops.cl (Enters.fn (evs.cons rfl (evs.cons rfl evs.nil)) Tryz.call153) (index1_spec s c _) rfl ?_
  rintro e _ ⟨rfl, rfl⟩
  refine ⟨_, rfl, ?_⟩
  refine Ops.r (Run.asg rfl) rfl ?_
  refine Ops.nil ?_
  refine thenQ_n ?_
  refine VC.sub [(0, _), (1, _), (7, _)] (.cons rfl (.cons rfl (.cons rfl .nil))) ?_
  refine VC.seq ?_
  refine VC.region ?_
  refine Ops.r (Run.mv rfl) rfl ?_
  refine Ops.r (Run.bin rfl rfl (Bin.geq _ 0)) rfl ?_
  refine Ops.nil ?_
  refine thenQ_n ?_
  refine VC.sub [(0, _), (1, _), (7, _), (12, _)] (.cons rfl (.cons rfl (.cons rfl (.cons rfl .nil)))) ?_
  refine VC.condD rfl (fun hc1 => ?_) (fun hc1 => ?_)
  · skip
    obtain ⟨a, b, rfl, hc, hi⟩ := (idxB_cases s c).resolve_left (fun h => by rw [h.1] at hc1; omega)
    rw [hi]
    obtain ⟨hb1, hb2⟩ := bef_at (b := b) hc
    simp only [List.length_append, List.length_cons] at hs
    have e1 : (a ++ c :: b).take a.length = a := by simp
    have e2 : (a ++ c :: b).drop (a.length + 1) = b := by rw [List.drop_append, List.drop_eq_nil_of_le (by omega)]; simp
    refine VC.seq ?_
    refine VC.still (by kernel_rfl) (by kernel_rfl) ?_
    refine SOps.r (Run.mv rfl) rfl ?_
    refine SOps.r (Run.mv rfl) rfl ?_
    refine SOps.r (Run.sliceT 0 a.length rfl Tryz.underlying9 evB.none_ (evB.some_ rfl) (by omega) (by simp)) rfl ?_
    refine SOps.r (Run.mv rfl) rfl ?_
    refine SOps.r (Run.mv rfl) rfl ?_
    refine SOps.r (Run.mv rfl) rfl ?_
    refine SOps.r (Run.lenT rfl Tryz.underlying9) rfl ?_
    refine SOps.r (Run.bin rfl rfl (Bin.add_i64 a.length 1 (by omega))) rfl ?_
    refine SOps.r (Run.sliceT (a.length + 1) _ rfl Tryz.underlying9 (evB.some_ rfl) evB.none_ (by first | (simp; done) | (simp; omega)) (by simp)) rfl ?_
    refine SOps.r (Run.asg rfl) rfl ?_
    refine SOps.r (Run.asg rfl) rfl ?_
    refine SOps.r (Run.asg rfl) rfl ?_
    refine SOps.nil ?_
    refine thenQ_n ?_
    refine VC.sub [(4, _), (5, _), (6, _)] (.cons rfl (.cons rfl (.cons rfl .nil))) ?_
    refine VC.ret ?_
    refine thenQ_r (end3 rfl rfl rfl ?_)
    refine ⟨?_, (Drawn.drew _).frm⟩
    rw [hb1, hb2, decide_eq_true (by simp)]
    simp only [List.drop_zero, Nat.sub_zero, e1, e2]
    rw [List.take_of_length_le (l := b) (by simp; omega)]
  · skip
    have hc : c ∉ s := by
      rcases idxB_cases s c with ⟨_, h⟩ | ⟨a, b, _, _, hi⟩
      · exact h
      · rw [hi] at hc1; omega
    obtain ⟨hb1, hb2⟩ := bef_no hc
    refine VC.skip ?_
    refine thenQ_n ?_
    refine VC.sub [(0, _)] (.cons rfl .nil) ?_
    refine VC.seq ?_
    refine VC.region ?_
    refine Ops.r (Run.mv rfl) rfl ?_
    refine Ops.r (Run.asg rfl) rfl ?_
    refine Ops.r (Run.asg rfl) rfl ?_
    refine Ops.r (Run.asg rfl) rfl ?_
    refine Ops.nil ?_
    refine thenQ_n ?_
    refine VC.sub [(4, _), (5, _), (6, _)] (.cons rfl (.cons rfl (.cons rfl .nil))) ?_
    refine VC.ret ?_
    refine end3 rfl rfl rfl ?_
    refine ⟨?_, Frm.refl _ _⟩
    rw [hb1, hb2, decide_eq_false hc]

set_option maxRecDepth 100000 in
theorem cut_spec (s : Tx) (c : UInt8) (w : World) (hs : s.length ≤ 1000000) : Calls Tryz.prog 79 #[encStr s, encStr [c]] w fun e w' => e = .returned (.tuple #[encStr (befF c s), encStr (aftF c s), .bool (decide (c ∈ s))]) ∧ Frm [] w w' := by
  refine VC.calls (nt := 13) (res := #[.tmp 4, .tmp 5, .tmp 6]) Tryz.func79 rfl Tryz.ntmps79 Tryz.results79 rfl ?_
  refine VC.seq ?_
  refine VC.region ?_
  refine Ops.r (Run.asg rfl) rfl ?_
  refine Ops.r (Run.asg rfl) rfl ?_
  refine Ops.r (Run.asg rfl) rfl ?_
  refine Ops.nil ?_
  refine thenQ_n ?_
  refine VC.sub [(0, _), (1, _)] (.cons rfl (.cons rfl .nil)) ?_
  refine VC.seq ?_
  refine VC.region ?_
  refine Ops.r (Run.mv rfl) rfl ?_
  refine Ops.r (Run.mv rfl) rfl ?_
  refine Ops.cl (Enters.fn (evs.cons rfl (evs.cons rfl evs.nil)) Tryz.call114) (lcut_spec s c _ hs) rfl ?_
  rintro e w1 ⟨rfl, hf1⟩
  refine ⟨_, rfl, ?_⟩
  refine Ops.r (Run.extract rfl rfl) rfl ?_
  refine Ops.r (Run.extract rfl rfl) rfl ?_
  refine Ops.r (Run.extract rfl rfl) rfl ?_
  refine Ops.r (Run.asg rfl) rfl ?_
  refine Ops.r (Run.asg rfl) rfl ?_
  refine Ops.r (Run.asg rfl) rfl ?_
  refine Ops.nil ?_
  refine thenQ_n ?_
  refine VC.sub [(4, _), (5, _), (6, _)] (.cons rfl (.cons rfl (.cons rfl .nil))) ?_
  refine VC.ret ?_
  refine end3 rfl rfl rfl ?_
  exact ⟨rfl, hf1⟩

end Go.Proofs.YtenbjndldenkfaaGreatDoor

namespace Go.Proofs.YtenbjndldenkfaaGreatDoor
open Go.RowKit

/-! ### pieces -/
/-- What is ahead of the first piece, and the pieces. -/
def gluP (b : Tx) : List Tx → List Tx
  | [] => [b]
  | p :: ps => (b ++ p) :: ps
theorem gluP_gluP (a b : Tx) (l : List Tx) : gluP a (gluP b l) = gluP (a ++ b) l := by
  cases l <;> simp [gluP]
theorem gluP_nil {l : List Tx} (h : l ≠ []) : gluP [] l = l := by
  cases l with
  | nil => exact absurd rfl h
  | cons p ps => rfl
/-- A text's pieces; is it within quotes? -/
def pcs : Bool → Tx → List Tx
  | _, [] => [[]]
  | b, [x] => if x = 59 ∧ b = false then [[], []] else [[x]]
  | b, x :: y :: r =>
    if b = true ∧ x = 92 then gluP [x, y] (pcs b r)
    else if x = 34 then gluP [x] (pcs (!b) (y :: r))
    else if x = 59 ∧ b = false then [] :: pcs b (y :: r)
    else gluP [x] (pcs b (y :: r))
theorem gluP_ne (b : Tx) (l : List Tx) : gluP b l ≠ [] := by cases l <;> simp [gluP]
theorem pcs_ne (b : Bool) (s : Tx) : pcs b s ≠ [] := by
  match s with
  | [] => simp [pcs]
  | [x] => unfold pcs; split <;> simp
  | x :: y :: r =>
    unfold pcs
    split
    · exact gluP_ne _ _
    · split
      · exact gluP_ne _ _
      · split
        · simp
        · exact gluP_ne _ _
theorem pcs_esc (y : UInt8) (r : Tx) : pcs true (92 :: y :: r) = gluP [92, y] (pcs true r) := by
  conv => lhs; unfold pcs
  rw [if_pos ⟨rfl, rfl⟩]
theorem pcs_esc_end : pcs true [92] = gluP [92] (pcs true []) := by decide
theorem pcs_quote (b : Bool) (r : Tx) : pcs b (34 :: r) = gluP [34] (pcs (!b) r) := by
  cases r with
  | nil => cases b <;> decide
  | cons y r =>
    conv => lhs; unfold pcs
    rw [if_neg (by simp), if_pos rfl]
theorem pcs_cut (r : Tx) : pcs false (59 :: r) = [] :: pcs false r := by
  cases r with
  | nil => decide
  | cons y r =>
    conv => lhs; unfold pcs
    rw [if_neg (by simp), if_neg (by decide), if_pos ⟨rfl, rfl⟩]
theorem pcs_other {b : Bool} {x : UInt8} (h1 : ¬ (b = true ∧ x = 92)) (h2 : x ≠ 34) (h3 : ¬ (x = 59 ∧ b = false)) (r : Tx) : pcs b (x :: r) = gluP [x] (pcs b r) := by
  cases r with
  | nil => unfold pcs; rw [if_neg h3]; simp [gluP]
  | cons y r =>
    conv => lhs; unfold pcs
    rw [if_neg h1, if_neg h2, if_neg h3]
theorem gluP_mem {b : Tx} {l : List Tx} {n : Nat} (hl : l ≠ []) (h : ∀ p ∈ l, p.length ≤ n) : ∀ p ∈ gluP b l, p.length ≤ b.length + n := by
  cases l with
  | nil => exact absurd rfl hl
  | cons p ps =>
    intro q hq
    simp only [gluP, List.mem_cons] at hq
    rcases hq with rfl | hq
    · have := h p (by simp); simp; omega
    · have := h q (by simp [hq]); omega
theorem pcs_len : ∀ (n : Nat) (b : Bool) (s : Tx), s.length ≤ n → ∀ p ∈ pcs b s, p.length ≤ s.length
  | _, _, [], _ => by simp [pcs]
  | _, b, [x], _ => by unfold pcs; split <;> simp
  | 0, _, _ :: _ :: _, h => by simp at h
  | n + 1, b, x :: y :: r, h => by
    have ih1 := pcs_len n b r (by simp at h; omega)
    have ih2 := fun b => pcs_len n b (y :: r) (by simp at h ⊢; omega)
    unfold pcs
    split
    · intro p hp; have := gluP_mem (pcs_ne _ _) ih1 p hp; simp at this ⊢; omega
    · split
      · intro p hp; have := gluP_mem (pcs_ne _ _) (ih2 (!b)) p hp; simp at this ⊢; omega
      · split
        · intro p hp
          simp only [List.mem_cons] at hp
          rcases hp with rfl | hp
          · simp
          · have := ih2 b p hp; simp at this ⊢; omega
        · intro p hp; have := gluP_mem (pcs_ne _ _) (ih2 b) p hp; simp at this ⊢; omega
theorem gluP_count (b : Tx) {l : List Tx} (hl : l ≠ []) : (gluP b l).length = l.length := by
  cases l with
  | nil => exact absurd rfl hl
  | cons p ps => rfl
theorem pcs_count : ∀ (n : Nat) (b : Bool) (s : Tx), s.length ≤ n → (pcs b s).length ≤ s.length + 1
  | _, _, [], _ => by simp [pcs]
  | _, b, [x], _ => by unfold pcs; split <;> simp
  | 0, _, _ :: _ :: _, h => by simp at h
  | n + 1, b, x :: y :: r, h => by
    have ih1 := pcs_count n b r (by simp at h; omega)
    have ih2 := fun b => pcs_count n b (y :: r) (by simp at h ⊢; omega)
    unfold pcs
    split
    · rw [gluP_count _ (pcs_ne _ _)]; simp at ih1 ⊢; omega
    · split
      · rw [gluP_count _ (pcs_ne _ _)]; have := ih2 (!b); simp at this ⊢; omega
      · split
        · have := ih2 b; simp at this ⊢; omega
        · rw [gluP_count _ (pcs_ne _ _)]; have := ih2 b; simp at this ⊢; omega

/-! ### values -/
/-- What stands in quotes. -/
def unq : Tx → Tx
  | [] => []
  | [x] => if x = 34 ∨ x = 92 then [] else [x]
  | x :: y :: r => if x = 34 then [] else if x = 92 then y :: unq r else x :: unq (y :: r)
theorem unq_end (r : Tx) : unq (34 :: r) = [] := by
  cases r with
  | nil => decide
  | cons y r => unfold unq; rw [if_pos rfl]
theorem unq_esc (y : UInt8) (r : Tx) : unq (92 :: y :: r) = y :: unq r := by
  conv => lhs; unfold unq
  rw [if_neg (by decide), if_pos rfl]
theorem unq_esc_end : unq [92] = [] := by decide
theorem unq_other {x : UInt8} (h1 : x ≠ 34) (h2 : x ≠ 92) (r : Tx) : unq (x :: r) = x :: unq r := by
  cases r with
  | nil => unfold unq; rw [if_neg (by simp [h1, h2])]; try rfl
  | cons y r =>
    conv => lhs; unfold unq
    rw [if_neg h1, if_neg h2]
theorem unq_len : ∀ (n : Nat) (s : Tx), s.length ≤ n → (unq s).length ≤ s.length
  | _, [], _ => by simp [unq]
  | _, [x], _ => by unfold unq; split <;> simp
  | 0, _ :: _ :: _, h => by simp at h
  | n + 1, x :: y :: r, h => by
    have ih1 := unq_len n r (by simp at h; omega)
    have ih2 := unq_len n (y :: r) (by simp at h ⊢; omega)
    unfold unq
    split
    · simp
    · split
      · simp at ih1 ⊢; omega
      · simp at ih2 ⊢; omega
/-- A text up to its first blank. -/
def noB : Tx → Tx
  | [] => []
  | x :: r => if Bl x then [] else x :: noB r
theorem noB_all : ∀ {s : Tx}, (∀ c ∈ s, ¬ Bl c) → noB s = s
  | [], _ => rfl
  | x :: r, h => by
    unfold noB
    rw [if_neg (h x (by simp)), noB_all fun c hc => h c (by simp [hc])]
theorem noB_take : ∀ {s : Tx} {i : Nat}, i < s.length → (∀ c ∈ s.take i, ¬ Bl c) → (∀ c, s[i]? = some c → Bl c) → noB s = s.take i
  | [], i, h, _, _ => by simp at h
  | x :: r, 0, _, _, h2 => by unfold noB; rw [if_pos (h2 x rfl)]; rfl
  | x :: r, i + 1, h, h1, h2 => by
    unfold noB
    rw [if_neg (h1 x (by simp)), noB_take (i := i) (by simpa using h) (fun c hc => h1 c (by simp [hc])) (fun c hc => h2 c (by simpa using hc))]
    rfl
def valQ (s : Tx) : Tx := match leftB s with
  | [] => []
  | x :: r => if x = 34 then unq r else noB (x :: r)
theorem noB_len : ∀ s : Tx, (noB s).length ≤ s.length
  | [] => Nat.le_refl _
  | x :: r => by
    have := noB_len r
    unfold noB
    split
    · simp
    · simp; omega
theorem valQ_len (s : Tx) : (valQ s).length ≤ s.length := by
  have h := leftB_le s
  unfold valQ
  split
  · simp
  · rename_i x r hx
    rw [hx] at h
    split
    · have := unq_len _ r (Nat.le_refl _); simp at h; omega
    · exact Nat.le_trans (noB_len _) h

/-! ### trimmed texts -/
theorem leftB_append : ∀ a b : Tx, leftB (a ++ b) = if leftB a = [] then leftB b else leftB a ++ b
  | [], b => by simp [leftB]
  | x :: r, b => by
    have ih := leftB_append r b
    by_cases hx : Bl x
    · have e1 : leftB (x :: r ++ b) = leftB (r ++ b) := by show leftB (x :: (r ++ b)) = _; rw [leftB, if_pos hx]
      have e2 : leftB (x :: r) = leftB r := by rw [leftB, if_pos hx]
      rw [e1, e2, ih]
    · have e1 : leftB (x :: r ++ b) = x :: (r ++ b) := by show leftB (x :: (r ++ b)) = _; rw [leftB, if_neg hx]
      have e2 : leftB (x :: r) = x :: r := by rw [leftB, if_neg hx]
      rw [e1, e2, if_neg (by simp)]
      rfl
theorem rightB_cons (x : UInt8) (r : Tx) : rightB (x :: r) = if rightB r = [] then (if Bl x then [] else [x]) else x :: rightB r := by
  unfold rightB
  rw [List.reverse_cons, leftB_append]
  by_cases h : leftB r.reverse = []
  · rw [if_pos h, h, if_pos (by simp), leftB]
    split <;> simp [leftB]
  · rw [if_neg h, if_neg (by simpa using h)]
    simp
theorem trim_comm : ∀ s : Tx, rightB (leftB s) = leftB (rightB s)
  | [] => rfl
  | x :: r => by
    have ih := trim_comm r
    by_cases hx : Bl x
    · have e2 : leftB (x :: r) = leftB r := by rw [leftB, if_pos hx]
      rw [e2, ih, rightB_cons]
      by_cases h : rightB r = []
      · rw [if_pos h, if_pos hx, h]
      · rw [if_neg h]
        conv => rhs; rw [leftB, if_pos hx]
    · have e2 : leftB (x :: r) = x :: r := by rw [leftB, if_neg hx]
      rw [e2, rightB_cons]
      split
      · show [x] = leftB [x]
        rw [leftB, if_neg hx]
      · rw [leftB, if_neg hx]
def trimQ (s : Tx) : Tx := leftB (rightB s)
theorem trimQ_len (s : Tx) : (trimQ s).length ≤ s.length := Nat.le_trans (leftB_le _) (rightB_le _)

/-! ### media -/
abbrev Par := Tx × Tx
structure Med where
  ty : Tx
  sub : Tx
  ps : List Par
def med0 : Med := ⟨[116, 101, 120, 116], [112, 108, 97, 105, 110], []⟩
def nameQ (p : Tx) : Tx := smallS (trimQ (befF 61 p))
def IsPar (p : Tx) : Prop := 61 ∈ p ∧ TokQ (nameQ p)
instance (p : Tx) : Decidable (IsPar p) := by unfold IsPar; infer_instance
def parQ (p : Tx) : List Par := if IsPar p then [(nameQ p, valQ (aftF 61 p))] else []
def IsMed (p : Tx) : Prop := 47 ∈ trimQ p ∧ TokQ (befF 47 (trimQ p)) ∧ TokQ (aftF 47 (trimQ p))
instance (p : Tx) : Decidable (IsMed p) := by unfold IsMed; infer_instance
def medOf (p : Tx) (ps : List Tx) : Med := if IsMed p then ⟨smallS (befF 47 (trimQ p)), smallS (aftF 47 (trimQ p)), ps.flatMap parQ⟩ else med0
def medQ (s : Tx) : Med := match pcs false s with
  | [] => med0
  | p :: ps => medOf p ps
def PC1 (p : Par) : List Value := [encStr p.1, encStr p.2]
theorem PC1_len (p : Par) : (PC1 p).length = 2 := rfl
theorem PC1_one (p : Par) : ∀ u ∈ PC1 p, u.oneCell' = true := by
  intro u hu
  simp only [PC1, List.mem_cons, List.not_mem_nil, or_false] at hu
  rcases hu with rfl | rfl <;> rfl
def PC (l : List Par) : List Value := l.flatMap PC1
theorem PC_append (a b : List Par) : PC (a ++ b) = PC a ++ PC b := by simp [PC]
theorem PC_one (l : List Par) : ∀ u ∈ PC l, u.oneCell' = true := flat_one PC1 PC1_one l
theorem parQ_count (p : Tx) : (parQ p).length ≤ 1 := by unfold parQ; split <;> simp
theorem pars_count : ∀ ps : List Tx, (ps.flatMap parQ).length ≤ ps.length
  | [] => Nat.le_refl _
  | p :: ps => by
    have := parQ_count p
    have := pars_count ps
    simp only [List.flatMap_cons, List.length_append, List.length_cons]
    omega
end Go.Proofs.YtenbjndldenkfaaGreatDoor

namespace Go.Proofs.YtenbjndldenkfaaGreatDoor
open Go.RowKit Go.Sort

def hdB : Tx → Bool
  | [] => false
  | x :: _ => decide (Bl x)
theorem bl_nat (c : UInt8) : Bl c ↔ (c.toNat = 32 ∨ c.toNat = 9) := by
  show (c = 32 ∨ c = 9) ↔ _
  rw [← UInt8.toNat_inj, ← UInt8.toNat_inj]
  exact Iff.rfl
theorem drop_cons {α : Type} {s : List α} {i : Nat} (h : i < s.length) : s.drop i = s[i] :: s.drop (i + 1) := by rw [List.drop_eq_getElem_cons h]
theorem take_snoc {α : Type} {s : List α} {i : Nat} (h : i < s.length) : s.take (i + 1) = s.take i ++ [s[i]] := by rw [List.take_add_one, List.getElem?_eq_getElem h]; rfl
end Go.Proofs.YtenbjndldenkfaaGreatDoor

namespace Go.Proofs.YtenbjndldenkfaaGreatDoor
open Go.RowKit Go.Sort

section
variable {P : Program} {Γ : Env} {w : World} {dst : Option Tmp} {pos : String} {after : Array Edge} {g : Option (Nat × Bool)} {T : TypeId}
/-- A call of a function without a body, whose answer is known. -/
theorem Run.ext {f : FuncId} {xs : List Operand} {vs : List Value} {ts : Array TypeId} {v : Value} (hv : evs Γ xs vs) (hf : ∀ w, (callFunc f vs.toArray).run P w = .ok (.value v) w) :
    Run P ⟨dst, .call ⟨.value (.func f), xs.toArray, ts⟩, T, pos, after, g⟩ Γ w v := fun ρ hρ => by
  have e := evs_map hρ xs vs hv
  have e2 : ρ (.func f) = .func (.func f) #[] #[] := hρ _ _ rfl
  simp [execOp, resolve, e2, Deferred.ofValue, invoke, e, hf]
theorem Run.convAny {src dstT : TypeId} {x : Operand} {u v : Value} (hx : ev? Γ x = some u) (h : (convert src dstT u).run P w = .ok v w) : Run P ⟨dst, .convert src dstT x, T, pos, after, g⟩ Γ w v := fun ρ hρ => by
  simp [execOp, hρ _ _ hx, h]
theorem Run.neqSameP {t yT e : TypeId} {j : TypeInfo} {x y : Operand} {a : Addr} (hx : ev? Γ x = some (.pointer (some a))) (hy : ev? Γ y = some (.pointer (some a))) (ht : P.underlying t = some (.pointer e)) (he : P.info? e = some j) :
    Run P ⟨dst, .binOp .neq t x y yT, T, pos, after, g⟩ Γ w (.bool false) := fun ρ hρ => by
  simp [execOp, hρ _ _ hx, hρ _ _ hy, eqGuard, Lib.run_neq_ptr_same w a ht he]
end
/-- A builder of its own, and the octets that it holds. -/
def Bld (w : World) (b : Nat) (bs : Tx) : Prop := ∃ p A c, (p = none ∨ p = some (⟨b, 0, none⟩ : Addr)) ∧ Blk w b 50 #[.pointer p, .slice A bs.length c] ∧ Own w 5 1 A bs.length c (U8 bs)
theorem Bld.isB {w : World} {b B : Nat} {bs : Tx} {p A : Option Addr} {c : Nat} (hp : p = none ∨ p = some (⟨b, 0, none⟩ : Addr)) (hb : Blk w b 50 #[.pointer p, .slice A bs.length c]) (ho : Own w 5 1 A bs.length c (U8 bs)) (hB : B ≤ b) (hA : ∀ x ∈ ob A, B ≤ x) :
    Lib.IsBuilder 50 5 B b (Lib.byteCells bs) w := by
  have key : Lib.BuilderAt 50 5 B b (.pointer p) (Lib.byteCells bs) w := by
    have hlen : (Lib.byteCells bs).length = bs.length := Lib.byteCells_length bs
    refine ⟨hB, .slice A bs.length c, hb, ⟨by rw [hlen, Nat.mul_one], ?_⟩, ?_⟩
    · rw [hlen]
      rcases ho.cases with ⟨rfl, h1, h2, _⟩ | ⟨g, cur, rfl, h1, h2, h3, h4, h5⟩
      · exact .inl ⟨by rw [h1, h2], h1⟩
      · exact .inr ⟨g, c, cur, rfl, hA g (by simp [ob]), h1, h2, h3, h4, h5⟩
    · have hn := ho.ne_blk hb (by decide)
      cases A with
      | none => simp [Value.ownBlock]
      | some a => simp only [Value.ownBlock, ne_eq, Option.some.injEq]; intro h; exact hn (by simp [ob, h])
  rcases hp with rfl | rfl
  · exact .inl key
  · exact .inr key
theorem noEsc (x : Value) (w : World) : (callFunc 89 #[x]).run Tryz.prog w = .ok (.value x) w := by
  rw [run_callFunc_extern Tryz.func89 (by kernel_rfl) (by kernel_rfl) (by kernel_rfl) (e := Extern.AbiNoEscape.same) (by kernel_rfl), Lib.run_noEscape]
  rfl
theorem Blk.shape {w : World} {g : Nat} {t : TypeId} {cs : Array Value} (h : Blk w g t cs) : w.shape? g = some (t, cs.size) := by
  have h : w.heap[g]? = some (.cells cs t (0, 0)) := h
  simp [World.shape?, h]
theorem bsize : (Tryz.prog.info? 50).map (·.size) = some 2 := by kernel_rfl
theorem blies : liesAt Tryz.prog Tryz.prog.depth 50 (2 / Tryz.prog.cellsOf 50) 0 50 1 = true := by kernel_rfl
set_option maxRecDepth 100000 in
theorem copyCheck_spec (b : Nat) (p : Option Addr) (v : Value) (w : World) (hp : p = none ∨ p = some (⟨b, 0, none⟩ : Addr)) (hb : Blk w b 50 #[.pointer p, v]) :
    Calls Tryz.prog 57 #[.pointer (some ⟨b, 0, none⟩)] w fun e w' => e = .returned (.tuple #[]) ∧ Blk w' b 50 #[.pointer (some ⟨b, 0, none⟩), v] ∧ Frm [b] w w' := by
  obtain ⟨j, hj, hjs⟩ := Option.map_eq_some_iff.1 bsize
  refine VC.calls (nt := 20) (res := #[]) Tryz.func57 rfl Tryz.ntmps57 Tryz.results57 rfl ?_
  refine VC.seq ?_
  refine VC.region ?_
  refine Ops.r (Run.mv rfl) rfl ?_
  refine Ops.r (Run.nilck rfl) rfl ?_
  refine Ops.r (Run.fieldAddr rfl Tryz.underlying50 rfl Tryz.sizeOf48 (by decide)) rfl ?_
  refine Ops.r (Run.load rfl Tryz.isAgg48 (hb.cell 0)) rfl ?_
  refine Ops.r (Run.eqlNilP rfl rfl Tryz.underlying48) rfl ?_
  refine Ops.nil ?_
  refine thenQ_n ?_
  refine VC.sub [(0, _), (6, _)] (.cons rfl (.cons rfl .nil)) ?_
  refine VC.condB rfl (fun hc1 => ?_) (fun hc1 => ?_)
  · skip
    have hpn : p = none := Option.isNone_iff_eq_none.1 hc1
    subst hpn
    refine VC.region ?_
    refine Ops.r (Run.mv rfl) rfl ?_
    refine Ops.r (Run.mv rfl) rfl ?_
    refine Ops.r (Run.convAny rfl (Lib.run_to_unsafe _ ⟨b, 0, none⟩ Tryz.underlying48 Tryz.underlying115 hj (by rw [hjs]; decide) hb.shape (Nat.zero_lt_succ 1))) rfl ?_
    refine Ops.r (Run.ext (evs.cons rfl evs.nil) (noEsc _)) rfl ?_
    refine Ops.r (Run.convAny rfl (Lib.run_from_unsafe _ ⟨b, 0, none⟩ Tryz.underlying115 Tryz.underlying48 hj hb.shape blies)) rfl ?_
    refine Ops.r (Run.nilck rfl) rfl ?_
    refine Ops.r (Run.fieldAddr rfl Tryz.underlying50 rfl Tryz.sizeOf48 (by decide)) rfl ?_
    refine Ops.st (Acts.store rfl rfl Tryz.sizeOf48 hb rfl rfl) ?_
    rintro w3 ⟨hb3, hf3, _⟩
    refine Ops.nil ?_
    refine end0n ?_
    exact ⟨rfl, hb3, hf3⟩
  · skip
    have hps : p = some (⟨b, 0, none⟩ : Addr) := hp.resolve_left (fun h => by rw [h] at hc1; cases hc1)
    subst hps
    refine VC.seq ?_
    refine VC.region ?_
    refine Ops.r (Run.mv rfl) rfl ?_
    refine Ops.r (Run.nilck rfl) rfl ?_
    refine Ops.r (Run.fieldAddr rfl Tryz.underlying50 rfl Tryz.sizeOf48 (by decide)) rfl ?_
    refine Ops.r (Run.load rfl Tryz.isAgg48 (hb.cell 0)) rfl ?_
    refine Ops.r (Run.mv rfl) rfl ?_
    refine Ops.r (Run.neqSameP rfl rfl Tryz.underlying48 hj) rfl ?_
    refine Ops.nil ?_
    refine thenQ_n ?_
    refine VC.sub [(19, _)] (.cons rfl .nil) ?_
    refine VC.condF rfl (rfl) ?_
    refine VC.skip ?_
    refine end0n ?_
    exact ⟨rfl, hb, Frm.refl _ _⟩

set_option maxRecDepth 100000 in
theorem writeByte_spec (b : Nat) (bs : Tx) (x : UInt8) (p A : Option Addr) (c : Nat) (w : World) (hp : p = none ∨ p = some (⟨b, 0, none⟩ : Addr)) (hb : Blk w b 50 #[.pointer p, .slice A bs.length c]) (ho : Own w 5 1 A bs.length c (U8 bs)) (hl : bs.length ≤ 1000000) :
    Calls Tryz.prog 27 #[.pointer (some ⟨b, 0, none⟩), .int .u8 ((x.toNat : Nat) : Int)] w fun e w' => e = .returned .nilIface ∧ ∃ A2 c2, Blk w' b 50 #[.pointer (some ⟨b, 0, none⟩), .slice A2 (bs ++ [x]).length c2] ∧ Own w' 5 1 A2 (bs ++ [x]).length c2 (U8 (bs ++ [x])) ∧ Frm (b :: ob A) w w' ∧ ∀ y ∈ ob A2, y ∈ ob A ∨ w.heap.size ≤ y := by
  refine VC.calls (nt := 17) (res := #[.tmp 4]) Tryz.func27 rfl Tryz.ntmps27 Tryz.results27 rfl ?_
  refine VC.seq ?_
  refine VC.region ?_
  refine Ops.r (Run.asg rfl) rfl ?_
  refine Ops.nil ?_
  refine thenQ_n ?_
  refine VC.sub [(0, _), (1, _)] (.cons rfl (.cons rfl .nil)) ?_
  refine VC.seq ?_
  refine VC.region ?_
  refine Ops.r (Run.mv rfl) rfl ?_
  refine Ops.cl (Enters.fn (evs.cons rfl evs.nil) Tryz.call57) (copyCheck_spec b p _ _ hp hb) rfl ?_
  rintro e w1 ⟨rfl, hb1, hf1⟩
  refine ⟨_, rfl, ?_⟩
  have ho1 := ho.frm hf1 (fun y hy => by have := ho.ne_blk hb (by decide); simp; rintro rfl; exact this hy)
  have hs1 := hf1.size
  refine Ops.nil ?_
  refine thenQ_n ?_
  refine VC.sub [(0, _), (1, _)] (.cons rfl (.cons rfl .nil)) ?_
  refine VC.seq ?_
  refine VC.region ?_
  refine Ops.r (Run.mv rfl) rfl ?_
  refine Ops.r (Run.mv rfl) rfl ?_
  refine Ops.r (Run.nilck rfl) rfl ?_
  refine Ops.r (Run.fieldAddr rfl Tryz.underlying50 rfl Tryz.sizeOf22 (by decide)) rfl ?_
  refine Ops.r (Run.load rfl Tryz.isAgg22 (hb1.cell 1)) rfl ?_
  refine Ops.r (Run.mv rfl) rfl ?_
  refine Ops.m (Does.buildS1 rfl Tryz.underlying22 Tryz.sizeOf5 zero5 (by decide) (by decide) rfl rfl) rfl ?_
  rintro _ w2 ⟨rfl, hF2⟩
  have hb2 := hb1.frm hF2.frm (by simp)
  have hs2 := hF2.frm.size
  have hrd : Rd w2 1 (some ⟨w1.heap.size, 0, none⟩) 1 (U8 [x]) := Rd.of_blk (n := 1) (size := 1) hF2.blk rfl
  refine Ops.m (Does.app rfl rfl Tryz.underlying22 (info5) rfl (by decide) (ho1.frm hF2.frm (by simp)) hrd (U8_one _) (by omega) (by omega)) rfl ?_
  rintro _ w3 ⟨A3, c3, rfl, ho3, hf3, hob3⟩
  have hnb : b ∉ ob A := ho.ne_blk hb (by decide)
  have hb3 := hb2.frm hf3 hnb
  have ho3 : Own w3 5 1 A3 (bs ++ [x]).length c3 (U8 (bs ++ [x])) := by
    rw [show (bs ++ [x]).length = bs.length + 1 by simp, show U8 (bs ++ [x]) = U8 bs ++ U8 [x] by simp [U8]]
    exact ho3
  refine Ops.r (Run.nilck rfl) rfl ?_
  refine Ops.r (Run.fieldAddr rfl Tryz.underlying50 rfl Tryz.sizeOf22 (by decide)) rfl ?_
  refine Ops.st (Acts.store rfl rfl Tryz.sizeOf22 hb3 rfl rfl) ?_
  rintro w4 ⟨hb4, hf4, _⟩
  have ho4 := ho3.frm hf4 (fun y hy => by have := ho3.ne_blk hb3 (by decide); simp; rintro rfl; exact this hy)
  refine Ops.nil ?_
  refine thenQ_n ?_
  refine VC.sub [] .nil ?_
  refine VC.seq ?_
  refine VC.region ?_
  refine Ops.r (Run.asg rfl) rfl ?_
  refine Ops.nil ?_
  refine thenQ_n ?_
  refine VC.ret ?_
  refine end1 rfl ?_
  refine ⟨rfl, A3, c3, by rw [show (bs ++ [x]).length = bs.length + 1 by simp]; exact hb4, ho4, ?_, fun y hy => ?_⟩
  · exact (((hf1.mono (T := b :: ob A) (by simp)).trans hF2.frm (by simp)).trans hf3 (fun y hy => .inl (by simp [hy]))).trans hf4 (fun y hy => .inl (by simp at hy; simp [hy]))
  · rcases hob3 with h | h
    · exact .inl (h ▸ hy)
    · right
      rw [h] at hy
      simp at hy
      omega

def hdQ : Tx → Bool
  | [] => false
  | x :: _ => decide (x = 34)
def hdU : Tx → Bool
  | [] => false
  | x :: _ => decide (x ≠ 34)
theorem valQ_plain {q q1 : Tx} (h : leftB q = q1) (hq : hdQ q1 = false) : valQ q = noB q1 := by
  unfold valQ
  rw [h]
  cases q1 with
  | nil => rfl
  | cons x r => exact if_neg (of_decide_eq_false hq)

set_option maxRecDepth 100000 in
theorem value_spec (q : Tx) (w : World) (hq : q.length ≤ 1000000) : Calls Tryz.prog 184 #[encStr q] w fun e w' => e = .returned (encStr (valQ q)) ∧ Frm [] w w' := by
  refine VC.calls (nt := 50) (res := #[.tmp 2]) Tryz.func184 rfl Tryz.ntmps184 Tryz.results184 rfl ?_
  refine VC.seq ?_
  refine VC.region ?_
  refine Ops.r (Run.asg rfl) rfl ?_
  refine Ops.nil ?_
  refine thenQ_n ?_
  refine VC.sub [(0, _)] (.cons rfl .nil) ?_
  refine VC.seq ?_
  refine VC.region ?_
  refine Ops.r (Run.mv rfl) rfl ?_
  refine Ops.cl (Enters.fn (evs.cons rfl (evs.cons rfl evs.nil)) Tryz.call209) (trimLS_spec q _ hq) rfl ?_
  rintro e wt ⟨rfl, K⟩
  refine ⟨_, rfl, ?_⟩
  have hql := leftB_le q
  generalize hq1 : leftB q = q1 at *
  refine Ops.r (Run.asg rfl) rfl ?_
  refine Ops.nil ?_
  refine thenQ_n ?_
  refine VC.sub [(0, _)] (.cons rfl .nil) ?_
  refine VC.seq ?_
  refine VC.seq ?_
  refine VC.split1 [(0, _)] (.cons rfl .nil) 14 (.bool (decide (hdQ q1 = false))) ?_ ?_
  · refine VC.region ?_
    refine Ops.r (Run.mv rfl) rfl ?_
    refine Ops.r (Run.eqlT rfl rfl) rfl ?_
    by_cases hs9 : q1 = []
    · skip
      have hhd : hdQ q1 = false := by rw [hs9]; rfl
      refine Ops.r (Run.mv rfl) rfl ?_
      refine Ops.sk rfl au rfl ?_
      refine Ops.sk rfl au rfl ?_
      refine Ops.sk rfl au rfl ?_
      refine Ops.r (Run.pickT rfl rfl au) rfl ?_
      refine Ops.nil ?_
      refine thenQ_n ⟨(.cons (congrArg (fun b => some (Value.bool b)) (by first | (rw [hhd]; rfl) | (rw [hhd]; first | exact (decide_eq_decide.2 (by simp only [decide_eq_false_iff_not, decide_eq_true_eq]; rw [hzb]; try omega)) | (symm; exact decide_eq_false (by simp only [decide_eq_false_iff_not, decide_eq_true_eq]; rw [hzb]; omega)) | (symm; exact decide_eq_true (by simp only [decide_eq_false_iff_not, decide_eq_true_eq]; rw [hzb]; omega))))) (.cons rfl .nil)), rfl⟩
    · skip
      obtain ⟨y, r2, rfl⟩ : ∃ y r2, q1 = y :: r2 := by
        cases q1 with
        | nil => exact absurd rfl hs9
        | cons a r => exact ⟨a, r, rfl⟩
      have hhd : hdQ (y :: r2) = decide (y = 34) := rfl
      have hzb : y = 34 ↔ y.toNat = 34 := UInt8.toNat_inj.symm
      refine Ops.r (Run.mv rfl) rfl ?_
      refine Ops.rg rfl au (Run.mv rfl) rfl ?_
      refine Ops.rg rfl au (Run.indexT 0 rfl rfl Tryz.underlying9 rfl) rfl ?_
      refine Ops.rg rfl au (Run.bin rfl rfl (Bin.neqN _ 34)) rfl ?_
      by_cases hs13 : y.toNat ≠ 34
      · skip
        refine Ops.r (Run.pickF rfl rfl au) rfl ?_
        refine Ops.nil ?_
        refine thenQ_n ⟨(.cons (congrArg (fun b => some (Value.bool b)) (by first | (rw [hhd]; rfl) | (rw [hhd]; first | exact (decide_eq_decide.2 (by simp only [decide_eq_false_iff_not, decide_eq_true_eq]; rw [hzb]; try omega)) | (symm; exact decide_eq_false (by simp only [decide_eq_false_iff_not, decide_eq_true_eq]; rw [hzb]; omega)) | (symm; exact decide_eq_true (by simp only [decide_eq_false_iff_not, decide_eq_true_eq]; rw [hzb]; omega))))) (.cons rfl .nil)), rfl⟩
      · skip
        refine Ops.r (Run.pickF rfl rfl au) rfl ?_
        refine Ops.nil ?_
        refine thenQ_n ⟨(.cons (congrArg (fun b => some (Value.bool b)) (by first | (rw [hhd]; rfl) | (rw [hhd]; first | exact (decide_eq_decide.2 (by simp only [decide_eq_false_iff_not, decide_eq_true_eq]; rw [hzb]; try omega)) | (symm; exact decide_eq_false (by simp only [decide_eq_false_iff_not, decide_eq_true_eq]; rw [hzb]; omega)) | (symm; exact decide_eq_true (by simp only [decide_eq_false_iff_not, decide_eq_true_eq]; rw [hzb]; omega))))) (.cons rfl .nil)), rfl⟩
  · intro Γ hΓ
    refine thenQ_n (VC.sub _ hΓ ?_)
    refine VC.condD rfl (fun hc1 => ?_) (fun hc1 => ?_)
    · skip
      have hv := valQ_plain hq1 hc1
      refine VC.seq ?_
      refine VC.seq ?_
      refine VC.region ?_
      refine Ops.r (Run.mv rfl) rfl ?_
      refine Ops.cl (Enters.fn (evs.cons rfl (evs.cons rfl evs.nil)) Tryz.call210) (idxAny_spec q1 _ (by omega)) rfl ?_
      rintro e w1 ⟨k, rfl, hF, hf1⟩
      refine ⟨_, rfl, ?_⟩
      have K := K.trans hf1 (by simp)
      refine Ops.r (Run.asg rfl) rfl ?_
      refine Ops.nil ?_
      refine thenQ_n ?_
      refine VC.sub [(0, _), (3, _)] (.cons rfl (.cons rfl .nil)) ?_
      refine VC.seq ?_
      refine VC.region ?_
      refine Ops.r (Run.mv rfl) rfl ?_
      refine Ops.r (Run.bin rfl rfl (Bin.geq _ 0)) rfl ?_
      refine Ops.nil ?_
      refine thenQ_n ?_
      refine VC.sub [(0, _), (3, _), (18, _)] (.cons rfl (.cons rfl (.cons rfl .nil))) ?_
      refine VC.condD rfl (fun hc2 => ?_) (fun hc2 => ?_)
      · skip
        obtain ⟨i, rfl, hil, hno, hbl⟩ := hF.resolve_left (by rintro ⟨rfl, _⟩; omega)
        refine VC.seq ?_
        refine VC.region ?_
        refine Ops.r (Run.mv rfl) rfl ?_
        refine Ops.r (Run.mv rfl) rfl ?_
        refine Ops.r (Run.sliceT 0 i rfl Tryz.underlying9 evB.none_ (evB.some_ rfl) (by omega) (by omega)) rfl ?_
        refine Ops.r (Run.asg rfl) rfl ?_
        refine Ops.nil ?_
        refine thenQ_n ?_
        refine VC.sub [(2, _)] (.cons rfl .nil) ?_
        refine VC.ret ?_
        refine thenQ_r (thenQ_r (end1 rfl ?_))
        exact ⟨by rw [hv, noB_take hil hno hbl]; simp, K⟩
      · skip
        have hall : ∀ c ∈ q1, ¬ Bl c := (hF.resolve_right (by rintro ⟨i, rfl, _⟩; omega)).2
        refine VC.skip ?_
        refine thenQ_n ?_
        refine VC.sub [(0, _)] (.cons rfl .nil) ?_
        refine VC.seq ?_
        refine VC.region ?_
        refine Ops.r (Run.mv rfl) rfl ?_
        refine Ops.r (Run.asg rfl) rfl ?_
        refine Ops.nil ?_
        refine thenQ_n ?_
        refine VC.sub [(2, _)] (.cons rfl .nil) ?_
        refine VC.ret ?_
        refine thenQ_r (end1 rfl ?_)
        exact ⟨by rw [hv, noB_all hall], K⟩
    · skip
      obtain ⟨r2, rfl⟩ : ∃ r2, q1 = 34 :: r2 := by
        cases q1 with
        | nil => exact absurd rfl hc1
        | cons a r => exact ⟨r, by rw [show a = 34 from Classical.byContradiction fun h => hc1 (decide_eq_false h)]⟩
      have hv : valQ q = unq r2 := by unfold valQ; rw [hq1]; rfl
      refine VC.skip ?_
      refine thenQ_n ?_
      refine VC.sub [(0, _)] (.cons rfl .nil) ?_
      refine VC.seq ?_
      refine VC.region ?_
      refine Ops.m (Does.alloc zero50) rfl ?_
      rintro _ w1 ⟨rfl, hF1⟩
      have hb4 : Blk w1 wt.heap.size 50 #[.pointer none, .slice none ([] : Tx).length 0] := hF1.blk
      have hg4 := K.size
      have K := K.trans hF1.frm (by simp)
      generalize hg : wt.heap.size = g4 at *
      refine Ops.nil ?_
      refine thenQ_n ?_
      refine VC.seq ?_
      refine VC.seq ?_
      refine VC.region ?_
      refine Ops.r (v := .int .i64 ((1 : Nat) : Int)) (Run.asg rfl) rfl ?_
      refine Ops.nil ?_
      refine thenQ_n ?_
      refine VC.block ?_
      refine VC.loop (σ := Nat × Tx × Option Addr × Option Addr × Nat) (fun s => [(0, encStr (34 :: r2)), (4, .pointer (some ⟨g4, 0, none⟩)), (5, .int .i64 ((s.1 : Nat) : Int))]) (fun s wr => s.1 ≤ (34 :: r2).length + 1 ∧ unq r2 = s.2.1 ++ unq ((34 :: r2).drop s.1) ∧ s.2.1.length ≤ s.1 ∧ (s.2.2.1 = none ∨ s.2.2.1 = some (⟨g4, 0, none⟩ : Addr)) ∧ Blk wr g4 50 #[.pointer s.2.2.1, .slice s.2.2.2.1 s.2.1.length s.2.2.2.2] ∧ Own wr 5 1 s.2.2.2.1 s.2.1.length s.2.2.2.2 (U8 s.2.1) ∧ (∀ x ∈ ob s.2.2.2.1, w.heap.size ≤ x) ∧ Frm [] w wr) (fun s => (34 :: r2).length + 1 - s.1) (1, [], none, none, 0) (.cons rfl (.cons rfl (.cons rfl .nil))) ⟨by simp, rfl, by simp, .inl rfl, hb4, Own.nil _ _ _, by simp [ob], K⟩ ?_
      rintro ⟨i, b, p, A, c⟩ wr ⟨hi, hu, hbl, hp, hb4, ho, hub, K⟩
      dsimp only at hi hu hbl hp hb4 ho hub ⊢
      refine VC.seq ?_
      refine VC.seq ?_
      refine VC.split1 [(0, _), (4, _), (5, _)] (.cons rfl (.cons rfl (.cons rfl .nil))) 32 (.bool (decide (hdU ((34 :: r2).drop i) = true))) ?_ ?_
      · refine VC.region ?_
        refine Ops.r (Run.mv rfl) rfl ?_
        refine Ops.r (Run.mv rfl) rfl ?_
        refine Ops.r (Run.lenT rfl Tryz.underlying9) rfl ?_
        refine Ops.r (Run.bin rfl rfl (Bin.lssN _ _)) rfl ?_
        by_cases hs26 : i < (34 :: r2).length
        · skip
          have hgx : (34 :: r2)[i]? = some (34 :: r2)[i] := List.getElem?_eq_getElem hs26
          have hhd : hdU ((34 :: r2).drop i) = decide ((34 :: r2)[i] ≠ 34) := by rw [drop_cons hs26]; rfl
          generalize hz : (34 :: r2)[i] = z at *
          have hzb : z ≠ 34 ↔ z.toNat ≠ 34 := not_congr UInt8.toNat_inj.symm
          refine Ops.r (Run.mv rfl) rfl ?_
          refine Ops.rg rfl au (Run.mv rfl) rfl ?_
          refine Ops.rg rfl au (Run.mv rfl) rfl ?_
          refine Ops.rg rfl au (Run.indexT _ rfl rfl Tryz.underlying9 hgx) rfl ?_
          refine Ops.rg rfl au (Run.bin rfl rfl (Bin.neqN _ 34)) rfl ?_
          by_cases hs31 : z.toNat ≠ 34
          · skip
            refine Ops.r (Run.pickT rfl rfl au) rfl ?_
            refine Ops.nil ?_
            refine thenQ_n ⟨(.cons (congrArg (fun b => some (Value.bool b)) (by first | (rw [hhd]; rfl) | (rw [hhd]; first | exact (decide_eq_decide.2 (by simp only [decide_eq_false_iff_not, decide_eq_true_eq]; rw [hzb]; try omega)) | (symm; exact decide_eq_false (by simp only [decide_eq_false_iff_not, decide_eq_true_eq]; rw [hzb]; omega)) | (symm; exact decide_eq_true (by simp only [decide_eq_false_iff_not, decide_eq_true_eq]; rw [hzb]; omega))))) (.cons rfl (.cons rfl (.cons rfl .nil)))), rfl⟩
          · skip
            refine Ops.r (Run.pickT rfl rfl au) rfl ?_
            refine Ops.nil ?_
            refine thenQ_n ⟨(.cons (congrArg (fun b => some (Value.bool b)) (by first | (rw [hhd]; rfl) | (rw [hhd]; first | exact (decide_eq_decide.2 (by simp only [decide_eq_false_iff_not, decide_eq_true_eq]; rw [hzb]; try omega)) | (symm; exact decide_eq_false (by simp only [decide_eq_false_iff_not, decide_eq_true_eq]; rw [hzb]; omega)) | (symm; exact decide_eq_true (by simp only [decide_eq_false_iff_not, decide_eq_true_eq]; rw [hzb]; omega))))) (.cons rfl (.cons rfl (.cons rfl .nil)))), rfl⟩
        · skip
          have hhd : hdU ((34 :: r2).drop i) = false := by rw [List.drop_eq_nil_of_le (by omega)]; rfl
          refine Ops.r (Run.mv rfl) rfl ?_
          refine Ops.sk rfl au rfl ?_
          refine Ops.sk rfl au rfl ?_
          refine Ops.sk rfl au rfl ?_
          refine Ops.sk rfl au rfl ?_
          refine Ops.r (Run.pickF rfl rfl au) rfl ?_
          refine Ops.nil ?_
          refine thenQ_n ⟨(.cons (congrArg (fun b => some (Value.bool b)) (by first | (rw [hhd]; rfl) | (rw [hhd]; first | exact (decide_eq_decide.2 (by simp only [decide_eq_false_iff_not, decide_eq_true_eq]; rw [hzb]; try omega)) | (symm; exact decide_eq_false (by simp only [decide_eq_false_iff_not, decide_eq_true_eq]; rw [hzb]; omega)) | (symm; exact decide_eq_true (by simp only [decide_eq_false_iff_not, decide_eq_true_eq]; rw [hzb]; omega))))) (.cons rfl (.cons rfl (.cons rfl .nil)))), rfl⟩
      · intro Γ hΓ
        refine thenQ_n (VC.sub _ hΓ ?_)
        refine VC.condD rfl (fun hc3 => ?_) (fun hc3 => ?_)
        · skip
          have hil : i < (34 :: r2).length := Nat.lt_of_not_le fun h => by rw [List.drop_eq_nil_of_le h] at hc3; cases hc3
          have hgx : (34 :: r2)[i]? = some (34 :: r2)[i] := List.getElem?_eq_getElem hil
          have hdc := drop_cons hil
          have hz34 : (34 :: r2)[i] ≠ 34 := by rw [hdc] at hc3; exact of_decide_eq_true hc3
          generalize hz : (34 :: r2)[i] = z at *
          refine VC.skip ?_
          refine thenQ_n ?_
          refine VC.sub [(0, _), (4, _), (5, _)] (.cons rfl (.cons rfl (.cons rfl .nil))) ?_
          refine VC.seq ?_
          refine VC.block ?_
          refine VC.seq ?_
          refine VC.seq ?_
          refine VC.region ?_
          refine Ops.r (Run.mv rfl) rfl ?_
          refine Ops.r (Run.mv rfl) rfl ?_
          refine Ops.r (Run.indexT _ rfl rfl Tryz.underlying9 hgx) rfl ?_
          refine Ops.r (Run.bin rfl rfl (Bin.eqlN _ 92)) rfl ?_
          refine Ops.nil ?_
          refine thenQ_n ?_
          refine VC.sub [(0, _), (4, _), (5, _), (38, _)] (.cons rfl (.cons rfl (.cons rfl (.cons rfl .nil)))) ?_
          refine VC.meet (σ := Nat) (fun s => [(0, encStr (34 :: r2)), (4, .pointer (some ⟨g4, 0, none⟩)), (5, .int .i64 ((s : Nat) : Int))]) (fun s wr2 => i ≤ s ∧ s ≤ (34 :: r2).length ∧ (s < (34 :: r2).length → ∀ z, (34 :: r2)[s]? = some z → unq r2 = b ++ z :: unq ((34 :: r2).drop (s + 1))) ∧ ((34 :: r2).length ≤ s → unq r2 = b) ∧ wr = wr2) ?_ ?_
          · skip
            refine VC.condD rfl (fun hc4 => ?_) (fun hc4 => ?_)
            · skip
              have hz92 : z = 92 := UInt8.toNat_inj.1 hc4
              refine VC.region ?_
              refine Ops.r (Run.mv rfl) rfl ?_
              refine Ops.r (Run.bin rfl rfl (Bin.add_i64 _ 1 (by omega))) rfl ?_
              refine Ops.r (Run.asg rfl) rfl ?_
              refine Ops.nil ?_
              refine thenQ_n ⟨(i + 1), (.cons rfl (.cons rfl (.cons rfl .nil))), ?_⟩
              refine ⟨by omega, by omega, fun hj z2 hz2 => ?_, fun hj => ?_, rfl⟩
              · rw [List.getElem?_eq_getElem hj] at hz2
                cases hz2
                rw [hu, hdc, hz92, drop_cons hj, unq_esc]
              · rw [hu, hdc, hz92, List.drop_eq_nil_of_le (by omega), unq_esc_end, List.append_nil]
            · skip
              refine VC.skip ?_
              refine thenQ_n ⟨i, (.cons rfl (.cons rfl (.cons rfl .nil))), ?_⟩
              refine ⟨by omega, by omega, fun hj z2 hz2 => ?_, fun hj => by omega, rfl⟩
              rw [hgx] at hz2
              cases hz2
              rw [hu, hdc, unq_other hz34 (fun h => hc4 (by rw [h]; rfl))]
          · skip
            rintro j _ ⟨hij, hjl, hin, hout, rfl⟩ Γ hΓ
            refine thenQ_n (VC.sub _ hΓ ?_)
            refine VC.seq ?_
            refine VC.region ?_
            refine Ops.r (Run.mv rfl) rfl ?_
            refine Ops.r (Run.mv rfl) rfl ?_
            refine Ops.r (Run.lenT rfl Tryz.underlying9) rfl ?_
            refine Ops.r (Run.bin rfl rfl (Bin.lssN _ _)) rfl ?_
            refine Ops.nil ?_
            refine thenQ_n ?_
            refine VC.sub [(0, _), (4, _), (5, _), (44, _)] (.cons rfl (.cons rfl (.cons rfl (.cons rfl .nil)))) ?_
            refine VC.condD rfl (fun hc5 => ?_) (fun hc5 => ?_)
            · skip
              have hgj : (34 :: r2)[j]? = some (34 :: r2)[j] := List.getElem?_eq_getElem hc5
              have huj := hin hc5 _ hgj
              generalize hzj : (34 :: r2)[j] = zj at *
              refine VC.region ?_
              refine Ops.r (Run.mv rfl) rfl ?_
              refine Ops.r (Run.mv rfl) rfl ?_
              refine Ops.r (Run.indexT _ rfl rfl Tryz.underlying9 hgj) rfl ?_
              refine Ops.cl (Enters.fn (evs.cons rfl (evs.cons rfl evs.nil)) Tryz.call27) (writeByte_spec g4 b zj p A c _ hp hb4 ho (by simp only [List.length_cons] at *; omega)) rfl ?_
              rintro e w5 ⟨rfl, A5, c5, hb5, ho5, hf5, hob5⟩
              refine ⟨_, rfl, ?_⟩
              have hub5 := up_step hub hob5 K.size
              have K5 := Frm.own K hf5 (fun y hy => by
                simp only [List.mem_cons] at hy
                rcases hy with rfl | hy
                · omega
                · exact hub y hy)
              refine Ops.nil ?_
              refine blockQ_n (thenQ_n ?_)
              refine VC.sub [(0, _), (4, _), (5, _)] (.cons rfl (.cons rfl (.cons rfl .nil))) ?_
              refine VC.region ?_
              refine Ops.r (Run.mv rfl) rfl ?_
              refine Ops.r (Run.bin rfl rfl (Bin.add_i64 _ 1 (by omega))) rfl ?_
              refine Ops.r (Run.asg rfl) rfl ?_
              refine Ops.nil ?_
              refine thenQ_n ⟨(j + 1, b ++ [zj], some ⟨g4, 0, none⟩, A5, c5), (.cons rfl (.cons rfl (.cons rfl .nil))), ?_, ?_⟩
              · skip
                exact ⟨by dsimp only; omega, by rw [huj]; simp, by simp; omega, .inr rfl, hb5, ho5, hub5, K5⟩
              · skip
                simp only; omega
            · skip
              have huj := hout (by omega)
              refine VC.skip ?_
              refine blockQ_n (thenQ_n ?_)
              refine VC.sub [(0, _), (4, _), (5, _)] (.cons rfl (.cons rfl (.cons rfl .nil))) ?_
              refine VC.region ?_
              refine Ops.r (Run.mv rfl) rfl ?_
              refine Ops.r (Run.bin rfl rfl (Bin.add_i64 _ 1 (by omega))) rfl ?_
              refine Ops.r (Run.asg rfl) rfl ?_
              refine Ops.nil ?_
              refine thenQ_n ⟨(j + 1, b, p, A, c), (.cons rfl (.cons rfl (.cons rfl .nil))), ?_, ?_⟩
              · skip
                exact ⟨by dsimp only; omega, by rw [huj, List.drop_eq_nil_of_le (by omega)]; simp [unq], by dsimp only; omega, hp, hb4, ho, hub, K⟩
              · skip
                simp only; omega
        · skip
          have hfin : unq r2 = b := by
            rw [hu]
            by_cases hil : i < (34 :: r2).length
            · have hz34 : (34 :: r2)[i] = 34 := Classical.byContradiction fun h => hc3 (by rw [drop_cons hil]; exact decide_eq_true h)
              rw [drop_cons hil, hz34, unq_end, List.append_nil]
            · rw [List.drop_eq_nil_of_le (by omega)]; simp [unq]
          refine VC.exit ?_
          refine thenQ_x (thenQ_x (blockQ_x ?_))
          refine thenQ_n ?_
          refine VC.sub [(4, _)] (.cons rfl .nil) ?_
          refine VC.seq ?_
          refine VC.region ?_
          refine Ops.cl (Enters.fn (evs.cons rfl evs.nil) Tryz.call28) ((Tryz.Builder_String_any w.heap.size g4 b _ (Bld.isB hp hb4 ho (by omega) hub) K.size)) rfl ?_
          rintro e w6 ⟨rfl, hbe⟩
          refine ⟨_, rfl, ?_⟩
          have K6 := Frm.of_below (K.below.trans hbe)
          refine Ops.r (Run.asg rfl) rfl ?_
          refine Ops.nil ?_
          refine thenQ_n ?_
          refine VC.sub [(2, _)] (.cons rfl .nil) ?_
          refine VC.ret ?_
          refine end1 rfl ?_
          exact ⟨by rw [hv, hfin], K6⟩

end Go.Proofs.YtenbjndldenkfaaGreatDoor

namespace Go.Proofs.YtenbjndldenkfaaGreatDoor
open Go.RowKit Go.Sort

theorem gluP_last {a : List Tx} {b : Tx} {qt : Bool} : a ++ gluP b (pcs qt []) = a ++ [b] := by simp [pcs, gluP]
theorem cur_snoc {q : Tx} {f i : Nat} (hf : f ≤ i) (hi : i < q.length) : (q.drop f).take (i + 1 - f) = (q.drop f).take (i - f) ++ [q[i]] := by
  have hl : i - f < (q.drop f).length := by rw [List.length_drop]; omega
  rw [show i + 1 - f = (i - f) + 1 by omega, take_snoc hl]
  congr 2
  rw [List.getElem_drop]
  congr 1
  omega

set_option maxRecDepth 100000 in
theorem pieces_iter (q : Tx) (g1 : Nat) (hs : q.length ≤ 1000000) :
    Iter Tryz.prog 208 #[.pointer (some ⟨g1, 0, none⟩)] (fun x => #[encStr x]) [] [g1] (fun w => Blk w g1 9 #[encStr q]) (pcs false q) := by
  intro l J Jx w hJ hJx hb1 hY h0
  refine VC.calls (nt := 52) (res := #[]) Tryz.func208 rfl Tryz.ntmps208 Tryz.results208 rfl ?_
  refine VC.seq ?_
  refine VC.region ?_
  refine Ops.r (v := .int .i64 ((0 : Nat) : Int)) (Run.asg rfl) rfl ?_
  refine Ops.r (Run.asg rfl) rfl ?_
  refine Ops.nil ?_
  refine thenQ_n ?_
  refine VC.seq ?_
  refine VC.seq ?_
  refine VC.region ?_
  refine Ops.r (v := .int .i64 ((0 : Nat) : Int)) (Run.asg rfl) rfl ?_
  refine Ops.nil ?_
  refine thenQ_n ?_
  refine VC.block ?_
  refine VC.loop (σ := Nat × Nat × List Tx × Tx × Bool) (fun s1 => [(0, .func (.yield l) #[] #[]), (1, .pointer (some ⟨g1, 0, none⟩)), (3, .int .i64 ((s1.2.1 : Nat) : Int)), (4, .bool s1.2.2.2.2), (5, .int .i64 ((s1.1 : Nat) : Int))]) (fun s1 wr => s1.1 ≤ q.length + 1 ∧ s1.2.1 ≤ s1.1 ∧ s1.2.1 ≤ q.length ∧ s1.2.2.2.1 = (q.drop s1.2.1).take (s1.1 - s1.2.1) ∧ pcs false q = s1.2.2.1 ++ gluP s1.2.2.2.1 (pcs s1.2.2.2.2 (q.drop s1.1)) ∧ Blk wr g1 9 #[encStr q] ∧ J s1.2.2.1 wr) (fun s1 => q.length + 1 - s1.1) (0, 0, [], [], false) (.cons rfl (.cons rfl (.cons rfl (.cons rfl (.cons rfl .nil))))) ⟨by omega, by simp, by simp, by simp, by rw [List.drop_zero, List.nil_append, gluP_nil (pcs_ne _ q)], hb1, h0⟩ ?_
  rintro ⟨i, f, a, b, qt⟩ wr ⟨hi, hfi, hfl, hb, hsp, hb1, hj⟩
  dsimp only at hi hfi hfl hb hsp hj ⊢
  refine VC.seq ?_
  refine VC.seq ?_
  refine VC.region ?_
  refine Ops.r (Run.mv rfl) rfl ?_
  refine Ops.r (Run.load rfl Tryz.isAgg9 (hb1.cell 0)) rfl ?_
  refine Ops.r (Run.lenT rfl Tryz.underlying9) rfl ?_
  refine Ops.r (Run.bin rfl rfl (Bin.lssN _ _)) rfl ?_
  refine Ops.nil ?_
  refine thenQ_n ?_
  refine VC.sub [(0, _), (1, _), (3, _), (4, _), (5, _), (9, _)] (.cons rfl (.cons rfl (.cons rfl (.cons rfl (.cons rfl (.cons rfl .nil)))))) ?_
  refine VC.condD rfl (fun hc1 => ?_) (fun hc1 => ?_)
  · skip
    have hgx : q[i]? = some q[i] := List.getElem?_eq_getElem hc1
    have hdc := drop_cons hc1
    have hcs := cur_snoc hfi hc1
    rw [← hb] at hcs
    generalize hx : q[i] = x at *
    refine VC.skip ?_
    refine thenQ_n ?_
    refine VC.sub [(0, _), (1, _), (3, _), (4, _), (5, _)] (.cons rfl (.cons rfl (.cons rfl (.cons rfl (.cons rfl .nil))))) ?_
    refine VC.seq ?_
    refine VC.block ?_
    refine VC.block ?_
    refine VC.seq ?_
    refine VC.split1 [(0, _), (1, _), (3, _), (4, _), (5, _)] (.cons rfl (.cons rfl (.cons rfl (.cons rfl (.cons rfl .nil))))) 12 (.bool (decide (qt = true ∧ x.toNat = 92))) ?_ ?_
    · refine VC.region ?_
      refine Ops.r (Run.mv rfl) rfl ?_
      by_cases hs13 : qt = true
      · skip
        refine Ops.r (Run.mv rfl) rfl ?_
        refine Ops.rg rfl au (Run.load rfl Tryz.isAgg9 (hb1.cell 0)) rfl ?_
        refine Ops.rg rfl au (Run.mv rfl) rfl ?_
        refine Ops.rg rfl au (Run.indexT _ rfl rfl Tryz.underlying9 hgx) rfl ?_
        refine Ops.rg rfl au (Run.bin rfl rfl (Bin.eqlN _ 92)) rfl ?_
        by_cases hs18 : x.toNat = 92
        · skip
          refine Ops.r (Run.pickT rfl rfl au) rfl ?_
          refine Ops.r (Run.asg rfl) rfl ?_
          refine Ops.nil ?_
          refine thenQ_n ⟨(.cons (congrArg (fun b => some (Value.bool b)) (by first | (simp [*]; done) | (simp_all; done))) (.cons rfl (.cons rfl (.cons rfl (.cons rfl (.cons rfl .nil)))))), rfl⟩
        · skip
          refine Ops.r (Run.pickT rfl rfl au) rfl ?_
          refine Ops.r (Run.asg rfl) rfl ?_
          refine Ops.nil ?_
          refine thenQ_n ⟨(.cons (congrArg (fun b => some (Value.bool b)) (by first | (simp [*]; done) | (simp_all; done))) (.cons rfl (.cons rfl (.cons rfl (.cons rfl (.cons rfl .nil)))))), rfl⟩
      · skip
        refine Ops.r (Run.mv rfl) rfl ?_
        refine Ops.sk rfl au rfl ?_
        refine Ops.sk rfl au rfl ?_
        refine Ops.sk rfl au rfl ?_
        refine Ops.sk rfl au rfl ?_
        refine Ops.r (Run.pickF rfl rfl au) rfl ?_
        refine Ops.r (Run.asg rfl) rfl ?_
        refine Ops.nil ?_
        refine thenQ_n ⟨(.cons (congrArg (fun b => some (Value.bool b)) (by first | (simp [*]; done) | (simp_all; done))) (.cons rfl (.cons rfl (.cons rfl (.cons rfl (.cons rfl .nil)))))), rfl⟩
    · intro Γ hΓ
      refine thenQ_n (VC.sub _ hΓ ?_)
      refine VC.condD rfl (fun hc2 => ?_) (fun hc2 => ?_)
      · skip
        obtain ⟨rfl, h92⟩ := hc2
        have hx92 : x = 92 := UInt8.toNat_inj.1 h92
        subst hx92
        refine VC.region ?_
        refine Ops.r (Run.mv rfl) rfl ?_
        refine Ops.r (Run.bin rfl rfl (Bin.add_i64 _ 1 (by omega))) rfl ?_
        refine Ops.r (Run.asg rfl) rfl ?_
        refine Ops.nil ?_
        refine blockQ_n (blockQ_n (thenQ_n ?_))
        refine VC.sub [(0, _), (1, _), (3, _), (4, _), (5, _)] (.cons rfl (.cons rfl (.cons rfl (.cons rfl (.cons rfl .nil))))) ?_
        refine VC.region ?_
        refine Ops.r (Run.mv rfl) rfl ?_
        refine Ops.r (Run.bin rfl rfl (Bin.add_i64 _ 1 (by omega))) rfl ?_
        refine Ops.r (Run.asg rfl) rfl ?_
        refine Ops.nil ?_
        refine thenQ_n ⟨(i + 2, f, a, (q.drop f).take (i + 2 - f), true), (.cons rfl (.cons rfl (.cons rfl (.cons rfl (.cons rfl .nil))))), ?_, ?_⟩
        · skip
          refine ⟨by dsimp only; omega, by dsimp only; omega, hfl, rfl, ?_, hb1, hj⟩
          dsimp only
          by_cases h2 : i + 1 < q.length
          · have hcs2 := cur_snoc (show f ≤ i + 1 by omega) h2
            rw [show i + 1 + 1 = i + 2 by omega] at hcs2
            rw [hcs2, hcs, hsp, hdc, drop_cons h2, pcs_esc, gluP_gluP]
            simp
          · rw [hsp, hdc, List.drop_eq_nil_of_le (show q.length ≤ i + 1 by omega), List.drop_eq_nil_of_le (show q.length ≤ i + 2 by omega), pcs_esc_end, gluP_gluP, ← hcs]
            rw [List.take_of_length_le (show (q.drop f).length ≤ i + 2 - f by simp; omega), List.take_of_length_le (show (q.drop f).length ≤ i + 1 - f by simp; omega)]
        · skip
          simp only; omega
      · skip
        refine VC.seq ?_
        refine VC.region ?_
        refine Ops.r (Run.load rfl Tryz.isAgg9 (hb1.cell 0)) rfl ?_
        refine Ops.r (Run.mv rfl) rfl ?_
        refine Ops.r (Run.indexT _ rfl rfl Tryz.underlying9 hgx) rfl ?_
        refine Ops.r (Run.bin rfl rfl (Bin.eqlN _ 34)) rfl ?_
        refine Ops.r (Run.asg rfl) rfl ?_
        refine Ops.nil ?_
        refine thenQ_n ?_
        refine VC.sub [(0, _), (1, _), (3, _), (4, _), (5, _), (22, _)] (.cons rfl (.cons rfl (.cons rfl (.cons rfl (.cons rfl (.cons rfl .nil)))))) ?_
        refine VC.condD rfl (fun hc3 => ?_) (fun hc3 => ?_)
        · skip
          have hx34 : x = 34 := UInt8.toNat_inj.1 hc3
          have hsp2 : pcs false q = a ++ gluP (b ++ [x]) (pcs (!qt) (q.drop (i + 1))) := by rw [hsp, hdc, hx34, pcs_quote, gluP_gluP]
          refine VC.region ?_
          refine Ops.r (Run.mv rfl) rfl ?_
          refine Ops.r (Run.not rfl) rfl ?_
          refine Ops.r (Run.asg rfl) rfl ?_
          refine Ops.nil ?_
          refine blockQ_n (blockQ_n (thenQ_n ?_))
          refine VC.sub [(0, _), (1, _), (3, _), (4, _), (5, _)] (.cons rfl (.cons rfl (.cons rfl (.cons rfl (.cons rfl .nil))))) ?_
          refine VC.region ?_
          refine Ops.r (Run.mv rfl) rfl ?_
          refine Ops.r (Run.bin rfl rfl (Bin.add_i64 _ 1 (by omega))) rfl ?_
          refine Ops.r (Run.asg rfl) rfl ?_
          refine Ops.nil ?_
          refine thenQ_n ⟨(i + 1, f, a, b ++ [x], !qt), (.cons rfl (.cons rfl (.cons rfl (.cons rfl (.cons rfl .nil))))), ?_, ?_⟩
          · skip
            exact ⟨by dsimp only; omega, by dsimp only; omega, hfl, hcs.symm, hsp2, hb1, hj⟩
          · skip
            simp only; omega
        · skip
          refine VC.seq ?_
          refine VC.split1 [(0, _), (1, _), (3, _), (4, _), (5, _)] (.cons rfl (.cons rfl (.cons rfl (.cons rfl (.cons rfl .nil))))) 29 (.bool (decide (qt = false ∧ x.toNat = 59))) ?_ ?_
          · refine VC.region ?_
            refine Ops.r (Run.mv rfl) rfl ?_
            by_cases hs30 : qt = true
            · skip
              refine Ops.r (Run.not rfl) rfl ?_
              refine Ops.r (Run.mv rfl) rfl ?_
              refine Ops.sk rfl au rfl ?_
              refine Ops.sk rfl au rfl ?_
              refine Ops.sk rfl au rfl ?_
              refine Ops.sk rfl au rfl ?_
              refine Ops.r (Run.pickF rfl rfl au) rfl ?_
              refine Ops.r (Run.asg rfl) rfl ?_
              refine Ops.nil ?_
              refine thenQ_n ⟨(.cons (congrArg (fun b => some (Value.bool b)) (by first | (simp [*]; done) | (simp_all; done))) (.cons rfl (.cons rfl (.cons rfl (.cons rfl (.cons rfl .nil)))))), rfl⟩
            · skip
              refine Ops.r (Run.not rfl) rfl ?_
              refine Ops.r (Run.mv rfl) rfl ?_
              refine Ops.rg rfl au (Run.load rfl Tryz.isAgg9 (hb1.cell 0)) rfl ?_
              refine Ops.rg rfl au (Run.mv rfl) rfl ?_
              refine Ops.rg rfl au (Run.indexT _ rfl rfl Tryz.underlying9 hgx) rfl ?_
              refine Ops.rg rfl au (Run.bin rfl rfl (Bin.eqlN _ 59)) rfl ?_
              by_cases hs36 : x.toNat = 59
              · skip
                refine Ops.r (Run.pickT rfl rfl au) rfl ?_
                refine Ops.r (Run.asg rfl) rfl ?_
                refine Ops.nil ?_
                refine thenQ_n ⟨(.cons (congrArg (fun b => some (Value.bool b)) (by first | (simp [*]; done) | (simp_all; done))) (.cons rfl (.cons rfl (.cons rfl (.cons rfl (.cons rfl .nil)))))), rfl⟩
              · skip
                refine Ops.r (Run.pickT rfl rfl au) rfl ?_
                refine Ops.r (Run.asg rfl) rfl ?_
                refine Ops.nil ?_
                refine thenQ_n ⟨(.cons (congrArg (fun b => some (Value.bool b)) (by first | (simp [*]; done) | (simp_all; done))) (.cons rfl (.cons rfl (.cons rfl (.cons rfl (.cons rfl .nil)))))), rfl⟩
          · intro Γ hΓ
            refine thenQ_n (VC.sub _ hΓ ?_)
            refine VC.condD rfl (fun hc4 => ?_) (fun hc4 => ?_)
            · skip
              obtain ⟨hqt, h59⟩ := hc4
              have hx59 : x = 59 := UInt8.toNat_inj.1 h59
              have hsp2 : pcs false q = (a ++ [b]) ++ gluP [] (pcs qt (q.drop (i + 1))) := by rw [hsp, hdc, hx59, hqt, pcs_cut, gluP_nil (pcs_ne _ _)]; simp [gluP]
              have hpre : (a ++ [b]) <+: pcs false q := ⟨gluP [] (pcs qt (q.drop (i + 1))), hsp2.symm⟩
              refine VC.seq ?_
              refine VC.seq ?_
              refine VC.region ?_
              refine Ops.r (Run.mv rfl) rfl ?_
              refine Ops.r (Run.load rfl Tryz.isAgg9 (hb1.cell 0)) rfl ?_
              refine Ops.r (Run.mv rfl) rfl ?_
              refine Ops.r (Run.mv rfl) rfl ?_
              refine Ops.r (Run.sliceT f i rfl Tryz.underlying9 (evB.some_ rfl) (evB.some_ rfl) hfi (by omega)) rfl ?_
              rw [← hb]
              refine Ops.yield rfl rfl (evs.cons rfl evs.nil) ((by simpa using hY a b wr hj hpre : YieldsTo Tryz.prog l #[encStr _] wr _)) rfl rfl ?_
              rintro e w1 ⟨hoff, hR0⟩
              obtain ⟨yb, rfl, hR⟩ : ∃ yb : Bool, e = .returned (.bool yb) ∧ ((yb = true ∧ J (a ++ [b]) w1) ∨ (yb = false ∧ Jx (a ++ [b]) w1)) := by
                rcases hR0 with ⟨rfl, h⟩ | ⟨rfl, h⟩
                · exact ⟨true, rfl, .inl ⟨rfl, h⟩⟩
                · exact ⟨false, rfl, .inr ⟨rfl, h⟩⟩
              refine ⟨_, rfl, ?_⟩
              have hb1 := hoff.blk hb1 (by simp)
              refine Ops.r (Run.not rfl) rfl ?_
              refine Ops.nil ?_
              refine thenQ_n ?_
              refine VC.sub [(0, _), (1, _), (4, _), (5, _), (44, _)] (.cons rfl (.cons rfl (.cons rfl (.cons rfl (.cons rfl .nil))))) ?_
              refine VC.condB rfl (fun hc5 => ?_) (fun hc5 => ?_)
              · skip
                refine VC.ret ?_
                refine thenQ_r (blockQ_r (blockQ_r (thenQ_r (thenQ_r (blockQ_r (thenQ_r (end0 ?_)))))))
                exact ⟨⟨_, rfl⟩, .inr ⟨_, (hR.resolve_left (fun h => by rw [h.1] at hc5; simp at hc5)).2⟩⟩
              · skip
                refine VC.skip ?_
                refine thenQ_n ?_
                refine VC.sub [(0, _), (1, _), (4, _), (5, _)] (.cons rfl (.cons rfl (.cons rfl (.cons rfl .nil)))) ?_
                refine VC.region ?_
                refine Ops.r (Run.mv rfl) rfl ?_
                refine Ops.r (Run.bin rfl rfl (Bin.add_i64 _ 1 (by omega))) rfl ?_
                refine Ops.r (Run.asg rfl) rfl ?_
                refine Ops.nil ?_
                refine blockQ_n (blockQ_n (thenQ_n ?_))
                refine VC.sub [(0, _), (1, _), (3, _), (4, _), (5, _)] (.cons rfl (.cons rfl (.cons rfl (.cons rfl (.cons rfl .nil))))) ?_
                refine VC.region ?_
                refine Ops.r (Run.mv rfl) rfl ?_
                refine Ops.r (Run.bin rfl rfl (Bin.add_i64 _ 1 (by omega))) rfl ?_
                refine Ops.r (Run.asg rfl) rfl ?_
                refine Ops.nil ?_
                refine thenQ_n ⟨(i + 1, i + 1, a ++ [b], [], qt), (.cons rfl (.cons rfl (.cons rfl (.cons rfl (.cons rfl .nil))))), ?_, ?_⟩
                · skip
                  exact ⟨by dsimp only; omega, by dsimp only; omega, by dsimp only; omega, by simp, hsp2, hb1, (hR.resolve_right (fun h => by rw [h.1] at hc5; simp at hc5)).2⟩
                · skip
                  simp only; omega
            · skip
              have hsp2 : pcs false q = a ++ gluP (b ++ [x]) (pcs qt (q.drop (i + 1))) := by
                rw [hsp, hdc, pcs_other (fun h => hc2 ⟨h.1, by rw [h.2]; rfl⟩) (fun h => hc3 (by rw [h]; rfl)) (fun h => hc4 ⟨h.2, by rw [h.1]; rfl⟩), gluP_gluP]
              refine VC.skip ?_
              refine blockQ_n (blockQ_n (thenQ_n ?_))
              refine VC.sub [(0, _), (1, _), (3, _), (4, _), (5, _)] (.cons rfl (.cons rfl (.cons rfl (.cons rfl (.cons rfl .nil))))) ?_
              refine VC.region ?_
              refine Ops.r (Run.mv rfl) rfl ?_
              refine Ops.r (Run.bin rfl rfl (Bin.add_i64 _ 1 (by omega))) rfl ?_
              refine Ops.r (Run.asg rfl) rfl ?_
              refine Ops.nil ?_
              refine thenQ_n ⟨(i + 1, f, a, b ++ [x], qt), (.cons rfl (.cons rfl (.cons rfl (.cons rfl (.cons rfl .nil))))), ?_, ?_⟩
              · skip
                exact ⟨by dsimp only; omega, by dsimp only; omega, hfl, hcs.symm, hsp2, hb1, hj⟩
              · skip
                simp only; omega
  · skip
    have hfin : pcs false q = a ++ [b] := by rw [hsp, List.drop_eq_nil_of_le (by omega)]; exact gluP_last
    have hbq : (q.drop f).take (q.length - f) = b := by
      rw [hb, List.take_of_length_le (by simp), List.take_of_length_le (by simp; omega)]
    have hpre : (a ++ [b]) <+: pcs false q := ⟨[], by rw [hfin]; simp⟩
    refine VC.exit ?_
    refine thenQ_x (thenQ_x (blockQ_x ?_))
    refine thenQ_n ?_
    refine VC.sub [(0, _), (1, _), (3, _)] (.cons rfl (.cons rfl (.cons rfl .nil))) ?_
    refine VC.region ?_
    refine Ops.r (Run.mv rfl) rfl ?_
    refine Ops.r (Run.load rfl Tryz.isAgg9 (hb1.cell 0)) rfl ?_
    refine Ops.r (Run.mv rfl) rfl ?_
    refine Ops.r (Run.sliceT f q.length rfl Tryz.underlying9 (evB.some_ rfl) evB.none_ hfl (Nat.le_refl _)) rfl ?_
    rw [hbq]
    refine Ops.yield rfl rfl (evs.cons rfl evs.nil) ((by simpa using hY a b wr hj hpre : YieldsTo Tryz.prog l #[encStr _] wr _)) rfl rfl ?_
    rintro e w1 ⟨hoff, hR0⟩
    obtain ⟨yb, rfl, hR⟩ : ∃ yb : Bool, e = .returned (.bool yb) ∧ ((yb = true ∧ J (a ++ [b]) w1) ∨ (yb = false ∧ Jx (a ++ [b]) w1)) := by
      rcases hR0 with ⟨rfl, h⟩ | ⟨rfl, h⟩
      · exact ⟨true, rfl, .inl ⟨rfl, h⟩⟩
      · exact ⟨false, rfl, .inr ⟨rfl, h⟩⟩
    refine ⟨_, rfl, ?_⟩
    have hb1 := hoff.blk hb1 (by simp)
    refine Ops.nil ?_
    refine end0n ?_
    refine ⟨⟨_, rfl⟩, ?_⟩
    rcases hR with ⟨_, h⟩ | ⟨_, h⟩
    · exact .inl (by rw [hfin]; exact h)
    · exact .inr ⟨_, h⟩

set_option maxRecDepth 100000 in
theorem pieces_spec (q : Tx) (w : World) : Calls Tryz.prog 181 #[encStr q] w fun e w' => Frm [] w w' ∧ ∃ g1, e = .returned (.func (.func 208) #[] #[.pointer (some ⟨g1, 0, none⟩)]) ∧ Blk w' g1 9 #[encStr q] ∧ w.heap.size ≤ g1 := by
  refine VC.calls (nt := 4) (res := #[.tmp 2]) Tryz.func181 rfl Tryz.ntmps181 Tryz.results181 rfl ?_
  refine VC.seq ?_
  refine VC.region ?_
  refine Ops.m (Does.box rfl) rfl ?_
  rintro _ w1 ⟨rfl, hF1⟩
  have hb1 := hF1.blk
  refine Ops.r (Run.asg rfl) rfl ?_
  refine Ops.nil ?_
  refine thenQ_n ?_
  refine VC.sub [(1, _)] (.cons rfl .nil) ?_
  refine VC.seq ?_
  refine VC.region ?_
  refine Ops.r (Run.mkFunc evs.nil (evs.cons rfl evs.nil)) rfl ?_
  refine Ops.r (Run.asg rfl) rfl ?_
  refine Ops.nil ?_
  refine thenQ_n ?_
  refine VC.sub [(2, _)] (.cons rfl .nil) ?_
  refine VC.ret ?_
  refine end1 rfl ?_
  exact ⟨hF1.frm, _, rfl, hb1, Nat.le_refl _⟩

end Go.Proofs.YtenbjndldenkfaaGreatDoor

namespace Go.Proofs.YtenbjndldenkfaaGreatDoor
open Go.RowKit Go.Sort

def mdQ : List Tx → Option Med
  | [] => some med0
  | p :: ps => if IsMed p then some (medOf p ps) else none
theorem mdQ_snoc {p x : Tx} {ps : List Tx} {m : Med} (h : mdQ (p :: ps) = some m) : mdQ (p :: ps ++ [x]) = some ⟨m.ty, m.sub, m.ps ++ parQ x⟩ := by
  have h : (if IsMed p then some (medOf p ps) else none) = some m := h
  split at h
  · rename_i hm
    cases h
    show (if IsMed p then _ else _) = _
    rw [if_pos hm]
    simp [medOf, hm]
  · cases h
theorem mdQ_all {q : Tx} {m : Med} (h : mdQ (pcs false q) = some m) : medQ q = m := by
  unfold medQ
  have hne := pcs_ne false q
  generalize pcs false q = l at *
  cases l with
  | nil => exact absurd rfl hne
  | cons p ps =>
    have h : (if IsMed p then some (medOf p ps) else none) = some m := h
    split at h
    · cases h; rfl
    · cases h
theorem medQ_bad {q p : Tx} (h : [p] <+: pcs false q) (hp : ¬ IsMed p) : medQ q = med0 := by
  obtain ⟨t, ht⟩ := h
  unfold medQ
  rw [← ht]
  show medOf p t = _
  unfold medOf
  rw [if_neg hp]
theorem mdQ_count {l : List Tx} {m : Med} (h : mdQ l = some m) : m.ps.length ≤ l.length := by
  cases l with
  | nil => cases h; simp [med0]
  | cons p ps =>
    have h : (if IsMed p then some (medOf p ps) else none) = some m := h
    split at h
    · rename_i hm
      cases h
      have := pars_count ps
      show (medOf p ps).ps.length ≤ _
      rw [medOf, if_pos hm, List.length_cons]
      show (ps.flatMap parQ).length ≤ _
      omega
    · cases h
theorem parQ_yes {x : Tx} (h : IsPar x) : parQ x = [(nameQ x, valQ (aftF 61 x))] := by unfold parQ; rw [if_pos h]
theorem parQ_no {x : Tx} (h : ¬ IsPar x) : parQ x = [] := by unfold parQ; rw [if_neg h]
theorem hrdP {w w' : World} {t : TypeId} {x : Par} (h : Fresh w w' t (PC1 x).toArray) : Rd w' 2 (some ⟨w.heap.size, 0, none⟩) 1 (PC [x]) := Rd.of_blk (n := 1) (size := 2) h.blk rfl
/-- A media, as it stands in cells. -/
def MdC (m : Med) (A : Option Addr) (c : Nat) : Array Value := #[encStr m.ty, encStr m.sub, .slice A m.ps.length c]
theorem MdC_one (m : Med) (A : Option Addr) (c : Nat) : ∀ u ∈ (MdC m A c).toList, u.oneCell' = true := by
  intro u hu
  simp only [MdC, List.mem_cons, List.not_mem_nil, or_false] at hu
  rcases hu with rfl | rfl | rfl <;> rfl
/-- What Read has of some pieces. -/
def ReI (w : World) (q : Tx) (g2 g3 g4 : Nat) (Bt : List Nat) (pre : List Tx) (W : World) : Prop :=
  ∃ (m : Med) (A : Option Addr) (c : Nat), mdQ pre = some m ∧ pre.length ≤ q.length + 1 ∧ Frm [] w W ∧ Blk W g2 67 #[encStr [], encStr [], .slice none 0 0] ∧ Blk W g3 67 (MdC m A c) ∧ Own W 102 2 A m.ps.length c (PC m.ps) ∧ Blk W g4 4 #[.bool pre.isEmpty] ∧ (∀ x ∈ ob A, w.heap.size ≤ x ∧ x ∉ Bt) ∧ (pre = [] → A = none ∧ c = 0)
def ReX (w : World) (q : Tx) (g2 : Nat) (e : Exit) (_pre : List Tx) (W : World) : Prop :=
  e = .ret ∧ medQ q = med0 ∧ Frm [] w W ∧ Blk W g2 67 (MdC med0 none 0)

set_option maxRecDepth 100000 in
theorem read_spec (q : Tx) (w : World) (hq : q.length ≤ 900000) :
    Calls Tryz.prog 139 #[encStr q] w fun e w' => Frm [] w w' ∧ ∃ A c, e = .returned (.agg (MdC (medQ q) A c)) ∧ Own w' 102 2 A (medQ q).ps.length c (PC (medQ q).ps) ∧ (∀ x ∈ ob A, w.heap.size ≤ x) := by
  have K := Frm.refl [] w
  refine DV.calls (nt := 67) (res := #[.cell 2 67]) Tryz.func139 rfl Tryz.ntmps139 Tryz.results139 rfl ?_
  refine DV.seq ?_
  refine DV.vc ?_
  refine VC.region ?_
  refine Ops.m (Does.alloc zero67) rfl ?_
  rintro _ w1 ⟨rfl, hF_w1⟩
  have hb2 := hF_w1.blk
  have hs2_K := K.size
  have K := Frm.trans K hF_w1.frm (by simp)
  generalize hg2 : w.heap.size = g2 at hb2 hs2_K ⊢
  refine Ops.nil ?_
  refine thenD_n ?_
  refine DV.seq ?_
  refine DV.vc ?_
  refine VC.region ?_
  refine Ops.r (Run.build (evs.cons rfl (evs.cons rfl evs.nil)) zero67 (places67).choose_spec.1 (places67).choose_spec.2 rfl) rfl ?_
  refine Ops.m (Does.alloc zero67) rfl ?_
  rintro _ w2 ⟨rfl, hF_w2⟩
  have hb3 := hF_w2.blk
  have hs3_K := K.size
  have lt_hb2_3 := hb2.lt
  have hb2 := hb2.frm hF_w2.frm (by simp)
  have K := Frm.trans K hF_w2.frm (by simp)
  generalize hg3 : w1.heap.size = g3 at hb3 hs3_K lt_hb2_3 ⊢
  refine Ops.st (Acts.storeA rfl rfl Tryz.sizeOf67 hb3 rfl (MdC_one med0 none 0)) ?_
  rintro w3 ⟨hbn_w3, hf_w3, hsz_w3⟩
  have hb2 := hb2.frm hf_w3 (by simp; omega)
  have hb3 : Blk w3 g3 67 (MdC med0 none 0) := hbn_w3
  have K := Frm.own K hf_w3 (fun y hy => by simp at hy; omega)
  refine Ops.nil ?_
  refine thenD_n ?_
  refine DV.sub [(0, _), (2, _), (3, _)] (.cons rfl (.cons rfl (.cons rfl .nil))) ?_
  refine DV.seq ?_
  refine DV.vc ?_
  refine VC.region ?_
  refine Ops.m (Does.alloc zero4) rfl ?_
  rintro _ w4 ⟨rfl, hF_w4⟩
  have hb4 := hF_w4.blk
  have hs4_K := K.size
  have lt_hb2_4 := hb2.lt
  have lt_hb3_4 := hb3.lt
  have hb2 := hb2.frm hF_w4.frm (by simp)
  have hb3 := hb3.frm hF_w4.frm (by simp)
  have K := Frm.trans K hF_w4.frm (by simp)
  generalize hg4 : w3.heap.size = g4 at hb4 hs4_K lt_hb2_4 lt_hb3_4 ⊢
  refine Ops.st (Acts.store rfl rfl Tryz.sizeOf4 hb4 rfl rfl) ?_
  rintro w5 ⟨hbn_w5, hf_w5, hsz_w5⟩
  have hb2 := hb2.frm hf_w5 (by simp; omega)
  have hb3 := hb3.frm hf_w5 (by simp; omega)
  have hb4 : Blk w5 g4 4 (#[.bool true]) := hbn_w5
  have K := Frm.own K hf_w5 (fun y hy => by simp at hy; omega)
  refine Ops.nil ?_
  refine thenD_n ?_
  refine DV.seq ?_
  refine DV.seq ?_
  refine DV.vc ?_
  refine VC.region ?_
  refine Ops.r (Run.mv rfl) rfl ?_
  refine Ops.cl (Enters.fn (evs.cons rfl evs.nil) Tryz.call181) (pieces_spec q _) rfl ?_
  rintro e w6 ⟨hf_w6, g1, rfl, hp1, hg1⟩
  have l2 := hb2.lt
  have l3 := hb3.lt
  have l4 := hb4.lt
  have l1 := hp1.lt
  refine ⟨_, rfl, ?_⟩
  have hb2 := hb2.frm hf_w6 (by simp)
  have hb3 := hb3.frm hf_w6 (by simp)
  have hb4 := hb4.frm hf_w6 (by simp)
  have K := Frm.trans K hf_w6 (by simp)
  refine Ops.nil ?_
  refine thenD_n ?_
  refine DV.sub [(2, _), (3, _), (4, _), (14, _)] (.cons rfl (.cons rfl (.cons rfl (.cons rfl .nil)))) ?_
  refine DV.block ?_
  have hKs := K.size
  refine DV.range (ps := [15]) (fun x => [encStr x]) (pieces_iter q g1 (by omega)) rfl Tryz.call208 (fun _ => rfl) rfl (ReI w q g2 g3 g4 [g1]) (ReX w q g2) (fun x => [(2, .pointer (some ⟨g2, 0, none⟩)), (3, .pointer (some ⟨g3, 0, none⟩)), (4, .pointer (some ⟨g4, 0, none⟩)), (5, encStr x)]) ?_ ?_ ?_ ?_ ?_ ?_ ?_ ?_ ?_ ?_ ?_
  · skip
    rintro pre W W' S ⟨m, A, c, h1, h2, h3, h4, h5, h6, h7, h8, h9⟩ hf hS
    exact ⟨m, A, c, h1, h2, h3.nc hf hS (by simp) K.size, h4.frm hf (h4.nc hS (by simp)), h5.frm hf (h5.nc hS (by simp)), h6.frm hf (h6.nc hS (by simp)), h7.frm hf (h7.nc hS (by simp)), h8, h9⟩
  · skip
    rintro e pre W W' S ⟨h1, h2, h3, h4⟩ hf hS
    exact ⟨h1, h2, h3.nc hf hS (by simp) K.size, h4.frm hf (h4.nc hS (by simp))⟩
  · skip
    exact fun W hf => hp1.frm hf (by simp)
  · skip
    simp
  · skip
    simp; omega
  · skip
    exact ⟨med0, none, 0, rfl, by simp, K, hb2, hb3, Own.nil _ _ _, hb4, by simp [ob], fun _ => ⟨rfl, rfl⟩⟩
  · intro l x W
    refine VC.sub [(2, _), (3, _), (4, _), (15, _)] (.cons rfl (.cons rfl (.cons rfl (.cons rfl .nil)))) ?_
    refine VC.region ?_
    refine Ops.r (Run.asg rfl) rfl ?_
    refine Ops.nil ?_
    refine thenQ_n ⟨rfl, (.cons rfl (.cons rfl (.cons rfl (.cons rfl .nil))))⟩
  · skip
    rintro l pre x W ⟨m, A, c, hm, hpl, K, hb2, hb3, hA, hb4, hAB, hnil⟩ hpre hsz hmk
    have hxm : x ∈ pcs false q := hpre.subset (by simp)
    have hxl := Nat.le_trans (pcs_len _ _ _ (Nat.le_refl _) x hxm) (show q.length ≤ 1000000 by omega)
    have hmc := mdQ_count hm
    have hpc := pcs_count _ false q (Nat.le_refl _)
    have KW := Frm.refl [] W
    have h20 := hb2
    have h30 := hb3
    have h40 := hb4
    have hA0 := hA
    have K0 := K
    refine VC.block ?_
    refine VC.seq ?_
    refine VC.seq ?_
    refine VC.region ?_
    refine Ops.r (Run.load rfl Tryz.isAgg4 (hb4.cell 0)) rfl ?_
    refine Ops.nil ?_
    refine thenQ_n ?_
    refine VC.condB rfl (fun hc1 => ?_) (fun hc1 => ?_)
    · skip
      obtain rfl : pre = [] := by simpa using hc1
      have h0m : m = med0 ∧ A = none ∧ c = 0 := ⟨by cases hm; rfl, hnil rfl⟩
      refine VC.seq ?_
      refine VC.region ?_
      refine Ops.r (Run.mv rfl) rfl ?_
      refine Ops.cl (Enters.fn (evs.cons rfl evs.nil) Tryz.call182) (ptrim_spec x _ hxl) rfl ?_
      rintro e W1 ⟨rfl, hf_W1⟩
      refine ⟨_, rfl, ?_⟩
      have hb2 := hb2.frm hf_W1 (by simp)
      have hb3 := hb3.frm hf_W1 (by simp)
      have hb4 := hb4.frm hf_W1 (by simp)
      have hA := hA.frm hf_W1 (by simp)
      have KW := Frm.trans KW hf_W1 (by simp)
      have K := Frm.trans K hf_W1 (by simp)
      have htl := trimQ_len x
      have hIM : IsMed x ↔ (47 ∈ trimQ x ∧ TokQ (befF 47 (trimQ x)) ∧ TokQ (aftF 47 (trimQ x))) := Iff.rfl
      have hmo : IsMed x → medOf x [] = ⟨smallS (befF 47 (trimQ x)), smallS (aftF 47 (trimQ x)), []⟩ := fun h => by unfold medOf; rw [if_pos h]; rfl
      have htq : leftB (rightB x) = trimQ x := rfl
      rw [htq]
      generalize htp : trimQ x = tp at *
      have hlb := bef_len 47 tp
      refine Ops.cl (Enters.fn (evs.cons rfl (evs.cons rfl evs.nil)) Tryz.call79) (cut_spec tp 47 _ (by omega)) rfl ?_
      rintro e W2 ⟨rfl, hf_W2⟩
      refine ⟨_, rfl, ?_⟩
      have hb2 := hb2.frm hf_W2 (by simp)
      have hb3 := hb3.frm hf_W2 (by simp)
      have hb4 := hb4.frm hf_W2 (by simp)
      have hA := hA.frm hf_W2 (by simp)
      have KW := Frm.trans KW hf_W2 (by simp)
      have K := Frm.trans K hf_W2 (by simp)
      refine Ops.r (Run.mv rfl) rfl ?_
      refine Ops.r (Run.extract rfl rfl) rfl ?_
      refine Ops.r (Run.extract rfl rfl) rfl ?_
      refine Ops.r (Run.extract rfl rfl) rfl ?_
      refine Ops.r (Run.asg rfl) rfl ?_
      refine Ops.r (Run.asg rfl) rfl ?_
      refine Ops.r (Run.asg rfl) rfl ?_
      refine Ops.nil ?_
      refine thenQ_n ?_
      refine VC.sub [(2, _), (3, _), (4, _), (6, _), (7, _), (8, _)] (.cons rfl (.cons rfl (.cons rfl (.cons rfl (.cons rfl (.cons rfl .nil)))))) ?_
      refine VC.seq ?_
      refine VC.seq ?_
      refine VC.split1 [(2, _), (3, _), (4, _), (6, _), (7, _)] (.cons rfl (.cons rfl (.cons rfl (.cons rfl (.cons rfl .nil))))) 35 (.bool (decide (¬ IsMed x))) ?_ ?_
      · refine VC.region ?_
        refine Ops.r (Run.mv rfl) rfl ?_
        by_cases hs24 : 47 ∈ tp
        · skip
          refine Ops.r (Run.not rfl) rfl ?_
          refine Ops.r (Run.mv rfl) rfl ?_
          refine Ops.rg rfl au (Run.mv rfl) rfl ?_
          refine Ops.clg rfl au (Enters.fn (evs.cons rfl evs.nil) Tryz.call76) (token_spec (befF 47 tp) _ (by omega)) rfl ?_
          rintro e _ ⟨rfl, rfl⟩
          refine ⟨_, rfl, ?_⟩
          by_cases hs28 : TokQ (befF 47 tp)
          · skip
            refine Ops.rg rfl au (Run.not rfl) rfl ?_
            refine Ops.r (Run.pickF rfl rfl au) rfl ?_
            refine Ops.r (Run.mv rfl) rfl ?_
            refine Ops.rg rfl au (Run.mv rfl) rfl ?_
            refine Ops.clg rfl au (Enters.fn (evs.cons rfl evs.nil) Tryz.call76) (token_spec (aftF 47 tp) _ (by omega)) rfl ?_
            rintro e _ ⟨rfl, rfl⟩
            refine ⟨_, rfl, ?_⟩
            by_cases hs33 : TokQ (aftF 47 tp)
            · skip
              refine Ops.rg rfl au (Run.not rfl) rfl ?_
              refine Ops.r (Run.pickF rfl rfl au) rfl ?_
              refine Ops.nil ?_
              refine thenQ_n ⟨(.cons (congrArg (fun b => some (Value.bool b)) (by (rw [show decide (¬ IsMed x) = decide (¬ (47 ∈ tp ∧ TokQ (befF 47 tp) ∧ TokQ (aftF 47 tp))) from decide_eq_decide.2 (not_congr hIM)]; simp [*]))) (.cons rfl (.cons rfl (.cons rfl (.cons rfl (.cons rfl .nil)))))), rfl⟩
            · skip
              refine Ops.rg rfl au (Run.not rfl) rfl ?_
              refine Ops.r (Run.pickF rfl rfl au) rfl ?_
              refine Ops.nil ?_
              refine thenQ_n ⟨(.cons (congrArg (fun b => some (Value.bool b)) (by (rw [show decide (¬ IsMed x) = decide (¬ (47 ∈ tp ∧ TokQ (befF 47 tp) ∧ TokQ (aftF 47 tp))) from decide_eq_decide.2 (not_congr hIM)]; simp [*]))) (.cons rfl (.cons rfl (.cons rfl (.cons rfl (.cons rfl .nil)))))), rfl⟩
          · skip
            refine Ops.rg rfl au (Run.not rfl) rfl ?_
            refine Ops.r (Run.pickF rfl rfl au) rfl ?_
            refine Ops.r (Run.mv rfl) rfl ?_
            refine Ops.sk rfl au rfl ?_
            refine Ops.sk rfl au rfl ?_
            refine Ops.sk rfl au rfl ?_
            refine Ops.r (Run.pickT rfl rfl au) rfl ?_
            refine Ops.nil ?_
            refine thenQ_n ⟨(.cons (congrArg (fun b => some (Value.bool b)) (by (rw [show decide (¬ IsMed x) = decide (¬ (47 ∈ tp ∧ TokQ (befF 47 tp) ∧ TokQ (aftF 47 tp))) from decide_eq_decide.2 (not_congr hIM)]; simp [*]))) (.cons rfl (.cons rfl (.cons rfl (.cons rfl (.cons rfl .nil)))))), rfl⟩
        · skip
          refine Ops.r (Run.not rfl) rfl ?_
          refine Ops.r (Run.mv rfl) rfl ?_
          refine Ops.sk rfl au rfl ?_
          refine Ops.sk rfl au rfl ?_
          refine Ops.sk rfl au rfl ?_
          refine Ops.r (Run.pickT rfl rfl au) rfl ?_
          refine Ops.r (Run.mv rfl) rfl ?_
          refine Ops.sk rfl au rfl ?_
          refine Ops.sk rfl au rfl ?_
          refine Ops.sk rfl au rfl ?_
          refine Ops.r (Run.pickT rfl rfl au) rfl ?_
          refine Ops.nil ?_
          refine thenQ_n ⟨(.cons (congrArg (fun b => some (Value.bool b)) (by (rw [show decide (¬ IsMed x) = decide (¬ (47 ∈ tp ∧ TokQ (befF 47 tp) ∧ TokQ (aftF 47 tp))) from decide_eq_decide.2 (not_congr hIM)]; simp [*]))) (.cons rfl (.cons rfl (.cons rfl (.cons rfl (.cons rfl .nil)))))), rfl⟩
      · intro Γ hΓ
        refine thenQ_n (VC.sub _ hΓ ?_)
        refine VC.condD rfl (fun hc2 => ?_) (fun hc2 => ?_)
        · skip
          refine VC.seq ?_
          refine VC.region ?_
          refine Ops.r (Run.loadA rfl Tryz.isAgg67 Tryz.sizeOf67 (fun j v hj => hb3.cells j v hj) (by first | rfl | (simp; done))) rfl ?_
          refine Ops.st (Acts.storeA rfl rfl Tryz.sizeOf67 hb2 rfl (MdC_one m A c)) ?_
          rintro W3 ⟨hb2n, hf3, _⟩
          have hb2n : Blk W3 g2 67 (MdC m A c) := hb2n
          refine Ops.nil ?_
          refine thenQ_n ?_
          refine VC.sub [(2, _)] (.cons rfl .nil) ?_
          refine VC.ret ?_
          refine thenQ_r (thenQ_r (blockQ_r (?_)))
          obtain ⟨rfl, rfl, rfl⟩ := h0m
          refine ⟨⟨[g2], (KW.mono (T := [g2]) (by simp)).trans hf3 (by simp), ?_⟩, rfl, medQ_bad hpre hc2, Frm.own K hf3 (fun y hy => by simp at hy; omega), hb2n⟩
          intro b hb
          simp only [List.mem_singleton] at hb
          subst hb
          exact ⟨by simp; omega, h20.isC⟩
        · skip
          refine VC.skip ?_
          refine thenQ_n ?_
          refine VC.sub [(3, _), (4, _), (6, _), (7, _)] (.cons rfl (.cons rfl (.cons rfl (.cons rfl .nil)))) ?_
          refine VC.seq ?_
          refine VC.region ?_
          refine Ops.r (Run.mv rfl) rfl ?_
          refine Ops.cl (Enters.fn (evs.cons rfl evs.nil) Tryz.call183) (lower_spec (befF 47 tp) _ (by omega)) rfl ?_
          rintro e W4 ⟨rfl, hf_W4⟩
          refine ⟨_, rfl, ?_⟩
          have hb2 := hb2.frm hf_W4 (by simp)
          have hb3 := hb3.frm hf_W4 (by simp)
          have hb4 := hb4.frm hf_W4 (by simp)
          have hA := hA.frm hf_W4 (by simp)
          have KW := Frm.trans KW hf_W4 (by simp)
          have K := Frm.trans K hf_W4 (by simp)
          refine Ops.r (Run.mv rfl) rfl ?_
          refine Ops.cl (Enters.fn (evs.cons rfl evs.nil) Tryz.call183) (lower_spec (aftF 47 tp) _ (by omega)) rfl ?_
          rintro e W5 ⟨rfl, hf_W5⟩
          refine ⟨_, rfl, ?_⟩
          have hb2 := hb2.frm hf_W5 (by simp)
          have hb3 := hb3.frm hf_W5 (by simp)
          have hb4 := hb4.frm hf_W5 (by simp)
          have hA := hA.frm hf_W5 (by simp)
          have KW := Frm.trans KW hf_W5 (by simp)
          have K := Frm.trans K hf_W5 (by simp)
          refine Ops.r (Run.fieldAddr rfl Tryz.underlying67 rfl Tryz.sizeOf9 (by decide)) rfl ?_
          obtain ⟨rfl, rfl, rfl⟩ := h0m
          refine Ops.st (Acts.store rfl rfl Tryz.sizeOf9 hb3 rfl rfl) ?_
          rintro W6 ⟨hbn, hf_W6, _⟩
          have hA := hA.frm hf_W6 (fun y hy => by have := hA.ne_blk hb3 (by decide); simp; rintro rfl; exact this hy)
          have hb2 := hb2.frm hf_W6 (by simp; omega)
          have hb4 := hb4.frm hf_W6 (by simp; omega)
          have hb3 : Blk W6 g3 67 (#[encStr (smallS (befF 47 tp)), encStr med0.sub, .slice none 0 0]) := hbn
          have KW := (KW.mono (T := [g3, g4]) (by simp)).trans hf_W6 (by simp)
          have K := Frm.own K hf_W6 (fun y hy => by simp at hy; omega)
          refine Ops.r (Run.fieldAddr rfl Tryz.underlying67 rfl Tryz.sizeOf9 (by decide)) rfl ?_
          refine Ops.st (Acts.store rfl rfl Tryz.sizeOf9 hb3 rfl rfl) ?_
          rintro W7 ⟨hbn, hf_W7, _⟩
          have hA := hA.frm hf_W7 (fun y hy => by have := hA.ne_blk hb3 (by decide); simp; rintro rfl; exact this hy)
          have hb2 := hb2.frm hf_W7 (by simp; omega)
          have hb4 := hb4.frm hf_W7 (by simp; omega)
          have hb3 : Blk W7 g3 67 (#[encStr (smallS (befF 47 tp)), encStr (smallS (aftF 47 tp)), .slice none 0 0]) := hbn
          have KW := (KW.mono (T := [g3, g4]) (by simp)).trans hf_W7 (by simp)
          have K := Frm.own K hf_W7 (fun y hy => by simp at hy; omega)
          refine Ops.st (Acts.store rfl rfl Tryz.sizeOf4 hb4 rfl rfl) ?_
          rintro W8 ⟨hbn, hf_W8, _⟩
          have hA := hA.frm hf_W8 (fun y hy => by have := hA.ne_blk hb4 (by decide); simp; rintro rfl; exact this hy)
          have hb2 := hb2.frm hf_W8 (by simp; omega)
          have hb3 := hb3.frm hf_W8 (by simp; omega)
          have hb4 : Blk W8 g4 4 (#[.bool false]) := hbn
          have KW := (KW.mono (T := [g3, g4]) (by simp)).trans hf_W8 (by simp)
          have K := Frm.own K hf_W8 (fun y hy => by simp at hy; omega)
          refine Ops.nil ?_
          refine thenQ_n ?_
          refine VC.sub [] .nil ?_
          refine VC.exit ?_
          refine thenQ_x (blockQ_x ?_)
          refine ⟨⟨[g3, g4], KW, ?_⟩, medOf x [], none, 0, ?_, by simp, K, hb2, ?_, ?_, hb4, by simp [ob], fun h => absurd h (by simp)⟩
          · intro b hb
            simp only [List.mem_cons, List.not_mem_nil, or_false] at hb
            rcases hb with rfl | rfl
            · exact ⟨by simp; omega, h30.isC⟩
            · exact ⟨by simp; omega, h40.isC⟩
          · show (if IsMed x then _ else _) = _
            rw [if_pos (Classical.not_not.1 hc2)]
          · rw [hmo (Classical.not_not.1 hc2)]; exact hb3
          · rw [hmo (Classical.not_not.1 hc2)]; exact hA
    · skip
      obtain ⟨p0, ps0, hprE⟩ : ∃ p ps, pre = p :: ps := by
        cases pre with
        | nil => exact absurd hc1 (by simp)
        | cons p ps => exact ⟨p, ps, rfl⟩
      have hpF : pre.isEmpty = false := by rw [hprE]; rfl
      refine VC.skip ?_
      refine thenQ_n ?_
      refine VC.sub [(3, _), (5, _)] (.cons rfl (.cons rfl .nil)) ?_
      refine VC.seq ?_
      refine VC.region ?_
      refine Ops.r (Run.mv rfl) rfl ?_
      refine Ops.cl (Enters.fn (evs.cons rfl (evs.cons rfl evs.nil)) Tryz.call79) (cut_spec x 61 _ hxl) rfl ?_
      rintro e V1 ⟨rfl, hf_V1⟩
      refine ⟨_, rfl, ?_⟩
      have hb2 := hb2.frm hf_V1 (by simp)
      have hb3 := hb3.frm hf_V1 (by simp)
      have hb4 := hb4.frm hf_V1 (by simp)
      have hA := hA.frm hf_V1 (by simp)
      have KW := Frm.trans KW hf_V1 (by simp)
      have K := Frm.trans K hf_V1 (by simp)
      have hlb := bef_len 61 x
      have hlt := trimQ_len (befF 61 x)
      have hIP : IsPar x ↔ (61 ∈ x ∧ TokQ (nameQ x)) := Iff.rfl
      have hnq : smallS (trimQ (befF 61 x)) = nameQ x := rfl
      refine Ops.r (Run.mv rfl) rfl ?_
      refine Ops.r (Run.extract rfl rfl) rfl ?_
      refine Ops.r (Run.extract rfl rfl) rfl ?_
      refine Ops.r (Run.extract rfl rfl) rfl ?_
      refine Ops.r (Run.asg rfl) rfl ?_
      refine Ops.r (Run.asg rfl) rfl ?_
      refine Ops.r (Run.asg rfl) rfl ?_
      refine Ops.nil ?_
      refine thenQ_n ?_
      refine VC.sub [(3, _), (9, _), (10, _), (11, _)] (.cons rfl (.cons rfl (.cons rfl (.cons rfl .nil)))) ?_
      refine VC.seq ?_
      refine VC.region ?_
      refine Ops.r (Run.mv rfl) rfl ?_
      refine Ops.cl (Enters.fn (evs.cons rfl evs.nil) Tryz.call182) (ptrim_spec (befF 61 x) _ (by omega)) rfl ?_
      rintro e V2 ⟨rfl, hf_V2⟩
      refine ⟨_, rfl, ?_⟩
      have hb2 := hb2.frm hf_V2 (by simp)
      have hb3 := hb3.frm hf_V2 (by simp)
      have hb4 := hb4.frm hf_V2 (by simp)
      have hA := hA.frm hf_V2 (by simp)
      have KW := Frm.trans KW hf_V2 (by simp)
      have K := Frm.trans K hf_V2 (by simp)
      rw [show leftB (rightB (befF 61 x)) = trimQ (befF 61 x) from rfl]
      refine Ops.cl (Enters.fn (evs.cons rfl evs.nil) Tryz.call183) (lower_spec (trimQ (befF 61 x)) _ (by omega)) rfl ?_
      rintro e V3 ⟨rfl, hf_V3⟩
      refine ⟨_, rfl, ?_⟩
      have hb2 := hb2.frm hf_V3 (by simp)
      have hb3 := hb3.frm hf_V3 (by simp)
      have hb4 := hb4.frm hf_V3 (by simp)
      have hA := hA.frm hf_V3 (by simp)
      have KW := Frm.trans KW hf_V3 (by simp)
      have K := Frm.trans K hf_V3 (by simp)
      have hnl := smallS_len (trimQ (befF 61 x))
      rw [hnq] at hnl ⊢
      refine Ops.r (Run.asg rfl) rfl ?_
      refine Ops.nil ?_
      refine thenQ_n ?_
      refine VC.sub [(3, _), (9, _), (10, _), (11, _)] (.cons rfl (.cons rfl (.cons rfl (.cons rfl .nil)))) ?_
      refine VC.seq ?_
      refine VC.split1 [(3, _), (9, _), (10, _)] (.cons rfl (.cons rfl (.cons rfl .nil))) 56 (.bool (decide (IsPar x))) ?_ ?_
      · refine VC.region ?_
        refine Ops.r (Run.mv rfl) rfl ?_
        by_cases hs52 : 61 ∈ x
        · skip
          refine Ops.r (Run.mv rfl) rfl ?_
          refine Ops.rg rfl au (Run.mv rfl) rfl ?_
          refine Ops.clg rfl au (Enters.fn (evs.cons rfl evs.nil) Tryz.call76) (token_spec (nameQ x) _ (by omega)) rfl ?_
          rintro e _ ⟨rfl, rfl⟩
          refine ⟨_, rfl, ?_⟩
          by_cases hs55 : TokQ (nameQ x)
          · skip
            refine Ops.r (Run.pickT rfl rfl au) rfl ?_
            refine Ops.nil ?_
            refine thenQ_n ⟨(.cons (congrArg (fun b => some (Value.bool b)) (by (rw [show decide (IsPar x) = decide (61 ∈ x ∧ TokQ (nameQ x)) from decide_eq_decide.2 hIP]; simp [*]))) (.cons rfl (.cons rfl (.cons rfl .nil)))), rfl⟩
          · skip
            refine Ops.r (Run.pickT rfl rfl au) rfl ?_
            refine Ops.nil ?_
            refine thenQ_n ⟨(.cons (congrArg (fun b => some (Value.bool b)) (by (rw [show decide (IsPar x) = decide (61 ∈ x ∧ TokQ (nameQ x)) from decide_eq_decide.2 hIP]; simp [*]))) (.cons rfl (.cons rfl (.cons rfl .nil)))), rfl⟩
        · skip
          refine Ops.r (Run.mv rfl) rfl ?_
          refine Ops.sk rfl au rfl ?_
          refine Ops.sk rfl au rfl ?_
          refine Ops.r (Run.pickF rfl rfl au) rfl ?_
          refine Ops.nil ?_
          refine thenQ_n ⟨(.cons (congrArg (fun b => some (Value.bool b)) (by (rw [show decide (IsPar x) = decide (61 ∈ x ∧ TokQ (nameQ x)) from decide_eq_decide.2 hIP]; simp [*]))) (.cons rfl (.cons rfl (.cons rfl .nil)))), rfl⟩
      · intro Γ hΓ
        refine thenQ_n (VC.sub _ hΓ ?_)
        refine VC.condD rfl (fun hc3 => ?_) (fun hc3 => ?_)
        · skip
          refine VC.heldL 9 (fun W => Frm (ob A) V3 W) (by kernel_rfl) ?_
          have hS0 : Frm [] V3 V3.drew := (Frm.refl [] V3).drew
          have hnA0 := hA.ne_blk hb3 (by decide)
          have hS : Frm (ob A) V3 V3.drew := hS0.mono (by simp)
          have hA := hA.frm hS0 (by simp)
          have KW := KW.drew
          have K := K.drew
          have hb2 := hb2.frm hS0 (by simp)
          have hb3v := hb3
          have hb3 := hb3.frm hS0 (by simp)
          have hb4 := hb4.frm hS0 (by simp)
          refine HOps.take 0 rfl (by kernel_rfl) (by kernel_rfl) (by kernel_rfl) hS (fun w0 hw0 => Run.fieldAddr rfl Tryz.underlying67 rfl Tryz.sizeOf65 (by decide)) trivial rfl rfl ?_
          refine HOps.take 1 rfl (by kernel_rfl) (by kernel_rfl) (by kernel_rfl) hS (fun w0 hw0 => Run.load rfl Tryz.isAgg65 ((hb3v.frm hw0 hnA0).cell 2)) trivial rfl rfl ?_
          refine HOps.take 2 rfl (by kernel_rfl) (by kernel_rfl) (by kernel_rfl) hS (fun w0 hw0 => Run.mv rfl) trivial rfl rfl ?_
          refine HOps.r1 3 rfl (by kernel_rfl) hS (Run.mv rfl) trivial rfl rfl ?_
          refine HOps.cl 4 rfl (by kernel_rfl) (Enters.fn (evs.cons rfl evs.nil) Tryz.call184) (value_spec (aftF 61 x) _ (by omega)) trivial rfl rfl ?_
          rintro e V4 ⟨rfl, hf_V4⟩
          have hb2 := hb2.frm hf_V4 (by simp)
          have hb3 := hb3.frm hf_V4 (by simp)
          have hb4 := hb4.frm hf_V4 (by simp)
          have hA := hA.frm hf_V4 (by simp)
          have KW := Frm.trans KW hf_V4 (by simp)
          have K := Frm.trans K hf_V4 (by simp)
          have hS := Frm.trans hS hf_V4 (by simp)
          refine ⟨_, rfl, hS, ?_⟩
          refine HOps.r1 5 rfl (by kernel_rfl) hS (Run.build (evs.cons rfl (evs.cons rfl evs.nil)) zero102 (places102).choose_spec.1 (places102).choose_spec.2 rfl) trivial rfl rfl ?_
          refine HOps.m 6 rfl (by kernel_rfl) (Does.buildS1 rfl Tryz.underlying65 Tryz.sizeOf102 zero102 (by decide) (by decide) rfl rfl) trivial rfl rfl ?_
          rintro _ V5 ⟨rfl, hF5⟩
          have hrd := hrdP (x := (nameQ x, valQ (aftF 61 x))) hF5
          have hA := hA.frm hF5.frm (by simp)
          have hb2 := hb2.frm hF5.frm (by simp)
          have hb3 := hb3.frm hF5.frm (by simp)
          have hb4 := hb4.frm hF5.frm (by simp)
          have KW := KW.trans hF5.frm (by simp)
          have K := K.trans hF5.frm (by simp)
          have hS := hS.trans hF5.frm (by simp)
          refine ⟨hS, ?_⟩
          refine HOps.m 7 rfl (by kernel_rfl) (Does.app rfl rfl Tryz.underlying65 (info102) rfl (by decide) hA hrd (PC_one _) (by omega) (by omega)) trivial rfl rfl ?_
          rintro _ V6 ⟨A6, c6, rfl, hA6, hf6, hob6⟩
          rw [← PC_append] at hA6
          have hne : ∀ y ∈ ob A, y ≠ g2 ∧ y ≠ g3 ∧ y ≠ g4 := fun y hy => ⟨by rintro rfl; exact hA.ne_blk hb2 (by decide) hy, by rintro rfl; exact hA.ne_blk hb3 (by decide) hy, by rintro rfl; exact hA.ne_blk hb4 (by decide) hy⟩
          have hb2 := hb2.frm hf6 (fun hy => (hne _ hy).1 rfl)
          have hb3 := hb3.frm hf6 (fun hy => (hne _ hy).2.1 rfl)
          have hb4 := hb4.frm hf6 (fun hy => (hne _ hy).2.2 rfl)
          have K := Frm.own K hf6 (fun y hy => (hAB y hy).1)
          have hnA := hA6.ne_blk hb3 (by decide)
          have hS := hS.trans hf6 (fun y hy => .inl hy)
          refine ⟨hS, ?_⟩
          refine HOps.r1 8 rfl (by kernel_rfl) hS (Run.fieldAddr rfl Tryz.underlying67 rfl Tryz.sizeOf65 (by decide)) trivial rfl rfl ?_
          refine HOps.stL rfl (by kernel_rfl) (Acts.store rfl rfl Tryz.sizeOf65 hb3 rfl rfl) trivial rfl ?_
          rintro V7 ⟨hb3n, hf7, _⟩
          refine HOps.done (by kernel_rfl) ?_
          refine blockQ_n (?_)
          refine ⟨⟨ob A ++ [g3], ?_, ?_⟩, ⟨m.ty, m.sub, m.ps ++ parQ x⟩, A6, c6, ?_, ?_, Frm.own K hf7 (fun y hy => by simp at hy; omega), hb2.frm hf7 (by simp; omega), ?_, ?_, ?_, ?_, fun h => absurd h (by simp)⟩
          · exact ((KW.mono (T := ob A ++ [g3]) (by simp)).trans hf6 (fun y hy => .inl (by simp [hy]))).trans hf7 (fun y hy => .inl (by simp at hy; simp [hy]))
          · intro b hb
            rcases List.mem_append.1 hb with h | h
            · exact ⟨(hAB b h).2, hA0.isC b h⟩
            · simp only [List.mem_singleton] at h
              subst h
              exact ⟨by simp; omega, h30.isC⟩
          · rw [hprE]; exact mdQ_snoc (hprE ▸ hm)
          · have := hpre.length_le; omega
          · rw [parQ_yes hc3]
            unfold MdC
            rw [List.length_append]
            exact hb3n
          · rw [parQ_yes hc3, List.length_append]
            exact hA6.frm hf7 (fun y hy => by simp; rintro rfl; exact hnA hy)
          · rw [show (pre ++ [x]).isEmpty = false by simp, ← hpF]; exact hb4.frm hf7 (by simp; omega)
          · intro y hy
            rcases hob6 with h | h
            · rw [h] at hy; exact hAB y hy
            · rw [h] at hy
              simp only [List.mem_singleton] at hy
              have := K0.size
              have := KW.size
              subst hy
              exact ⟨by omega, by simp; omega⟩
        · skip
          refine VC.skip ?_
          refine blockQ_n (?_)
          refine ⟨.frm0 KW, ⟨m.ty, m.sub, m.ps ++ parQ x⟩, A, c, ?_, ?_, K, hb2, ?_, ?_, ?_, hAB, fun h => absurd h (by simp)⟩
          · rw [hprE]; exact mdQ_snoc (hprE ▸ hm)
          · have := hpre.length_le; omega
          · rw [parQ_no hc3, List.append_nil]; exact hb3
          · rw [parQ_no hc3, List.append_nil]; exact hA
          · rw [show (pre ++ [x]).isEmpty = false by simp, ← hpF]; exact hb4
  · skip
    rintro W ⟨m, A, c, hm, hpl, K, hb2, hb3, hA, hb4, hAB, _⟩ hsz hmk
    refine blockD_n (thenD_n ?_)
    refine DV.sub [(2, _), (3, _)] (.cons rfl (.cons rfl .nil)) ?_
    refine DV.seq ?_
    refine DV.vc ?_
    refine VC.region ?_
    refine Ops.r (Run.loadA rfl Tryz.isAgg67 Tryz.sizeOf67 (fun j v hj => hb3.cells j v hj) (by first | rfl | (simp; done))) rfl ?_
    refine Ops.st (Acts.storeA rfl rfl Tryz.sizeOf67 hb2 rfl (MdC_one m A c)) ?_
    rintro V8 ⟨hb2n, hf8, _⟩
    have hb2n : Blk V8 g2 67 (MdC m A c) := hb2n
    have hmk := hmk.frm hf8 (by simp; exact hmk.ne_blk hb2)
    have hA := hA.frm hf8 (fun y hy => by have := hA.ne_blk hb2 (by decide); simp; rintro rfl; exact this hy)
    have K := Frm.own K hf8 (fun y hy => by simp at hy; omega)
    refine Ops.nil ?_
    refine thenD_n ?_
    refine DV.sub [(2, _)] (.cons rfl .nil) ?_
    refine DV.vc (VC.ret ?_)
    refine endD_r (by simp) (fun d hd => by simp only [List.mem_singleton] at hd; subst hd; exact hmk) (fun wz hsh => ?_)
    have hb2n := hb2n.frm hsh (by simp; omega)
    have hA := hA.frm hsh (fun y hy => by have := hmk.ne_own hA; simp; rintro rfl; exact this hy)
    have K := Frm.own K hsh (fun y hy => by have := hKs; simp at hy; omega)
    refine endR ?_
    refine res_cellA rfl Tryz.isAgg67 Tryz.sizeOf67 (fun j v hj => hb2n.cells j v hj) (by first | rfl | (simp; done)) ?_
    refine res_nil ?_
    rw [mdQ_all hm]
    exact ⟨K, A, c, rfl, hA, fun x hx => by have := (hAB x hx).1; omega⟩
  · skip
    rintro pre W ⟨_, hno, K, hb2⟩ hsz hmk
    refine blockD_r (thenD_r (endD_r (by simp) (fun d hd => by simp only [List.mem_singleton] at hd; subst hd; exact hmk) (fun wz hsh => ?_)))
    have hb2 := hb2.frm hsh (by simp; omega)
    have K := Frm.own K hsh (fun y hy => by have := hKs; simp at hy; omega)
    refine endR ?_
    refine res_cellA rfl Tryz.isAgg67 Tryz.sizeOf67 (fun j v hj => hb2.cells j v hj) (by first | rfl | (simp; done)) ?_
    refine res_nil ?_
    rw [hno]
    exact ⟨K, none, 0, rfl, Own.nil _ _ _, by simp [ob]⟩
  · skip
    exact fun _ _ _ h => absurd h.1 (by simp)

end Go.Proofs.YtenbjndldenkfaaGreatDoor

namespace Go.Proofs.YtenbjndldenkfaaGreatDoor
open Go.RowKit Go.Sort

theorem PC_at {w : World} {A : Option Addr} {l : List Par} {k : Nat} (h : Rd w 2 A l.length (PC l)) (hk : k < l.length) : ∃ ad, A = some ad ∧ ∀ j v, (PC1 l[k])[j]? = some v → w.cell? ((ad.add (k * 2)).add j) = some v := by
  obtain ⟨ad, rfl, hc⟩ := h.elem hk
  refine ⟨ad, rfl, fun j v hj => hc j v ?_⟩
  rw [show PC l = l.flatMap PC1 from rfl, flat_get PC1 2 PC1_len l k hk]
  exact hj
/-- What is found of a name. -/
def findQ : List Par → Tx → Tx × Bool
  | [], _ => ([], false)
  | p :: r, n => if p.1 = n then (p.2, true) else findQ r n
theorem findQ_no {n : Tx} : ∀ {l : List Par}, (∀ p ∈ l, p.1 ≠ n) → findQ l n = ([], false)
  | [], _ => rfl
  | p :: r, h => by rw [findQ, if_neg (h p (by simp)), findQ_no fun p hp => h p (by simp [hp])]
theorem findQ_at {n : Tx} : ∀ {l : List Par} {i : Nat} (hi : i < l.length), (∀ p ∈ l.take i, p.1 ≠ n) → l[i].1 = n → findQ l n = (l[i].2, true)
  | [], _, h, _, _ => by simp at h
  | p :: r, 0, _, _, h => by rw [findQ, if_pos (show p.1 = n from h)]; rfl
  | p :: r, i + 1, hi, h1, h => by
    rw [findQ, if_neg (h1 p (by simp)), findQ_at (i := i) (by simpa using hi) (fun p hp => h1 p (by simp [hp])) (by simpa using h)]
    rfl

set_option maxRecDepth 100000 in
theorem findC_spec (x : Par) (gn : Nat) (n : Tx) (w : World) (hbn : Blk w gn 9 #[encStr n]) :
    Calls Tryz.prog 141 #[.agg (PC1 x).toArray, .pointer (some ⟨gn, 0, none⟩)] w fun e w' => e = .returned (.bool (decide (x.1 = n))) ∧ Frm [] w w' := by
  refine VC.calls (nt := 8) (res := #[.tmp 3]) Tryz.func141 rfl Tryz.ntmps141 Tryz.results141 rfl ?_
  refine VC.seq ?_
  refine VC.region ?_
  refine Ops.m (Does.box rfl) rfl ?_
  rintro _ w1 ⟨rfl, hF1⟩
  have hb2 : Blk w1 w.heap.size 102 (PC1 x).toArray := hF1.blk
  have hbn := hbn.frm hF1.frm (by simp)
  generalize hg2 : w.heap.size = g2 at hb2 ⊢
  refine Ops.r (Run.asg rfl) rfl ?_
  refine Ops.nil ?_
  refine thenQ_n ?_
  refine VC.sub [(1, _), (2, _)] (.cons rfl (.cons rfl .nil)) ?_
  refine VC.seq ?_
  refine VC.region ?_
  refine Ops.r (Run.fieldAddr rfl Tryz.underlying102 rfl Tryz.sizeOf9 (by decide)) rfl ?_
  refine Ops.r (Run.load rfl Tryz.isAgg9 (hb2.cell 0)) rfl ?_
  refine Ops.r (Run.load rfl Tryz.isAgg9 (hbn.cell 0)) rfl ?_
  refine Ops.r (Run.eqlT rfl rfl) rfl ?_
  refine Ops.r (Run.asg rfl) rfl ?_
  refine Ops.nil ?_
  refine thenQ_n ?_
  refine VC.sub [(3, _)] (.cons rfl .nil) ?_
  refine VC.ret ?_
  refine end1 rfl ?_
  exact ⟨rfl, hF1.frm⟩

set_option maxRecDepth 100000 in
theorem idxP_spec (A : Option Addr) (c : Nat) (l : List Par) (gn : Nat) (n : Tx) (w : World) (hl : Rd w 2 A l.length (PC l)) (hn : l.length ≤ 1000000) (hbn : Blk w gn 9 #[encStr n]) :
    Calls Tryz.prog 140 #[.slice A l.length c, .func (.func 141) #[] #[.pointer (some ⟨gn, 0, none⟩)]] w fun e w' => Frm [] w w' ∧ ∃ k : Int, e = .returned (.int .i64 k) ∧ ((k = -1 ∧ ∀ p ∈ l, p.1 ≠ n) ∨ ∃ (i : Nat) (hi : i < l.length), k = (i : Int) ∧ (∀ p ∈ l.take i, p.1 ≠ n) ∧ l[i].1 = n) := by
  refine VC.calls (nt := 19) (res := #[.tmp 4]) Tryz.func140 rfl Tryz.ntmps140 Tryz.results140 rfl ?_
  refine VC.seq ?_
  refine VC.region ?_
  refine Ops.r (v := .int .i64 ((0 : Nat) : Int)) (Run.asg rfl) rfl ?_
  refine Ops.nil ?_
  refine thenQ_n ?_
  refine VC.sub [(0, _), (1, _)] (.cons rfl (.cons rfl .nil)) ?_
  refine VC.seq ?_
  refine VC.seq ?_
  refine VC.region ?_
  refine Ops.r (Run.mv rfl) rfl ?_
  refine Ops.r (Run.lenS rfl Tryz.underlying65) rfl ?_
  refine Ops.r (v := .int .i64 ((0 : Nat) : Int)) (Run.mv rfl) rfl ?_
  refine Ops.nil ?_
  refine thenQ_n ?_
  refine VC.sub [(0, _), (1, _), (7, _), (8, _)] (.cons rfl (.cons rfl (.cons rfl (.cons rfl .nil)))) ?_
  refine VC.block ?_
  refine VC.loop (σ := Nat) (fun s => [(0, .slice A l.length c), (1, .func (.func 141) #[] #[.pointer (some ⟨gn, 0, none⟩)]), (7, .int .i64 ((l.length : Nat) : Int)), (8, .int .i64 ((s : Nat) : Int))]) (fun s wr => s ≤ l.length ∧ Frm [] w wr ∧ ∀ x ∈ l.take s, x.1 ≠ n) (fun s => l.length - s) 0 (.cons rfl (.cons rfl (.cons rfl (.cons rfl .nil)))) ⟨by omega, Frm.refl _ _, by simp⟩ ?_
  rintro i wr ⟨hi, hfr, hno⟩
  refine VC.seq ?_
  refine VC.region ?_
  refine Ops.r (Run.bin rfl rfl (Bin.lssN _ _)) rfl ?_
  refine Ops.nil ?_
  refine thenQ_n ?_
  refine VC.seq ?_
  refine VC.condD rfl (fun hc1 => ?_) (fun hc1 => ?_)
  · skip
    obtain ⟨ad, rfl, hcell⟩ := PC_at (hl.frm hfr (by simp)) hc1
    have hts : l.take (i + 1) = l.take i ++ [l[i]] := by rw [List.take_add_one, List.getElem?_eq_getElem hc1]; rfl
    have hxi : ∀ x, l[i] = x → (l[i].1 = n ↔ x.1 = n) := fun x h => by rw [h]
    generalize hx : l[i] = x at hcell hts
    refine VC.skip ?_
    refine thenQ_n ?_
    refine VC.sub [(0, _), (1, _), (7, _), (8, _)] (.cons rfl (.cons rfl (.cons rfl (.cons rfl .nil)))) ?_
    refine VC.seq ?_
    refine VC.block ?_
    refine VC.seq ?_
    refine VC.region ?_
    refine Ops.r (Run.mv rfl) rfl ?_
    refine Ops.r (Run.asg rfl) rfl ?_
    refine Ops.nil ?_
    refine thenQ_n ?_
    refine VC.sub [(0, _), (1, _), (5, _), (7, _), (8, _)] (.cons rfl (.cons rfl (.cons rfl (.cons rfl (.cons rfl .nil))))) ?_
    refine VC.seq ?_
    refine VC.region ?_
    refine Ops.r (Run.mv rfl) rfl ?_
    refine Ops.r (Run.mv rfl) rfl ?_
    refine Ops.r (Run.mv rfl) rfl ?_
    refine Ops.r (Run.indexS i rfl rfl Tryz.underlying65 Tryz.sizeOf102 hc1) rfl ?_
    refine Ops.r (Run.loadA rfl Tryz.isAgg102 Tryz.sizeOf102 hcell (by first | rfl | (simp; done))) rfl ?_
    refine Ops.cl (Enters.dyn rfl (evs.cons rfl evs.nil) Tryz.call141) ((findC_spec x gn n _ (hbn.frm hfr (by simp)))) rfl ?_
    rintro e w1 ⟨rfl, hf1⟩
    refine ⟨_, rfl, ?_⟩
    refine Ops.nil ?_
    refine thenQ_n ?_
    refine VC.sub [(0, _), (1, _), (5, _), (7, _), (8, _), (16, _)] (.cons rfl (.cons rfl (.cons rfl (.cons rfl (.cons rfl (.cons rfl .nil)))))) ?_
    refine VC.condB rfl (fun hc2 => ?_) (fun hc2 => ?_)
    · skip
      refine VC.seq ?_
      refine VC.region ?_
      refine Ops.r (Run.mv rfl) rfl ?_
      refine Ops.r (Run.asg rfl) rfl ?_
      refine Ops.nil ?_
      refine thenQ_n ?_
      refine VC.sub [(4, _)] (.cons rfl .nil) ?_
      refine VC.ret ?_
      refine blockQ_r (thenQ_r (thenQ_r (blockQ_r (thenQ_r (end1 rfl ?_)))))
      exact ⟨hfr.trans hf1 (by simp), _, rfl, .inr ⟨i, hc1, rfl, hno, (hxi x hx).2 (of_decide_eq_true hc2)⟩⟩
    · skip
      refine VC.skip ?_
      refine blockQ_n (thenQ_n ?_)
      refine VC.sub [(0, _), (1, _), (7, _), (8, _)] (.cons rfl (.cons rfl (.cons rfl (.cons rfl .nil)))) ?_
      refine VC.region ?_
      refine Ops.r (Run.bin rfl rfl (Bin.add_i64 _ 1 (by omega))) rfl ?_
      refine Ops.r (Run.mv rfl) rfl ?_
      refine Ops.nil ?_
      refine thenQ_n ⟨(i + 1), (.cons rfl (.cons rfl (.cons rfl (.cons rfl .nil)))), ?_, ?_⟩
      · skip
        refine ⟨hc1, hfr.trans hf1 (by simp), fun y hy => ?_⟩
        rw [hts] at hy
        rcases List.mem_append.1 hy with h | h
        · exact hno y h
        · simp only [List.mem_singleton] at h; subst h; exact of_decide_eq_false hc2
      · skip
        first | omega | (dsimp only; omega)
  · skip
    refine VC.exit ?_
    refine thenQ_x (thenQ_x (blockQ_x ?_))
    refine thenQ_n ?_
    refine VC.sub [] .nil ?_
    refine VC.seq ?_
    refine VC.region ?_
    refine Ops.r (v := .int .i64 (-1)) (Run.asg rfl) rfl ?_
    refine Ops.nil ?_
    refine thenQ_n ?_
    refine VC.ret ?_
    refine end1 rfl ?_
    refine ⟨hfr, _, rfl, .inl ⟨rfl, ?_⟩⟩
    have hil : i = l.length := by omega
    subst hil
    rw [List.take_length] at hno
    exact hno

set_option maxRecDepth 100000 in
theorem find_spec (m : Med) (A : Option Addr) (c : Nat) (n : Tx) (w : World) (hl : Rd w 2 A m.ps.length (PC m.ps)) (hn : m.ps.length ≤ 1000000) :
    Calls Tryz.prog 105 #[.agg (MdC m A c), encStr n] w fun e w' => Frm [] w w' ∧ e = .returned (.tuple #[encStr (findQ m.ps n).1, .bool (findQ m.ps n).2]) := by
  refine VC.calls (nt := 19) (res := #[.tmp 4, .tmp 5]) Tryz.func105 rfl Tryz.ntmps105 Tryz.results105 rfl ?_
  refine VC.seq ?_
  refine VC.region ?_
  refine Ops.m (Does.box rfl) rfl ?_
  rintro _ w1 ⟨rfl, hF2⟩
  have hb2 : Blk w1 w.heap.size 67 (MdC m A c) := hF2.blk
  have hf2 := hF2.frm
  have hl := hl.frm hf2 (by simp)
  generalize hg2 : w.heap.size = g2 at hb2 ⊢
  refine Ops.m (Does.box rfl) rfl ?_
  rintro _ w2 ⟨rfl, hF3⟩
  have hb3 := hF3.blk
  have hb2 := hb2.frm hF3.frm (by simp)
  have hl := hl.frm hF3.frm (by simp)
  have K := hf2.trans hF3.frm (by simp)
  generalize hg3 : w1.heap.size = g3 at hb3 ⊢
  refine Ops.r (Run.asg rfl) rfl ?_
  refine Ops.r (Run.asg rfl) rfl ?_
  refine Ops.nil ?_
  refine thenQ_n ?_
  refine VC.sub [(2, _), (3, _)] (.cons rfl (.cons rfl .nil)) ?_
  refine VC.seq ?_
  refine VC.region ?_
  refine Ops.r (Run.fieldAddr rfl Tryz.underlying67 rfl Tryz.sizeOf65 (by decide)) rfl ?_
  refine Ops.r (Run.load rfl Tryz.isAgg65 (hb2.cell 2)) rfl ?_
  refine Ops.r (Run.mkFunc evs.nil (evs.cons rfl evs.nil)) rfl ?_
  refine Ops.cl (Enters.fn (evs.cons rfl (evs.cons rfl evs.nil)) Tryz.call140) ((idxP_spec A c m.ps g3 n _ hl hn hb3)) rfl ?_
  rintro e w4 ⟨hf4, k, rfl, hk⟩
  refine ⟨_, rfl, ?_⟩
  have K := K.trans hf4 (by simp)
  have hb2 := hb2.frm hf4 (by simp)
  have hl := hl.frm hf4 (by simp)
  refine Ops.r (Run.asg rfl) rfl ?_
  refine Ops.nil ?_
  refine thenQ_n ?_
  refine VC.sub [(2, _), (6, _)] (.cons rfl (.cons rfl .nil)) ?_
  refine VC.seq ?_
  refine VC.seq ?_
  refine VC.region ?_
  refine Ops.r (Run.mv rfl) rfl ?_
  refine Ops.r (Run.bin rfl rfl (Bin.lss _ 0)) rfl ?_
  refine Ops.nil ?_
  refine thenQ_n ?_
  refine VC.sub [(2, _), (6, _), (12, _)] (.cons rfl (.cons rfl (.cons rfl .nil))) ?_
  refine VC.condD rfl (fun hc1 => ?_) (fun hc1 => ?_)
  · skip
    have hno := findQ_no (hk.resolve_right (by rintro ⟨i, _, rfl, _⟩; omega)).2
    refine VC.seq ?_
    refine VC.region ?_
    refine Ops.r (Run.asg rfl) rfl ?_
    refine Ops.r (Run.asg rfl) rfl ?_
    refine Ops.nil ?_
    refine thenQ_n ?_
    refine VC.sub [(4, _), (5, _)] (.cons rfl (.cons rfl .nil)) ?_
    refine VC.ret ?_
    refine thenQ_r (end2 rfl rfl ?_)
    exact ⟨K, by rw [hno]⟩
  · skip
    obtain ⟨i, hi, rfl, hno, hat⟩ := hk.resolve_left (by rintro ⟨rfl, _⟩; omega)
    have hfq := findQ_at hi hno hat
    obtain ⟨ad, rfl, hcell⟩ := PC_at hl hi
    refine VC.skip ?_
    refine thenQ_n ?_
    refine VC.sub [(2, _), (6, _)] (.cons rfl (.cons rfl .nil)) ?_
    refine VC.seq ?_
    refine VC.region ?_
    refine Ops.r (Run.fieldAddr rfl Tryz.underlying67 rfl Tryz.sizeOf65 (by decide)) rfl ?_
    refine Ops.r (Run.load rfl Tryz.isAgg65 (hb2.cell 2)) rfl ?_
    refine Ops.r (Run.mv rfl) rfl ?_
    refine Ops.r (Run.indexS i rfl rfl Tryz.underlying65 Tryz.sizeOf102 hi) rfl ?_
    refine Ops.r (Run.fieldAddr rfl Tryz.underlying102 rfl Tryz.sizeOf9 (by decide)) rfl ?_
    refine Ops.r (Run.load rfl Tryz.isAgg9 (by have := hcell 1 (encStr m.ps[i].2) rfl; simpa using this)) rfl ?_
    refine Ops.r (Run.asg rfl) rfl ?_
    refine Ops.r (Run.asg rfl) rfl ?_
    refine Ops.nil ?_
    refine thenQ_n ?_
    refine VC.sub [(4, _), (5, _)] (.cons rfl (.cons rfl .nil)) ?_
    refine VC.ret ?_
    refine end2 rfl rfl ?_
    exact ⟨K, by rw [hfq]⟩

end Go.Proofs.YtenbjndldenkfaaGreatDoor

namespace Go.Proofs.YtenbjndldenkfaaGreatDoor
open Go.RowKit Go.Sort

theorem Med.of {m : Med} {a b : Tx} {c : List Par} (h1 : m.ty = a) (h2 : m.sub = b) (h3 : m.ps = c) : m = ⟨a, b, c⟩ := by cases m; simp_all
end Go.Proofs.YtenbjndldenkfaaGreatDoor

namespace Go.Proofs.YtenbjndldenkfaaGreatDoor
open Go.RowKit Go.Sort


theorem medQ_count (q : Tx) : (medQ q).ps.length ≤ (pcs false q).length := by
  unfold medQ
  split
  · simp [med0]
  · rename_i p ps h
    unfold medOf
    split
    · have := pars_count ps
      show (ps.flatMap parQ).length ≤ _
      rw [h, List.length_cons]
      omega
    · show ([] : List Par).length ≤ _
      simp

end Go.Proofs.YtenbjndldenkfaaGreatDoor

namespace Go.Proofs.YtenbjndldenkfaaGreatDoor
open Go.RowKit

/-! ### lines -/
/-- A text's lines, each with its end. -/
def linesF : Tx → List Tx
  | [] => []
  | x :: r => if x = 10 then [10] :: linesF r else match linesF r with
    | [] => [[x]]
    | p :: ps => (x :: p) :: ps
theorem linesF_flat : ∀ s : Tx, (linesF s).flatten = s
  | [] => rfl
  | x :: r => by
    have ih := linesF_flat r
    unfold linesF
    split
    · rename_i h; rw [List.flatten_cons, ih, h]; rfl
    · cases hl : linesF r with
      | nil => rw [hl] at ih; rw [← ih]; rfl
      | cons p ps => rw [hl] at ih; rw [← ih]; rfl
theorem linesF_ne {l : Tx} : ∀ {s : Tx}, l ∈ linesF s → l ≠ []
  | [], h => by simp [linesF] at h
  | x :: r, h => by
    unfold linesF at h
    split at h
    · simp only [List.mem_cons] at h
      rcases h with rfl | h
      · simp
      · exact linesF_ne h
    · cases hl : linesF r with
      | nil => rw [hl] at h; simp only [List.mem_singleton] at h; subst h; simp
      | cons p ps =>
        rw [hl] at h
        simp only [List.mem_cons] at h
        rcases h with rfl | h
        · simp
        · exact linesF_ne (s := r) (by rw [hl]; simp [h])
theorem linesF_cut {a : Tx} (b : Tx) (h : (10 : UInt8) ∉ a) : linesF (a ++ 10 :: b) = (a ++ [10]) :: linesF b := by
  induction a with
  | nil => show linesF (10 :: b) = _; rw [linesF, if_pos rfl]; rfl
  | cons x r ih =>
    simp only [List.mem_cons, not_or] at h
    show linesF (x :: (r ++ 10 :: b)) = _
    rw [linesF, if_neg (fun e => h.1 e.symm), ih h.2]
    rfl
theorem linesF_last {a : Tx} (h0 : a ≠ []) (h : (10 : UInt8) ∉ a) : linesF a = [a] := by
  induction a with
  | nil => exact absurd rfl h0
  | cons x r ih =>
    simp only [List.mem_cons, not_or] at h
    rw [linesF, if_neg (fun e => h.1 e.symm)]
    cases r with
    | nil => rfl
    | cons y t => rw [ih (by simp) h.2]
/-- Where lines begin and end, from a place on. -/
def offsF : Nat → List Tx → List (Nat × Nat)
  | _, [] => []
  | o, l :: r => (o, o + l.length) :: offsF (o + l.length) r
theorem offsF_len : ∀ (o : Nat) (l : List Tx), (offsF o l).length = l.length
  | _, [] => rfl
  | o, l :: r => by show (_ :: offsF _ r).length = _; rw [List.length_cons, offsF_len, List.length_cons]
def EmptyL (l : Tx) : Prop := l = [10] ∨ l = [13, 10]
instance (l : Tx) : Decidable (EmptyL l) := by unfold EmptyL; infer_instance
/-- How many octets are up to the first empty line, with it. -/
def splitL : List Tx → Nat
  | [] => 0
  | l :: r => if EmptyL l then l.length else l.length + splitL r
def splitQ (s : Tx) : Nat := splitL (linesF s)
theorem splitL_le : ∀ l : List Tx, splitL l ≤ l.flatten.length
  | [] => Nat.le_refl _
  | l :: r => by
    have := splitL_le r
    unfold splitL
    rw [List.flatten_cons, List.length_append]
    split <;> omega
theorem splitQ_le (s : Tx) : splitQ s ≤ s.length := by
  have := splitL_le (linesF s)
  rw [linesF_flat] at this
  exact this
/-- The octets up to the last of some lines are some of them. -/
theorem splitL_pre : ∀ l : List Tx, ∃ a b, l = a ++ b ∧ splitL l = a.flatten.length ∧ (∀ x ∈ a.dropLast, ¬ EmptyL x) ∧ ((∃ e, a.getLast? = some e ∧ EmptyL e) ∨ (b = [] ∧ ∀ x ∈ a, ¬ EmptyL x))
  | [] => ⟨[], [], rfl, rfl, by simp, .inr ⟨rfl, by simp⟩⟩
  | l :: r => by
    by_cases h : EmptyL l
    · exact ⟨[l], r, rfl, by rw [splitL, if_pos h]; simp, by simp, .inl ⟨l, rfl, h⟩⟩
    · obtain ⟨a, b, rfl, h1, h2, h3⟩ := splitL_pre r
      refine ⟨l :: a, b, rfl, by rw [splitL, if_neg h, h1]; simp, ?_, ?_⟩
      · cases a with
        | nil => simp
        | cons y t =>
          intro x hx
          rw [List.dropLast_cons_of_ne_nil (by simp)] at hx
          simp only [List.mem_cons] at hx
          rcases hx with rfl | hx
          · exact h
          · exact h2 x hx
      · rcases h3 with ⟨e, h4, h5⟩ | ⟨h4, h5⟩
        · refine .inl ⟨e, ?_, h5⟩
          cases a with
          | nil => simp at h4
          | cons y t => rw [List.getLast?_cons_cons]; exact h4
        · refine .inr ⟨h4, fun x hx => ?_⟩
          simp only [List.mem_cons] at hx
          rcases hx with rfl | hx
          · exact h
          · exact h5 x hx

/-! ### fields -/
def NameC (c : UInt8) : Prop := 32 < c.toNat ∧ c.toNat < 127 ∧ c ≠ 58
instance (c : UInt8) : Decidable (NameC c) := by unfold NameC; infer_instance
/-- How many signs of a name stand ahead. -/
def nameN : Tx → Nat
  | [] => 0
  | x :: r => if NameC x then nameN r + 1 else 0
def blankN : Tx → Nat
  | [] => 0
  | x :: r => if Bl x then blankN r + 1 else 0
/-- The name that begins a field, and where its text begins; none: there is none. -/
def beginQ (l : Tx) : Option (Tx × Nat) :=
  if nameN l ≠ 0 ∧ l[nameN l + blankN (l.drop (nameN l))]? = some 58 then some (l.take (nameN l), nameN l + blankN (l.drop (nameN l)) + 1) else none
theorem beginQ_lt {l n : Tx} {k : Nat} (h : beginQ l = some (n, k)) : k ≤ l.length ∧ n.length ≤ l.length := by
  unfold beginQ at h
  split at h
  · rename_i hc
    have h2 := (List.getElem?_eq_some_iff.1 hc.2).1
    cases h
    exact ⟨by omega, by simp; omega⟩
  · cases h
structure Fld where
  name : Tx
  frm : Nat
  tu : Nat
  at_ : Nat
def setTo (l : List Fld) (n : Nat) : List Fld := match l.getLast? with
  | none => l
  | some f => l.dropLast ++ [⟨f.name, f.frm, n, f.at_⟩]
theorem setTo_snoc (l : List Fld) (f : Fld) (n : Nat) : setTo (l ++ [f]) n = l ++ [⟨f.name, f.frm, n, f.at_⟩] := by
  unfold setTo
  rw [List.getLast?_concat]
  simp
/-- The fields of some lines: the place, is a field open, the fields so far. -/
def fldL : Nat → Bool → List Fld → List Tx → List Fld
  | _, _, out, [] => out
  | o, op, out, l :: r =>
    if EmptyL l then out
    else if (∃ c, l.head? = some c ∧ Bl c) then fldL (o + l.length) op (if op then setTo out (o + l.length) else out) r
    else match beginQ l with
      | none => fldL (o + l.length) false out r
      | some (n, k) => fldL (o + l.length) true (out ++ [⟨n, o, o + l.length, o + k⟩]) r
def fieldsQ (s : Tx) : List Fld := fldL 0 false [] (linesF (s.take (splitQ s)))
/-- A line without its end. -/
def bareL (l : Tx) : Tx := if l.getLast? = some 10 then (if l.dropLast.getLast? = some 13 then l.dropLast.dropLast else l.dropLast) else l
theorem bareL_le (l : Tx) : (bareL l).length ≤ l.length := by
  unfold bareL
  split
  · split <;> simp <;> omega
  · exact Nat.le_refl _
def textQ (s : Tx) (f : Fld) : Tx := trimQ ((linesF ((s.drop f.at_).take (f.tu - f.at_))).map bareL).flatten
def findF (s : Tx) (name : Tx) : List Fld → Tx × Bool
  | [] => ([], false)
  | f :: r => if smallS f.name = smallS name then (textQ s f, true) else findF s name r
def findH (s name : Tx) : Tx × Bool := findF s name (fieldsQ s)
/-- Each field lies among so many octets. -/
def FldOk (n : Nat) (f : Fld) : Prop := f.frm ≤ f.at_ ∧ f.at_ ≤ f.tu ∧ f.tu ≤ n ∧ f.frm ≤ f.tu
theorem fldL_ok (N : Nat) : ∀ (ls : List Tx) (o : Nat) (op : Bool) (out : List Fld), o + ls.flatten.length ≤ N → (∀ f ∈ out, FldOk N f ∧ f.tu ≤ o) → ∀ f ∈ fldL o op out ls, FldOk N f
  | [], _, _, _, _, h => fun f hf => (h f hf).1
  | l :: r, o, op, out, hN, h => by
    rw [List.flatten_cons, List.length_append] at hN
    have hmono : ∀ f ∈ out, FldOk N f ∧ f.tu ≤ o + l.length := fun f hf => ⟨(h f hf).1, by have := (h f hf).2; omega⟩
    unfold fldL
    split
    · exact fun f hf => (h f hf).1
    · split
      · refine fldL_ok N r _ op _ (by omega) ?_
        cases op with
        | false => exact hmono
        | true =>
          intro f hf
          rw [if_pos rfl] at hf
          rcases List.eq_nil_or_concat out with rfl | ⟨t, g, rfl⟩
          · simp [setTo] at hf
          · rw [List.concat_eq_append, setTo_snoc] at hf
            rcases List.mem_append.1 hf with hf | hf
            · exact hmono f (by simp [hf])
            · simp only [List.mem_singleton] at hf
              subst hf
              obtain ⟨⟨h1, h2, h3, h4⟩, h5⟩ := h g (by simp)
              exact ⟨⟨h1, by show g.at_ ≤ o + l.length; omega, by show o + l.length ≤ N; omega, by show g.frm ≤ o + l.length; omega⟩, Nat.le_refl _⟩
      · split
        · exact fldL_ok N r _ _ _ (by omega) hmono
        · rename_i n k hb
          have := beginQ_lt hb
          refine fldL_ok N r _ _ _ (by omega) fun f hf => ?_
          rcases List.mem_append.1 hf with hf | hf
          · exact hmono f hf
          · simp only [List.mem_singleton] at hf
            subst hf
            exact ⟨⟨by show o ≤ o + k; omega, by show o + k ≤ o + l.length; omega, by show o + l.length ≤ N; omega, by show o ≤ o + l.length; omega⟩, Nat.le_refl _⟩
theorem fieldsQ_ok (s : Tx) : ∀ f ∈ fieldsQ s, FldOk (splitQ s) f := by
  refine fldL_ok _ _ 0 _ _ ?_ (by simp)
  rw [linesF_flat, List.length_take]
  omega
theorem fldL_count : ∀ (ls : List Tx) (o : Nat) (op : Bool) (out : List Fld), (fldL o op out ls).length ≤ out.length + ls.length
  | [], _, _, out => by simp [fldL]
  | l :: r, o, op, out => by
    have hst : (setTo out (o + l.length)).length = out.length := by
      rcases List.eq_nil_or_concat out with rfl | ⟨t, g, rfl⟩
      · rfl
      · rw [List.concat_eq_append, setTo_snoc]; simp
    unfold fldL
    split
    · simp
    · split
      · have := fldL_count r (o + l.length) op (if op then setTo out (o + l.length) else out)
        have h2 : (if op then setTo out (o + l.length) else out).length = out.length := by split <;> simp [hst]
        rw [h2] at this
        simp only [List.length_cons]
        omega
      · split
        · have := fldL_count r (o + l.length) false out
          simp only [List.length_cons]
          omega
        · rename_i n k _
          have := fldL_count r (o + l.length) true (out ++ [⟨n, o, o + l.length, o + k⟩])
          simp only [List.length_cons, List.length_append, List.length_nil] at this ⊢
          omega
theorem linesF_count : ∀ s : Tx, (linesF s).length ≤ s.length
  | [] => Nat.le_refl _
  | x :: r => by
    have := linesF_count r
    unfold linesF
    split
    · simp only [List.length_cons]; omega
    · cases hl : linesF r with
      | nil => simp
      | cons p ps => rw [hl] at this; simp only [List.length_cons] at this ⊢; omega
theorem fieldsQ_count (s : Tx) : (fieldsQ s).length ≤ s.length := by
  have h1 := fldL_count (linesF (s.take (splitQ s))) 0 false []
  have h2 := linesF_count (s.take (splitQ s))
  have h3 : (s.take (splitQ s)).length ≤ s.length := by simp; omega
  unfold fieldsQ
  simp only [List.length_nil] at h1
  omega
theorem flat_map_len {f : Tx → Tx} (hf : ∀ l, (f l).length ≤ l.length) : ∀ l : List Tx, ((l.map f).flatten).length ≤ l.flatten.length
  | [] => Nat.le_refl _
  | a :: r => by
    have := flat_map_len hf r
    have := hf a
    simp only [List.map_cons, List.flatten_cons, List.length_append]
    omega
theorem textQ_len (s : Tx) (f : Fld) : (textQ s f).length ≤ s.length := by
  unfold textQ
  refine Nat.le_trans (trimQ_len _) (Nat.le_trans (flat_map_len bareL_le _) ?_)
  rw [linesF_flat]
  simp
  omega
theorem findF_len (s n : Tx) : ∀ l : List Fld, (findF s n l).1.length ≤ s.length
  | [] => by simp [findF]
  | f :: r => by
    have := findF_len s n r
    unfold findF
    split
    · exact textQ_len s f
    · exact this
end Go.Proofs.YtenbjndldenkfaaGreatDoor

namespace Go.Proofs.YtenbjndldenkfaaGreatDoor
open Go.RowKit

/-! ### parts of a body -/
def dash2 : Tx := [45, 45]
/-- What is behind a beginning; none: it is not there. -/
def cutPre (p s : Tx) : Option Tx := if p.isPrefixOf s then some (s.drop p.length) else none
/-- Does a line part by a boundary, and is it the last one? -/
def partsL (bd l : Tx) : Bool × Bool := match cutPre (dash2 ++ bd) (bareL l) with
  | none => (false, false)
  | some s => match cutPre dash2 s with
    | none => (decide (trimQ s = []), false)
    | some t => (decide (trimQ t = []), true)
def aheadQ (s : Tx) (frm line : Nat) : Nat :=
  if line > frm ∧ s[line - 1]? = some 10 then (if line - 1 > frm ∧ s[line - 2]? = some 13 then line - 2 else line - 1) else line
theorem aheadQ_le {s : Tx} {frm line : Nat} (h : frm ≤ line) : frm ≤ aheadQ s frm line ∧ aheadQ s frm line ≤ line := by
  unfold aheadQ
  split
  · split <;> omega
  · omega
/-- A part that began ends ahead of a line. -/
def addB (s : Tx) (o : Nat) (bg : Option Nat) (out : List (Nat × Nat)) : List (Nat × Nat) := match bg with
  | some b => out ++ [(b, aheadQ s b o)]
  | none => out
theorem addB_len (s : Tx) (o : Nat) (bg : Option Nat) (out : List (Nat × Nat)) : (addB s o bg out).length ≤ out.length + 1 := by cases bg <;> simp [addB]
/-- The spans of some lines: the place, where a part began, the spans so far. -/
def spnL (s bd : Tx) (tu : Nat) : Nat → Option Nat → List (Nat × Nat) → List Tx → List (Nat × Nat)
  | _, bg, out, [] => match bg with
    | some b => out ++ [(b, tu)]
    | none => out
  | o, bg, out, l :: r =>
    if (partsL bd l).1 = false then spnL s bd tu (o + l.length) bg out r
    else if (partsL bd l).2 then addB s o bg out else spnL s bd tu (o + l.length) (some (o + l.length)) (addB s o bg out) r
def sliceQ (s : Tx) (a b : Nat) : Tx := (s.drop a).take (b - a)
theorem sliceQ_len {s : Tx} {a b : Nat} (h : b ≤ s.length) : (sliceQ s a b).length = b - a := by unfold sliceQ; simp; omega
def spansQ (s bd : Tx) (frm tu : Nat) : List (Nat × Nat) := spnL s bd tu frm none [] (linesF (sliceQ s frm tu))
theorem spnL_ok (s bd : Tx) (tu lo : Nat) : ∀ (ls : List Tx) (o : Nat) (bg : Option Nat) (out : List (Nat × Nat)), lo ≤ o → o + ls.flatten.length = tu → (∀ b, bg = some b → lo ≤ b ∧ b ≤ o) → (∀ x ∈ out, lo ≤ x.1 ∧ x.1 ≤ x.2 ∧ x.2 ≤ tu) → ∀ x ∈ spnL s bd tu o bg out ls, lo ≤ x.1 ∧ x.1 ≤ x.2 ∧ x.2 ≤ tu
  | [], o, bg, out, hlo, hto, hbg, hout => by
    simp only [List.flatten_nil, List.length_nil] at hto
    unfold spnL
    cases bg with
    | none => exact hout
    | some b =>
      intro x hx
      rcases List.mem_append.1 hx with hx | hx
      · exact hout x hx
      · simp only [List.mem_singleton] at hx
        subst hx
        have := hbg b rfl
        exact ⟨this.1, by show b ≤ tu; omega, Nat.le_refl _⟩
  | l :: r, o, bg, out, hlo, hto, hbg, hout => by
    rw [List.flatten_cons, List.length_append] at hto
    unfold spnL
    split
    · exact spnL_ok s bd tu lo r _ bg out (by omega) (by omega) (fun b hb => by have := hbg b hb; omega) hout
    · have h2 : ∀ x ∈ addB s o bg out, lo ≤ x.1 ∧ x.1 ≤ x.2 ∧ x.2 ≤ tu := by
        cases bg with
        | none => exact hout
        | some b =>
          intro x hx
          rcases List.mem_append.1 hx with hx | hx
          · exact hout x hx
          · simp only [List.mem_singleton] at hx
            subst hx
            have := hbg b rfl
            have h3 := aheadQ_le (s := s) this.2
            exact ⟨this.1, h3.1, by show aheadQ s b o ≤ tu; omega⟩
      split
      · exact h2
      · exact spnL_ok s bd tu lo r _ _ _ (by omega) (by omega) (fun b hb => by cases hb; omega) h2
theorem spansQ_ok {s bd : Tx} {frm tu : Nat} (h : frm ≤ tu) (hs : tu ≤ s.length) : ∀ x ∈ spansQ s bd frm tu, frm ≤ x.1 ∧ x.1 ≤ x.2 ∧ x.2 ≤ tu := by
  refine spnL_ok s bd tu frm _ _ _ _ (Nat.le_refl _) ?_ (by simp) (by simp)
  rw [linesF_flat, sliceQ_len hs]
  omega
theorem spnL_count (s bd : Tx) (tu : Nat) : ∀ (ls : List Tx) (o : Nat) (bg : Option Nat) (out : List (Nat × Nat)), (spnL s bd tu o bg out ls).length ≤ out.length + ls.length + 1
  | [], o, bg, out => by unfold spnL; cases bg <;> simp
  | l :: r, o, bg, out => by
    have h2 := addB_len s o bg out
    unfold spnL
    split
    · have := spnL_count s bd tu r (o + l.length) bg out
      simp only [List.length_cons]; omega
    · split
      · simp only [List.length_cons]; omega
      · have := spnL_count s bd tu r (o + l.length) (some (o + l.length)) (addB s o bg out)
        simp only [List.length_cons]; omega
theorem spansQ_count (s bd : Tx) (frm tu : Nat) : (spansQ s bd frm tu).length ≤ s.length + 1 := by
  have h1 := spnL_count s bd tu (linesF (sliceQ s frm tu)) frm none []
  have h2 := linesF_count (sliceQ s frm tu)
  have h3 : (sliceQ s frm tu).length ≤ s.length := by unfold sliceQ; simp; omega
  unfold spansQ
  simp only [List.length_nil] at h1
  omega

/-! ### parts -/
def ctype : Tx := [67, 111, 110, 116, 101, 110, 116, 45, 84, 121, 112, 101]
def msgT : Tx := [109, 101, 115, 115, 97, 103, 101]
def rfcT : Tx := [114, 102, 99, 56, 50, 50]
def multT : Tx := [109, 117, 108, 116, 105, 112, 97, 114, 116]
def digT : Tx := [100, 105, 103, 101, 115, 116]
def bndT : Tx := [98, 111, 117, 110, 100, 97, 114, 121]
def mediaQ (s : Tx) (digest : Bool) : Med := if (findH s ctype).2 = false ∧ digest = true then ⟨msgT, rfcT, []⟩ else medQ (findH s ctype).1
/-- A part, but for where its parameters lie. -/
structure Prt where
  kind : Nat
  frm : Nat
  body : Nat
  tu : Nat
  m : Med
  up : Int
  kids : Nat
def kid1 (l : List Prt) (up : Int) : List Prt := if 0 ≤ up then l.modify up.toNat (fun p => { p with kids := p.kids + 1 }) else l
def setK (l : List Prt) (i k : Nat) : List Prt := l.modify i (fun p => { p with kind := k })
def IsLet (m : Med) : Prop := m.ty = msgT ∧ m.sub = rfcT
instance (m : Med) : Decidable (IsLet m) := by unfold IsLet; infer_instance
/-- The parts, of what was found so far: how deep it may go yet. -/
def fndQ (s : Tx) : Nat → List Prt → Nat → Nat → Int → Bool → List Prt
  | n, l, frm, tu, up, dg =>
    if l.length = 64 then l else
    let b := sliceQ s frm tu
    let p : Prt := ⟨0, frm, frm + splitQ b, tu, mediaQ b dg, up, 0⟩
    let l1 := kid1 (l ++ [p]) up
    match n with
    | 0 => l1
    | n + 1 =>
      if IsLet p.m then fndQ s n (setK l1 l.length 2) p.body tu (l.length : Int) false
      else if p.m.ty ≠ multT ∨ (findQ p.m.ps bndT).1 = [] then l1
      else (spansQ s (findQ p.m.ps bndT).1 p.body tu).foldl (fun acc x => fndQ s n (setK acc l.length 1) x.1 x.2 (l.length : Int) (decide (p.m.sub = digT))) l1
def partsQ (s : Tx) : List Prt := fndQ s 6 [] 0 s.length (-1) false
end Go.Proofs.YtenbjndldenkfaaGreatDoor

namespace Go.Proofs.YtenbjndldenkfaaGreatDoor
open Go.RowKit

/-- What each octet of a text is for: 0 plain, 1 quoted, 2 of a remark, 3 left out.  What stands open, how deep remarks are. -/
def usesF (u d : Nat) (s : Tx) : List Nat := match s with
  | [] => []
  | c :: r =>
    if u ≠ 0 ∧ c = 92 then (match r with
      | [] => [3]
      | _ :: r2 => 3 :: u :: usesF u d r2)
    else if u = 0 ∧ c = 34 then 3 :: usesF 1 d r
    else if u = 1 ∧ c = 34 then 3 :: usesF 0 d r
    else if u ≠ 1 ∧ c = 40 then 2 :: usesF 2 (d + 1) r
    else if u = 2 ∧ c = 41 then 2 :: usesF (if d - 1 = 0 then 0 else 2) (d - 1) r
    else u :: usesF u d r
termination_by s.length
theorem usesF_len : ∀ (n : Nat) (s : Tx) (u d : Nat), s.length ≤ n → (usesF u d s).length = s.length
  | _, [], u, d, _ => by unfold usesF; rfl
  | 0, c :: r, _, _, h => by simp at h
  | n + 1, c :: r, u, d, h => by
    have ih := fun u d => usesF_len n r u d (by simpa using h)
    unfold usesF
    split
    · cases r with
      | nil => rfl
      | cons x r2 =>
        have ih2 := usesF_len n r2 u d (by simp at h; omega)
        simp [ih2]
    · split
      · simp [ih]
      · split
        · simp [ih]
        · split
          · simp [ih]
          · split
            · simp [ih]
            · simp [ih]
def usesQ (s : Tx) : List Nat := usesF 0 0 s
theorem usesQ_len (s : Tx) : (usesQ s).length = s.length := usesF_len s.length s 0 0 (Nat.le_refl _)
theorem uses_esc {u d : Nat} {c x : UInt8} {r : Tx} (h : u ≠ 0 ∧ c = 92) : usesF u d (c :: x :: r) = 3 :: u :: usesF u d r := by
  conv => lhs; unfold usesF
  rw [if_pos h]
theorem uses_esc1 {u d : Nat} {c : UInt8} (h : u ≠ 0 ∧ c = 92) : usesF u d [c] = [3] := by
  conv => lhs; unfold usesF
  rw [if_pos h]
theorem uses_open {u d : Nat} {c : UInt8} {r : Tx} (h1 : ¬ (u ≠ 0 ∧ c = 92)) (h : u = 0 ∧ c = 34) : usesF u d (c :: r) = 3 :: usesF 1 d r := by
  conv => lhs; unfold usesF
  rw [if_neg h1, if_pos h]
theorem uses_shut {u d : Nat} {c : UInt8} {r : Tx} (h1 : ¬ (u ≠ 0 ∧ c = 92)) (h2 : ¬ (u = 0 ∧ c = 34)) (h : u = 1 ∧ c = 34) : usesF u d (c :: r) = 3 :: usesF 0 d r := by
  conv => lhs; unfold usesF
  rw [if_neg h1, if_neg h2, if_pos h]
theorem uses_in {u d : Nat} {c : UInt8} {r : Tx} (h1 : ¬ (u ≠ 0 ∧ c = 92)) (h2 : ¬ (u = 0 ∧ c = 34)) (h3 : ¬ (u = 1 ∧ c = 34)) (h : u ≠ 1 ∧ c = 40) : usesF u d (c :: r) = 2 :: usesF 2 (d + 1) r := by
  conv => lhs; unfold usesF
  rw [if_neg h1, if_neg h2, if_neg h3, if_pos h]
theorem uses_out {u d : Nat} {c : UInt8} {r : Tx} (h1 : ¬ (u ≠ 0 ∧ c = 92)) (h2 : ¬ (u = 0 ∧ c = 34)) (h3 : ¬ (u = 1 ∧ c = 34)) (h4 : ¬ (u ≠ 1 ∧ c = 40)) (h : u = 2 ∧ c = 41) : usesF u d (c :: r) = 2 :: usesF (if d - 1 = 0 then 0 else 2) (d - 1) r := by
  conv => lhs; unfold usesF
  rw [if_neg h1, if_neg h2, if_neg h3, if_neg h4, if_pos h]
theorem uses_in_it {u d : Nat} {c : UInt8} {r : Tx} (h1 : ¬ (u ≠ 0 ∧ c = 92)) (h2 : ¬ (u = 0 ∧ c = 34)) (h3 : ¬ (u = 1 ∧ c = 34)) (h4 : ¬ (u ≠ 1 ∧ c = 40)) (h5 : ¬ (u = 2 ∧ c = 41)) : usesF u d (c :: r) = u :: usesF u d r := by
  conv => lhs; unfold usesF
  rw [if_neg h1, if_neg h2, if_neg h3, if_neg h4, if_neg h5]

/-- What signs say: does a blank wait, what was said. -/
def saysF : Bool → Tx → List (UInt8 × Nat) → Tx
  | _, out, [] => out
  | wt, out, (c, u) :: r =>
    if u = 3 then saysF wt out r
    else if u = 2 ∨ (u = 0 ∧ Bl c) then saysF (decide (0 < out.length)) out r
    else saysF false ((if wt then out ++ [32] else out) ++ [c]) r
def saysQ (z : List (UInt8 × Nat)) : Tx := saysF false [] z
theorem saysF_len : ∀ (z : List (UInt8 × Nat)) (wt : Bool) (out : Tx), (saysF wt out z).length ≤ out.length + 2 * z.length
  | [], _, out => by simp [saysF]
  | (c, u) :: r, wt, out => by
    unfold saysF
    split
    · have := saysF_len r wt out
      simp only [List.length_cons]; omega
    · split
      · have := saysF_len r (decide (0 < out.length)) out
        simp only [List.length_cons]; omega
      · have := saysF_len r false ((if wt then out ++ [32] else out) ++ [c])
        have h2 : (if wt then out ++ [32] else out).length ≤ out.length + 1 := by split <;> simp
        rw [List.length_append] at this
        simp only [List.length_cons, List.length_nil] at this ⊢
        omega
theorem saysQ_len (z : List (UInt8 × Nat)) : (saysQ z).length ≤ 2 * z.length := by
  have := saysF_len z false []
  simpa [saysQ] using this

/-- The first plain sign; -1: there is none. -/
def fndA (sign : UInt8) : List (UInt8 × Nat) → Nat → Int
  | [], _ => -1
  | (c, u) :: r, k => if u = 0 ∧ c = sign then (k : Int) else fndA sign r (k + 1)
theorem fndA_res (sign : UInt8) : ∀ (z : List (UInt8 × Nat)) (k : Nat), fndA sign z k = -1 ∨ ∃ i : Nat, i < z.length ∧ fndA sign z k = ((k + i : Nat) : Int) ∧ z[i]? = some (sign, 0)
  | [], _ => .inl rfl
  | (c, u) :: r, k => by
    unfold fndA
    split
    · rename_i h
      exact .inr ⟨0, by simp, by simp, by rw [List.getElem?_cons_zero, h.1, h.2]⟩
    · rcases fndA_res sign r (k + 1) with h | ⟨i, h1, h2, h3⟩
      · exact .inl h
      · exact .inr ⟨i + 1, by simp; omega, by rw [h2]; congr 1; omega, by simpa using h3⟩

/-- A text's pieces: where one is, where the piece began, is it in angles, the pieces so far. -/
def pcsA (s : Tx) : List (UInt8 × Nat) → Nat → Nat → Bool → List Tx → List Tx
  | [], _, frm, _, out => out ++ [s.drop frm]
  | (c, u) :: r, k, frm, ang, out =>
    if u ≠ 0 then pcsA s r (k + 1) frm ang out
    else if c = 60 then pcsA s r (k + 1) frm true out
    else if c = 62 then pcsA s r (k + 1) frm false out
    else if c = 44 ∧ ang = false then pcsA s r (k + 1) (k + 1) ang (out ++ [sliceQ s frm k])
    else pcsA s r (k + 1) frm ang out
def piecesA (s : Tx) : List Tx := pcsA s (s.zip (usesQ s)) 0 0 false []
theorem pcsA_mem (s : Tx) : ∀ (z : List (UInt8 × Nat)) (k frm : Nat) (ang : Bool) (out : List Tx), (∀ x ∈ out, x.length ≤ s.length) → ∀ x ∈ pcsA s z k frm ang out, x.length ≤ s.length
  | [], _, frm, _, out, h => by
    intro x hx
    rcases List.mem_append.1 hx with hx | hx
    · exact h x hx
    · simp only [List.mem_singleton] at hx
      subst hx
      simp
  | (c, u) :: r, k, frm, ang, out, h => by
    unfold pcsA
    split
    · exact pcsA_mem s r _ _ _ _ h
    · split
      · exact pcsA_mem s r _ _ _ _ h
      · split
        · exact pcsA_mem s r _ _ _ _ h
        · split
          · refine pcsA_mem s r _ _ _ _ fun x hx => ?_
            rcases List.mem_append.1 hx with hx | hx
            · exact h x hx
            · simp only [List.mem_singleton] at hx
              subst hx
              unfold sliceQ
              simp
              omega
          · exact pcsA_mem s r _ _ _ _ h
theorem pcsA_count (s : Tx) : ∀ (z : List (UInt8 × Nat)) (k frm : Nat) (ang : Bool) (out : List Tx), (pcsA s z k frm ang out).length ≤ out.length + z.length + 1
  | [], _, frm, _, out => by simp [pcsA]
  | (c, u) :: r, k, frm, ang, out => by
    have h1 := fun frm ang out => pcsA_count s r (k + 1) frm ang out
    unfold pcsA
    simp only [List.length_cons]
    split
    · have := h1 frm ang out; omega
    · split
      · have := h1 frm true out; omega
      · split
        · have := h1 frm false out; omega
        · split
          · have := h1 (k + 1) ang (out ++ [sliceQ s frm k]); simp only [List.length_append, List.length_cons, List.length_nil] at this; omega
          · have := h1 frm ang out; omega
/-- The first remark: is a sign of the remark's own, how deep, what was found. -/
def frsA : Bool → Int → Tx → List (UInt8 × Nat) → Tx
  | _, _, out, [] => out
  | fr, d, out, (c, u) :: r =>
    if u = 2 ∧ c = 40 ∧ fr = true ∧ d = 0 then frsA (decide (u ≠ 3 ∨ c ≠ 92)) 1 out r
    else
      if u = 2 ∧ (if u = 2 ∧ c = 40 ∧ fr = true then d + 1 else if u = 2 ∧ c = 41 ∧ fr = true then d - 1 else d) = 0 then out
      else frsA (decide (u ≠ 3 ∨ c ≠ 92)) (if u = 2 ∧ c = 40 ∧ fr = true then d + 1 else if u = 2 ∧ c = 41 ∧ fr = true then d - 1 else d) (if u = 2 then out ++ [c] else out) r
theorem frsA_len : ∀ (z : List (UInt8 × Nat)) (fr : Bool) (d : Int) (out : Tx), (frsA fr d out z).length ≤ out.length + z.length
  | [], _, _, out => by simp [frsA]
  | (c, u) :: r, fr, d, out => by
    unfold frsA
    simp only [List.length_cons]
    generalize (if u = 2 ∧ c = 40 ∧ fr = true then d + 1 else if u = 2 ∧ c = 41 ∧ fr = true then d - 1 else d) = d2
    split
    · have := frsA_len r (decide (u ≠ 3 ∨ c ≠ 92)) 1 out; omega
    · split
      · omega
      · have := fun b e => frsA_len r b e (if u = 2 then out ++ [c] else out)
        have h2 : (if u = 2 then out ++ [c] else out).length ≤ out.length + 1 := by split <;> simp
        have h3 := this (decide (u ≠ 3 ∨ c ≠ 92)) d2
        omega
def firstA (z : List (UInt8 × Nat)) : Tx := trimQ (frsA true 0 [] z)
structure Adr where
  name : Tx
  box : Tx
  host : Tx
deriving DecidableEq
/-- A text at its last octet of some kind: what is ahead, what is behind; none: there is none. -/
def lastAt (x : UInt8) : Tx → Option (Tx × Tx)
  | [] => none
  | c :: r => match lastAt x r with
    | some (a, b) => some (c :: a, b)
    | none => if c = x then some ([], r) else none
theorem lastAt_none {x : UInt8} : ∀ {t : Tx}, lastAt x t = none → x ∉ t
  | [], _ => by simp
  | y :: t, h => by
    unfold lastAt at h
    cases ht : lastAt x t with
    | some p => rw [ht] at h; cases h
    | none =>
      rw [ht] at h
      dsimp only at h
      by_cases hy : y = x
      · rw [if_pos hy] at h; cases h
      · simp only [List.mem_cons, not_or]
        exact ⟨fun e => hy e.symm, lastAt_none ht⟩
theorem lastAt_some {x : UInt8} : ∀ {s a b : Tx}, lastAt x s = some (a, b) → s = a ++ x :: b ∧ x ∉ b
  | c :: r, a, b, h => by
    unfold lastAt at h
    cases hr : lastAt x r with
    | some p =>
      rw [hr] at h
      cases h
      obtain ⟨h1, h2⟩ := lastAt_some (a := p.1) (b := p.2) hr
      exact ⟨by rw [h1]; rfl, h2⟩
    | none =>
      rw [hr] at h
      dsimp only at h
      by_cases hc : c = x
      · rw [if_pos hc] at h
        cases h
        exact ⟨by rw [hc]; rfl, lastAt_none hr⟩
      · rw [if_neg hc] at h; cases h
def boxHost (all : Tx) : Tx × Tx := match lastAt 64 all with
  | some (a, b) => (a, b)
  | none => (all, [])
/-- Up to where an address in angles goes. -/
def angTo (z : List (UInt8 × Nat)) (frm : Nat) : Nat := if fndA 62 (z.drop frm) frm < 0 then z.length else (fndA 62 (z.drop frm) frm).toNat
def nmA (z : List (UInt8 × Nat)) : Tx := if fndA 60 z 0 < 0 then firstA z else saysQ (z.take (fndA 60 z 0).toNat)
def allA (z : List (UInt8 × Nat)) : Tx := if fndA 60 z 0 < 0 then saysQ z else saysQ ((z.drop ((fndA 60 z 0).toNat + 1)).take (angTo z (fndA 60 z 0).toNat - ((fndA 60 z 0).toNat + 1)))
def oneA (s : Tx) : Adr := ⟨nmA (s.zip (usesQ s)), (boxHost (allA (s.zip (usesQ s)))).1, (boxHost (allA (s.zip (usesQ s)))).2⟩
def listA (s : Tx) : List Adr := ((piecesA s).map oneA).filter (fun a => decide (a ≠ ⟨[], [], []⟩))
theorem boxHost_len (t : Tx) : (boxHost t).1.length ≤ t.length ∧ (boxHost t).2.length ≤ t.length := by
  unfold boxHost
  cases h : lastAt 64 t with
  | none => exact ⟨Nat.le_refl _, by simp⟩
  | some p =>
    obtain ⟨a, b⟩ := p
    have := (lastAt_some h).1
    have := congrArg List.length this
    simp at this
    exact ⟨by show a.length ≤ _; omega, by show b.length ≤ _; omega⟩
theorem zip_len (s : Tx) : (s.zip (usesQ s)).length = s.length := by rw [List.length_zip, usesQ_len, Nat.min_self]
theorem firstA_len (z : List (UInt8 × Nat)) : (firstA z).length ≤ z.length := by
  refine Nat.le_trans (trimQ_len _) ?_
  have := frsA_len z true 0 []
  simp only [List.length_nil, Nat.zero_add] at this
  exact this
theorem nmA_len (z : List (UInt8 × Nat)) : (nmA z).length ≤ 2 * z.length := by
  unfold nmA
  split
  · have := firstA_len z; omega
  · have := saysQ_len (z.take (fndA 60 z 0).toNat)
    rw [List.length_take] at this
    omega
theorem allA_len (z : List (UInt8 × Nat)) : (allA z).length ≤ 2 * z.length := by
  unfold allA
  split
  · exact saysQ_len z
  · generalize (fndA 60 z 0).toNat = f
    have := saysQ_len ((z.drop (f + 1)).take (angTo z f - (f + 1)))
    simp only [List.length_take, List.length_drop] at this
    omega
theorem oneA_len (s : Tx) : (oneA s).name.length ≤ 2 * s.length ∧ (oneA s).box.length ≤ 2 * s.length ∧ (oneA s).host.length ≤ 2 * s.length := by
  have hz := zip_len s
  have h1 := nmA_len (s.zip (usesQ s))
  have h2 := allA_len (s.zip (usesQ s))
  have h3 := boxHost_len (allA (s.zip (usesQ s)))
  rw [hz] at h1 h2
  exact ⟨h1, Nat.le_trans h3.1 h2, Nat.le_trans h3.2 h2⟩
theorem listA_mem {s : Tx} : ∀ a ∈ listA s, a.name.length ≤ 2 * s.length ∧ a.box.length ≤ 2 * s.length ∧ a.host.length ≤ 2 * s.length := by
  intro a ha
  obtain ⟨p, hp, rfl⟩ := List.mem_map.1 (List.mem_filter.1 ha).1
  have h1 := pcsA_mem s _ 0 0 false [] (by simp) p hp
  have h2 := oneA_len p
  omega
theorem listA_count (s : Tx) : (listA s).length ≤ s.length + 1 := by
  have h1 := pcsA_count s (s.zip (usesQ s)) 0 0 false []
  rw [zip_len] at h1
  have h2 : (listA s).length ≤ (piecesA s).length := by
    unfold listA
    refine Nat.le_trans (List.length_filter_le _ _) ?_
    rw [List.length_map]
    exact Nat.le_refl _
  simp only [List.length_nil, Nat.zero_add] at h1
  exact Nat.le_trans h2 h1
end Go.Proofs.YtenbjndldenkfaaGreatDoor

namespace Go.Proofs.YtenbjndldenkfaaGreatDoor
open Go.RowKit

/-! ### how parts lie -/
/-- What a part of a letter has: it lies among the octets, and just as the letter's body that it is of. -/
def PartOk (N : Nat) (l : List Prt) (k : Nat) (p : Prt) : Prop :=
  p.frm ≤ p.body ∧ p.body ≤ p.tu ∧ p.tu ≤ N ∧ p.kind ≤ 2 ∧ p.up < (k : Int) ∧ (0 ≤ p.up → ∀ u, l[p.up.toNat]? = some u → u.kind = 2 → p.frm = u.body ∧ p.tu = u.tu)
def AllOk (N : Nat) (l : List Prt) : Prop := ∀ (k : Nat) (p : Prt), l[k]? = some p → PartOk N l k p
/-- The parts that were there are there yet, but for how many they have within. -/
def Ext (l l2 : List Prt) : Prop := l.length ≤ l2.length ∧ ∀ (k : Nat) (p : Prt), l[k]? = some p → ∃ j, l2[k]? = some { p with kids := j }
theorem Ext.refl (l : List Prt) : Ext l l := ⟨Nat.le_refl _, fun _ p h => ⟨p.kids, h⟩⟩
theorem Ext.trans {a b c : List Prt} (h : Ext a b) (k : Ext b c) : Ext a c := ⟨Nat.le_trans h.1 k.1, fun i p hp => by
  obtain ⟨j, hj⟩ := h.2 i p hp
  obtain ⟨j2, hj2⟩ := k.2 i _ hj
  exact ⟨j2, hj2⟩⟩
theorem kid1_len (l : List Prt) (up : Int) : (kid1 l up).length = l.length := by unfold kid1; split <;> simp
theorem kid1_ext (l : List Prt) (up : Int) : Ext l (kid1 l up) := by
  refine ⟨by rw [kid1_len]; exact Nat.le_refl _, fun k p h => ?_⟩
  unfold kid1
  split
  · rw [List.getElem?_modify, h]
    by_cases e : up.toNat = k
    · exact ⟨p.kids + 1, by simp [e]⟩
    · exact ⟨p.kids, by simp [e]⟩
  · exact ⟨p.kids, h⟩
theorem snoc_ext (l : List Prt) (p : Prt) : Ext l (l ++ [p]) := ⟨by simp, fun k q h => ⟨q.kids, by
  have := (List.getElem?_eq_some_iff.1 h).1
  rw [List.getElem?_append_left this, h]⟩⟩
theorem setK_len (l : List Prt) (i k : Nat) : (setK l i k).length = l.length := by unfold setK; simp
theorem setK_get (l : List Prt) (i k j : Nat) : (setK l i k)[j]? = (l[j]?).map (fun p => if i = j then { p with kind := k } else p) := by
  unfold setK
  rw [List.getElem?_modify]
  cases l[j]? with
  | none => rfl
  | some p => by_cases e : i = j <;> simp [e]
theorem kid1_get (l : List Prt) (up : Int) (j : Nat) {p : Prt} (h : (kid1 l up)[j]? = some p) : ∃ q, l[j]? = some q ∧ ∃ c, p = { q with kids := c } := by
  unfold kid1 at h
  split at h
  · rw [List.getElem?_modify] at h
    cases hl : l[j]? with
    | none => rw [hl] at h; simp at h
    | some q =>
      rw [hl] at h
      simp only [Option.map_eq_map, Option.map_some, Option.some.injEq] at h
      by_cases e : up.toNat = j
      · rw [if_pos e] at h; exact ⟨q, rfl, _, h.symm⟩
      · rw [if_neg e] at h; exact ⟨q, rfl, q.kids, h.symm⟩
  · exact ⟨p, h, p.kids, rfl⟩

/-- The entry of a part stays but for its kind and how many it has within. -/
def Lies (l : List Prt) (i frm body tu : Nat) (up : Int) : Prop := ∃ q, l[i]? = some q ∧ q.frm = frm ∧ q.body = body ∧ q.tu = tu ∧ q.up = up
theorem Lies.ext {l l2 : List Prt} {i a b c : Nat} {up : Int} (h : Lies l i a b c up) (k : Ext l l2) : Lies l2 i a b c up := by
  obtain ⟨q, h1, h2, h3, h4, h5⟩ := h
  obtain ⟨j, hj⟩ := k.2 i q h1
  exact ⟨_, hj, h2, h3, h4, h5⟩
theorem Lies.set {l : List Prt} {i a b c j k : Nat} {up : Int} (h : Lies l i a b c up) : Lies (setK l j k) i a b c up := by
  obtain ⟨q, h1, h2, h3, h4, h5⟩ := h
  rw [Lies]
  rw [setK_get, h1]
  by_cases e : j = i
  · exact ⟨{ q with kind := k }, by simp [e], h2, h3, h4, h5⟩
  · exact ⟨q, by simp [e], h2, h3, h4, h5⟩
theorem setK_ext {l l2 : List Prt} {i k : Nat} (h : Ext l l2) (hi : l.length ≤ i) : Ext l (setK l2 i k) := by
  refine ⟨by rw [setK_len]; exact h.1, fun j p hp => ?_⟩
  obtain ⟨c, hc⟩ := h.2 j p hp
  have hj := (List.getElem?_eq_some_iff.1 hp).1
  refine ⟨c, ?_⟩
  rw [setK_get, hc]
  simp [show i ≠ j by omega]
theorem set1_ok {N : Nat} {l : List Prt} (h : AllOk N l) (i : Nat) : AllOk N (setK l i 1) := by
  intro k p hp
  rw [setK_get] at hp
  cases hl : l[k]? with
  | none => rw [hl] at hp; cases hp
  | some q =>
    rw [hl] at hp
    simp only [Option.map_some, Option.some.injEq] at hp
    obtain ⟨h1, h2, h3, h4, h5, h6⟩ := h k q hl
    have hu : ∀ u, (setK l i 1)[q.up.toNat]? = some u → u.kind = 2 → ∃ u2, l[q.up.toNat]? = some u2 ∧ u2.kind = 2 ∧ u2.body = u.body ∧ u2.tu = u.tu := by
      intro u hu hk
      rw [setK_get] at hu
      cases hl2 : l[q.up.toNat]? with
      | none => rw [hl2] at hu; cases hu
      | some u2 =>
        rw [hl2] at hu
        simp only [Option.map_some, Option.some.injEq] at hu
        split at hu
        · subst hu; simp at hk
        · subst hu; exact ⟨u2, rfl, hk, rfl, rfl⟩
    by_cases e : i = k
    · rw [if_pos e] at hp
      subst hp
      refine ⟨h1, h2, h3, by show (1 : Nat) ≤ 2; omega, h5, fun hup u hu2 hk => ?_⟩
      obtain ⟨u2, e1, e2, e3, e4⟩ := hu u hu2 hk
      have := h6 hup u2 e1 e2
      exact ⟨this.1.trans e3, this.2.trans e4⟩
    · rw [if_neg e] at hp
      subst hp
      refine ⟨h1, h2, h3, h4, h5, fun hup u hu2 hk => ?_⟩
      obtain ⟨u2, e1, e2, e3, e4⟩ := hu u hu2 hk
      have := h6 hup u2 e1 e2
      exact ⟨this.1.trans e3, this.2.trans e4⟩
/-- The last part becomes a letter: nothing is within it yet. -/
theorem set2_ok {N : Nat} {l : List Prt} (h : AllOk N l) {i : Nat} (hi : l.length = i + 1) : AllOk N (setK l i 2) := by
  intro k p hp
  rw [setK_get] at hp
  cases hl : l[k]? with
  | none => rw [hl] at hp; cases hp
  | some q =>
    rw [hl] at hp
    simp only [Option.map_some, Option.some.injEq] at hp
    have hk := (List.getElem?_eq_some_iff.1 hl).1
    obtain ⟨h1, h2, h3, h4, h5, h6⟩ := h k q hl
    have hne : 0 ≤ q.up → i ≠ q.up.toNat := fun hup => by omega
    have hu : 0 ≤ q.up → ∀ u, (setK l i 2)[q.up.toNat]? = some u → l[q.up.toNat]? = some u := by
      intro hup u hu
      rw [setK_get] at hu
      cases hl2 : l[q.up.toNat]? with
      | none => rw [hl2] at hu; cases hu
      | some u2 =>
        rw [hl2] at hu
        simp only [Option.map_some, Option.some.injEq] at hu
        rw [if_neg (hne hup)] at hu
        rw [hu]
    by_cases e : i = k
    · rw [if_pos e] at hp
      subst hp
      exact ⟨h1, h2, h3, by show (2 : Nat) ≤ 2; omega, h5, fun hup u hu2 hk2 => h6 hup u (hu hup u hu2) hk2⟩
    · rw [if_neg e] at hp
      subst hp
      exact ⟨h1, h2, h3, h4, h5, fun hup u hu2 hk2 => h6 hup u (hu hup u hu2) hk2⟩
theorem add_ok {N : Nat} {l : List Prt} {p : Prt} (h : AllOk N l) (h1 : p.frm ≤ p.body) (h2 : p.body ≤ p.tu) (h3 : p.tu ≤ N) (h4 : p.kind = 0) (h5 : p.up < (l.length : Int)) (h6 : 0 ≤ p.up → ∀ u, l[p.up.toNat]? = some u → u.kind = 2 → p.frm = u.body ∧ p.tu = u.tu) (up : Int) : AllOk N (kid1 (l ++ [p]) up) := by
  intro k q hq
  obtain ⟨q2, hq2, c, rfl⟩ := kid1_get _ _ _ hq
  have hu : ∀ (j : Nat) (u : Prt), j < l.length → (kid1 (l ++ [p]) up)[j]? = some u → ∃ u2, l[j]? = some u2 ∧ u2.kind = u.kind ∧ u2.body = u.body ∧ u2.tu = u.tu := by
    intro j u hj hu
    obtain ⟨u2, hu2, c2, rfl⟩ := kid1_get _ _ _ hu
    rw [List.getElem?_append_left hj] at hu2
    exact ⟨u2, hu2, rfl, rfl, rfl⟩
  by_cases hk : k < l.length
  · rw [List.getElem?_append_left hk] at hq2
    obtain ⟨g1, g2, g3, g4, g5, g6⟩ := h k q2 hq2
    refine ⟨g1, g2, g3, g4, g5, fun hup u hu1 hk2 => ?_⟩
    have hup : 0 ≤ q2.up := hup
    obtain ⟨u2, e1, e2, e3, e4⟩ := hu q2.up.toNat u (by omega) hu1
    have := g6 hup u2 e1 (e2.trans hk2)
    exact ⟨this.1.trans e3, this.2.trans e4⟩
  · have hkl : k = l.length := by
      have := (List.getElem?_eq_some_iff.1 hq2).1
      simp at this
      omega
    subst hkl
    rw [List.getElem?_concat_length] at hq2
    cases hq2
    refine ⟨h1, h2, h3, by show p.kind ≤ 2; omega, h5, fun hup u hu1 hk2 => ?_⟩
    have hup : 0 ≤ p.up := hup
    obtain ⟨u2, e1, e2, e3, e4⟩ := hu p.up.toNat u (by omega) hu1
    have := h6 hup u2 e1 (e2.trans hk2)
    exact ⟨this.1.trans e3, this.2.trans e4⟩
theorem fnd_ok (s : Tx) : ∀ (n : Nat) (l : List Prt) (frm tu : Nat) (up : Int) (dg : Bool), frm ≤ tu → tu ≤ s.length → l.length ≤ 64 → AllOk s.length l → up < (l.length : Int) → (0 ≤ up → ∀ u, l[up.toNat]? = some u → u.kind = 2 → frm = u.body ∧ tu = u.tu) →
    AllOk s.length (fndQ s n l frm tu up dg) ∧ Ext l (fndQ s n l frm tu up dg) ∧ (fndQ s n l frm tu up dg).length ≤ 64 ∧ (l.length < 64 → Lies (fndQ s n l frm tu up dg) l.length frm (frm + splitQ (sliceQ s frm tu)) tu up) := by
  intro n
  induction n with
  | zero =>
    intro l frm tu up dg hft hts hl hok hup hu
    unfold fndQ
    by_cases h64 : l.length = 64
    · rw [if_pos h64]; exact ⟨hok, Ext.refl l, hl, fun h => absurd h (by omega)⟩
    rw [if_neg h64]
    have hsp : splitQ (sliceQ s frm tu) ≤ tu - frm := by have := splitQ_le (sliceQ s frm tu); rw [sliceQ_len hts] at this; exact this
    refine ⟨add_ok hok (by dsimp only; omega) (by dsimp only; omega) hts rfl hup hu up, (snoc_ext _ _).trans (kid1_ext _ _), by rw [kid1_len]; simp; omega, fun _ => ?_⟩
    have : Lies (l ++ [(⟨0, frm, frm + splitQ (sliceQ s frm tu), tu, mediaQ (sliceQ s frm tu) dg, up, 0⟩ : Prt)]) l.length frm (frm + splitQ (sliceQ s frm tu)) tu up := ⟨_, List.getElem?_concat_length .., rfl, rfl, rfl, rfl⟩
    exact this.ext (kid1_ext _ _)
  | succ n ih =>
    intro l frm tu up dg hft hts hl hok hup hu
    unfold fndQ
    by_cases h64 : l.length = 64
    · rw [if_pos h64]; exact ⟨hok, Ext.refl l, hl, fun h => absurd h (by omega)⟩
    rw [if_neg h64]
    have hsp : splitQ (sliceQ s frm tu) ≤ tu - frm := by have := splitQ_le (sliceQ s frm tu); rw [sliceQ_len hts] at this; exact this
    have hok1 := add_ok (p := ⟨0, frm, frm + splitQ (sliceQ s frm tu), tu, mediaQ (sliceQ s frm tu) dg, up, 0⟩) hok (by dsimp only; omega) (by dsimp only; omega) hts rfl hup hu up
    have hex1 : Ext l (kid1 (l ++ [(⟨0, frm, frm + splitQ (sliceQ s frm tu), tu, mediaQ (sliceQ s frm tu) dg, up, 0⟩ : Prt)]) up) := (snoc_ext _ _).trans (kid1_ext _ _)
    have hlen1 : (kid1 (l ++ [(⟨0, frm, frm + splitQ (sliceQ s frm tu), tu, mediaQ (sliceQ s frm tu) dg, up, 0⟩ : Prt)]) up).length = l.length + 1 := by rw [kid1_len]; simp
    have hli1 : Lies (kid1 (l ++ [(⟨0, frm, frm + splitQ (sliceQ s frm tu), tu, mediaQ (sliceQ s frm tu) dg, up, 0⟩ : Prt)]) up) l.length frm (frm + splitQ (sliceQ s frm tu)) tu up := by
      have : Lies (l ++ [(⟨0, frm, frm + splitQ (sliceQ s frm tu), tu, mediaQ (sliceQ s frm tu) dg, up, 0⟩ : Prt)]) l.length frm (frm + splitQ (sliceQ s frm tu)) tu up := ⟨_, List.getElem?_concat_length .., rfl, rfl, rfl, rfl⟩
      exact this.ext (kid1_ext _ _)
    dsimp only
    generalize hm : mediaQ (sliceQ s frm tu) dg = m at *
    generalize hbd : frm + splitQ (sliceQ s frm tu) = body at *
    generalize kid1 (l ++ [(⟨0, frm, body, tu, m, up, 0⟩ : Prt)]) up = l1 at *
    by_cases hlet : IsLet m
    · rw [if_pos hlet]
      have hex2 := setK_ext (k := 2) hex1 (Nat.le_refl _)
      have hlen2 : (setK l1 l.length 2).length = l.length + 1 := by rw [setK_len, hlen1]
      obtain ⟨r1, r2, r3, _⟩ := ih (setK l1 l.length 2) body tu (l.length : Int) false (by omega) hts (by omega) (set2_ok hok1 hlen1) (by omega) (fun _ u hu1 _ => by
        obtain ⟨q, e1, e2, e3, e4, e5⟩ := (hli1.set (j := l.length) (k := 2))
        rw [Int.toNat_natCast, e1] at hu1
        cases hu1
        exact ⟨e3.symm, e4.symm⟩)
      exact ⟨r1, hex2.trans r2, r3, fun _ => (hli1.set).ext r2⟩
    · rw [if_neg hlet]
      split
      · exact ⟨hok1, hex1, by omega, fun _ => hli1⟩
      · have hsps := spansQ_ok (s := s) (bd := (findQ m.ps bndT).1) (frm := body) (tu := tu) (by omega) hts
        generalize spansQ s (findQ m.ps bndT).1 body tu = sp at *
        have key : ∀ (sp : List (Nat × Nat)) (acc : List Prt), (∀ x ∈ sp, body ≤ x.1 ∧ x.1 ≤ x.2 ∧ x.2 ≤ tu) → AllOk s.length acc → Ext l acc → acc.length ≤ 64 → l.length < acc.length → Lies acc l.length frm body tu up →
            (AllOk s.length (sp.foldl (fun acc x => fndQ s n (setK acc l.length 1) x.1 x.2 (l.length : Int) (decide (m.sub = digT))) acc) ∧ Ext l (sp.foldl (fun acc x => fndQ s n (setK acc l.length 1) x.1 x.2 (l.length : Int) (decide (m.sub = digT))) acc) ∧ (sp.foldl (fun acc x => fndQ s n (setK acc l.length 1) x.1 x.2 (l.length : Int) (decide (m.sub = digT))) acc).length ≤ 64 ∧ Lies (sp.foldl (fun acc x => fndQ s n (setK acc l.length 1) x.1 x.2 (l.length : Int) (decide (m.sub = digT))) acc) l.length frm body tu up) := by
          intro sp
          induction sp with
          | nil => exact fun acc _ a b c _ d => ⟨a, b, c, d⟩
          | cons x r ihs =>
            intro acc hb ha he hle hlt hli
            have hx := hb x (by simp)
            have hk : (setK acc l.length 1).length = acc.length := setK_len _ _ _
            obtain ⟨r1, r2, r3, _⟩ := ih (setK acc l.length 1) x.1 x.2 (l.length : Int) (decide (m.sub = digT)) hx.2.1 (by omega) (by omega) (set1_ok ha _) (by omega) (fun _ u hu1 hk2 => by
              rw [Int.toNat_natCast, setK_get] at hu1
              cases hc : acc[l.length]? with
              | none => rw [hc] at hu1; cases hu1
              | some u2 =>
                rw [hc] at hu1
                simp only [Option.map_some, if_true, Option.some.injEq] at hu1
                subst hu1
                simp at hk2)
            rw [List.foldl_cons]
            exact ihs _ (fun y hy => hb y (by simp [hy])) r1 ((setK_ext he (Nat.le_refl _)).trans r2) r3 (by have := r2.1; omega) ((hli.set).ext r2)
        obtain ⟨r1, r2, r3, r4⟩ := key sp l1 hsps hok1 hex1 (by omega) (by omega) hli1
        exact ⟨r1, r2, r3, fun _ => r4⟩
theorem parts_ok (s : Tx) : AllOk s.length (partsQ s) ∧ (partsQ s).length ≤ 64 ∧ Lies (partsQ s) 0 0 (splitQ s) s.length (-1) := by
  obtain ⟨h1, _, h3, h4⟩ := fnd_ok s 6 [] 0 s.length (-1) false (Nat.zero_le _) (Nat.le_refl _) (by simp) (fun k p h => by simp at h) (by simp) (fun h => absurd h (by decide))
  have h4 := h4 (by simp)
  have hs0 : sliceQ s 0 s.length = s := by unfold sliceQ; simp
  rw [hs0, Nat.zero_add] at h4
  exact ⟨h1, h3, h4⟩
end Go.Proofs.YtenbjndldenkfaaGreatDoor

