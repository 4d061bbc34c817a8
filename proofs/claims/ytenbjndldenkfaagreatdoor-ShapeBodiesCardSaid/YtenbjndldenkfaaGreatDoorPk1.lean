/-
  Lemmas on the way, joined: ParU, SeqP, ParV, ParW, ParD, ParE, Eng15, ParX, SeqC, ParP, ParR, ParS, ParB, ParC, ParE2, ParF, ParG, ParH, ParL0, ParLR, HeadP.
-/
import Derived.Lib.Bytealg
import Derived.Lib.SlicesCompact
import Derived.Laws.RangeString
import Derived.Scope
import Derived.ControlIn
import Derived.Lib.Builder
import Derived.Test.YtenbjndldenkfaaGreatDoorPk0
namespace Go.Proofs.YtenbjndldenkfaaGreatDoor
open Go.RowKit Go.Sort
theorem frm_alloc (w : World) (o : Obj) : Frm [] w (w.alloc o) := (Frm.refl [] w).alloc o
theorem mkset_spec (w : World) : Calls Tryz.prog 169 #[encStr [32, 9]] w fun e w' => e = .returned (.tuple #[.agg (Lib.setCells [32, 9]), .bool true]) ∧ Frm [] w w' :=
 (Tryz.strings_makeASCIISet (fun w => (zero178 w).trans jK) ⟨#[32, 9]⟩ w (by decide) (by
  intro j b hb
  match j, hb with
  | 0, hb => cases hb; decide
  | 1, hb => cases hb; decide
  | j + 2, hb => simp at hb)).mono fun e w' ⟨h, hw⟩ => ⟨h, by rw [hw]; exact frm_alloc _ _⟩
theorem set_one : ∀ v ∈ (Lib.setCells [32, 9]).toList, v.oneCell' = true := by
 have h := Lib.setCells_one [32, 9]
 intro v hv
 rw [Array.all_eq_true] at h
 obtain ⟨i, hi, rfl⟩ := Array.getElem_of_mem (Array.mem_toList_iff.1 hv)
 exact h i hi
theorem leftB_le : ∀ q : Tx, (leftB q).length ≤ q.length
 | [] => Nat.le_refl _
 | x :: r => by
  have := leftB_le r
  unfold leftB
  split
  ·
   simp; omega
  ·
   exact Nat.le_refl _
theorem rightB_le (q : Tx) : (rightB q).length ≤ q.length := by
 unfold rightB
 rw [List.length_reverse]
 exact Nat.le_trans (leftB_le _) (by simp)
set_option maxRecDepth 100000 in
theorem trimS_spec (q : Tx) (w : World) (hq : q.length ≤ 1000000) : Calls Tryz.prog 125 #[encStr q, encStr [32, 9]] w fun e w' => e = .returned (encStr (leftB (rightB q))) ∧ Frm [] w w' := by
 refine VC.calls (nt := 43) (res := #[.tmp 4]) Tryz.func125 rfl Tryz.ntmps125 Tryz.results125 rfl ?_
 refine js (jr (ja ?_))
 refine jo (jn (jv2 0 1 ?_))
 refine js (js ?_)
 refine VC.split1 [(0, _), (1, _)] (js2 rfl rfl) 12 (.bool (decide (q = []))) ?_ ?_
 ·
  refine jr ?_
  refine jm ?_
  refine Ops.r (Run.eqlT rfl rfl) rfl ?_
  by_cases hs8 : q = []
  ·
   refine jm ?_
   refine ju ?_
   refine ju ?_
   refine Ops.r (Run.pickT rfl rfl au) rfl ?_
   refine jo ?_
   refine jn ⟨(js3 (jc (Eq.symm (by first | exact decide_eq_true ‹_› | exact decide_eq_false ‹_›))) rfl rfl), rfl⟩
  ·
   refine jm ?_
   refine jg ?_
   refine Ops.rg rfl au (Run.eqlT rfl rfl) rfl ?_
   refine Ops.r (Run.pickF rfl rfl au) rfl ?_
   refine jo ?_
   refine jn ⟨(js3 (jc (Eq.symm (by first | exact decide_eq_true ‹_› | exact decide_eq_false ‹_›))) rfl rfl), rfl⟩
 ·
  intro Γ hΓ
  refine jn (VC.sub _ hΓ ?_)
  refine VC.condD rfl (fun hc1 => ?_) (fun hc1 => ?_)
  ·
   refine js (jr (jm ?_))
   refine ja ?_
   refine jo (jn (jv1 4 ?_))
   refine jt ?_
   refine thenQ_r (end1 rfl ?_)
   exact ⟨by rw [hc1]; rfl, Frm.refl _ _⟩
  ·
   refine jk (jn (jv2 0 1 ?_))
   refine js (js ?_)
   refine VC.split1 [(0, _), (1, _)] (js2 rfl rfl) 21 (.bool (decide (False))) ?_ ?_
   ·
    refine jr ?_
    refine jm ?_
    refine Ops.r (Run.lenT rfl Tryz.underlying9) rfl ?_
    refine Ops.r (Run.bin rfl rfl (Bin.eqlN _ 1)) rfl ?_
    refine jm ?_
    refine ju ?_
    refine ju ?_
    refine ju ?_
    refine Ops.r (Run.pickF rfl rfl au) rfl ?_
    refine jo ?_
    refine jn ⟨(js3 (jc (by decide)) rfl rfl), rfl⟩
   ·
    intro Γ hΓ
    refine jn (VC.sub _ hΓ ?_)
    refine VC.condF rfl (rfl) ?_
    refine jk (jn (jv2 0 1 ?_))
    refine js (js (jr (jm ?_)))
    refine Ops.cl (Enters.fn (evs.cons rfl evs.nil) Tryz.call169) (mkset_spec _) rfl ?_
    rintro e w1 ⟨rfl, hf1⟩
    refine ⟨_, rfl, ?_⟩
    refine jm ?_
    refine Ops.r (Run.extract rfl rfl) rfl ?_
    refine Ops.r (Run.extract rfl rfl) rfl ?_
    refine Ops.m (Does.alloc zero178) rfl ?_
    rintro _ w2 ⟨rfl, hF2⟩
    have hb5 := hF2.blk
    have K := hf1.trans hF2.frm (by simp)
    have hs5 := hf1.size
    generalize hg5 : w1.heap.size = g5 at hb5 hs5 ⊢
    refine Ops.st (Acts.storeA rfl rfl Tryz.sizeOf178 hb5 rfl set_one) ?_
    rintro w3 ⟨hb5n, hf3, _⟩
    have hb5 : SetB w3 g5 := hb5n
    have K := Frm.own K hf3 (fun y hy => by simp at hy; omega)
    refine ja ?_
    refine jo (jn (jv4 0 1 5 6 ?_))
    refine js (jr (jm ?_))
    refine jo (jn (jv4 0 1 5 34 ?_))
    refine VC.condT rfl (rfl) ?_
    refine js (jr (jm ?_))
    refine Ops.cl (Enters.fn (evs.cons rfl (evs.cons rfl evs.nil)) Tryz.call171) (trightA_spec q g5 _ hb5 hq) rfl ?_
    rintro e _ ⟨rfl, rfl⟩
    refine ⟨_, rfl, ?_⟩
    refine Ops.cl (Enters.fn (evs.cons rfl (evs.cons rfl evs.nil)) Tryz.call170) (tleftA_spec (rightB q) g5 _ hb5 (Nat.le_trans (rightB_le q) hq)) rfl ?_
    rintro e _ ⟨rfl, rfl⟩
    refine ⟨_, rfl, ?_⟩
    refine ja ?_
    refine jo (jn (jv1 4 ?_))
    refine jt ?_
    refine thenQ_r (end1 rfl ?_)
    exact ⟨rfl, K⟩
set_option maxRecDepth 100000 in
theorem trimLS_spec (q : Tx) (w : World) (hq : q.length ≤ 1000000) : Calls Tryz.prog 209 #[encStr q, encStr [32, 9]] w fun e w' => e = .returned (encStr (leftB q)) ∧ Frm [] w w' := by
 refine VC.calls (nt := 37) (res := #[.tmp 4]) Tryz.func209 rfl Tryz.ntmps209 Tryz.results209 rfl ?_
 refine js (jr (ja ?_))
 refine jo (jn (jv2 0 1 ?_))
 refine js (js ?_)
 refine VC.split1 [(0, _), (1, _)] (js2 rfl rfl) 12 (.bool (decide (q = []))) ?_ ?_
 ·
  refine jr ?_
  refine jm ?_
  refine Ops.r (Run.eqlT rfl rfl) rfl ?_
  by_cases hs8 : q = []
  ·
   refine jm ?_
   refine ju ?_
   refine ju ?_
   refine Ops.r (Run.pickT rfl rfl au) rfl ?_
   refine jo ?_
   refine jn ⟨(js3 (jc (Eq.symm (by first | exact decide_eq_true ‹_› | exact decide_eq_false ‹_›))) rfl rfl), rfl⟩
  ·
   refine jm ?_
   refine jg ?_
   refine Ops.rg rfl au (Run.eqlT rfl rfl) rfl ?_
   refine Ops.r (Run.pickF rfl rfl au) rfl ?_
   refine jo ?_
   refine jn ⟨(js3 (jc (Eq.symm (by first | exact decide_eq_true ‹_› | exact decide_eq_false ‹_›))) rfl rfl), rfl⟩
 ·
  intro Γ hΓ
  refine jn (VC.sub _ hΓ ?_)
  refine VC.condD rfl (fun hc1 => ?_) (fun hc1 => ?_)
  ·
   refine js (jr (jm ?_))
   refine ja ?_
   refine jo (jn (jv1 4 ?_))
   refine jt ?_
   refine thenQ_r (end1 rfl ?_)
   exact ⟨by rw [hc1]; rfl, Frm.refl _ _⟩
  ·
   refine jk (jn (jv2 0 1 ?_))
   refine js (js ?_)
   refine VC.split1 [(0, _), (1, _)] (js2 rfl rfl) 21 (.bool (decide (False))) ?_ ?_
   ·
    refine jr ?_
    refine jm ?_
    refine Ops.r (Run.lenT rfl Tryz.underlying9) rfl ?_
    refine Ops.r (Run.bin rfl rfl (Bin.eqlN _ 1)) rfl ?_
    refine jm ?_
    refine ju ?_
    refine ju ?_
    refine ju ?_
    refine Ops.r (Run.pickF rfl rfl au) rfl ?_
    refine jo ?_
    refine jn ⟨(js3 (jc (by decide)) rfl rfl), rfl⟩
   ·
    intro Γ hΓ
    refine jn (VC.sub _ hΓ ?_)
    refine VC.condF rfl (rfl) ?_
    refine jk (jn (jv2 0 1 ?_))
    refine js (js (jr (jm ?_)))
    refine Ops.cl (Enters.fn (evs.cons rfl evs.nil) Tryz.call169) (mkset_spec _) rfl ?_
    rintro e w1 ⟨rfl, hf1⟩
    refine ⟨_, rfl, ?_⟩
    refine jm ?_
    refine Ops.r (Run.extract rfl rfl) rfl ?_
    refine Ops.r (Run.extract rfl rfl) rfl ?_
    refine Ops.m (Does.alloc zero178) rfl ?_
    rintro _ w2 ⟨rfl, hF2⟩
    have hb5 := hF2.blk
    have K := hf1.trans hF2.frm (by simp)
    have hs5 := hf1.size
    generalize hg5 : w1.heap.size = g5 at hb5 hs5 ⊢
    refine Ops.st (Acts.storeA rfl rfl Tryz.sizeOf178 hb5 rfl set_one) ?_
    rintro w3 ⟨hb5n, hf3, _⟩
    have hb5 : SetB w3 g5 := hb5n
    have K := Frm.own K hf3 (fun y hy => by simp at hy; omega)
    refine ja ?_
    refine jo (jn (jv4 0 1 5 6 ?_))
    refine js (jr (jm ?_))
    refine jo (jn (jv4 0 1 5 31 ?_))
    refine VC.condT rfl (rfl) ?_
    refine js (jr (jm ?_))
    refine Ops.cl (Enters.fn (evs.cons rfl (evs.cons rfl evs.nil)) Tryz.call170) (tleftA_spec q g5 _ hb5 hq) rfl ?_
    rintro e _ ⟨rfl, rfl⟩
    refine ⟨_, rfl, ?_⟩
    refine ja ?_
    refine jo (jn (jv1 4 ?_))
    refine jt ?_
    refine thenQ_r (end1 rfl ?_)
    exact ⟨rfl, K⟩
end Go.Proofs.YtenbjndldenkfaaGreatDoor
namespace Go.Proofs.YtenbjndldenkfaaGreatDoor
open Go.RowKit

theorem idxB_cases : ∀ (l : Tx) (c : UInt8), (Lib.indexByte l c = -1 ∧ c ∉ l) ∨ ∃ a b, l = a ++ c :: b ∧ c ∉ a ∧ Lib.indexByte l c = ((a.length : Nat) : Int)
 | [], c => .inl ⟨rfl, by simp⟩
 | x :: r, c => by
  unfold Lib.indexByte
  by_cases h : x = c
  ·
   subst h
   exact .inr ⟨[], r, rfl, by simp, by simp⟩
  ·
   have hb : (x == c) = false := by simpa using h
   rw [hb]
   rcases idxB_cases r c with ⟨h1, h2⟩ | ⟨a, b, rfl, h2, h3⟩
   ·
    left
    refine ⟨by simp [h1], ?_⟩
    simp only [List.mem_cons, not_or]
    exact ⟨fun e => h e.symm, h2⟩
   ·
    right
    refine ⟨x :: a, b, rfl, ?_, ?_⟩
    ·
     simp only [List.mem_cons, not_or]
     exact ⟨fun e => h e.symm, h2⟩
    ·
     rw [h3]
     have : ¬ ((a.length : Nat) : Int) = -1 := by omega
     simp [this]
def befF (c : UInt8) : Tx → Tx
 | [] => []
 | x :: r => if x = c then [] else x :: befF c r
def aftF (c : UInt8) : Tx → Tx
 | [] => []
 | x :: r => if x = c then r else aftF c r
theorem bef_no {c : UInt8} : ∀ {s : Tx}, c ∉ s → befF c s = s ∧ aftF c s = []
 | [], _ => ⟨rfl, rfl⟩
 | x :: r, h => by
  simp only [List.mem_cons, not_or] at h
  have hx : x ≠ c := fun e => h.1 e.symm
  simp [befF, aftF, hx, bef_no h.2]
theorem bef_at {c : UInt8} : ∀ {a b : Tx}, c ∉ a → befF c (a ++ c :: b) = a ∧ aftF c (a ++ c :: b) = b
 | [], b, _ => by simp [befF, aftF]
 | x :: r, b, h => by
  simp only [List.mem_cons, not_or] at h
  have hx : x ≠ c := fun e => h.1 e.symm
  simp [befF, aftF, hx, bef_at (b := b) h.2]
def splitF (c : UInt8) : Tx → List Tx
 | [] => [[]]
 | x :: r => if x = c then [] :: splitF c r else match splitF c r with
  | [] => [[x]]
  | p :: ps => (x :: p) :: ps
theorem bef_len (c : UInt8) : ∀ s : Tx, (befF c s).length ≤ s.length ∧ (aftF c s).length ≤ s.length
 | [] => ⟨Nat.le_refl _, Nat.le_refl _⟩
 | x :: r => by
  have := bef_len c r
  unfold befF aftF
  split <;> simp <;> omega

def decN (n : Nat) (s : Tx) : Nat := s.foldl (fun n x => 10 * n + (x.toNat - 48)) n
abbrev Dig (x : UInt8) : Prop := 48 ≤ x.toNat ∧ x.toNat ≤ 57
def numQ (s : Tx) : Int :=
 if s = [42] then 0 else if s = [] ∨ 10 < s.length ∨ s.head? = some 48 then -1
 else if (∀ x ∈ s, Dig x) ∧ decN 0 s ≤ 2147483647 then ((decN 0 s : Nat) : Int) else -1
abbrev Sp := Int × Int
def spanQ (w : Tx) : Sp := (numQ (befF 58 w), if 58 ∈ w then numQ (aftF 58 w) else numQ (befF 58 w))
def GoodW (w : Tx) : Prop := 0 ≤ (spanQ w).1 ∧ 0 ≤ (spanQ w).2
instance (w : Tx) : Decidable (GoodW w) := by unfold GoodW; infer_instance
def ParseOk (s : Tx) : Prop := (∀ w ∈ splitF 44 s, GoodW w) ∧ (splitF 44 s).length ≤ 64
instance (s : Tx) : Decidable (ParseOk s) := by unfold ParseOk; infer_instance
def endsQ (x : Sp) (g : Int) : Int × Int :=
 let a := if x.1 = 0 then g else x.1
 let b := if x.2 = 0 then g else x.2
 (if b < a then b else a, if a < b then b else a)
def InQ (x : Sp) (g n : Int) : Prop := (endsQ x g).1 ≤ n ∧ n ≤ (endsQ x g).2
instance (x : Sp) (g n : Int) : Decidable (InQ x g n) := by unfold InQ; infer_instance
def hasQ (l : List Sp) (n g : Int) : Prop := 0 < n ∧ 0 < g ∧ ∃ x ∈ l, InQ x g n
instance (l : List Sp) (n g : Int) : Decidable (hasQ l n g) := by unfold hasQ; infer_instance
def BadP (many : Int) (x : Sp) : Prop := many < 1 ∨ many < (endsQ x many).2 ∨ (endsQ x many).1 < 1
instance (many : Int) (x : Sp) : Decidable (BadP many x) := by unfold BadP; infer_instance
def RiseAt (us : List Int) (i : Nat) : Prop := 1 ≤ us.getD i 0 ∧ (0 < i → us.getD (i - 1) 0 < us.getD i 0)
instance (us : List Int) (i : Nat) : Decidable (RiseAt us i) := by unfold RiseAt; infer_instance
def RiseQ (us : List Int) : Prop := ∀ i, i < us.length → RiseAt us i
instance (us : List Int) : Decidable (RiseQ us) := by unfold RiseQ; infer_instance
end Go.Proofs.YtenbjndldenkfaaGreatDoor
namespace Go.Proofs.YtenbjndldenkfaaGreatDoor
open Go.RowKit Go.Sort
def spcQ : Tx := [40, 41, 60, 62, 64, 44, 59, 58, 92, 34, 47, 91, 93, 63, 61]
def TokC (c : UInt8) : Prop := 33 ≤ c.toNat ∧ c.toNat ≤ 126 ∧ c ∉ spcQ
instance (c : UInt8) : Decidable (TokC c) := by unfold TokC; infer_instance
def TokQ (s : Tx) : Prop := s ≠ [] ∧ ∀ c ∈ s, TokC c
instance (s : Tx) : Decidable (TokQ s) := by unfold TokQ; infer_instance
theorem spc_ge (c : UInt8) : 0 ≤ Lib.indexByte spcQ c ↔ c ∈ spcQ := by
 rcases idxB_cases spcQ c with ⟨h1, h2⟩ | ⟨a, b, h1, h2, h3⟩
 ·
  rw [h1]; exact ⟨fun h => by omega, fun h => absurd h h2⟩
 ·
  rw [h3]; exact ⟨fun _ => by rw [h1]; simp, fun _ => by omega⟩
theorem sIdx_spec (s : Tx) (c : UInt8) (w : World) : Calls Tryz.prog 113 #[encStr s, .int .u8 ((c.toNat : Nat) : Int)] w fun e w' => e = .returned (.int .i64 (Lib.indexByte s c)) ∧ w = w' := by
 have h := Tryz.strings_IndexByte ⟨s.toArray⟩ ((c.toNat : Nat) : Int) w
 have e1 : (((c.toNat : Nat) : Int)).toNat.toUInt8 = c := by simp
 rw [e1] at h
 exact h.mono fun e w' ⟨h, hw⟩ => ⟨h, hw.symm⟩
set_option maxRecDepth 100000 in
theorem token_spec (q : Tx) (w : World) (hq : q.length ≤ 1000000) : Calls Tryz.prog 76 #[encStr q] w fun e w' => e = .returned (.bool (decide (TokQ q))) ∧ w = w' := by
 refine VC.calls (nt := 29) (res := #[.tmp 2]) Tryz.func76 rfl Tryz.ntmps76 Tryz.results76 rfl ?_
 refine js (jr (ja ?_))
 refine jo (jn (jv1 0 ?_))
 refine js (js (jr (jm ?_)))
 refine Ops.r (Run.lenT rfl Tryz.underlying9) rfl ?_
 refine Ops.r (v := .int .i64 ((0 : Nat) : Int)) (Run.mv rfl) rfl ?_
 refine jo (jn (jv3 0 5 6 ?_))
 refine jb ?_
 refine VC.loop (σ := Nat) (fun s => [(0, encStr q), (5, .int .i64 ((q.length : Nat) : Int)), (6, .int .i64 ((s : Nat) : Int))]) (fun s wr => s ≤ q.length ∧ (∀ c ∈ q.take s, TokC c) ∧ w = wr) (fun s => q.length - s) 0 (js3 rfl rfl rfl) ⟨by omega, by simp, rfl⟩ ?_
 rintro i _ ⟨hi, hd, rfl⟩
 refine js (jr ?_)
 refine Ops.r (Run.bin rfl rfl (Bin.lssN _ _)) rfl ?_
 refine jo (jn (js ?_))
 refine VC.condD rfl (fun hc1 => ?_) (fun hc1 => ?_)
 ·
  have hts : q.take (i + 1) = q.take i ++ [q[i]] := by rw [List.take_add_one, List.getElem?_eq_getElem hc1]; rfl
  have hxm : q[i] ∈ q := List.getElem_mem hc1
  have hgx : q[i]? = some q[i] := List.getElem?_eq_getElem hc1
  generalize hx : q[i] = x at *
  have hsp := spc_ge x
  have htc : TokC x ↔ (33 ≤ x.toNat ∧ x.toNat ≤ 126 ∧ x ∉ spcQ) := Iff.rfl
  refine jk (jn (jv3 0 5 6 ?_))
  refine js (jb (js (jr (jm ?_))))
  refine ja ?_
  refine jo (jn (jv4 0 3 5 6 ?_))
  refine js ?_
  refine VC.split1 [(0, _), (5, _), (6, _)] (js3 rfl rfl rfl) 25 (.bool (decide (¬ TokC x))) ?_ ?_
  ·
   refine jr ?_
   refine jm ?_
   refine jm ?_
   refine Ops.r (Run.indexT _ rfl rfl Tryz.underlying9 hgx) rfl ?_
   refine Ops.r (Run.bin rfl rfl (Bin.lssN _ 33)) rfl ?_
   by_cases hs12 : x.toNat < 33
   ·
    refine jm ?_
    refine ju ?_
    refine ju ?_
    refine ju ?_
    refine ju ?_
    refine Ops.r (Run.pickT rfl rfl au) rfl ?_
    refine jm ?_
    refine ju ?_
    refine ju ?_
    refine ju ?_
    refine ju ?_
    refine ju ?_
    refine Ops.r (Run.pickT rfl rfl au) rfl ?_
    refine jo ?_
    refine jn ⟨(js4 (jc (Eq.symm (by first | exact decide_eq_true (fun h => by have := htc.1 h; omega) | exact decide_eq_decide.2 ⟨fun h => Classical.byContradiction fun h2 => h (htc.2 ⟨by omega, by omega, fun h3 => h2 (hsp.2 h3)⟩), fun h h2 => (htc.1 h2).2.2 (hsp.1 h)⟩))) rfl rfl rfl), rfl⟩
   ·
    refine jm ?_
    refine jg ?_
    refine jg ?_
    refine Ops.rg rfl au (Run.indexT _ rfl rfl Tryz.underlying9 hgx) rfl ?_
    refine Ops.rg rfl au (Run.bin rfl rfl (Bin.gtrN _ 126)) rfl ?_
    by_cases hs17 : 126 < x.toNat
    ·
     refine Ops.r (Run.pickF rfl rfl au) rfl ?_
     refine jm ?_
     refine ju ?_
     refine ju ?_
     refine ju ?_
     refine ju ?_
     refine ju ?_
     refine Ops.r (Run.pickT rfl rfl au) rfl ?_
     refine jo ?_
     refine jn ⟨(js4 (jc (Eq.symm (by first | exact decide_eq_true (fun h => by have := htc.1 h; omega) | exact decide_eq_decide.2 ⟨fun h => Classical.byContradiction fun h2 => h (htc.2 ⟨by omega, by omega, fun h3 => h2 (hsp.2 h3)⟩), fun h h2 => (htc.1 h2).2.2 (hsp.1 h)⟩))) rfl rfl rfl), rfl⟩
    ·
     refine Ops.r (Run.pickF rfl rfl au) rfl ?_
     refine jm ?_
     refine jg ?_
     refine jg ?_
     refine Ops.rg rfl au (Run.indexT _ rfl rfl Tryz.underlying9 hgx) rfl ?_
     refine Ops.clg rfl au (Enters.fn (evs.cons rfl (evs.cons rfl evs.nil)) Tryz.call113) (sIdx_spec spcQ x _) rfl ?_
     rintro e _ ⟨rfl, rfl⟩
     refine ⟨_, rfl, ?_⟩
     refine Ops.rg rfl au (Run.bin rfl rfl (Bin.geq _ 0)) rfl ?_
     by_cases hs24 : 0 ≤ Lib.indexByte spcQ x
     ·
      refine Ops.r (Run.pickF rfl rfl au) rfl ?_
      refine jo ?_
      refine jn ⟨(js4 (jc (Eq.symm (by first | exact decide_eq_true (fun h => by have := htc.1 h; omega) | exact decide_eq_decide.2 ⟨fun h => Classical.byContradiction fun h2 => h (htc.2 ⟨by omega, by omega, fun h3 => h2 (hsp.2 h3)⟩), fun h h2 => (htc.1 h2).2.2 (hsp.1 h)⟩))) rfl rfl rfl), rfl⟩
     ·
      refine Ops.r (Run.pickF rfl rfl au) rfl ?_
      refine jo ?_
      refine jn ⟨(js4 (jc (Eq.symm (by first | exact decide_eq_true (fun h => by have := htc.1 h; omega) | exact decide_eq_decide.2 ⟨fun h => Classical.byContradiction fun h2 => h (htc.2 ⟨by omega, by omega, fun h3 => h2 (hsp.2 h3)⟩), fun h h2 => (htc.1 h2).2.2 (hsp.1 h)⟩))) rfl rfl rfl), rfl⟩
  ·
   intro Γ hΓ
   refine jn (VC.sub _ hΓ ?_)
   refine VC.condD rfl (fun hc2 => ?_) (fun hc2 => ?_)
   ·
    refine js (jr (ja ?_))
    refine jo (jn (jv1 2 ?_))
    refine jt ?_
    refine blockQ_r (thenQ_r (thenQ_r (blockQ_r (thenQ_r (end1 rfl ?_)))))
    exact ⟨by rw [decide_eq_false (fun h => hc2 (h.2 x hxm))], rfl⟩
   ·
    refine jk ?_
    refine blockQ_n (jn ?_)
    refine jv3 0 5 6 ?_
    refine jr ?_
    refine Ops.r (Run.bin rfl rfl (Bin.add_i64 _ 1 (by omega))) rfl ?_
    refine jm ?_
    refine jo ?_
    refine jn ⟨(i + 1), (js3 rfl rfl rfl), ?_, ?_⟩
    ·
     refine ⟨hc1, fun y hy => ?_, rfl⟩
     rw [hts] at hy
     rcases List.mem_append.1 hy with h | h
     ·
      exact hd y h
     ·
      simp only [List.mem_singleton] at h; subst h; exact Classical.not_not.1 hc2
    ·
     first | omega | (dsimp only; omega)
 ·
  have hil : i = q.length := by omega
  subst hil
  rw [List.take_length] at hd
  refine jx ?_
  refine thenQ_x (thenQ_x (blockQ_x ?_))
  refine jn (jv1 0 ?_)
  refine js (jr (jm ?_))
  refine Ops.r (Run.neqT rfl rfl) rfl ?_
  refine ja ?_
  refine jo (jn (jv1 2 ?_))
  refine jt ?_
  refine end1 rfl ?_
  exact ⟨by rw [decide_eq_decide.2 (show TokQ q ↔ q ≠ [] from ⟨fun h => h.1, fun h => ⟨h, hd⟩⟩)], rfl⟩
end Go.Proofs.YtenbjndldenkfaaGreatDoor
namespace Go.Proofs.YtenbjndldenkfaaGreatDoor
open Go.RowKit Go.Sort
def low (c : UInt8) : UInt8 := if 65 ≤ c.toNat ∧ c.toNat ≤ 90 then c + 32 else c
theorem low_nat (c : UInt8) : (low c).toNat = if 65 ≤ c.toNat ∧ c.toNat ≤ 90 then c.toNat + 32 else c.toNat := by
 unfold low
 split
 ·
  rename_i h
  rw [UInt8.toNat_add]
  have : (32 : UInt8).toNat = 32 := rfl
  omega
 ·
  rfl
def smallS (s : Tx) : Tx := s.map low
theorem smallS_len (s : Tx) : (smallS s).length = s.length := by simp [smallS]
theorem u8_set {n i : Nat} {cs : Array Value} {l : List UInt8} {c : UInt8} (h : cs.toList.take n = U8 l) (hl : l.length = n) (hi : i < n) : (cs.setIfInBounds i (.int .u8 ((c.toNat : Nat) : Int))).toList.take n = U8 (l.set i c) := by
 rw [Array.toList_setIfInBounds, List.take_set, h]
 simp [U8, List.map_set]
theorem low_step {s : Tx} {i : Nat} (h : i < s.length) : ((s.take i).map low ++ s.drop i).set i (low s[i]) = (s.take (i + 1)).map low ++ s.drop (i + 1) := by
 have e1 : ((s.take i).map low).length = i := by simp; omega
 rw [List.set_append_right _ _ (by omega), e1, Nat.sub_self, List.drop_eq_getElem_cons h, List.set_cons_zero]
 have e2 : s.take (i + 1) = s.take i ++ [s[i]] := by rw [List.take_add_one, List.getElem?_eq_getElem h]; rfl
 rw [e2]
 simp only [List.map_append, List.map_cons, List.map_nil, List.append_assoc, List.cons_append, List.nil_append]
theorem low_stay {s : Tx} {i : Nat} (h : i < s.length) (hl : low s[i] = s[i]) : (s.take i).map low ++ s.drop i = (s.take (i + 1)).map low ++ s.drop (i + 1) := by
 rw [← low_step h, hl]
 apply List.ext_getElem?
 intro j
 by_cases hj : j = i
 ·
  subst hj
  have e1 : ((s.take j).map low).length = j := by simp; omega
  rw [List.getElem?_set_self (by simp; omega), List.getElem?_append_right (by omega), e1, Nat.sub_self, List.drop_eq_getElem_cons h]
  rfl
 ·
  rw [List.getElem?_set_ne (Ne.symm hj)]
set_option maxRecDepth 100000 in
theorem lower_spec (q : Tx) (w : World) (hq : q.length ≤ 1000000) : Calls Tryz.prog 183 #[encStr q] w fun e w' => e = .returned (encStr (smallS q)) ∧ Frm [] w w' := by
 refine VC.calls (nt := 29) (res := #[.tmp 2]) Tryz.func183 rfl Tryz.ntmps183 Tryz.results183 rfl ?_
 refine js (jr (ja ?_))
 refine jo (jn (jv1 0 ?_))
 refine js (jr (jm ?_))
 refine Ops.m (Does.bytesOfT rfl Tryz.underlying9 Tryz.underlying22 Tryz.underlying5) rfl ?_
 rintro _ w1 ⟨c1, cs1, rfl, hF1, ht1, hf1⟩
 have hge : w.heap.size ≤ w.heap.size := Nat.le_refl _
 generalize hg : w.heap.size = g1 at hF1 hge ⊢
 refine ja ?_
 refine jo (jn (jv1 3 ?_))
 refine js (js (jr (jm ?_)))
 refine Ops.r (Run.lenS rfl Tryz.underlying22) rfl ?_
 refine Ops.r (v := .int .i64 ((0 : Nat) : Int)) (Run.mv rfl) rfl ?_
 refine jo (jn (jb ?_))
 refine VC.loop (σ := Nat) (fun s => [(3, .slice (some ⟨g1, 0, none⟩) q.length c1), (8, .slice (some ⟨g1, 0, none⟩) q.length c1), (9, .int .i64 ((q.length : Nat) : Int)), (10, .int .i64 ((s : Nat) : Int))]) (fun s wr => s ≤ q.length ∧ Frm [] w wr ∧ ∃ cs, Fro wr g1 5 cs ∧ cs.toList.take q.length = U8 ((q.take s).map low ++ q.drop s)) (fun s => q.length - s) 0 (js4 rfl rfl rfl rfl) ⟨by omega, hf1, cs1, hF1, by simpa using ht1⟩ ?_
 rintro i wr ⟨hi, hfr, cs, hF, ht⟩
 refine js (jr ?_)
 refine Ops.r (Run.bin rfl rfl (Bin.lssN _ _)) rfl ?_
 refine jo (jn (js ?_))
 refine VC.condD rfl (fun hc1 => ?_) (fun hc1 => ?_)
 ·
  have hrd : Rd wr 1 (some ⟨g1, 0, none⟩) q.length (U8 ((q.take i).map low ++ q.drop i)) := by
   have h := hF.rd (l := (q.take i).map low ++ q.drop i) (by simpa [Nat.min_eq_left hi, Nat.add_sub_cancel' hi] using ht)
   simpa [Nat.min_eq_left hi, Nat.add_sub_cancel' hi] using h
  have hcell : wr.cell? ((⟨g1, 0, none⟩ : Addr).add (i * 1)) = some (.int .u8 ((q[i].toNat : Nat) : Int)) := by
   rw [Nat.mul_one]
   obtain ⟨ad, u, hA, hu, hc⟩ := hrd.at1 hc1
   cases hA
   rw [hc, ← hu]
   simp [U8, List.getElem?_append_right, Nat.min_eq_left hi, List.getElem?_eq_getElem, hc1]
  have hll : ((q.take i).map low ++ q.drop i).length = q.length := by simp; omega
  have hsz : i < cs.size := by
   have := congrArg List.length ht
   simp [U8] at this
   omega
  refine jk (jn (jv4 3 8 9 10 ?_))
  refine js (jb (js (jr (jm ?_))))
  refine Ops.r (Run.indexS i rfl rfl Tryz.underlying22 Tryz.sizeOf5 hc1) rfl ?_
  refine Ops.r (Run.load rfl Tryz.isAgg5 hcell) rfl ?_
  refine ja ?_
  refine ja ?_
  refine jo (jn (jv6 3 4 5 8 9 10 ?_))
  refine js ?_
  refine VC.split1 [(3, _), (4, _), (5, _), (8, _), (9, _), (10, _)] (js6 rfl rfl rfl rfl rfl rfl) 20 (.bool (decide ((65 ≤ q[i].toNat) ∧ (q[i].toNat ≤ 90)))) ?_ ?_
  ·
   by_cases hs0 : 65 ≤ q[i].toNat
   ·
    refine jr (jm ?_)
    refine Ops.r (Run.bin rfl rfl (Bin.geqN _ 65)) rfl ?_
    refine jm ?_
    refine jg ?_
    refine Ops.rg rfl au (Run.bin rfl rfl (Bin.leqN _ 90)) rfl ?_
    refine Ops.r (Run.pickT rfl rfl au) rfl ?_
    refine jo ?_
    refine jn ⟨(js7 (by rw [dand1 hs0]; rfl) rfl rfl rfl rfl rfl rfl), rfl⟩
   ·
    refine jr (jm ?_)
    refine Ops.r (Run.bin rfl rfl (Bin.geqN _ 65)) rfl ?_
    refine jm ?_
    refine ju ?_
    refine ju ?_
    refine Ops.r (Run.pickF rfl rfl au) rfl ?_
    refine jo ?_
    refine jn ⟨(js7 (by rw [dand0 hs0]; rfl) rfl rfl rfl rfl rfl rfl), rfl⟩
  ·
   intro Γ hΓ
   refine jn (VC.sub _ hΓ ?_)
   refine VC.meet (σ := Unit) (fun s => [(3, .slice (some ⟨g1, 0, none⟩) q.length c1), (8, .slice (some ⟨g1, 0, none⟩) q.length c1), (9, .int .i64 ((q.length : Nat) : Int)), (10, .int .i64 ((i : Nat) : Int))]) (fun s wm => Frm [] w wm ∧ ∃ cs, Fro wm g1 5 cs ∧ cs.toList.take q.length = U8 ((q.take (i + 1)).map low ++ q.drop (i + 1))) ?_ ?_
   ·
    refine VC.condD rfl (fun hc2 => ?_) (fun hc2 => ?_)
    ·
     refine jr (jm ?_)
     refine jm ?_
     refine jm ?_
     refine Ops.r (Run.bin rfl rfl (Bin.add_u8 _ 32 (by omega))) rfl ?_
     rw [show (q[i].toNat + 32 : Nat) = (low q[i]).toNat by rw [low_nat, if_pos hc2]]
     refine Ops.r (Run.indexS i rfl rfl Tryz.underlying22 Tryz.sizeOf5 hc1) rfl ?_
     rw [show (⟨g1, 0, none⟩ : Addr).add (i * 1) = ⟨g1, i, none⟩ by unfold Addr.add; rw [Nat.mul_one]; split <;> simp_all]
     refine Ops.st (Acts.storeFro rfl rfl Tryz.sizeOf5 hF hsz rfl) ?_
     rintro w2 ⟨hF2, hf2, hs2⟩
     refine jo ?_
     refine jn ⟨(), (js4 rfl rfl rfl rfl), ?_⟩
     exact ⟨hfr.own hf2 (fun x hx => by simp at hx; omega), _, hF2, by rw [u8_set ht hll hc1, low_step hc1]⟩
    ·
     refine jk ?_
     refine jn ⟨(), (js4 rfl rfl rfl rfl), ?_⟩
     exact ⟨hfr, cs, hF, by rw [ht, low_stay hc1 (UInt8.toNat_inj.1 (by rw [low_nat, if_neg hc2]))]⟩
   ·
    rintro _ wm ⟨hfr2, cs2, hF2, ht2⟩ Γ hΓ
    refine blockQ_n (jn (VC.sub _ hΓ ?_))
    refine jr ?_
    refine Ops.r (Run.bin rfl rfl (Bin.add_i64 _ 1 (by omega))) rfl ?_
    refine jm ?_
    refine jo ?_
    refine jn ⟨(i + 1), (js4 rfl rfl rfl rfl), ?_, ?_⟩
    ·
     exact ⟨hc1, hfr2, cs2, hF2, ht2⟩
    ·
     first | omega | (dsimp only; omega)
 ·
  refine jx ?_
  refine thenQ_x (thenQ_x (blockQ_x ?_))
  refine jn (jv1 3 ?_)
  refine js (jr (jm ?_))
  have hR : Rd wr 1 (some ⟨g1, 0, none⟩) q.length (U8 (smallS q)) := by
   have him : i = q.length := by omega
   subst him
   have h := hF.rd (l := smallS q) (by rw [smallS_len, ht]; simp [smallS])
   rwa [smallS_len] at h
  refine Ops.r (Run.strOfT rfl Tryz.underlying22 Tryz.underlying5 Tryz.underlying9 hR) rfl ?_
  refine ja ?_
  refine jo (jn (jv1 2 ?_))
  refine jt ?_
  refine end1 rfl ?_
  exact ⟨rfl, hfr⟩
set_option maxRecDepth 100000 in
theorem ptrim_spec (q : Tx) (w : World) (hq : q.length ≤ 1000000) : Calls Tryz.prog 182 #[encStr q] w fun e w' => e = .returned (encStr (leftB (rightB q))) ∧ Frm [] w w' := by
 refine VC.calls (nt := 5) (res := #[.tmp 2]) Tryz.func182 rfl Tryz.ntmps182 Tryz.results182 rfl ?_
 refine js (jr (ja ?_))
 refine jo (jn (jv1 0 ?_))
 refine js (jr (jm ?_))
 refine Ops.cl (Enters.fn (evs.cons rfl (evs.cons rfl evs.nil)) Tryz.call125) (trimS_spec q _ hq) rfl ?_
 rintro e w1 ⟨rfl, hf1⟩
 refine ⟨_, rfl, ?_⟩
 refine ja ?_
 refine jo (jn (jv1 2 ?_))
 refine jt ?_
 refine end1 rfl ?_
 exact ⟨rfl, hf1⟩
end Go.Proofs.YtenbjndldenkfaaGreatDoor
namespace Go.Proofs.YtenbjndldenkfaaGreatDoor
open Go.RowKit
theorem dec_wide (s : ByteArray) (i : Nat) (h : i < s.size) (hb : 128 ≤ (s.get! i).toNat) :
  ∃ r n, Utf8.decode s i = (r, n) ∧ 128 ≤ r ∧ 1 ≤ n ∧ ∀ k, k < n → 128 ≤ (s.get! (i + k)).toNat ∧ i + k < s.size := by
 have h0 : ¬ (s.get! (i + 0)).toNat < 128 := by simpa using hb
 have one : ∀ k, k < 1 → 128 ≤ (s.get! (i + k)).toNat ∧ i + k < s.size := fun k hk => by
  have : k = 0 := by omega
  subst this
  exact ⟨by simpa using hb, h⟩
 have cont : ∀ k, (decide (i + k < s.size) && ((s.get! (i + k)).toNat / 64 == 2)) = true → 128 ≤ (s.get! (i + k)).toNat ∧ i + k < s.size := fun k hk => by
  simp only [Bool.and_eq_true, decide_eq_true_eq, beq_iff_eq] at hk
  exact ⟨by omega, hk.1⟩
 have err : (128 : Nat) ≤ Utf8.runeError := by decide
 unfold Utf8.decode
 dsimp only
 rw [if_neg h0]
 split
 ·
  rename_i h1
  simp only [Bool.and_eq_true] at h1
  have c1 := cont 1 (by simpa using h1.2)
  split
  ·
   refine ⟨_, _, rfl, by omega, by omega, fun k hk => ?_⟩
   match k, hk with
   | 0, _ => exact one 0 (by omega)
   | 1, _ => exact c1
  ·
   exact ⟨_, _, rfl, err, by omega, one⟩
 ·
  split
  ·
   rename_i h1
   simp only [Bool.and_eq_true] at h1
   have c1 := cont 1 (by simpa using h1.1.2)
   have c2 := cont 2 (by simpa using h1.2)
   split
   ·
    rename_i h2
    simp only [Bool.and_eq_true, decide_eq_true_eq] at h2
    refine ⟨_, _, rfl, by omega, by omega, fun k hk => ?_⟩
    match k, hk with
    | 0, _ => exact one 0 (by omega)
    | 1, _ => exact c1
    | 2, _ => exact c2
   ·
    exact ⟨_, _, rfl, err, by omega, one⟩
  ·
   split
   ·
    rename_i h1
    simp only [Bool.and_eq_true] at h1
    have c1 := cont 1 (by simpa using h1.1.1.2)
    have c2 := cont 2 (by simpa using h1.1.2)
    have c3 := cont 3 (by simpa using h1.2)
    split
    ·
     rename_i h2
     simp only [Bool.and_eq_true, decide_eq_true_eq] at h2
     refine ⟨_, _, rfl, by omega, by omega, fun k hk => ?_⟩
     match k, hk with
     | 0, _ => exact one 0 (by omega)
     | 1, _ => exact c1
     | 2, _ => exact c2
     | 3, _ => exact c3
    ·
     exact ⟨_, _, rfl, err, by omega, one⟩
   ·
    exact ⟨_, _, rfl, err, by omega, one⟩
end Go.Proofs.YtenbjndldenkfaaGreatDoor
namespace Go.Proofs.YtenbjndldenkfaaGreatDoor
open Go.RowKit
theorem enc_wide (r : Int) (h : 128 ≤ r) : ∃ a : List UInt8, ∃ z : UInt8, (Utf8.encode r).data.toList = a ++ [z] ∧ 1 ≤ a.length ∧ a.length ≤ 3 ∧ 128 ≤ z.toNat := by
 have hz : ∀ c : Nat, 128 ≤ (UInt8.ofNat (0x80 + c % 64)).toNat := fun c => by
  rw [UInt8.toNat_ofNat', Nat.mod_eq_of_lt (by omega)]
  omega
 unfold Utf8.encode
 have hc : ¬ (if Utf8.valid r = true then r.toNat else Utf8.runeError) < 0x80 := by
  split
  ·
   omega
  ·
   decide
 dsimp only
 generalize (if Utf8.valid r = true then r.toNat else Utf8.runeError) = c at *
 rw [if_neg hc]
 split
 ·
  exact ⟨[_], _, rfl, by simp, by simp, hz _⟩
 ·
  split
  ·
   exact ⟨[_, _], _, rfl, by simp, by simp, hz _⟩
  ·
   exact ⟨[_, _, _], _, rfl, by simp, by simp, hz _⟩
end Go.Proofs.YtenbjndldenkfaaGreatDoor
namespace Go.Proofs.YtenbjndldenkfaaGreatDoor
open Go.RowKit
variable {P : Program} {Γ : Env} {w : World} {dst : Option Tmp} {pos : String} {after : Array Edge} {g : Option (Nat × Bool)} {T : TypeId}
def SIt (w : World) (b : Nat) (s : ByteArray) (p : Nat) : Prop := w.heap[b]? = some (.stringIter s p)
theorem Does.rangeS {t : TypeId} {x : Operand} {s : ByteArray} (hx : ev? Γ x = some (.string s)) (ht : P.underlying t = some .string) :
  Does P ⟨dst, .range t x, T, pos, after, g⟩ Γ w (fun r w' => r = .pointer (some ⟨w.heap.size, 0, none⟩) ∧ SIt w' w.heap.size s 0 ∧ Frm [] w w') := fun ρ hρ => by
 refine ⟨_, w.iter s 0, ?_, rfl, World.iter_heap _ _ _, (Frm.refl [] w).alloc _⟩
 simp [execOp, hρ _ _ hx, run_range_string w t s ht]
theorem Does.nextS {x : Operand} {s : ByteArray} {b p : Nat} (hx : ev? Γ x = some (.pointer (some ⟨b, 0, none⟩))) (hb : SIt w b s p) (hp : p < s.size) :
  Does P ⟨dst, .next x true, T, pos, after, g⟩ Γ w (fun r w' => r = .tuple #[.bool true, .int .i64 (p : Int), .int .i32 ((Utf8.decode s p).1 : Int)] ∧ SIt w' b s (p + (Utf8.decode s p).2) ∧ Frm [b] w w') := fun ρ hρ => by
 refine ⟨_, w.putObj b (.stringIter s (p + (Utf8.decode s p).2)), ?_, rfl, by have := (Array.getElem?_eq_some_iff.1 hb).1; simp [SIt, World.putObj, this], Frm.putObj _ _ _⟩
 have hb' : w.heap[b]? = some (.stringIter s p) := hb
 simp [execOp, hρ _ _ hx, Instr.next, getObj, setObj, Sem.run, hb', hp, World.putObj, goInt]
theorem Does.nextEnd {x : Operand} {s : ByteArray} {b p : Nat} (hx : ev? Γ x = some (.pointer (some ⟨b, 0, none⟩))) (hb : SIt w b s p) (hp : ¬ p < s.size) :
  Does P ⟨dst, .next x true, T, pos, after, g⟩ Γ w (fun r w' => r = .tuple #[.bool false] ∧ w = w') := fun ρ hρ => by
 refine ⟨_, w, ?_, rfl, rfl⟩
 have hb' : w.heap[b]? = some (.stringIter s p) := hb
 simp [execOp, hρ _ _ hx, Instr.next, getObj, Sem.run, hb', hp]
theorem Run.runeS {src dstT : TypeId} {x : Operand} {k : IntKind} {a : Int} {d : TypeDesc} (hx : ev? Γ x = some (.int k a)) (hs : P.underlying src = some d) (hd : P.underlying dstT = some .string) :
  Run P ⟨dst, .convert src dstT x, T, pos, after, g⟩ Γ w (.string (Utf8.encode a)) := fun ρ hρ => by
 simp [execOp, hρ _ _ hx, convert, run_underlying hs, run_underlying hd, Conv.intToString]
def straightQ (Q : Exit → Env → World → Prop) : Exit → Env → World → Prop
 | .goto _, _, _ => False
 | e, Γ, w => Q e Γ w
section
variable {Q : Exit → Env → World → Prop} {i : Nat} {ch : List PanicEntry}
theorem straightQ_r (h : Q .ret Γ w) : straightQ Q .ret Γ w := h
end
theorem VC.scope {n : NF} {c : Code} {Q : Exit → Env → World → Prop} (hro : n.ro = none) (h : VC P n c Γ w (straightQ Q)) : VC P n (.scope c) Γ w Q := by
 intro a hs m
 rw [hro, wd_none]
 refine wpIn_wide.2 (wp_scope_straight ?_)
 have h1 := h a hs m
 rw [hro, wd_none] at h1
 refine wp_mono (wpIn_wide.1 h1) ?_
 intro e a' w' hq
 obtain ⟨Γ', hs', q⟩ := hq
 cases e with
 | goto l => exact q.elim
 | _ => exact ⟨Γ', hs', q⟩
theorem eqF_str {P : Program} {w : World} {d : Nat} {xs ys : Array Value} {f : Field} {fs : List Field} {a b : List UInt8} {r : Bool} (hn : f.name ≠ "_") (ht : ∀ w, (isAgg f.type).run P w = .ok false w) (hu : P.underlying f.type = some .string)
  (hx : xs[f.offset]? = some (encStr a)) (hy : ys[f.offset]? = some (encStr b)) (h : (Op.eqFields (d + 1) xs ys fs).run P w = .ok r w) : (Op.eqFields (d + 1) xs ys (f :: fs)).run P w = .ok (decide (a = b) && r) w := by
 have e1 : (a == b) = decide (a = b) := by rw [Bool.eq_iff_iff]; simp
 have e2 : (Op.equalIn (d + 1) f.type (encStr a) (encStr b)).run P w = .ok (a == b) w := by
  have := run_equalIn_string (P := P) w d f.type ⟨a.toArray⟩ ⟨b.toArray⟩ hu
  rw [ByteArray.toList_eq, ByteArray.toList_eq] at this
  exact this
 simp only [Op.eqFields, if_pos hn, Sem.run_bind, part, ht, Result.andThen_ok, Bool.false_eq_true, if_false, hx, hy, Sem.run_pure, e2, Sem.run_ite]
 by_cases hab : a = b
 ·
  simp [hab, h]
 ·
  simp [hab, e1]
end Go.Proofs.YtenbjndldenkfaaGreatDoor
namespace Go.Proofs.YtenbjndldenkfaaGreatDoor
open Go.RowKit Go.Sort
def nxt (s : ByteArray) (p : Nat) : Array Value := if p < s.size then #[.bool true, .int .i64 (p : Int), .int .i32 ((Utf8.decode s p).1 : Int)] else #[.bool false]
def nxtP (s : ByteArray) (p : Nat) : Nat := if p < s.size then p + (Utf8.decode s p).2 else p
theorem nxt0 (s : ByteArray) (p : Nat) : (nxt s p)[0]? = some (.bool (decide (p < s.size))) := by
 unfold nxt
 split
 ·
  rename_i h; rw [decide_eq_true h]; rfl
 ·
  rename_i h; rw [decide_eq_false h]; rfl
theorem nxt1 {s : ByteArray} {p : Nat} (h : p < s.size) : (nxt s p)[1]? = some (.int .i64 (p : Int)) := by unfold nxt; rw [if_pos h]; rfl
theorem nxt2 {s : ByteArray} {p : Nat} (h : p < s.size) : (nxt s p)[2]? = some (.int .i32 ((Utf8.decode s p).1 : Int)) := by unfold nxt; rw [if_pos h]; rfl
theorem Does.nextA {P : Program} {Γ : Env} {w : World} {dst : Option Tmp} {pos : String} {after : Array Edge} {g : Option (Nat × Bool)} {T : TypeId} {x : Operand} {s : ByteArray} {b p : Nat} (hx : ev? Γ x = some (.pointer (some ⟨b, 0, none⟩))) (hb : SIt w b s p) :
  Does P ⟨dst, .next x true, T, pos, after, g⟩ Γ w (fun r w' => r = .tuple (nxt s p) ∧ SIt w' b s (nxtP s p) ∧ Frm [b] w w') := by
 unfold nxt nxtP
 by_cases h : p < s.size
 ·
  rw [if_pos h, if_pos h]; exact Does.nextS hx hb h
 ·
  rw [if_neg h, if_neg h]; exact (Does.nextEnd hx hb h).mono fun v w' ⟨h1, h2⟩ => ⟨h1, h2 ▸ hb, h2 ▸ Frm.refl _ _⟩
theorem SIt.frm {w w' : World} {b p : Nat} {s : ByteArray} {S : List Nat} (h : SIt w b s p) (k : Frm S w w') (hb : b ∉ S) : SIt w' b s p := by
 have hlt : b < w.heap.size := (Array.getElem?_eq_some_iff.1 h).1
 exact (k.block b hlt hb).trans h
theorem rune_wide (r : Int) (h : 128 ≤ r) : ∃ (q : Tx) (z : UInt8), Value.string (Utf8.encode r) = encStr q ∧ 2 ≤ q.length ∧ q.length ≤ 4 ∧ q[q.length - 1]? = some z ∧ 128 ≤ z.toNat := by
 obtain ⟨a, z, h1, h2, h3, h4⟩ := enc_wide r h
 refine ⟨a ++ [z], z, ?_, by simp; omega, by simp; omega, by simp, h4⟩
 rw [← h1]
set_option maxRecDepth 100000 in
theorem useSet_spec (n : Nat) (w : World) (hn : n ≤ 1000000) : Calls Tryz.prog 220 #[.int .i64 ((n : Nat) : Int)] w fun e w' => e = .returned (.bool (decide (8 < n))) ∧ w = w' := by
 refine VC.calls (nt := 5) (res := #[.tmp 2]) Tryz.func220 rfl Tryz.ntmps220 Tryz.results220 rfl ?_
 refine js (jr (ja ?_))
 refine jo (jn (jv1 0 ?_))
 refine js (jr (jm ?_))
 refine Ops.r (Run.bin rfl rfl (Bin.gtrN _ 8)) rfl ?_
 refine ja ?_
 refine jo (jn (jv1 2 ?_))
 refine jt ?_
 refine end1 rfl ?_
 exact ⟨rfl, rfl⟩
set_option maxRecDepth 100000 in
theorem idxRune_spec (r : Int) (w : World) (h0 : 128 ≤ r) (h1 : r ≤ 2147483647) : Calls Tryz.prog 217 #[encStr [32, 9], .int .i32 r] w fun e w' => e = .returned (.int .i64 (-1)) ∧ Frm [] w w' := by
 refine VC.calls (nt := 187) (res := #[.tmp 4]) Tryz.func217 rfl Tryz.ntmps217 Tryz.results217 rfl ?_
 refine js (jr ?_)
 refine Ops.r (v := .int .i64 ((0 : Nat) : Int)) (Run.asg rfl) rfl ?_
 refine jo (jn (jv2 0 1 ?_))
 refine jb (js ?_)
 refine VC.split1 [(0, _), (1, _)] (js2 rfl rfl) 160 (.bool (decide (False))) ?_ ?_
 ·
  refine jr ?_
  refine jm ?_
  refine Ops.r (Run.bin rfl rfl (Bin.leq 0 _)) rfl ?_
  refine jm ?_
  refine jg ?_
  refine Ops.rg rfl au (Run.bin rfl rfl (Bin.lss _ 128)) rfl ?_
  refine Ops.r (Run.pickT rfl rfl au) rfl ?_
  refine ja ?_
  refine jo ?_
  refine jn ⟨(js3 (jc (by first | rfl | exact decide_eq_false (by omega) | (symm; exact decide_eq_false (by omega)))) rfl rfl), rfl⟩
 ·
  intro Γ hΓ
  refine jn (VC.sub _ hΓ ?_)
  refine VC.condF rfl (decide_eq_false (by simp)) ?_
  refine js (jr (jm ?_))
  refine Ops.r (Run.bin rfl rfl (Bin.eql _ 65533)) rfl ?_
  refine ja ?_
  refine jo (jn (jv3 0 1 171 ?_))
  refine VC.condD rfl (fun hc2 => ?_) (fun hc2 => ?_)
  ·
   refine js (js (jr (jm ?_)))
   refine Ops.m (Does.rangeS rfl Tryz.underlying9) rfl ?_
   rintro _ w1 ⟨rfl, hit, K⟩
   have hgs : w.heap.size ≤ w.heap.size := Nat.le_refl _
   generalize hg : w.heap.size = gi at hit hgs ⊢
   refine jo (jn (jv1 175 ?_))
   refine jb ?_
   refine VC.loop (σ := Nat) (fun s => [(175, .pointer (some ⟨gi, 0, none⟩))]) (fun s wr => s ≤ 2 ∧ SIt wr gi ⟨#[32, 9]⟩ s ∧ Frm [] w wr) (fun s => 2 - s) 0 (js1 rfl) ⟨by omega, hit, K⟩ ?_
   rintro i wr ⟨hi, hit, K⟩
   refine js (jr ?_)
   refine Ops.m (Does.nextA rfl hit) rfl ?_
   rintro _ w2 ⟨rfl, hit2, hf2⟩
   have K2 := Frm.own K hf2 (fun y hy => by simp at hy; omega)
   refine Ops.r (Run.extract rfl (nxt0 _ _)) rfl ?_
   refine jo (jn (js ?_))
   refine VC.condB rfl (fun hc3 => ?_) (fun hc3 => ?_)
   ·
    have hp : i < (⟨#[32, 9]⟩ : ByteArray).size := of_decide_eq_true hc3
    have hi2 : i = 0 ∨ i = 1 := by have : (⟨#[32, 9]⟩ : ByteArray).size = 2 := rfl; omega
    have hnp : nxtP ⟨#[32, 9]⟩ i = i + 1 := by rcases hi2 with rfl | rfl <;> rfl
    rw [hnp] at hit2
    refine jk (jn (jv2 175 176 ?_))
    refine jb (js (jr ?_))
    refine Ops.r (Run.extract rfl (nxt1 hp)) rfl ?_
    refine Ops.r (Run.extract rfl (nxt2 hp)) rfl ?_
    refine ja ?_
    refine ja ?_
    refine jo (jn (jv3 5 6 175 ?_))
    refine js (jr (jm ?_))
    refine Ops.r (Run.bin rfl rfl (Bin.eqlN _ 65533)) rfl ?_
    refine jo (jn (jv3 5 175 181 ?_))
    refine VC.condF rfl (decide_eq_false (by rcases hi2 with rfl | rfl <;> decide)) ?_
    refine jk ?_
    refine blockQ_n (jn ⟨(i + 1), (js1 rfl), ?_, ?_⟩)
    ·
     exact ⟨by omega, hit2, K2⟩
    ·
     first | omega | (dsimp only; omega)
   ·
    refine jx ?_
    refine thenQ_x (thenQ_x (blockQ_x ?_))
    refine jn ?_
    refine VC.sub [] .nil ?_
    refine js (jr ?_)
    refine Ops.r (v := .int .i64 (-1)) (Run.asg rfl) rfl ?_
    refine jo (jn (jt ?_))
    refine blockQ_r (end1 rfl ?_)
    exact ⟨rfl, K2⟩
  ·
   refine js (jr (jm ?_))
   refine Ops.cl (Enters.fn (evs.cons rfl evs.nil) Tryz.call223) ((Tryz.utf8_ValidRune r _)) rfl ?_
   rintro e w1 ⟨rfl, hw1⟩
   obtain rfl := hw1.symm
   refine ⟨_, rfl, ?_⟩
   refine Ops.r (Run.not rfl) rfl ?_
   refine ja ?_
   refine jo (jn (jv3 0 1 183 ?_))
   refine VC.condB rfl (fun hc5 => ?_) (fun hc5 => ?_)
   ·
    refine js (jr ?_)
    refine Ops.r (v := .int .i64 (-1)) (Run.asg rfl) rfl ?_
    refine jo (jn (jv1 4 ?_))
    refine jt ?_
    refine blockQ_r (end1 rfl ?_)
    exact ⟨rfl, Frm.refl _ _⟩
   ·
    refine VC.scope rfl ?_
    refine js (jr (jm ?_))
    obtain ⟨q, z, hq, hl1, hl2, hqz, hz⟩ := rune_wide r h0
    refine Ops.r (v := encStr q) (hq ▸ Run.runeS rfl Tryz.underlying21 Tryz.underlying9) rfl ?_
    refine ja ?_
    refine jo (jn (jv2 0 7 ?_))
    refine js (jr (jm ?_))
    refine Ops.r (Run.lenT rfl Tryz.underlying9) rfl ?_
    refine Ops.r (Run.bin rfl rfl (Bin.sub_i64 _ 1 (by omega) (by omega))) rfl ?_
    refine ja ?_
    refine jo (jn (jv3 0 7 8 ?_))
    refine js (jr (jm ?_))
    refine ja ?_
    refine jo (jn (jv4 0 7 8 9 ?_))
    refine js (jr ?_)
    refine Ops.r (v := .int .i64 ((0 : Nat) : Int)) (Run.asg rfl) rfl ?_
    refine jo (jn (jv4 0 7 8 9 ?_))
    refine js (jb ?_)
    refine VC.loop (σ := Unit) (fun s => [(0, encStr [32, 9]), (7, encStr q), (8, .int .i64 ((q.length - 1 : Nat) : Int)), (9, .int .i64 ((q.length - 1 : Nat) : Int))]) (fun s wr => Frm [] w wr) (fun s => 0) () (js4 rfl rfl rfl rfl) (Frm.refl _ _) ?_
    rintro _ wr K
    refine js (js (jr (jm ?_)))
    refine jm ?_
    refine Ops.r (Run.lenT rfl Tryz.underlying9) rfl ?_
    refine Ops.r (Run.bin rfl rfl (Bin.lssN _ _)) rfl ?_
    refine jo (jn (jv5 0 7 8 9 26 ?_))
    refine VC.condD rfl (fun hc6 => ?_) (fun hc6 => ?_)
    ·
     obtain ⟨y, z', rfl⟩ : ∃ y z', q = [y, z'] := by
      match q, hl1, hc6 with
      | [y, z'], _, _ => exact ⟨y, z', rfl⟩
      | _ :: _ :: _ :: _, _, h => exact absurd h (by simp)
     obtain rfl : z' = z := by simpa using hqz
     refine jk (jn (jv4 0 7 8 9 ?_))
     refine jb ?_
     refine VC.scope rfl ?_
     refine js (js ?_)
     refine VC.still jK jK ?_
     refine SOps.r (Run.mv rfl) rfl ?_
     refine SOps.r (Run.mv rfl) rfl ?_
     refine SOps.r (Run.indexT _ rfl rfl Tryz.underlying9 rfl) rfl ?_
     refine SOps.r (Run.mv rfl) rfl ?_
     refine SOps.r (Run.mv rfl) rfl ?_
     refine SOps.r (Run.indexT _ rfl rfl Tryz.underlying9 rfl) rfl ?_
     refine SOps.r (Run.bin rfl rfl (Bin.neqN _ _)) rfl ?_
     refine SOps.nil ?_
     refine jn (jv5 0 7 8 9 33 ?_)
     refine VC.condT rfl (decide_eq_true (by simp; omega)) ?_
     refine js ?_
     refine VC.tail 7 jK jK ?_
     simp only [List.take_succ_cons, List.take_zero, List.drop_succ_cons, List.drop_zero]
     refine SOps.r (Run.mv rfl) rfl ?_
     refine SOps.r (Run.mv rfl) rfl ?_
     refine SOps.r (Run.bin rfl rfl (Bin.add_i64 _ 1 (by omega))) rfl ?_
     refine SOps.r (Run.sliceT 2 2 rfl Tryz.underlying9 (evB.some_ rfl) evB.none_ (by omega) (by simp)) rfl ?_
     refine SOps.r (Run.mv rfl) rfl ?_
     refine SOps.r (Run.mv rfl) rfl ?_
     refine SOps.r (Run.indexT _ rfl rfl Tryz.underlying9 rfl) rfl ?_
     refine SOps.nil ?_
     refine Ops.cl (Enters.fn (evs.cons rfl (evs.cons rfl evs.nil)) Tryz.call113) (sIdx_spec [] z' _) rfl ?_
     rintro e _ ⟨rfl, rfl⟩
     refine ⟨_, rfl, ?_⟩
     refine ja ?_
     refine jo (jn (jv5 0 7 8 9 11 ?_))
     refine js (js (jr (jm ?_)))
     refine Ops.r (Run.bin rfl rfl (Bin.lss _ 0)) rfl ?_
     refine jo (jn (jv6 0 7 8 9 11 43 ?_))
     refine VC.condT rfl (rfl) ?_
     refine js (jr ?_)
     refine Ops.r (v := .int .i64 (-1)) (Run.asg rfl) rfl ?_
     refine jo (jn (jv1 4 ?_))
     refine jt ?_
     refine thenQ_r (thenQ_r (straightQ_r (blockQ_r (thenQ_r (blockQ_r (thenQ_r (straightQ_r (blockQ_r (end1 rfl ?_)))))))))
     exact ⟨rfl, K.drew.drew⟩
    ·
     refine jx ?_
     refine thenQ_x (thenQ_x (blockQ_x ?_))
     refine jn ?_
     refine VC.sub [] .nil ?_
     refine js (js (jr ?_))
     refine Ops.r (v := .int .i64 (-1)) (Run.asg rfl) rfl ?_
     refine jo (jn (jt ?_))
     refine thenQ_r (straightQ_r (blockQ_r (end1 rfl ?_)))
     exact ⟨rfl, K⟩
set_option maxRecDepth 100000 in
theorem idxRuneN_spec (c : UInt8) (w : World) (h0 : c.toNat < 128) : Calls Tryz.prog 217 #[encStr [32, 9], .int .i32 ((c.toNat : Nat) : Int)] w fun e w' => e = .returned (.int .i64 (Lib.indexByte [32, 9] c)) ∧ w = w' := by
 refine VC.calls (nt := 187) (res := #[.tmp 4]) Tryz.func217 rfl Tryz.ntmps217 Tryz.results217 rfl ?_
 refine js (jr ?_)
 refine Ops.r (v := .int .i64 ((0 : Nat) : Int)) (Run.asg rfl) rfl ?_
 refine jo (jn (jv2 0 1 ?_))
 refine jb (js ?_)
 refine VC.split1 [(0, _), (1, _)] (js2 rfl rfl) 160 (.bool (decide (True))) ?_ ?_
 ·
  refine jr ?_
  refine jm ?_
  refine Ops.r (Run.bin rfl rfl (Bin.leqN 0 _)) rfl ?_
  refine jm ?_
  refine jg ?_
  refine Ops.rg rfl au (Run.bin rfl rfl (Bin.lssN _ 128)) rfl ?_
  refine Ops.r (Run.pickT rfl rfl au) rfl ?_
  refine ja ?_
  refine jo ?_
  refine jn ⟨(js3 (jc (by first | rfl | (symm; exact decide_eq_true (by omega)) | exact decide_eq_true (by omega) | (simp; omega))) rfl rfl), rfl⟩
 ·
  intro Γ hΓ
  refine jn (VC.sub _ hΓ ?_)
  refine VC.condT rfl (decide_eq_true trivial) ?_
  refine js (jr (jm ?_))
  refine jm ?_
  refine Ops.r (Run.convN c.toNat rfl Tryz.underlying21 Tryz.underlying5 (by simp only [bmax]; omega)) rfl ?_
  refine Ops.cl (Enters.fn (evs.cons rfl (evs.cons rfl evs.nil)) Tryz.call113) (sIdx_spec [32, 9] c _) rfl ?_
  rintro e _ ⟨rfl, rfl⟩
  refine ⟨_, rfl, ?_⟩
  refine ja ?_
  refine jo (jn (jv1 4 ?_))
  refine jt ?_
  refine blockQ_r (end1 rfl ?_)
  exact ⟨rfl, rfl⟩
theorem dec_le {s : ByteArray} {i r n : Nat} (h : Utf8.decode s i = (r, n)) : r ≤ 1114111 := by
 have e : Utf8.runeError ≤ 1114111 := by decide
 have hb : (s.get! (i + 0)).toNat < 256 := (s.get! (i + 0)).toNat_lt
 unfold Utf8.decode at h
 dsimp only at h
 split at h
 ·
  injection h with h1 h2; omega
 ·
  split at h
  ·
   split at h
   ·
    injection h with h1 h2; omega
   ·
    injection h with h1 h2; omega
  ·
   split at h
   ·
    split at h
    ·
     rename_i hv
     simp only [Bool.and_eq_true, decide_eq_true_eq] at hv
     injection h with h1 h2
     omega
    ·
     injection h with h1 h2; omega
   ·
    split at h
    ·
     split at h
     ·
      rename_i hv
      simp only [Bool.and_eq_true, decide_eq_true_eq, Utf8.valid, Bool.or_eq_true] at hv
      injection h with h1 h2
      omega
     ·
      injection h with h1 h2; omega
    ·
     injection h with h1 h2; omega
def FstB (s : Tx) (k : Int) : Prop := (k = -1 ∧ ∀ c ∈ s, ¬ Bl c) ∨ ∃ i : Nat, k = (i : Int) ∧ i < s.length ∧ (∀ c ∈ s.take i, ¬ Bl c) ∧ ∀ c, s[i]? = some c → Bl c
theorem idxBl (c : UInt8) : 0 ≤ Lib.indexByte [32, 9] c ↔ Bl c := by
 rcases idxB_cases [32, 9] c with ⟨h1, h2⟩ | ⟨a, b, h1, h2, h3⟩
 ·
  rw [h1]
  simp only [List.mem_cons, List.not_mem_nil, or_false, not_or] at h2
  exact ⟨fun h => by omega, fun h => by rcases h with h | h <;> simp_all⟩
 ·
  rw [h3]
  have hm : c ∈ ([32, 9] : Tx) := by rw [h1]; simp
  simp only [List.mem_cons, List.not_mem_nil, or_false] at hm
  exact ⟨fun _ => hm, fun _ => by omega⟩
theorem bl_lt {c : UInt8} (h : Bl c) : c.toNat < 128 := by rcases h with rfl | rfl <;> decide
theorem dec_get (s : Tx) (i : Nat) (h : i < s.length) : (⟨s.toArray⟩ : ByteArray).get! i = s[i] := by
 have hs : i < (⟨s.toArray⟩ : ByteArray).size := by show i < s.toArray.size; simpa using h
 show (s.toArray)[i]! = _
 simp [h]
theorem dec_round (s : Tx) (i : Nat) (h : i < s.length) : ∃ r n, Utf8.decode ⟨s.toArray⟩ i = (r, n) ∧ 1 ≤ n ∧ i + n ≤ s.length ∧ r ≤ 1114111 ∧
  ((r < 128 ∧ n = 1 ∧ r = s[i].toNat) ∨ (128 ≤ r ∧ ∀ k, k < n → ∀ c, s[i + k]? = some c → ¬ Bl c)) := by
 have hs : i < (⟨s.toArray⟩ : ByteArray).size := by show i < s.toArray.size; simpa using h
 by_cases hb : s[i].toNat < 128
 ·
  have := decode_ascii ⟨s.toArray⟩ i hs (by show (s.toArray[i]'_).toNat < 128; simpa using hb)
  refine ⟨_, _, this, by omega, by omega, ?_, .inl ⟨?_, rfl, ?_⟩⟩
  ·
   show (s.toArray[i]'_).toNat ≤ _; simp; omega
  ·
   show (s.toArray[i]'_).toNat < _; simpa using hb
  ·
   show (s.toArray[i]'_).toNat = _; simp
 ·
  obtain ⟨r, n, h1, h2, h3, h4⟩ := dec_wide ⟨s.toArray⟩ i hs (by rw [dec_get s i h]; omega)
  have h5 := (h4 (n - 1) (by omega)).2
  have h6 : (⟨s.toArray⟩ : ByteArray).size = s.length := by show s.toArray.size = _; simp
  rw [h6] at h5
  refine ⟨r, n, h1, h3, by omega, dec_le h1, .inr ⟨h2, fun k hk c hc hB => ?_⟩⟩
  have h7 := (h4 k hk).1
  obtain ⟨hlt, rfl⟩ := List.getElem?_eq_some_iff.1 hc
  rw [dec_get s _ hlt] at h7
  have := bl_lt hB
  omega
set_option maxRecDepth 100000 in
theorem idxAny_spec (q : Tx) (w : World) (hq : q.length ≤ 1000000) : Calls Tryz.prog 210 #[encStr q, encStr [32, 9]] w fun e w' => ∃ k, e = .returned (.int .i64 k) ∧ FstB q k ∧ Frm [] w w' := by
 refine VC.calls (nt := 55) (res := #[.tmp 4]) Tryz.func210 rfl Tryz.ntmps210 Tryz.results210 rfl ?_
 refine js (jr ?_)
 refine Ops.r (v := .int .i64 ((0 : Nat) : Int)) (Run.asg rfl) rfl ?_
 refine jo (jn (jv2 0 1 ?_))
 refine js (js (jr (jm ?_)))
 refine Ops.r (Run.eqlT rfl rfl) rfl ?_
 refine jo (jn (jv3 0 1 12 ?_))
 refine VC.condF rfl (decide_eq_false (by simp)) ?_
 refine jk (jn (jv2 0 1 ?_))
 refine js (js (jr (jm ?_)))
 refine Ops.r (Run.lenT rfl Tryz.underlying9) rfl ?_
 refine Ops.r (Run.bin rfl rfl (Bin.eqlN _ 1)) rfl ?_
 refine jo (jn (jv3 0 1 15 ?_))
 refine VC.condF rfl (decide_eq_false (by simp)) ?_
 refine jk (jn (jv2 0 1 ?_))
 refine js (js (jr (jm ?_)))
 refine Ops.r (Run.lenT rfl Tryz.underlying9) rfl ?_
 refine Ops.cl (Enters.fn (evs.cons rfl evs.nil) Tryz.call220) (useSet_spec q.length _ hq) rfl ?_
 rintro e _ ⟨rfl, rfl⟩
 refine ⟨_, rfl, ?_⟩
 refine jo (jn (jv3 0 1 26 ?_))
 refine VC.meet (σ := Unit) (fun s => [(0, encStr q), (1, encStr [32, 9])]) (fun s wr => Frm [] w wr) ?_ ?_
 ·
  refine VC.condB rfl (fun hc4 => ?_) (fun hc4 => ?_)
  ·
   refine js (jr (jm ?_))
   refine Ops.cl (Enters.fn (evs.cons rfl evs.nil) Tryz.call169) (mkset_spec _) rfl ?_
   rintro e w1 ⟨rfl, hf1⟩
   refine ⟨_, rfl, ?_⟩
   refine jm ?_
   refine Ops.r (Run.extract rfl rfl) rfl ?_
   refine Ops.r (Run.extract rfl rfl) rfl ?_
   refine Ops.m (Does.alloc zero178) rfl ?_
   rintro _ w2 ⟨rfl, hF2⟩
   have hb6 := hF2.blk
   have K := hf1.trans hF2.frm (by simp)
   have hs6 := hf1.size
   generalize hg6 : w1.heap.size = g6 at hb6 hs6 ⊢
   refine Ops.st (Acts.storeA rfl rfl Tryz.sizeOf178 hb6 rfl set_one) ?_
   rintro w3 ⟨hb6n, hf3, _⟩
   have hb6 : SetB w3 g6 := hb6n
   have K := Frm.own K hf3 (fun y hy => by simp at hy; omega)
   refine ja ?_
   refine jo (jn (jv4 0 1 6 7 ?_))
   refine js (jr (jm ?_))
   refine jo (jn (jv4 0 1 6 32 ?_))
   refine VC.condT rfl (rfl) ?_
   refine js (js (jr ?_))
   refine Ops.r (v := .int .i64 ((0 : Nat) : Int)) (Run.asg rfl) rfl ?_
   refine jo (jn (jv3 0 6 8 ?_))
   refine jb ?_
   refine VC.loop (σ := Nat) (fun s => [(0, encStr q), (6, .pointer (some ⟨g6, 0, none⟩)), (8, .int .i64 ((s : Nat) : Int))]) (fun s wr => s ≤ q.length ∧ (∀ c ∈ q.take s, ¬ Bl c) ∧ w3 = wr) (fun s => q.length - s) 0 (js3 rfl rfl rfl) ⟨by omega, by simp, rfl⟩ ?_
   rintro i _ ⟨hi, hno, rfl⟩
   refine js (js (jr (jm ?_)))
   refine jm ?_
   refine Ops.r (Run.lenT rfl Tryz.underlying9) rfl ?_
   refine Ops.r (Run.bin rfl rfl (Bin.lssN _ _)) rfl ?_
   refine jo (jn (jv4 0 6 8 36 ?_))
   refine VC.condD rfl (fun hc6 => ?_) (fun hc6 => ?_)
   ·
    have hts : q.take (i + 1) = q.take i ++ [q[i]] := by rw [List.take_add_one, List.getElem?_eq_getElem hc6]; rfl
    have hgx : q[i]? = some q[i] := List.getElem?_eq_getElem hc6
    generalize hx : q[i] = x at *
    refine jk (jn (jv3 0 6 8 ?_))
    refine js (jb (js (jr (jm ?_))))
    refine jm ?_
    refine Ops.r (Run.indexT _ rfl rfl Tryz.underlying9 hgx) rfl ?_
    refine Ops.cl (Enters.fn (evs.cons rfl (evs.cons rfl evs.nil)) Tryz.call202) (contB_spec g6 x _ hb6) rfl ?_
    rintro e _ ⟨rfl, rfl⟩
    refine ⟨_, rfl, ?_⟩
    refine jo (jn (jv4 0 6 8 42 ?_))
    refine VC.condB rfl (fun hc7 => ?_) (fun hc7 => ?_)
    ·
     refine js (jr (jm ?_))
     refine ja ?_
     refine jo (jn (jv1 4 ?_))
     refine jt ?_
     refine blockQ_r (thenQ_r (thenQ_r (blockQ_r (thenQ_r (thenQ_r (thenQ_r (end1 rfl ?_)))))))
     refine ⟨_, rfl, .inr ⟨i, rfl, hc6, hno, fun c hc => ?_⟩, K⟩
     rw [hgx] at hc
     cases hc
     exact of_decide_eq_true hc7
    ·
     refine jk ?_
     refine blockQ_n (jn ?_)
     refine jv3 0 6 8 ?_
     refine jr (jm ?_)
     refine Ops.r (Run.bin rfl rfl (Bin.add_i64 _ 1 (by omega))) rfl ?_
     refine ja ?_
     refine jo ?_
     refine jn ⟨(i + 1), (js3 rfl rfl rfl), ?_, ?_⟩
     ·
      refine ⟨hc6, fun y hy => ?_, rfl⟩
      rw [hts] at hy
      rcases List.mem_append.1 hy with h | h
      ·
       exact hno y h
      ·
       simp only [List.mem_singleton] at h; subst h; exact of_decide_eq_false hc7
     ·
      first | omega | (dsimp only; omega)
   ·
    refine jx ?_
    refine thenQ_x (thenQ_x (blockQ_x ?_))
    refine jn ?_
    refine VC.sub [] .nil ?_
    refine js (jr ?_)
    refine Ops.r (v := .int .i64 (-1)) (Run.asg rfl) rfl ?_
    refine jo (jn (jt ?_))
    refine thenQ_r (thenQ_r (end1 rfl ?_))
    refine ⟨_, rfl, .inl ⟨rfl, ?_⟩, K⟩
    have : i = q.length := by omega
    subst this
    rw [List.take_length] at hno
    exact hno
  ·
   refine jk ?_
   refine jn ⟨(), (js2 rfl rfl), ?_⟩
   exact Frm.refl _ _
 ·
  rintro _ wx hfx Γ hΓ
  refine jn (VC.sub _ hΓ ?_)
  refine js (js (jr (jm ?_)))
  refine Ops.m (Does.rangeS rfl Tryz.underlying9) rfl ?_
  rintro _ w4 ⟨rfl, hit, K4⟩
  have K4 := hfx.trans K4 (by simp)
  have hgs := hfx.size
  generalize hg : wx.heap.size = gi at hit hgs ⊢
  refine jo (jn (jv2 1 45 ?_))
  refine jb ?_
  refine VC.loop (σ := Nat) (fun s => [(1, encStr [32, 9]), (45, .pointer (some ⟨gi, 0, none⟩))]) (fun s wr => s ≤ q.length ∧ (∀ c ∈ q.take s, ¬ Bl c) ∧ SIt wr gi ⟨q.toArray⟩ s ∧ Frm [] w wr) (fun s => q.length - s) 0 (js2 rfl rfl) ⟨by omega, by simp, hit, K4⟩ ?_
  rintro i wr ⟨hi, hno, hit, K⟩
  refine js (jr ?_)
  refine Ops.m (Does.nextA rfl hit) rfl ?_
  rintro _ w5 ⟨rfl, hit2, hf2⟩
  have K2 := Frm.own K hf2 (fun y hy => by simp at hy; omega)
  have hsz : (⟨q.toArray⟩ : ByteArray).size = q.length := by show q.toArray.size = _; simp
  refine Ops.r (Run.extract rfl (nxt0 _ _)) rfl ?_
  refine jo (jn (js ?_))
  refine VC.condB rfl (fun hc8 => ?_) (fun hc8 => ?_)
  ·
   have hp : i < (⟨q.toArray⟩ : ByteArray).size := of_decide_eq_true hc8
   refine jk (jn (jv3 1 45 46 ?_))
   refine jb (js (jr ?_))
   refine Ops.r (Run.extract rfl (nxt1 hp)) rfl ?_
   refine Ops.r (Run.extract rfl (nxt2 hp)) rfl ?_
   refine ja ?_
   refine ja ?_
   refine jo (jn (jv4 1 9 10 45 ?_))
   refine js (jr (jm ?_))
   refine jm ?_
   obtain ⟨r, n, hd, hn1, hn2, hr, hcase⟩ := dec_round q i (by omega)
   have hnp : nxtP ⟨q.toArray⟩ i = i + n := by unfold nxtP; rw [if_pos hp, hd]
   rw [hnp] at hit2
   rw [hd]
   have hone : Calls Tryz.prog 217 #[encStr [32, 9], .int .i32 ((r : Nat) : Int)] w5 fun e w' => ∃ k, e = .returned (.int .i64 k) ∧ (0 ≤ k ↔ r < 128 ∧ Bl q[i]) ∧ Frm [] w5 w' := by
    rcases hcase with ⟨h1, h2, h3⟩ | ⟨h1, h2⟩
    ·
     subst h3
     exact (idxRuneN_spec _ _ h1).mono fun e w' ⟨h, hw⟩ => ⟨_, h, ⟨fun h => ⟨h1, (idxBl _).1 h⟩, fun h => (idxBl _).2 h.2⟩, hw ▸ Frm.refl _ _⟩
    ·
     exact (idxRune_spec r _ (by omega) (by omega)).mono fun e w' ⟨h, hw⟩ => ⟨_, h, ⟨fun h => by omega, fun h => by omega⟩, hw⟩
   refine Ops.cl (Enters.fn (evs.cons rfl (evs.cons rfl evs.nil)) Tryz.call217) (hone) rfl ?_
   rintro e w6 ⟨k, rfl, hk, hf6⟩
   refine ⟨_, rfl, ?_⟩
   have hit3 := hit2.frm hf6 (by simp)
   have K3 := K2.trans hf6 (by simp)
   refine Ops.r (Run.bin rfl rfl (Bin.geq _ 0)) rfl ?_
   refine jo (jn (jv4 1 9 45 53 ?_))
   refine VC.condD rfl (fun hc9 => ?_) (fun hc9 => ?_)
   ·
    refine js (jr (jm ?_))
    refine ja ?_
    refine jo (jn (jv1 4 ?_))
    refine jt ?_
    refine blockQ_r (thenQ_r (blockQ_r (thenQ_r (end1 rfl ?_))))
    have hkb := hk.1 (by omega)
    refine ⟨_, rfl, .inr ⟨i, rfl, by omega, hno, fun c hc => ?_⟩, K3⟩
    rw [List.getElem?_eq_getElem (show i < q.length by omega)] at hc
    cases hc
    exact hkb.2
   ·
    refine jk ?_
    refine blockQ_n (jn ⟨(i + n), (js2 rfl rfl), ?_, ?_⟩)
    ·
     refine ⟨hn2, fun y hy => ?_, hit3, K3⟩
     obtain ⟨j, hj, rfl⟩ := List.getElem_of_mem hy
     rw [List.getElem_take]
     rw [List.length_take] at hj
     by_cases hji : j < i
     ·
      exact hno _ (by rw [List.mem_iff_getElem]; exact ⟨j, by rw [List.length_take]; omega, by rw [List.getElem_take]⟩)
     ·
      rcases hcase with ⟨h1, h2, h3⟩ | ⟨h1, h2⟩
      ·
       have : j = i := by omega
       subst this
       exact fun h => hc9 (by have := hk.2 ⟨h1, h⟩; omega)
      ·
       exact h2 (j - i) (by omega) _ (by rw [show i + (j - i) = j by omega]; exact List.getElem?_eq_getElem (by omega))
    ·
     first | omega | (dsimp only; omega)
  ·
   refine jx ?_
   refine thenQ_x (thenQ_x (blockQ_x ?_))
   refine jn ?_
   refine VC.sub [] .nil ?_
   refine js (jr ?_)
   refine Ops.r (v := .int .i64 (-1)) (Run.asg rfl) rfl ?_
   refine jo (jn (jt ?_))
   refine end1 rfl ?_
   refine ⟨_, rfl, .inl ⟨rfl, ?_⟩, K2⟩
   have : ¬ i < (⟨q.toArray⟩ : ByteArray).size := of_decide_eq_false hc8
   have : i = q.length := by omega
   subst this
   rw [List.take_length] at hno
   exact hno
end Go.Proofs.YtenbjndldenkfaaGreatDoor
namespace Go.Proofs.YtenbjndldenkfaaGreatDoor
open Go.RowKit Go.Sort
theorem index1_spec (s : Tx) (c : UInt8) (w : World) : Calls Tryz.prog 153 #[encStr s, encStr [c]] w fun e w' => e = .returned (.int .i64 (Lib.indexByte s c)) ∧ w = w' :=
 (Tryz.stringslite_Index_one ⟨s.toArray⟩ c w).mono fun e w' ⟨h, hw⟩ => ⟨h, hw.symm⟩
set_option maxRecDepth 100000 in
theorem lcut_spec (s : Tx) (c : UInt8) (w : World) (hs : s.length ≤ 1000000) : Calls Tryz.prog 114 #[encStr s, encStr [c]] w fun e w' => e = .returned (.tuple #[encStr (befF c s), encStr (aftF c s), .bool (decide (c ∈ s))]) ∧ Frm [] w w' := by
 refine VC.calls (nt := 23) (res := #[.tmp 4, .tmp 5, .tmp 6]) Tryz.func114 rfl Tryz.ntmps114 Tryz.results114 rfl ?_
 refine js (jr (ja ?_))
 refine ja ?_
 refine ja ?_
 refine jo (jn (jv2 0 1 ?_))
 refine js (js (jr (jm ?_)))
 refine jm ?_
 refine Ops.cl (Enters.fn (evs.cons rfl (evs.cons rfl evs.nil)) Tryz.call153) (index1_spec s c _) rfl ?_
 rintro e _ ⟨rfl, rfl⟩
 refine ⟨_, rfl, ?_⟩
 refine ja ?_
 refine jo (jn (jv3 0 1 7 ?_))
 refine js (jr (jm ?_))
 refine Ops.r (Run.bin rfl rfl (Bin.geq _ 0)) rfl ?_
 refine jo (jn (jv4 0 1 7 12 ?_))
 refine VC.condD rfl (fun hc1 => ?_) (fun hc1 => ?_)
 ·
  obtain ⟨a, b, rfl, hc, hi⟩ := (idxB_cases s c).resolve_left (fun h => by rw [h.1] at hc1; omega)
  rw [hi]
  obtain ⟨hb1, hb2⟩ := bef_at (b := b) hc
  simp only [List.length_append, List.length_cons] at hs
  have e1 : (a ++ c :: b).take a.length = a := by simp
  have e2 : (a ++ c :: b).drop (a.length + 1) = b := by rw [List.drop_append, List.drop_eq_nil_of_le (by omega)]; simp
  refine js ?_
  refine VC.still jK jK ?_
  refine SOps.r (Run.mv rfl) rfl ?_
  refine SOps.r (Run.mv rfl) rfl ?_
  refine SOps.r (Run.sliceT 0 a.length rfl Tryz.underlying9 evB.none_ (evB.some_ rfl) (by omega) (by simp)) rfl ?_
  refine SOps.r (Run.mv rfl) rfl ?_
  refine SOps.r (Run.mv rfl) rfl ?_
  refine SOps.r (Run.mv rfl) rfl ?_
  refine SOps.r (Run.lenT rfl Tryz.underlying9) rfl ?_
  refine SOps.r (Run.bin rfl rfl (Bin.add_i64 a.length 1 (by omega))) rfl ?_
  refine SOps.r (Run.sliceT (a.length + 1) _ rfl Tryz.underlying9 (evB.some_ rfl) evB.none_ (by first | (simp; done) | (simp; omega)) (by simp)) rfl ?_
  refine SOps.r (Run.asg rfl) rfl ?_
  refine SOps.r (Run.asg rfl) rfl ?_
  refine SOps.r (Run.asg rfl) rfl ?_
  refine SOps.nil ?_
  refine jn (jv3 4 5 6 ?_)
  refine jt ?_
  refine thenQ_r (end3 rfl rfl rfl ?_)
  refine ⟨?_, (Drawn.drew _).frm⟩
  rw [hb1, hb2, decide_eq_true (by simp)]
  simp only [List.drop_zero, Nat.sub_zero, e1, e2]
  rw [List.take_of_length_le (l := b) (by simp; omega)]
 ·
  have hc : c ∉ s := by
   rcases idxB_cases s c with ⟨_, h⟩ | ⟨a, b, _, _, hi⟩
   ·
    exact h
   ·
    rw [hi] at hc1; omega
  obtain ⟨hb1, hb2⟩ := bef_no hc
  refine jk (jn (jv1 0 ?_))
  refine js (jr (jm ?_))
  refine ja ?_
  refine ja ?_
  refine ja ?_
  refine jo (jn (jv3 4 5 6 ?_))
  refine jt ?_
  refine end3 rfl rfl rfl ?_
  refine ⟨?_, Frm.refl _ _⟩
  rw [hb1, hb2, decide_eq_false hc]
set_option maxRecDepth 100000 in
theorem cut_spec (s : Tx) (c : UInt8) (w : World) (hs : s.length ≤ 1000000) : Calls Tryz.prog 79 #[encStr s, encStr [c]] w fun e w' => e = .returned (.tuple #[encStr (befF c s), encStr (aftF c s), .bool (decide (c ∈ s))]) ∧ Frm [] w w' := by
 refine VC.calls (nt := 13) (res := #[.tmp 4, .tmp 5, .tmp 6]) Tryz.func79 rfl Tryz.ntmps79 Tryz.results79 rfl ?_
 refine js (jr (ja ?_))
 refine ja ?_
 refine ja ?_
 refine jo (jn (jv2 0 1 ?_))
 refine js (jr (jm ?_))
 refine jm ?_
 refine Ops.cl (Enters.fn (evs.cons rfl (evs.cons rfl evs.nil)) Tryz.call114) (lcut_spec s c _ hs) rfl ?_
 rintro e w1 ⟨rfl, hf1⟩
 refine ⟨_, rfl, ?_⟩
 refine Ops.r (Run.extract rfl rfl) rfl ?_
 refine Ops.r (Run.extract rfl rfl) rfl ?_
 refine Ops.r (Run.extract rfl rfl) rfl ?_
 refine ja ?_
 refine ja ?_
 refine ja ?_
 refine jo (jn (jv3 4 5 6 ?_))
 refine jt ?_
 refine end3 rfl rfl rfl ?_
 exact ⟨rfl, hf1⟩
end Go.Proofs.YtenbjndldenkfaaGreatDoor
namespace Go.Proofs.YtenbjndldenkfaaGreatDoor
open Go.RowKit

def gluP (b : Tx) : List Tx → List Tx
 | [] => [b]
 | p :: ps => (b ++ p) :: ps
theorem gluP_gluP (a b : Tx) (l : List Tx) : gluP a (gluP b l) = gluP (a ++ b) l := by
 cases l <;> simp [gluP]
theorem gluP_nil {l : List Tx} (h : l ≠ []) : gluP [] l = l := by
 cases l with
 | nil => exact absurd rfl h
 | cons p ps => rfl
def pcs : Bool → Tx → List Tx
 | _, [] => [[]]
 | b, [x] => if x = 59 ∧ b = false then [[], []] else [[x]]
 | b, x :: y :: r =>
  if b = true ∧ x = 92 then gluP [x, y] (pcs b r)
  else if x = 34 then gluP [x] (pcs (!b) (y :: r))
  else if x = 59 ∧ b = false then [] :: pcs b (y :: r)
  else gluP [x] (pcs b (y :: r))
theorem gluP_ne (b : Tx) (l : List Tx) : gluP b l ≠ [] := by cases l <;> simp [gluP]
theorem pcs_ne (b : Bool) (s : Tx) : pcs b s ≠ [] := by
 match s with
 | [] => simp [pcs]
 | [x] => unfold pcs; split <;> simp
 | x :: y :: r =>
  unfold pcs
  split
  ·
   exact gluP_ne _ _
  ·
   split
   ·
    exact gluP_ne _ _
   ·
    split
    ·
     simp
    ·
     exact gluP_ne _ _
theorem pcs_esc (y : UInt8) (r : Tx) : pcs true (92 :: y :: r) = gluP [92, y] (pcs true r) := by
 conv => lhs; unfold pcs
 rw [if_pos ⟨rfl, rfl⟩]
theorem pcs_esc_end : pcs true [92] = gluP [92] (pcs true []) := by decide
theorem pcs_quote (b : Bool) (r : Tx) : pcs b (34 :: r) = gluP [34] (pcs (!b) r) := by
 cases r with
 | nil => cases b <;> decide
 | cons y r =>
  conv => lhs; unfold pcs
  rw [if_neg (by simp), if_pos rfl]
theorem pcs_cut (r : Tx) : pcs false (59 :: r) = [] :: pcs false r := by
 cases r with
 | nil => decide
 | cons y r =>
  conv => lhs; unfold pcs
  rw [if_neg (by simp), if_neg (by decide), if_pos ⟨rfl, rfl⟩]
theorem pcs_other {b : Bool} {x : UInt8} (h1 : ¬ (b = true ∧ x = 92)) (h2 : x ≠ 34) (h3 : ¬ (x = 59 ∧ b = false)) (r : Tx) : pcs b (x :: r) = gluP [x] (pcs b r) := by
 cases r with
 | nil => unfold pcs; rw [if_neg h3]; simp [gluP]
 | cons y r =>
  conv => lhs; unfold pcs
  rw [if_neg h1, if_neg h2, if_neg h3]
theorem gluP_mem {b : Tx} {l : List Tx} {n : Nat} (hl : l ≠ []) (h : ∀ p ∈ l, p.length ≤ n) : ∀ p ∈ gluP b l, p.length ≤ b.length + n := by
 cases l with
 | nil => exact absurd rfl hl
 | cons p ps =>
  intro q hq
  simp only [gluP, List.mem_cons] at hq
  rcases hq with rfl | hq
  ·
   have := h p (by simp); simp; omega
  ·
   have := h q (by simp [hq]); omega
theorem pcs_len : ∀ (n : Nat) (b : Bool) (s : Tx), s.length ≤ n → ∀ p ∈ pcs b s, p.length ≤ s.length
 | _, _, [], _ => by simp [pcs]
 | _, b, [x], _ => by unfold pcs; split <;> simp
 | 0, _, _ :: _ :: _, h => by simp at h
 | n + 1, b, x :: y :: r, h => by
  have ih1 := pcs_len n b r (by simp at h; omega)
  have ih2 := fun b => pcs_len n b (y :: r) (by simp at h ⊢; omega)
  unfold pcs
  split
  ·
   intro p hp; have := gluP_mem (pcs_ne _ _) ih1 p hp; simp at this ⊢; omega
  ·
   split
   ·
    intro p hp; have := gluP_mem (pcs_ne _ _) (ih2 (!b)) p hp; simp at this ⊢; omega
   ·
    split
    ·
     intro p hp
     simp only [List.mem_cons] at hp
     rcases hp with rfl | hp
     ·
      simp
     ·
      have := ih2 b p hp; simp at this ⊢; omega
    ·
     intro p hp; have := gluP_mem (pcs_ne _ _) (ih2 b) p hp; simp at this ⊢; omega
theorem gluP_count (b : Tx) {l : List Tx} (hl : l ≠ []) : (gluP b l).length = l.length := by
 cases l with
 | nil => exact absurd rfl hl
 | cons p ps => rfl
theorem pcs_count : ∀ (n : Nat) (b : Bool) (s : Tx), s.length ≤ n → (pcs b s).length ≤ s.length + 1
 | _, _, [], _ => by simp [pcs]
 | _, b, [x], _ => by unfold pcs; split <;> simp
 | 0, _, _ :: _ :: _, h => by simp at h
 | n + 1, b, x :: y :: r, h => by
  have ih1 := pcs_count n b r (by simp at h; omega)
  have ih2 := fun b => pcs_count n b (y :: r) (by simp at h ⊢; omega)
  unfold pcs
  split
  ·
   rw [gluP_count _ (pcs_ne _ _)]; simp at ih1 ⊢; omega
  ·
   split
   ·
    rw [gluP_count _ (pcs_ne _ _)]; have := ih2 (!b); simp at this ⊢; omega
   ·
    split
    ·
     have := ih2 b; simp at this ⊢; omega
    ·
     rw [gluP_count _ (pcs_ne _ _)]; have := ih2 b; simp at this ⊢; omega

def unq : Tx → Tx
 | [] => []
 | [x] => if x = 34 ∨ x = 92 then [] else [x]
 | x :: y :: r => if x = 34 then [] else if x = 92 then y :: unq r else x :: unq (y :: r)
theorem unq_end (r : Tx) : unq (34 :: r) = [] := by
 cases r with
 | nil => decide
 | cons y r => unfold unq; rw [if_pos rfl]
theorem unq_esc (y : UInt8) (r : Tx) : unq (92 :: y :: r) = y :: unq r := by
 conv => lhs; unfold unq
 rw [if_neg (by decide), if_pos rfl]
theorem unq_esc_end : unq [92] = [] := by decide
theorem unq_other {x : UInt8} (h1 : x ≠ 34) (h2 : x ≠ 92) (r : Tx) : unq (x :: r) = x :: unq r := by
 cases r with
 | nil => unfold unq; rw [if_neg (by simp [h1, h2])]; try rfl
 | cons y r =>
  conv => lhs; unfold unq
  rw [if_neg h1, if_neg h2]
theorem unq_len : ∀ (n : Nat) (s : Tx), s.length ≤ n → (unq s).length ≤ s.length
 | _, [], _ => by simp [unq]
 | _, [x], _ => by unfold unq; split <;> simp
 | 0, _ :: _ :: _, h => by simp at h
 | n + 1, x :: y :: r, h => by
  have ih1 := unq_len n r (by simp at h; omega)
  have ih2 := unq_len n (y :: r) (by simp at h ⊢; omega)
  unfold unq
  split
  ·
   simp
  ·
   split
   ·
    simp at ih1 ⊢; omega
   ·
    simp at ih2 ⊢; omega
def noB : Tx → Tx
 | [] => []
 | x :: r => if Bl x then [] else x :: noB r
theorem noB_all : ∀ {s : Tx}, (∀ c ∈ s, ¬ Bl c) → noB s = s
 | [], _ => rfl
 | x :: r, h => by
  unfold noB
  rw [if_neg (h x (by simp)), noB_all fun c hc => h c (by simp [hc])]
theorem noB_take : ∀ {s : Tx} {i : Nat}, i < s.length → (∀ c ∈ s.take i, ¬ Bl c) → (∀ c, s[i]? = some c → Bl c) → noB s = s.take i
 | [], i, h, _, _ => by simp at h
 | x :: r, 0, _, _, h2 => by unfold noB; rw [if_pos (h2 x rfl)]; rfl
 | x :: r, i + 1, h, h1, h2 => by
  unfold noB
  rw [if_neg (h1 x (by simp)), noB_take (i := i) (by simpa using h) (fun c hc => h1 c (by simp [hc])) (fun c hc => h2 c (by simpa using hc))]
  rfl
def valQ (s : Tx) : Tx := match leftB s with
 | [] => []
 | x :: r => if x = 34 then unq r else noB (x :: r)
theorem noB_len : ∀ s : Tx, (noB s).length ≤ s.length
 | [] => Nat.le_refl _
 | x :: r => by
  have := noB_len r
  unfold noB
  split
  ·
   simp
  ·
   simp; omega
theorem valQ_len (s : Tx) : (valQ s).length ≤ s.length := by
 have h := leftB_le s
 unfold valQ
 split
 ·
  simp
 ·
  rename_i x r hx
  rw [hx] at h
  split
  ·
   have := unq_len _ r (Nat.le_refl _); simp at h; omega
  ·
   exact Nat.le_trans (noB_len _) h

theorem leftB_append : ∀ a b : Tx, leftB (a ++ b) = if leftB a = [] then leftB b else leftB a ++ b
 | [], b => by simp [leftB]
 | x :: r, b => by
  have ih := leftB_append r b
  by_cases hx : Bl x
  ·
   have e1 : leftB (x :: r ++ b) = leftB (r ++ b) := by show leftB (x :: (r ++ b)) = _; rw [leftB, if_pos hx]
   have e2 : leftB (x :: r) = leftB r := by rw [leftB, if_pos hx]
   rw [e1, e2, ih]
  ·
   have e1 : leftB (x :: r ++ b) = x :: (r ++ b) := by show leftB (x :: (r ++ b)) = _; rw [leftB, if_neg hx]
   have e2 : leftB (x :: r) = x :: r := by rw [leftB, if_neg hx]
   rw [e1, e2, if_neg (by simp)]
   rfl
theorem rightB_cons (x : UInt8) (r : Tx) : rightB (x :: r) = if rightB r = [] then (if Bl x then [] else [x]) else x :: rightB r := by
 unfold rightB
 rw [List.reverse_cons, leftB_append]
 by_cases h : leftB r.reverse = []
 ·
  rw [if_pos h, h, if_pos (by simp), leftB]
  split <;> simp [leftB]
 ·
  rw [if_neg h, if_neg (by simpa using h)]
  simp
theorem trim_comm : ∀ s : Tx, rightB (leftB s) = leftB (rightB s)
 | [] => rfl
 | x :: r => by
  have ih := trim_comm r
  by_cases hx : Bl x
  ·
   have e2 : leftB (x :: r) = leftB r := by rw [leftB, if_pos hx]
   rw [e2, ih, rightB_cons]
   by_cases h : rightB r = []
   ·
    rw [if_pos h, if_pos hx, h]
   ·
    rw [if_neg h]
    conv => rhs; rw [leftB, if_pos hx]
  ·
   have e2 : leftB (x :: r) = x :: r := by rw [leftB, if_neg hx]
   rw [e2, rightB_cons]
   split
   ·
    show [x] = leftB [x]
    rw [leftB, if_neg hx]
   ·
    rw [leftB, if_neg hx]
def trimQ (s : Tx) : Tx := leftB (rightB s)
theorem trimQ_len (s : Tx) : (trimQ s).length ≤ s.length := Nat.le_trans (leftB_le _) (rightB_le _)

abbrev Par := Tx × Tx
structure Med where
 ty : Tx
 sub : Tx
 ps : List Par
def med0 : Med := ⟨[116, 101, 120, 116], [112, 108, 97, 105, 110], []⟩
def nameQ (p : Tx) : Tx := smallS (trimQ (befF 61 p))
def IsPar (p : Tx) : Prop := 61 ∈ p ∧ TokQ (nameQ p)
instance (p : Tx) : Decidable (IsPar p) := by unfold IsPar; infer_instance
def parQ (p : Tx) : List Par := if IsPar p then [(nameQ p, valQ (aftF 61 p))] else []
def IsMed (p : Tx) : Prop := 47 ∈ trimQ p ∧ TokQ (befF 47 (trimQ p)) ∧ TokQ (aftF 47 (trimQ p))
instance (p : Tx) : Decidable (IsMed p) := by unfold IsMed; infer_instance
def medOf (p : Tx) (ps : List Tx) : Med := if IsMed p then ⟨smallS (befF 47 (trimQ p)), smallS (aftF 47 (trimQ p)), ps.flatMap parQ⟩ else med0
def medQ (s : Tx) : Med := match pcs false s with
 | [] => med0
 | p :: ps => medOf p ps
def PC1 (p : Par) : List Value := [encStr p.1, encStr p.2]
theorem PC1_len (p : Par) : (PC1 p).length = 2 := rfl
theorem PC1_one (p : Par) : ∀ u ∈ PC1 p, u.oneCell' = true := by
 intro u hu
 simp only [PC1, List.mem_cons, List.not_mem_nil, or_false] at hu
 rcases hu with rfl | rfl <;> rfl
def PC (l : List Par) : List Value := l.flatMap PC1
theorem PC_append (a b : List Par) : PC (a ++ b) = PC a ++ PC b := by simp [PC]
theorem PC_one (l : List Par) : ∀ u ∈ PC l, u.oneCell' = true := flat_one PC1 PC1_one l
theorem parQ_count (p : Tx) : (parQ p).length ≤ 1 := by unfold parQ; split <;> simp
theorem pars_count : ∀ ps : List Tx, (ps.flatMap parQ).length ≤ ps.length
 | [] => Nat.le_refl _
 | p :: ps => by
  have := parQ_count p
  have := pars_count ps
  simp only [List.flatMap_cons, List.length_append, List.length_cons]
  omega
end Go.Proofs.YtenbjndldenkfaaGreatDoor
namespace Go.Proofs.YtenbjndldenkfaaGreatDoor
open Go.RowKit Go.Sort
theorem spc_nat (c : UInt8) : c ∈ spcQ ↔ (c.toNat = 40 ∨ c.toNat = 41 ∨ c.toNat = 60 ∨ c.toNat = 62 ∨ c.toNat = 64 ∨ c.toNat = 44 ∨ c.toNat = 59 ∨ c.toNat = 58 ∨ c.toNat = 92 ∨ c.toNat = 34 ∨ c.toNat = 47 ∨ c.toNat = 91 ∨ c.toNat = 93 ∨ c.toNat = 63 ∨ c.toNat = 61) := by
 unfold spcQ
 simp only [List.mem_cons, List.not_mem_nil, or_false, ← UInt8.toNat_inj]
 exact Iff.rfl
def hdB : Tx → Bool
 | [] => false
 | x :: _ => decide (Bl x)
def hdN : Tx → Bool
 | [] => false
 | x :: _ => decide (¬ Bl x)
theorem bl_nat (c : UInt8) : Bl c ↔ (c.toNat = 32 ∨ c.toNat = 9) := by
 show (c = 32 ∨ c = 9) ↔ _
 rw [← UInt8.toNat_inj, ← UInt8.toNat_inj]
 exact Iff.rfl
theorem drop_cons {α : Type} {s : List α} {i : Nat} (h : i < s.length) : s.drop i = s[i] :: s.drop (i + 1) := by rw [List.drop_eq_getElem_cons h]
theorem take_one {α : Type} {s : List α} {i : Nat} (h : i < s.length) : (s.drop i).take (i + 1 - i) = [s[i]] := by rw [drop_cons h, show i + 1 - i = 1 by omega]; rfl
theorem take_snoc {α : Type} {s : List α} {i : Nat} (h : i < s.length) : s.take (i + 1) = s.take i ++ [s[i]] := by rw [List.take_add_one, List.getElem?_eq_getElem h]; rfl
theorem set_last {α : Type} (a : List α) (b v : α) : (a ++ [b]).set a.length v = a ++ [v] := by simp
theorem hrdT {w w' : World} {t : TypeId} {q : Tx} (h : Fresh w w' t #[encStr q]) : Rd w' 1 (some ⟨w.heap.size, 0, none⟩) 1 (SB [q]) := Rd.of_blk (n := 1) (size := 1) h.blk rfl
theorem last_cell {w : World} {ad : Addr} {a : List Tx} {b : Tx} {d : Nat} (h : Own w 9 1 (some ad) (a ++ [b]).length d (SB (a ++ [b]))) : w.cell? (ad.add ((a ++ [b]).length - 1)) = some (encStr b) := by
 obtain ⟨ad', h1, h2⟩ := SB_at h.rd (show (a ++ [b]).length - 1 < (a ++ [b]).length by simp)
 cases h1
 rw [h2]
 simp
theorem idxB_app {c : UInt8} : ∀ {a b : Tx}, c ∉ a → Lib.indexByte (a ++ c :: b) c = ((a.length : Nat) : Int)
 | a, b, h => by
  rcases idxB_cases (a ++ c :: b) c with ⟨_, h2⟩ | ⟨a2, b2, h1, h2, h3⟩
  ·
   exact absurd (by simp) h2
  ·
   rw [h3]
   have e1 := (bef_at (b := b) h).1
   rw [h1, (bef_at (b := b2) h2).1] at e1
   rw [e1]
set_option maxRecDepth 100000 in
theorem rtoken_spec (q : Tx) (w : World) (hq : q.length ≤ 1000000) : Calls Tryz.prog 49 #[encStr q] w fun e w' => e = .returned (.bool (decide (TokQ q))) ∧ w = w' := by
 refine VC.calls (nt := 40) (res := #[.tmp 2]) Tryz.func49 rfl Tryz.ntmps49 Tryz.results49 rfl ?_
 refine js (jr (ja ?_))
 refine jo (jn (jv1 0 ?_))
 refine js (js (jr ?_))
 refine Ops.r (v := .int .i64 ((0 : Nat) : Int)) (Run.asg rfl) rfl ?_
 refine jo (jn (jb ?_))
 refine VC.loop (σ := Nat) (fun s => [(0, encStr q), (3, .int .i64 ((s : Nat) : Int))]) (fun s wr => s ≤ q.length ∧ (∀ c ∈ q.take s, TokC c) ∧ w = wr) (fun s => q.length - s) 0 (js2 rfl rfl) ⟨by omega, by simp, rfl⟩ ?_
 rintro i _ ⟨hi, hd, rfl⟩
 refine js (js (jr (jm ?_)))
 refine jm ?_
 refine Ops.r (Run.lenT rfl Tryz.underlying9) rfl ?_
 refine Ops.r (Run.bin rfl rfl (Bin.lssN _ _)) rfl ?_
 refine jo (jn (jv3 0 3 8 ?_))
 refine VC.condD rfl (fun hc1 => ?_) (fun hc1 => ?_)
 ·
  have hts := take_snoc hc1
  have hxm : q[i] ∈ q := List.getElem_mem hc1
  have hgx : q[i]? = some q[i] := List.getElem?_eq_getElem hc1
  generalize hx : q[i] = x at *
  have hsp := spc_nat x
  have htc : TokC x ↔ (33 ≤ x.toNat ∧ x.toNat ≤ 126 ∧ x ∉ spcQ) := Iff.rfl
  refine jk (jn (jv2 0 3 ?_))
  refine js (jb (js (jr (jm ?_))))
  refine jm ?_
  refine Ops.r (Run.indexT _ rfl rfl Tryz.underlying9 hgx) rfl ?_
  refine ja ?_
  refine jo (jn (jv3 0 3 4 ?_))
  refine js (js ?_)
  refine VC.split1 [(0, _), (3, _), (4, _)] (js3 rfl rfl rfl) 19 (.bool (decide ((x.toNat ≤ 32) ∨ (127 ≤ x.toNat)))) ?_ ?_
  ·
   by_cases hs0 : x.toNat ≤ 32
   ·
    refine jr (jm ?_)
    refine Ops.r (Run.bin rfl rfl (Bin.leqN _ 32)) rfl ?_
    refine jm ?_
    refine ju ?_
    refine ju ?_
    refine Ops.r (Run.pickT rfl rfl au) rfl ?_
    refine jo ?_
    refine jn ⟨(js4 (by rw [dor1 hs0]; rfl) rfl rfl rfl), rfl⟩
   ·
    refine jr (jm ?_)
    refine Ops.r (Run.bin rfl rfl (Bin.leqN _ 32)) rfl ?_
    refine jm ?_
    refine jg ?_
    refine Ops.rg rfl au (Run.bin rfl rfl (Bin.geqN _ 127)) rfl ?_
    refine Ops.r (Run.pickF rfl rfl au) rfl ?_
    refine jo ?_
    refine jn ⟨(js4 (by rw [dor0 hs0]; rfl) rfl rfl rfl), rfl⟩
  ·
   intro Γ hΓ
   refine jn (VC.sub _ hΓ ?_)
   refine VC.condD rfl (fun hc2 => ?_) (fun hc2 => ?_)
   ·
    refine js (jr (ja ?_))
    refine jo (jn (jv1 2 ?_))
    refine jt ?_
    refine thenQ_r (blockQ_r (thenQ_r (thenQ_r (blockQ_r (thenQ_r (end1 rfl ?_))))))
    exact ⟨by rw [decide_eq_false (fun h => by have := htc.1 (h.2 x hxm); omega)], rfl⟩
   ·
    refine jk (jn (jv3 0 3 4 ?_))
    refine js (jr (jm ?_))
    refine jo (jn (jv3 0 3 20 ?_))
    refine jb (js (js (jr ?_)))
    refine Ops.r (Run.bin rfl rfl (Bin.eqlN _ 40)) rfl ?_
    refine ja ?_
    refine jo (jn (jv4 0 3 20 21 ?_))
    refine VC.meet (σ := Unit) (fun s => [(0, encStr q), (3, .int .i64 ((i : Nat) : Int)), (21, .bool (decide (x ∈ spcQ)))]) (fun s wr => w = wr) ?_ ?_
    ·
     refine VC.condD rfl (fun hc3 => ?_) (fun hc3 => ?_)
     ·
      refine jk ?_
      refine jn ⟨(), (js3 rfl rfl (jc (decide_eq_decide.2 (by rw [hsp]; omega)))), ?_⟩
      rfl
     ·
      refine js (jr ?_)
      refine Ops.r (Run.bin rfl rfl (Bin.eqlN _ 41)) rfl ?_
      refine ja ?_
      refine jo (jn (jv4 0 3 20 21 ?_))
      refine VC.condD rfl (fun hc4 => ?_) (fun hc4 => ?_)
      ·
       refine jk ?_
       refine jn ⟨(), (js3 rfl rfl (jc (decide_eq_decide.2 (by rw [hsp]; omega)))), ?_⟩
       rfl
      ·
       refine js (jr ?_)
       refine Ops.r (Run.bin rfl rfl (Bin.eqlN _ 60)) rfl ?_
       refine ja ?_
       refine jo (jn (jv4 0 3 20 21 ?_))
       refine VC.condD rfl (fun hc5 => ?_) (fun hc5 => ?_)
       ·
        refine jk ?_
        refine jn ⟨(), (js3 rfl rfl (jc (decide_eq_decide.2 (by rw [hsp]; omega)))), ?_⟩
        rfl
       ·
        refine js (jr ?_)
        refine Ops.r (Run.bin rfl rfl (Bin.eqlN _ 62)) rfl ?_
        refine ja ?_
        refine jo (jn (jv4 0 3 20 21 ?_))
        refine VC.condD rfl (fun hc6 => ?_) (fun hc6 => ?_)
        ·
         refine jk ?_
         refine jn ⟨(), (js3 rfl rfl (jc (decide_eq_decide.2 (by rw [hsp]; omega)))), ?_⟩
         rfl
        ·
         refine js (jr ?_)
         refine Ops.r (Run.bin rfl rfl (Bin.eqlN _ 64)) rfl ?_
         refine ja ?_
         refine jo (jn (jv4 0 3 20 21 ?_))
         refine VC.condD rfl (fun hc7 => ?_) (fun hc7 => ?_)
         ·
          refine jk ?_
          refine jn ⟨(), (js3 rfl rfl (jc (decide_eq_decide.2 (by rw [hsp]; omega)))), ?_⟩
          rfl
         ·
          refine js (jr ?_)
          refine Ops.r (Run.bin rfl rfl (Bin.eqlN _ 44)) rfl ?_
          refine ja ?_
          refine jo (jn (jv4 0 3 20 21 ?_))
          refine VC.condD rfl (fun hc8 => ?_) (fun hc8 => ?_)
          ·
           refine jk ?_
           refine jn ⟨(), (js3 rfl rfl (jc (decide_eq_decide.2 (by rw [hsp]; omega)))), ?_⟩
           rfl
          ·
           refine js (jr ?_)
           refine Ops.r (Run.bin rfl rfl (Bin.eqlN _ 59)) rfl ?_
           refine ja ?_
           refine jo (jn (jv4 0 3 20 21 ?_))
           refine VC.condD rfl (fun hc9 => ?_) (fun hc9 => ?_)
           ·
            refine jk ?_
            refine jn ⟨(), (js3 rfl rfl (jc (decide_eq_decide.2 (by rw [hsp]; omega)))), ?_⟩
            rfl
           ·
            refine js (jr ?_)
            refine Ops.r (Run.bin rfl rfl (Bin.eqlN _ 58)) rfl ?_
            refine ja ?_
            refine jo (jn (jv4 0 3 20 21 ?_))
            refine VC.condD rfl (fun hc10 => ?_) (fun hc10 => ?_)
            ·
             refine jk ?_
             refine jn ⟨(), (js3 rfl rfl (jc (decide_eq_decide.2 (by rw [hsp]; omega)))), ?_⟩
             rfl
            ·
             refine js (jr ?_)
             refine Ops.r (Run.bin rfl rfl (Bin.eqlN _ 92)) rfl ?_
             refine ja ?_
             refine jo (jn (jv4 0 3 20 21 ?_))
             refine VC.condD rfl (fun hc11 => ?_) (fun hc11 => ?_)
             ·
              refine jk ?_
              refine jn ⟨(), (js3 rfl rfl (jc (decide_eq_decide.2 (by rw [hsp]; omega)))), ?_⟩
              rfl
             ·
              refine js (jr ?_)
              refine Ops.r (Run.bin rfl rfl (Bin.eqlN _ 34)) rfl ?_
              refine ja ?_
              refine jo (jn (jv4 0 3 20 21 ?_))
              refine VC.condD rfl (fun hc12 => ?_) (fun hc12 => ?_)
              ·
               refine jk ?_
               refine jn ⟨(), (js3 rfl rfl (jc (decide_eq_decide.2 (by rw [hsp]; omega)))), ?_⟩
               rfl
              ·
               refine js (jr ?_)
               refine Ops.r (Run.bin rfl rfl (Bin.eqlN _ 47)) rfl ?_
               refine ja ?_
               refine jo (jn (jv4 0 3 20 21 ?_))
               refine VC.condD rfl (fun hc13 => ?_) (fun hc13 => ?_)
               ·
                refine jk ?_
                refine jn ⟨(), (js3 rfl rfl (jc (decide_eq_decide.2 (by rw [hsp]; omega)))), ?_⟩
                rfl
               ·
                refine js (jr ?_)
                refine Ops.r (Run.bin rfl rfl (Bin.eqlN _ 91)) rfl ?_
                refine ja ?_
                refine jo (jn (jv4 0 3 20 21 ?_))
                refine VC.condD rfl (fun hc14 => ?_) (fun hc14 => ?_)
                ·
                 refine jk ?_
                 refine jn ⟨(), (js3 rfl rfl (jc (decide_eq_decide.2 (by rw [hsp]; omega)))), ?_⟩
                 rfl
                ·
                 refine js (jr ?_)
                 refine Ops.r (Run.bin rfl rfl (Bin.eqlN _ 93)) rfl ?_
                 refine ja ?_
                 refine jo (jn (jv4 0 3 20 21 ?_))
                 refine VC.condD rfl (fun hc15 => ?_) (fun hc15 => ?_)
                 ·
                  refine jk ?_
                  refine jn ⟨(), (js3 rfl rfl (jc (decide_eq_decide.2 (by rw [hsp]; omega)))), ?_⟩
                  rfl
                 ·
                  refine js (jr ?_)
                  refine Ops.r (Run.bin rfl rfl (Bin.eqlN _ 63)) rfl ?_
                  refine ja ?_
                  refine jo (jn (jv4 0 3 20 21 ?_))
                  refine VC.condD rfl (fun hc16 => ?_) (fun hc16 => ?_)
                  ·
                   refine jk ?_
                   refine jn ⟨(), (js3 rfl rfl (jc (decide_eq_decide.2 (by rw [hsp]; omega)))), ?_⟩
                   rfl
                  ·
                   refine jr ?_
                   refine Ops.r (Run.bin rfl rfl (Bin.eqlN _ 61)) rfl ?_
                   refine ja ?_
                   refine jo ?_
                   refine jn ⟨(), (js3 rfl rfl (jc (decide_eq_decide.2 (by rw [hsp]; omega)))), ?_⟩
                   rfl
    ·
     rintro _ _ rfl Γ hΓ
     refine jn (VC.sub _ hΓ ?_)
     refine VC.condD rfl (fun hc17 => ?_) (fun hc17 => ?_)
     ·
      refine js (jr (ja ?_))
      refine jo (jn (jv1 2 ?_))
      refine jt ?_
      refine blockQ_r (blockQ_r (thenQ_r (thenQ_r (blockQ_r (thenQ_r (end1 rfl ?_))))))
      exact ⟨by rw [decide_eq_false (fun h => (htc.1 (h.2 x hxm)).2.2 hc17)], rfl⟩
     ·
      refine jk ?_
      refine blockQ_n (blockQ_n (jn ?_))
      refine jv2 0 3 ?_
      refine jr (jm ?_)
      refine Ops.r (Run.bin rfl rfl (Bin.add_i64 _ 1 (by omega))) rfl ?_
      refine ja ?_
      refine jo ?_
      refine jn ⟨(i + 1), (js2 rfl rfl), ?_, ?_⟩
      ·
       refine ⟨hc1, fun y hy => ?_, rfl⟩
       rw [hts] at hy
       rcases List.mem_append.1 hy with h | h
       ·
        exact hd y h
       ·
        simp only [List.mem_singleton] at h; subst h; exact htc.2 ⟨by omega, by omega, hc17⟩
      ·
       first | omega | (dsimp only; omega)
 ·
  have hil : i = q.length := by omega
  subst hil
  rw [List.take_length] at hd
  refine jx ?_
  refine thenQ_x (thenQ_x (blockQ_x ?_))
  refine jn (jv1 0 ?_)
  refine js (jr (jm ?_))
  refine Ops.r (Run.lenT rfl Tryz.underlying9) rfl ?_
  refine Ops.r (Run.bin rfl rfl (Bin.gtrN _ 0)) rfl ?_
  refine ja ?_
  refine jo (jn (jv1 2 ?_))
  refine jt ?_
  refine end1 rfl ?_
  exact ⟨by rw [decide_eq_decide.2 (show TokQ q ↔ 0 < q.length from ⟨fun h => List.length_pos_iff.2 h.1, fun h => ⟨List.length_pos_iff.1 h, hd⟩⟩)], rfl⟩
set_option maxRecDepth 100000 in
theorem rsmall_spec (q : Tx) (w : World) (hq : q.length ≤ 1000000) : Calls Tryz.prog 148 #[encStr q] w fun e w' => e = .returned (encStr (smallS q)) ∧ Frm [] w w' := by
 refine VC.calls (nt := 29) (res := #[.tmp 2]) Tryz.func148 rfl Tryz.ntmps148 Tryz.results148 rfl ?_
 refine js (jr (ja ?_))
 refine jo (jn (jv1 0 ?_))
 refine js (jr (ja ?_))
 refine jo (jn (js (js (jr ?_))))
 refine Ops.r (v := .int .i64 ((0 : Nat) : Int)) (Run.asg rfl) rfl ?_
 refine jo (jn (jb ?_))
 refine VC.loop (σ := Nat) (fun s => [(0, encStr q), (3, encStr (smallS (q.take s))), (4, .int .i64 ((s : Nat) : Int))]) (fun s wr => s ≤ q.length ∧ Frm [] w wr) (fun s => q.length - s) 0 (js3 rfl rfl rfl) ⟨by omega, Frm.refl _ _⟩ ?_
 rintro i wr ⟨hi, K⟩
 refine js (js (jr (jm ?_)))
 refine jm ?_
 refine Ops.r (Run.lenT rfl Tryz.underlying9) rfl ?_
 refine Ops.r (Run.bin rfl rfl (Bin.lssN _ _)) rfl ?_
 refine jo (jn (jv4 0 3 4 9 ?_))
 refine VC.condD rfl (fun hc1 => ?_) (fun hc1 => ?_)
 ·
  have hts := take_snoc hc1
  have hgx : q[i]? = some q[i] := List.getElem?_eq_getElem hc1
  have hsl := smallS_len (q.take i)
  rw [List.length_take] at hsl
  generalize hx : q[i] = x at *
  have hlx := low_nat x
  refine jk (jn (jv3 0 3 4 ?_))
  refine js (jb (js (jr (jm ?_))))
  refine jm ?_
  refine Ops.r (Run.indexT _ rfl rfl Tryz.underlying9 hgx) rfl ?_
  refine ja ?_
  refine jo (jn (jv4 0 3 4 5 ?_))
  refine js (js ?_)
  refine VC.split1 [(0, _), (3, _), (4, _), (5, _)] (js4 rfl rfl rfl rfl) 20 (.bool (decide ((65 ≤ x.toNat) ∧ (x.toNat ≤ 90)))) ?_ ?_
  ·
   by_cases hs0 : 65 ≤ x.toNat
   ·
    refine jr (jm ?_)
    refine Ops.r (Run.bin rfl rfl (Bin.leqN 65 _)) rfl ?_
    refine jm ?_
    refine jg ?_
    refine Ops.rg rfl au (Run.bin rfl rfl (Bin.leqN _ 90)) rfl ?_
    refine Ops.r (Run.pickT rfl rfl au) rfl ?_
    refine jo ?_
    refine jn ⟨(js5 (by rw [dand1 hs0]; rfl) rfl rfl rfl rfl), rfl⟩
   ·
    refine jr (jm ?_)
    refine Ops.r (Run.bin rfl rfl (Bin.leqN 65 _)) rfl ?_
    refine jm ?_
    refine ju ?_
    refine ju ?_
    refine Ops.r (Run.pickF rfl rfl au) rfl ?_
    refine jo ?_
    refine jn ⟨(js5 (by rw [dand0 hs0]; rfl) rfl rfl rfl rfl), rfl⟩
  ·
   intro Γ hΓ
   refine jn (VC.sub _ hΓ ?_)
   refine VC.meet (σ := Unit) (fun s => [(0, encStr q), (3, encStr (smallS (q.take i))), (4, .int .i64 ((i : Nat) : Int)), (5, .int .u8 (((low x).toNat : Nat) : Int))]) (fun s wr => Frm [] w wr) ?_ ?_
   ·
    refine VC.condD rfl (fun hc2 => ?_) (fun hc2 => ?_)
    ·
     refine jr (jm ?_)
     refine Ops.r (Run.bin rfl rfl (Bin.add_u8 _ 32 (by omega))) rfl ?_
     refine ja ?_
     refine jo ?_
     refine jn ⟨(), (js4 rfl rfl rfl (by rw [hlx, if_pos hc2]; rfl)), ?_⟩
     exact K
    ·
     refine jk ?_
     refine jn ⟨(), (js4 rfl rfl rfl (by rw [hlx, if_neg hc2]; rfl)), ?_⟩
     exact K
   ·
    rintro _ wr K Γ hΓ
    refine jn (VC.sub _ hΓ ?_)
    refine jr (jm ?_)
    refine jm ?_
    refine Ops.m (Does.buildS1 rfl Tryz.underlying22 Tryz.sizeOf5 zero5 (by decide) (by decide) rfl rfl) rfl ?_
    rintro _ w2 ⟨rfl, hF2⟩
    have K2 := K.trans hF2.frm (by simp)
    refine Ops.r (Run.strOfT rfl Tryz.underlying22 Tryz.underlying5 Tryz.underlying9 (show Rd w2 1 (some ⟨wr.heap.size, 0, none⟩) 1 (U8 [low x]) from Rd.of_blk (n := 1) (size := 1) hF2.blk rfl)) rfl ?_
    refine Ops.r (Run.addT rfl rfl (by simp; omega)) rfl ?_
    refine ja ?_
    refine jo ?_
    refine blockQ_n (jn ?_)
    refine jv3 0 3 4 ?_
    refine jr (jm ?_)
    refine Ops.r (Run.bin rfl rfl (Bin.add_i64 _ 1 (by omega))) rfl ?_
    refine ja ?_
    refine jo ?_
    refine jn ⟨(i + 1), (js3 rfl (by rw [hts]; simp only [smallS, List.map_append, List.map_cons, List.map_nil]; rfl) rfl), ?_, ?_⟩
    ·
     exact ⟨hc1, K2⟩
    ·
     first | omega | (dsimp only; omega)
 ·
  have hil : i = q.length := by omega
  subst hil
  rw [List.take_length]
  refine jx ?_
  refine thenQ_x (thenQ_x (blockQ_x ?_))
  refine jn (jv1 3 ?_)
  refine js (jr (jm ?_))
  refine ja ?_
  refine jo (jn (jv1 2 ?_))
  refine jt ?_
  refine end1 rfl ?_
  exact ⟨rfl, K⟩
set_option maxRecDepth 100000 in
theorem rleft_spec (q : Tx) (w : World) (hq : q.length ≤ 1000000) : Calls Tryz.prog 187 #[encStr q] w fun e w' => e = .returned (encStr (leftB q)) ∧ w = w' := by
 refine VC.calls (nt := 19) (res := #[.tmp 2]) Tryz.func187 rfl Tryz.ntmps187 Tryz.results187 rfl ?_
 refine js (jr (ja ?_))
 refine jo (jn (jv1 0 ?_))
 refine js (jb ?_)
 refine VC.loop (σ := Tx) (fun s => [(0, encStr s)]) (fun s wr => leftB s = leftB q ∧ s.length ≤ q.length ∧ w = wr) (fun s => s.length) q (js1 rfl) ⟨rfl, Nat.le_refl _, rfl⟩ ?_
 rintro r _ ⟨hr, hrl, rfl⟩
 refine js (js ?_)
 refine VC.split1 [(0, _)] (js1 rfl) 15 (.bool (decide (hdB r = true))) ?_ ?_
 ·
  refine jr ?_
  refine jm ?_
  refine Ops.r (Run.lenT rfl Tryz.underlying9) rfl ?_
  refine Ops.r (Run.bin rfl rfl (Bin.gtrN _ 0)) rfl ?_
  by_cases hs5 : 0 < r.length
  ·
   obtain ⟨y, r2, rfl⟩ : ∃ y r2, r = y :: r2 := by
    cases r with
    | nil => exact absurd hs5 (by simp)
    | cons a r => exact ⟨a, r, rfl⟩
   have hyb := bl_nat y
   have hhd : hdB (y :: r2) = decide (Bl y) := rfl
   refine jm ?_
   refine jg ?_
   refine Ops.rg rfl au (Run.indexT 0 rfl rfl Tryz.underlying9 rfl) rfl ?_
   refine Ops.rg rfl au (Run.bin rfl rfl (Bin.eqlN _ 32)) rfl ?_
   by_cases hs9 : y.toNat = 32
   ·
    refine jg ?_
    refine ju ?_
    refine ju ?_
    refine ju ?_
    refine Ops.rg rfl au (Run.pickT rfl rfl au) rfl ?_
    refine Ops.r (Run.pickT rfl rfl au) rfl ?_
    refine jo ?_
    refine jn ⟨(js2 (jc (by first | rfl | (rw [hhd]; first | exact (decide_eq_decide.2 (by rw [decide_eq_true_eq, hyb]; omega)) | (symm; exact decide_eq_true (decide_eq_true (hyb.2 (by omega))))))) rfl), rfl⟩
   ·
    refine jg ?_
    refine jg ?_
    refine Ops.rg rfl au (Run.indexT 0 rfl rfl Tryz.underlying9 rfl) rfl ?_
    refine Ops.rg rfl au (Run.bin rfl rfl (Bin.eqlN _ 9)) rfl ?_
    by_cases hs13 : y.toNat = 9
    ·
     refine Ops.rg rfl au (Run.pickF rfl rfl au) rfl ?_
     refine Ops.r (Run.pickT rfl rfl au) rfl ?_
     refine jo ?_
     refine jn ⟨(js2 (jc (by first | rfl | (rw [hhd]; first | exact (decide_eq_decide.2 (by rw [decide_eq_true_eq, hyb]; omega)) | (symm; exact decide_eq_true (decide_eq_true (hyb.2 (by omega))))))) rfl), rfl⟩
    ·
     refine Ops.rg rfl au (Run.pickF rfl rfl au) rfl ?_
     refine Ops.r (Run.pickT rfl rfl au) rfl ?_
     refine jo ?_
     refine jn ⟨(js2 (jc (by first | rfl | (rw [hhd]; first | exact (decide_eq_decide.2 (by rw [decide_eq_true_eq, hyb]; omega)) | (symm; exact decide_eq_true (decide_eq_true (hyb.2 (by omega))))))) rfl), rfl⟩
  ·
   have hre : r = [] := by
    cases r with
    | nil => rfl
    | cons a r => exact absurd (by simp) hs5
   subst hre
   refine jm ?_
   refine ju ?_
   refine ju ?_
   refine ju ?_
   refine ju ?_
   refine Ops.skU rfl rfl ?_
   refine Ops.skU rfl rfl ?_
   refine Ops.skU rfl rfl ?_
   refine ju ?_
   refine Ops.r (Run.pickF rfl rfl au) rfl ?_
   refine jo ?_
   refine jn ⟨(js2 (jc (by first | rfl | (rw [hhd]; first | exact (decide_eq_decide.2 (by rw [decide_eq_true_eq, hyb]; omega)) | (symm; exact decide_eq_true (decide_eq_true (hyb.2 (by omega))))))) rfl), rfl⟩
 ·
  intro Γ hΓ
  refine jn (VC.sub _ hΓ ?_)
  refine VC.condD rfl (fun hc1 => ?_) (fun hc1 => ?_)
  ·
   obtain ⟨x, r, rfl⟩ : ∃ x r2, r = x :: r2 := by
    cases r with
    | nil => exact absurd hc1 (by simp [hdB])
    | cons a r => exact ⟨a, r, rfl⟩
   have hbx : Bl x := of_decide_eq_true hc1
   have hrx : leftB (x :: r) = if Bl x then leftB r else x :: r := rfl
   refine jk (jn (jv1 0 ?_))
   refine jb (jr (jm ?_))
   refine Ops.r (Run.sliceT 1 (x :: r).length rfl Tryz.underlying9 (evB.some_ rfl) evB.none_ (by simp) (by simp)) rfl ?_
   refine ja ?_
   refine jo ?_
   refine blockQ_n (jn ⟨r, (js1 (by simp; rfl)), ?_, ?_⟩)
   ·
    rw [hrx, if_pos hbx] at hr
    exact ⟨hr, by simp at hrl; omega, rfl⟩
   ·
    simp
  ·
   refine jx ?_
   refine thenQ_x (thenQ_x (blockQ_x ?_))
   refine jn (jv1 0 ?_)
   refine js (jr (jm ?_))
   refine ja ?_
   refine jo (jn (jv1 2 ?_))
   refine jt ?_
   refine end1 rfl ?_
   refine ⟨?_, rfl⟩
   have : leftB r = r := by
    cases r with
    | nil => rfl
    | cons a r => rw [leftB, if_neg (fun h => hc1 (decide_eq_true h))]
   rw [← hr, this]
set_option maxRecDepth 100000 in
theorem rtrim_spec (q : Tx) (w : World) (hq : q.length ≤ 1000000) : Calls Tryz.prog 146 #[encStr q] w fun e w' => e = .returned (encStr (trimQ q)) ∧ w = w' := by
 refine VC.calls (nt := 30) (res := #[.tmp 2]) Tryz.func146 rfl Tryz.ntmps146 Tryz.results146 rfl ?_
 refine js (jr (ja ?_))
 refine jo (jn (jv1 0 ?_))
 refine js (jr (jm ?_))
 refine Ops.cl (Enters.fn (evs.cons rfl evs.nil) Tryz.call187) (rleft_spec q _ hq) rfl ?_
 rintro e _ ⟨rfl, rfl⟩
 refine ⟨_, rfl, ?_⟩
 have hql := leftB_le q
 have hcm := trim_comm q
 generalize hq1 : leftB q = q1 at *
 refine ja ?_
 refine jo (jn (jv1 0 ?_))
 refine js (jb ?_)
 refine VC.loop (σ := Tx) (fun s => [(0, encStr s)]) (fun s wr => rightB s = rightB q1 ∧ s.length ≤ q.length ∧ w = wr) (fun s => s.length) q1 (js1 rfl) ⟨rfl, hql, rfl⟩ ?_
 rintro r _ ⟨hr, hrl, rfl⟩
 refine js (js ?_)
 refine VC.split1 [(0, _)] (js1 rfl) 23 (.bool (decide (hdB r.reverse = true))) ?_ ?_
 ·
  refine jr ?_
  refine jm ?_
  refine Ops.r (Run.lenT rfl Tryz.underlying9) rfl ?_
  refine Ops.r (Run.bin rfl rfl (Bin.gtrN _ 0)) rfl ?_
  by_cases hs7 : 0 < r.length
  ·
   obtain ⟨r2, y, rfl⟩ : ∃ r2 y, r = r2 ++ [y] := ⟨r.dropLast, r.getLast (fun h => by subst h; simp at hs7), (List.dropLast_concat_getLast _).symm⟩
   have hyb := bl_nat y
   have hlx : (r2 ++ [y]).length = r2.length + 1 := by simp
   have hhd : hdB (r2 ++ [y]).reverse = decide (Bl y) := by rw [List.reverse_append]; rfl
   have hgl : (r2 ++ [y])[(r2 ++ [y]).length - 1]? = some y := by rw [hlx]; simp
   refine jm ?_
   refine jg ?_
   refine jg ?_
   refine Ops.rg rfl au (Run.lenT rfl Tryz.underlying9) rfl ?_
   refine Ops.rg rfl au (Run.bin rfl rfl (Bin.subN (r2 ++ [y]).length 1 (by omega) (by simp [bmax]; omega))) rfl ?_
   refine Ops.rg rfl au (Run.indexT _ rfl rfl Tryz.underlying9 hgl) rfl ?_
   refine Ops.rg rfl au (Run.bin rfl rfl (Bin.eqlN _ 32)) rfl ?_
   by_cases hs14 : y.toNat = 32
   ·
    refine jg ?_
    refine ju ?_
    refine ju ?_
    refine ju ?_
    refine ju ?_
    refine ju ?_
    refine ju ?_
    refine Ops.rg rfl au (Run.pickT rfl rfl au) rfl ?_
    refine Ops.r (Run.pickT rfl rfl au) rfl ?_
    refine jo ?_
    refine jn ⟨(js2 (jc (by first | rfl | (rw [hhd]; first | exact (decide_eq_decide.2 (by rw [decide_eq_true_eq, hyb]; omega)) | (symm; exact decide_eq_true (decide_eq_true (hyb.2 (by omega))))))) rfl), rfl⟩
   ·
    refine jg ?_
    refine jg ?_
    refine jg ?_
    refine Ops.rg rfl au (Run.lenT rfl Tryz.underlying9) rfl ?_
    refine Ops.rg rfl au (Run.bin rfl rfl (Bin.subN (r2 ++ [y]).length 1 (by omega) (by simp [bmax]; omega))) rfl ?_
    refine Ops.rg rfl au (Run.indexT _ rfl rfl Tryz.underlying9 hgl) rfl ?_
    refine Ops.rg rfl au (Run.bin rfl rfl (Bin.eqlN _ 9)) rfl ?_
    by_cases hs21 : y.toNat = 9
    ·
     refine Ops.rg rfl au (Run.pickF rfl rfl au) rfl ?_
     refine Ops.r (Run.pickT rfl rfl au) rfl ?_
     refine jo ?_
     refine jn ⟨(js2 (jc (by first | rfl | (rw [hhd]; first | exact (decide_eq_decide.2 (by rw [decide_eq_true_eq, hyb]; omega)) | (symm; exact decide_eq_true (decide_eq_true (hyb.2 (by omega))))))) rfl), rfl⟩
    ·
     refine Ops.rg rfl au (Run.pickF rfl rfl au) rfl ?_
     refine Ops.r (Run.pickT rfl rfl au) rfl ?_
     refine jo ?_
     refine jn ⟨(js2 (jc (by first | rfl | (rw [hhd]; first | exact (decide_eq_decide.2 (by rw [decide_eq_true_eq, hyb]; omega)) | (symm; exact decide_eq_true (decide_eq_true (hyb.2 (by omega))))))) rfl), rfl⟩
  ·
   have hre : r = [] := by
    cases r with
    | nil => rfl
    | cons a r => exact absurd (by simp) hs7
   subst hre
   refine jm ?_
   refine ju ?_
   refine ju ?_
   refine ju ?_
   refine ju ?_
   refine ju ?_
   refine ju ?_
   refine ju ?_
   refine Ops.skU rfl rfl ?_
   refine Ops.skU rfl rfl ?_
   refine Ops.skU rfl rfl ?_
   refine Ops.skU rfl rfl ?_
   refine Ops.skU rfl rfl ?_
   refine Ops.skU rfl rfl ?_
   refine ju ?_
   refine Ops.r (Run.pickF rfl rfl au) rfl ?_
   refine jo ?_
   refine jn ⟨(js2 (jc (by first | rfl | (rw [hhd]; first | exact (decide_eq_decide.2 (by rw [decide_eq_true_eq, hyb]; omega)) | (symm; exact decide_eq_true (decide_eq_true (hyb.2 (by omega))))))) rfl), rfl⟩
 ·
  intro Γ hΓ
  refine jn (VC.sub _ hΓ ?_)
  refine VC.condD rfl (fun hc1 => ?_) (fun hc1 => ?_)
  ·
   obtain ⟨r, x, rfl⟩ : ∃ r2 x, r = r2 ++ [x] := ⟨r.dropLast, r.getLast (fun h => by subst h; simp [hdB] at hc1), (List.dropLast_concat_getLast _).symm⟩
   have hbx : Bl x := by rw [List.reverse_append] at hc1; exact of_decide_eq_true hc1
   have hrx := rightB_snoc r x
   have hlx : (r ++ [x]).length = r.length + 1 := by simp
   refine jk (jn (jv1 0 ?_))
   refine jb (jr (jm ?_))
   refine jm ?_
   refine Ops.r (Run.lenT rfl Tryz.underlying9) rfl ?_
   refine Ops.r (Run.bin rfl rfl (Bin.subN (r ++ [x]).length 1 (by omega) (by simp [bmax]; omega))) rfl ?_
   refine Ops.r (Run.sliceT 0 ((r ++ [x]).length - 1) rfl Tryz.underlying9 evB.none_ (evB.some_ rfl) (by omega) (show (r ++ [x]).length - 1 ≤ (r ++ [x]).length by omega)) rfl ?_
   refine ja ?_
   refine jo ?_
   refine blockQ_n (jn ⟨r, (js1 (by rw [show (((r ++ [x]).drop 0).take ((r ++ [x]).length - 1 - 0)) = r by rw [hlx]; simp]; rfl)), ?_, ?_⟩)
   ·
    rw [hrx, if_pos hbx] at hr
    exact ⟨hr, by omega, rfl⟩
   ·
    simp
  ·
   refine jx ?_
   refine thenQ_x (thenQ_x (blockQ_x ?_))
   refine jn (jv1 0 ?_)
   refine js (jr (jm ?_))
   refine ja ?_
   refine jo (jn (jv1 2 ?_))
   refine jt ?_
   refine end1 rfl ?_
   refine ⟨?_, rfl⟩
   have hrr : rightB r = r := by
    by_cases h : r = []
    ·
     subst h; rfl
    ·
     obtain ⟨r2, x, rfl⟩ : ∃ r2 x, r = r2 ++ [x] := ⟨r.dropLast, r.getLast h, (List.dropLast_concat_getLast _).symm⟩
     rw [rightB_snoc, if_neg (fun hb => hc1 (by rw [List.reverse_append]; exact decide_eq_true hb))]
   unfold trimQ
   rw [← hcm, ← hr, hrr]
set_option maxRecDepth 100000 in
theorem rat_spec (q : Tx) (c : UInt8) (w : World) (hq : q.length ≤ 1000000) : Calls Tryz.prog 147 #[encStr q, .int .u8 ((c.toNat : Nat) : Int)] w fun e w' => e = .returned (.int .i64 (Lib.indexByte q c)) ∧ w = w' := by
 refine VC.calls (nt := 18) (res := #[.tmp 4]) Tryz.func147 rfl Tryz.ntmps147 Tryz.results147 rfl ?_
 refine js (jr ?_)
 refine Ops.r (v := .int .i64 ((0 : Nat) : Int)) (Run.asg rfl) rfl ?_
 refine jo (jn (jv2 0 1 ?_))
 refine js (js (jr ?_))
 refine Ops.r (v := .int .i64 ((0 : Nat) : Int)) (Run.asg rfl) rfl ?_
 refine jo (jn (jb ?_))
 refine VC.loop (σ := Nat) (fun s => [(0, encStr q), (1, .int .u8 ((c.toNat : Nat) : Int)), (5, .int .i64 ((s : Nat) : Int))]) (fun s wr => s ≤ q.length ∧ c ∉ q.take s ∧ w = wr) (fun s => q.length - s) 0 (js3 rfl rfl rfl) ⟨by omega, by simp, rfl⟩ ?_
 rintro i _ ⟨hi, hno, rfl⟩
 refine js (js (jr (jm ?_)))
 refine jm ?_
 refine Ops.r (Run.lenT rfl Tryz.underlying9) rfl ?_
 refine Ops.r (Run.bin rfl rfl (Bin.lssN _ _)) rfl ?_
 refine jo (jn (jv4 0 1 5 9 ?_))
 refine VC.condD rfl (fun hc1 => ?_) (fun hc1 => ?_)
 ·
  have hts := take_snoc hc1
  have hgx : q[i]? = some q[i] := List.getElem?_eq_getElem hc1
  have hsp : q = q.take i ++ q[i] :: q.drop (i + 1) := by rw [← drop_cons hc1, List.take_append_drop]
  have htl : (q.take i).length = i := by rw [List.length_take]; omega
  generalize hx : q[i] = x at *
  refine jk (jn (jv3 0 1 5 ?_))
  refine js (jb (js (jr (jm ?_))))
  refine jm ?_
  refine Ops.r (Run.indexT _ rfl rfl Tryz.underlying9 hgx) rfl ?_
  refine jm ?_
  refine Ops.r (Run.bin rfl rfl (Bin.eqlN _ _)) rfl ?_
  refine jo (jn (jv4 0 1 5 16 ?_))
  refine VC.condD rfl (fun hc2 => ?_) (fun hc2 => ?_)
  ·
   refine js (jr (jm ?_))
   refine ja ?_
   refine jo (jn (jv1 4 ?_))
   refine jt ?_
   refine blockQ_r (thenQ_r (thenQ_r (blockQ_r (thenQ_r (end1 rfl ?_)))))
   refine ⟨?_, rfl⟩
   obtain rfl : x = c := UInt8.toNat_inj.1 hc2
   have := idxB_app (b := q.drop (i + 1)) hno
   rw [← hsp, htl] at this
   rw [this]
  ·
   refine jk ?_
   refine blockQ_n (jn ?_)
   refine jv3 0 1 5 ?_
   refine jr (jm ?_)
   refine Ops.r (Run.bin rfl rfl (Bin.add_i64 _ 1 (by omega))) rfl ?_
   refine ja ?_
   refine jo ?_
   refine jn ⟨(i + 1), (js3 rfl rfl rfl), ?_, ?_⟩
   ·
    refine ⟨hc1, ?_, rfl⟩
    rw [hts, List.mem_append, List.mem_singleton]
    rintro (h | rfl)
    ·
     exact hno h
    ·
     exact hc2 rfl
   ·
    first | omega | (dsimp only; omega)
 ·
  refine jx ?_
  refine thenQ_x (thenQ_x (blockQ_x ?_))
  refine jn ?_
  refine VC.sub [] .nil ?_
  refine js (jr ?_)
  refine Ops.r (v := .int .i64 (-1)) (Run.asg rfl) rfl ?_
  refine jo (jn (jt ?_))
  refine end1 rfl ?_
  refine ⟨?_, rfl⟩
  have hil : i = q.length := by omega
  subst hil
  rw [List.take_length] at hno
  rcases idxB_cases q c with ⟨h1, _⟩ | ⟨a, b, h1, _, _⟩
  ·
   rw [h1]
  ·
   exact absurd (by rw [h1]; simp) hno
end Go.Proofs.YtenbjndldenkfaaGreatDoor
namespace Go.Proofs.YtenbjndldenkfaaGreatDoor
open Go.RowKit Go.Sort
set_option maxRecDepth 100000 in
theorem rvalue_spec (q : Tx) (w : World) (hq : q.length ≤ 1000000) : Calls Tryz.prog 149 #[encStr q] w fun e w' => e = .returned (encStr (valQ q)) ∧ w = w' := by
 refine VC.calls (nt := 69) (res := #[.tmp 2]) Tryz.func149 rfl Tryz.ntmps149 Tryz.results149 rfl ?_
 refine js (jr (ja ?_))
 refine jo (jn (jv1 0 ?_))
 refine js (jr (jm ?_))
 refine Ops.cl (Enters.fn (evs.cons rfl evs.nil) Tryz.call187) (rleft_spec q _ hq) rfl ?_
 rintro e _ ⟨rfl, rfl⟩
 refine ⟨_, rfl, ?_⟩
 have hql := leftB_le q
 have hv : valQ q = match leftB q with | [] => [] | x :: r => if x = 34 then unq r else noB (x :: r) := rfl
 generalize hq1 : leftB q = q1 at *
 refine ja ?_
 refine jo (jn (jv1 0 ?_))
 refine js (jr (ja ?_))
 refine jo (jn (js (js (jr (jm ?_)))))
 refine Ops.r (Run.eqlT rfl rfl) rfl ?_
 refine jo (jn (jv3 0 3 9 ?_))
 refine VC.condD rfl (fun hc1 => ?_) (fun hc1 => ?_)
 ·
  subst hc1
  refine js (jr (ja ?_))
  refine jo (jn (jv1 2 ?_))
  refine jt ?_
  refine thenQ_r (end1 rfl ?_)
  exact ⟨by rw [hv], rfl⟩
 ·
  obtain ⟨y, r2, rfl⟩ : ∃ y r2, q1 = y :: r2 := by
   cases q1 with
   | nil => exact absurd rfl hc1
   | cons a r => exact ⟨a, r, rfl⟩
  have hv : valQ q = if y = 34 then unq r2 else noB (y :: r2) := hv
  have hyl : (y :: r2).length = r2.length + 1 := rfl
  refine jk (jn (jv2 0 3 ?_))
  refine js (js (jr (jm ?_)))
  refine Ops.r (Run.indexT 0 rfl rfl Tryz.underlying9 rfl) rfl ?_
  refine Ops.r (Run.bin rfl rfl (Bin.neqN _ 34)) rfl ?_
  refine jo (jn (jv3 0 3 12 ?_))
  refine VC.condD rfl (fun hc2 => ?_) (fun hc2 => ?_)
  ·
   rw [if_neg (fun h => hc2 (by rw [h]; rfl))] at hv
   refine js (js (jr ?_))
   refine Ops.r (v := .int .i64 ((0 : Nat) : Int)) (Run.asg rfl) rfl ?_
   refine jo (jn (jv3 0 3 4 ?_))
   refine jb ?_
   refine VC.loop (σ := Nat) (fun s => [(0, encStr (y :: r2)), (3, encStr ((y :: r2).take s)), (4, .int .i64 ((s : Nat) : Int))]) (fun s wr => s ≤ (y :: r2).length ∧ (∀ c ∈ (y :: r2).take s, ¬ Bl c) ∧ w = wr) (fun s => (y :: r2).length - s) 0 (js3 rfl rfl rfl) ⟨by omega, by simp, rfl⟩ ?_
   rintro i _ ⟨hi, hno, rfl⟩
   have hltk : ((y :: r2).take i).length = i := by rw [List.length_take]; omega
   refine js (js ?_)
   refine VC.split1 [(0, _), (3, _), (4, _)] (js3 rfl rfl rfl) 28 (.bool (decide (hdN ((y :: r2).drop i) = true))) ?_ ?_
   ·
    refine jr ?_
    refine jm ?_
    refine jm ?_
    refine Ops.r (Run.lenT rfl Tryz.underlying9) rfl ?_
    refine Ops.r (Run.bin rfl rfl (Bin.lssN _ _)) rfl ?_
    by_cases hs16 : i < (y :: r2).length
    ·
     have hgx : (y :: r2)[i]? = some (y :: r2)[i] := List.getElem?_eq_getElem hs16
     have hhd : hdN ((y :: r2).drop i) = decide (¬ Bl (y :: r2)[i]) := by rw [drop_cons hs16]; rfl
     generalize hz : (y :: r2)[i] = z at *
     have hzb := bl_nat z
     refine jm ?_
     refine jg ?_
     refine jg ?_
     refine Ops.rg rfl au (Run.indexT _ rfl rfl Tryz.underlying9 hgx) rfl ?_
     refine Ops.rg rfl au (Run.bin rfl rfl (Bin.neqN _ 32)) rfl ?_
     by_cases hs21 : z.toNat ≠ 32
     ·
      refine Ops.r (Run.pickT rfl rfl au) rfl ?_
      refine jm ?_
      refine jg ?_
      refine jg ?_
      refine Ops.rg rfl au (Run.indexT _ rfl rfl Tryz.underlying9 hgx) rfl ?_
      refine Ops.rg rfl au (Run.bin rfl rfl (Bin.neqN _ 9)) rfl ?_
      by_cases hs27 : z.toNat ≠ 9
      ·
       refine Ops.r (Run.pickT rfl rfl au) rfl ?_
       refine jo ?_
       refine jn ⟨(js4 (jc (by first | (rw [hhd]; rfl) | (rw [hhd]; first | exact (decide_eq_decide.2 (by rw [decide_eq_true_eq, hzb]; omega)) | (symm; exact decide_eq_false (fun h => by rw [decide_eq_true_eq, hzb] at h; omega))))) rfl rfl rfl), rfl⟩
      ·
       refine Ops.r (Run.pickT rfl rfl au) rfl ?_
       refine jo ?_
       refine jn ⟨(js4 (jc (by first | (rw [hhd]; rfl) | (rw [hhd]; first | exact (decide_eq_decide.2 (by rw [decide_eq_true_eq, hzb]; omega)) | (symm; exact decide_eq_false (fun h => by rw [decide_eq_true_eq, hzb] at h; omega))))) rfl rfl rfl), rfl⟩
     ·
      refine Ops.r (Run.pickT rfl rfl au) rfl ?_
      refine jm ?_
      refine ju ?_
      refine ju ?_
      refine ju ?_
      refine ju ?_
      refine Ops.r (Run.pickF rfl rfl au) rfl ?_
      refine jo ?_
      refine jn ⟨(js4 (jc (by first | (rw [hhd]; rfl) | (rw [hhd]; first | exact (decide_eq_decide.2 (by rw [decide_eq_true_eq, hzb]; omega)) | (symm; exact decide_eq_false (fun h => by rw [decide_eq_true_eq, hzb] at h; omega))))) rfl rfl rfl), rfl⟩
    ·
     have hhd : hdN ((y :: r2).drop i) = false := by rw [List.drop_eq_nil_of_le (by omega)]; rfl
     refine jm ?_
     refine ju ?_
     refine ju ?_
     refine ju ?_
     refine ju ?_
     refine Ops.r (Run.pickF rfl rfl au) rfl ?_
     refine jm ?_
     refine ju ?_
     refine ju ?_
     refine ju ?_
     refine ju ?_
     refine Ops.r (Run.pickF rfl rfl au) rfl ?_
     refine jo ?_
     refine jn ⟨(js4 (jc (by first | (rw [hhd]; rfl) | (rw [hhd]; first | exact (decide_eq_decide.2 (by rw [decide_eq_true_eq, hzb]; omega)) | (symm; exact decide_eq_false (fun h => by rw [decide_eq_true_eq, hzb] at h; omega))))) rfl rfl rfl), rfl⟩
   ·
    intro Γ hΓ
    refine jn (VC.sub _ hΓ ?_)
    refine VC.condD rfl (fun hc3 => ?_) (fun hc3 => ?_)
    ·
     have hil : i < (y :: r2).length := Nat.lt_of_not_le fun h => by rw [List.drop_eq_nil_of_le h] at hc3; cases hc3
     have hts := take_snoc hil
     have hgx : (y :: r2)[i]? = some (y :: r2)[i] := List.getElem?_eq_getElem hil
     have hto := take_one hil
     have hzb : ¬ Bl (y :: r2)[i] := by rw [drop_cons hil] at hc3; exact of_decide_eq_true hc3
     generalize hz : (y :: r2)[i] = z at *
     refine jk (jn (jv3 0 3 4 ?_))
     refine js (jb (jr (jm ?_)))
     refine jm ?_
     refine jm ?_
     refine jm ?_
     refine Ops.r (Run.bin rfl rfl (Bin.add_i64 _ 1 (by omega))) rfl ?_
     refine Ops.r (Run.sliceT i (i + 1) rfl Tryz.underlying9 (evB.some_ rfl) (evB.some_ rfl) (by omega) (by omega)) rfl ?_
     rw [hto]
     refine Ops.r (Run.addT rfl rfl (by simp; omega)) rfl ?_
     refine ja ?_
     refine jo ?_
     refine blockQ_n (jn ?_)
     refine jv3 0 3 4 ?_
     refine jr (jm ?_)
     refine Ops.r (Run.bin rfl rfl (Bin.add_i64 _ 1 (by omega))) rfl ?_
     refine ja ?_
     refine jo ?_
     refine jn ⟨(i + 1), (js3 rfl (by rw [hts]; rfl) rfl), ?_, ?_⟩
     ·
      refine ⟨hil, fun c hc => ?_, rfl⟩
      rw [hts] at hc
      rcases List.mem_append.1 hc with h | h
      ·
       exact hno c h
      ·
       simp only [List.mem_singleton] at h; subst h; exact hzb
     ·
      first | omega | (dsimp only; omega)
    ·
     have hfin : noB (y :: r2) = (y :: r2).take i := by
      by_cases hil : i < (y :: r2).length
      ·
       refine noB_take hil hno (fun c hc => ?_)
       rw [List.getElem?_eq_getElem hil] at hc
       cases hc
       rw [drop_cons hil] at hc3
       exact Classical.byContradiction fun h => hc3 (decide_eq_true h)
      ·
       rw [List.take_of_length_le (by omega)] at hno ⊢
       exact noB_all hno
     refine jx ?_
     refine thenQ_x (thenQ_x (blockQ_x ?_))
     refine jn (jv1 3 ?_)
     refine js (jr (jm ?_))
     refine ja ?_
     refine jo (jn (jv1 2 ?_))
     refine jt ?_
     refine thenQ_r (end1 rfl ?_)
     exact ⟨by rw [hv, hfin], rfl⟩
  ·
   rw [if_pos (UInt8.toNat_inj.1 (Classical.not_not.1 hc2))] at hv
   refine jk (jn (jv2 0 3 ?_))
   refine js (js (jr ?_))
   refine Ops.r (v := .int .i64 ((1 : Nat) : Int)) (Run.asg rfl) rfl ?_
   refine jo (jn (jb ?_))
   refine VC.loop (σ := Nat × Tx) (fun s => [(0, encStr (y :: r2)), (3, encStr s.2), (5, .int .i64 ((s.1 : Nat) : Int))]) (fun s wr => s.1 ≤ (y :: r2).length ∧ unq r2 = s.2 ++ unq ((y :: r2).drop s.1) ∧ s.2.length ≤ s.1 ∧ w = wr) (fun s => (y :: r2).length - s.1) (1, []) (js3 rfl rfl rfl) ⟨by simp, rfl, by simp, rfl⟩ ?_
   rintro ⟨i, b⟩ _ ⟨hi, hu, hbl, rfl⟩
   dsimp only at hi hu hbl ⊢
   refine js (js (jr (jm ?_)))
   refine jm ?_
   refine Ops.r (Run.lenT rfl Tryz.underlying9) rfl ?_
   refine Ops.r (Run.bin rfl rfl (Bin.lssN _ _)) rfl ?_
   refine jo (jn (jv4 0 3 5 42 ?_))
   refine VC.condD rfl (fun hc4 => ?_) (fun hc4 => ?_)
   ·
    have hgx : (y :: r2)[i]? = some (y :: r2)[i] := List.getElem?_eq_getElem hc4
    have hdc := drop_cons hc4
    generalize hz : (y :: r2)[i] = z at *
    refine jk (jn (jv3 0 3 5 ?_))
    refine js (jb (js (js (jr (jm ?_)))))
    refine jm ?_
    refine Ops.r (Run.indexT _ rfl rfl Tryz.underlying9 hgx) rfl ?_
    refine Ops.r (Run.bin rfl rfl (Bin.eqlN _ 34)) rfl ?_
    refine jo (jn (jv4 0 3 5 48 ?_))
    refine VC.condD rfl (fun hc5 => ?_) (fun hc5 => ?_)
    ·
     have hfin : unq r2 = b := by rw [hu, hdc, UInt8.toNat_inj.1 (show z.toNat = (34 : UInt8).toNat from hc5), unq_end, List.append_nil]
     refine js (jr (jm ?_))
     refine ja ?_
     refine jo (jn (jv1 2 ?_))
     refine jt ?_
     refine thenQ_r (blockQ_r (thenQ_r (thenQ_r (blockQ_r (thenQ_r (end1 rfl ?_))))))
     exact ⟨by rw [hv, hfin], rfl⟩
    ·
     refine jk (jn (jv3 0 3 5 ?_))
     refine js (js (jr (jm ?_)))
     refine jm ?_
     refine Ops.r (Run.indexT _ rfl rfl Tryz.underlying9 hgx) rfl ?_
     refine Ops.r (Run.bin rfl rfl (Bin.eqlN _ 92)) rfl ?_
     refine jo (jn (jv4 0 3 5 53 ?_))
     refine VC.meet (σ := Nat) (fun s => [(0, encStr (y :: r2)), (3, encStr b), (5, .int .i64 ((s : Nat) : Int))]) (fun s wr => s < (y :: r2).length ∧ i ≤ s ∧ (∀ z, (y :: r2)[s]? = some z → unq r2 = b ++ z :: unq ((y :: r2).drop (s + 1))) ∧ w = wr) ?_ ?_
     ·
      refine VC.condD rfl (fun hc6 => ?_) (fun hc6 => ?_)
      ·
       have hz92 : z = 92 := UInt8.toNat_inj.1 hc6
       refine js (jr (jm ?_))
       refine Ops.r (Run.bin rfl rfl (Bin.add_i64 _ 1 (by omega))) rfl ?_
       refine ja ?_
       refine jo (jn (jv3 0 3 5 ?_))
       refine js (jr (jm ?_))
       refine jm ?_
       refine Ops.r (Run.lenT rfl Tryz.underlying9) rfl ?_
       refine Ops.r (Run.bin rfl rfl (Bin.eqlN _ _)) rfl ?_
       refine jo (jn (jv4 0 3 5 59 ?_))
       refine VC.condD rfl (fun hc7 => ?_) (fun hc7 => ?_)
       ·
        have hfin : unq r2 = b := by rw [hu, hdc, hz92, List.drop_eq_nil_of_le (by omega), unq_esc_end, List.append_nil]
        refine js (jr (jm ?_))
        refine ja ?_
        refine jo (jn (jv1 2 ?_))
        refine jt ?_
        refine thenQ_r (thenQ_r (blockQ_r (thenQ_r (thenQ_r (blockQ_r (thenQ_r (end1 rfl ?_)))))))
        exact ⟨by rw [hv, hfin], rfl⟩
       ·
        refine jk ?_
        refine jn ⟨(i + 1), (js3 rfl rfl rfl), ?_⟩
        have hj : i + 1 < (y :: r2).length := by omega
        refine ⟨hj, by omega, fun z2 hz2 => ?_, rfl⟩
        rw [List.getElem?_eq_getElem hj] at hz2
        cases hz2
        rw [hu, hdc, hz92, drop_cons hj, unq_esc]
      ·
       refine jk ?_
       refine jn ⟨i, (js3 rfl rfl rfl), ?_⟩
       refine ⟨hc4, by omega, fun z2 hz2 => ?_, rfl⟩
       rw [hgx] at hz2
       cases hz2
       rw [hu, hdc, unq_other (fun h => hc5 (by rw [h]; rfl)) (fun h => hc6 (by rw [h]; rfl))]
     ·
      rintro j _ ⟨hj, hij, huj, rfl⟩ Γ hΓ
      have hto := take_one hj
      have huj := huj _ (List.getElem?_eq_getElem hj)
      generalize hzj : (y :: r2)[j] = zj at *
      refine jn (VC.sub _ hΓ ?_)
      refine jr (jm ?_)
      refine jm ?_
      refine jm ?_
      refine jm ?_
      refine Ops.r (Run.bin rfl rfl (Bin.add_i64 _ 1 (by omega))) rfl ?_
      refine Ops.r (Run.sliceT j (j + 1) rfl Tryz.underlying9 (evB.some_ rfl) (evB.some_ rfl) (by omega) (by omega)) rfl ?_
      rw [hto]
      refine Ops.r (Run.addT rfl rfl (by simp; omega)) rfl ?_
      refine ja ?_
      refine jo ?_
      refine blockQ_n (jn ?_)
      refine jv3 0 3 5 ?_
      refine jr (jm ?_)
      refine Ops.r (Run.bin rfl rfl (Bin.add_i64 _ 1 (by omega))) rfl ?_
      refine ja ?_
      refine jo ?_
      refine jn ⟨(j + 1, b ++ [zj]), (js3 rfl rfl rfl), ?_, ?_⟩
      ·
       exact ⟨hj, by rw [huj]; simp, by simp; omega, rfl⟩
      ·
       simp only; omega
   ·
    have hfin : unq r2 = b := by rw [hu, List.drop_eq_nil_of_le (by omega)]; simp [unq]
    refine jx ?_
    refine thenQ_x (thenQ_x (blockQ_x ?_))
    refine jn (jv1 3 ?_)
    refine js (jr (jm ?_))
    refine ja ?_
    refine jo (jn (jv1 2 ?_))
    refine jt ?_
    refine end1 rfl ?_
    exact ⟨by rw [hv, hfin], rfl⟩
set_option maxRecDepth 100000 in
theorem rpieces_spec (q : Tx) (w : World) (hs : q.length ≤ 1000000) : Calls Tryz.prog 145 #[encStr q] w fun e w' => Frm [] w w' ∧ ∃ A d, e = .returned (.slice A (pcs false q).length d) ∧ Own w' 9 1 A (pcs false q).length d (SB (pcs false q)) ∧ ∀ x ∈ ob A, w.heap.size ≤ x := by
 refine VC.calls (nt := 69) (res := #[.tmp 2]) Tryz.func145 rfl Tryz.ntmps145 Tryz.results145 rfl ?_
 refine js (jr (ja ?_))
 refine jo (jn (jv1 0 ?_))
 refine js (jr ?_)
 refine Ops.m (Does.buildS1 rfl Tryz.underlying36 Tryz.sizeOf9 zero9 (by decide) (by decide) rfl rfl) rfl ?_
 rintro _ w1 ⟨rfl, hF1⟩
 have K := hF1.frm
 have hA : Own w1 9 1 (some ⟨w.heap.size, 0, none⟩) 1 1 (SB [[]]) := Own.of_blk (n := 1) hF1.blk rfl (by decide)
 have hub : ∀ x ∈ ob (some (⟨w.heap.size, 0, none⟩ : Addr)), w.heap.size ≤ x := by simp [ob]
 refine ja ?_
 refine jo (jn (jv2 0 3 ?_))
 refine js (jr (ja ?_))
 refine jo (jn (js (js (jr ?_))))
 refine Ops.r (v := .int .i64 ((0 : Nat) : Int)) (Run.asg rfl) rfl ?_
 refine jo (jn (jb ?_))
 refine VC.loop (σ := Nat × List Tx × Tx × Bool × Option Addr × Nat) (fun s => [(0, encStr q), (3, .slice s.2.2.2.2.1 (s.2.1 ++ [s.2.2.1]).length s.2.2.2.2.2), (4, .bool s.2.2.2.1), (5, .int .i64 ((s.1 : Nat) : Int))]) (fun s wr => s.1 ≤ q.length ∧ pcs false q = s.2.1 ++ gluP s.2.2.1 (pcs s.2.2.2.1 (q.drop s.1)) ∧ s.2.1.length ≤ s.1 ∧ s.2.2.1.length ≤ s.1 ∧ Own wr 9 1 s.2.2.2.2.1 (s.2.1 ++ [s.2.2.1]).length s.2.2.2.2.2 (SB (s.2.1 ++ [s.2.2.1])) ∧ (∀ x ∈ ob s.2.2.2.2.1, w.heap.size ≤ x) ∧ Frm [] w wr) (fun s => q.length - s.1) (0, [], [], false, some ⟨w.heap.size, 0, none⟩, 1) (js4 rfl rfl rfl rfl) ⟨by omega, by rw [List.drop_zero, List.nil_append, gluP_nil (pcs_ne _ q)], by simp, by simp, hA, hub, K⟩ ?_
 rintro ⟨i, a, b, qt, A, d⟩ wr ⟨hi, hsp, hal, hbl, hA, hub, K⟩
 dsimp only at hi hsp hal hbl hA hub ⊢
 have hwl : (a ++ [b]).length = a.length + 1 := by simp
 refine js (js (jr (jm ?_)))
 refine jm ?_
 refine Ops.r (Run.lenT rfl Tryz.underlying9) rfl ?_
 refine Ops.r (Run.bin rfl rfl (Bin.lssN _ _)) rfl ?_
 refine jo (jn (jv5 0 3 4 5 11 ?_))
 refine VC.condD rfl (fun hc1 => ?_) (fun hc1 => ?_)
 ·
  have hgx : q[i]? = some q[i] := List.getElem?_eq_getElem hc1
  have hdc := drop_cons hc1
  have hto := take_one hc1
  generalize hx : q[i] = x at *
  have hx92 : ([x] = ([92] : Tx)) ↔ x = 92 := by simp
  have hx34 : ([x] = ([34] : Tx)) ↔ x = 34 := by simp
  have hx59 : ([x] = ([59] : Tx)) ↔ x = 59 := by simp
  refine jk (jn (jv4 0 3 4 5 ?_))
  refine js (jb (js (jr (jm ?_))))
  refine jm ?_
  refine jm ?_
  refine Ops.r (Run.bin rfl rfl (Bin.add_i64 _ 1 (by omega))) rfl ?_
  refine Ops.r (Run.sliceT i (i + 1) rfl Tryz.underlying9 (evB.some_ rfl) (evB.some_ rfl) (by omega) (by omega)) rfl ?_
  rw [hto]
  refine ja ?_
  refine jo (jn (jv5 0 3 4 5 6 ?_))
  refine js (js ?_)
  refine VC.split1 [(0, _), (3, _), (4, _), (5, _), (6, _)] (js5 rfl rfl rfl rfl rfl) 30 (.bool (decide (qt = true ∧ x = 92 ∧ i + 1 < q.length))) ?_ ?_
  ·
   refine jr ?_
   refine jm ?_
   by_cases hs19 : qt = true
   ·
    refine jm ?_
    refine jg ?_
    refine Ops.rg rfl au (Run.eqlT rfl rfl) rfl ?_
    rw [show decide ([x] = ([92] : Tx)) = decide (x = 92) from decide_eq_decide.2 hx92]
    by_cases hs22 : x = 92
    ·
     refine Ops.r (Run.pickT rfl rfl au) rfl ?_
     refine jm ?_
     refine jg ?_
     refine Ops.rg rfl au (Run.bin rfl rfl (Bin.add_i64 _ 1 (by omega))) rfl ?_
     refine jg ?_
     refine Ops.rg rfl au (Run.lenT rfl Tryz.underlying9) rfl ?_
     refine Ops.rg rfl au (Run.bin rfl rfl (Bin.lssN _ _)) rfl ?_
     by_cases hs29 : i + 1 < q.length
     ·
      refine Ops.r (Run.pickT rfl rfl au) rfl ?_
      refine jo ?_
      refine jn ⟨(js6 (jc (by first | (simp [*]; done) | (simp_all; done))) rfl rfl rfl rfl rfl), rfl⟩
     ·
      refine Ops.r (Run.pickT rfl rfl au) rfl ?_
      refine jo ?_
      refine jn ⟨(js6 (jc (by first | (simp [*]; done) | (simp_all; done))) rfl rfl rfl rfl rfl), rfl⟩
    ·
     refine Ops.r (Run.pickT rfl rfl au) rfl ?_
     refine jm ?_
     refine ju ?_
     refine ju ?_
     refine ju ?_
     refine ju ?_
     refine ju ?_
     refine Ops.r (Run.pickF rfl rfl au) rfl ?_
     refine jo ?_
     refine jn ⟨(js6 (jc (by first | (simp [*]; done) | (simp_all; done))) rfl rfl rfl rfl rfl), rfl⟩
   ·
    refine jm ?_
    refine ju ?_
    refine ju ?_
    refine Ops.r (Run.pickF rfl rfl au) rfl ?_
    refine jm ?_
    refine ju ?_
    refine ju ?_
    refine ju ?_
    refine ju ?_
    refine ju ?_
    refine Ops.r (Run.pickF rfl rfl au) rfl ?_
    refine jo ?_
    refine jn ⟨(js6 (jc (by first | (simp [*]; done) | (simp_all; done))) rfl rfl rfl rfl rfl), rfl⟩
  ·
   intro Γ hΓ
   refine jn (VC.sub _ hΓ ?_)
   refine VC.condD rfl (fun hc2 => ?_) (fun hc2 => ?_)
   ·
    obtain ⟨rfl, rfl, hi2⟩ := hc2
    obtain ⟨ad, rfl, _⟩ := SB_at hA.rd (show a.length < (a ++ [b]).length by omega)
    have hdc2 := drop_cons hi2
    have hto2 : (q.drop i).take (i + 2 - i) = [92, q[i + 1]] := by rw [hdc, hdc2, show i + 2 - i = 2 by omega]; rfl
    generalize hx2 : q[i + 1] = x2 at *
    have hsp2 : pcs false q = a ++ gluP (b ++ [92, x2]) (pcs true (q.drop (i + 2))) := by rw [hsp, hdc, hdc2, pcs_esc, gluP_gluP]
    refine js ?_
    refine VC.held (fun _ => True) jK ?_
    refine jh 0 rfl trivial (fun w0 hw0 => Run.mv rfl) ?_
    refine jh 1 rfl trivial (fun w0 hw0 => Run.mv rfl) ?_
    refine jh 2 rfl trivial (fun w0 hw0 => Run.lenS rfl Tryz.underlying36) ?_
    refine jh 3 rfl trivial (fun w0 hw0 => Run.bin rfl rfl (Bin.subN (a ++ [b]).length 1 (by omega) (by simp [bmax]; omega))) ?_
    refine jh 4 rfl trivial (fun w0 hw0 => Run.index1 ((a ++ [b]).length - 1) rfl rfl Tryz.underlying36 Tryz.sizeOf9 (show (a ++ [b]).length - 1 < (a ++ [b]).length by omega)) ?_
    refine jh 6 rfl trivial (fun w0 hw0 => Run.mv rfl) ?_
    refine jh 7 rfl trivial (fun w0 hw0 => Run.mv rfl) ?_
    refine jh 8 rfl trivial (fun w0 hw0 => Run.mv rfl) ?_
    refine jh 9 rfl trivial (fun w0 hw0 => Run.bin rfl rfl (Bin.add_i64 _ 2 (by omega))) ?_
    refine jh 10 rfl trivial (fun w0 hw0 => Run.sliceT i (i + 2) rfl Tryz.underlying9 (evB.some_ rfl) (evB.some_ rfl) (by omega) (by omega)) ?_
    rw [hto2]
    refine HOps.r1 5 rfl jK trivial (Run.load rfl Tryz.isAgg9 (last_cell hA)) trivial rfl rfl ?_
    refine jh 11 rfl trivial (fun w0 hw0 => Run.addT rfl rfl (by simp; omega)) ?_
    refine jh 12 rfl trivial (fun w0 hw0 => Run.index1 ((a ++ [b]).length - 1) rfl rfl Tryz.underlying36 Tryz.sizeOf9 (show (a ++ [b]).length - 1 < (a ++ [b]).length by omega)) ?_
    refine HOps.st 13 rfl jK (Acts.storeOwn ((a ++ [b]).length - 1) rfl rfl Tryz.sizeOf9 hA rfl (by omega) rfl) trivial rfl ?_
    rintro w6 ⟨hA6, hf6, _⟩
    have hA6 : Own w6 9 1 (some ad) (a ++ [b ++ [92, x2]]).length d (SB (a ++ [b ++ [92, x2]])) := by
     have e1 : (SB (a ++ [b])).set ((a ++ [b]).length - 1) (encStr (b ++ [92, x2])) = SB (a ++ [b ++ [92, x2]]) := by
      rw [show (a ++ [b]).length - 1 = a.length by omega, SB_append, SB_append, ← SB_len a]
      exact set_last _ _ _
     rw [← e1, show (a ++ [b ++ [92, x2]]).length = (a ++ [b]).length by simp]
     exact hA6
    have K := Frm.own K.drew hf6 hub
    refine ⟨trivial, ?_⟩
    refine HOps.done jK ?_
    refine jn (jv4 0 3 4 5 ?_)
    refine js (jr (jm ?_))
    refine Ops.r (Run.bin rfl rfl (Bin.add_i64 _ 1 (by omega))) rfl ?_
    refine ja ?_
    refine jo (jn (jv4 0 3 4 5 ?_))
    refine jx ?_
    refine thenQ_x (blockQ_x ?_)
    refine jn (jr (jm ?_))
    refine Ops.r (Run.bin rfl rfl (Bin.add_i64 _ 1 (by omega))) rfl ?_
    refine ja ?_
    refine jo ?_
    refine jn ⟨(i + 2, a, b ++ [92, x2], true, some ad, d), (js4 rfl (by simp; rfl) rfl rfl), ?_, ?_⟩
    ·
     exact ⟨by dsimp only; omega, hsp2, by dsimp only; omega, by simp; omega, hA6, hub, K⟩
    ·
     first | omega | (dsimp only; omega)
   ·
    refine jk (jn (jv5 0 3 4 5 6 ?_))
    refine js (js (jr (jm ?_)))
    refine Ops.r (Run.eqlT rfl rfl) rfl ?_
    rw [show decide ([x] = ([34] : Tx)) = decide (x = 34) from decide_eq_decide.2 hx34]
    refine jo (jn (jv6 0 3 4 5 6 47 ?_))
    refine VC.meet (σ := Bool) (fun s => [(0, encStr q), (3, .slice A (a ++ [b]).length d), (4, .bool s), (5, .int .i64 ((i : Nat) : Int)), (6, encStr [x])]) (fun s wr2 => s = (if x = 34 then !qt else qt) ∧ wr = wr2) ?_ ?_
    ·
     refine VC.condD rfl (fun hc3 => ?_) (fun hc3 => ?_)
     ·
      refine jr (jm ?_)
      refine Ops.r (Run.not rfl) rfl ?_
      refine ja ?_
      refine jo ?_
      refine jn ⟨(!qt), (js5 rfl rfl rfl rfl rfl), ?_⟩
      exact ⟨by rw [if_pos hc3], rfl⟩
     ·
      refine jk ?_
      refine jn ⟨qt, (js5 rfl rfl rfl rfl rfl), ?_⟩
      exact ⟨by rw [if_neg hc3], rfl⟩
    ·
     rintro q2 _ ⟨hq2, rfl⟩ Γ hΓ
     refine jn (VC.sub _ hΓ ?_)
     refine js (js ?_)
     refine VC.split1 [(0, _), (3, _), (4, _), (5, _), (6, _)] (js5 rfl rfl rfl rfl rfl) 55 (.bool (decide (x = 59 ∧ q2 = false))) ?_ ?_
     ·
      refine jr ?_
      refine jm ?_
      refine Ops.r (Run.eqlT rfl rfl) rfl ?_
      rw [show decide ([x] = ([59] : Tx)) = decide (x = 59) from decide_eq_decide.2 hx59]
      by_cases hs51 : x = 59
      ·
       refine jm ?_
       refine jg ?_
       by_cases hs53 : q2 = true
       ·
        refine Ops.rg rfl au (Run.not rfl) rfl ?_
        refine Ops.r (Run.pickT rfl rfl au) rfl ?_
        refine jo ?_
        refine jn ⟨(js6 (jc (by first | (simp [*]; done) | (simp_all; done))) rfl rfl rfl rfl rfl), rfl⟩
       ·
        refine Ops.rg rfl au (Run.not rfl) rfl ?_
        refine Ops.r (Run.pickT rfl rfl au) rfl ?_
        refine jo ?_
        refine jn ⟨(js6 (jc (by first | (simp [*]; done) | (simp_all; done))) rfl rfl rfl rfl rfl), rfl⟩
      ·
       refine jm ?_
       refine ju ?_
       refine ju ?_
       refine Ops.r (Run.pickF rfl rfl au) rfl ?_
       refine jo ?_
       refine jn ⟨(js6 (jc (by first | (simp [*]; done) | (simp_all; done))) rfl rfl rfl rfl rfl), rfl⟩
     ·
      intro Γ hΓ
      refine jn (VC.sub _ hΓ ?_)
      refine VC.condD rfl (fun hc4 => ?_) (fun hc4 => ?_)
      ·
       obtain ⟨hx9, hqf⟩ := hc4
       have hqt : qt = false := by rw [hx9, hqf] at hq2; simpa using hq2.symm
       have hl2 : (a ++ [b]).length + 1 = (a ++ [b] ++ [([] : Tx)]).length := by simp
       have hsp2 : pcs false q = (a ++ [b]) ++ gluP [] (pcs q2 (q.drop (i + 1))) := by rw [hsp, hdc, hx9, hqt, hqf, pcs_cut, gluP_nil (pcs_ne _ _)]; simp [gluP]
       refine js (jr (jm ?_))
       refine Ops.m (Does.buildS1 rfl Tryz.underlying36 Tryz.sizeOf9 zero9 (by decide) (by decide) rfl rfl) rfl ?_
       rintro _ w3 ⟨rfl, hF3⟩
       have K := K.trans hF3.frm (by simp)
       refine Ops.m (Does.app rfl rfl Tryz.underlying36 (info9) rfl (by decide) (hA.frm hF3.frm (by simp)) (hrdT (q := []) hF3) (SB_one _) (by omega) (by omega)) rfl ?_
       rintro _ w4 ⟨A4, d4, rfl, hA4, hf4, hob4⟩
       rw [← SB_append] at hA4
       have hub4 := up_app hub hob4 K.size
       have K := Frm.own K hf4 hub
       refine ja ?_
       refine jo (jn (jv4 0 3 4 5 ?_))
       refine jx ?_
       refine thenQ_x (blockQ_x ?_)
       refine jn (jr (jm ?_))
       refine Ops.r (Run.bin rfl rfl (Bin.add_i64 _ 1 (by omega))) rfl ?_
       refine ja ?_
       refine jo ?_
       refine jn ⟨(i + 1, a ++ [b], [], q2, A4, d4), (js4 rfl (by rw [← hl2]; rfl) rfl rfl), ?_, ?_⟩
       ·
        exact ⟨hc1, hsp2, by dsimp only; omega, by simp, by simpa using hA4, hub4, K⟩
       ·
        first | omega | (dsimp only; omega)
      ·
       obtain ⟨ad, rfl, _⟩ := SB_at hA.rd (show a.length < (a ++ [b]).length by omega)
       have hsp2 : pcs false q = a ++ gluP (b ++ [x]) (pcs q2 (q.drop (i + 1))) := by
        rw [hsp, hdc]
        by_cases h34 : x = 34
        ·
         rw [if_pos h34] at hq2
         rw [h34, pcs_quote, gluP_gluP, hq2]
        ·
         rw [if_neg h34] at hq2
         rw [hq2] at hc4 ⊢
         by_cases h92 : qt = true ∧ x = 92
         ·
          obtain ⟨rfl, rfl⟩ := h92
          rw [List.drop_eq_nil_of_le (show q.length ≤ i + 1 from Nat.le_of_not_lt fun h => hc2 ⟨rfl, rfl, h⟩), pcs_esc_end, gluP_gluP]
         ·
          rw [pcs_other h92 h34 hc4, gluP_gluP]
       refine jk (jn (jv5 0 3 4 5 6 ?_))
       refine jr (jm ?_)
       refine jm ?_
       refine Ops.r (Run.lenS rfl Tryz.underlying36) rfl ?_
       refine Ops.r (Run.bin rfl rfl (Bin.subN (a ++ [b]).length 1 (by omega) (by simp [bmax]; omega))) rfl ?_
       refine Ops.r (Run.index1 ((a ++ [b]).length - 1) rfl rfl Tryz.underlying36 Tryz.sizeOf9 (show (a ++ [b]).length - 1 < (a ++ [b]).length by omega)) rfl ?_
       refine Ops.r (Run.load rfl Tryz.isAgg9 (last_cell hA)) rfl ?_
       refine jm ?_
       refine Ops.r (Run.addT rfl rfl (by simp; omega)) rfl ?_
       refine Ops.r (Run.index1 ((a ++ [b]).length - 1) rfl rfl Tryz.underlying36 Tryz.sizeOf9 (show (a ++ [b]).length - 1 < (a ++ [b]).length by omega)) rfl ?_
       refine Ops.st (Acts.storeOwn ((a ++ [b]).length - 1) rfl rfl Tryz.sizeOf9 hA rfl (by omega) rfl) ?_
       rintro w6 ⟨hA6, hf6, _⟩
       have hA6 : Own w6 9 1 (some ad) (a ++ [b ++ [x]]).length d (SB (a ++ [b ++ [x]])) := by
        have e1 : (SB (a ++ [b])).set ((a ++ [b]).length - 1) (encStr (b ++ [x])) = SB (a ++ [b ++ [x]]) := by
         rw [show (a ++ [b]).length - 1 = a.length by omega, SB_append, SB_append, ← SB_len a]
         exact set_last _ _ _
        rw [← e1, show (a ++ [b ++ [x]]).length = (a ++ [b]).length by simp]
        exact hA6
       have K := Frm.own K hf6 hub
       refine jo ?_
       refine blockQ_n (jn ?_)
       refine jv4 0 3 4 5 ?_
       refine jr (jm ?_)
       refine Ops.r (Run.bin rfl rfl (Bin.add_i64 _ 1 (by omega))) rfl ?_
       refine ja ?_
       refine jo ?_
       refine jn ⟨(i + 1, a, b ++ [x], q2, some ad, d), (js4 rfl (by simp; rfl) rfl rfl), ?_, ?_⟩
       ·
        exact ⟨hc1, hsp2, by dsimp only; omega, by simp; omega, hA6, hub, K⟩
       ·
        first | omega | (dsimp only; omega)
 ·
  have him : i = q.length := by omega
  subst him
  have hfin : pcs false q = a ++ [b] := by rw [hsp, List.drop_length]; simp [pcs, gluP]
  refine jx ?_
  refine thenQ_x (thenQ_x (blockQ_x ?_))
  refine jn (jv1 3 ?_)
  refine js (jr (jm ?_))
  refine ja ?_
  refine jo (jn (jv1 2 ?_))
  refine jt ?_
  refine end1 rfl ?_
  rw [hfin]
  exact ⟨K, A, d, rfl, hA, hub⟩
end Go.Proofs.YtenbjndldenkfaaGreatDoor
namespace Go.Proofs.YtenbjndldenkfaaGreatDoor
open Go.RowKit Go.Sort
section
variable {P : Program} {Γ : Env} {w : World} {dst : Option Tmp} {pos : String} {after : Array Edge} {g : Option (Nat × Bool)} {T : TypeId}
theorem Run.ext {f : FuncId} {xs : List Operand} {vs : List Value} {ts : Array TypeId} {v : Value} (hv : evs Γ xs vs) (hf : ∀ w, (callFunc f vs.toArray).run P w = .ok (.value v) w) :
  Run P ⟨dst, .call ⟨.value (.func f), xs.toArray, ts⟩, T, pos, after, g⟩ Γ w v := fun ρ hρ => by
 have e := evs_map hρ xs vs hv
 have e2 : ρ (.func f) = .func (.func f) #[] #[] := hρ _ _ rfl
 simp [execOp, resolve, e2, Deferred.ofValue, invoke, e, hf]
theorem Run.convAny {src dstT : TypeId} {x : Operand} {u v : Value} (hx : ev? Γ x = some u) (h : (convert src dstT u).run P w = .ok v w) : Run P ⟨dst, .convert src dstT x, T, pos, after, g⟩ Γ w v := fun ρ hρ => by
 simp [execOp, hρ _ _ hx, h]
theorem Run.neqSameP {t yT e : TypeId} {j : TypeInfo} {x y : Operand} {a : Addr} (hx : ev? Γ x = some (.pointer (some a))) (hy : ev? Γ y = some (.pointer (some a))) (ht : P.underlying t = some (.pointer e)) (he : P.info? e = some j) :
  Run P ⟨dst, .binOp .neq t x y yT, T, pos, after, g⟩ Γ w (.bool false) := fun ρ hρ => by
 simp [execOp, hρ _ _ hx, hρ _ _ hy, eqGuard, Lib.run_neq_ptr_same w a ht he]
end
def Bld (w : World) (b : Nat) (bs : Tx) : Prop := ∃ p A c, (p = none ∨ p = some (⟨b, 0, none⟩ : Addr)) ∧ Blk w b 50 #[.pointer p, .slice A bs.length c] ∧ Own w 5 1 A bs.length c (U8 bs)
theorem Bld.isB {w : World} {b B : Nat} {bs : Tx} {p A : Option Addr} {c : Nat} (hp : p = none ∨ p = some (⟨b, 0, none⟩ : Addr)) (hb : Blk w b 50 #[.pointer p, .slice A bs.length c]) (ho : Own w 5 1 A bs.length c (U8 bs)) (hB : B ≤ b) (hA : ∀ x ∈ ob A, B ≤ x) :
  Lib.IsBuilder 50 5 B b (Lib.byteCells bs) w := by
 have key : Lib.BuilderAt 50 5 B b (.pointer p) (Lib.byteCells bs) w := by
  have hlen : (Lib.byteCells bs).length = bs.length := Lib.byteCells_length bs
  refine ⟨hB, .slice A bs.length c, hb, ⟨by rw [hlen, Nat.mul_one], ?_⟩, ?_⟩
  ·
   rw [hlen]
   rcases ho.cases with ⟨rfl, h1, h2, _⟩ | ⟨g, cur, rfl, h1, h2, h3, h4, h5⟩
   ·
    exact .inl ⟨by rw [h1, h2], h1⟩
   ·
    exact .inr ⟨g, c, cur, rfl, hA g (by simp [ob]), h1, h2, h3, h4, h5⟩
  ·
   have hn := ho.ne_blk hb (by decide)
   cases A with
   | none => simp [Value.ownBlock]
   | some a => simp only [Value.ownBlock, ne_eq, Option.some.injEq]; intro h; exact hn (by simp [ob, h])
 rcases hp with rfl | rfl
 ·
  exact .inl key
 ·
  exact .inr key
theorem noEsc (x : Value) (w : World) : (callFunc 89 #[x]).run Tryz.prog w = .ok (.value x) w := by
 rw [run_callFunc_extern Tryz.func89 jK jK jK (e := Extern.AbiNoEscape.same) jK, Lib.run_noEscape]
 rfl
theorem Blk.shape {w : World} {g : Nat} {t : TypeId} {cs : Array Value} (h : Blk w g t cs) : w.shape? g = some (t, cs.size) := by
 have h : w.heap[g]? = some (.cells cs t (0, 0)) := h
 simp [World.shape?, h]
theorem bsize : (Tryz.prog.info? 50).map (·.size) = some 2 := by kernel_rfl
theorem blies : liesAt Tryz.prog Tryz.prog.depth 50 (2 / Tryz.prog.cellsOf 50) 0 50 1 = true := by kernel_rfl
set_option maxRecDepth 100000 in
theorem copyCheck_spec (b : Nat) (p : Option Addr) (v : Value) (w : World) (hp : p = none ∨ p = some (⟨b, 0, none⟩ : Addr)) (hb : Blk w b 50 #[.pointer p, v]) :
  Calls Tryz.prog 57 #[.pointer (some ⟨b, 0, none⟩)] w fun e w' => e = .returned (.tuple #[]) ∧ Blk w' b 50 #[.pointer (some ⟨b, 0, none⟩), v] ∧ Frm [b] w w' := by
 obtain ⟨j, hj, hjs⟩ := Option.map_eq_some_iff.1 bsize
 refine VC.calls (nt := 20) (res := #[]) Tryz.func57 rfl Tryz.ntmps57 Tryz.results57 rfl ?_
 refine js (jr (jm ?_))
 refine Ops.r (Run.nilck rfl) rfl ?_
 refine Ops.r (Run.fieldAddr rfl Tryz.underlying50 rfl Tryz.sizeOf48 (by decide)) rfl ?_
 refine Ops.r (Run.load rfl Tryz.isAgg48 (hb.cell 0)) rfl ?_
 refine Ops.r (Run.eqlNilP rfl rfl Tryz.underlying48) rfl ?_
 refine jo (jn (jv2 0 6 ?_))
 refine VC.condB rfl (fun hc1 => ?_) (fun hc1 => ?_)
 ·
  have hpn : p = none := Option.isNone_iff_eq_none.1 hc1
  subst hpn
  refine jr (jm ?_)
  refine jm ?_
  refine Ops.r (Run.convAny rfl (Lib.run_to_unsafe _ ⟨b, 0, none⟩ Tryz.underlying48 Tryz.underlying115 hj (by rw [hjs]; decide) hb.shape (Nat.zero_lt_succ 1))) rfl ?_
  refine Ops.r (Run.ext (evs.cons rfl evs.nil) (noEsc _)) rfl ?_
  refine Ops.r (Run.convAny rfl (Lib.run_from_unsafe _ ⟨b, 0, none⟩ Tryz.underlying115 Tryz.underlying48 hj hb.shape blies)) rfl ?_
  refine Ops.r (Run.nilck rfl) rfl ?_
  refine Ops.r (Run.fieldAddr rfl Tryz.underlying50 rfl Tryz.sizeOf48 (by decide)) rfl ?_
  refine Ops.st (Acts.store rfl rfl Tryz.sizeOf48 hb rfl rfl) ?_
  rintro w3 ⟨hb3, hf3, _⟩
  refine jo ?_
  refine end0n ?_
  exact ⟨rfl, hb3, hf3⟩
 ·
  have hps : p = some (⟨b, 0, none⟩ : Addr) := hp.resolve_left (fun h => by rw [h] at hc1; cases hc1)
  subst hps
  refine js (jr (jm ?_))
  refine Ops.r (Run.nilck rfl) rfl ?_
  refine Ops.r (Run.fieldAddr rfl Tryz.underlying50 rfl Tryz.sizeOf48 (by decide)) rfl ?_
  refine Ops.r (Run.load rfl Tryz.isAgg48 (hb.cell 0)) rfl ?_
  refine jm ?_
  refine Ops.r (Run.neqSameP rfl rfl Tryz.underlying48 hj) rfl ?_
  refine jo (jn (jv1 19 ?_))
  refine VC.condF rfl (rfl) ?_
  refine jk ?_
  refine end0n ?_
  exact ⟨rfl, hb, Frm.refl _ _⟩
set_option maxRecDepth 100000 in
theorem writeByte_spec (b : Nat) (bs : Tx) (x : UInt8) (p A : Option Addr) (c : Nat) (w : World) (hp : p = none ∨ p = some (⟨b, 0, none⟩ : Addr)) (hb : Blk w b 50 #[.pointer p, .slice A bs.length c]) (ho : Own w 5 1 A bs.length c (U8 bs)) (hl : bs.length ≤ 1000000) :
  Calls Tryz.prog 27 #[.pointer (some ⟨b, 0, none⟩), .int .u8 ((x.toNat : Nat) : Int)] w fun e w' => e = .returned .nilIface ∧ ∃ A2 c2, Blk w' b 50 #[.pointer (some ⟨b, 0, none⟩), .slice A2 (bs ++ [x]).length c2] ∧ Own w' 5 1 A2 (bs ++ [x]).length c2 (U8 (bs ++ [x])) ∧ Frm (b :: ob A) w w' ∧ ∀ y ∈ ob A2, y ∈ ob A ∨ w.heap.size ≤ y := by
 refine VC.calls (nt := 17) (res := #[.tmp 4]) Tryz.func27 rfl Tryz.ntmps27 Tryz.results27 rfl ?_
 refine js (jr (ja ?_))
 refine jo (jn (jv2 0 1 ?_))
 refine js (jr (jm ?_))
 refine Ops.cl (Enters.fn (evs.cons rfl evs.nil) Tryz.call57) (copyCheck_spec b p _ _ hp hb) rfl ?_
 rintro e w1 ⟨rfl, hb1, hf1⟩
 refine ⟨_, rfl, ?_⟩
 have ho1 := ho.frm hf1 (fun y hy => by have := ho.ne_blk hb (by decide); simp; rintro rfl; exact this hy)
 have hs1 := hf1.size
 refine jo (jn (jv2 0 1 ?_))
 refine js (jr (jm ?_))
 refine jm ?_
 refine Ops.r (Run.nilck rfl) rfl ?_
 refine Ops.r (Run.fieldAddr rfl Tryz.underlying50 rfl Tryz.sizeOf22 (by decide)) rfl ?_
 refine Ops.r (Run.load rfl Tryz.isAgg22 (hb1.cell 1)) rfl ?_
 refine jm ?_
 refine Ops.m (Does.buildS1 rfl Tryz.underlying22 Tryz.sizeOf5 zero5 (by decide) (by decide) rfl rfl) rfl ?_
 rintro _ w2 ⟨rfl, hF2⟩
 have hb2 := hb1.frm hF2.frm (by simp)
 have hs2 := hF2.frm.size
 have hrd : Rd w2 1 (some ⟨w1.heap.size, 0, none⟩) 1 (U8 [x]) := Rd.of_blk (n := 1) (size := 1) hF2.blk rfl
 refine Ops.m (Does.app rfl rfl Tryz.underlying22 (info5) rfl (by decide) (ho1.frm hF2.frm (by simp)) hrd (U8_one _) (by omega) (by omega)) rfl ?_
 rintro _ w3 ⟨A3, c3, rfl, ho3, hf3, hob3⟩
 have hnb : b ∉ ob A := ho.ne_blk hb (by decide)
 have hb3 := hb2.frm hf3 hnb
 have ho3 : Own w3 5 1 A3 (bs ++ [x]).length c3 (U8 (bs ++ [x])) := by
  rw [show (bs ++ [x]).length = bs.length + 1 by simp, show U8 (bs ++ [x]) = U8 bs ++ U8 [x] by simp [U8]]
  exact ho3
 refine Ops.r (Run.nilck rfl) rfl ?_
 refine Ops.r (Run.fieldAddr rfl Tryz.underlying50 rfl Tryz.sizeOf22 (by decide)) rfl ?_
 refine Ops.st (Acts.store rfl rfl Tryz.sizeOf22 hb3 rfl rfl) ?_
 rintro w4 ⟨hb4, hf4, _⟩
 have ho4 := ho3.frm hf4 (fun y hy => by have := ho3.ne_blk hb3 (by decide); simp; rintro rfl; exact this hy)
 refine jo (jn ?_)
 refine VC.sub [] .nil ?_
 refine js (jr (ja ?_))
 refine jo (jn (jt ?_))
 refine end1 rfl ?_
 refine ⟨rfl, A3, c3, by rw [show (bs ++ [x]).length = bs.length + 1 by simp]; exact hb4, ho4, ?_, fun y hy => ?_⟩
 ·
  exact (((hf1.mono (T := b :: ob A) (by simp)).trans hF2.frm (by simp)).trans hf3 (fun y hy => .inl (by simp [hy]))).trans hf4 (fun y hy => .inl (by simp at hy; simp [hy]))
 ·
  rcases hob3 with h | h
  ·
   exact .inl (h ▸ hy)
  ·
   right
   rw [h] at hy
   simp at hy
   omega
def hdQ : Tx → Bool
 | [] => false
 | x :: _ => decide (x = 34)
def hdU : Tx → Bool
 | [] => false
 | x :: _ => decide (x ≠ 34)
theorem valQ_plain {q q1 : Tx} (h : leftB q = q1) (hq : hdQ q1 = false) : valQ q = noB q1 := by
 unfold valQ
 rw [h]
 cases q1 with
 | nil => rfl
 | cons x r => exact if_neg (of_decide_eq_false hq)
set_option maxRecDepth 100000 in
theorem value_spec (q : Tx) (w : World) (hq : q.length ≤ 1000000) : Calls Tryz.prog 184 #[encStr q] w fun e w' => e = .returned (encStr (valQ q)) ∧ Frm [] w w' := by
 refine VC.calls (nt := 50) (res := #[.tmp 2]) Tryz.func184 rfl Tryz.ntmps184 Tryz.results184 rfl ?_
 refine js (jr (ja ?_))
 refine jo (jn (jv1 0 ?_))
 refine js (jr (jm ?_))
 refine Ops.cl (Enters.fn (evs.cons rfl (evs.cons rfl evs.nil)) Tryz.call209) (trimLS_spec q _ hq) rfl ?_
 rintro e wt ⟨rfl, K⟩
 refine ⟨_, rfl, ?_⟩
 have hql := leftB_le q
 generalize hq1 : leftB q = q1 at *
 refine ja ?_
 refine jo (jn (jv1 0 ?_))
 refine js (js ?_)
 refine VC.split1 [(0, _)] (js1 rfl) 14 (.bool (decide (hdQ q1 = false))) ?_ ?_
 ·
  refine jr ?_
  refine jm ?_
  refine Ops.r (Run.eqlT rfl rfl) rfl ?_
  by_cases hs9 : q1 = []
  ·
   have hhd : hdQ q1 = false := by rw [hs9]; rfl
   refine jm ?_
   refine ju ?_
   refine ju ?_
   refine ju ?_
   refine Ops.r (Run.pickT rfl rfl au) rfl ?_
   refine jo ?_
   refine jn ⟨(js2 (jc (by first | (rw [hhd]; rfl) | (rw [hhd]; first | exact (decide_eq_decide.2 (by simp only [decide_eq_false_iff_not, decide_eq_true_eq]; rw [hzb]; try omega)) | (symm; exact decide_eq_false (by simp only [decide_eq_false_iff_not, decide_eq_true_eq]; rw [hzb]; omega)) | (symm; exact decide_eq_true (by simp only [decide_eq_false_iff_not, decide_eq_true_eq]; rw [hzb]; omega))))) rfl), rfl⟩
  ·
   obtain ⟨y, r2, rfl⟩ : ∃ y r2, q1 = y :: r2 := by
    cases q1 with
    | nil => exact absurd rfl hs9
    | cons a r => exact ⟨a, r, rfl⟩
   have hhd : hdQ (y :: r2) = decide (y = 34) := rfl
   have hzb : y = 34 ↔ y.toNat = 34 := UInt8.toNat_inj.symm
   refine jm ?_
   refine jg ?_
   refine Ops.rg rfl au (Run.indexT 0 rfl rfl Tryz.underlying9 rfl) rfl ?_
   refine Ops.rg rfl au (Run.bin rfl rfl (Bin.neqN _ 34)) rfl ?_
   by_cases hs13 : y.toNat ≠ 34
   ·
    refine Ops.r (Run.pickF rfl rfl au) rfl ?_
    refine jo ?_
    refine jn ⟨(js2 (jc (by first | (rw [hhd]; rfl) | (rw [hhd]; first | exact (decide_eq_decide.2 (by simp only [decide_eq_false_iff_not, decide_eq_true_eq]; rw [hzb]; try omega)) | (symm; exact decide_eq_false (by simp only [decide_eq_false_iff_not, decide_eq_true_eq]; rw [hzb]; omega)) | (symm; exact decide_eq_true (by simp only [decide_eq_false_iff_not, decide_eq_true_eq]; rw [hzb]; omega))))) rfl), rfl⟩
   ·
    refine Ops.r (Run.pickF rfl rfl au) rfl ?_
    refine jo ?_
    refine jn ⟨(js2 (jc (by first | (rw [hhd]; rfl) | (rw [hhd]; first | exact (decide_eq_decide.2 (by simp only [decide_eq_false_iff_not, decide_eq_true_eq]; rw [hzb]; try omega)) | (symm; exact decide_eq_false (by simp only [decide_eq_false_iff_not, decide_eq_true_eq]; rw [hzb]; omega)) | (symm; exact decide_eq_true (by simp only [decide_eq_false_iff_not, decide_eq_true_eq]; rw [hzb]; omega))))) rfl), rfl⟩
 ·
  intro Γ hΓ
  refine jn (VC.sub _ hΓ ?_)
  refine VC.condD rfl (fun hc1 => ?_) (fun hc1 => ?_)
  ·
   have hv := valQ_plain hq1 hc1
   refine js (js (jr (jm ?_)))
   refine Ops.cl (Enters.fn (evs.cons rfl (evs.cons rfl evs.nil)) Tryz.call210) (idxAny_spec q1 _ (by omega)) rfl ?_
   rintro e w1 ⟨k, rfl, hF, hf1⟩
   refine ⟨_, rfl, ?_⟩
   have K := K.trans hf1 (by simp)
   refine ja ?_
   refine jo (jn (jv2 0 3 ?_))
   refine js (jr (jm ?_))
   refine Ops.r (Run.bin rfl rfl (Bin.geq _ 0)) rfl ?_
   refine jo (jn (jv3 0 3 18 ?_))
   refine VC.condD rfl (fun hc2 => ?_) (fun hc2 => ?_)
   ·
    obtain ⟨i, rfl, hil, hno, hbl⟩ := hF.resolve_left (by rintro ⟨rfl, _⟩; omega)
    refine js (jr (jm ?_))
    refine jm ?_
    refine Ops.r (Run.sliceT 0 i rfl Tryz.underlying9 evB.none_ (evB.some_ rfl) (by omega) (by omega)) rfl ?_
    refine ja ?_
    refine jo (jn (jv1 2 ?_))
    refine jt ?_
    refine thenQ_r (thenQ_r (end1 rfl ?_))
    exact ⟨by rw [hv, noB_take hil hno hbl]; simp, K⟩
   ·
    have hall : ∀ c ∈ q1, ¬ Bl c := (hF.resolve_right (by rintro ⟨i, rfl, _⟩; omega)).2
    refine jk (jn (jv1 0 ?_))
    refine js (jr (jm ?_))
    refine ja ?_
    refine jo (jn (jv1 2 ?_))
    refine jt ?_
    refine thenQ_r (end1 rfl ?_)
    exact ⟨by rw [hv, noB_all hall], K⟩
  ·
   obtain ⟨r2, rfl⟩ : ∃ r2, q1 = 34 :: r2 := by
    cases q1 with
    | nil => exact absurd rfl hc1
    | cons a r => exact ⟨r, by rw [show a = 34 from Classical.byContradiction fun h => hc1 (decide_eq_false h)]⟩
   have hv : valQ q = unq r2 := by unfold valQ; rw [hq1]; rfl
   refine jk (jn (jv1 0 ?_))
   refine js (jr ?_)
   refine Ops.m (Does.alloc zero50) rfl ?_
   rintro _ w1 ⟨rfl, hF1⟩
   have hb4 : Blk w1 wt.heap.size 50 #[.pointer none, .slice none ([] : Tx).length 0] := hF1.blk
   have hg4 := K.size
   have K := K.trans hF1.frm (by simp)
   generalize hg : wt.heap.size = g4 at *
   refine jo (jn (js (js (jr ?_))))
   refine Ops.r (v := .int .i64 ((1 : Nat) : Int)) (Run.asg rfl) rfl ?_
   refine jo (jn (jb ?_))
   refine VC.loop (σ := Nat × Tx × Option Addr × Option Addr × Nat) (fun s => [(0, encStr (34 :: r2)), (4, .pointer (some ⟨g4, 0, none⟩)), (5, .int .i64 ((s.1 : Nat) : Int))]) (fun s wr => s.1 ≤ (34 :: r2).length + 1 ∧ unq r2 = s.2.1 ++ unq ((34 :: r2).drop s.1) ∧ s.2.1.length ≤ s.1 ∧ (s.2.2.1 = none ∨ s.2.2.1 = some (⟨g4, 0, none⟩ : Addr)) ∧ Blk wr g4 50 #[.pointer s.2.2.1, .slice s.2.2.2.1 s.2.1.length s.2.2.2.2] ∧ Own wr 5 1 s.2.2.2.1 s.2.1.length s.2.2.2.2 (U8 s.2.1) ∧ (∀ x ∈ ob s.2.2.2.1, w.heap.size ≤ x) ∧ Frm [] w wr) (fun s => (34 :: r2).length + 1 - s.1) (1, [], none, none, 0) (js3 rfl rfl rfl) ⟨by simp, rfl, by simp, .inl rfl, hb4, Own.nil _ _ _, by simp [ob], K⟩ ?_
   rintro ⟨i, b, p, A, c⟩ wr ⟨hi, hu, hbl, hp, hb4, ho, hub, K⟩
   dsimp only at hi hu hbl hp hb4 ho hub ⊢
   refine js (js ?_)
   refine VC.split1 [(0, _), (4, _), (5, _)] (js3 rfl rfl rfl) 32 (.bool (decide (hdU ((34 :: r2).drop i) = true))) ?_ ?_
   ·
    refine jr ?_
    refine jm ?_
    refine jm ?_
    refine Ops.r (Run.lenT rfl Tryz.underlying9) rfl ?_
    refine Ops.r (Run.bin rfl rfl (Bin.lssN _ _)) rfl ?_
    by_cases hs26 : i < (34 :: r2).length
    ·
     have hgx : (34 :: r2)[i]? = some (34 :: r2)[i] := List.getElem?_eq_getElem hs26
     have hhd : hdU ((34 :: r2).drop i) = decide ((34 :: r2)[i] ≠ 34) := by rw [drop_cons hs26]; rfl
     generalize hz : (34 :: r2)[i] = z at *
     have hzb : z ≠ 34 ↔ z.toNat ≠ 34 := not_congr UInt8.toNat_inj.symm
     refine jm ?_
     refine jg ?_
     refine jg ?_
     refine Ops.rg rfl au (Run.indexT _ rfl rfl Tryz.underlying9 hgx) rfl ?_
     refine Ops.rg rfl au (Run.bin rfl rfl (Bin.neqN _ 34)) rfl ?_
     by_cases hs31 : z.toNat ≠ 34
     ·
      refine Ops.r (Run.pickT rfl rfl au) rfl ?_
      refine jo ?_
      refine jn ⟨(js4 (jc (by first | (rw [hhd]; rfl) | (rw [hhd]; first | exact (decide_eq_decide.2 (by simp only [decide_eq_false_iff_not, decide_eq_true_eq]; rw [hzb]; try omega)) | (symm; exact decide_eq_false (by simp only [decide_eq_false_iff_not, decide_eq_true_eq]; rw [hzb]; omega)) | (symm; exact decide_eq_true (by simp only [decide_eq_false_iff_not, decide_eq_true_eq]; rw [hzb]; omega))))) rfl rfl rfl), rfl⟩
     ·
      refine Ops.r (Run.pickT rfl rfl au) rfl ?_
      refine jo ?_
      refine jn ⟨(js4 (jc (by first | (rw [hhd]; rfl) | (rw [hhd]; first | exact (decide_eq_decide.2 (by simp only [decide_eq_false_iff_not, decide_eq_true_eq]; rw [hzb]; try omega)) | (symm; exact decide_eq_false (by simp only [decide_eq_false_iff_not, decide_eq_true_eq]; rw [hzb]; omega)) | (symm; exact decide_eq_true (by simp only [decide_eq_false_iff_not, decide_eq_true_eq]; rw [hzb]; omega))))) rfl rfl rfl), rfl⟩
    ·
     have hhd : hdU ((34 :: r2).drop i) = false := by rw [List.drop_eq_nil_of_le (by omega)]; rfl
     refine jm ?_
     refine ju ?_
     refine ju ?_
     refine ju ?_
     refine ju ?_
     refine Ops.r (Run.pickF rfl rfl au) rfl ?_
     refine jo ?_
     refine jn ⟨(js4 (jc (by first | (rw [hhd]; rfl) | (rw [hhd]; first | exact (decide_eq_decide.2 (by simp only [decide_eq_false_iff_not, decide_eq_true_eq]; rw [hzb]; try omega)) | (symm; exact decide_eq_false (by simp only [decide_eq_false_iff_not, decide_eq_true_eq]; rw [hzb]; omega)) | (symm; exact decide_eq_true (by simp only [decide_eq_false_iff_not, decide_eq_true_eq]; rw [hzb]; omega))))) rfl rfl rfl), rfl⟩
   ·
    intro Γ hΓ
    refine jn (VC.sub _ hΓ ?_)
    refine VC.condD rfl (fun hc3 => ?_) (fun hc3 => ?_)
    ·
     have hil : i < (34 :: r2).length := Nat.lt_of_not_le fun h => by rw [List.drop_eq_nil_of_le h] at hc3; cases hc3
     have hgx : (34 :: r2)[i]? = some (34 :: r2)[i] := List.getElem?_eq_getElem hil
     have hdc := drop_cons hil
     have hz34 : (34 :: r2)[i] ≠ 34 := by rw [hdc] at hc3; exact of_decide_eq_true hc3
     generalize hz : (34 :: r2)[i] = z at *
     refine jk (jn (jv3 0 4 5 ?_))
     refine js (jb (js (js (jr (jm ?_)))))
     refine jm ?_
     refine Ops.r (Run.indexT _ rfl rfl Tryz.underlying9 hgx) rfl ?_
     refine Ops.r (Run.bin rfl rfl (Bin.eqlN _ 92)) rfl ?_
     refine jo (jn (jv4 0 4 5 38 ?_))
     refine VC.meet (σ := Nat) (fun s => [(0, encStr (34 :: r2)), (4, .pointer (some ⟨g4, 0, none⟩)), (5, .int .i64 ((s : Nat) : Int))]) (fun s wr2 => i ≤ s ∧ s ≤ (34 :: r2).length ∧ (s < (34 :: r2).length → ∀ z, (34 :: r2)[s]? = some z → unq r2 = b ++ z :: unq ((34 :: r2).drop (s + 1))) ∧ ((34 :: r2).length ≤ s → unq r2 = b) ∧ wr = wr2) ?_ ?_
     ·
      refine VC.condD rfl (fun hc4 => ?_) (fun hc4 => ?_)
      ·
       have hz92 : z = 92 := UInt8.toNat_inj.1 hc4
       refine jr (jm ?_)
       refine Ops.r (Run.bin rfl rfl (Bin.add_i64 _ 1 (by omega))) rfl ?_
       refine ja ?_
       refine jo ?_
       refine jn ⟨(i + 1), (js3 rfl rfl rfl), ?_⟩
       refine ⟨by omega, by omega, fun hj z2 hz2 => ?_, fun hj => ?_, rfl⟩
       ·
        rw [List.getElem?_eq_getElem hj] at hz2
        cases hz2
        rw [hu, hdc, hz92, drop_cons hj, unq_esc]
       ·
        rw [hu, hdc, hz92, List.drop_eq_nil_of_le (by omega), unq_esc_end, List.append_nil]
      ·
       refine jk ?_
       refine jn ⟨i, (js3 rfl rfl rfl), ?_⟩
       refine ⟨by omega, by omega, fun hj z2 hz2 => ?_, fun hj => by omega, rfl⟩
       rw [hgx] at hz2
       cases hz2
       rw [hu, hdc, unq_other hz34 (fun h => hc4 (by rw [h]; rfl))]
     ·
      rintro j _ ⟨hij, hjl, hin, hout, rfl⟩ Γ hΓ
      refine jn (VC.sub _ hΓ ?_)
      refine js (jr (jm ?_))
      refine jm ?_
      refine Ops.r (Run.lenT rfl Tryz.underlying9) rfl ?_
      refine Ops.r (Run.bin rfl rfl (Bin.lssN _ _)) rfl ?_
      refine jo (jn (jv4 0 4 5 44 ?_))
      refine VC.condD rfl (fun hc5 => ?_) (fun hc5 => ?_)
      ·
       have hgj : (34 :: r2)[j]? = some (34 :: r2)[j] := List.getElem?_eq_getElem hc5
       have huj := hin hc5 _ hgj
       generalize hzj : (34 :: r2)[j] = zj at *
       refine jr (jm ?_)
       refine jm ?_
       refine Ops.r (Run.indexT _ rfl rfl Tryz.underlying9 hgj) rfl ?_
       refine Ops.cl (Enters.fn (evs.cons rfl (evs.cons rfl evs.nil)) Tryz.call27) (writeByte_spec g4 b zj p A c _ hp hb4 ho (by simp only [List.length_cons] at *; omega)) rfl ?_
       rintro e w5 ⟨rfl, A5, c5, hb5, ho5, hf5, hob5⟩
       refine ⟨_, rfl, ?_⟩
       have hub5 := up_step hub hob5 K.size
       have K5 := Frm.own K hf5 (fun y hy => by
        simp only [List.mem_cons] at hy
        rcases hy with rfl | hy
        ·
         omega
        ·
         exact hub y hy)
       refine jo ?_
       refine blockQ_n (jn ?_)
       refine jv3 0 4 5 ?_
       refine jr (jm ?_)
       refine Ops.r (Run.bin rfl rfl (Bin.add_i64 _ 1 (by omega))) rfl ?_
       refine ja ?_
       refine jo ?_
       refine jn ⟨(j + 1, b ++ [zj], some ⟨g4, 0, none⟩, A5, c5), (js3 rfl rfl rfl), ?_, ?_⟩
       ·
        exact ⟨by dsimp only; omega, by rw [huj]; simp, by simp; omega, .inr rfl, hb5, ho5, hub5, K5⟩
       ·
        simp only; omega
      ·
       have huj := hout (by omega)
       refine jk ?_
       refine blockQ_n (jn ?_)
       refine jv3 0 4 5 ?_
       refine jr (jm ?_)
       refine Ops.r (Run.bin rfl rfl (Bin.add_i64 _ 1 (by omega))) rfl ?_
       refine ja ?_
       refine jo ?_
       refine jn ⟨(j + 1, b, p, A, c), (js3 rfl rfl rfl), ?_, ?_⟩
       ·
        exact ⟨by dsimp only; omega, by rw [huj, List.drop_eq_nil_of_le (by omega)]; simp [unq], by dsimp only; omega, hp, hb4, ho, hub, K⟩
       ·
        simp only; omega
    ·
     have hfin : unq r2 = b := by
      rw [hu]
      by_cases hil : i < (34 :: r2).length
      ·
       have hz34 : (34 :: r2)[i] = 34 := Classical.byContradiction fun h => hc3 (by rw [drop_cons hil]; exact decide_eq_true h)
       rw [drop_cons hil, hz34, unq_end, List.append_nil]
      ·
       rw [List.drop_eq_nil_of_le (by omega)]; simp [unq]
     refine jx ?_
     refine thenQ_x (thenQ_x (blockQ_x ?_))
     refine jn (jv1 4 ?_)
     refine js (jr ?_)
     refine Ops.cl (Enters.fn (evs.cons rfl evs.nil) Tryz.call28) ((Tryz.Builder_String_any w.heap.size g4 b _ (Bld.isB hp hb4 ho (by omega) hub) K.size)) rfl ?_
     rintro e w6 ⟨rfl, hbe⟩
     refine ⟨_, rfl, ?_⟩
     have K6 := Frm.of_below (K.below.trans hbe)
     refine ja ?_
     refine jo (jn (jv1 2 ?_))
     refine jt ?_
     refine end1 rfl ?_
     exact ⟨by rw [hv, hfin], K6⟩
end Go.Proofs.YtenbjndldenkfaaGreatDoor
namespace Go.Proofs.YtenbjndldenkfaaGreatDoor
open Go.RowKit Go.Sort
theorem gluP_last {a : List Tx} {b : Tx} {qt : Bool} : a ++ gluP b (pcs qt []) = a ++ [b] := by simp [pcs, gluP]
theorem cur_snoc {q : Tx} {f i : Nat} (hf : f ≤ i) (hi : i < q.length) : (q.drop f).take (i + 1 - f) = (q.drop f).take (i - f) ++ [q[i]] := by
 have hl : i - f < (q.drop f).length := by rw [List.length_drop]; omega
 rw [show i + 1 - f = (i - f) + 1 by omega, take_snoc hl]
 congr 2
 rw [List.getElem_drop]
 congr 1
 omega
set_option maxRecDepth 100000 in
theorem pieces_iter (q : Tx) (g1 : Nat) (hs : q.length ≤ 1000000) :
  Iter Tryz.prog 208 #[.pointer (some ⟨g1, 0, none⟩)] (fun x => #[encStr x]) [] [g1] (fun w => Blk w g1 9 #[encStr q]) (pcs false q) := by
 intro l J Jx w hJ hJx hb1 hY h0
 refine VC.calls (nt := 52) (res := #[]) Tryz.func208 rfl Tryz.ntmps208 Tryz.results208 rfl ?_
 refine js (jr ?_)
 refine Ops.r (v := .int .i64 ((0 : Nat) : Int)) (Run.asg rfl) rfl ?_
 refine ja ?_
 refine jo (jn (js (js (jr ?_))))
 refine Ops.r (v := .int .i64 ((0 : Nat) : Int)) (Run.asg rfl) rfl ?_
 refine jo (jn (jb ?_))
 refine VC.loop (σ := Nat × Nat × List Tx × Tx × Bool) (fun s1 => [(0, .func (.yield l) #[] #[]), (1, .pointer (some ⟨g1, 0, none⟩)), (3, .int .i64 ((s1.2.1 : Nat) : Int)), (4, .bool s1.2.2.2.2), (5, .int .i64 ((s1.1 : Nat) : Int))]) (fun s1 wr => s1.1 ≤ q.length + 1 ∧ s1.2.1 ≤ s1.1 ∧ s1.2.1 ≤ q.length ∧ s1.2.2.2.1 = (q.drop s1.2.1).take (s1.1 - s1.2.1) ∧ pcs false q = s1.2.2.1 ++ gluP s1.2.2.2.1 (pcs s1.2.2.2.2 (q.drop s1.1)) ∧ Blk wr g1 9 #[encStr q] ∧ J s1.2.2.1 wr) (fun s1 => q.length + 1 - s1.1) (0, 0, [], [], false) (js5 rfl rfl rfl rfl rfl) ⟨by omega, by simp, by simp, by simp, by rw [List.drop_zero, List.nil_append, gluP_nil (pcs_ne _ q)], hb1, h0⟩ ?_
 rintro ⟨i, f, a, b, qt⟩ wr ⟨hi, hfi, hfl, hb, hsp, hb1, hj⟩
 dsimp only at hi hfi hfl hb hsp hj ⊢
 refine js (js (jr (jm ?_)))
 refine Ops.r (Run.load rfl Tryz.isAgg9 (hb1.cell 0)) rfl ?_
 refine Ops.r (Run.lenT rfl Tryz.underlying9) rfl ?_
 refine Ops.r (Run.bin rfl rfl (Bin.lssN _ _)) rfl ?_
 refine jo (jn (jv6 0 1 3 4 5 9 ?_))
 refine VC.condD rfl (fun hc1 => ?_) (fun hc1 => ?_)
 ·
  have hgx : q[i]? = some q[i] := List.getElem?_eq_getElem hc1
  have hdc := drop_cons hc1
  have hcs := cur_snoc hfi hc1
  rw [← hb] at hcs
  generalize hx : q[i] = x at *
  refine jk (jn (jv5 0 1 3 4 5 ?_))
  refine js (jb (jb (js ?_)))
  refine VC.split1 [(0, _), (1, _), (3, _), (4, _), (5, _)] (js5 rfl rfl rfl rfl rfl) 12 (.bool (decide (qt = true ∧ x.toNat = 92))) ?_ ?_
  ·
   refine jr ?_
   refine jm ?_
   by_cases hs13 : qt = true
   ·
    refine jm ?_
    refine Ops.rg rfl au (Run.load rfl Tryz.isAgg9 (hb1.cell 0)) rfl ?_
    refine jg ?_
    refine Ops.rg rfl au (Run.indexT _ rfl rfl Tryz.underlying9 hgx) rfl ?_
    refine Ops.rg rfl au (Run.bin rfl rfl (Bin.eqlN _ 92)) rfl ?_
    by_cases hs18 : x.toNat = 92
    ·
     refine Ops.r (Run.pickT rfl rfl au) rfl ?_
     refine ja ?_
     refine jo ?_
     refine jn ⟨(js6 (jc (by first | (simp [*]; done) | (simp_all; done))) rfl rfl rfl rfl rfl), rfl⟩
    ·
     refine Ops.r (Run.pickT rfl rfl au) rfl ?_
     refine ja ?_
     refine jo ?_
     refine jn ⟨(js6 (jc (by first | (simp [*]; done) | (simp_all; done))) rfl rfl rfl rfl rfl), rfl⟩
   ·
    refine jm ?_
    refine ju ?_
    refine ju ?_
    refine ju ?_
    refine ju ?_
    refine Ops.r (Run.pickF rfl rfl au) rfl ?_
    refine ja ?_
    refine jo ?_
    refine jn ⟨(js6 (jc (by first | (simp [*]; done) | (simp_all; done))) rfl rfl rfl rfl rfl), rfl⟩
  ·
   intro Γ hΓ
   refine jn (VC.sub _ hΓ ?_)
   refine VC.condD rfl (fun hc2 => ?_) (fun hc2 => ?_)
   ·
    obtain ⟨rfl, h92⟩ := hc2
    have hx92 : x = 92 := UInt8.toNat_inj.1 h92
    subst hx92
    refine jr (jm ?_)
    refine Ops.r (Run.bin rfl rfl (Bin.add_i64 _ 1 (by omega))) rfl ?_
    refine ja ?_
    refine jo ?_
    refine blockQ_n (blockQ_n (jn ?_))
    refine jv5 0 1 3 4 5 ?_
    refine jr (jm ?_)
    refine Ops.r (Run.bin rfl rfl (Bin.add_i64 _ 1 (by omega))) rfl ?_
    refine ja ?_
    refine jo ?_
    refine jn ⟨(i + 2, f, a, (q.drop f).take (i + 2 - f), true), (js5 rfl rfl rfl rfl rfl), ?_, ?_⟩
    ·
     refine ⟨by dsimp only; omega, by dsimp only; omega, hfl, rfl, ?_, hb1, hj⟩
     dsimp only
     by_cases h2 : i + 1 < q.length
     ·
      have hcs2 := cur_snoc (show f ≤ i + 1 by omega) h2
      rw [show i + 1 + 1 = i + 2 by omega] at hcs2
      rw [hcs2, hcs, hsp, hdc, drop_cons h2, pcs_esc, gluP_gluP]
      simp
     ·
      rw [hsp, hdc, List.drop_eq_nil_of_le (show q.length ≤ i + 1 by omega), List.drop_eq_nil_of_le (show q.length ≤ i + 2 by omega), pcs_esc_end, gluP_gluP, ← hcs]
      rw [List.take_of_length_le (show (q.drop f).length ≤ i + 2 - f by simp; omega), List.take_of_length_le (show (q.drop f).length ≤ i + 1 - f by simp; omega)]
    ·
     simp only; omega
   ·
    refine js (jr ?_)
    refine Ops.r (Run.load rfl Tryz.isAgg9 (hb1.cell 0)) rfl ?_
    refine jm ?_
    refine Ops.r (Run.indexT _ rfl rfl Tryz.underlying9 hgx) rfl ?_
    refine Ops.r (Run.bin rfl rfl (Bin.eqlN _ 34)) rfl ?_
    refine ja ?_
    refine jo (jn (jv6 0 1 3 4 5 22 ?_))
    refine VC.condD rfl (fun hc3 => ?_) (fun hc3 => ?_)
    ·
     have hx34 : x = 34 := UInt8.toNat_inj.1 hc3
     have hsp2 : pcs false q = a ++ gluP (b ++ [x]) (pcs (!qt) (q.drop (i + 1))) := by rw [hsp, hdc, hx34, pcs_quote, gluP_gluP]
     refine jr (jm ?_)
     refine Ops.r (Run.not rfl) rfl ?_
     refine ja ?_
     refine jo ?_
     refine blockQ_n (blockQ_n (jn ?_))
     refine jv5 0 1 3 4 5 ?_
     refine jr (jm ?_)
     refine Ops.r (Run.bin rfl rfl (Bin.add_i64 _ 1 (by omega))) rfl ?_
     refine ja ?_
     refine jo ?_
     refine jn ⟨(i + 1, f, a, b ++ [x], !qt), (js5 rfl rfl rfl rfl rfl), ?_, ?_⟩
     ·
      exact ⟨by dsimp only; omega, by dsimp only; omega, hfl, hcs.symm, hsp2, hb1, hj⟩
     ·
      simp only; omega
    ·
     refine js ?_
     refine VC.split1 [(0, _), (1, _), (3, _), (4, _), (5, _)] (js5 rfl rfl rfl rfl rfl) 29 (.bool (decide (qt = false ∧ x.toNat = 59))) ?_ ?_
     ·
      refine jr ?_
      refine jm ?_
      by_cases hs30 : qt = true
      ·
       refine Ops.r (Run.not rfl) rfl ?_
       refine jm ?_
       refine ju ?_
       refine ju ?_
       refine ju ?_
       refine ju ?_
       refine Ops.r (Run.pickF rfl rfl au) rfl ?_
       refine ja ?_
       refine jo ?_
       refine jn ⟨(js6 (jc (by first | (simp [*]; done) | (simp_all; done))) rfl rfl rfl rfl rfl), rfl⟩
      ·
       refine Ops.r (Run.not rfl) rfl ?_
       refine jm ?_
       refine Ops.rg rfl au (Run.load rfl Tryz.isAgg9 (hb1.cell 0)) rfl ?_
       refine jg ?_
       refine Ops.rg rfl au (Run.indexT _ rfl rfl Tryz.underlying9 hgx) rfl ?_
       refine Ops.rg rfl au (Run.bin rfl rfl (Bin.eqlN _ 59)) rfl ?_
       by_cases hs36 : x.toNat = 59
       ·
        refine Ops.r (Run.pickT rfl rfl au) rfl ?_
        refine ja ?_
        refine jo ?_
        refine jn ⟨(js6 (jc (by first | (simp [*]; done) | (simp_all; done))) rfl rfl rfl rfl rfl), rfl⟩
       ·
        refine Ops.r (Run.pickT rfl rfl au) rfl ?_
        refine ja ?_
        refine jo ?_
        refine jn ⟨(js6 (jc (by first | (simp [*]; done) | (simp_all; done))) rfl rfl rfl rfl rfl), rfl⟩
     ·
      intro Γ hΓ
      refine jn (VC.sub _ hΓ ?_)
      refine VC.condD rfl (fun hc4 => ?_) (fun hc4 => ?_)
      ·
       obtain ⟨hqt, h59⟩ := hc4
       have hx59 : x = 59 := UInt8.toNat_inj.1 h59
       have hsp2 : pcs false q = (a ++ [b]) ++ gluP [] (pcs qt (q.drop (i + 1))) := by rw [hsp, hdc, hx59, hqt, pcs_cut, gluP_nil (pcs_ne _ _)]; simp [gluP]
       have hpre : (a ++ [b]) <+: pcs false q := ⟨gluP [] (pcs qt (q.drop (i + 1))), hsp2.symm⟩
       refine js (js (jr (jm ?_)))
       refine Ops.r (Run.load rfl Tryz.isAgg9 (hb1.cell 0)) rfl ?_
       refine jm ?_
       refine jm ?_
       refine Ops.r (Run.sliceT f i rfl Tryz.underlying9 (evB.some_ rfl) (evB.some_ rfl) hfi (by omega)) rfl ?_
       rw [← hb]
       refine Ops.yield rfl rfl (evs.cons rfl evs.nil) ((by simpa using hY a b wr hj hpre : YieldsTo Tryz.prog l #[encStr _] wr _)) rfl rfl ?_
       rintro e w1 ⟨hoff, hR0⟩
       obtain ⟨yb, rfl, hR⟩ : ∃ yb : Bool, e = .returned (.bool yb) ∧ ((yb = true ∧ J (a ++ [b]) w1) ∨ (yb = false ∧ Jx (a ++ [b]) w1)) := by
        rcases hR0 with ⟨rfl, h⟩ | ⟨rfl, h⟩
        ·
         exact ⟨true, rfl, .inl ⟨rfl, h⟩⟩
        ·
         exact ⟨false, rfl, .inr ⟨rfl, h⟩⟩
       refine ⟨_, rfl, ?_⟩
       have hb1 := hoff.blk hb1 (by simp)
       refine Ops.r (Run.not rfl) rfl ?_
       refine jo (jn (jv5 0 1 4 5 44 ?_))
       refine VC.condB rfl (fun hc5 => ?_) (fun hc5 => ?_)
       ·
        refine jt ?_
        refine thenQ_r (blockQ_r (blockQ_r (thenQ_r (thenQ_r (blockQ_r (thenQ_r (end0 ?_)))))))
        exact ⟨⟨_, rfl⟩, .inr ⟨_, (hR.resolve_left (fun h => by rw [h.1] at hc5; simp at hc5)).2⟩⟩
       ·
        refine jk (jn (jv4 0 1 4 5 ?_))
        refine jr (jm ?_)
        refine Ops.r (Run.bin rfl rfl (Bin.add_i64 _ 1 (by omega))) rfl ?_
        refine ja ?_
        refine jo ?_
        refine blockQ_n (blockQ_n (jn ?_))
        refine jv5 0 1 3 4 5 ?_
        refine jr (jm ?_)
        refine Ops.r (Run.bin rfl rfl (Bin.add_i64 _ 1 (by omega))) rfl ?_
        refine ja ?_
        refine jo ?_
        refine jn ⟨(i + 1, i + 1, a ++ [b], [], qt), (js5 rfl rfl rfl rfl rfl), ?_, ?_⟩
        ·
         exact ⟨by dsimp only; omega, by dsimp only; omega, by dsimp only; omega, by simp, hsp2, hb1, (hR.resolve_right (fun h => by rw [h.1] at hc5; simp at hc5)).2⟩
        ·
         simp only; omega
      ·
       have hsp2 : pcs false q = a ++ gluP (b ++ [x]) (pcs qt (q.drop (i + 1))) := by
        rw [hsp, hdc, pcs_other (fun h => hc2 ⟨h.1, by rw [h.2]; rfl⟩) (fun h => hc3 (by rw [h]; rfl)) (fun h => hc4 ⟨h.2, by rw [h.1]; rfl⟩), gluP_gluP]
       refine jk ?_
       refine blockQ_n (blockQ_n (jn ?_))
       refine jv5 0 1 3 4 5 ?_
       refine jr (jm ?_)
       refine Ops.r (Run.bin rfl rfl (Bin.add_i64 _ 1 (by omega))) rfl ?_
       refine ja ?_
       refine jo ?_
       refine jn ⟨(i + 1, f, a, b ++ [x], qt), (js5 rfl rfl rfl rfl rfl), ?_, ?_⟩
       ·
        exact ⟨by dsimp only; omega, by dsimp only; omega, hfl, hcs.symm, hsp2, hb1, hj⟩
       ·
        simp only; omega
 ·
  have hfin : pcs false q = a ++ [b] := by rw [hsp, List.drop_eq_nil_of_le (by omega)]; exact gluP_last
  have hbq : (q.drop f).take (q.length - f) = b := by
   rw [hb, List.take_of_length_le (by simp), List.take_of_length_le (by simp; omega)]
  have hpre : (a ++ [b]) <+: pcs false q := ⟨[], by rw [hfin]; simp⟩
  refine jx ?_
  refine thenQ_x (thenQ_x (blockQ_x ?_))
  refine jn (jv3 0 1 3 ?_)
  refine jr (jm ?_)
  refine Ops.r (Run.load rfl Tryz.isAgg9 (hb1.cell 0)) rfl ?_
  refine jm ?_
  refine Ops.r (Run.sliceT f q.length rfl Tryz.underlying9 (evB.some_ rfl) evB.none_ hfl (Nat.le_refl _)) rfl ?_
  rw [hbq]
  refine Ops.yield rfl rfl (evs.cons rfl evs.nil) ((by simpa using hY a b wr hj hpre : YieldsTo Tryz.prog l #[encStr _] wr _)) rfl rfl ?_
  rintro e w1 ⟨hoff, hR0⟩
  obtain ⟨yb, rfl, hR⟩ : ∃ yb : Bool, e = .returned (.bool yb) ∧ ((yb = true ∧ J (a ++ [b]) w1) ∨ (yb = false ∧ Jx (a ++ [b]) w1)) := by
   rcases hR0 with ⟨rfl, h⟩ | ⟨rfl, h⟩
   ·
    exact ⟨true, rfl, .inl ⟨rfl, h⟩⟩
   ·
    exact ⟨false, rfl, .inr ⟨rfl, h⟩⟩
  refine ⟨_, rfl, ?_⟩
  have hb1 := hoff.blk hb1 (by simp)
  refine jo ?_
  refine end0n ?_
  refine ⟨⟨_, rfl⟩, ?_⟩
  rcases hR with ⟨_, h⟩ | ⟨_, h⟩
  ·
   exact .inl (by rw [hfin]; exact h)
  ·
   exact .inr ⟨_, h⟩
set_option maxRecDepth 100000 in
theorem pieces_spec (q : Tx) (w : World) : Calls Tryz.prog 181 #[encStr q] w fun e w' => Frm [] w w' ∧ ∃ g1, e = .returned (.func (.func 208) #[] #[.pointer (some ⟨g1, 0, none⟩)]) ∧ Blk w' g1 9 #[encStr q] ∧ w.heap.size ≤ g1 := by
 refine VC.calls (nt := 4) (res := #[.tmp 2]) Tryz.func181 rfl Tryz.ntmps181 Tryz.results181 rfl ?_
 refine js (jr ?_)
 refine Ops.m (Does.box rfl) rfl ?_
 rintro _ w1 ⟨rfl, hF1⟩
 have hb1 := hF1.blk
 refine ja ?_
 refine jo (jn (jv1 1 ?_))
 refine js (jr ?_)
 refine Ops.r (Run.mkFunc evs.nil (evs.cons rfl evs.nil)) rfl ?_
 refine ja ?_
 refine jo (jn (jv1 2 ?_))
 refine jt ?_
 refine end1 rfl ?_
 exact ⟨hF1.frm, _, rfl, hb1, Nat.le_refl _⟩
end Go.Proofs.YtenbjndldenkfaaGreatDoor
namespace Go.Proofs.YtenbjndldenkfaaGreatDoor
open Go.RowKit Go.Sort
def mdQ : List Tx → Option Med
 | [] => some med0
 | p :: ps => if IsMed p then some (medOf p ps) else none
theorem mdQ_snoc {p x : Tx} {ps : List Tx} {m : Med} (h : mdQ (p :: ps) = some m) : mdQ (p :: ps ++ [x]) = some ⟨m.ty, m.sub, m.ps ++ parQ x⟩ := by
 have h : (if IsMed p then some (medOf p ps) else none) = some m := h
 split at h
 ·
  rename_i hm
  cases h
  show (if IsMed p then _ else _) = _
  rw [if_pos hm]
  simp [medOf, hm]
 ·
  cases h
theorem mdQ_all {q : Tx} {m : Med} (h : mdQ (pcs false q) = some m) : medQ q = m := by
 unfold medQ
 have hne := pcs_ne false q
 generalize pcs false q = l at *
 cases l with
 | nil => exact absurd rfl hne
 | cons p ps =>
  have h : (if IsMed p then some (medOf p ps) else none) = some m := h
  split at h
  ·
   cases h; rfl
  ·
   cases h
theorem medQ_bad {q p : Tx} (h : [p] <+: pcs false q) (hp : ¬ IsMed p) : medQ q = med0 := by
 obtain ⟨t, ht⟩ := h
 unfold medQ
 rw [← ht]
 show medOf p t = _
 unfold medOf
 rw [if_neg hp]
theorem mdQ_count {l : List Tx} {m : Med} (h : mdQ l = some m) : m.ps.length ≤ l.length := by
 cases l with
 | nil => cases h; simp [med0]
 | cons p ps =>
  have h : (if IsMed p then some (medOf p ps) else none) = some m := h
  split at h
  ·
   rename_i hm
   cases h
   have := pars_count ps
   show (medOf p ps).ps.length ≤ _
   rw [medOf, if_pos hm, List.length_cons]
   show (ps.flatMap parQ).length ≤ _
   omega
  ·
   cases h
theorem parQ_yes {x : Tx} (h : IsPar x) : parQ x = [(nameQ x, valQ (aftF 61 x))] := by unfold parQ; rw [if_pos h]
theorem parQ_no {x : Tx} (h : ¬ IsPar x) : parQ x = [] := by unfold parQ; rw [if_neg h]
theorem hrdP {w w' : World} {t : TypeId} {x : Par} (h : Fresh w w' t (PC1 x).toArray) : Rd w' 2 (some ⟨w.heap.size, 0, none⟩) 1 (PC [x]) := Rd.of_blk (n := 1) (size := 2) h.blk rfl
def MdC (m : Med) (A : Option Addr) (c : Nat) : Array Value := #[encStr m.ty, encStr m.sub, .slice A m.ps.length c]
theorem MdC_one (m : Med) (A : Option Addr) (c : Nat) : ∀ u ∈ (MdC m A c).toList, u.oneCell' = true := by
 intro u hu
 simp only [MdC, List.mem_cons, List.not_mem_nil, or_false] at hu
 rcases hu with rfl | rfl | rfl <;> rfl
def ReI (w : World) (q : Tx) (g2 g3 g4 : Nat) (Bt : List Nat) (pre : List Tx) (W : World) : Prop :=
 ∃ (m : Med) (A : Option Addr) (c : Nat), mdQ pre = some m ∧ pre.length ≤ q.length + 1 ∧ Frm [] w W ∧ Blk W g2 67 #[encStr [], encStr [], .slice none 0 0] ∧ Blk W g3 67 (MdC m A c) ∧ Own W 102 2 A m.ps.length c (PC m.ps) ∧ Blk W g4 4 #[.bool pre.isEmpty] ∧ (∀ x ∈ ob A, w.heap.size ≤ x ∧ x ∉ Bt) ∧ (pre = [] → A = none ∧ c = 0)
def ReX (w : World) (q : Tx) (g2 : Nat) (e : Exit) (_pre : List Tx) (W : World) : Prop :=
 e = .ret ∧ medQ q = med0 ∧ Frm [] w W ∧ Blk W g2 67 (MdC med0 none 0)
set_option maxRecDepth 100000 in
theorem read_spec (q : Tx) (w : World) (hq : q.length ≤ 900000) :
  Calls Tryz.prog 139 #[encStr q] w fun e w' => Frm [] w w' ∧ ∃ A c, e = .returned (.agg (MdC (medQ q) A c)) ∧ Own w' 102 2 A (medQ q).ps.length c (PC (medQ q).ps) ∧ (∀ x ∈ ob A, w.heap.size ≤ x) := by
 have K := Frm.refl [] w
 refine DV.calls (nt := 67) (res := #[.cell 2 67]) Tryz.func139 rfl Tryz.ntmps139 Tryz.results139 rfl ?_
 refine DV.seq ?_
 refine DV.vc ?_
 refine jr ?_
 refine Ops.m (Does.alloc zero67) rfl ?_
 rintro _ w1 ⟨rfl, hF_w1⟩
 have hb2 := hF_w1.blk
 have hs2_K := K.size
 have K := Frm.trans K hF_w1.frm (by simp)
 generalize hg2 : w.heap.size = g2 at hb2 hs2_K ⊢
 refine jo ?_
 refine thenD_n ?_
 refine DV.seq ?_
 refine DV.vc ?_
 refine jr ?_
 refine Ops.r (Run.build (evs.cons rfl (evs.cons rfl evs.nil)) zero67 (places67).choose_spec.1 (places67).choose_spec.2 rfl) rfl ?_
 refine Ops.m (Does.alloc zero67) rfl ?_
 rintro _ w2 ⟨rfl, hF_w2⟩
 have hb3 := hF_w2.blk
 have hs3_K := K.size
 have lt_hb2_3 := hb2.lt
 have hb2 := hb2.frm hF_w2.frm (by simp)
 have K := Frm.trans K hF_w2.frm (by simp)
 generalize hg3 : w1.heap.size = g3 at hb3 hs3_K lt_hb2_3 ⊢
 refine Ops.st (Acts.storeA rfl rfl Tryz.sizeOf67 hb3 rfl (MdC_one med0 none 0)) ?_
 rintro w3 ⟨hbn_w3, hf_w3, hsz_w3⟩
 have hb2 := hb2.frm hf_w3 (by simp; omega)
 have hb3 : Blk w3 g3 67 (MdC med0 none 0) := hbn_w3
 have K := Frm.own K hf_w3 (fun y hy => by simp at hy; omega)
 refine jo ?_
 refine thenD_n ?_
 refine DV.sub [(0, _), (2, _), (3, _)] (js3 rfl rfl rfl) ?_
 refine DV.seq ?_
 refine DV.vc ?_
 refine jr ?_
 refine Ops.m (Does.alloc zero4) rfl ?_
 rintro _ w4 ⟨rfl, hF_w4⟩
 have hb4 := hF_w4.blk
 have hs4_K := K.size
 have lt_hb2_4 := hb2.lt
 have lt_hb3_4 := hb3.lt
 have hb2 := hb2.frm hF_w4.frm (by simp)
 have hb3 := hb3.frm hF_w4.frm (by simp)
 have K := Frm.trans K hF_w4.frm (by simp)
 generalize hg4 : w3.heap.size = g4 at hb4 hs4_K lt_hb2_4 lt_hb3_4 ⊢
 refine Ops.st (Acts.store rfl rfl Tryz.sizeOf4 hb4 rfl rfl) ?_
 rintro w5 ⟨hbn_w5, hf_w5, hsz_w5⟩
 have hb2 := hb2.frm hf_w5 (by simp; omega)
 have hb3 := hb3.frm hf_w5 (by simp; omega)
 have hb4 : Blk w5 g4 4 (#[.bool true]) := hbn_w5
 have K := Frm.own K hf_w5 (fun y hy => by simp at hy; omega)
 refine jo ?_
 refine thenD_n ?_
 refine DV.seq ?_
 refine DV.seq ?_
 refine DV.vc ?_
 refine jr (jm ?_)
 refine Ops.cl (Enters.fn (evs.cons rfl evs.nil) Tryz.call181) (pieces_spec q _) rfl ?_
 rintro e w6 ⟨hf_w6, g1, rfl, hp1, hg1⟩
 have l2 := hb2.lt
 have l3 := hb3.lt
 have l4 := hb4.lt
 have l1 := hp1.lt
 refine ⟨_, rfl, ?_⟩
 have hb2 := hb2.frm hf_w6 (by simp)
 have hb3 := hb3.frm hf_w6 (by simp)
 have hb4 := hb4.frm hf_w6 (by simp)
 have K := Frm.trans K hf_w6 (by simp)
 refine jo ?_
 refine thenD_n ?_
 refine DV.sub [(2, _), (3, _), (4, _), (14, _)] (js4 rfl rfl rfl rfl) ?_
 refine DV.block ?_
 have hKs := K.size
 refine DV.range (ps := [15]) (fun x => [encStr x]) (pieces_iter q g1 (by omega)) rfl Tryz.call208 (fun _ => rfl) rfl (ReI w q g2 g3 g4 [g1]) (ReX w q g2) (fun x => [(2, .pointer (some ⟨g2, 0, none⟩)), (3, .pointer (some ⟨g3, 0, none⟩)), (4, .pointer (some ⟨g4, 0, none⟩)), (5, encStr x)]) ?_ ?_ ?_ ?_ ?_ ?_ ?_ ?_ ?_ ?_ ?_
 ·
  rintro pre W W' S ⟨m, A, c, h1, h2, h3, h4, h5, h6, h7, h8, h9⟩ hf hS
  exact ⟨m, A, c, h1, h2, h3.nc hf hS (by simp) K.size, h4.frm hf (h4.nc hS (by simp)), h5.frm hf (h5.nc hS (by simp)), h6.frm hf (h6.nc hS (by simp)), h7.frm hf (h7.nc hS (by simp)), h8, h9⟩
 ·
  rintro e pre W W' S ⟨h1, h2, h3, h4⟩ hf hS
  exact ⟨h1, h2, h3.nc hf hS (by simp) K.size, h4.frm hf (h4.nc hS (by simp))⟩
 ·
  exact fun W hf => hp1.frm hf (by simp)
 ·
  simp
 ·
  simp; omega
 ·
  exact ⟨med0, none, 0, rfl, by simp, K, hb2, hb3, Own.nil _ _ _, hb4, by simp [ob], fun _ => ⟨rfl, rfl⟩⟩
 ·
  intro l x W
  refine jv4 2 3 4 15 ?_
  refine jr (ja ?_)
  refine jo ?_
  refine jn ⟨rfl, (js4 rfl rfl rfl rfl)⟩
 ·
  rintro l pre x W ⟨m, A, c, hm, hpl, K, hb2, hb3, hA, hb4, hAB, hnil⟩ hpre hsz hmk
  have hxm : x ∈ pcs false q := hpre.subset (by simp)
  have hxl := Nat.le_trans (pcs_len _ _ _ (Nat.le_refl _) x hxm) (show q.length ≤ 1000000 by omega)
  have hmc := mdQ_count hm
  have hpc := pcs_count _ false q (Nat.le_refl _)
  have KW := Frm.refl [] W
  have h20 := hb2
  have h30 := hb3
  have h40 := hb4
  have hA0 := hA
  have K0 := K
  refine jb (js (js (jr ?_)))
  refine Ops.r (Run.load rfl Tryz.isAgg4 (hb4.cell 0)) rfl ?_
  refine jo (jn ?_)
  refine VC.condB rfl (fun hc1 => ?_) (fun hc1 => ?_)
  ·
   obtain rfl : pre = [] := by simpa using hc1
   have h0m : m = med0 ∧ A = none ∧ c = 0 := ⟨by cases hm; rfl, hnil rfl⟩
   refine js (jr (jm ?_))
   refine Ops.cl (Enters.fn (evs.cons rfl evs.nil) Tryz.call182) (ptrim_spec x _ hxl) rfl ?_
   rintro e W1 ⟨rfl, hf_W1⟩
   refine ⟨_, rfl, ?_⟩
   have hb2 := hb2.frm hf_W1 (by simp)
   have hb3 := hb3.frm hf_W1 (by simp)
   have hb4 := hb4.frm hf_W1 (by simp)
   have hA := hA.frm hf_W1 (by simp)
   have KW := Frm.trans KW hf_W1 (by simp)
   have K := Frm.trans K hf_W1 (by simp)
   have htl := trimQ_len x
   have hIM : IsMed x ↔ (47 ∈ trimQ x ∧ TokQ (befF 47 (trimQ x)) ∧ TokQ (aftF 47 (trimQ x))) := Iff.rfl
   have hmo : IsMed x → medOf x [] = ⟨smallS (befF 47 (trimQ x)), smallS (aftF 47 (trimQ x)), []⟩ := fun h => by unfold medOf; rw [if_pos h]; rfl
   have htq : leftB (rightB x) = trimQ x := rfl
   rw [htq]
   generalize htp : trimQ x = tp at *
   have hlb := bef_len 47 tp
   refine Ops.cl (Enters.fn (evs.cons rfl (evs.cons rfl evs.nil)) Tryz.call79) (cut_spec tp 47 _ (by omega)) rfl ?_
   rintro e W2 ⟨rfl, hf_W2⟩
   refine ⟨_, rfl, ?_⟩
   have hb2 := hb2.frm hf_W2 (by simp)
   have hb3 := hb3.frm hf_W2 (by simp)
   have hb4 := hb4.frm hf_W2 (by simp)
   have hA := hA.frm hf_W2 (by simp)
   have KW := Frm.trans KW hf_W2 (by simp)
   have K := Frm.trans K hf_W2 (by simp)
   refine jm ?_
   refine Ops.r (Run.extract rfl rfl) rfl ?_
   refine Ops.r (Run.extract rfl rfl) rfl ?_
   refine Ops.r (Run.extract rfl rfl) rfl ?_
   refine ja ?_
   refine ja ?_
   refine ja ?_
   refine jo (jn (jv6 2 3 4 6 7 8 ?_))
   refine js (js ?_)
   refine VC.split1 [(2, _), (3, _), (4, _), (6, _), (7, _)] (js5 rfl rfl rfl rfl rfl) 35 (.bool (decide (¬ IsMed x))) ?_ ?_
   ·
    refine jr ?_
    refine jm ?_
    by_cases hs24 : 47 ∈ tp
    ·
     refine Ops.r (Run.not rfl) rfl ?_
     refine jm ?_
     refine jg ?_
     refine Ops.clg rfl au (Enters.fn (evs.cons rfl evs.nil) Tryz.call76) (token_spec (befF 47 tp) _ (by omega)) rfl ?_
     rintro e _ ⟨rfl, rfl⟩
     refine ⟨_, rfl, ?_⟩
     by_cases hs28 : TokQ (befF 47 tp)
     ·
      refine Ops.rg rfl au (Run.not rfl) rfl ?_
      refine Ops.r (Run.pickF rfl rfl au) rfl ?_
      refine jm ?_
      refine jg ?_
      refine Ops.clg rfl au (Enters.fn (evs.cons rfl evs.nil) Tryz.call76) (token_spec (aftF 47 tp) _ (by omega)) rfl ?_
      rintro e _ ⟨rfl, rfl⟩
      refine ⟨_, rfl, ?_⟩
      by_cases hs33 : TokQ (aftF 47 tp)
      ·
       refine Ops.rg rfl au (Run.not rfl) rfl ?_
       refine Ops.r (Run.pickF rfl rfl au) rfl ?_
       refine jo ?_
       refine jn ⟨(js6 (jc (by (rw [show decide (¬ IsMed x) = decide (¬ (47 ∈ tp ∧ TokQ (befF 47 tp) ∧ TokQ (aftF 47 tp))) from decide_eq_decide.2 (not_congr hIM)]; simp [*]))) rfl rfl rfl rfl rfl), rfl⟩
      ·
       refine Ops.rg rfl au (Run.not rfl) rfl ?_
       refine Ops.r (Run.pickF rfl rfl au) rfl ?_
       refine jo ?_
       refine jn ⟨(js6 (jc (by (rw [show decide (¬ IsMed x) = decide (¬ (47 ∈ tp ∧ TokQ (befF 47 tp) ∧ TokQ (aftF 47 tp))) from decide_eq_decide.2 (not_congr hIM)]; simp [*]))) rfl rfl rfl rfl rfl), rfl⟩
     ·
      refine Ops.rg rfl au (Run.not rfl) rfl ?_
      refine Ops.r (Run.pickF rfl rfl au) rfl ?_
      refine jm ?_
      refine ju ?_
      refine ju ?_
      refine ju ?_
      refine Ops.r (Run.pickT rfl rfl au) rfl ?_
      refine jo ?_
      refine jn ⟨(js6 (jc (by (rw [show decide (¬ IsMed x) = decide (¬ (47 ∈ tp ∧ TokQ (befF 47 tp) ∧ TokQ (aftF 47 tp))) from decide_eq_decide.2 (not_congr hIM)]; simp [*]))) rfl rfl rfl rfl rfl), rfl⟩
    ·
     refine Ops.r (Run.not rfl) rfl ?_
     refine jm ?_
     refine ju ?_
     refine ju ?_
     refine ju ?_
     refine Ops.r (Run.pickT rfl rfl au) rfl ?_
     refine jm ?_
     refine ju ?_
     refine ju ?_
     refine ju ?_
     refine Ops.r (Run.pickT rfl rfl au) rfl ?_
     refine jo ?_
     refine jn ⟨(js6 (jc (by (rw [show decide (¬ IsMed x) = decide (¬ (47 ∈ tp ∧ TokQ (befF 47 tp) ∧ TokQ (aftF 47 tp))) from decide_eq_decide.2 (not_congr hIM)]; simp [*]))) rfl rfl rfl rfl rfl), rfl⟩
   ·
    intro Γ hΓ
    refine jn (VC.sub _ hΓ ?_)
    refine VC.condD rfl (fun hc2 => ?_) (fun hc2 => ?_)
    ·
     refine js (jr ?_)
     refine Ops.r (Run.loadA rfl Tryz.isAgg67 Tryz.sizeOf67 (fun j v hj => hb3.cells j v hj) (by first | rfl | (simp; done))) rfl ?_
     refine Ops.st (Acts.storeA rfl rfl Tryz.sizeOf67 hb2 rfl (MdC_one m A c)) ?_
     rintro W3 ⟨hb2n, hf3, _⟩
     have hb2n : Blk W3 g2 67 (MdC m A c) := hb2n
     refine jo (jn (jv1 2 ?_))
     refine jt ?_
     refine thenQ_r (thenQ_r (blockQ_r (?_)))
     obtain ⟨rfl, rfl, rfl⟩ := h0m
     refine ⟨⟨[g2], (KW.mono (T := [g2]) (by simp)).trans hf3 (by simp), ?_⟩, rfl, medQ_bad hpre hc2, Frm.own K hf3 (fun y hy => by simp at hy; omega), hb2n⟩
     intro b hb
     simp only [List.mem_singleton] at hb
     subst hb
     exact ⟨by simp; omega, h20.isC⟩
    ·
     refine jk (jn (jv4 3 4 6 7 ?_))
     refine js (jr (jm ?_))
     refine Ops.cl (Enters.fn (evs.cons rfl evs.nil) Tryz.call183) (lower_spec (befF 47 tp) _ (by omega)) rfl ?_
     rintro e W4 ⟨rfl, hf_W4⟩
     refine ⟨_, rfl, ?_⟩
     have hb2 := hb2.frm hf_W4 (by simp)
     have hb3 := hb3.frm hf_W4 (by simp)
     have hb4 := hb4.frm hf_W4 (by simp)
     have hA := hA.frm hf_W4 (by simp)
     have KW := Frm.trans KW hf_W4 (by simp)
     have K := Frm.trans K hf_W4 (by simp)
     refine jm ?_
     refine Ops.cl (Enters.fn (evs.cons rfl evs.nil) Tryz.call183) (lower_spec (aftF 47 tp) _ (by omega)) rfl ?_
     rintro e W5 ⟨rfl, hf_W5⟩
     refine ⟨_, rfl, ?_⟩
     have hb2 := hb2.frm hf_W5 (by simp)
     have hb3 := hb3.frm hf_W5 (by simp)
     have hb4 := hb4.frm hf_W5 (by simp)
     have hA := hA.frm hf_W5 (by simp)
     have KW := Frm.trans KW hf_W5 (by simp)
     have K := Frm.trans K hf_W5 (by simp)
     refine Ops.r (Run.fieldAddr rfl Tryz.underlying67 rfl Tryz.sizeOf9 (by decide)) rfl ?_
     obtain ⟨rfl, rfl, rfl⟩ := h0m
     refine Ops.st (Acts.store rfl rfl Tryz.sizeOf9 hb3 rfl rfl) ?_
     rintro W6 ⟨hbn, hf_W6, _⟩
     have hA := hA.frm hf_W6 (fun y hy => by have := hA.ne_blk hb3 (by decide); simp; rintro rfl; exact this hy)
     have hb2 := hb2.frm hf_W6 (by simp; omega)
     have hb4 := hb4.frm hf_W6 (by simp; omega)
     have hb3 : Blk W6 g3 67 (#[encStr (smallS (befF 47 tp)), encStr med0.sub, .slice none 0 0]) := hbn
     have KW := (KW.mono (T := [g3, g4]) (by simp)).trans hf_W6 (by simp)
     have K := Frm.own K hf_W6 (fun y hy => by simp at hy; omega)
     refine Ops.r (Run.fieldAddr rfl Tryz.underlying67 rfl Tryz.sizeOf9 (by decide)) rfl ?_
     refine Ops.st (Acts.store rfl rfl Tryz.sizeOf9 hb3 rfl rfl) ?_
     rintro W7 ⟨hbn, hf_W7, _⟩
     have hA := hA.frm hf_W7 (fun y hy => by have := hA.ne_blk hb3 (by decide); simp; rintro rfl; exact this hy)
     have hb2 := hb2.frm hf_W7 (by simp; omega)
     have hb4 := hb4.frm hf_W7 (by simp; omega)
     have hb3 : Blk W7 g3 67 (#[encStr (smallS (befF 47 tp)), encStr (smallS (aftF 47 tp)), .slice none 0 0]) := hbn
     have KW := (KW.mono (T := [g3, g4]) (by simp)).trans hf_W7 (by simp)
     have K := Frm.own K hf_W7 (fun y hy => by simp at hy; omega)
     refine Ops.st (Acts.store rfl rfl Tryz.sizeOf4 hb4 rfl rfl) ?_
     rintro W8 ⟨hbn, hf_W8, _⟩
     have hA := hA.frm hf_W8 (fun y hy => by have := hA.ne_blk hb4 (by decide); simp; rintro rfl; exact this hy)
     have hb2 := hb2.frm hf_W8 (by simp; omega)
     have hb3 := hb3.frm hf_W8 (by simp; omega)
     have hb4 : Blk W8 g4 4 (#[.bool false]) := hbn
     have KW := (KW.mono (T := [g3, g4]) (by simp)).trans hf_W8 (by simp)
     have K := Frm.own K hf_W8 (fun y hy => by simp at hy; omega)
     refine jo (jn ?_)
     refine VC.sub [] .nil ?_
     refine jx ?_
     refine thenQ_x (blockQ_x ?_)
     refine ⟨⟨[g3, g4], KW, ?_⟩, medOf x [], none, 0, ?_, by simp, K, hb2, ?_, ?_, hb4, by simp [ob], fun h => absurd h (by simp)⟩
     ·
      intro b hb
      simp only [List.mem_cons, List.not_mem_nil, or_false] at hb
      rcases hb with rfl | rfl
      ·
       exact ⟨by simp; omega, h30.isC⟩
      ·
       exact ⟨by simp; omega, h40.isC⟩
     ·
      show (if IsMed x then _ else _) = _
      rw [if_pos (Classical.not_not.1 hc2)]
     ·
      rw [hmo (Classical.not_not.1 hc2)]; exact hb3
     ·
      rw [hmo (Classical.not_not.1 hc2)]; exact hA
  ·
   obtain ⟨p0, ps0, hprE⟩ : ∃ p ps, pre = p :: ps := by
    cases pre with
    | nil => exact absurd hc1 (by simp)
    | cons p ps => exact ⟨p, ps, rfl⟩
   have hpF : pre.isEmpty = false := by rw [hprE]; rfl
   refine jk (jn (jv2 3 5 ?_))
   refine js (jr (jm ?_))
   refine Ops.cl (Enters.fn (evs.cons rfl (evs.cons rfl evs.nil)) Tryz.call79) (cut_spec x 61 _ hxl) rfl ?_
   rintro e V1 ⟨rfl, hf_V1⟩
   refine ⟨_, rfl, ?_⟩
   have hb2 := hb2.frm hf_V1 (by simp)
   have hb3 := hb3.frm hf_V1 (by simp)
   have hb4 := hb4.frm hf_V1 (by simp)
   have hA := hA.frm hf_V1 (by simp)
   have KW := Frm.trans KW hf_V1 (by simp)
   have K := Frm.trans K hf_V1 (by simp)
   have hlb := bef_len 61 x
   have hlt := trimQ_len (befF 61 x)
   have hIP : IsPar x ↔ (61 ∈ x ∧ TokQ (nameQ x)) := Iff.rfl
   have hnq : smallS (trimQ (befF 61 x)) = nameQ x := rfl
   refine jm ?_
   refine Ops.r (Run.extract rfl rfl) rfl ?_
   refine Ops.r (Run.extract rfl rfl) rfl ?_
   refine Ops.r (Run.extract rfl rfl) rfl ?_
   refine ja ?_
   refine ja ?_
   refine ja ?_
   refine jo (jn (jv4 3 9 10 11 ?_))
   refine js (jr (jm ?_))
   refine Ops.cl (Enters.fn (evs.cons rfl evs.nil) Tryz.call182) (ptrim_spec (befF 61 x) _ (by omega)) rfl ?_
   rintro e V2 ⟨rfl, hf_V2⟩
   refine ⟨_, rfl, ?_⟩
   have hb2 := hb2.frm hf_V2 (by simp)
   have hb3 := hb3.frm hf_V2 (by simp)
   have hb4 := hb4.frm hf_V2 (by simp)
   have hA := hA.frm hf_V2 (by simp)
   have KW := Frm.trans KW hf_V2 (by simp)
   have K := Frm.trans K hf_V2 (by simp)
   rw [show leftB (rightB (befF 61 x)) = trimQ (befF 61 x) from rfl]
   refine Ops.cl (Enters.fn (evs.cons rfl evs.nil) Tryz.call183) (lower_spec (trimQ (befF 61 x)) _ (by omega)) rfl ?_
   rintro e V3 ⟨rfl, hf_V3⟩
   refine ⟨_, rfl, ?_⟩
   have hb2 := hb2.frm hf_V3 (by simp)
   have hb3 := hb3.frm hf_V3 (by simp)
   have hb4 := hb4.frm hf_V3 (by simp)
   have hA := hA.frm hf_V3 (by simp)
   have KW := Frm.trans KW hf_V3 (by simp)
   have K := Frm.trans K hf_V3 (by simp)
   have hnl := smallS_len (trimQ (befF 61 x))
   rw [hnq] at hnl ⊢
   refine ja ?_
   refine jo (jn (jv4 3 9 10 11 ?_))
   refine js ?_
   refine VC.split1 [(3, _), (9, _), (10, _)] (js3 rfl rfl rfl) 56 (.bool (decide (IsPar x))) ?_ ?_
   ·
    refine jr ?_
    refine jm ?_
    by_cases hs52 : 61 ∈ x
    ·
     refine jm ?_
     refine jg ?_
     refine Ops.clg rfl au (Enters.fn (evs.cons rfl evs.nil) Tryz.call76) (token_spec (nameQ x) _ (by omega)) rfl ?_
     rintro e _ ⟨rfl, rfl⟩
     refine ⟨_, rfl, ?_⟩
     by_cases hs55 : TokQ (nameQ x)
     ·
      refine Ops.r (Run.pickT rfl rfl au) rfl ?_
      refine jo ?_
      refine jn ⟨(js4 (jc (by (rw [show decide (IsPar x) = decide (61 ∈ x ∧ TokQ (nameQ x)) from decide_eq_decide.2 hIP]; simp [*]))) rfl rfl rfl), rfl⟩
     ·
      refine Ops.r (Run.pickT rfl rfl au) rfl ?_
      refine jo ?_
      refine jn ⟨(js4 (jc (by (rw [show decide (IsPar x) = decide (61 ∈ x ∧ TokQ (nameQ x)) from decide_eq_decide.2 hIP]; simp [*]))) rfl rfl rfl), rfl⟩
    ·
     refine jm ?_
     refine ju ?_
     refine ju ?_
     refine Ops.r (Run.pickF rfl rfl au) rfl ?_
     refine jo ?_
     refine jn ⟨(js4 (jc (by (rw [show decide (IsPar x) = decide (61 ∈ x ∧ TokQ (nameQ x)) from decide_eq_decide.2 hIP]; simp [*]))) rfl rfl rfl), rfl⟩
   ·
    intro Γ hΓ
    refine jn (VC.sub _ hΓ ?_)
    refine VC.condD rfl (fun hc3 => ?_) (fun hc3 => ?_)
    ·
     refine VC.heldL 9 (fun W => Frm (ob A) V3 W) jK ?_
     have hS0 : Frm [] V3 V3.drew := (Frm.refl [] V3).drew
     have hnA0 := hA.ne_blk hb3 (by decide)
     have hS : Frm (ob A) V3 V3.drew := hS0.mono (by simp)
     have hA := hA.frm hS0 (by simp)
     have KW := KW.drew
     have K := K.drew
     have hb2 := hb2.frm hS0 (by simp)
     have hb3v := hb3
     have hb3 := hb3.frm hS0 (by simp)
     have hb4 := hb4.frm hS0 (by simp)
     refine jh 0 rfl hS (fun w0 hw0 => Run.fieldAddr rfl Tryz.underlying67 rfl Tryz.sizeOf65 (by decide)) ?_
     refine jh 1 rfl hS (fun w0 hw0 => Run.load rfl Tryz.isAgg65 ((hb3v.frm hw0 hnA0).cell 2)) ?_
     refine jh 2 rfl hS (fun w0 hw0 => Run.mv rfl) ?_
     refine HOps.r1 3 rfl jK hS (Run.mv rfl) trivial rfl rfl ?_
     refine HOps.cl 4 rfl jK (Enters.fn (evs.cons rfl evs.nil) Tryz.call184) (value_spec (aftF 61 x) _ (by omega)) trivial rfl rfl ?_
     rintro e V4 ⟨rfl, hf_V4⟩
     have hb2 := hb2.frm hf_V4 (by simp)
     have hb3 := hb3.frm hf_V4 (by simp)
     have hb4 := hb4.frm hf_V4 (by simp)
     have hA := hA.frm hf_V4 (by simp)
     have KW := Frm.trans KW hf_V4 (by simp)
     have K := Frm.trans K hf_V4 (by simp)
     have hS := Frm.trans hS hf_V4 (by simp)
     refine ⟨_, rfl, hS, ?_⟩
     refine HOps.r1 5 rfl jK hS (Run.build (evs.cons rfl (evs.cons rfl evs.nil)) zero102 (places102).choose_spec.1 (places102).choose_spec.2 rfl) trivial rfl rfl ?_
     refine HOps.m 6 rfl jK (Does.buildS1 rfl Tryz.underlying65 Tryz.sizeOf102 zero102 (by decide) (by decide) rfl rfl) trivial rfl rfl ?_
     rintro _ V5 ⟨rfl, hF5⟩
     have hrd := hrdP (x := (nameQ x, valQ (aftF 61 x))) hF5
     have hA := hA.frm hF5.frm (by simp)
     have hb2 := hb2.frm hF5.frm (by simp)
     have hb3 := hb3.frm hF5.frm (by simp)
     have hb4 := hb4.frm hF5.frm (by simp)
     have KW := KW.trans hF5.frm (by simp)
     have K := K.trans hF5.frm (by simp)
     have hS := hS.trans hF5.frm (by simp)
     refine ⟨hS, ?_⟩
     refine HOps.m 7 rfl jK (Does.app rfl rfl Tryz.underlying65 (info102) rfl (by decide) hA hrd (PC_one _) (by omega) (by omega)) trivial rfl rfl ?_
     rintro _ V6 ⟨A6, c6, rfl, hA6, hf6, hob6⟩
     rw [← PC_append] at hA6
     have hne : ∀ y ∈ ob A, y ≠ g2 ∧ y ≠ g3 ∧ y ≠ g4 := fun y hy => ⟨by rintro rfl; exact hA.ne_blk hb2 (by decide) hy, by rintro rfl; exact hA.ne_blk hb3 (by decide) hy, by rintro rfl; exact hA.ne_blk hb4 (by decide) hy⟩
     have hb2 := hb2.frm hf6 (fun hy => (hne _ hy).1 rfl)
     have hb3 := hb3.frm hf6 (fun hy => (hne _ hy).2.1 rfl)
     have hb4 := hb4.frm hf6 (fun hy => (hne _ hy).2.2 rfl)
     have K := Frm.own K hf6 (fun y hy => (hAB y hy).1)
     have hnA := hA6.ne_blk hb3 (by decide)
     have hS := hS.trans hf6 (fun y hy => .inl hy)
     refine ⟨hS, ?_⟩
     refine HOps.r1 8 rfl jK hS (Run.fieldAddr rfl Tryz.underlying67 rfl Tryz.sizeOf65 (by decide)) trivial rfl rfl ?_
     refine HOps.stL rfl jK (Acts.store rfl rfl Tryz.sizeOf65 hb3 rfl rfl) trivial rfl ?_
     rintro V7 ⟨hb3n, hf7, _⟩
     refine HOps.done jK ?_
     refine blockQ_n (?_)
     refine ⟨⟨ob A ++ [g3], ?_, ?_⟩, ⟨m.ty, m.sub, m.ps ++ parQ x⟩, A6, c6, ?_, ?_, Frm.own K hf7 (fun y hy => by simp at hy; omega), hb2.frm hf7 (by simp; omega), ?_, ?_, ?_, ?_, fun h => absurd h (by simp)⟩
     ·
      exact ((KW.mono (T := ob A ++ [g3]) (by simp)).trans hf6 (fun y hy => .inl (by simp [hy]))).trans hf7 (fun y hy => .inl (by simp at hy; simp [hy]))
     ·
      intro b hb
      rcases List.mem_append.1 hb with h | h
      ·
       exact ⟨(hAB b h).2, hA0.isC b h⟩
      ·
       simp only [List.mem_singleton] at h
       subst h
       exact ⟨by simp; omega, h30.isC⟩
     ·
      rw [hprE]; exact mdQ_snoc (hprE ▸ hm)
     ·
      have := hpre.length_le; omega
     ·
      rw [parQ_yes hc3]
      unfold MdC
      rw [List.length_append]
      exact hb3n
     ·
      rw [parQ_yes hc3, List.length_append]
      exact hA6.frm hf7 (fun y hy => by simp; rintro rfl; exact hnA hy)
     ·
      rw [show (pre ++ [x]).isEmpty = false by simp, ← hpF]; exact hb4.frm hf7 (by simp; omega)
     ·
      intro y hy
      rcases hob6 with h | h
      ·
       rw [h] at hy; exact hAB y hy
      ·
       rw [h] at hy
       simp only [List.mem_singleton] at hy
       have := K0.size
       have := KW.size
       subst hy
       exact ⟨by omega, by simp; omega⟩
    ·
     refine jk ?_
     refine blockQ_n (?_)
     refine ⟨.frm0 KW, ⟨m.ty, m.sub, m.ps ++ parQ x⟩, A, c, ?_, ?_, K, hb2, ?_, ?_, ?_, hAB, fun h => absurd h (by simp)⟩
     ·
      rw [hprE]; exact mdQ_snoc (hprE ▸ hm)
     ·
      have := hpre.length_le; omega
     ·
      rw [parQ_no hc3, List.append_nil]; exact hb3
     ·
      rw [parQ_no hc3, List.append_nil]; exact hA
     ·
      rw [show (pre ++ [x]).isEmpty = false by simp, ← hpF]; exact hb4
 ·
  rintro W ⟨m, A, c, hm, hpl, K, hb2, hb3, hA, hb4, hAB, _⟩ hsz hmk
  refine blockD_n (thenD_n ?_)
  refine DV.sub [(2, _), (3, _)] (js2 rfl rfl) ?_
  refine DV.seq ?_
  refine DV.vc ?_
  refine jr ?_
  refine Ops.r (Run.loadA rfl Tryz.isAgg67 Tryz.sizeOf67 (fun j v hj => hb3.cells j v hj) (by first | rfl | (simp; done))) rfl ?_
  refine Ops.st (Acts.storeA rfl rfl Tryz.sizeOf67 hb2 rfl (MdC_one m A c)) ?_
  rintro V8 ⟨hb2n, hf8, _⟩
  have hb2n : Blk V8 g2 67 (MdC m A c) := hb2n
  have hmk := hmk.frm hf8 (by simp; exact hmk.ne_blk hb2)
  have hA := hA.frm hf8 (fun y hy => by have := hA.ne_blk hb2 (by decide); simp; rintro rfl; exact this hy)
  have K := Frm.own K hf8 (fun y hy => by simp at hy; omega)
  refine jo ?_
  refine thenD_n ?_
  refine DV.sub [(2, _)] (js1 rfl) ?_
  refine DV.vc (jt ?_)
  refine endD_r (by simp) (fun d hd => by simp only [List.mem_singleton] at hd; subst hd; exact hmk) (fun wz hsh => ?_)
  have hb2n := hb2n.frm hsh (by simp; omega)
  have hA := hA.frm hsh (fun y hy => by have := hmk.ne_own hA; simp; rintro rfl; exact this hy)
  have K := Frm.own K hsh (fun y hy => by have := hKs; simp at hy; omega)
  refine endR ?_
  refine res_cellA rfl Tryz.isAgg67 Tryz.sizeOf67 (fun j v hj => hb2n.cells j v hj) (by first | rfl | (simp; done)) ?_
  refine res_nil ?_
  rw [mdQ_all hm]
  exact ⟨K, A, c, rfl, hA, fun x hx => by have := (hAB x hx).1; omega⟩
 ·
  rintro pre W ⟨_, hno, K, hb2⟩ hsz hmk
  refine blockD_r (thenD_r (endD_r (by simp) (fun d hd => by simp only [List.mem_singleton] at hd; subst hd; exact hmk) (fun wz hsh => ?_)))
  have hb2 := hb2.frm hsh (by simp; omega)
  have K := Frm.own K hsh (fun y hy => by have := hKs; simp at hy; omega)
  refine endR ?_
  refine res_cellA rfl Tryz.isAgg67 Tryz.sizeOf67 (fun j v hj => hb2.cells j v hj) (by first | rfl | (simp; done)) ?_
  refine res_nil ?_
  rw [hno]
  exact ⟨K, none, 0, rfl, Own.nil _ _ _, by simp [ob]⟩
 ·
  exact fun _ _ _ h => absurd h.1 (by simp)
end Go.Proofs.YtenbjndldenkfaaGreatDoor
namespace Go.Proofs.YtenbjndldenkfaaGreatDoor
open Go.RowKit Go.Sort
theorem PC_at {w : World} {A : Option Addr} {l : List Par} {k : Nat} (h : Rd w 2 A l.length (PC l)) (hk : k < l.length) : ∃ ad, A = some ad ∧ ∀ j v, (PC1 l[k])[j]? = some v → w.cell? ((ad.add (k * 2)).add j) = some v := by
 obtain ⟨ad, rfl, hc⟩ := h.elem hk
 refine ⟨ad, rfl, fun j v hj => hc j v ?_⟩
 rw [show PC l = l.flatMap PC1 from rfl, flat_get PC1 2 PC1_len l k hk]
 exact hj
def findQ : List Par → Tx → Tx × Bool
 | [], _ => ([], false)
 | p :: r, n => if p.1 = n then (p.2, true) else findQ r n
theorem findQ_no {n : Tx} : ∀ {l : List Par}, (∀ p ∈ l, p.1 ≠ n) → findQ l n = ([], false)
 | [], _ => rfl
 | p :: r, h => by rw [findQ, if_neg (h p (by simp)), findQ_no fun p hp => h p (by simp [hp])]
theorem findQ_at {n : Tx} : ∀ {l : List Par} {i : Nat} (hi : i < l.length), (∀ p ∈ l.take i, p.1 ≠ n) → l[i].1 = n → findQ l n = (l[i].2, true)
 | [], _, h, _, _ => by simp at h
 | p :: r, 0, _, _, h => by rw [findQ, if_pos (show p.1 = n from h)]; rfl
 | p :: r, i + 1, hi, h1, h => by
  rw [findQ, if_neg (h1 p (by simp)), findQ_at (i := i) (by simpa using hi) (fun p hp => h1 p (by simp [hp])) (by simpa using h)]
  rfl
set_option maxRecDepth 100000 in
theorem findC_spec (x : Par) (gn : Nat) (n : Tx) (w : World) (hbn : Blk w gn 9 #[encStr n]) :
  Calls Tryz.prog 141 #[.agg (PC1 x).toArray, .pointer (some ⟨gn, 0, none⟩)] w fun e w' => e = .returned (.bool (decide (x.1 = n))) ∧ Frm [] w w' := by
 refine VC.calls (nt := 8) (res := #[.tmp 3]) Tryz.func141 rfl Tryz.ntmps141 Tryz.results141 rfl ?_
 refine js (jr ?_)
 refine Ops.m (Does.box rfl) rfl ?_
 rintro _ w1 ⟨rfl, hF1⟩
 have hb2 : Blk w1 w.heap.size 102 (PC1 x).toArray := hF1.blk
 have hbn := hbn.frm hF1.frm (by simp)
 generalize hg2 : w.heap.size = g2 at hb2 ⊢
 refine ja ?_
 refine jo (jn (jv2 1 2 ?_))
 refine js (jr ?_)
 refine Ops.r (Run.fieldAddr rfl Tryz.underlying102 rfl Tryz.sizeOf9 (by decide)) rfl ?_
 refine Ops.r (Run.load rfl Tryz.isAgg9 (hb2.cell 0)) rfl ?_
 refine Ops.r (Run.load rfl Tryz.isAgg9 (hbn.cell 0)) rfl ?_
 refine Ops.r (Run.eqlT rfl rfl) rfl ?_
 refine ja ?_
 refine jo (jn (jv1 3 ?_))
 refine jt ?_
 refine end1 rfl ?_
 exact ⟨rfl, hF1.frm⟩
set_option maxRecDepth 100000 in
theorem idxP_spec (A : Option Addr) (c : Nat) (l : List Par) (gn : Nat) (n : Tx) (w : World) (hl : Rd w 2 A l.length (PC l)) (hn : l.length ≤ 1000000) (hbn : Blk w gn 9 #[encStr n]) :
  Calls Tryz.prog 140 #[.slice A l.length c, .func (.func 141) #[] #[.pointer (some ⟨gn, 0, none⟩)]] w fun e w' => Frm [] w w' ∧ ∃ k : Int, e = .returned (.int .i64 k) ∧ ((k = -1 ∧ ∀ p ∈ l, p.1 ≠ n) ∨ ∃ (i : Nat) (hi : i < l.length), k = (i : Int) ∧ (∀ p ∈ l.take i, p.1 ≠ n) ∧ l[i].1 = n) := by
 refine VC.calls (nt := 19) (res := #[.tmp 4]) Tryz.func140 rfl Tryz.ntmps140 Tryz.results140 rfl ?_
 refine js (jr ?_)
 refine Ops.r (v := .int .i64 ((0 : Nat) : Int)) (Run.asg rfl) rfl ?_
 refine jo (jn (jv2 0 1 ?_))
 refine js (js (jr (jm ?_)))
 refine Ops.r (Run.lenS rfl Tryz.underlying65) rfl ?_
 refine Ops.r (v := .int .i64 ((0 : Nat) : Int)) (Run.mv rfl) rfl ?_
 refine jo (jn (jv4 0 1 7 8 ?_))
 refine jb ?_
 refine VC.loop (σ := Nat) (fun s => [(0, .slice A l.length c), (1, .func (.func 141) #[] #[.pointer (some ⟨gn, 0, none⟩)]), (7, .int .i64 ((l.length : Nat) : Int)), (8, .int .i64 ((s : Nat) : Int))]) (fun s wr => s ≤ l.length ∧ Frm [] w wr ∧ ∀ x ∈ l.take s, x.1 ≠ n) (fun s => l.length - s) 0 (js4 rfl rfl rfl rfl) ⟨by omega, Frm.refl _ _, by simp⟩ ?_
 rintro i wr ⟨hi, hfr, hno⟩
 refine js (jr ?_)
 refine Ops.r (Run.bin rfl rfl (Bin.lssN _ _)) rfl ?_
 refine jo (jn (js ?_))
 refine VC.condD rfl (fun hc1 => ?_) (fun hc1 => ?_)
 ·
  obtain ⟨ad, rfl, hcell⟩ := PC_at (hl.frm hfr (by simp)) hc1
  have hts : l.take (i + 1) = l.take i ++ [l[i]] := by rw [List.take_add_one, List.getElem?_eq_getElem hc1]; rfl
  have hxi : ∀ x, l[i] = x → (l[i].1 = n ↔ x.1 = n) := fun x h => by rw [h]
  generalize hx : l[i] = x at hcell hts
  refine jk (jn (jv4 0 1 7 8 ?_))
  refine js (jb (js (jr (jm ?_))))
  refine ja ?_
  refine jo (jn (jv5 0 1 5 7 8 ?_))
  refine js (jr (jm ?_))
  refine jm ?_
  refine jm ?_
  refine Ops.r (Run.indexS i rfl rfl Tryz.underlying65 Tryz.sizeOf102 hc1) rfl ?_
  refine Ops.r (Run.loadA rfl Tryz.isAgg102 Tryz.sizeOf102 hcell (by first | rfl | (simp; done))) rfl ?_
  refine Ops.cl (Enters.dyn rfl (evs.cons rfl evs.nil) Tryz.call141) ((findC_spec x gn n _ (hbn.frm hfr (by simp)))) rfl ?_
  rintro e w1 ⟨rfl, hf1⟩
  refine ⟨_, rfl, ?_⟩
  refine jo (jn (jv6 0 1 5 7 8 16 ?_))
  refine VC.condB rfl (fun hc2 => ?_) (fun hc2 => ?_)
  ·
   refine js (jr (jm ?_))
   refine ja ?_
   refine jo (jn (jv1 4 ?_))
   refine jt ?_
   refine blockQ_r (thenQ_r (thenQ_r (blockQ_r (thenQ_r (end1 rfl ?_)))))
   exact ⟨hfr.trans hf1 (by simp), _, rfl, .inr ⟨i, hc1, rfl, hno, (hxi x hx).2 (of_decide_eq_true hc2)⟩⟩
  ·
   refine jk ?_
   refine blockQ_n (jn ?_)
   refine jv4 0 1 7 8 ?_
   refine jr ?_
   refine Ops.r (Run.bin rfl rfl (Bin.add_i64 _ 1 (by omega))) rfl ?_
   refine jm ?_
   refine jo ?_
   refine jn ⟨(i + 1), (js4 rfl rfl rfl rfl), ?_, ?_⟩
   ·
    refine ⟨hc1, hfr.trans hf1 (by simp), fun y hy => ?_⟩
    rw [hts] at hy
    rcases List.mem_append.1 hy with h | h
    ·
     exact hno y h
    ·
     simp only [List.mem_singleton] at h; subst h; exact of_decide_eq_false hc2
   ·
    first | omega | (dsimp only; omega)
 ·
  refine jx ?_
  refine thenQ_x (thenQ_x (blockQ_x ?_))
  refine jn ?_
  refine VC.sub [] .nil ?_
  refine js (jr ?_)
  refine Ops.r (v := .int .i64 (-1)) (Run.asg rfl) rfl ?_
  refine jo (jn (jt ?_))
  refine end1 rfl ?_
  refine ⟨hfr, _, rfl, .inl ⟨rfl, ?_⟩⟩
  have hil : i = l.length := by omega
  subst hil
  rw [List.take_length] at hno
  exact hno
set_option maxRecDepth 100000 in
theorem find_spec (m : Med) (A : Option Addr) (c : Nat) (n : Tx) (w : World) (hl : Rd w 2 A m.ps.length (PC m.ps)) (hn : m.ps.length ≤ 1000000) :
  Calls Tryz.prog 105 #[.agg (MdC m A c), encStr n] w fun e w' => Frm [] w w' ∧ e = .returned (.tuple #[encStr (findQ m.ps n).1, .bool (findQ m.ps n).2]) := by
 refine VC.calls (nt := 19) (res := #[.tmp 4, .tmp 5]) Tryz.func105 rfl Tryz.ntmps105 Tryz.results105 rfl ?_
 refine js (jr ?_)
 refine Ops.m (Does.box rfl) rfl ?_
 rintro _ w1 ⟨rfl, hF2⟩
 have hb2 : Blk w1 w.heap.size 67 (MdC m A c) := hF2.blk
 have hf2 := hF2.frm
 have hl := hl.frm hf2 (by simp)
 generalize hg2 : w.heap.size = g2 at hb2 ⊢
 refine Ops.m (Does.box rfl) rfl ?_
 rintro _ w2 ⟨rfl, hF3⟩
 have hb3 := hF3.blk
 have hb2 := hb2.frm hF3.frm (by simp)
 have hl := hl.frm hF3.frm (by simp)
 have K := hf2.trans hF3.frm (by simp)
 generalize hg3 : w1.heap.size = g3 at hb3 ⊢
 refine ja ?_
 refine ja ?_
 refine jo (jn (jv2 2 3 ?_))
 refine js (jr ?_)
 refine Ops.r (Run.fieldAddr rfl Tryz.underlying67 rfl Tryz.sizeOf65 (by decide)) rfl ?_
 refine Ops.r (Run.load rfl Tryz.isAgg65 (hb2.cell 2)) rfl ?_
 refine Ops.r (Run.mkFunc evs.nil (evs.cons rfl evs.nil)) rfl ?_
 refine Ops.cl (Enters.fn (evs.cons rfl (evs.cons rfl evs.nil)) Tryz.call140) ((idxP_spec A c m.ps g3 n _ hl hn hb3)) rfl ?_
 rintro e w4 ⟨hf4, k, rfl, hk⟩
 refine ⟨_, rfl, ?_⟩
 have K := K.trans hf4 (by simp)
 have hb2 := hb2.frm hf4 (by simp)
 have hl := hl.frm hf4 (by simp)
 refine ja ?_
 refine jo (jn (jv2 2 6 ?_))
 refine js (js (jr (jm ?_)))
 refine Ops.r (Run.bin rfl rfl (Bin.lss _ 0)) rfl ?_
 refine jo (jn (jv3 2 6 12 ?_))
 refine VC.condD rfl (fun hc1 => ?_) (fun hc1 => ?_)
 ·
  have hno := findQ_no (hk.resolve_right (by rintro ⟨i, _, rfl, _⟩; omega)).2
  refine js (jr (ja ?_))
  refine ja ?_
  refine jo (jn (jv2 4 5 ?_))
  refine jt ?_
  refine thenQ_r (end2 rfl rfl ?_)
  exact ⟨K, by rw [hno]⟩
 ·
  obtain ⟨i, hi, rfl, hno, hat⟩ := hk.resolve_left (by rintro ⟨rfl, _⟩; omega)
  have hfq := findQ_at hi hno hat
  obtain ⟨ad, rfl, hcell⟩ := PC_at hl hi
  refine jk (jn (jv2 2 6 ?_))
  refine js (jr ?_)
  refine Ops.r (Run.fieldAddr rfl Tryz.underlying67 rfl Tryz.sizeOf65 (by decide)) rfl ?_
  refine Ops.r (Run.load rfl Tryz.isAgg65 (hb2.cell 2)) rfl ?_
  refine jm ?_
  refine Ops.r (Run.indexS i rfl rfl Tryz.underlying65 Tryz.sizeOf102 hi) rfl ?_
  refine Ops.r (Run.fieldAddr rfl Tryz.underlying102 rfl Tryz.sizeOf9 (by decide)) rfl ?_
  refine Ops.r (Run.load rfl Tryz.isAgg9 (by have := hcell 1 (encStr m.ps[i].2) rfl; simpa using this)) rfl ?_
  refine ja ?_
  refine ja ?_
  refine jo (jn (jv2 4 5 ?_))
  refine jt ?_
  refine end2 rfl rfl ?_
  exact ⟨K, by rw [hfq]⟩
end Go.Proofs.YtenbjndldenkfaaGreatDoor
namespace Go.Proofs.YtenbjndldenkfaaGreatDoor
open Go.RowKit Go.Sort
set_option maxRecDepth 100000 in
theorem rfind_spec (m : Med) (A : Option Addr) (c : Nat) (n : Tx) (w : World) (hl : Rd w 2 A m.ps.length (PC m.ps)) (hn : m.ps.length ≤ 1000000) :
  Calls Tryz.prog 109 #[.agg (MdC m A c), encStr n] w fun e w' => Frm [] w w' ∧ e = .returned (.tuple #[encStr (findQ m.ps n).1, .bool (findQ m.ps n).2]) := by
 refine VC.calls (nt := 28) (res := #[.tmp 4, .tmp 5]) Tryz.func109 rfl Tryz.ntmps109 Tryz.results109 rfl ?_
 refine js (jr ?_)
 refine Ops.m (Does.box rfl) rfl ?_
 rintro _ w1 ⟨rfl, hF2⟩
 have hb2 : Blk w1 w.heap.size 67 (MdC m A c) := hF2.blk
 have hf2 := hF2.frm
 have hl := hl.frm hf2 (by simp)
 generalize hg2 : w.heap.size = g2 at hb2 ⊢
 refine ja ?_
 refine ja ?_
 refine jo (jn (jv2 1 2 ?_))
 refine js (js (jr ?_))
 refine Ops.r (v := .int .i64 ((0 : Nat) : Int)) (Run.asg rfl) rfl ?_
 refine jo (jn (jb ?_))
 refine VC.loop (σ := Nat) (fun s => [(1, encStr n), (2, .pointer (some ⟨g2, 0, none⟩)), (6, .int .i64 ((s : Nat) : Int))]) (fun s wr => s ≤ m.ps.length ∧ (∀ p ∈ m.ps.take s, p.1 ≠ n) ∧ w1 = wr) (fun s => m.ps.length - s) 0 (js3 rfl rfl rfl) ⟨by omega, by simp, rfl⟩ ?_
 rintro i _ ⟨hi, hno, rfl⟩
 refine js (js (jr (jm ?_)))
 refine Ops.r (Run.fieldAddr rfl Tryz.underlying67 rfl Tryz.sizeOf65 (by decide)) rfl ?_
 refine Ops.r (Run.load rfl Tryz.isAgg65 (hb2.cell 2)) rfl ?_
 refine Ops.r (Run.lenS rfl Tryz.underlying65) rfl ?_
 refine Ops.r (Run.bin rfl rfl (Bin.lssN _ _)) rfl ?_
 refine jo (jn (jv4 1 2 6 11 ?_))
 refine VC.condD rfl (fun hc1 => ?_) (fun hc1 => ?_)
 ·
  obtain ⟨ad, rfl, hcell⟩ := PC_at hl hc1
  have hts := take_snoc hc1
  refine jk (jn (jv3 1 2 6 ?_))
  refine js (jb (js (jr ?_)))
  refine Ops.r (Run.fieldAddr rfl Tryz.underlying67 rfl Tryz.sizeOf65 (by decide)) rfl ?_
  refine Ops.r (Run.load rfl Tryz.isAgg65 (hb2.cell 2)) rfl ?_
  refine jm ?_
  refine Ops.r (Run.indexS i rfl rfl Tryz.underlying65 Tryz.sizeOf102 hc1) rfl ?_
  refine Ops.r (Run.fieldAddr rfl Tryz.underlying102 rfl Tryz.sizeOf9 (by decide)) rfl ?_
  refine Ops.r (Run.load rfl Tryz.isAgg9 (by have := hcell 0 (encStr m.ps[i].1) rfl; simpa using this)) rfl ?_
  refine jm ?_
  refine Ops.r (Run.eqlT rfl rfl) rfl ?_
  refine jo (jn (jv4 1 2 6 21 ?_))
  refine VC.condD rfl (fun hc2 => ?_) (fun hc2 => ?_)
  ·
   have hfq := findQ_at hc1 hno hc2
   refine js (jr ?_)
   refine Ops.r (Run.fieldAddr rfl Tryz.underlying67 rfl Tryz.sizeOf65 (by decide)) rfl ?_
   refine Ops.r (Run.load rfl Tryz.isAgg65 (hb2.cell 2)) rfl ?_
   refine jm ?_
   refine Ops.r (Run.indexS i rfl rfl Tryz.underlying65 Tryz.sizeOf102 hc1) rfl ?_
   refine Ops.r (Run.fieldAddr rfl Tryz.underlying102 rfl Tryz.sizeOf9 (by decide)) rfl ?_
   refine Ops.r (Run.load rfl Tryz.isAgg9 (by have := hcell 1 (encStr m.ps[i].2) rfl; simpa using this)) rfl ?_
   refine ja ?_
   refine ja ?_
   refine jo (jn (jv2 4 5 ?_))
   refine jt ?_
   refine blockQ_r (thenQ_r (thenQ_r (blockQ_r (thenQ_r (end2 rfl rfl ?_)))))
   exact ⟨hf2, by rw [hfq]⟩
  ·
   refine jk ?_
   refine blockQ_n (jn ?_)
   refine jv3 1 2 6 ?_
   refine jr (jm ?_)
   refine Ops.r (Run.bin rfl rfl (Bin.add_i64 _ 1 (by omega))) rfl ?_
   refine ja ?_
   refine jo ?_
   refine jn ⟨(i + 1), (js3 rfl rfl rfl), ?_, ?_⟩
   ·
    refine ⟨hc1, fun y hy => ?_, rfl⟩
    rw [hts] at hy
    rcases List.mem_append.1 hy with h | h
    ·
     exact hno y h
    ·
     simp only [List.mem_singleton] at h; subst h; exact hc2
   ·
    first | omega | (dsimp only; omega)
 ·
  have hil : i = m.ps.length := by omega
  rw [hil, List.take_length] at hno
  have hfq := findQ_no hno
  refine jx ?_
  refine thenQ_x (thenQ_x (blockQ_x ?_))
  refine jn ?_
  refine VC.sub [] .nil ?_
  refine js (jr (ja ?_))
  refine ja ?_
  refine jo (jn (jt ?_))
  refine end2 rfl rfl ?_
  exact ⟨hf2, by rw [hfq]⟩
end Go.Proofs.YtenbjndldenkfaaGreatDoor
namespace Go.Proofs.YtenbjndldenkfaaGreatDoor
open Go.RowKit Go.Sort
theorem cutI {s : Tx} {c : UInt8} (h : ¬ Lib.indexByte s c < 0) : ∃ a : Tx, c ∈ s ∧ Lib.indexByte s c = ((a.length : Nat) : Int) ∧ (s.drop 0).take (a.length - 0) = befF c s ∧ (s.drop (a.length + 1)).take (s.length - (a.length + 1)) = aftF c s ∧ a.length + 1 ≤ s.length := by
 rcases idxB_cases s c with ⟨h1, _⟩ | ⟨a, b, rfl, h2, h3⟩
 ·
  exact absurd (by rw [h1]; decide) h
 ·
  obtain ⟨e1, e2⟩ := bef_at (b := b) h2
  have e3 : (a ++ c :: b).drop (a.length + 1) = b := by rw [List.drop_append, List.drop_eq_nil_of_le (by omega)]; simp
  refine ⟨a, by simp, h3, ?_, ?_, by simp⟩
  ·
   rw [e1]; simp
  ·
   rw [e2, e3, List.take_of_length_le (by simp; omega)]
theorem cutN {s : Tx} {c : UInt8} (h : Lib.indexByte s c < 0) : c ∉ s := by
 rcases idxB_cases s c with ⟨_, h1⟩ | ⟨a, b, _, h2, h3⟩
 ·
  exact h1
 ·
  rw [h3] at h; omega
set_option maxRecDepth 100000 in
theorem rread_spec (q : Tx) (w : World) (hq : q.length ≤ 900000) :
  Calls Tryz.prog 108 #[encStr q] w fun e w' => Frm [] w w' ∧ ∃ A c, e = .returned (.agg (MdC (medQ q) A c)) ∧ Own w' 102 2 A (medQ q).ps.length c (PC (medQ q).ps) ∧ (∀ x ∈ ob A, w.heap.size ≤ x) := by
 have K := Frm.refl [] w
 refine VC.calls (nt := 87) (res := #[.cell 2 67]) Tryz.func108 rfl Tryz.ntmps108 Tryz.results108 rfl ?_
 refine js (jr ?_)
 refine Ops.m (Does.alloc zero67) rfl ?_
 rintro _ w1 ⟨rfl, hF_w1⟩
 have hb2 := hF_w1.blk
 have hs2_K := K.size
 have K := Frm.trans K hF_w1.frm (by simp)
 generalize hg2 : w.heap.size = g2 at hb2 hs2_K ⊢
 refine jo (jn (js (jr ?_)))
 refine Ops.r (Run.build (evs.cons rfl (evs.cons rfl evs.nil)) zero67 (places67).choose_spec.1 (places67).choose_spec.2 rfl) rfl ?_
 refine Ops.m (Does.alloc zero67) rfl ?_
 rintro _ w2 ⟨rfl, hF_w2⟩
 have hb3 := hF_w2.blk
 have hs3_K := K.size
 have lt_hb2_3 := hb2.lt
 have hb2 := hb2.frm hF_w2.frm (by simp)
 have K := Frm.trans K hF_w2.frm (by simp)
 generalize hg3 : w1.heap.size = g3 at hb3 hs3_K lt_hb2_3 ⊢
 refine Ops.st (Acts.storeA rfl rfl Tryz.sizeOf67 hb3 rfl (MdC_one med0 none 0)) ?_
 rintro w3 ⟨hbn_w3, hf_w3, hsz_w3⟩
 have hb2 := hb2.frm hf_w3 (by simp; omega)
 have hb3 : Blk w3 g3 67 (MdC med0 none 0) := hbn_w3
 have K := Frm.own K hf_w3 (fun y hy => by simp at hy; omega)
 refine jo (jn (jv3 0 2 3 ?_))
 refine js (jr (jm ?_))
 refine Ops.cl (Enters.fn (evs.cons rfl evs.nil) Tryz.call145) (rpieces_spec q _ (by omega)) rfl ?_
 rintro e w4 ⟨hf_w4, AL, dL, rfl, hL, huL⟩
 have l2 := hb2.lt
 have l3 := hb3.lt
 refine ⟨_, rfl, ?_⟩
 have hb2 := hb2.frm hf_w4 (by simp)
 have hb3 := hb3.frm hf_w4 (by simp)
 have K := Frm.trans K hf_w4 (by simp)
 have hpl := pcs_len _ false q (Nat.le_refl _)
 have hpc := pcs_count _ false q (Nat.le_refl _)
 have hmq : ∀ p ps, pcs false q = p :: ps → medQ q = medOf p ps := fun p ps h => by unfold medQ; rw [h]
 obtain ⟨p0, rest, hpe⟩ : ∃ p ps, pcs false q = p :: ps := by
  cases hl : pcs false q with
  | nil => exact absurd hl (pcs_ne _ _)
  | cons p ps => exact ⟨p, ps, rfl⟩
 have hmq := hmq _ _ hpe
 rw [hpe] at hL hpl hpc ⊢
 obtain ⟨adL, hAL, h00⟩ := SB_at hL.rd (show 0 < (p0 :: rest).length by simp)
 subst hAL
 have h00 : w4.cell? (adL.add 0) = some (encStr p0) := h00
 have hp0 := hpl p0 (by simp)
 have htl := trimQ_len p0
 have hIM : IsMed p0 ↔ (47 ∈ trimQ p0 ∧ TokQ (befF 47 (trimQ p0)) ∧ TokQ (aftF 47 (trimQ p0))) := Iff.rfl
 have hmo : IsMed p0 → medOf p0 rest = ⟨smallS (befF 47 (trimQ p0)), smallS (aftF 47 (trimQ p0)), rest.flatMap parQ⟩ := fun h => by unfold medOf; rw [if_pos h]
 have hmn : ¬ IsMed p0 → medOf p0 rest = med0 := fun h => by unfold medOf; rw [if_neg h]
 generalize hTP : trimQ p0 = tp at htl hIM hmo
 have hlb := bef_len 47 tp
 refine ja ?_
 refine jo (jn (jv3 2 3 4 ?_))
 refine js (jr (jm ?_))
 refine Ops.r (Run.index1 0 rfl rfl Tryz.underlying36 Tryz.sizeOf9 (by simp)) rfl ?_
 refine Ops.r (Run.load rfl Tryz.isAgg9 (h00)) rfl ?_
 refine Ops.cl (Enters.fn (evs.cons rfl evs.nil) Tryz.call146) (rtrim_spec p0 _ (by omega)) rfl ?_
 rintro e _ ⟨rfl, rfl⟩
 refine ⟨_, rfl, ?_⟩
 rw [hTP]
 refine ja ?_
 refine jo (jn (jv4 2 3 4 5 ?_))
 refine js (jr (jm ?_))
 refine Ops.cl (Enters.fn (evs.cons rfl (evs.cons rfl evs.nil)) Tryz.call147) (rat_spec tp 47 _ (by omega)) rfl ?_
 rintro e _ ⟨rfl, rfl⟩
 refine ⟨_, rfl, ?_⟩
 refine ja ?_
 refine jo (jn (jv5 2 3 4 5 6 ?_))
 refine js (js ?_)
 refine VC.split1 [(2, _), (3, _), (4, _), (5, _), (6, _)] (js5 rfl rfl rfl rfl rfl) 35 (.bool (decide (¬ IsMed p0))) ?_ ?_
 ·
  refine jr ?_
  refine jm ?_
  refine Ops.r (Run.bin rfl rfl (Bin.lss _ 0)) rfl ?_
  by_cases hs20 : Lib.indexByte tp 47 < 0
  ·
   have hcm := cutN hs20
   refine jm ?_
   refine ju ?_
   refine ju ?_
   refine ju ?_
   refine ju ?_
   refine ju ?_
   refine Ops.r (Run.pickT rfl rfl au) rfl ?_
   refine jm ?_
   refine ju ?_
   refine ju ?_
   refine ju ?_
   refine ju ?_
   refine ju ?_
   refine ju ?_
   refine Ops.r (Run.pickT rfl rfl au) rfl ?_
   refine jo ?_
   refine jn ⟨(js6 (jc (by (rw [show decide (¬ IsMed p0) = decide (¬ (47 ∈ tp ∧ TokQ (befF 47 tp) ∧ TokQ (aftF 47 tp))) from decide_eq_decide.2 (not_congr hIM)]; simp [*]))) rfl rfl rfl rfl rfl), rfl⟩
  ·
   obtain ⟨ca, hcm, hix, e1, e2, hcl⟩ := cutI hs20
   rw [hix]
   refine jm ?_
   refine jg ?_
   refine jg ?_
   refine Ops.rg rfl au (Run.sliceT 0 ca.length rfl Tryz.underlying9 evB.none_ (evB.some_ rfl) (by omega) (by omega)) rfl ?_
   rw [e1]
   refine Ops.clg rfl au (Enters.fn (evs.cons rfl evs.nil) Tryz.call49) (rtoken_spec (befF 47 tp) _ (by omega)) rfl ?_
   rintro e _ ⟨rfl, rfl⟩
   refine ⟨_, rfl, ?_⟩
   by_cases hs25 : TokQ (befF 47 tp)
   ·
    refine Ops.rg rfl au (Run.not rfl) rfl ?_
    refine Ops.r (Run.pickF rfl rfl au) rfl ?_
    refine jm ?_
    refine jg ?_
    refine jg ?_
    refine Ops.rg rfl au (Run.bin rfl rfl (Bin.add_i64 ca.length 1 (by omega))) rfl ?_
    refine Ops.rg rfl au (Run.sliceT (ca.length + 1) tp.length rfl Tryz.underlying9 (evB.some_ rfl) evB.none_ hcl (Nat.le_refl _)) rfl ?_
    rw [e2]
    refine Ops.clg rfl au (Enters.fn (evs.cons rfl evs.nil) Tryz.call49) (rtoken_spec (aftF 47 tp) _ (by omega)) rfl ?_
    rintro e _ ⟨rfl, rfl⟩
    refine ⟨_, rfl, ?_⟩
    by_cases hs33 : TokQ (aftF 47 tp)
    ·
     refine Ops.rg rfl au (Run.not rfl) rfl ?_
     refine Ops.r (Run.pickF rfl rfl au) rfl ?_
     refine jo ?_
     refine jn ⟨(js6 (jc (by (rw [show decide (¬ IsMed p0) = decide (¬ (47 ∈ tp ∧ TokQ (befF 47 tp) ∧ TokQ (aftF 47 tp))) from decide_eq_decide.2 (not_congr hIM)]; simp [*]))) rfl rfl rfl rfl rfl), rfl⟩
    ·
     refine Ops.rg rfl au (Run.not rfl) rfl ?_
     refine Ops.r (Run.pickF rfl rfl au) rfl ?_
     refine jo ?_
     refine jn ⟨(js6 (jc (by (rw [show decide (¬ IsMed p0) = decide (¬ (47 ∈ tp ∧ TokQ (befF 47 tp) ∧ TokQ (aftF 47 tp))) from decide_eq_decide.2 (not_congr hIM)]; simp [*]))) rfl rfl rfl rfl rfl), rfl⟩
   ·
    refine Ops.rg rfl au (Run.not rfl) rfl ?_
    refine Ops.r (Run.pickF rfl rfl au) rfl ?_
    refine jm ?_
    refine ju ?_
    refine ju ?_
    refine ju ?_
    refine ju ?_
    refine ju ?_
    refine ju ?_
    refine Ops.r (Run.pickT rfl rfl au) rfl ?_
    refine jo ?_
    refine jn ⟨(js6 (jc (by (rw [show decide (¬ IsMed p0) = decide (¬ (47 ∈ tp ∧ TokQ (befF 47 tp) ∧ TokQ (aftF 47 tp))) from decide_eq_decide.2 (not_congr hIM)]; simp [*]))) rfl rfl rfl rfl rfl), rfl⟩
 ·
  intro Γ hΓ
  refine jn (VC.sub _ hΓ ?_)
  refine VC.condD rfl (fun hc1 => ?_) (fun hc1 => ?_)
  ·
   rw [hmn hc1] at hmq
   refine js (jr ?_)
   refine Ops.r (Run.loadA rfl Tryz.isAgg67 Tryz.sizeOf67 (fun j v hj => hb3.cells j v hj) (by first | rfl | (simp; done))) rfl ?_
   refine Ops.st (Acts.storeA rfl rfl Tryz.sizeOf67 hb2 rfl (MdC_one med0 none 0)) ?_
   rintro w5 ⟨hb2n, hf5, _⟩
   have hb2n : Blk w5 g2 67 (MdC med0 none 0) := hb2n
   have K := Frm.own K hf5 (fun y hy => by simp at hy; omega)
   refine jo (jn (jv1 2 ?_))
   refine jt ?_
   refine thenQ_r (endR ?_)
   refine res_cellA rfl Tryz.isAgg67 Tryz.sizeOf67 (fun j v hj => hb2n.cells j v hj) (by first | rfl | (simp; done)) ?_
   refine res_nil ?_
   rw [hmq]
   exact ⟨K, none, 0, rfl, Own.nil _ _ _, by simp [ob]⟩
  ·
   have hism := Classical.not_not.1 hc1
   rw [hmo hism] at hmq
   obtain ⟨ca, hcm, hix, e1, e2, hcl⟩ := cutI (fun h => cutN h (hIM.1 hism).1)
   rw [hix]
   refine jk (jn (jv5 2 3 4 5 6 ?_))
   refine js (jr (jm ?_))
   refine jm ?_
   refine Ops.r (Run.sliceT 0 ca.length rfl Tryz.underlying9 evB.none_ (evB.some_ rfl) (by omega) (by omega)) rfl ?_
   rw [e1]
   refine Ops.cl (Enters.fn (evs.cons rfl evs.nil) Tryz.call148) (rsmall_spec (befF 47 tp) _ (by omega)) rfl ?_
   rintro e w6 ⟨rfl, hf_w6⟩
   refine ⟨_, rfl, ?_⟩
   have hb2 := hb2.frm hf_w6 (by simp)
   have hb3 := hb3.frm hf_w6 (by simp)
   have hL := hL.frm hf_w6 (by simp)
   have K := K.trans hf_w6 (by simp)
   refine Ops.r (Run.fieldAddr rfl Tryz.underlying67 rfl Tryz.sizeOf9 (by decide)) rfl ?_
   refine Ops.st (Acts.store rfl rfl Tryz.sizeOf9 hb3 rfl rfl) ?_
   rintro w7 ⟨hb3n, hf_w7, _⟩
   have hb3 : Blk w7 g3 67 (#[encStr (smallS (befF 47 tp)), encStr med0.sub, .slice none 0 0]) := hb3n
   have hb2 := hb2.frm hf_w7 (by simp; omega)
   have hL := hL.frm hf_w7 (fun y hy => by have := huL y hy; simp; omega)
   have K := Frm.own K hf_w7 (fun y hy => by simp at hy; omega)
   refine jo (jn (jv5 2 3 4 5 6 ?_))
   refine js (jr (jm ?_))
   refine jm ?_
   refine Ops.r (Run.bin rfl rfl (Bin.add_i64 ca.length 1 (by omega))) rfl ?_
   refine Ops.r (Run.sliceT (ca.length + 1) tp.length rfl Tryz.underlying9 (evB.some_ rfl) evB.none_ hcl (Nat.le_refl _)) rfl ?_
   rw [e2]
   refine Ops.cl (Enters.fn (evs.cons rfl evs.nil) Tryz.call148) (rsmall_spec (aftF 47 tp) _ (by omega)) rfl ?_
   rintro e w8 ⟨rfl, hf_w8⟩
   refine ⟨_, rfl, ?_⟩
   have hb2 := hb2.frm hf_w8 (by simp)
   have hb3 := hb3.frm hf_w8 (by simp)
   have hL := hL.frm hf_w8 (by simp)
   have K := K.trans hf_w8 (by simp)
   refine Ops.r (Run.fieldAddr rfl Tryz.underlying67 rfl Tryz.sizeOf9 (by decide)) rfl ?_
   refine Ops.st (Acts.store rfl rfl Tryz.sizeOf9 hb3 rfl rfl) ?_
   rintro w9 ⟨hb3n, hf_w9, _⟩
   have hb3 : Blk w9 g3 67 (MdC ⟨smallS (befF 47 tp), smallS (aftF 47 tp), (rest.take 0).flatMap parQ⟩ none 0) := hb3n
   have hb2 := hb2.frm hf_w9 (by simp; omega)
   have hL := hL.frm hf_w9 (fun y hy => by have := huL y hy; simp; omega)
   have K := Frm.own K hf_w9 (fun y hy => by simp at hy; omega)
   refine jo (jn (jv3 2 3 4 ?_))
   refine js (js (jr ?_))
   refine Ops.r (v := .int .i64 ((1 : Nat) : Int)) (Run.asg rfl) rfl ?_
   refine jo (jn (jb ?_))
   refine VC.loop (σ := Nat × Option Addr × Nat) (fun s => [(2, .pointer (some ⟨g2, 0, none⟩)), (3, .pointer (some ⟨g3, 0, none⟩)), (4, .slice (some adL) (p0 :: rest).length dL), (7, .int .i64 ((s.1 + 1 : Nat) : Int))]) (fun s wr => s.1 ≤ rest.length ∧ Frm [] w wr ∧ Blk wr g2 67 #[encStr [], encStr [], .slice none 0 0] ∧ Blk wr g3 67 (MdC (⟨smallS (befF 47 tp), smallS (aftF 47 tp), (rest.take s.1).flatMap parQ⟩ : Med) s.2.1 s.2.2) ∧ Own wr 102 2 s.2.1 ((rest.take s.1).flatMap parQ).length s.2.2 (PC ((rest.take s.1).flatMap parQ)) ∧ (∀ x ∈ ob s.2.1, w.heap.size ≤ x) ∧ Own wr 9 1 (some adL) (p0 :: rest).length dL (SB (p0 :: rest))) (fun s => rest.length - s.1) (0, none, 0) (js4 rfl rfl rfl rfl) ⟨by omega, K, hb2, hb3, by simpa [PC] using Own.nil _ _ _, by simp [ob], hL⟩ ?_
   rintro ⟨j, A, c⟩ wr ⟨hj, K, hb2, hb3, hA, hub, hL⟩
   dsimp only at hj K hb2 hb3 hA hub hL ⊢
   have hpcn := pars_count (rest.take j)
   rw [List.length_take] at hpcn
   have hrl : (p0 :: rest).length = rest.length + 1 := rfl
   refine js (js (jr (jm ?_)))
   refine jm ?_
   refine Ops.r (Run.lenS rfl Tryz.underlying36) rfl ?_
   refine Ops.r (Run.bin rfl rfl (Bin.lssN _ _)) rfl ?_
   refine jo (jn (jv5 2 3 4 7 51 ?_))
   refine VC.condD rfl (fun hc2 => ?_) (fun hc2 => ?_)
   ·
    have hjr : j < rest.length := by omega
    have hgx : (p0 :: rest)[j + 1]? = some rest[j] := by simp [List.getElem?_eq_getElem hjr]
    have hts := take_snoc hjr
    have hxl := hpl rest[j] (by simp)
    have hcx : ∀ W, Own W 9 1 (some adL) (p0 :: rest).length dL (SB (p0 :: rest)) → W.cell? (adL.add (j + 1)) = some (encStr rest[j]) := by
     intro W hW
     obtain ⟨ad', h1, h2⟩ := SB_at hW.rd (show j + 1 < (p0 :: rest).length by omega)
     cases h1
     rw [h2]
     simp
    have hnew : ∀ x, rest[j] = x → (rest.take (j + 1)).flatMap parQ = (rest.take j).flatMap parQ ++ parQ x := fun x h => by rw [hts, List.flatMap_append, h]; simp
    generalize hx : rest[j] = x at *
    have hnew := hnew x rfl
    have hlbx := bef_len 61 x
    have hltx := trimQ_len (befF 61 x)
    have hIP : IsPar x ↔ (61 ∈ x ∧ TokQ (nameQ x)) := Iff.rfl
    have hnq : smallS (trimQ (befF 61 x)) = nameQ x := rfl
    refine jk (jn (jv4 2 3 4 7 ?_))
    refine js (jb (js (jr (jm ?_))))
    refine jm ?_
    refine Ops.r (Run.index1 (j + 1) rfl rfl Tryz.underlying36 Tryz.sizeOf9 (by omega)) rfl ?_
    refine Ops.r (Run.load rfl Tryz.isAgg9 (hcx _ hL)) rfl ?_
    refine Ops.cl (Enters.fn (evs.cons rfl (evs.cons rfl evs.nil)) Tryz.call147) (rat_spec x 61 _ (by omega)) rfl ?_
    rintro e _ ⟨rfl, rfl⟩
    refine ⟨_, rfl, ?_⟩
    refine ja ?_
    refine jo (jn (jv5 2 3 4 7 8 ?_))
    refine js (js (jr (jm ?_)))
    refine Ops.r (Run.bin rfl rfl (Bin.lss _ 0)) rfl ?_
    refine jo (jn (jv6 2 3 4 7 8 60 ?_))
    refine VC.condD rfl (fun hc3 => ?_) (fun hc3 => ?_)
    ·
     have hnp : parQ x = [] := parQ_no (fun h => cutN hc3 h.1)
     refine jx ?_
     refine thenQ_x (blockQ_x ?_)
     refine jn (jv4 2 3 4 7 ?_)
     refine jr (jm ?_)
     refine Ops.r (Run.bin rfl rfl (Bin.add_i64 _ 1 (by omega))) rfl ?_
     refine ja ?_
     refine jo ?_
     refine jn ⟨(j + 1, A, c), (js4 rfl rfl rfl rfl), ?_, ?_⟩
     ·
      refine ⟨hjr, K, hb2, ?_, ?_, hub, hL⟩
      ·
       rw [hnew, hnp, List.append_nil]; exact hb3
      ·
       rw [hnew, hnp, List.append_nil]; exact hA
     ·
      simp only; omega
    ·
     obtain ⟨ca, hcm, hix, e1, e2, hcl⟩ := cutI hc3
     rw [hix]
     refine jk (jn (jv5 2 3 4 7 8 ?_))
     refine js (jr (jm ?_))
     refine jm ?_
     refine Ops.r (Run.index1 (j + 1) rfl rfl Tryz.underlying36 Tryz.sizeOf9 (by omega)) rfl ?_
     refine Ops.r (Run.load rfl Tryz.isAgg9 (hcx _ hL)) rfl ?_
     refine jm ?_
     refine Ops.r (Run.sliceT 0 ca.length rfl Tryz.underlying9 evB.none_ (evB.some_ rfl) (by omega) (by omega)) rfl ?_
     rw [e1]
     refine Ops.cl (Enters.fn (evs.cons rfl evs.nil) Tryz.call146) (rtrim_spec (befF 61 x) _ (by omega)) rfl ?_
     rintro e _ ⟨rfl, rfl⟩
     refine ⟨_, rfl, ?_⟩
     refine Ops.cl (Enters.fn (evs.cons rfl evs.nil) Tryz.call148) (rsmall_spec (trimQ (befF 61 x)) _ (by omega)) rfl ?_
     rintro e V1 ⟨rfl, hf_V1⟩
     refine ⟨_, rfl, ?_⟩
     have hb2 := hb2.frm hf_V1 (by simp)
     have hb3 := hb3.frm hf_V1 (by simp)
     have hA := hA.frm hf_V1 (by simp)
     have hL := hL.frm hf_V1 (by simp)
     have K := K.trans hf_V1 (by simp)
     have hnl := smallS_len (trimQ (befF 61 x))
     rw [hnq] at hnl ⊢
     refine ja ?_
     refine jo (jn (jv6 2 3 4 7 8 9 ?_))
     refine js (jr (jm ?_))
     refine Ops.cl (Enters.fn (evs.cons rfl evs.nil) Tryz.call49) (rtoken_spec (nameQ x) _ (by omega)) rfl ?_
     rintro e _ ⟨rfl, rfl⟩
     refine ⟨_, rfl, ?_⟩
     refine jo (jn (jv7 2 3 4 7 8 9 70 ?_))
     refine VC.condB rfl (fun hc4 => ?_) (fun hc4 => ?_)
     ·
      have hyes := parQ_yes (hIP.2 ⟨hcm, of_decide_eq_true hc4⟩)
      refine VC.heldL 15 (fun W => Frm (ob A) V1 W) jK ?_
      have hS0 : Frm [] V1 V1.drew := (Frm.refl [] V1).drew
      have hnA0 := hA.ne_blk hb3 (by decide)
      have hnL := hL.ne_own hA (by decide)
      have hS : Frm (ob A) V1 V1.drew := hS0.mono (by simp)
      have hb3v := hb3
      have hLv := hL
      have hA := hA.frm hS0 (by simp)
      have hb2 := hb2.frm hS0 (by simp)
      have hb3 := hb3.frm hS0 (by simp)
      have hL := hL.frm hS0 (by simp)
      have K := K.drew
      refine jh 0 rfl hS (fun w0 hw0 => Run.fieldAddr rfl Tryz.underlying67 rfl Tryz.sizeOf65 (by decide)) ?_
      refine jh 1 rfl hS (fun w0 hw0 => Run.load rfl Tryz.isAgg65 (show World.cell? _ _ = some (.slice A ((rest.take j).flatMap parQ).length c) from (hb3v.frm hw0 hnA0).cell 2)) ?_
      refine jh 2 rfl hS (fun w0 hw0 => Run.mv rfl) ?_
      refine jh 3 rfl hS (fun w0 hw0 => Run.mv rfl) ?_
      refine jh 4 rfl hS (fun w0 hw0 => Run.mv rfl) ?_
      refine jh 5 rfl hS (fun w0 hw0 => Run.index1 (j + 1) rfl rfl Tryz.underlying36 Tryz.sizeOf9 (by omega)) ?_
      refine jh 6 rfl hS (fun w0 hw0 => Run.load rfl Tryz.isAgg9 (hcx _ (hLv.frm hw0 hnL))) ?_
      refine HOps.r1 7 rfl jK hS (Run.mv rfl) trivial rfl rfl ?_
      refine HOps.r1 8 rfl jK hS (Run.bin rfl rfl (Bin.add_i64 ca.length 1 (by omega))) trivial rfl rfl ?_
      refine HOps.r1 9 rfl jK hS (Run.sliceT (ca.length + 1) x.length rfl Tryz.underlying9 (evB.some_ rfl) evB.none_ hcl (Nat.le_refl _)) trivial rfl rfl ?_
      rw [e2]
      refine HOps.cl 10 rfl jK (Enters.fn (evs.cons rfl evs.nil) Tryz.call149) (rvalue_spec (aftF 61 x) _ (by omega)) trivial rfl rfl ?_
      rintro e _ ⟨rfl, rfl⟩
      refine ⟨_, rfl, hS, ?_⟩
      refine HOps.r1 11 rfl jK hS (Run.build (evs.cons rfl (evs.cons rfl evs.nil)) zero102 (places102).choose_spec.1 (places102).choose_spec.2 rfl) trivial rfl rfl ?_
      refine HOps.m 12 rfl jK (Does.buildS1 rfl Tryz.underlying65 Tryz.sizeOf102 zero102 (by decide) (by decide) rfl rfl) trivial rfl rfl ?_
      rintro _ V5 ⟨rfl, hF5⟩
      have hrd := hrdP (x := (nameQ x, valQ (aftF 61 x))) hF5
      have hA := hA.frm hF5.frm (by simp)
      have hb2 := hb2.frm hF5.frm (by simp)
      have hb3 := hb3.frm hF5.frm (by simp)
      have hL := hL.frm hF5.frm (by simp)
      have K := K.trans hF5.frm (by simp)
      have hS := hS.trans hF5.frm (by simp)
      refine ⟨hS, ?_⟩
      refine HOps.m 13 rfl jK (Does.app rfl rfl Tryz.underlying65 (info102) rfl (by decide) hA hrd (PC_one _) (by omega) (by omega)) trivial rfl rfl ?_
      rintro _ V6 ⟨A6, c6, rfl, hA6, hf6, hob6⟩
      rw [← PC_append] at hA6
      have hne : ∀ y ∈ ob A, y ≠ g2 ∧ y ≠ g3 := fun y hy => ⟨by rintro rfl; exact hA.ne_blk hb2 (by decide) hy, by rintro rfl; exact hA.ne_blk hb3 (by decide) hy⟩
      have hb2 := hb2.frm hf6 (fun hy => (hne _ hy).1 rfl)
      have hb3 := hb3.frm hf6 (fun hy => (hne _ hy).2 rfl)
      have hL := hL.frm hf6 hnL
      have hub6 := up_app hub hob6 K.size
      have K := Frm.own K hf6 hub
      have hnA := hA6.ne_blk hb3 (by decide)
      have hnL3 := hL.ne_blk hb3 (by decide)
      have hS := hS.trans hf6 (fun y hy => .inl hy)
      refine ⟨hS, ?_⟩
      refine HOps.r1 14 rfl jK hS (Run.fieldAddr rfl Tryz.underlying67 rfl Tryz.sizeOf65 (by decide)) trivial rfl rfl ?_
      refine HOps.stL rfl jK (Acts.store rfl rfl Tryz.sizeOf65 hb3 rfl rfl) trivial rfl ?_
      rintro V7 ⟨hb3n, hf7, _⟩
      refine HOps.done jK ?_
      refine blockQ_n (jn ?_)
      refine jv4 2 3 4 7 ?_
      refine jr (jm ?_)
      refine Ops.r (Run.bin rfl rfl (Bin.add_i64 _ 1 (by omega))) rfl ?_
      refine ja ?_
      refine jo ?_
      refine jn ⟨(j + 1, A6, c6), (js4 rfl rfl rfl rfl), ?_, ?_⟩
      ·
       refine ⟨hjr, Frm.own K hf7 (fun y hy => by simp at hy; omega), hb2.frm hf7 (by simp; omega), ?_, ?_, hub6, hL.frm hf7 (fun y hy => by simp; rintro rfl; exact hnL3 hy)⟩
       ·
        rw [hnew, hyes]
        unfold MdC
        rw [List.length_append]
        exact hb3n
       ·
        rw [hnew, hyes, List.length_append]
        exact hA6.frm hf7 (fun y hy => by simp; rintro rfl; exact hnA hy)
      ·
       simp only; omega
     ·
      have hnp : parQ x = [] := parQ_no (fun h => of_decide_eq_false hc4 h.2)
      refine jk ?_
      refine blockQ_n (jn ?_)
      refine jv4 2 3 4 7 ?_
      refine jr (jm ?_)
      refine Ops.r (Run.bin rfl rfl (Bin.add_i64 _ 1 (by omega))) rfl ?_
      refine ja ?_
      refine jo ?_
      refine jn ⟨(j + 1, A, c), (js4 rfl rfl rfl rfl), ?_, ?_⟩
      ·
       refine ⟨hjr, K, hb2, ?_, ?_, hub, hL⟩
       ·
        rw [hnew, hnp, List.append_nil]; exact hb3
       ·
        rw [hnew, hnp, List.append_nil]; exact hA
      ·
       simp only; omega
   ·
    have hjr : j = rest.length := by omega
    rw [hjr, List.take_length] at hA hb3
    refine jx ?_
    refine thenQ_x (thenQ_x (blockQ_x ?_))
    refine jn (jv2 2 3 ?_)
    refine js (jr ?_)
    refine Ops.r (Run.loadA rfl Tryz.isAgg67 Tryz.sizeOf67 (fun j v hj => hb3.cells j v hj) (by first | rfl | (simp; done))) rfl ?_
    refine Ops.st (Acts.storeA rfl rfl Tryz.sizeOf67 hb2 rfl (MdC_one _ A c)) ?_
    rintro V8 ⟨hb2n, hf8, _⟩
    have hA := hA.frm hf8 (fun y hy => by have := hA.ne_blk hb2 (by decide); simp; rintro rfl; exact this hy)
    have K := Frm.own K hf8 (fun y hy => by simp at hy; omega)
    refine jo (jn (jv1 2 ?_))
    refine jt ?_
    refine endR ?_
    refine res_cellA rfl Tryz.isAgg67 Tryz.sizeOf67 (fun j v hj => hb2n.cells j v hj) (by first | rfl | (simp; done)) ?_
    refine res_nil ?_
    rw [hmq]
    exact ⟨K, A, c, rfl, hA, fun x hx => by have := hub x hx; omega⟩
end Go.Proofs.YtenbjndldenkfaaGreatDoor
namespace Go.Proofs.YtenbjndldenkfaaGreatDoor
open Go.RowKit Go.Sort
theorem Med.of {m : Med} {a b : Tx} {c : List Par} (h1 : m.ty = a) (h2 : m.sub = b) (h3 : m.ps = c) : m = ⟨a, b, c⟩ := by cases m; simp_all
end Go.Proofs.YtenbjndldenkfaaGreatDoor
namespace Go.Proofs.YtenbjndldenkfaaGreatDoor
open Go.RowKit Go.Sort
theorem medQ_count (q : Tx) : (medQ q).ps.length ≤ (pcs false q).length := by
 unfold medQ
 split
 ·
  simp [med0]
 ·
  rename_i p ps h
  unfold medOf
  split
  ·
   have := pars_count ps
   show (ps.flatMap parQ).length ≤ _
   rw [h, List.length_cons]
   omega
  ·
   show ([] : List Par).length ≤ _
   simp
end Go.Proofs.YtenbjndldenkfaaGreatDoor
namespace Go.Proofs.YtenbjndldenkfaaGreatDoor
open Go.RowKit

def linesF : Tx → List Tx
 | [] => []
 | x :: r => if x = 10 then [10] :: linesF r else match linesF r with
  | [] => [[x]]
  | p :: ps => (x :: p) :: ps
theorem linesF_flat : ∀ s : Tx, (linesF s).flatten = s
 | [] => rfl
 | x :: r => by
  have ih := linesF_flat r
  unfold linesF
  split
  ·
   rename_i h; rw [List.flatten_cons, ih, h]; rfl
  ·
   cases hl : linesF r with
   | nil => rw [hl] at ih; rw [← ih]; rfl
   | cons p ps => rw [hl] at ih; rw [← ih]; rfl
theorem linesF_ne {l : Tx} : ∀ {s : Tx}, l ∈ linesF s → l ≠ []
 | [], h => by simp [linesF] at h
 | x :: r, h => by
  unfold linesF at h
  split at h
  ·
   simp only [List.mem_cons] at h
   rcases h with rfl | h
   ·
    simp
   ·
    exact linesF_ne h
  ·
   cases hl : linesF r with
   | nil => rw [hl] at h; simp only [List.mem_singleton] at h; subst h; simp
   | cons p ps =>
    rw [hl] at h
    simp only [List.mem_cons] at h
    rcases h with rfl | h
    ·
     simp
    ·
     exact linesF_ne (s := r) (by rw [hl]; simp [h])
theorem linesF_cut {a : Tx} (b : Tx) (h : (10 : UInt8) ∉ a) : linesF (a ++ 10 :: b) = (a ++ [10]) :: linesF b := by
 induction a with
 | nil => show linesF (10 :: b) = _; rw [linesF, if_pos rfl]; rfl
 | cons x r ih =>
  simp only [List.mem_cons, not_or] at h
  show linesF (x :: (r ++ 10 :: b)) = _
  rw [linesF, if_neg (fun e => h.1 e.symm), ih h.2]
  rfl
theorem linesF_last {a : Tx} (h0 : a ≠ []) (h : (10 : UInt8) ∉ a) : linesF a = [a] := by
 induction a with
 | nil => exact absurd rfl h0
 | cons x r ih =>
  simp only [List.mem_cons, not_or] at h
  rw [linesF, if_neg (fun e => h.1 e.symm)]
  cases r with
  | nil => rfl
  | cons y t => rw [ih (by simp) h.2]
def offsF : Nat → List Tx → List (Nat × Nat)
 | _, [] => []
 | o, l :: r => (o, o + l.length) :: offsF (o + l.length) r
theorem offsF_len : ∀ (o : Nat) (l : List Tx), (offsF o l).length = l.length
 | _, [] => rfl
 | o, l :: r => by show (_ :: offsF _ r).length = _; rw [List.length_cons, offsF_len, List.length_cons]
def EmptyL (l : Tx) : Prop := l = [10] ∨ l = [13, 10]
instance (l : Tx) : Decidable (EmptyL l) := by unfold EmptyL; infer_instance
def splitL : List Tx → Nat
 | [] => 0
 | l :: r => if EmptyL l then l.length else l.length + splitL r
def splitQ (s : Tx) : Nat := splitL (linesF s)
theorem splitL_le : ∀ l : List Tx, splitL l ≤ l.flatten.length
 | [] => Nat.le_refl _
 | l :: r => by
  have := splitL_le r
  unfold splitL
  rw [List.flatten_cons, List.length_append]
  split <;> omega
theorem splitQ_le (s : Tx) : splitQ s ≤ s.length := by
 have := splitL_le (linesF s)
 rw [linesF_flat] at this
 exact this
theorem splitL_pre : ∀ l : List Tx, ∃ a b, l = a ++ b ∧ splitL l = a.flatten.length ∧ (∀ x ∈ a.dropLast, ¬ EmptyL x) ∧ ((∃ e, a.getLast? = some e ∧ EmptyL e) ∨ (b = [] ∧ ∀ x ∈ a, ¬ EmptyL x))
 | [] => ⟨[], [], rfl, rfl, by simp, .inr ⟨rfl, by simp⟩⟩
 | l :: r => by
  by_cases h : EmptyL l
  ·
   exact ⟨[l], r, rfl, by rw [splitL, if_pos h]; simp, by simp, .inl ⟨l, rfl, h⟩⟩
  ·
   obtain ⟨a, b, rfl, h1, h2, h3⟩ := splitL_pre r
   refine ⟨l :: a, b, rfl, by rw [splitL, if_neg h, h1]; simp, ?_, ?_⟩
   ·
    cases a with
    | nil => simp
    | cons y t =>
     intro x hx
     rw [List.dropLast_cons_of_ne_nil (by simp)] at hx
     simp only [List.mem_cons] at hx
     rcases hx with rfl | hx
     ·
      exact h
     ·
      exact h2 x hx
   ·
    rcases h3 with ⟨e, h4, h5⟩ | ⟨h4, h5⟩
    ·
     refine .inl ⟨e, ?_, h5⟩
     cases a with
     | nil => simp at h4
     | cons y t => rw [List.getLast?_cons_cons]; exact h4
    ·
     refine .inr ⟨h4, fun x hx => ?_⟩
     simp only [List.mem_cons] at hx
     rcases hx with rfl | hx
     ·
      exact h
     ·
      exact h5 x hx

def NameC (c : UInt8) : Prop := 32 < c.toNat ∧ c.toNat < 127 ∧ c ≠ 58
instance (c : UInt8) : Decidable (NameC c) := by unfold NameC; infer_instance
def nameN : Tx → Nat
 | [] => 0
 | x :: r => if NameC x then nameN r + 1 else 0
def blankN : Tx → Nat
 | [] => 0
 | x :: r => if Bl x then blankN r + 1 else 0
def beginQ (l : Tx) : Option (Tx × Nat) :=
 if nameN l ≠ 0 ∧ l[nameN l + blankN (l.drop (nameN l))]? = some 58 then some (l.take (nameN l), nameN l + blankN (l.drop (nameN l)) + 1) else none
theorem beginQ_lt {l n : Tx} {k : Nat} (h : beginQ l = some (n, k)) : k ≤ l.length ∧ n.length ≤ l.length := by
 unfold beginQ at h
 split at h
 ·
  rename_i hc
  have h2 := (List.getElem?_eq_some_iff.1 hc.2).1
  cases h
  exact ⟨by omega, by simp; omega⟩
 ·
  cases h
structure Fld where
 name : Tx
 frm : Nat
 tu : Nat
 at_ : Nat
def setTo (l : List Fld) (n : Nat) : List Fld := match l.getLast? with
 | none => l
 | some f => l.dropLast ++ [⟨f.name, f.frm, n, f.at_⟩]
theorem setTo_snoc (l : List Fld) (f : Fld) (n : Nat) : setTo (l ++ [f]) n = l ++ [⟨f.name, f.frm, n, f.at_⟩] := by
 unfold setTo
 rw [List.getLast?_concat]
 simp
def fldL : Nat → Bool → List Fld → List Tx → List Fld
 | _, _, out, [] => out
 | o, op, out, l :: r =>
  if EmptyL l then out
  else if (∃ c, l.head? = some c ∧ Bl c) then fldL (o + l.length) op (if op then setTo out (o + l.length) else out) r
  else match beginQ l with
   | none => fldL (o + l.length) false out r
   | some (n, k) => fldL (o + l.length) true (out ++ [⟨n, o, o + l.length, o + k⟩]) r
def fieldsQ (s : Tx) : List Fld := fldL 0 false [] (linesF (s.take (splitQ s)))
def bareL (l : Tx) : Tx := if l.getLast? = some 10 then (if l.dropLast.getLast? = some 13 then l.dropLast.dropLast else l.dropLast) else l
theorem bareL_le (l : Tx) : (bareL l).length ≤ l.length := by
 unfold bareL
 split
 ·
  split <;> simp <;> omega
 ·
  exact Nat.le_refl _
def textQ (s : Tx) (f : Fld) : Tx := trimQ ((linesF ((s.drop f.at_).take (f.tu - f.at_))).map bareL).flatten
def findF (s : Tx) (name : Tx) : List Fld → Tx × Bool
 | [] => ([], false)
 | f :: r => if smallS f.name = smallS name then (textQ s f, true) else findF s name r
def findH (s name : Tx) : Tx × Bool := findF s name (fieldsQ s)
def FldOk (n : Nat) (f : Fld) : Prop := f.frm ≤ f.at_ ∧ f.at_ ≤ f.tu ∧ f.tu ≤ n ∧ f.frm ≤ f.tu
theorem fldL_ok (N : Nat) : ∀ (ls : List Tx) (o : Nat) (op : Bool) (out : List Fld), o + ls.flatten.length ≤ N → (∀ f ∈ out, FldOk N f ∧ f.tu ≤ o) → ∀ f ∈ fldL o op out ls, FldOk N f
 | [], _, _, _, _, h => fun f hf => (h f hf).1
 | l :: r, o, op, out, hN, h => by
  rw [List.flatten_cons, List.length_append] at hN
  have hmono : ∀ f ∈ out, FldOk N f ∧ f.tu ≤ o + l.length := fun f hf => ⟨(h f hf).1, by have := (h f hf).2; omega⟩
  unfold fldL
  split
  ·
   exact fun f hf => (h f hf).1
  ·
   split
   ·
    refine fldL_ok N r _ op _ (by omega) ?_
    cases op with
    | false => exact hmono
    | true =>
     intro f hf
     rw [if_pos rfl] at hf
     rcases List.eq_nil_or_concat out with rfl | ⟨t, g, rfl⟩
     ·
      simp [setTo] at hf
     ·
      rw [List.concat_eq_append, setTo_snoc] at hf
      rcases List.mem_append.1 hf with hf | hf
      ·
       exact hmono f (by simp [hf])
      ·
       simp only [List.mem_singleton] at hf
       subst hf
       obtain ⟨⟨h1, h2, h3, h4⟩, h5⟩ := h g (by simp)
       exact ⟨⟨h1, by show g.at_ ≤ o + l.length; omega, by show o + l.length ≤ N; omega, by show g.frm ≤ o + l.length; omega⟩, Nat.le_refl _⟩
   ·
    split
    ·
     exact fldL_ok N r _ _ _ (by omega) hmono
    ·
     rename_i n k hb
     have := beginQ_lt hb
     refine fldL_ok N r _ _ _ (by omega) fun f hf => ?_
     rcases List.mem_append.1 hf with hf | hf
     ·
      exact hmono f hf
     ·
      simp only [List.mem_singleton] at hf
      subst hf
      exact ⟨⟨by show o ≤ o + k; omega, by show o + k ≤ o + l.length; omega, by show o + l.length ≤ N; omega, by show o ≤ o + l.length; omega⟩, Nat.le_refl _⟩
theorem fieldsQ_ok (s : Tx) : ∀ f ∈ fieldsQ s, FldOk (splitQ s) f := by
 refine fldL_ok _ _ 0 _ _ ?_ (by simp)
 rw [linesF_flat, List.length_take]
 omega
theorem fldL_count : ∀ (ls : List Tx) (o : Nat) (op : Bool) (out : List Fld), (fldL o op out ls).length ≤ out.length + ls.length
 | [], _, _, out => by simp [fldL]
 | l :: r, o, op, out => by
  have hst : (setTo out (o + l.length)).length = out.length := by
   rcases List.eq_nil_or_concat out with rfl | ⟨t, g, rfl⟩
   ·
    rfl
   ·
    rw [List.concat_eq_append, setTo_snoc]; simp
  unfold fldL
  split
  ·
   simp
  ·
   split
   ·
    have := fldL_count r (o + l.length) op (if op then setTo out (o + l.length) else out)
    have h2 : (if op then setTo out (o + l.length) else out).length = out.length := by split <;> simp [hst]
    rw [h2] at this
    simp only [List.length_cons]
    omega
   ·
    split
    ·
     have := fldL_count r (o + l.length) false out
     simp only [List.length_cons]
     omega
    ·
     rename_i n k _
     have := fldL_count r (o + l.length) true (out ++ [⟨n, o, o + l.length, o + k⟩])
     simp only [List.length_cons, List.length_append, List.length_nil] at this ⊢
     omega
theorem linesF_count : ∀ s : Tx, (linesF s).length ≤ s.length
 | [] => Nat.le_refl _
 | x :: r => by
  have := linesF_count r
  unfold linesF
  split
  ·
   simp only [List.length_cons]; omega
  ·
   cases hl : linesF r with
   | nil => simp
   | cons p ps => rw [hl] at this; simp only [List.length_cons] at this ⊢; omega
theorem fieldsQ_count (s : Tx) : (fieldsQ s).length ≤ s.length := by
 have h1 := fldL_count (linesF (s.take (splitQ s))) 0 false []
 have h2 := linesF_count (s.take (splitQ s))
 have h3 : (s.take (splitQ s)).length ≤ s.length := by simp; omega
 unfold fieldsQ
 simp only [List.length_nil] at h1
 omega
theorem flat_map_len {f : Tx → Tx} (hf : ∀ l, (f l).length ≤ l.length) : ∀ l : List Tx, ((l.map f).flatten).length ≤ l.flatten.length
 | [] => Nat.le_refl _
 | a :: r => by
  have := flat_map_len hf r
  have := hf a
  simp only [List.map_cons, List.flatten_cons, List.length_append]
  omega
theorem textQ_len (s : Tx) (f : Fld) : (textQ s f).length ≤ s.length := by
 unfold textQ
 refine Nat.le_trans (trimQ_len _) (Nat.le_trans (flat_map_len bareL_le _) ?_)
 rw [linesF_flat]
 simp
 omega
theorem findF_len (s n : Tx) : ∀ l : List Fld, (findF s n l).1.length ≤ s.length
 | [] => by simp [findF]
 | f :: r => by
  have := findF_len s n r
  unfold findF
  split
  ·
   exact textQ_len s f
  ·
   exact this
end Go.Proofs.YtenbjndldenkfaaGreatDoor
