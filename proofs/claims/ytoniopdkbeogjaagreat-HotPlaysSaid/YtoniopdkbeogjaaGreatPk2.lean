/-
  Lemmas on the way, joined: TreP, JouC, JouD, JouE, JouF, TreW, TreV, TreU, HotP, HotQ, Eng25, Eng17, HotW, HotV, HotU.
-/
import Derived.Maps.RangeWalk
import Derived.ArgAppend
import Derived.Lib.Overlaps
import Derived.Test.YtoniopdkbeogjaaGreatPk1
set_option maxRecDepth 100000
set_option linter.unusedVariables false
set_option linter.unusedSimpArgs false
set_option maxHeartbeats 8000000
namespace Go.Proofs.YtoniopdkbeogjaaGreat
section
abbrev Pr := Nat × Nat
def bI (n m : Nat) : Nat := max 1 ((n + m - 1) / m)
theorem oC (n m : Nat) : 1 ≤ bI n m := Nat.le_max_left _ _
theorem yF {n : Nat} (h : 1 < n) : bI n 12 < n := by unfold bI; omega
def lF (lv : Nat) : Nat := if h : lv ≤ 1 then lv else lv + lF (bI lv 12)
termination_by lv
decreasing_by exact yF jo
def cK (n : Nat) : Nat := lF (bI n 7)
def dR (bs : List Nat) : List Nat := eS (fW bs) 128
def nZ (l : List Pr) : List Nat := 1 :: l.length :: l.flatMap fun x => qC x.1 8 ++ qC x.2 8
def pC (l : List Pr) : List Nat := dR (nZ l)
abbrev Kd := Nat × Nat
def sF (l : List Kd) : List Nat := 2 :: l.length :: l.flatMap fun x => qC x.1 8 ++ qC x.2 2
def gO (l : List Kd) : List Nat := dR (sF l)
def bD (l : List Pr) (i : Nat) : List Pr := (l.drop (7 * i)).take 7
def dJ (l : List Pr) : Nat := (l.getD 0 (0, 0)).1
def eA (l : List Pr) (k : Nat) : List (List Nat) := (List.range k).map fun i => pC (bD l i)
def fG (l : List Pr) (k : Nat) : List Kd := (List.range k).map fun i => (dJ (bD l i), i)
def eV (l : List Kd) : List (List Kd) := (List.range ((l.length + 11) / 12)).map fun i => (l.drop (12 * i)).take 12
def nextM (n : Nat) (cs : List (List Kd)) : List Kd := cs.mapIdx fun i c => ((c.getD 0 (0, 0)).1, n + i)
theorem eU (l : List Kd) : (eV l).length = (l.length + 11) / 12 := by simp [eV]
theorem hZ (n : Nat) (cs : List (List Kd)) : (nextM n cs).length = cs.length := by simp [nextM]
def upM (out : List (List Nat)) (level : List Kd) : List (List Nat) :=
 if h : level.length ≤ 1 then out else upM (out ++ (eV level).map gO) (nextM out.length (eV level))
termination_by level.length
decreasing_by rw [hZ, eU]; omega
def bQ (l : List Pr) : List (List Nat) := upM (eA l (bI l.length 7)) (fG l (bI l.length 7))
def MayT (l : List Pr) : Prop := (∀ i, i + 1 < l.length → (l.getD i (0, 0)).1 < (l.getD (i + 1) (0, 0)).1) ∧ l.length ≤ 600
theorem qJ4 : ∀ (n : Nat) (out : List (List Nat)) (level : List Kd), level.length = n → 1 ≤ n → (upM out level).length + n = out.length + lF n := by
 intro n
 induction n using Nat.strongRecOn with
 | _ n ih =>
  intro out level hl h1
  rw [upM, lF]
  by_cases h : level.length ≤ 1
  · rw [dif_pos h, dif_pos jo]
  rw [dif_neg h, dif_neg jo]
  have hn : (nextM out.length (eV level)).length = bI n 12 := by
   rw [hZ, eU, hl]
   unfold bI
   omega
  have := ih (bI n 12) (yF jo) (out ++ (eV level).map gO) _ hn (oC _ _)
  rw [zf, zae] at this
  rw [hZ] at hn
  omega
theorem gY (l : List Pr) (k : Nat) : (eA l k).length = k := by simp [eA]
theorem lI (l : List Pr) (k : Nat) : (fG l k).length = k := by simp [fG]
theorem fH (l : List Pr) : (bQ l).length = cK l.length := by
 have := qJ4 (bI l.length 7) (eA l (bI l.length 7)) (fG l (bI l.length 7)) (lI _ _) (oC _ _)
 rw [gY] at this
 unfold bQ cK
 omega
theorem qXx (l : List Pr) (n : Nat) : (l.flatMap fun x => qC x.1 8 ++ qC x.2 n).length = (8 + n) * l.length := by
 induction l with
 | nil => rfl
 | cons a r ih => rw [zaw, zf, zf, numL_len, numL_len, ih, zad, Nat.mul_succ]; omega
theorem tO (l : List Pr) : (nZ l).length = 2 + 16 * l.length := by
 simp only [nZ, zad, qXx]; omega
theorem wD (l : List Kd) : (sF l).length = 2 + 10 * l.length := by
 simp only [sF, zad, qXx]; omega
theorem vD (l : List Pr) (n : Nat) : ∀ b ∈ l.flatMap (fun x => qC x.1 8 ++ qC x.2 n), b < 256 := fun b hb => by
 obtain ⟨x, _, hb⟩ := List.mem_flatMap.1 hb
 rcases zcp.1 hb with hb | hb <;> exact numL_lt _ _ b hb
theorem wF {l : List Pr} (h : l.length < 256) : ∀ b ∈ nZ l, b < 256 := fun b hb => by
 rcases zaq.1 hb with rfl | hb
 · omega
 rcases zaq.1 hb with rfl | hb
 · exact h
 exact vD l 8 b hb
theorem yI {l : List Kd} (h : l.length < 256) : ∀ b ∈ sF l, b < 256 := fun b hb => by
 rcases zaq.1 hb with rfl | hb
 · omega
 rcases zaq.1 hb with rfl | hb
 · exact h
 exact vD l 2 b hb
theorem fL {bs : List Nat} (h : ∀ b ∈ bs, b < 256) : ∀ b ∈ dR bs, b < 256 := yD (sS h)
theorem fM {bs : List Nat} (h : bs.length ≤ 124) : (dR bs).length = 128 := oT (by rw [fY]; omega)
theorem qWg (l : List Pr) (i : Nat) : (bD l i).length ≤ 7 := by unfold bD; rw [zk]; omega
theorem qXy {l : List Pr} (h : l.length ≤ 7) : (pC l).length = 128 ∧ ∀ b ∈ pC l, b < 256 := ⟨fM (by rw [tO]; omega), fL (wF jo)⟩
theorem qJ5 {l : List Kd} (h : l.length ≤ 12) : (gO l).length = 128 ∧ ∀ b ∈ gO l, b < 256 := ⟨fM (by rw [wD]; omega), fL (yI jo)⟩
theorem qHw (P : List Nat → Prop) (hi : ∀ l : List Kd, l.length ≤ 12 → P (gO l)) : ∀ (n : Nat) (out : List (List Nat)) (level : List Kd), level.length = n → (∀ x ∈ out, P x) → ∀ x ∈ upM out level, P x := by
 intro n
 induction n using Nat.strongRecOn with
 | _ n ih =>
  intro out level hl ho
  rw [upM]
  by_cases h : level.length ≤ 1
  · rw [dif_pos h]; exact ho
  rw [dif_neg h]
  refine ih _ ?_ _ _ rfl ?_
  · rw [hZ, eU]; omega
  intro x hx
  rcases zcp.1 hx with hx | hx
  · exact ho x hx
  obtain ⟨c, hc, rfl⟩ := List.mem_map.1 hx
  obtain ⟨i, _, rfl⟩ := List.mem_map.1 hc
  exact hi _ (by rw [zk]; omega)
theorem mB (l : List Pr) : ∀ x ∈ bQ l, x.length = 128 ∧ ∀ b ∈ x, b < 256 :=
 qHw (fun x => x.length = 128 ∧ ∀ b ∈ x, b < 256) (fun _ h => qJ5 h) _ _ _ rfl (fun x hx => by
  obtain ⟨i, _, rfl⟩ := List.mem_map.1 hx
  exact qXy (qWg l i))
def pD (k : Nat) : Nat := if k = 2 then 10 else 16
def eC (b : List Nat) : Prop := b.length = 128 ∧ ((b.getD 0 0 = 2 ∧ b.getD 1 0 ≤ 12 ∧ b.getD 1 0 ≠ 0) ∨ (b.getD 0 0 = 1 ∧ b.getD 1 0 ≤ 7)) ∧ dR (b.take (2 + pD (b.getD 0 0) * b.getD 1 0)) = b
instance (b : List Nat) : Decidable (eC b) := by unfold eC; infer_instance
def dK (b : List Nat) (a : Nat) : Nat := cT ((b.drop a).take 8)
def dF (b : List Nat) : List Pr := if b.getD 0 0 = 2 then [] else (List.range (b.getD 1 0)).map fun i => (dK b (2 + 16 * i), dK b (10 + 16 * i))
def cU (ps : List (List Nat)) : List Pr := ps.flatMap dF
instance (l : List Pr) : Decidable (MayT l) := by
 unfold MayT
 have : (∀ i, i + 1 < l.length → (l.getD i (0, 0)).1 < (l.getD (i + 1) (0, 0)).1) ↔ ∀ i, i < l.length → i + 1 < l.length → (l.getD i (0, 0)).1 < (l.getD (i + 1) (0, 0)).1 := ⟨fun h i _ hi => h i hi, fun h i hi => h i jo hi⟩
 rw [this]
 infer_instance
def eR (ps : List (List Nat)) : Prop := (∀ p ∈ ps, eC p) ∧ MayT (cU ps) ∧ bQ (cU ps) = ps
instance (ps : List (List Nat)) : Decidable (eR ps) := by unfold eR; infer_instance
end
section
open Go.RowKit
open Go.Maps (Keyed)
theorem qJ6 (z : Int) (h : -9223372036854775808 ≤ z ∧ z ≤ 9223372036854775807) : keyOf Tryz.prog 3 (.int .i64 z) = some (.int .i64 z) := by
 have hw : (Lit.int .i64 z).wf = true := by
  simp [Lit.wf, IntKind.min, IntKind.max, IntKind.signed, IntKind.bits]
  omega
 simp [keyOf, mapKey, zz, hw]
abbrev qXz : Nat → Value := fun z => jI1 z
theorem qGi : ∀ a b, qXz a = qXz b → a = b := fun a b h => by
 injection h with _ h
 exact Int.ofNat.inj h
def MvN (vs : List Nat) : Nat → Option Value := fun y => if y ∈ vs then some (.bool true) else none
theorem qJ7 : (fun _ : Nat => none) = MvN [] := by funext y; simp [MvN]
theorem qX0 (vs : List Nat) (x : Nat) : (fun y => if y = x then some (.bool true) else MvN vs y) = MvN (vs ++ [x]) := by
 funext y
 unfold MvN
 by_cases h : y = x <;> simp [h]
theorem qJ8 (vs : List Nat) (x : Nat) : (MvN vs x).getD (.bool false) = .bool (decide (x ∈ vs)) := by
 unfold MvN
 by_cases h : x ∈ vs <;> simp [h]
abbrev Pq := Nat × (Option Addr × Nat × List Nat)
def pq0 : Pq := (0, none, 0, [])
def pqC (x : Pq) : List Value := [jI1 x.1, SL x.2]
theorem qHx (x : Pq) : (pqC x).length = 2 := rfl
theorem eG (x : Pq) : ∀ u ∈ pqC x, u.oneCell' = true := by
 intro u hu
 simp only [pqC, zaq, zaz, or_false] at hu
 rcases hu with rfl | rfl <;> rfl
def puL (l : List Pq) : List Pu := l.map fun x => (x.1, x.2.2.2)
theorem cQ (l : List Pq) : (puL l).length = l.length := by simp [puL]
structure RdP (w : World) (S : Option Addr) (n : Nat) (l : List Pq) : Prop where
 len : l.length = n
 rd : Rd w 2 S n (l.flatMap pqC)
 el : ∀ x ∈ l, Rd w 1 x.2.1 x.2.2.2.length (NB x.2.2.2)
 num : ∀ x ∈ l, x.1 ≤ 1000000000
 oct : ∀ x ∈ l, ∀ b ∈ x.2.2.2, b < 256
theorem RdP.frm {w w' : World} {S : Option Addr} {n : Nat} {l : List Pq} (h : RdP w S n l) (k : Frm [] w w') : RdP w' S n l := ⟨h.len, h.rd.frm k jp, fun x hx => (h.el x hx).frm k jp, h.num, h.oct⟩
theorem RdP.cell {w : World} {S : Option Addr} {n : Nat} {l : List Pq} (h : RdP w S n l) {k : Nat} (hk : k < n) : ∃ ad, S = some ad ∧ ∀ j v, (pqC (l.getD k pq0))[j]? = some v → w.cell? ((ad.add (k * 2)).add j) = some v := rdF pqC 2 qHx h.rd h.len hk pq0
theorem lL {l : List Pq} {i : Nat} (h : i < l.length) : l.getD i pq0 ∈ l := by
 rw [zb, ze h]
 exact zbp h
theorem mC {l : List Pq} {i : Nat} (h : i < l.length) : l.take (i + 1) = l.take i ++ [l.getD i pq0] := by
 rw [zcq, ze h, zb, ze h]
 rfl
theorem qQc {α : Type} {r : List α} {x d : α} {j : Nat} (h : j < r.length) : (r ++ [x]).getD j d = r.getD j d := by
 rw [zb, zdl h, zb]
theorem qQd {α : Type} (r : List α) (x d : α) : (r ++ [x]).getD r.length d = x := by
 rw [zb, zcz (zag _), zes]
 rfl
def uQ (l : List Pq) (size k : Nat) : Prop := ∀ j, j < k → ((41 ≤ (l.getD j pq0).1 ∧ (l.getD j pq0).1 < size) ∧ (l.getD j pq0).2.2.2.length = 128) ∧ (l.getD j pq0).1 ∉ (l.take j).map (·.1)
theorem qX1 {l : List Pq} {size : Nat} : cH (puL l) size ↔ (1 ≤ l.length ∧ l.length ≤ 40) ∧ uQ l size l.length := by
 have key : ∀ (m : Nat) (l : List Pq), l.length = m → (((puL l).map (·.1)).Nodup ↔ ∀ j, j < l.length → (l.getD j pq0).1 ∉ (l.take j).map (·.1)) := by
  intro m
  induction m with
  | zero => intro l hl; rw [zca hl]; simp [puL]
  | succ m ih0 =>
   intro l hl
   obtain ⟨r, x, rfl⟩ : ∃ r x, l = r ++ [x] := by
    rcases List.eq_nil_or_concat l with rfl | ⟨r, x, rfl⟩
    · simp at hl
    exact ⟨r, x, by rw [List.concat_eq_append]⟩
   have ih := ih0 r (by simpa using hl)
   have e1 : (puL (r ++ [x])).map (·.1) = (puL r).map (·.1) ++ [x.1] := by simp [puL]
   have e2 : (puL r).map (·.1) = r.map (·.1) := by simp [puL]
   rw [e1, zga]
   constructor
   ·
    rintro ⟨h1, _, h3⟩ j hj
    rw [zf, zck] at hj
    by_cases hjl : j < r.length
    ·
     rw [qQc hjl, zcb jo]
     exact ih.1 h1 j hjl
    obtain rfl : j = r.length := jo
    rw [qQd, zfj rfl]
    intro hm
    exact h3 _ (e2 ▸ hm) _ jp rfl
   intro h
   refine ⟨ih.2 fun j hj => ?_, jp, fun a ha b hb hab => ?_⟩
   ·
    have := h j (by simp; omega)
    rwa [qQc hj, zcb jo] at this
   have := h r.length jp
   rw [qQd, zfj rfl] at this
   rw [za] at hb
   subst hb
   subst hab
   exact this (e2 ▸ ha)
 unfold cH uQ
 rw [key l.length l rfl, cQ]
 constructor
 ·
  rintro ⟨h1, h2, h3⟩
  exact ⟨h1, fun j hj => ⟨h2 ((l.getD j pq0).1, (l.getD j pq0).2.2.2) (List.mem_map.2 ⟨_, lL hj, rfl⟩), h3 j hj⟩⟩
 rintro ⟨h1, h2⟩
 refine ⟨h1, fun x hx => ?_, fun j hj => (h2 j hj).2⟩
 obtain ⟨y, hy, rfl⟩ := List.mem_map.1 hx
 obtain ⟨j, hj, rfl⟩ := zcw hy
 have := (h2 j hj).1
 rw [zb, ze hj] at this
 exact this
theorem qQe {l : List Pq} {size k : Nat} (h : uQ l size k) (h1 : ((41 ≤ (l.getD k pq0).1 ∧ (l.getD k pq0).1 < size) ∧ (l.getD k pq0).2.2.2.length = 128) ∧ (l.getD k pq0).1 ∉ (l.take k).map (·.1)) : uQ l size (k + 1) := fun j hj => by
 by_cases hjk : j < k
 · exact h j hjk
 obtain rfl : j = k := jo
 exact h1
theorem uX (S : Option Addr) (n c size : Nat) (l : List Pq) (w : World) (hn : n ≤ 1000000) (hs : size ≤ 1000000000) (hr : RdP w S n l) :
  Calls Tryz.prog 109 #[.slice S n c, .int .i64 ((size : Nat) : Int)] w fun e w' => e = .returned (.bool (decide (cH (puL l) size))) ∧ Frm [] w w' := by
 have hln := hr.len
 have hall := qX1 (l := l) (size := size)
 refine VC.calls (nt := 48) (res := #[.tmp 4]) Tryz.func109 rfl Tryz.ntmps109 Tryz.results109 rfl ?_
 refine jS (jR (ja rfl (jO (jN (jv2 0 1 ?_)))))
 refine jS (jS ?_)
 refine VC.split1 [(0, _), (1, _)] (js2 rfl rfl) 15 (.bool (decide (¬ (1 ≤ n ∧ n ≤ 40)))) ?_ ?_
 ·
  refine jR ?_
  refine jm rfl (je (Run.lenS rfl zx) (jb rfl rfl (Bin.lssN _ 1) ?_))
  by_cases hs10 : n < 1
  ·
   refine jM ?_
   refine jU ?_
   refine jU ?_
   refine jU ?_
   refine je (Run.pickT rfl rfl au) (jO ?_)
   refine jN ⟨(js3 (jC (by first | (simp; omega) | (simp [*]; done) | grind)) rfl rfl), rfl⟩
  refine jM ?_
  refine jG ?_
  refine jk (Run.lenS rfl zx) ?_
  refine jk (Run.bin rfl rfl (Bin.gtrN _ 40)) ?_
  by_cases hs14 : 40 < n
  ·
   refine je (Run.pickF rfl rfl au) (jO ?_)
   refine jN ⟨(js3 (jC (by first | (simp; omega) | (simp [*]; done) | grind)) rfl rfl), rfl⟩
  refine je (Run.pickF rfl rfl au) (jO ?_)
  refine jN ⟨(js3 (jC (by first | (simp; omega) | (simp [*]; done) | grind)) rfl rfl), rfl⟩
 intro Γ hΓ
 refine jN (VC.sub _ hΓ ?_)
 refine jD rfl (fun hc1 => ?_) fun hc1 => ?_
 ·
  rw [show decide (cH (puL l) size) = false by rw [decide_eq_false]; rw [hall, hln]; exact fun h => hc1 h.1]
  refine jS (jR (ja rfl (jO (jN (jv1 4 ?_)))))
  refine jT ?_
  refine qQ (qS rfl ?_)
  exact ⟨rfl, Frm.refl _ _⟩
 have hc1 := Classical.not_not.1 hc1
 refine jQ (jN (jv2 0 1 ?_))
 refine jS (jR ?_)
 refine Ops.m (qV.makeMap (k := 3) (enc := qXz)) rfl ?_
 rintro _ w1 ⟨rfl, hmp, hf1, hs1⟩
 rw [qJ7] at hmp
 generalize hgm : w.heap.size = gm at *
 refine ja rfl (jO (jN (jv3 0 1 5 ?_)))
 refine jS (jS (jR (jm rfl (je (Run.lenS rfl zx) ?_))))
 refine jx .i64 0 ?_
 refine jO (jN (jv5 1 5 17 18 19 ?_))
 refine jB ?_
 refine VC.loop (σ := Nat) (fun s => [(1, .int .i64 ((size : Nat) : Int)), (5, .map (some gm)), (17, .slice S n c), (18, .int .i64 ((n : Nat) : Int)), (19, .int .i64 ((s : Nat) : Int))]) (fun s wr => s ≤ n ∧ MpF Tryz.prog 3 qXz wr gm (MvN ((l.take s).map (·.1))) ∧ Frm [] w wr ∧ uQ l size s) (fun s => n - s) 0 (js5 rfl rfl rfl rfl rfl) ⟨zj _, by simpa using hmp, hf1, fun j hj => by omega⟩ ?_
 rintro i wr ⟨hi, hmp, K, hK⟩
 have ks := K.size
 refine jS (jR (jb rfl rfl (Bin.lssN _ _) (jO (jN (jS ?_)))))
 refine jD rfl (fun hc2 => ?_) fun hc2 => ?_
 ·
  obtain ⟨ad, hS, hel⟩ := (hr.frm K).cell hc2
  subst hS
  have hsn := mC (show i < l.length by omega)
  have hxn := hr.num _ (lL (show i < l.length by omega))
  have hKs : ((41 ≤ (l.getD i pq0).1 ∧ (l.getD i pq0).1 < size) ∧ (l.getD i pq0).2.2.2.length = 128) ∧ (l.getD i pq0).1 ∉ (l.take i).map (·.1) → uQ l size (i + 1) := qQe hK
  have hKn : ¬ (((41 ≤ (l.getD i pq0).1 ∧ (l.getD i pq0).1 < size) ∧ (l.getD i pq0).2.2.2.length = 128) ∧ (l.getD i pq0).1 ∉ (l.take i).map (·.1)) → ¬ cH (puL l) size := fun h hm => h (((hall.1 hm).2) i jo)
  generalize l.getD i pq0 = x at hel hsn hxn hKs hKn
  obtain ⟨xa, xA, xc, xb⟩ := x
  dsimp only at hKs hKn hxn
  refine jQ (jN (jv5 1 5 17 18 19 ?_))
  refine jS (jB (jS (jR (je (Run.indexS _ rfl rfl zx zbe jo) (je (Run.loadA rfl Tryz.isAgg132 zbe hel (by first | rfl | (simp; done))) ?_)))))
  refine Ops.m (qV.alloc cP) rfl ?_
  rintro _ w2 ⟨rfl, hF2⟩
  refine Ops.st (qT.storeA rfl rfl zbe hF2.blk rfl (eG (xa, xA, xc, xb))) ?_
  rintro w3 ⟨hb3, hf3, hs3⟩
  have hb3 : Blk w3 wr.heap.size 132 #[.int .i64 ((xa : Nat) : Int), .slice xA xb.length xc] := hb3
  have K3 : Frm [] wr w3 := hF2.frm.own hf3 jp
  have hmp := hmp.frm K3 jp
  have K := K.trans K3 jp
  have hne := hmp.ne_blk hb3
  generalize hg7 : wr.heap.size = g7 at *
  refine jO (jN (jv6 1 5 7 17 18 19 ?_))
  refine jS (jS ?_)
  refine VC.split1 [(1, _), (5, _), (7, _), (17, _), (18, _), (19, _)] (js6 rfl rfl rfl rfl rfl rfl) 43 (.bool (decide (¬ (((41 ≤ xa ∧ xa < size) ∧ xb.length = 128) ∧ xa ∉ (l.take i).map (·.1))))) ?_ ?_
  ·
   refine jR (jf rfl zbs rfl zm (jl rfl zaa (hb3.cell 0) (jb rfl rfl (Bin.lssN _ 41) ?_)))
   by_cases hs25 : xa < 41
   ·
    refine jM ?_
    refine jU ?_
    refine jU ?_
    refine jU ?_
    refine jU ?_
    refine je (Run.pickT rfl rfl au) (jM ?_)
    refine jU ?_
    refine jU ?_
    refine jU ?_
    refine jU ?_
    refine je (Run.pickT rfl rfl au) (jM ?_)
    refine jU ?_
    refine jU ?_
    refine jU ?_
    refine jU ?_
    refine je (Run.pickT rfl rfl au) (jO ?_)
    refine jN ⟨(js7 (jC (by grind)) rfl rfl rfl rfl rfl rfl), rfl⟩
   refine jM ?_
   refine jk (Run.fieldAddr rfl zbs rfl zm (by decide)) ?_
   refine jk (Run.load rfl zaa (hb3.cell 0)) ?_
   refine jG ?_
   refine jk (Run.bin rfl rfl (Bin.geqN _ _)) ?_
   by_cases hs30 : size ≤ xa
   ·
    refine je (Run.pickF rfl rfl au) (jM ?_)
    refine jU ?_
    refine jU ?_
    refine jU ?_
    refine jU ?_
    refine je (Run.pickT rfl rfl au) (jM ?_)
    refine jU ?_
    refine jU ?_
    refine jU ?_
    refine jU ?_
    refine je (Run.pickT rfl rfl au) (jO ?_)
    refine jN ⟨(js7 (jC (by grind)) rfl rfl rfl rfl rfl rfl), rfl⟩
   refine je (Run.pickF rfl rfl au) (jM ?_)
   refine jG ?_
   refine jk (Run.fieldAddr rfl zbs rfl zm (by decide)) ?_
   refine jk (Run.load rfl zaa (hb3.cell 0)) ?_
   refine jk (Run.lookup (enc := qXz) (x := xa) rfl rfl hmp (Go.Maps.int_keyed zz) Tryz.underlying216 qHh (qJ6 _ jo)) ?_
   rw [qJ8]
   by_cases hs36 : xa ∈ (l.take i).map (·.1)
   ·
    refine je (Run.pickF rfl rfl au) (jM ?_)
    refine jU ?_
    refine jU ?_
    refine jU ?_
    refine jU ?_
    refine je (Run.pickT rfl rfl au) (jO ?_)
    refine jN ⟨(js7 (jC (by grind)) rfl rfl rfl rfl rfl rfl), rfl⟩
   refine je (Run.pickF rfl rfl au) (jM ?_)
   refine jk (Run.fieldAddr rfl zbs rfl zah (by decide)) ?_
   refine jk (Run.load rfl zba (hb3.cell 1)) ?_
   refine jk (Run.lenS rfl zg) ?_
   refine jk (Run.bin rfl rfl (Bin.neqN _ 128)) ?_
   by_cases hs42 : ¬ xb.length = 128
   ·
    refine je (Run.pickF rfl rfl au) (jO ?_)
    refine jN ⟨(js7 (jC (by grind)) rfl rfl rfl rfl rfl rfl), rfl⟩
   refine je (Run.pickF rfl rfl au) (jO ?_)
   refine jN ⟨(js7 (jC (by grind)) rfl rfl rfl rfl rfl rfl), rfl⟩
  intro Γ hΓ
  refine jN (VC.sub _ hΓ ?_)
  refine jD rfl (fun hc3 => ?_) fun hc3 => ?_
  ·
   rw [show decide (cH (puL l) size) = false from decide_eq_false (hKn hc3)]
   refine jS (jR (ja rfl (jO (jN (jv1 4 ?_)))))
   refine jT ?_
   refine qQ (qR (qQ (qQ (qR (qQ (qS rfl ?_))))))
   exact ⟨rfl, K⟩
  have hc3 := Classical.not_not.1 hc3
  refine jQ (jN (jv6 1 5 7 17 18 19 ?_))
  refine jR (jm rfl (jf rfl zbs rfl zm (jl rfl zaa (hb3.cell 0) ?_)))
  refine Ops.st (qT.mapUpd (x := xa) rfl rfl rfl hmp (Go.Maps.int_keyed zz) qGi Tryz.underlying216 (qJ6 _ jo)) ?_
  rintro w8 ⟨hmp8, hf8, hs8⟩
  rw [qX0] at hmp8
  have K := K.own hf8 (by simp; omega)
  refine jO ?_
  refine qH (jN ?_)
  refine jv5 1 5 17 18 19 ?_
  refine jR (jb rfl rfl (Bin.add_i64 _ 1 jo) (jm rfl (jO ?_)))
  refine jN ⟨i + 1, (js5 rfl rfl rfl rfl rfl), ?_, ?_⟩
  · exact ⟨hc2, by rw [hsn, zv]; exact hmp8, K, hKs hc3⟩
  first | omega | (dsimp only; omega)
 refine jX ?_
 refine qZ (qZ (qN ?_))
 refine jN ?_
 refine VC.sub [] .nil ?_
 refine jS (jR (ja rfl (jO (jN (jT ?_)))))
 refine qS rfl ?_
 obtain rfl : i = n := by omega
 rw [show decide (cH (puL l) size) = true by rw [decide_eq_true]; rw [hall, hln]; exact ⟨hc1, by rw [hln] at *; exact hK⟩]
 exact ⟨rfl, K⟩
theorem pE (v n : Nat) (w : World) (hn1 : 1 ≤ n) (hn8 : n ≤ 8) (hv : v < 256 ^ n) :
  Calls Tryz.prog 145 #[.int .u64 ((v : Nat) : Int), .int .i64 ((n : Nat) : Int)] w fun e w' => ∃ B d, e = .returned (.slice B n d) ∧ Own w' 5 1 B n d (NB (qC v n)) ∧ Frm [] w w' ∧ ∀ x ∈ ob B, w.heap.size ≤ x := by
 refine VC.calls (nt := 14) (res := #[.tmp 4]) Tryz.func145 rfl Tryz.ntmps145 Tryz.results145 rfl ?_
 refine jS (jR (ja rfl (jO (jN (jv2 0 1 ?_)))))
 refine jS (jR (jm rfl (jM ?_)))
 refine Ops.cl (jE2 Tryz.call155) (sD v n _ hn1 hn8 hv) rfl ?_
 rintro e w1 ⟨B, d, rfl, ho, hf, hup⟩
 refine ⟨_, rfl, ?_⟩
 refine jm rfl (je (Run.extract rfl rfl) (je (Run.extract rfl rfl) (ja rfl (ja rfl (jO (jN (jv1 5 ?_)))))))
 refine jS (jR (jm rfl (ja rfl (jO (jN (jv1 4 ?_))))))
 refine jT ?_
 refine qS rfl ?_
 exact ⟨B, d, rfl, ho, hf, hup⟩
theorem qWh {l : List Pq} {i : Nat} (h : i < l.length) : mU (puL (l.take (i + 1))) = moreM (mU (puL (l.take i))) (l.getD i pq0).2.2.2 := by
 rw [mC h, puL, zv, mU]
 rw [zfx]
 rfl
def at2 (l : List Pq) : List Nat := l.flatMap fun x => qC x.1 2
theorem qX2 {l : List Pq} {i : Nat} (h : i < l.length) : at2 (l.take (i + 1)) = at2 (l.take i) ++ qC (l.getD i pq0).1 2 := by
 rw [mC h, at2, zan]
 simp [at2]
theorem qNe (l : List Pq) : (at2 l).length = 2 * l.length := by
 induction l with
 | nil => rfl
 | cons a r ih => rw [at2, zaw, zf, numL_len, zad]; rw [at2] at ih; omega
theorem qX3 (l : List Pq) : kM (puL l) = qC 1785491060 4 ++ (qC l.length 2 ++ (qC (mU (puL l)) 4 ++ at2 l)) := by
 have : (puL l).flatMap (fun x => qC x.1 2) = at2 l := by
  rw [puL, List.flatMap_map]
  rfl
 rw [kM, cQ, this]
 simp
theorem qWi {l : List Pq} {size : Nat} (h : cH (puL l) size) {x : Pq} (hx : x ∈ l) : (41 ≤ x.1 ∧ x.1 < size) ∧ x.2.2.2.length = 128 := h.2.1 (x.1, x.2.2.2) (List.mem_map.2 ⟨x, hx, rfl⟩)
set_option maxHeartbeats 1000000 in
theorem yQ (S : Option Addr) (n c : Nat) (l : List Pq) (w : World) (hn : n ≤ 1000000) (hr : RdP w S n l) :
  Calls Tryz.prog 110 #[.slice S n c] w fun e w' => ∃ B d bs, bs = (if cH (puL l) 2048 then dC (puL l) else []) ∧ e = .returned (.tuple #[.slice B bs.length d, .int .i64 ((if cH (puL l) 2048 then 0 else 1 : Nat) : Int)]) ∧ Rd w' 1 B bs.length (NB bs) ∧ Frm [] w w' ∧ ∀ x ∈ ob B, w.heap.size ≤ x := by
 have hln := hr.len
 refine VC.calls (nt := 52) (res := #[.tmp 2, .tmp 3]) Tryz.func110 rfl Tryz.ntmps110 Tryz.results110 rfl ?_
 refine jS (jR (ja rfl (jz 0 (jO (jN (jv1 0 ?_))))))
 refine jS (jS (jR (jM ?_)))
 refine Ops.cl (jE2 Tryz.call109) (uX S n c 2048 l w hn jo hr) rfl ?_
 rintro e w1 ⟨rfl, K⟩
 refine ⟨_, rfl, ?_⟩
 refine je (Run.not rfl) (jO (jN (jv2 0 12 ?_)))
 refine VC.condB rfl (fun hc1 => ?_) (fun hc1 => ?_)
 ·
  have hm : ¬ cH (puL l) 2048 := by simpa using hc1
  rw [if_neg hm, if_neg hm]
  refine jS (jR (ja rfl (jz 1 (jO (jN (jv2 2 3 ?_))))))
  refine jT ?_
  refine qQ (bX rfl rfl ?_)
  exact ⟨none, 0, [], rfl, rfl, Rd.nil _ _ _, K, by simp [ob]⟩
 have hm : cH (puL l) 2048 := by simpa using hc1
 rw [if_pos hm, if_pos hm]
 have h40 : n ≤ 40 := by have := hm.1.2; rw [cQ] at this; omega
 have hat := fun x hx => qWi (l := l) hm (x := x) hx
 refine jQ (jN (jv1 0 ?_))
 refine jS (jR ?_)
 refine jy .u32 0 ?_
 refine jO (jN (jS (jS (jR (jm rfl (je (Run.lenS rfl zx) ?_))))))
 refine jx .i64 0 ?_
 refine jO (jN (jB ?_))
 refine VC.loop (σ := Nat) (fun s => [(0, .slice S n c), (4, .int .u32 ((mU (puL (l.take s)) : Nat) : Int)), (13, .slice S n c), (14, .int .i64 ((n : Nat) : Int)), (15, .int .i64 ((s : Nat) : Int))]) (fun s wr => s ≤ n ∧ Frm [] w wr) (fun s => n - s) 0 (js5 rfl rfl rfl rfl rfl) ⟨zj _, K⟩ ?_
 rintro i wr ⟨hi, K⟩
 refine jS (jR (jb rfl rfl (Bin.lssN _ _) (jO (jN (jS ?_)))))
 refine jD rfl (fun hc2 => ?_) fun hc2 => ?_
 ·
  obtain ⟨ad, hS, hel⟩ := (hr.frm K).cell hc2
  subst hS
  have hmem := lL (jo : i < l.length)
  have hxr := (hr.frm K).el _ hmem
  have hxo := hr.oct _ hmem
  have hxt := hat _ hmem
  have hsn := qWh (jo : i < l.length)
  have hs32 := yE (puL (l.take i))
  generalize l.getD i pq0 = x at hel hxr hxo hxt hsn
  obtain ⟨xa, xA, xc, xb⟩ := x
  dsimp only at hxr hxo hxt hsn
  refine jQ (jN (jv5 0 4 13 14 15 ?_))
  refine jS (jB (jS (jR (je (Run.indexS _ rfl rfl zx zbe jo) (je (Run.loadA rfl Tryz.isAgg132 zbe hel (by first | rfl | (simp; done))) ?_)))))
  refine Ops.m (qV.alloc cP) rfl ?_
  rintro _ w2 ⟨rfl, hF2⟩
  refine Ops.st (qT.storeA rfl rfl zbe hF2.blk rfl (eG (xa, xA, xc, xb))) ?_
  rintro w3 ⟨hb3, hf3, hs3⟩
  have hb3 : Blk w3 wr.heap.size 132 #[.int .i64 ((xa : Nat) : Int), .slice xA xb.length xc] := hb3
  have K3 : Frm [] wr w3 := hF2.frm.own hf3 jp
  have K := K.trans K3 jp
  have hxr := hxr.frm K3 jp
  refine jO (jN (jv6 0 4 6 13 14 15 ?_))
  refine jR (jm rfl (jf rfl zbs rfl zah (jl rfl zba (hb3.cell 1) ?_)))
  refine Ops.cl (jE2 Tryz.call123) (qJb xA xc xb.length _ xb _ rfl jo hs32 hxo hxr) rfl ?_
  rintro e w4 ⟨rfl, hf4⟩
  refine ⟨_, rfl, ?_⟩
  have K := K.trans hf4 jp
  refine ja rfl (jO ?_)
  refine qH (jN ?_)
  refine jv5 0 4 13 14 15 ?_
  refine jR (jb rfl rfl (Bin.add_i64 _ 1 jo) (jm rfl (jO ?_)))
  refine jN ⟨i + 1, (js5 rfl (by rw [hsn]; rfl) rfl rfl rfl), ?_, ?_⟩
  · exact ⟨hc2, K⟩
  first | omega | (dsimp only; omega)
 refine jX ?_
 refine qZ (qZ (qN ?_))
 refine jN (jv2 0 4 ?_)
 refine jS (jR ?_)
 refine Ops.cl (jE2 Tryz.call145) (pE 1785491060 4 _ jo jo jd) rfl ?_
 rintro e w4 ⟨B1, d1, rfl, ho1, hf4, hup1⟩
 refine ⟨_, rfl, ?_⟩
 obtain rfl : i = n := jo
 rw [show l.take i = l by rw [zh jo]]
 have hs32 := yE (puL l)
 generalize hsm : mU (puL l) = sm at *
 refine jm rfl (je (Run.lenS rfl zx) (je (Run.convN _ rfl zz zr (by simp only [bmax]; omega)) ?_))
 refine Ops.cl (jE2 Tryz.call145) (pE i 2 _ jo jo jo) rfl ?_
 rintro e w5 ⟨B2, d2, rfl, ho2, hf5, hup2⟩
 refine ⟨_, rfl, ?_⟩
 refine jm rfl (je (Run.convN _ rfl zby zr (by simp only [bmax]; omega)) ?_)
 refine Ops.cl (jE2 Tryz.call145) (pE sm 4 _ jo jo jo) rfl ?_
 rintro e w6 ⟨B3, d3, rfl, ho3, hf6, hup3⟩
 refine ⟨_, rfl, ?_⟩
 refine Ops.m (qV.buildN (cells := #[.slice B1 4 d1, .slice B2 2 d2, .slice B3 4 d3]) (evs.cons rfl (evs.cons rfl (evs.cons rfl evs.nil))) zbc zah tP rfl rfl jK) rfl ?_
 rintro _ w7 ⟨rfl, hF7⟩
 have hp1 : Rd w7 1 B1 4 (NB (qC 1785491060 4)) := (((ho1.rd.frm hf5 jp).frm hf6 jp).frm hF7.frm jp)
 have hp2 : Rd w7 1 B2 2 (NB (qC i 2)) := ((ho2.rd.frm hf6 jp).frm hF7.frm jp)
 have hp3 : Rd w7 1 B3 4 (NB (qC sm 4)) := (ho3.rd.frm hF7.frm jp)
 have K7 := (((K.trans hf4 jp).trans hf5 jp).trans hf6 jp).trans hF7.frm jp
 obtain ⟨ls, hls⟩ : ∃ ls : List (Option Addr × Nat × List Nat), ls = [(B1, d1, qC 1785491060 4), (B2, d2, qC i 2), (B3, d3, qC sm 4)] := ⟨_, rfl⟩
 have hjl : cZ ls = qC 1785491060 4 ++ (qC i 2 ++ qC sm 4) := by rw [hls]; simp [cZ]
 have hjn : (cZ ls).length = 10 := by rw [hjl]; simp [numL_len]
 have hrl : Rd w7 1 (some ⟨w6.heap.size, 0, none⟩) 3 (ls.map SL) := by
  have := Rd.of_blk (n := 3) (size := 1) hF7.blk rfl
  rw [hls]
  simpa [SL, numL_len] using this
 refine Ops.cl (jE2 Tryz.call144) (qWd (some ⟨w6.heap.size, 0, none⟩) 3 3 ls _ (by rw [hls]; rfl) jo jo jo (by rw [hls]; intro x hx; simp at hx; rcases hx with rfl | rfl | rfl <;> simp [numL_len]) jo hrl (by rw [hls]; intro x hx; simp at hx; rcases hx with rfl | rfl | rfl <;> simpa [numL_len])) rfl ?_
 rintro e w8 ⟨B4, rfl, hr4, hf8, hup4⟩
 refine ⟨_, rfl, ?_⟩
 rw [hjn] at hr4 ⊢
 rw [hjl] at hr4
 have K8 := K7.trans hf8 jp
 have hat0 : at2 (l.take 0) = [] := rfl
 have s7 := K7.size
 refine ja rfl (jO (jN (jv2 0 7 ?_)))
 refine jS (jS (jR (jm rfl (je (Run.lenS rfl zx) ?_))))
 refine jx .i64 0 ?_
 refine jO (jN (jv4 7 34 35 36 ?_))
 refine jB ?_
 refine VC.loop (σ := Nat × Option Addr × Nat) (fun s => [(7, .slice s.2.1 (10 + 2 * s.1) s.2.2), (34, .slice S i c), (35, .int .i64 ((i : Nat) : Int)), (36, .int .i64 ((s.1 : Nat) : Int))]) (fun s wr => s.1 ≤ i ∧ wT wr 5 s.2.1 (10 + 2 * s.1) s.2.2 (NB (qC 1785491060 4 ++ (qC i 2 ++ qC sm 4) ++ at2 (l.take s.1))) ∧ Frm [] w wr ∧ ∀ x ∈ ob s.2.1, w.heap.size ≤ x) (fun s => i - s.1) (0, B4, 10) (js4 rfl rfl rfl rfl) ⟨zj _, .inr ⟨rfl, jo, by rw [hat0, zav]; exact hr4⟩, K8, fun x hx => zbd s7 (hup4 x hx)⟩ ?_
 rintro ⟨k, B, d⟩ wr ⟨hk, ho, K, hup⟩
 dsimp only at hk ho hup ⊢
 refine jS (jR (jb rfl rfl (Bin.lssN _ _) (jO (jN (jS ?_)))))
 refine jD rfl (fun hc3 => ?_) fun hc3 => ?_
 ·
  obtain ⟨ad, hS, hel⟩ := (hr.frm K).cell hc3
  subst hS
  have hmem := lL (jo : k < l.length)
  have hxt := hat _ hmem
  have hsn := qX2 (jo : k < l.length)
  generalize l.getD k pq0 = x at hel hxt hsn
  obtain ⟨xa, xA, xc, xb⟩ := x
  dsimp only at hxt hsn
  refine jQ (jN (jv4 7 34 35 36 ?_))
  refine jS (jB (jS (jR (je (Run.indexS _ rfl rfl zx zbe jo) (je (Run.loadA rfl Tryz.isAgg132 zbe hel (by first | rfl | (simp; done))) ?_)))))
  refine Ops.m (qV.alloc cP) rfl ?_
  rintro _ w2 ⟨rfl, hF2⟩
  refine Ops.st (qT.storeA rfl rfl zbe hF2.blk rfl (eG (xa, xA, xc, xb))) ?_
  rintro w3 ⟨hb3, hf3, hs3⟩
  have hb3 : Blk w3 wr.heap.size 132 #[.int .i64 ((xa : Nat) : Int), .slice xA xb.length xc] := hb3
  have K3 : Frm [] wr w3 := hF2.frm.own hf3 jp
  have K := K.trans K3 jp
  have ho := ho.frm K3 jp
  refine jO (jN (jv5 7 9 34 35 36 ?_))
  refine jR (jm rfl (jf rfl zbs rfl zm (jl rfl zaa (hb3.cell 0) (je (Run.convN _ rfl zz zr (by simp only [bmax]; omega)) ?_))))
  refine Ops.cl (jE2 Tryz.call145) (pE xa 2 _ jo jo jo) rfl ?_
  rintro e w4 ⟨B5, d5, rfl, ho5, hf5, hup5⟩
  refine ⟨_, rfl, ?_⟩
  have ho := ho.frm hf5 jp
  have K := K.trans hf5 jp
  have s4 := K.size
  refine Ops.m (qV.appG rfl rfl zg (eY) rfl ho ho5.rd (eZ _) jo jo jo) rfl ?_
  rintro _ w6 ⟨B6, d6, rfl, ho6, hf6, hup6⟩
  rw [← dM, zab, ← hsn] at ho6
  rw [show 10 + 2 * k + 2 = 10 + 2 * (k + 1) by omega] at ho6 ⊢
  refine ja rfl (jO ?_)
  refine qH (jN ?_)
  refine jv4 7 34 35 36 ?_
  refine jR (jb rfl rfl (Bin.add_i64 _ 1 jo) (jm rfl (jO ?_)))
  refine jN ⟨(k + 1, B6, d6), (js4 rfl rfl rfl rfl), ?_, ?_⟩
  ·
   exact ⟨hc3, .inl ho6, K.own hf6 hup, fun x hx => by
    rcases hup6 x hx with h | h
    · exact hup x h
    omega⟩
  first | omega | (dsimp only; omega)
 refine jX ?_
 refine qZ (qZ (qN ?_))
 refine jN (jv1 7 ?_)
 refine jS (jR (jM ?_))
 have hki : k = i := jo
 subst hki
 have hbody : Rd wr 1 B (10 + 2 * k) (NB (kM (puL l))) := by
  rw [zh jo] at ho
  have e := ho.rd
  rw [qX3, hsm, hln]
  simpa only [zab] using e
 refine Ops.cl (jE1 Tryz.call143) (nI B d (10 + 2 * k) (kM (puL l)) _ (by rw [pR, cQ]; omega) jo (sU _) hbody) rfl ?_
 rintro e w4 ⟨B5, d5, rfl, ho5, hf5, hup5⟩
 refine ⟨_, rfl, ?_⟩
 refine Ops.cl (jE2 Tryz.call146) (tA B5 d5 (10 + 2 * k + 4) 128 (fW (kM (puL l))) _ (by rw [fY, pR, cQ]; omega) jo jo ho5.rd) rfl ?_
 rintro e w6 ⟨B6, d6, rfl, ho6, hf6, hup6⟩
 refine ⟨_, rfl, ?_⟩
 refine je (Run.extract rfl rfl) (je (Run.extract rfl rfl) (ja rfl (ja rfl (jO (jN (jv2 2 3 ?_))))))
 refine jT ?_
 refine bX rfl rfl ?_
 rw [if_neg (jo : ¬ 128 < 10 + 2 * k + 4)]
 have hk1 := K.size
 have hk2 := hf5.size
 refine ⟨B6, d6, _, rfl, rfl, ho6.rd, (K.trans hf5 jp).trans hf6 jp, fun x hx => ?_⟩
 have := hup6 x hx
 omega
end
section
open Go.RowKit
theorem uZ (w : World) : (zeroValue 74).run Tryz.prog w = .ok .nilFunc w := by
 simp only [zeroValue, Sem.run_bind, Tryz.typeInfo74, Result.andThen_ok]; rfl
theorem uJ : (Tryz.prog.info? 74).map (fun i => (i.zero, i.size, i.bytes)) = some (some .nilFunc, 1, 8) := by kernel_rfl
def StV (w : World) (g : Nat) (F : List Nat) (v : Value) : Stp → Prop
 | .fl => v = .func (.func 31) ([jI0 g] : List Value).toArray ([] : List Value).toArray
 | .wr i b => ∃ g1 g2 g3 A c, v = .func (.func 129) ([] : List Value).toArray ([jI0 g1, jI0 g2, jI0 g3] : List Value).toArray ∧
   Blk w g1 23 #[jI0 g] ∧ Blk w g2 3 #[jI1 i] ∧ Blk w g3 63 #[.slice A b.length c] ∧ Rd w 1 A b.length (NB b) ∧ (g1 ∉ F ∧ g2 ∉ F ∧ g3 ∉ F) ∧ (0 < b.length → ∀ x ∈ ob A, x ∉ F) ∧ b.length ≤ 1000000 ∧ ∀ x ∈ b, x < 256
theorem StV.one {w : World} {g : Nat} {F : List Nat} {v : Value} : ∀ {s : Stp}, StV w g F v s → v.oneCell' = true
 | .fl, h => by rw [h]; rfl
 | .wr i b, h => by obtain ⟨_, _, _, _, _, rfl, _⟩ := h; rfl
theorem StV.frm {w w' : World} {g : Nat} {F : List Nat} {v : Value} (k : Frm [] w w') : ∀ {s : Stp}, StV w g F v s → StV w' g F v s
 | .fl, h => h
 | .wr i b, ⟨g1, g2, g3, A, c, h0, h1, h2, h3, h4, h5⟩ => ⟨g1, g2, g3, A, c, h0, h1.frm k jp, h2.frm k jp, h3.frm k jp, h4.frm k jp, h5⟩
theorem StV.fk {w w' : World} {g : Nat} {F F' : List Nat} {v : Value} (k : Fk F w w' F') : ∀ {s : Stp}, StV w g F v s → StV w' g F' v s
 | .fl, h => h
 | .wr i b, ⟨g1, g2, g3, A, c, h0, h1, h2, h3, h4, ⟨h5, h6, h7⟩, h8, h9⟩ => ⟨g1, g2, g3, A, c, h0, h1.frm k.1 h5, h2.frm k.1 h6, h3.frm k.1 h7, h4.frm k.1 h8, ⟨k.out h1.lt h5, k.out h2.lt h6, k.out h3.lt h7⟩, fun hb x hx => k.out (h4.lt hb x hx) (h8 hb x hx), h9⟩
def cC (w : World) (g : Nat) (F : List Nat) : List Value → List Stp → Prop
 | [], [] => True
 | v :: vs, s :: ss => StV w g F v s ∧ cC w g F vs ss
 | _, _ => False
theorem cC.app {w : World} {g : Nat} {F : List Nat} {us : List Value} {ts : List Stp} (k : cC w g F us ts) : ∀ {vs : List Value} {ss : List Stp}, cC w g F vs ss → cC w g F (vs ++ us) (ss ++ ts)
 | [], [], _ => k
 | v :: vs, s :: ss, h => ⟨h.1, cC.app k h.2⟩
theorem cC.mono {w w' : World} {g : Nat} {F F' : List Nat} (k : ∀ v s, StV w g F v s → StV w' g F' v s) : ∀ {vs : List Value} {ss : List Stp}, cC w g F vs ss → cC w' g F' vs ss
 | [], [], _ => trivial
 | v :: vs, s :: ss, h => ⟨k v s h.1, cC.mono k h.2⟩
theorem cC.frm {w w' : World} {g : Nat} {F : List Nat} {vs : List Value} {ss : List Stp} (h : cC w g F vs ss) (k : Frm [] w w') : cC w' g F vs ss := h.mono (fun _ _ h => h.frm k)
theorem cC.one {w : World} {g : Nat} {F : List Nat} : ∀ {vs : List Value} {ss : List Stp}, cC w g F vs ss → ∀ u ∈ vs, u.oneCell' = true
 | [], [], _, u, hu => by cases hu
 | v :: vs, s :: ss, h, u, hu => by
  rcases zaq.1 hu with rfl | hu
  · exact h.1.one
  exact cC.one h.2 u hu
theorem cC.at {w : World} {g : Nat} {F : List Nat} : ∀ {vs : List Value} {ss : List Stp} {k : Nat}, cC w g F vs ss → k < ss.length → ∃ v, vs[k]? = some v ∧ StV w g F v (ss.getD k .fl)
 | [], [], k, _, hk => by simp at hk
 | v :: vs, s :: ss, 0, h, _ => ⟨v, rfl, h.1⟩
 | v :: vs, s :: ss, k + 1, h, hk => by
  obtain ⟨u, h1, h2⟩ := cC.at (k := k) h.2 (by simpa using hk)
  exact ⟨u, h1, h2⟩
theorem Stp.run_wts (d : Dk) : ∀ s : Stp, (s.run d).2.wts.length ≤ d.wts.length + 1
 | .wr i b => by
  show (d.write i b).2.wts.length ≤ _
  unfold Dk.write
  split
  · exact Nat.le_succ _
  split
  · exact Nat.le_succ _
  split
  · exact Nat.le_succ _
  simp
 | .fl => by
  show d.flush.2.wts.length ≤ _
  unfold Dk.flush
  split
  · exact Nat.le_succ _
  exact zj _
theorem sA {l : List Stp} {i : Nat} (h : i < l.length) : l.take (i + 1) = l.take i ++ [l.getD i .fl] := by
 rw [zcq, ze h, zb, ze h]
 rfl
theorem qQf {d : Dk} {l : List Stp} {i : Nat} (h : i < l.length) (h0 : (qL d (l.take i)).1 = 0) (h1 : ((l.getD i .fl).run (qL d (l.take i)).2).1 ≠ 0) : qL d l = (l.getD i .fl).run (qL d (l.take i)).2 := by
 have e : l = l.take (i + 1) ++ l.drop (i + 1) := (zbq _ _).symm
 have e2 : qL d (l.take (i + 1)) = (l.getD i .fl).run (qL d (l.take i)).2 := by rw [sA h, nY _ _ _ h0]
 rw [e, nQ, e2, if_pos h1]
 rw [← e]
theorem qJd (g g1 g2 g3 i c : Nat) (A : Option Addr) (b : List Nat) (F : List Nat) (d : Dk) (w : World) (hD : IsDk w g F d) (hwl : d.wts.length ≤ 1000000) (h1 : Blk w g1 23 #[jI0 g]) (h2 : Blk w g2 3 #[jI1 i]) (h3 : Blk w g3 63 #[.slice A b.length c]) (hr : Rd w 1 A b.length (NB b)) (hS : 0 < b.length → ∀ x ∈ ob A, x ∉ F) (hl : b.length ≤ 1000000) (hB : ∀ x ∈ b, x < 256) :
  Calls Tryz.prog 129 #[jI0 g1, jI0 g2, jI0 g3] w fun e w' => ∃ F', e = .returned (jI1 ((d.write i b).1)) ∧ IsDk w' g F' (d.write i b).2 ∧ Fk F w w' F' := by
 refine jV Tryz.func129 Tryz.ntmps129 Tryz.results129 ?_
 refine jS (jR (jz 0 (jO (jN (jv3 0 1 2 ?_)))))
 refine jS (jR (jl rfl zfh (h1.cell 0) (jl rfl zaa (h2.cell 0) (jl rfl zba (h3.cell 0) ?_))))
 refine jc (jE3 Tryz.call29) (vT g i b.length c A b F d _ hD hwl rfl jo hB hr hS) ?_
 rintro e w1 ⟨F1, rfl, hD1, k1⟩
 refine ⟨_, rfl, ?_⟩
 refine ja rfl (jO (jN (jv1 3 ?_)))
 refine jT ?_
 refine qS rfl ?_
 exact ⟨F1, rfl, hD1, k1⟩
theorem StV.calls {w : World} {g : Nat} {F : List Nat} {v : Value} {d : Dk} (hD : IsDk w g F d) (hwl : d.wts.length ≤ 1000000) : ∀ {s : Stp}, StV w g F v s → ∃ (f : Nat) (fs us : List Value), v = .func (.func f) fs.toArray us.toArray ∧ (∀ args w, (callFunc f args).run Tryz.prog w = .ok (.enter f args) w) ∧
  Calls Tryz.prog f (fs ++ [] ++ us).toArray w fun e w' => ∃ F', e = .returned (jI1 ((s.run d).1)) ∧ IsDk w' g F' (s.run d).2 ∧ Fk F w w' F'
 | .fl, h => ⟨_, _, _, h, Tryz.call31, vU g F d w hD hwl⟩
 | .wr i b, ⟨g1, g2, g3, A, c, h0, h1, h2, h3, h4, _, h8, h9, h10⟩ => ⟨_, _, _, h0, Tryz.call129, qJd g g1 g2 g3 i c A b F d w hD hwl h1 h2 h3 h4 h8 h9 h10⟩
theorem kU (g i n c : Nat) (A : Option Addr) (b : List Nat) (F : List Nat) (w : World) (hn : b.length = n) (hF : ∀ x ∈ F, x < w.heap.size) (hr : Rd w 1 A n (NB b)) (hS : 0 < n → ∀ x ∈ ob A, x ∉ F) (hl : n ≤ 1000000) (hB : ∀ x ∈ b, x < 256) :
  Calls Tryz.prog 89 #[.pointer (some ⟨g, 0, none⟩), .int .i64 ((i : Nat) : Int), .slice A n c] w fun e w' => ∃ v, e = .returned v ∧ StV w' g F v (.wr i b) ∧ Frm [] w w' := by
 subst hn
 have hlt : ∀ y, w.heap.size ≤ y → y ∉ F := fun y hy h => by have := hF y h; omega
 refine VC.calls (nt := 8) (res := #[.tmp 6]) Tryz.func89 rfl Tryz.ntmps89 Tryz.results89 rfl ?_
 refine jS (jR ?_)
 refine Ops.m (qV.box rfl) rfl ?_
 rintro _ w1 ⟨rfl, hF1⟩
 refine Ops.m (qV.box rfl) rfl ?_
 rintro _ w2 ⟨rfl, hF2⟩
 refine Ops.m (qV.box rfl) rfl ?_
 rintro _ w3 ⟨rfl, hF3⟩
 refine ja rfl (jO (jN (jv3 3 4 5 ?_)))
 refine jS (jR (je (Run.mkFunc evs.nil (evs.cons rfl (evs.cons rfl (evs.cons rfl evs.nil)))) (ja rfl (jO (jN (jv1 6 ?_))))))
 refine jT ?_
 refine qS rfl ?_
 have s1 := hF1.frm.size
 have s2 := hF2.frm.size
 exact ⟨_, rfl, ⟨_, _, _, A, c, rfl, (hF1.blk.frm hF2.frm jp).frm hF3.frm jp, hF2.blk.frm hF3.frm jp, hF3.blk, ((hr.frm hF1.frm jp).frm hF2.frm jp).frm hF3.frm jp, ⟨hlt _ (zag _), hlt _ s1, hlt _ (zbd s1 s2)⟩, hS, hl, hB⟩, (hF1.frm.trans hF2.frm jp).trans hF3.frm jp⟩
theorem rW (w : World) : Calls Tryz.prog 90 #[] w fun e w' => ∃ B d, e = .returned (.slice B 128 d) ∧ Rd w' 1 B 128 (NB (noM 128)) ∧ Frm [] w w' ∧ ∀ x ∈ ob B, w.heap.size ≤ x := by
 refine VC.calls (nt := 2) (res := #[.tmp 0]) Tryz.func90 rfl Tryz.ntmps90 Tryz.results90 rfl ?_
 refine jS (jR (ja rfl (jO (jN ?_))))
 refine VC.sub [] .nil ?_
 refine jS (jR ?_)
 refine Ops.m (qV.makeS (n := 128) rfl rfl zg (eY) rfl jo jo) rfl ?_
 rintro _ w1 ⟨rfl, ho1, hf1, hs1⟩
 rw [lG] at ho1
 have e : List.replicate 128 (Value.int .u8 ((0 : Nat) : Int)) = NB (noM 128) := by rw [NB, noM, zdr]
 rw [e] at ho1
 refine ja rfl (jO (jN (jv1 0 ?_)))
 refine jT ?_
 refine qS rfl ?_
 exact ⟨_, _, rfl, ho1.rd, hf1, by simp [ob]⟩
theorem rY (g : Nat) (F : List Nat) (d : Dk) (w : World) (hD : IsDk w g F d) : Calls Tryz.prog 87 #[.pointer (some ⟨g, 0, none⟩)] w fun e w' => e = .returned (.bool (decide (d.has.length ≤ 41))) ∧ w = w' := by
 refine VC.calls (nt := 6) (res := #[.tmp 2]) Tryz.func87 rfl Tryz.ntmps87 Tryz.results87 rfl ?_
 refine jS (jR (ja rfl (jO (jN (jv1 0 ?_)))))
 refine jS (jR (jM ?_))
 refine Ops.cl (jE1 zfe) (dU g F d _ hD) rfl ?_
 rintro e w1 ⟨rfl, rfl⟩
 refine ⟨_, rfl, ?_⟩
 refine jb rfl rfl (Bin.leqN _ 41) (ja rfl (jO (jN (jv1 2 ?_))))
 refine jT ?_
 refine qS rfl ?_
 exact ⟨rfl, rfl⟩
theorem uK (g n c : Nat) (F : List Nat) (S : Option Addr) (d : Dk) (vs : List Value) (ss : List Stp) (w : World) (hD : IsDk w g F d) (hv : cC w g F vs ss) (hn : ss.length = n) (hl : n ≤ 100000) (hwl : d.wts.length ≤ 800000) (hr : Rd w 1 S n vs) (hS : ∀ x ∈ ob S, x ∉ F) :
  Calls Tryz.prog 88 #[.slice S n c] w fun e w' => ∃ F', e = .returned (.int .i64 (((qL d ss).1 : Nat) : Int)) ∧ IsDk w' g F' (qL d ss).2 ∧ Fk F w w' F' := by
 refine VC.calls (nt := 18) (res := #[.tmp 2]) Tryz.func88 rfl Tryz.ntmps88 Tryz.results88 rfl ?_
 refine jS (jR (jz 0 (jO (jN (jv1 0 ?_)))))
 refine jS (jS (jR (jm rfl (je (Run.lenS rfl zdi) ?_))))
 refine jx .i64 0 ?_
 refine jO (jN (jv3 6 7 8 ?_))
 refine jB ?_
 refine VC.loop (σ := Nat × List Nat) (fun s => [(6, .slice S n c), (7, .int .i64 ((n : Nat) : Int)), (8, .int .i64 ((s.1 : Nat) : Int))]) (fun s wr => s.1 ≤ n ∧ (qL d (ss.take s.1)).1 = 0 ∧ (qL d (ss.take s.1)).2.wts.length ≤ d.wts.length + s.1 ∧ IsDk wr g s.2 (qL d (ss.take s.1)).2 ∧ Fk F w wr s.2) (fun s => n - s.1) (0, F) (js3 rfl rfl rfl) ⟨zj _, rfl, zag _, hD, Fk.refl _ _⟩ ?_
 rintro ⟨i, G⟩ wr ⟨hi, h0, hw, hDr, K⟩
 dsimp only at hi h0 hw hDr K ⊢
 have hsn := nY (ss.take i) (ss.getD i .fl) d h0
 refine jS (jR (jb rfl rfl (Bin.lssN _ _) (jO (jN (jS ?_)))))
 refine jD rfl (fun hc1 => ?_) fun hc1 => ?_
 ·
  rw [← sA (show i < ss.length by omega)] at hsn
  obtain ⟨v, hvk, hst⟩ := (hv.mono (fun _ _ h => h.fk K)).at (show i < ss.length by omega)
  have hrr := hr.frm K.1 (fun _ => hS)
  obtain ⟨ad, rfl, _, hcell⟩ := hrr.2 jo
  have hcv := hcell i v hvk
  have hstop := qQf (show i < ss.length by omega) h0
  have hwt := Stp.run_wts (qL d (ss.take i)).2 (ss.getD i .fl)
  obtain ⟨f, fs, us, hvf, hcf, hcall⟩ := hst.calls hDr jo
  subst hvf
  refine jQ (jN (jv3 6 7 8 ?_))
  refine jS (jB (jS (jR (je (Run.index1 _ rfl rfl zdi zgz jo) (jl rfl Tryz.isAgg74 hcv (ja rfl (jO (jN (jv4 4 6 7 8 ?_)))))))))
  refine jS (jR (jM ?_))
  refine Ops.cl (cM.dyn rfl evs.nil hcf) (hcall) rfl ?_
  rintro e w2 ⟨F2, rfl, hD2, k2⟩
  refine ⟨_, rfl, ?_⟩
  refine ja rfl (jO (jN (jv4 5 6 7 8 ?_)))
  refine jS (jR (jm rfl (jb rfl rfl (Bin.neqN _ 0) (jO (jN (jv5 5 6 7 8 15 ?_))))))
  refine jD rfl (fun hc2 => ?_) fun hc2 => ?_
  ·
   have hne := hc2
   refine jS (jR (jm rfl (ja rfl (jO (jN (jv1 2 ?_))))))
   refine jT ?_
   refine qR (qQ (qQ (qR (qQ (qS rfl ?_)))))
   have e := hstop hne
   rw [e]
   exact ⟨F2, rfl, hD2, K.trans k2⟩
  refine jQ ?_
  refine qH (jN ?_)
  refine jv3 6 7 8 ?_
  refine jR (jb rfl rfl (Bin.add_i64 _ 1 jo) (jm rfl (jO ?_)))
  refine jN ⟨(i + 1, F2), (js3 rfl rfl rfl), ?_, ?_⟩
  ·
   have h00 := Classical.not_not.1 hc2
   refine ⟨hc1, ?_, ?_, ?_, K.trans k2⟩
   · dsimp only; rw [hsn]; exact h00
   · dsimp only; rw [hsn]; omega
   dsimp only; rw [hsn]; exact hD2
  first | omega | (dsimp only; omega)
 refine jX ?_
 refine qZ (qZ (qN ?_))
 refine jN ?_
 refine VC.sub [] .nil ?_
 refine jS (jR (jz 0 (jO (jN (jT ?_)))))
 refine qS rfl ?_
 obtain rfl : i = n := by omega
 rw [zh jo] at h0 hDr
 rw [h0]
 exact ⟨G, rfl, hDr, K⟩
theorem qJe {l : List Pq} {i : Nat} (h : i < l.length) : ((puL l).take (i + 1)).map (fun x => Stp.wr x.1 x.2) = ((puL l).take i).map (fun x => Stp.wr x.1 x.2) ++ [.wr (l.getD i pq0).1 (l.getD i pq0).2.2.2] := by
 rw [puL, ← zdn, mC h, zv, zv, ← zdn]
 rfl
theorem qGj {l : List Pq} {i : Nat} (h : i < l.length) : fD 0 ((puL l).take (i + 1)) = fD 0 ((puL l).take i) ++ [.wr (1 + i) (l.getD i pq0).2.2.2] := by
 have e : (puL l).take (i + 1) = (puL l).take i ++ [((l.getD i pq0).1, (l.getD i pq0).2.2.2)] := by
  rw [puL, ← zdn, mC h, zv, ← zdn]
  rfl
 rw [e, zL, zk, cQ, zbh (Nat.le_of_lt h), zch]
theorem StV.less {w : World} {g : Nat} {F F' : List Nat} {v : Value} (h : ∀ x ∈ F', x ∈ F) : ∀ {s : Stp}, StV w g F v s → StV w g F' v s
 | .fl, k => k
 | .wr i b, ⟨g1, g2, g3, A, c, h0, h1, h2, h3, h4, ⟨h5, h6, h7⟩, h8, h9⟩ => ⟨g1, g2, g3, A, c, h0, h1, h2, h3, h4, ⟨fun k => h5 (h _ k), fun k => h6 (h _ k), fun k => h7 (h _ k)⟩, fun hb x hx k => h8 hb x hx (h _ k), h9⟩
theorem Fk.app {F : List Nat} {w w' : World} {B B' : Option Addr} (k : Frm (ob B) w w') (hob : ob B' = ob B ∨ ob B' = [w.heap.size]) : Fk (F ++ ob B) w w' (F ++ ob B') := ⟨k.mono (fun x hx => .inl (by simp [hx])), fun x hx => by
 rcases zcp.1 hx with h | h
 · exact .inl (by simp [h])
 rcases hob with h2 | h2
 · rw [h2] at h; exact .inl (by simp [h])
 rw [h2, za] at h; exact .inr (zhf h.symm)⟩
def qGk (l : List Pq) (F : List Nat) : Prop := ∀ x ∈ l, 0 < x.2.2.2.length → ∀ y ∈ ob x.2.1, y ∉ F
theorem uV (g n c : Nat) (F : List Nat) (S : Option Addr) (l : List Pq) (w : World) (hn : n ≤ 1000) (hF : ∀ x ∈ F, x < w.heap.size) (hr : RdP w S n l) (hoff : qGk l F) (hlen : ∀ x ∈ l, x.2.2.2.length ≤ 1000000) :
  Calls Tryz.prog 111 #[.pointer (some ⟨g, 0, none⟩), .slice S n c] w fun e w' => ∃ B d vs, e = .returned (.slice B (n + 3) d) ∧ Own w' 74 1 B (n + 3) d vs ∧ cC w' g F vs (bF (puL l)) ∧ Frm [] w w' ∧ ∀ x ∈ ob B, w.heap.size ≤ x := by
 have hln := hr.len
 have K := Frm.refl [] w
 refine VC.calls (nt := 34) (res := #[.tmp 4]) Tryz.func111 rfl Tryz.ntmps111 Tryz.results111 rfl ?_
 refine jS (jR (ja rfl (jO (jN (jv2 0 1 ?_)))))
 refine jS (jR (ja rfl (jO (jN (jS (jS (jR (jm rfl (je (Run.lenS rfl zx) ?_)))))))))
 refine jx .i64 0 ?_
 refine jO (jN (jv5 0 5 8 9 10 ?_))
 refine jB ?_
 refine VC.loop (σ := Nat × Option Addr × Nat × List Value) (fun s => [(0, .pointer (some ⟨g, 0, none⟩)), (5, .slice s.2.1 s.1 s.2.2.1), (8, .slice S n c), (9, .int .i64 ((n : Nat) : Int)), (10, .int .i64 ((s.1 : Nat) : Int))]) (fun s wr => s.1 ≤ n ∧ Own wr 74 1 s.2.1 s.1 s.2.2.1 s.2.2.2 ∧ cC wr g (F ++ ob s.2.1) s.2.2.2 (((puL l).take s.1).map fun x => Stp.wr x.1 x.2) ∧ Frm [] w wr ∧ ∀ x ∈ ob s.2.1, w.heap.size ≤ x) (fun s => n - s.1) (0, none, 0, []) (js5 rfl rfl rfl rfl rfl) ⟨zj _, Own.nil _ _ _, trivial, K, by simp [ob]⟩ ?_
 rintro ⟨i, B, d, vs⟩ wr ⟨hi, ho, hst, K, hup⟩
 dsimp only at hi ho hst hup ⊢
 refine jS (jR (jb rfl rfl (Bin.lssN _ _) (jO (jN (jS ?_)))))
 refine jD rfl (fun hc1 => ?_) fun hc1 => ?_
 ·
  obtain ⟨ad, hS, hel⟩ := (hr.frm K).cell hc1
  subst hS
  have hmem := lL (show i < l.length by omega)
  have hxr := (hr.frm K).el _ hmem
  have hxo := hr.oct _ hmem
  have hxd0 := hoff _ hmem
  have hxlt := (hr.el _ hmem).lt
  have hxl := hlen _ hmem
  have hsn := qJe (show i < l.length by omega)
  generalize l.getD i pq0 = x at hel hxr hxo hxd0 hxlt hxl hsn
  obtain ⟨xa, xA, xc, xb⟩ := x
  dsimp only at hxr hxo hxd0 hxlt hxl hsn
  have hxd : 0 < xb.length → ∀ y ∈ ob xA, y ∉ F ++ ob B := fun h0 y hy h => by
   rcases zcp.1 h with h | h
   · exact hxd0 h0 y hy h
   have h1 := hxlt h0 y hy; have h2 := hup y h; omega
  have ks := K.size
  refine jQ (jN (jv5 0 5 8 9 10 ?_))
  refine jS (jB (jS (jR (je (Run.indexS _ rfl rfl zx zbe jo) (je (Run.loadA rfl Tryz.isAgg132 zbe hel (by first | rfl | (simp; done))) ?_)))))
  refine Ops.m (qV.alloc cP) rfl ?_
  rintro _ w1 ⟨rfl, hF1⟩
  refine Ops.st (qT.storeA rfl rfl zbe hF1.blk rfl (eG (xa, xA, xc, xb))) ?_
  rintro w2 ⟨hb2, hf2, hs2⟩
  have hb2 : Blk w2 wr.heap.size 132 #[.int .i64 ((xa : Nat) : Int), .slice xA xb.length xc] := hb2
  have K2 : Frm [] wr w2 := hF1.frm.own hf2 jp
  have K := K.trans K2 jp
  have hxr := hxr.frm K2 jp
  have ho := ho.frm K2 jp
  have hst := hst.frm K2
  have k2s := K.size
  refine jO (jN (jv6 0 5 7 8 9 10 ?_))
  refine jR (jm rfl (jm rfl (jf rfl zbs rfl zm (jl rfl zaa (hb2.cell 0) (jf rfl zbs rfl zah (jl rfl zba (hb2.cell 1) ?_))))))
  refine Ops.cl (jE3 Tryz.call89) (kU g xa xb.length xc xA xb (F ++ ob B) _ rfl (fun x hx => by rcases zcp.1 hx with h | h; (have := hF x h; omega); exact ho.lt x h) hxr hxd hxl hxo) rfl ?_
  rintro e w3 ⟨v, rfl, hv3, hf3⟩
  refine ⟨_, rfl, ?_⟩
  have ho := ho.frm hf3 jp
  have hst := hst.frm hf3
  have K := K.trans hf3 jp
  refine Ops.m (qV.buildS1 rfl zdi zgz uZ (by decide) (by decide) (by have := hv3.one; cases v <;> first | rfl | simp_all [Value.oneCell']) rfl) rfl ?_
  rintro _ w4 ⟨rfl, hF4⟩
  have ho := ho.frm hF4.frm jp
  have hst := hst.frm hF4.frm
  have hv4 := hv3.frm hF4.frm
  have K := K.trans hF4.frm jp
  have ks4 := K.size
  have hr4 : Rd w4 1 (some ⟨w3.heap.size, 0, none⟩) 1 [v] := by
   have h1 := hv3.one
   have := Rd.of_blk (n := 1) (size := 1) hF4.blk (by cases v <;> first | rfl | simp_all [Value.oneCell'])
   have e : v.cells.toList = [v] := by cases v <;> first | rfl | simp_all [Value.oneCell']
   rwa [e] at this
  refine Ops.m (qV.app rfl rfl zdi (uJ) rfl (by decide) ho hr4 (by simpa using hv3.one) jo jo) rfl ?_
  rintro _ w5 ⟨B5, d5, rfl, ho5, hf5, hob5⟩
  have hup5 : ∀ x ∈ ob B5, w.heap.size ≤ x := fun x hx => by
   rcases hob5 with h | h
   · rw [h] at hx; exact hup x hx
   rw [h, za] at hx; omega
  have hst5 : cC w5 g (F ++ ob B5) (vs ++ [v]) (((puL l).take (i + 1)).map fun x => Stp.wr x.1 x.2) := by
   rw [hsn]
   exact (cC.app (us := [v]) (ts := [_]) (show cC _ _ _ [v] [_] from ⟨hv4, trivial⟩) hst).mono (fun u s h => h.fk (Fk.app hf5 hob5))
  refine ja rfl (jO ?_)
  refine qH (jN ?_)
  refine jv5 0 5 8 9 10 ?_
  refine jR (jb rfl rfl (Bin.add_i64 _ 1 jo) (jm rfl (jO ?_)))
  refine jN ⟨(i + 1, B5, d5, vs ++ [v]), (js5 rfl rfl rfl rfl rfl), ?_, ?_⟩
  · exact ⟨hc1, ho5, hst5, K.own hf5 hup, hup5⟩
  first | omega | (dsimp only; omega)
 refine jX ?_
 refine qZ (qZ (qN ?_))
 refine jN (jv2 0 5 ?_)
 refine jS (jR (jm rfl (jm rfl (je (Run.mkFunc (evs.cons rfl evs.nil) evs.nil) (jM ?_)))))
 refine Ops.cl (jE0 Tryz.call90) (rW _) rfl ?_
 rintro e w2 ⟨B2, d2, rfl, hr2, hf2, hup2⟩
 refine ⟨_, rfl, ?_⟩
 have ks := K.size
 have holt := ho.lt
 have ho := ho.frm hf2 jp
 have hst := hst.frm hf2
 have K := K.trans hf2 jp
 refine Ops.cl (jE3 Tryz.call89) (kU g 0 128 d2 B2 (noM 128) (F ++ ob B) _ (by simp [noM]) (fun x hx => by rcases zcp.1 hx with h | h; (have := hF x h; have := K.size; omega); exact ho.lt x h) hr2 (fun _ x hx h => by have h2 := hup2 x hx; rcases zcp.1 h with h | h; (have := hF x h; omega); (have := holt x h; omega)) jo (noM_lt _)) rfl ?_
 rintro e w3 ⟨v, rfl, hv3, hf3⟩
 refine ⟨_, rfl, ?_⟩
 have ho := ho.frm hf3 jp
 have hst := hst.frm hf3
 have K := K.trans hf3 jp
 have hv30 := hv3
 obtain ⟨g1, g2, g3, A9, c9, rfl, _⟩ := hv30
 refine jm rfl (je (Run.mkFunc (evs.cons rfl evs.nil) evs.nil) ?_)
 refine Ops.m (qV.buildN (cells := #[.func (.func 31) ([.pointer (some ⟨g, 0, none⟩)] : List Value).toArray ([] : List Value).toArray, .func (.func 129) ([] : List Value).toArray ([.pointer (some ⟨g1, 0, none⟩), .pointer (some ⟨g2, 0, none⟩), .pointer (some ⟨g3, 0, none⟩)] : List Value).toArray, .func (.func 31) ([.pointer (some ⟨g, 0, none⟩)] : List Value).toArray ([] : List Value).toArray]) (evs.cons rfl (evs.cons rfl (evs.cons rfl evs.nil))) zdi zgz uZ rfl rfl jK) rfl ?_
 rintro _ w4 ⟨rfl, hF4⟩
 have ho := ho.frm hF4.frm jp
 have hst := hst.frm hF4.frm
 have hv4 := hv3.frm hF4.frm
 have K := K.trans hF4.frm jp
 have ks4 := K.size
 have hr4 : Rd w4 1 (some ⟨w3.heap.size, 0, none⟩) 3 [.func (.func 31) ([.pointer (some ⟨g, 0, none⟩)] : List Value).toArray ([] : List Value).toArray, .func (.func 129) ([] : List Value).toArray ([.pointer (some ⟨g1, 0, none⟩), .pointer (some ⟨g2, 0, none⟩), .pointer (some ⟨g3, 0, none⟩)] : List Value).toArray, .func (.func 31) ([.pointer (some ⟨g, 0, none⟩)] : List Value).toArray ([] : List Value).toArray] := by
  have := Rd.of_blk (n := 3) (size := 1) hF4.blk rfl
  exact this
 refine Ops.m (qV.app rfl rfl zdi (uJ) rfl (by decide) ho hr4 (by intro u hu; simp at hu; rcases hu with rfl | rfl | rfl <;> rfl) jo jo) rfl ?_
 rintro _ w5 ⟨B5, d5, rfl, ho5, hf5, hob5⟩
 have hup5 : ∀ x ∈ ob B5, w.heap.size ≤ x := fun x hx => by
  rcases hob5 with h | h
  · rw [h] at hx; exact hup x hx
  rw [h, za] at hx; omega
 refine ja rfl (jO (jN (jv1 4 ?_)))
 refine jT ?_
 refine qS rfl ?_
 obtain rfl : i = n := by omega
 rw [zh (by rw [cQ]; omega)] at hst
 refine ⟨B5, d5, _, rfl, ho5, ?_, K.own hf5 hup, hup5⟩
 have h2 : cC w4 g (F ++ ob B) _ (bF (puL l)) := cC.app (us := [_, _, _]) (ts := [.fl, .wr 0 (noM 128), .fl]) (show cC _ _ _ [_, _, _] [_, _, _] from ⟨rfl, hv4, rfl, trivial⟩) hst
 exact h2.mono (fun u s h => (h.fk (Fk.app hf5 hob5)).less (fun x hx => by simp [hx]))
theorem oD (g : Nat) (F : List Nat) (d : Dk) (w : World) (hD : IsDk w g F d) (hwl : d.wts.length ≤ 800000) :
  Calls Tryz.prog 36 #[.pointer (some ⟨g, 0, none⟩)] w fun e w' => ∃ F', e = .returned (.int .i64 (((bY d).1 : Nat) : Int)) ∧ IsDk w' g F' (bY d).2 ∧ Fk F w w' F' := by
 unfold bY
 refine VC.calls (nt := 12) (res := #[.tmp 2]) Tryz.func36 rfl Tryz.ntmps36 Tryz.results36 rfl ?_
 refine jS (jR (jz 0 (jO (jN (jv1 0 ?_)))))
 refine jS (jS (jR (jM ?_)))
 refine Ops.cl (jE1 Tryz.call87) (rY g F d _ hD) rfl ?_
 rintro e w1 ⟨rfl, rfl⟩
 refine ⟨_, rfl, ?_⟩
 refine jO (jN (jv2 0 4 ?_))
 refine VC.condB rfl (fun hc1 => ?_) (fun hc1 => ?_)
 ·
  have h41 : d.has.length ≤ 41 := by simpa using hc1
  rw [if_pos h41]
  refine jS (jR (jz 1 (jO (jN (jv1 2 ?_)))))
  refine jT ?_
  refine qQ (qS rfl ?_)
  exact ⟨F, rfl, hD, Fk.refl _ _⟩
 have h41 : ¬ d.has.length ≤ 41 := by simpa using hc1
 rw [if_neg h41]
 have hF := hD.lt
 refine jQ (jN (jv1 0 ?_))
 refine jS (jR (jM ?_))
 refine Ops.cl (jE0 Tryz.call90) (rW _) rfl ?_
 rintro e w2 ⟨B2, d2, rfl, hr2, hf2, hup2⟩
 refine ⟨_, rfl, ?_⟩
 have ks := hf2.size
 refine Ops.cl (jE3 Tryz.call89) (kU g 0 128 d2 B2 (noM 128) F _ (by simp [noM]) (fun x hx => by have := hF x hx; omega) hr2 (fun _ x hx h => by have := hup2 x hx; have := hF x h; omega) jo (noM_lt _)) rfl ?_
 rintro e w3 ⟨v, rfl, hv3, hf3⟩
 refine ⟨_, rfl, ?_⟩
 have K := hf2.trans hf3 jp
 have hv30 := hv3
 obtain ⟨g1, g2, g3, A9, c9, rfl, _⟩ := hv30
 refine jm rfl (je (Run.mkFunc (evs.cons rfl evs.nil) evs.nil) ?_)
 refine Ops.m (qV.buildN (cells := #[.func (.func 129) ([] : List Value).toArray ([.pointer (some ⟨g1, 0, none⟩), .pointer (some ⟨g2, 0, none⟩), .pointer (some ⟨g3, 0, none⟩)] : List Value).toArray, .func (.func 31) ([.pointer (some ⟨g, 0, none⟩)] : List Value).toArray ([] : List Value).toArray]) (evs.cons rfl (evs.cons rfl evs.nil)) zdi zgz uZ rfl rfl jK) rfl ?_
 rintro _ w4 ⟨rfl, hF4⟩
 have hv4 := hv3.frm hF4.frm
 have ks3 := K.size
 have K := K.trans hF4.frm jp
 have hr4 : Rd w4 1 (some ⟨w3.heap.size, 0, none⟩) 2 [.func (.func 129) ([] : List Value).toArray ([.pointer (some ⟨g1, 0, none⟩), .pointer (some ⟨g2, 0, none⟩), .pointer (some ⟨g3, 0, none⟩)] : List Value).toArray, .func (.func 31) ([.pointer (some ⟨g, 0, none⟩)] : List Value).toArray ([] : List Value).toArray] := by
  have := Rd.of_blk (n := 2) (size := 1) hF4.blk rfl
  exact this
 refine Ops.cl (jE1 Tryz.call88) (uK g 2 2 F _ d _ dV _ (hD.frm K jp) (show cC _ _ _ [_, _] [_, _] from ⟨hv4, rfl, trivial⟩) rfl jo hwl hr4 (fun x hx h => by simp [ob] at hx; have := hF x h; omega)) rfl ?_
 rintro e w5 ⟨F5, rfl, hD5, k5⟩
 refine ⟨_, rfl, ?_⟩
 refine ja rfl (jO (jN (jv1 2 ?_)))
 refine jT ?_
 refine qS rfl ?_
 exact ⟨F5, rfl, hD5, Fk.pre K k5⟩
theorem qWj {l : List Pq} {size : Nat} (h : cH (puL l) size) : ∀ x ∈ l, x.2.2.2.length ≤ 1000000 := fun x hx => by have := (qWi h hx).2; omega
set_option maxHeartbeats 1000000 in
theorem qX4 (g n c : Nat) (F : List Nat) (S : Option Addr) (l : List Pq) (d : Dk) (w : World) (hD : IsDk w g F d) (hwl : d.wts.length ≤ 800000) (hn : n ≤ 1000000) (hr : RdP w S n l) (hoff : qGk l F) :
  Calls Tryz.prog 46 #[.pointer (some ⟨g, 0, none⟩), .slice S n c] w fun e w' => ∃ F', e = .returned (.int .i64 (((bK d (puL l)).1 : Nat) : Int)) ∧ IsDk w' g F' (bK d (puL l)).2 ∧ Fk F w w' F' := by
 have hln := hr.len
 unfold bK
 have hbig := hD.ok.big
 have hF := hD.lt
 have K0 := Frm.refl [] w
 refine VC.calls (nt := 57) (res := #[.tmp 4]) Tryz.func46 rfl Tryz.ntmps46 Tryz.results46 rfl ?_
 refine jS (jR (jz 0 (jO (jN (jv2 0 1 ?_)))))
 refine jS (jS ?_)
 refine VC.splitR [(0, .pointer (some ⟨g, 0, none⟩)), (1, .slice S n c)] (fun wz => Frm [] w wz) 18 (.bool (decide (d.has.length ≤ 41 ∨ ¬ cH (puL l) d.has.length))) ?_ ?_
 ·
  refine jR (jM ?_)
  refine Ops.cl (jE1 Tryz.call87) (rY g F d _ hD) rfl ?_
  rintro e w1 ⟨rfl, rfl⟩
  refine ⟨_, rfl, ?_⟩
  by_cases hs11 : d.has.length ≤ 41
  ·
   refine jM ?_
   refine jU ?_
   refine jU ?_
   refine jU ?_
   refine jU ?_
   refine jU ?_
   refine je (Run.pickT rfl rfl au) (jO ?_)
   refine jN ⟨(js3 (jC (by grind)) rfl rfl), (by first | exact K1 | exact Frm.refl _ _)⟩
  refine jM ?_
  refine jG ?_
  refine jG ?_
  refine Ops.clg rfl au (jE1 zfe) (dU g F d _ hD) rfl ?_
  rintro e w1 ⟨rfl, rfl⟩
  refine ⟨_, rfl, ?_⟩
  refine Ops.clg rfl au (jE2 Tryz.call109) (uX S n c d.has.length l _ hn jo hr) rfl ?_
  rintro e w1 ⟨rfl, K1⟩
  refine ⟨_, rfl, ?_⟩
  refine jk (Run.not rfl) ?_
  by_cases hs17 : ! cH (puL l) d.has.length
  ·
   refine je (Run.pickF rfl rfl au) (jO ?_)
   refine jN ⟨(js3 (jC (by grind)) rfl rfl), (by first | exact K1 | exact Frm.refl _ _)⟩
  refine je (Run.pickF rfl rfl au) (jO ?_)
  refine jN ⟨(js3 (jC (by grind)) rfl rfl), (by first | exact K1 | exact Frm.refl _ _)⟩
 intro Γ wz hΓ K
 refine jN (VC.sub _ hΓ ?_)
 refine jD rfl (fun hc1 => ?_) fun hc1 => ?_
 ·
  rw [if_pos hc1]
  refine jS (jR (jz 1 (jO (jN (jv1 4 ?_)))))
  refine jT ?_
  refine qQ (qS rfl ?_)
  exact ⟨F, rfl, hD.frm K jp, Fk.pre K (Fk.refl _ _)⟩
 rw [if_neg hc1]
 obtain ⟨h41, hm⟩ : ¬ d.has.length ≤ 41 ∧ cH (puL l) d.has.length := ⟨fun h => hc1 (.inl h), Classical.byContradiction fun h => hc1 (.inr h)⟩
 have h40 : n ≤ 40 := by have := hm.1.2; rw [cQ] at this; omega
 have hlen := qWj hm
 refine jQ (jN (jv2 0 1 ?_))
 refine jS (jR (ja rfl (jO (jN (jS (jS (jR (jm rfl (je (Run.lenS rfl zx) ?_)))))))))
 refine jx .i64 0 ?_
 refine jO (jN (jB ?_))
 refine VC.loop (σ := Nat × Option Addr × Nat × List Value) (fun s => [(0, .pointer (some ⟨g, 0, none⟩)), (1, .slice S n c), (5, .slice s.2.1 s.1 s.2.2.1), (19, .slice S n c), (20, .int .i64 ((n : Nat) : Int)), (21, .int .i64 ((s.1 : Nat) : Int))]) (fun s wr => s.1 ≤ n ∧ Own wr 74 1 s.2.1 s.1 s.2.2.1 s.2.2.2 ∧ cC wr g (F ++ ob s.2.1) s.2.2.2 (fD 0 ((puL l).take s.1)) ∧ Frm [] w wr ∧ ∀ x ∈ ob s.2.1, w.heap.size ≤ x) (fun s => n - s.1) (0, none, 0, []) (js6 rfl rfl rfl rfl rfl rfl) ⟨zj _, Own.nil _ _ _, trivial, K, by simp [ob]⟩ ?_
 rintro ⟨i, B, d7, vs⟩ wr ⟨hi, ho, hst, K, hup⟩
 dsimp only at hi ho hst hup ⊢
 refine jS (jR (jb rfl rfl (Bin.lssN _ _) (jO (jN (jS ?_)))))
 refine jD rfl (fun hc2 => ?_) fun hc2 => ?_
 ·
  obtain ⟨ad, hS, hel⟩ := (hr.frm K).cell hc2
  subst hS
  have hmem := lL (jo : i < l.length)
  have hxr := (hr.frm K).el _ hmem
  have hxo := hr.oct _ hmem
  have hxd0 := hoff _ hmem
  have hxlt := (hr.el _ hmem).lt
  have hxl := hlen _ hmem
  have hsn := qGj (jo : i < l.length)
  generalize l.getD i pq0 = x at hel hxr hxo hxd0 hxlt hxl hsn
  obtain ⟨xa, xA, xc, xb⟩ := x
  dsimp only at hxr hxo hxd0 hxlt hxl hsn
  have hxd : 0 < xb.length → ∀ y ∈ ob xA, y ∉ F ++ ob B := fun h0 y hy h => by
   rcases zcp.1 h with h | h
   · exact hxd0 h0 y hy h
   have h1 := hxlt h0 y hy; have h2 := hup y h; omega
  have ks := K.size
  refine jQ (jN (jv6 0 1 5 19 20 21 ?_))
  refine jS (jB (jS (jR (jm rfl (je (Run.indexS _ rfl rfl zx zbe jo) (je (Run.loadA rfl Tryz.isAgg132 zbe hel (by first | rfl | (simp; done))) ?_))))))
  refine Ops.m (qV.alloc cP) rfl ?_
  rintro _ w1 ⟨rfl, hF1⟩
  refine jA ?_
  refine Ops.st (qT.storeA rfl rfl zbe hF1.blk rfl (eG (xa, xA, xc, xb))) ?_
  rintro w2 ⟨hb2, hf2, hs2⟩
  have hb2 : Blk w2 wr.heap.size 132 #[.int .i64 ((xa : Nat) : Int), .slice xA xb.length xc] := hb2
  have K2 : Frm [] wr w2 := hF1.frm.own hf2 jp
  have K := K.trans K2 jp
  have hxr := hxr.frm K2 jp
  have ho := ho.frm K2 jp
  have hst := hst.frm K2
  have k2s := K.size
  refine jO (jN (jv8 0 1 5 6 7 19 20 21 ?_))
  refine jR (jm rfl (jm rfl (jm rfl (jb rfl rfl (Bin.add_i64 1 _ jo) (jf rfl zbs rfl zah (jl rfl zba (hb2.cell 1) ?_))))))
  refine Ops.cl (jE3 Tryz.call89) (kU g (1 + i) xb.length xc xA xb (F ++ ob B) _ rfl (fun x hx => by rcases zcp.1 hx with h | h; (have := hF x h; omega); exact ho.lt x h) hxr hxd hxl hxo) rfl ?_
  rintro e w3 ⟨v, rfl, hv3, hf3⟩
  refine ⟨_, rfl, ?_⟩
  have ho := ho.frm hf3 jp
  have hst := hst.frm hf3
  have K := K.trans hf3 jp
  refine Ops.m (qV.buildS1 rfl zdi zgz uZ jd jd (by have := hv3.one; cases v <;> first | rfl | simp_all [Value.oneCell']) rfl) rfl ?_
  rintro _ w4 ⟨rfl, hF4⟩
  have ho := ho.frm hF4.frm jp
  have hst := hst.frm hF4.frm
  have hv4 := hv3.frm hF4.frm
  have K := K.trans hF4.frm jp
  have ks4 := K.size
  have hr4 : Rd w4 1 (some ⟨w3.heap.size, 0, none⟩) 1 [v] := by
   have h1 := hv3.one
   have := Rd.of_blk (n := 1) (size := 1) hF4.blk (by cases v <;> first | rfl | simp_all [Value.oneCell'])
   have e : v.cells.toList = [v] := by cases v <;> first | rfl | simp_all [Value.oneCell']
   rwa [e] at this
  refine Ops.m (qV.app rfl rfl zdi (uJ) rfl jd ho hr4 (by simpa using hv3.one) jo jo) rfl ?_
  rintro _ w5 ⟨B5, d5, rfl, ho5, hf5, hob5⟩
  have hup5 : ∀ x ∈ ob B5, w.heap.size ≤ x := fun x hx => by
   rcases hob5 with h | h
   · rw [h] at hx; exact hup x hx
   rw [h, za] at hx; omega
  have hst5 : cC w5 g (F ++ ob B5) (vs ++ [v]) (fD 0 ((puL l).take (i + 1))) := by
   rw [hsn]
   exact (cC.app (us := [v]) (ts := [_]) (show cC _ _ _ [v] [_] from ⟨hv4, trivial⟩) hst).mono (fun u s h => h.fk (Fk.app hf5 hob5))
  refine ja rfl (jO ?_)
  refine qH (jN ?_)
  refine jv6 0 1 5 19 20 21 ?_
  refine jR (jb rfl rfl (Bin.add_i64 _ 1 jo) (jm rfl (jO ?_)))
  refine jN ⟨(i + 1, B5, d5, vs ++ [v]), (js6 rfl rfl rfl rfl rfl rfl), ?_, ?_⟩
  · exact ⟨hc2, ho5, hst5, K.own hf5 hup, hup5⟩
  first | omega | (dsimp only; omega)
 refine jX ?_
 refine qZ (qZ (qN ?_))
 refine jN (jv3 0 1 5 ?_)
 refine jS (jR (jM ?_))
 refine Ops.cl (jE1 Tryz.call110) (yQ S n c l _ hn (hr.frm K)) rfl ?_
 rintro e w2 ⟨B2, d2, bs, hbs, rfl, hr2, hf2, hup2⟩
 rw [if_pos (hm.mono hbig)] at hbs
 subst hbs
 have hl128 : (dC (puL l)).length = 128 := tE (by rw [cQ]; omega)
 rw [hl128] at hr2 ⊢
 refine ⟨_, rfl, ?_⟩
 obtain rfl : i = n := jo
 have ks := K.size
 have holt := ho.lt
 have ho := ho.frm hf2 jp
 have hst := hst.frm hf2
 have K := K.trans hf2 jp
 rw [zh (by rw [cQ]; omega)] at hst
 refine jm rfl (je (Run.extract rfl rfl) (je (Run.extract rfl rfl) (ja rfl (ja rfl (jO (jN (jv4 0 1 5 8 ?_)))))))
 refine jS (jR (jm rfl (jm rfl (je (Run.mkFunc (evs.cons rfl evs.nil) evs.nil) (jm rfl (jM ?_))))))
 refine Ops.cl (jE3 Tryz.call89) (kU g 0 128 d2 B2 (dC (puL l)) (F ++ ob B) _ hl128 (fun x hx => by rcases zcp.1 hx with h | h; (have := hF x h; have := K.size; omega); exact ho.lt x h) hr2 (fun _ x hx h => by have h2 := hup2 x hx; rcases zcp.1 h with h | h; (have := hF x h; omega); (have := holt x h; omega)) jo (headJ_lt _)) rfl ?_
 rintro e w3 ⟨v, rfl, hv3, hf3⟩
 refine ⟨_, rfl, ?_⟩
 have ho := ho.frm hf3 jp
 have hst := hst.frm hf3
 have K := K.trans hf3 jp
 have hv30 := hv3
 obtain ⟨g1, g2, g3, A9, c9, rfl, _⟩ := hv30
 refine jm rfl (je (Run.mkFunc (evs.cons rfl evs.nil) evs.nil) ?_)
 refine Ops.m (qV.buildN (cells := #[.func (.func 31) ([.pointer (some ⟨g, 0, none⟩)] : List Value).toArray ([] : List Value).toArray, .func (.func 129) ([] : List Value).toArray ([.pointer (some ⟨g1, 0, none⟩), .pointer (some ⟨g2, 0, none⟩), .pointer (some ⟨g3, 0, none⟩)] : List Value).toArray, .func (.func 31) ([.pointer (some ⟨g, 0, none⟩)] : List Value).toArray ([] : List Value).toArray]) (evs.cons rfl (evs.cons rfl (evs.cons rfl evs.nil))) zdi zgz uZ rfl rfl jK) rfl ?_
 rintro _ w4 ⟨rfl, hF4⟩
 have ho := ho.frm hF4.frm jp
 have hst := hst.frm hF4.frm
 have hv4 := hv3.frm hF4.frm
 have K := K.trans hF4.frm jp
 have ks4 := K.size
 have hr4 : Rd w4 1 (some ⟨w3.heap.size, 0, none⟩) 3 [.func (.func 31) ([.pointer (some ⟨g, 0, none⟩)] : List Value).toArray ([] : List Value).toArray, .func (.func 129) ([] : List Value).toArray ([.pointer (some ⟨g1, 0, none⟩), .pointer (some ⟨g2, 0, none⟩), .pointer (some ⟨g3, 0, none⟩)] : List Value).toArray, .func (.func 31) ([.pointer (some ⟨g, 0, none⟩)] : List Value).toArray ([] : List Value).toArray] := by
  have := Rd.of_blk (n := 3) (size := 1) hF4.blk rfl
  exact this
 refine Ops.m (qV.app rfl rfl zdi (uJ) rfl jd ho hr4 (by intro u hu; simp at hu; rcases hu with rfl | rfl | rfl <;> rfl) jo jo) rfl ?_
 rintro _ w5 ⟨B5, d5, rfl, ho5, hf5, hob5⟩
 have hup5 : ∀ x ∈ ob B5, w.heap.size ≤ x := fun x hx => by
  rcases hob5 with h | h
  · rw [h] at hx; exact hup x hx
  rw [h, za] at hx; omega
 have h2 : cC w4 g (F ++ ob B) _ (fD 0 (puL l) ++ [.fl, .wr 0 (dC (puL l)), .fl]) := cC.app (us := [_, _, _]) (ts := [.fl, .wr 0 (dC (puL l)), .fl]) (show cC _ _ _ [_, _, _] [_, _, _] from ⟨rfl, hv4, rfl, trivial⟩) hst
 have hst5 := h2.mono (fun u s h => h.fk (Fk.app hf5 hob5))
 have K := K.own hf5 hup
 have ks5 := K.size
 refine ja rfl (jO (jN (jv3 0 1 5 ?_)))
 refine jS (jR (jm rfl (jm rfl (jM ?_))))
 refine Ops.cl (jE2 Tryz.call111) (uV g i c (F ++ ob B5) S l _ jo (fun x hx => by rcases zcp.1 hx with h | h; (have := hF x h; omega); exact ho5.lt x h) (hr.frm K) (fun x hx h0 y hy h => by rcases zcp.1 h with h | h; exact hoff x hx h0 y hy h; (have h1 := (hr.el x hx).lt h0 y hy; have h2 := hup5 y h; omega)) hlen) rfl ?_
 rintro e w6 ⟨B6, d6, us, rfl, ho6, hst6, hf6, hup6⟩
 refine ⟨_, rfl, ?_⟩
 have hst5 := hst5.frm hf6
 have ho5 := ho5.frm hf6 jp
 have K := K.trans hf6 jp
 have ks6 := K.size
 refine Ops.m (qV.app rfl rfl zdi (uJ) rfl jd ho5 ho6.rd hst6.one jo jo) rfl ?_
 rintro _ w7 ⟨B7, d7, rfl, ho7, hf7, hob7⟩
 have hst7 := (cC.app hst6 hst5).mono (fun u s h => (h.fk (Fk.app hf7 hob7)).less (F' := F) (fun x hx => by simp [hx]))
 have K := K.own hf7 hup5
 have hup7 : ∀ x ∈ ob B7, w.heap.size ≤ x := fun x hx => by
  rcases hob7 with h | h
  · rw [h] at hx; exact hup5 x hx
  rw [h, za] at hx; omega
 refine Ops.cl (jE1 Tryz.call88) (uK g (i + 3 + (i + 3)) d7 F B7 d _ (bO (puL l)) _ (hD.frm K jp) hst7 (by rw [rV, cQ]; omega) jo hwl ho7.rd (fun x hx h => by have := hup7 x hx; have := hF x h; omega)) rfl ?_
 rintro e w8 ⟨F8, rfl, hD8, k8⟩
 refine ⟨_, rfl, ?_⟩
 refine ja rfl (jO (jN (jv1 4 ?_)))
 refine jT ?_
 refine qS rfl ?_
 exact ⟨F8, rfl, hD8, Fk.pre K k8⟩
theorem qX5 {a b : List Nat} (ha : ∀ x ∈ a, x < 256) (hb : ∀ x ∈ b, x < 256) (h : (qF a).data.toList = (qF b).data.toList) : a = b := by
 have h1 : a.map UInt8.ofNat = b.map UInt8.ofNat := by simpa [qF] using h
 have back : ∀ l : List Nat, (∀ x ∈ l, x < 256) → (l.map UInt8.ofNat).map (fun u => u.toNat) = l := fun l hl => by
  rw [zeh]
  conv => rhs; rw [← List.map_id l]
  apply zfm
  intro x hx
  have := hl x hx
  simp
  omega
 rw [← back a ha, ← back b hb, h1]
theorem qJ9 {a b : List Nat} (ha : ∀ x ∈ a, x < 256) (hb : ∀ x ∈ b, x < 256) : decide ((qF a).data.toList = (qF b).data.toList) = decide (a = b) := by
 by_cases h : a = b
 · subst h; simp
 rw [decide_eq_false h, decide_eq_false (fun e => h (qX5 ha hb e))]
theorem rdU {w : World} {A : Option Addr} {n : Nat} {l : List Nat} (h : Rd w 1 A n (NB l)) (hB : ∀ x ∈ l, x < 256) : Rd w 1 A n (U8 (l.map UInt8.ofNat)) := by rw [← qKz l hB]; exact h
theorem eI {hd : List Nat} {a n : Nat} (h : a + n ≤ hd.length) : oU hd.length a n = 0 ∧ bC hd a n = cT ((hd.drop a).take n) := by
 have : oU hd.length a n = 0 := by unfold oU; rw [if_neg jo, if_neg jo]
 refine ⟨this, ?_⟩
 unfold bC
 rw [if_pos this]
 rfl
theorem sQ {hd : List Nat} (hB : ∀ b ∈ hd, b < 256) (a : Nat) : cT ((hd.drop a).take 2) < 65536 := by
 have h1 := rE ((hd.drop a).take 2) (fun x hx => hB x (zau (zo hx)))
 have h2 : (256 : Nat) ^ ((hd.drop a).take 2).length ≤ 256 ^ 2 := zcg jo (by rw [zk]; omega)
 have e : (256 : Nat) ^ 2 = 65536 := rfl
 omega
theorem yX (d : Dk) (hd : List Nat) (n : Nat) : dY d hd (n + 1) = dY d hd n ++ [(cT ((hd.drop (10 + 2 * n)).take 2), d.sec (1 + n))] := by
 unfold dY
 rw [zda, zv]
 rfl
theorem qWk (d : Dk) (hd : List Nat) (n : Nat) : (dY d hd n).length = n := by simp [dY]
theorem mD (A B : Option Addr) (n m c e0 : Nat) (xs ys : List Nat) (w : World) (hn : xs.length = n) (hm : ys.length = m) (hx : ∀ x ∈ xs, x < 256) (hy : ∀ x ∈ ys, x < 256) (h1 : Rd w 1 A n (NB xs)) (h2 : Rd w 1 B m (NB ys)) :
  Calls Tryz.prog 113 #[.slice A n c, .slice B m e0] w fun e w' => e = .returned (.bool (decide (xs = ys))) ∧ w = w' := by
 refine jV Tryz.func113 Tryz.ntmps113 Tryz.results113 ?_
 refine jS (jR (ja rfl (jO (jN (jv2 0 1 ?_)))))
 refine jS (jR (jm rfl (je (Run.strOf rfl zg zac zt (rdU h1 hx)) (jm rfl (je (Run.strOf rfl zg zac zt (rdU h2 hy)) (je (Run.eqlStr rfl rfl) (ja rfl (jO (jN (jv1 4 ?_))))))))))
 refine jT ?_
 refine qS rfl ?_
 exact ⟨congrArg (fun b => Ending.returned (Value.bool b)) (qJ9 hx hy), rfl⟩
set_option maxHeartbeats 1000000 in
theorem qVd (g c : Nat) (F : List Nat) (A : Option Addr) (d : Dk) (hd : List Nat) (w : World) (hD : IsDk w g F d) (hwl : d.wts.length ≤ 800000) (hon : d.off = false) (hbig : 41 < d.has.length) (hl : hd.length = 128) (hB : ∀ b ∈ hd, b < 256) (hr : Rd w 1 A 128 (NB hd)) :
  Calls Tryz.prog 112 #[.pointer (some ⟨g, 0, none⟩), .slice A 128 c] w fun e w' => ∃ S n c' l, e = .returned (.tuple #[.slice S n c', .bool (decide (dD d hd))]) ∧ (dD d hd → RdP w' S n l ∧ puL l = dY d hd (headN hd) ∧ n = headN hd) ∧ Frm [] w w' ∧ ∀ x ∈ l, ∀ y ∈ ob x.2.1, w.heap.size ≤ y := by
 have hdb := hD.ok.big
 have ht := sQ hB 4
 obtain ⟨e1, e2⟩ := eI (hd := hd) (a := 4) (n := 2) jo
 have K := Frm.refl [] w
 refine VC.calls (nt := 79) (res := #[.tmp 4, .tmp 5]) Tryz.func112 rfl Tryz.ntmps112 Tryz.results112 rfl ?_
 refine jS (jR (ja rfl (ja rfl (jO (jN (jv2 0 1 ?_))))))
 refine jS (jR (jM ?_))
 refine Ops.cl (jE3 zhg) (lY A c 128 4 2 hd _ hl jo jo jo jo hB hr) rfl ?_
 rintro e w1 ⟨rfl, rfl⟩
 rw [hl] at e1
 rw [e1, e2]
 refine ⟨_, rfl, ?_⟩
 rw [show cT ((hd.drop 4).take 2) = headN hd from rfl] at ht ⊢
 refine jm rfl (je (Run.extract rfl rfl) (je (Run.extract rfl rfl) (ja rfl (ja rfl (jO (jN (jv4 0 1 6 7 ?_)))))))
 refine jS (jS ?_)
 refine VC.split1 [(0, _), (1, _), (6, _)] (js3 rfl rfl rfl) 29 (.bool (decide (¬ (1 ≤ headN hd ∧ headN hd ≤ 40)))) ?_ ?_
 ·
  refine jR ?_
  refine jm rfl (jb rfl rfl (Bin.neqN _ 0) (jM ?_))
  refine jG ?_
  refine jk (Run.bin rfl rfl (Bin.lssN _ 1)) ?_
  by_cases hs24 : headN hd < 1
  ·
   refine je (Run.pickF rfl rfl au) (jM ?_)
   refine jU ?_
   refine jU ?_
   refine je (Run.pickT rfl rfl au) (jO ?_)
   refine jN ⟨(js4 (jC (by grind)) rfl rfl rfl), rfl⟩
  refine je (Run.pickF rfl rfl au) (jM ?_)
  refine jG ?_
  refine jk (Run.bin rfl rfl (Bin.gtrN _ 40)) ?_
  by_cases hs28 : 40 < headN hd
  ·
   refine je (Run.pickF rfl rfl au) (jO ?_)
   refine jN ⟨(js4 (jC (by grind)) rfl rfl rfl), rfl⟩
  refine je (Run.pickF rfl rfl au) (jO ?_)
  refine jN ⟨(js4 (jC (by grind)) rfl rfl rfl), rfl⟩
 intro Γ hΓ
 refine jN (VC.sub _ hΓ ?_)
 refine jD rfl (fun hc1 => ?_) fun hc1 => ?_
 ·
  rw [show decide (dD d hd) = false from decide_eq_false (fun h => hc1 h.1)]
  refine jS (jR (ja rfl (ja rfl (jO (jN (jv2 4 5 ?_))))))
  refine jT ?_
  refine qQ (bX rfl rfl ?_)
  exact ⟨none, 0, 0, [], rfl, fun h => absurd h.1 hc1, K, jp⟩
 have hc1 := Classical.not_not.1 hc1
 refine jQ (jN (jv3 0 1 6 ?_))
 refine jS (jR (ja rfl (jO (jN (jS (jS (jR (jm rfl (je (Run.convN _ rfl zr zz (by simp only [bmax]; omega)) ?_)))))))))
 refine jx .i64 0 ?_
 refine jO (jN (jv5 0 1 8 31 32 ?_))
 refine jB ?_
 refine VC.loop (σ := Nat × Option Addr × Nat × List Pq) (fun s => [(0, .pointer (some ⟨g, 0, none⟩)), (1, .slice A 128 c), (8, .slice s.2.1 s.1 s.2.2.1), (31, .int .i64 ((headN hd : Nat) : Int)), (32, .int .i64 ((s.1 : Nat) : Int))]) (fun s wr => s.1 ≤ headN hd ∧ Own wr 132 2 s.2.1 s.1 s.2.2.1 (s.2.2.2.flatMap pqC) ∧ RdP wr s.2.1 s.1 s.2.2.2 ∧ puL s.2.2.2 = dY d hd s.1 ∧ Frm [] w wr ∧ (∀ x ∈ ob s.2.1, w.heap.size ≤ x) ∧ (∀ x ∈ s.2.2.2, ∀ y ∈ ob x.2.1, w.heap.size ≤ y) ∧ ∀ x ∈ s.2.2.2, ∃ b, x.2.1 = some ⟨b, 0, none⟩ ∧ Blk wr b 149 (NB x.2.2.2).toArray) (fun s => headN hd - s.1) (0, none, 0, []) (js5 rfl rfl rfl rfl rfl) ⟨zj _, Own.nil _ _ _, ⟨rfl, Rd.nil _ _ _, jp, jp, jp⟩, rfl, K, by simp [ob], jp, jp⟩ ?_
 rintro ⟨i, B, d8, l⟩ wr ⟨hi, ho, hp, hpu, K, hup, hupl, hbl⟩
 dsimp only at hi ho hp hpu hup hupl hbl ⊢
 have ks := K.size
 have hll := hp.len
 refine jS (jR (jb rfl rfl (Bin.lssN _ _) (jO (jN (jS ?_)))))
 refine jD rfl (fun hc2 => ?_) fun hc2 => ?_
 ·
  obtain ⟨e3, e4⟩ := eI (hd := hd) (a := 10 + 2 * i) (n := 2) jo
  have ht2 := sQ hB (10 + 2 * i)
  refine jQ (jN (jv5 0 1 8 31 32 ?_))
  refine jS (jB (jS (jR (jm rfl (ja rfl (jO (jN (jv6 0 1 8 9 31 32 ?_))))))))
  refine jS (jR (jm rfl (jm rfl (jb rfl rfl (Bin.mul_i64 2 _ jo) (jb rfl rfl (Bin.add_i64 10 _ jo) ?_)))))
  refine Ops.cl (jE3 zhg) (lY A c 128 (10 + 2 * i) 2 hd _ hl jo jo jo jo hB (hr.frm K jp)) rfl ?_
  rintro e w1 ⟨rfl, rfl⟩
  rw [hl] at e3
  rw [e3, e4]
  refine ⟨_, rfl, ?_⟩
  refine jm rfl (je (Run.extract rfl rfl) (je (Run.extract rfl rfl) (ja rfl (ja rfl (jO (jN (jv7 0 1 8 9 10 31 32 ?_)))))))
  refine jS (jR (jm rfl (jm rfl (jb rfl rfl (Bin.add_i64 1 _ jo) ?_))))
  refine Ops.cl (jE2 Tryz.call28) (kH g (1 + i) F d _ (hD.frm K jp) jo) rfl ?_
  rintro e w2 ⟨B2, rfl, hr2, hf2, hup2, hbk⟩
  have hrd : d.read (1 + i) = (0, d.sec (1 + i)) := by unfold Dk.read; rw [if_neg jo, if_neg (by simp [hon])]
  rw [hrd] at hr2 hbk ⊢
  dsimp only at hr2 hbk ⊢
  obtain ⟨b2, hB2, hbk⟩ := hbk rfl
  obtain ⟨hsl, hso⟩ := hD.ok.secAt (jo : 1 + i < d.has.length)
  refine ⟨_, rfl, ?_⟩
  have ho := ho.frm hf2 jp
  have hp := hp.frm hf2
  have K := K.trans hf2 jp
  have ks2 := K.size
  obtain ⟨y, hy⟩ : ∃ y : Pq, y = (cT ((hd.drop (10 + 2 * i)).take 2), B2, (d.sec (1 + i)).length, d.sec (1 + i)) := ⟨_, rfl⟩
  refine jm rfl (je (Run.extract rfl rfl) (je (Run.extract rfl rfl) (ja rfl (ja rfl (jO (jN (jv8 0 1 8 10 12 13 31 32 ?_)))))))
  refine jS (jS (jR (jm rfl (jb rfl rfl (Bin.neqN _ 0) (jO (jN (jv8 0 1 8 10 12 31 32 51 ?_)))))))
  refine VC.condF rfl (rfl) ?_
  refine jQ (jN (jv7 0 1 8 10 12 31 32 ?_))
  refine jR (jm rfl (jm rfl (je (Run.convN _ rfl zr zz (by simp only [bmax]; omega)) (jm rfl (je (Run.build (evs.cons rfl (evs.cons rfl evs.nil)) cP (cR).choose_spec.1 (cR).choose_spec.2 rfl) ?_)))))
  refine Ops.m (qV.buildS1 rfl zx zbe cP jd jd rfl rfl) rfl ?_
  rintro _ w4 ⟨rfl, hF4⟩
  have ho := ho.frm hF4.frm jp
  have hp := hp.frm hF4.frm
  have hr2 := hr2.frm hF4.frm jp
  have hbk := hbk.frm hF4.frm jp
  have hbl : ∀ x ∈ l ++ [y], ∃ b, x.2.1 = some ⟨b, 0, none⟩ ∧ Blk w4 b 149 (NB x.2.2.2).toArray := fun x hx => by
   rcases zcp.1 hx with h | h
   ·
    obtain ⟨b, h1, h2⟩ := hbl x h
    exact ⟨b, h1, (h2.frm hf2 jp).frm hF4.frm jp⟩
   rw [za] at h; subst h; rw [hy]; exact ⟨b2, hB2, hbk⟩
  have K := K.trans hF4.frm jp
  have ks4 := K.size
  have hr4 : Rd w4 2 (some ⟨w2.heap.size, 0, none⟩) 1 (pqC y) := by
   have := Rd.of_blk (n := 1) (size := 2) hF4.blk rfl
   rw [hy]
   exact this
  refine Ops.m (qV.app rfl rfl zx (gW) rfl jd ho hr4 (eG y) jo jo) rfl ?_
  rintro _ w5 ⟨B5, d5, rfl, ho5, hf5, hob5⟩
  have hup5 : ∀ x ∈ ob B5, w.heap.size ≤ x := fun x hx => by
   rcases hob5 with h | h
   · rw [h] at hx; exact hup x hx
   rw [h, za] at hx; omega
  have e9 : l.flatMap pqC ++ pqC y = (l ++ [y]).flatMap pqC := by rw [zan]; simp
  rw [e9] at ho5
  have hbl5 : ∀ x ∈ l ++ [y], ∃ b, x.2.1 = some ⟨b, 0, none⟩ ∧ Blk w5 b 149 (NB x.2.2.2).toArray := fun x hx => by
   obtain ⟨b, h1, h2⟩ := hbl x hx
   exact ⟨b, h1, h2.frm hf5 (ho.ne_blk h2 jd)⟩
  have hby : ∀ x ∈ l ++ [y], Rd w5 1 x.2.1 x.2.2.2.length (NB x.2.2.2) := fun x hx => by
   obtain ⟨b, h1, h2⟩ := hbl5 x hx
   rw [h1]
   have := Rd.of_blk (n := x.2.2.2.length) (size := 1) h2 (by simp [NB])
   exact this
  have hp5 : RdP w5 B5 (i + 1) (l ++ [y]) := ⟨by simp [hll], ho5.rd, hby, fun x hx => by
   rcases zcp.1 hx with h | h
   · exact hp.num x h
   · rw [za] at h; subst h; rw [hy]; dsimp only; omega, fun x hx => by
   rcases zcp.1 hx with h | h
   · exact hp.oct x h
   rw [za] at h; subst h; rw [hy]; exact hso⟩
  refine ja rfl (jO ?_)
  refine qH (jN ?_)
  refine jv5 0 1 8 31 32 ?_
  refine jR (jb rfl rfl (Bin.add_i64 _ 1 jo) (jm rfl (jO ?_)))
  refine jN ⟨(i + 1, B5, d5, l ++ [y]), (js5 rfl rfl rfl rfl rfl), ?_, ?_⟩
  ·
   refine ⟨hc2, ho5, hp5, ?_, K.own hf5 hup, hup5, fun x hx => ?_, hbl5⟩
   ·
    dsimp only
    rw [yX, ← hpu, puL, zv, puL, hy]
    rfl
   rcases zcp.1 hx with h | h
   · exact hupl x h
   rw [za] at h; subst h; rw [hy]; exact fun z hz => zbd ks (hup2 z hz)
  first | omega | (dsimp only; omega)
 refine jX ?_
 refine qZ (qZ (qN ?_))
 refine jN (jv3 0 1 8 ?_)
 refine jS (jR (jM ?_))
 refine Ops.cl (jE1 Tryz.call110) (yQ B i d8 l _ jo hp) rfl ?_
 rintro e w2 ⟨B2, d2, bs, hbs, rfl, hr2, hf2, hup2⟩
 refine ⟨_, rfl, ?_⟩
 obtain rfl : i = headN hd := jo
 have hp := hp.frm hf2
 have K := K.trans hf2 jp
 obtain ⟨eh, heh⟩ : ∃ eh : Nat, eh = (if cH (puL l) 2048 then 0 else 1) := ⟨_, rfl⟩
 have hTo : dD d hd ↔ cH (puL l) d.has.length ∧ bs = hd := by
  unfold dD
  rw [← hpu, hbs]
  constructor
  ·
   rintro ⟨_, h2, h3⟩
   exact ⟨h2, by rw [if_pos (h2.mono hdb)]; exact h3⟩
  rintro ⟨h2, h3⟩
  rw [if_pos (h2.mono hdb)] at h3
  exact ⟨hc1, h2, h3⟩
 have hm2 : cH (puL l) d.has.length → eh = 0 := fun h => by rw [heh, if_pos (h.mono hdb)]
 have hbo : ∀ b ∈ bs, b < 256 := by
  rw [hbs]
  split
  · exact headJ_lt _
  simp
 rw [← heh]
 clear hbs heh
 have hD2 := hD.frm K jp
 have hrh := hr.frm K jp
 refine jm rfl (je (Run.extract rfl rfl) (je (Run.extract rfl rfl) (ja rfl (ja rfl (jO (jN (jv5 0 1 7 8 14 ?_)))))))
 refine jS ?_
 refine VC.splitR [(4, .slice B (headN hd) d8)] (fun wz => Frm [] w2 wz) 5 (.bool (decide (dD d hd))) ?_ ?_
 ·
  refine jR ?_
  refine jm rfl (jm rfl (jb rfl rfl (Bin.eqlN _ 0) ?_))
  by_cases hs67 : eh = 0
  ·
   refine jM ?_
   refine jG ?_
   refine jG ?_
   refine Ops.clg rfl au (jE1 zfe) (dU g F d _ hD2) rfl ?_
   rintro e _ ⟨rfl, rfl⟩
   refine ⟨_, rfl, ?_⟩
   refine Ops.clg rfl au (jE2 Tryz.call109) (uX B (headN hd) d8 d.has.length l _ jo jo hp) rfl ?_
   rintro e w3 ⟨rfl, K1⟩
   refine ⟨_, rfl, ?_⟩
   by_cases hs72 : cH (puL l) d.has.length
   ·
    refine je (Run.pickT rfl rfl au) (jM ?_)
    refine jG ?_
    refine jG ?_
    refine Ops.clg rfl au (jE2 zhh) (mD B2 A bs.length 128 d2 c bs hd _ rfl hl hbo hB (hr2.frm K1 jp) (hrh.frm K1 jp)) rfl ?_
    rintro e _ ⟨rfl, rfl⟩
    refine ⟨_, rfl, ?_⟩
    by_cases hs77 : bs = hd
    ·
     refine je (Run.pickT rfl rfl au) (ja rfl (ja rfl (jO ?_)))
     refine jN ⟨(js2 (jC (Bool.eq_iff_iff.2 (by simp only [decide_eq_true_eq, hTo]; first | (simp [*]; done) | grind))) rfl), (by first | exact K1 | exact Frm.refl _ _)⟩
    refine je (Run.pickT rfl rfl au) (ja rfl (ja rfl (jO ?_)))
    refine jN ⟨(js2 (jC (Bool.eq_iff_iff.2 (by simp only [decide_eq_true_eq, hTo]; first | (simp [*]; done) | grind))) rfl), (by first | exact K1 | exact Frm.refl _ _)⟩
   refine je (Run.pickT rfl rfl au) (jM ?_)
   refine jU ?_
   refine jU ?_
   refine jU ?_
   refine je (Run.pickF rfl rfl au) (ja rfl (ja rfl (jO ?_)))
   refine jN ⟨(js2 (jC (Bool.eq_iff_iff.2 (by simp only [decide_eq_true_eq, hTo]; first | (simp [*]; done) | grind))) rfl), (by first | exact K1 | exact Frm.refl _ _)⟩
  refine jM ?_
  refine jU ?_
  refine jU ?_
  refine jU ?_
  refine jU ?_
  refine je (Run.pickF rfl rfl au) (jM ?_)
  refine jU ?_
  refine jU ?_
  refine jU ?_
  refine je (Run.pickF rfl rfl au) (ja rfl (ja rfl (jO ?_)))
  refine jN ⟨(js2 (jC (Bool.eq_iff_iff.2 (by simp only [decide_eq_true_eq, hTo]; first | (simp [*]; done) | grind))) rfl), (by first | exact K1 | exact Frm.refl _ _)⟩
 intro Γ wz hΓ Kz
 refine jN (VC.sub _ hΓ ?_)
 refine jT ?_
 refine bX rfl rfl ?_
 exact ⟨B, headN hd, d8, l, rfl, fun _ => ⟨hp.frm Kz, hpu, rfl⟩, K.trans Kz jp, hupl⟩
theorem qQz (g : Nat) (F : List Nat) (d : Dk) (w : World) (hD : IsDk w g F d) (hwl : d.wts.length ≤ 800000) :
  Calls Tryz.prog 48 #[.pointer (some ⟨g, 0, none⟩)] w fun e w' => ∃ F', e = .returned (.tuple #[.int .i64 (((bW d).1 : Nat) : Int), .int .i64 (((bW d).2.1 : Nat) : Int)]) ∧ IsDk w' g F' (bW d).2.2 ∧ Fk F w w' F' := by
 unfold bW
 have hF := hD.lt
 have hbig := hD.ok.big
 refine VC.calls (nt := 41) (res := #[.tmp 2, .tmp 3]) Tryz.func48 rfl Tryz.ntmps48 Tryz.results48 rfl ?_
 refine jS (jR (jz 0 (jz 0 (jO (jN (jv1 0 ?_))))))
 refine jS (jS (jR (jM ?_)))
 refine Ops.cl (jE1 Tryz.call87) (rY g F d _ hD) rfl ?_
 rintro e w1 ⟨rfl, rfl⟩
 refine ⟨_, rfl, ?_⟩
 refine jO (jN (jv2 0 10 ?_))
 refine VC.condB rfl (fun hc1 => ?_) (fun hc1 => ?_)
 ·
  have h41 : d.has.length ≤ 41 := by simpa using hc1
  rw [if_pos h41]
  refine jS (jR (jz 0 (jz 1 (jO (jN (jv2 2 3 ?_))))))
  refine jT ?_
  refine qQ (bX rfl rfl ?_)
  exact ⟨F, rfl, hD, Fk.refl _ _⟩
 have h41 : ¬ d.has.length ≤ 41 := by simpa using hc1
 rw [if_neg h41]
 refine jQ (jN (jv1 0 ?_))
 refine jS (jR (jM ?_))
 refine Ops.cl (jE2 Tryz.call28) (kH g 0 F d _ hD jo) rfl ?_
 rintro e w2 ⟨B2, rfl, hr2, hf2, hup2, _⟩
 refine ⟨_, rfl, ?_⟩
 obtain ⟨hsl, hso⟩ := hD.ok.secAt (show 0 < d.has.length by omega)
 have hrd : d.read 0 = if d.off then (10, []) else (0, d.sec 0) := by unfold Dk.read; rw [if_neg jo]
 refine jm rfl (je (Run.extract rfl rfl) (je (Run.extract rfl rfl) (ja rfl (ja rfl (jO (jN (jv3 0 4 5 ?_)))))))
 refine jS (jS (jR (jm rfl (jb rfl rfl (Bin.neqN _ 0) (jO (jN (jv4 0 4 5 17 ?_)))))))
 refine jD rfl (fun hc2 => ?_) fun hc2 => ?_
 ·
  have ho : d.off = true := Classical.byContradiction fun h => by
   rw [if_neg h] at hrd
   rw [hrd] at hc2
   exact hc2 rfl
  rw [if_pos ho] at hrd ⊢
  rw [hrd]
  refine jS (jR (jm rfl (jz 0 (ja rfl (jO (jN (jv2 2 3 ?_)))))))
  refine jT ?_
  refine qQ (bX rfl rfl ?_)
  exact ⟨F, rfl, hD.frm hf2 jp, Fk.pre hf2 (Fk.refl _ _)⟩
 have ho : ¬ d.off = true := fun h => by
  rw [if_pos h] at hrd
  rw [hrd] at hc2
  exact hc2 (by decide)
 rw [if_neg ho] at hrd ⊢
 rw [hrd] at hr2 ⊢
 dsimp only at hr2 ⊢
 rw [hsl] at hr2 ⊢
 have hD2 := hD.frm hf2 jp
 refine jQ (jN (jv2 0 4 ?_))
 refine jS (jS (jR (jm rfl (jM ?_))))
 refine Ops.cl (jE2 Tryz.call112) (qVd g 128 F B2 d (d.sec 0) _ hD2 jo (by simpa using ho) jo hsl hso hr2) rfl ?_
 rintro e w3 ⟨S, n, c3, l, rfl, hT, hf3, hupl⟩
 refine ⟨_, rfl, ?_⟩
 have K := hf2.trans hf3 jp
 have hD3 := hD.frm K jp
 have ks := K.size
 have s2 := hf2.size
 refine jm rfl (je (Run.extract rfl rfl) (je (Run.extract rfl rfl) (ja rfl (ja rfl (jO (jN (jv4 0 4 6 7 ?_)))))))
 refine jS (jR (jm rfl (jO (jN (jv4 0 4 6 25 ?_)))))
 refine VC.condB rfl (fun hc3 => ?_) (fun hc3 => ?_)
 ·
  have ht : dD d (d.sec 0) := of_decide_eq_true hc3
  obtain ⟨hp, hpu, hn⟩ := hT ht
  rw [if_pos ht]
  have hm := ht.2.1
  rw [← hpu] at hm
  have h40 := ht.1
  rw [← hn] at h40
  rw [← hpu]
  refine jS (jS (jR (jm rfl (jM ?_))))
  refine Ops.cl (jE2 Tryz.call111) (uV g n c3 F S l _ jo (fun x hx => by have := hF x hx; omega) hp (fun x hx h0 y hy h => by have h1 := hupl x hx y hy; have := hF y h; omega) (qWj hm)) rfl ?_
  rintro e w4 ⟨B4, d4, vs, rfl, ho4, hst4, hf4, hup4⟩
  refine ⟨_, rfl, ?_⟩
  have K := K.trans hf4 jp
  refine Ops.cl (jE1 Tryz.call88) (uK g (n + 3) d4 F B4 d vs (bF (puL l)) _ (hD3.frm hf4 jp) hst4 (by rw [nX, cQ, hp.len]) jo hwl ho4.rd (fun x hx h => by have := hup4 x hx; have := hF x h; have := hf3.size; omega)) rfl ?_
  rintro e w5 ⟨F5, rfl, hD5, k5⟩
  refine ⟨_, rfl, ?_⟩
  refine ja rfl (jO (jN (jv2 6 8 ?_)))
  refine jS (jR (jm rfl (jb rfl rfl (Bin.neqN _ 0) (jO (jN (jv3 6 8 31 ?_))))))
  refine jD rfl (fun hc4 => ?_) fun hc4 => ?_
  ·
   rw [if_pos hc4]
   refine jS (jR (jm rfl (jz 0 (ja rfl (jO (jN (jv2 2 3 ?_)))))))
   refine jT ?_
   refine qQ (qQ (bX rfl rfl ?_))
   exact ⟨F5, rfl, hD5, Fk.pre K k5⟩
  rw [if_neg hc4]
  have h00 := Classical.not_not.1 hc4
  refine jQ (jN (jv1 6 ?_))
  refine jS (jR (jm rfl (je (Run.lenS rfl zx) (ja rfl (jz 0 (jO (jN (jv2 2 3 ?_))))))))
  refine jT ?_
  refine qQ (bX rfl rfl ?_)
  rw [h00, hn]
  exact ⟨F5, rfl, hD5, Fk.pre K k5⟩
 have ht : ¬ dD d (d.sec 0) := of_decide_eq_false hc3
 rw [if_neg ht]
 refine jQ (jN (jv2 0 4 ?_))
 refine jS (jS (jR (jM ?_)))
 refine Ops.cl (jE0 Tryz.call90) (rW _) rfl ?_
 rintro e w4 ⟨B4, d4, rfl, hr4, hf4, hup4⟩
 refine ⟨_, rfl, ?_⟩
 have K := K.trans hf4 jp
 refine Ops.cl (jE2 zhh) (mD B2 B4 128 128 128 d4 (d.sec 0) (noM 128) _ hsl (by simp [noM]) hso (noM_lt _) ((hr2.frm hf3 jp).frm hf4 jp) hr4) rfl ?_
 rintro e _ ⟨rfl, rfl⟩
 refine ⟨_, rfl, ?_⟩
 refine je (Run.not rfl) (jO (jN (jv2 0 38 ?_)))
 refine VC.condB rfl (fun hc5 => ?_) (fun hc5 => ?_)
 ·
  have hne : d.sec 0 ≠ noM 128 := by simpa using hc5
  rw [if_pos hne]
  refine jS (jR (jM ?_))
  refine Ops.cl (jE1 Tryz.call36) (oD g F d _ (hD.frm K jp) hwl) rfl ?_
  rintro e w5 ⟨F5, rfl, hD5, k5⟩
  refine ⟨_, rfl, ?_⟩
  unfold bY at hD5 ⊢
  rw [if_neg h41] at hD5 ⊢
  refine jz 0 (ja rfl (jO (jN (jv2 2 3 ?_))))
  refine jT ?_
  refine qQ (bX rfl rfl ?_)
  exact ⟨F5, rfl, hD5, Fk.pre K k5⟩
 have hne : ¬ d.sec 0 ≠ noM 128 := by simpa using hc5
 rw [if_neg hne]
 refine jQ (jN ?_)
 refine VC.sub [] .nil ?_
 refine jS (jR (jz 0 (jz 0 (jO (jN (jT ?_))))))
 refine bX rfl rfl ?_
 exact ⟨F, rfl, hD.frm K jp, Fk.pre K (Fk.refl _ _)⟩
theorem Run.minN' {P : Program} {Γ : Env} {w : World} {dst : Option Tmp} {pos : String} {after : Array Edge} {g : Option (Nat × Bool)} {t : TypeId} {x y : Operand} {k : IntKind} {a b : Nat} {ts : Array TypeId} (hx : ev? Γ x = some (.int k (a : Int))) (hy : ev? Γ y = some (.int k (b : Int))) :
  Run P ⟨dst, .call ⟨.builtin .min, #[x, y], ts⟩, t, pos, after, g⟩ Γ w (.int k ((Nat.min a b : Nat) : Int)) := by
 have h := Run.minI (P := P) (w := w) (dst := dst) (pos := pos) (after := after) (g := g) (t := t) (ts := ts) hx hy
 have e : (if (b : Int) < (a : Int) then (b : Int) else (a : Int)) = ((Nat.min a b : Nat) : Int) := by
  rcases Nat.lt_or_ge b a with hl | hl
  · rw [if_pos jo, show Nat.min a b = b from zej jo]
  rw [if_neg jo, show Nat.min a b = a from zbh hl]
 rwa [e] at h
theorem Run.maxN' {P : Program} {Γ : Env} {w : World} {dst : Option Tmp} {pos : String} {after : Array Edge} {g : Option (Nat × Bool)} {t : TypeId} {x y : Operand} {k : IntKind} {a b : Nat} {ts : Array TypeId} (hx : ev? Γ x = some (.int k (a : Int))) (hy : ev? Γ y = some (.int k (b : Int))) :
  Run P ⟨dst, .call ⟨.builtin .max, #[x, y], ts⟩, t, pos, after, g⟩ Γ w (.int k ((Nat.max a b : Nat) : Int)) := by
 have h := Run.maxI (P := P) (w := w) (dst := dst) (pos := pos) (after := after) (g := g) (t := t) (ts := ts) hx hy
 have e : (if (a : Int) < (b : Int) then (b : Int) else (a : Int)) = ((Nat.max a b : Nat) : Int) := by
  rcases Nat.lt_or_ge a b with hl | hl
  · rw [if_pos jo, show Nat.max a b = b from Nat.max_eq_right jo]
  rw [if_neg jo, show Nat.max a b = a from Nat.max_eq_left hl]
 rwa [e] at h
def ZU (l : List Nat) : List Value := l.map fun n => jI2 n
theorem rdZU {w : World} {A : Option Addr} {n : Nat} {l : List Nat} (h : Rd w 1 A n (ZU l)) (hn : l.length = n) {k : Nat} (hk : k < n) : ∃ ad, A = some ad ∧ w.cell? (ad.add k) = some (jI2 (l.getD k 0)) := by
 obtain ⟨ad, h1, _, hc⟩ := h.2 jo
 exact ⟨ad, h1, hc k _ (by simp [ZU, zb, ze (jo : k < l.length)])⟩
def prC (x : Pr) : List Value := [jI2 x.1, jI2 x.2]
theorem gG (x : Pr) : (prC x).length = 2 := rfl
theorem eH (x : Pr) : ∀ u ∈ prC x, u.oneCell' = true := by
 intro u hu
 simp only [prC, zaq, zaz, or_false] at hu
 rcases hu with rfl | rfl <;> rfl
def PC2 (l : List Pr) : List Value := l.flatMap prC
theorem oY (l : List Pr) : ∀ u ∈ PC2 l, u.oneCell' = true := wH prC eH l
def OkP (l : List Pr) : Prop := ∀ x ∈ l, x.1 < 18446744073709551616 ∧ x.2 < 18446744073709551616
theorem gM {w : World} {A : Option Addr} {n : Nat} {l : List Pr} (h : Rd w 2 A n (PC2 l)) (hn : l.length = n) {k : Nat} (hk : k < n) : ∃ ad, A = some ad ∧ ∀ j v, (prC (l.getD k (0, 0)))[j]? = some v → w.cell? ((ad.add (k * 2)).add j) = some v := rdF prC 2 gG h hn hk (0, 0)
theorem fN {l : List Pr} {i : Nat} (h : i < l.length) : l.getD i (0, 0) ∈ l := by
 rw [zb, ze h]
 exact zbp h
theorem sX {l : List Pr} {i : Nat} (h : i < l.length) : l.take (i + 1) = l.take i ++ [l.getD i (0, 0)] := by
 rw [zcq, ze h, zb, ze h]
 rfl
theorem rG (n m : Nat) (w : World) (hn : n ≤ 1000000) (hm : 1 ≤ m) (hm2 : m ≤ 1000) : Calls Tryz.prog 130 #[jI1 n, jI1 m] w fun e w' => e = .returned (jI1 (bI n m)) ∧ w = w' := by
 refine jV Tryz.func130 Tryz.ntmps130 Tryz.results130 ?_
 refine jS (jR (jz 0 (jO (jN (jv2 0 1 ?_)))))
 refine jS (jR (jm rfl (jm rfl (jb rfl rfl (Bin.add_i64 _ _ jo) (jb rfl rfl (Bin.sub_i64 _ 1 jo jo) (jm rfl (jb rfl rfl (Bin.quo_i64 _ _ jo jo) (je (Run.maxN' (a := 1) rfl rfl) (ja rfl (jO (jN (jv1 4 ?_))))))))))))
 refine jT ?_
 refine qS rfl ?_
 exact ⟨rfl, rfl⟩
theorem qJf (n : Nat) (w : World) (hn : n ≤ 600) : Calls Tryz.prog 98 #[jI1 n] w fun e w' => e = .returned (jI1 (cK n)) ∧ w = w' := by
 refine jV Tryz.func98 Tryz.ntmps98 Tryz.results98 ?_
 refine jS (jR (jz 0 (jO (jN (jv1 0 ?_)))))
 refine jS (jS ?_)
 refine VC.split1 [(0, _)] (js1 rfl) 10 (.bool (decide (False))) ?_ ?_
 ·
  refine jR ?_
  refine jm rfl (jb rfl rfl (Bin.lssN _ 0) ?_)
  by_cases hs6 : n < 0
  ·
   refine jM ?_
   refine jU ?_
   refine jU ?_
   refine jW rfl rfl au (jO ?_)
   refine jN ⟨(js2 (jC (by first | (simp; done) | (simp; omega))) rfl), rfl⟩
  refine jM ?_
  refine jG ?_
  refine jk (Run.bin rfl rfl (Bin.gtrN _ 600)) ?_
  by_cases hs9 : 600 < n
  ·
   refine jF rfl rfl au (jO ?_)
   refine jN ⟨(js2 (jC (by first | (simp; done) | (simp; omega))) rfl), rfl⟩
  refine jF rfl rfl au (jO ?_)
  refine jN ⟨(js2 (jC (by first | (simp; done) | (simp; omega))) rfl), rfl⟩
 intro Γ hΓ
 refine jN (VC.sub _ hΓ ?_)
 refine VC.condF rfl jp ?_
 refine jQ (jN (jv1 0 ?_))
 refine jS (jR (jz 0 (jO (jN (jS (jR (jM ?_)))))))
 refine jc0 (jE2 Tryz.call130) (rG n 7 _ jo jo jo) ?_
 have ha : bI n 7 ≤ 86 := by unfold bI; omega
 refine ja rfl (jO (jN (jv2 3 4 ?_)))
 refine jB ?_
 refine VC.loop (σ := Nat × Nat) (fun s => [(3, jI1 s.1), (4, jI1 s.2)]) (fun s wr => s.1 + lF s.2 = cK n ∧ 1 ≤ s.2 ∧ s.2 ≤ 86 ∧ s.1 ≤ 1000000 - 1000 * s.2 ∧ w = wr) (fun s => s.2) (0, bI n 7) (js2 rfl rfl) ⟨zch _, oC _ _, ha, by dsimp only; omega, rfl⟩ ?_
 rintro ⟨a, lv⟩ _ ⟨hs, h1, h86, hab, rfl⟩
 dsimp only at hs h1 h86 hab ⊢
 rw [lF] at hs
 refine jS (jB (jS (jR (jm rfl (jm rfl (jb rfl rfl (Bin.add_i64 _ _ jo) (ja rfl (jO (jN (jv2 3 4 ?_))))))))))
 refine jS (jR (jm rfl (jb rfl rfl (Bin.eqlN _ 1) (jO (jN (jv3 3 4 19 ?_))))))
 refine jD rfl (fun hc2 => ?_) fun hc2 => ?_
 ·
  rw [dif_pos jo] at hs
  refine jS (jR (jm rfl (ja rfl (jO (jN (jv1 2 ?_))))))
  refine jT ?_
  refine qR (qQ (qQ (qR (qS rfl ?_))))
  rw [hs]
  exact ⟨rfl, rfl⟩
 rw [dif_neg jo] at hs
 have hl2 := yF (jo : 1 < lv)
 have hp2 := oC lv 12
 refine jQ ?_
 refine qH (jN ?_)
 refine jv2 3 4 ?_
 refine jR (jM ?_)
 refine jc0 (jE2 Tryz.call130) (rG lv 12 _ jo jo jo) ?_
 refine ja rfl (jO ?_)
 refine jN ⟨(a + lv, bI lv 12), (js2 rfl rfl), ?_, ?_⟩
 · exact ⟨by dsimp only; omega, hp2, by dsimp only; omega, by dsimp only; omega, rfl⟩
 exact jq
theorem fZ (B L : Option Addr) (m d k n cl : Nat) (bs l : List Nat) (w : World) (hm : m ≤ 1000000) (hk1 : 1 ≤ k) (hk8 : k ≤ 8) (hn : l.length = n) (hn8 : n ≤ 1000) (hv : ∀ v ∈ l, v < 256 ^ k) (ho : Own w 5 1 B m d (NB bs)) (hl : Rd w 1 L n (ZU l)) (hLB : 0 < n → ∀ x ∈ ob L, x ∉ ob B) :
  Calls Tryz.prog 141 #[.slice B m d, jI1 k, .slice L n cl] w fun e w' => ∃ B' d', e = .returned (.slice B' (m + k * n) d') ∧ Own w' 5 1 B' (m + k * n) d' (NB (bs ++ l.flatMap fun v => qC v k)) ∧ Fk (ob B) w w' (ob B') := by
 have hl0 := hl
 refine jV Tryz.func141 Tryz.ntmps141 Tryz.results141 ?_
 refine jS (jR (ja rfl (jO (jN (jv3 0 1 2 ?_)))))
 refine jS (jS (jR (jm rfl (jL rfl zbv ?_))))
 refine jx .i64 0 ?_
 refine jO (jN (jv5 0 1 11 12 13 ?_))
 refine jB ?_
 refine VC.loop (σ := Nat × Option Addr × Nat) (fun s => [(0, .slice s.2.1 (m + k * s.1) s.2.2), (1, jI1 k), (11, .slice L n cl), (12, jI1 n), (13, jI1 s.1)]) (fun s wr => s.1 ≤ n ∧ Own wr 5 1 s.2.1 (m + k * s.1) s.2.2 (NB (bs ++ (l.take s.1).flatMap fun v => qC v k)) ∧ Rd wr 1 L n (ZU l) ∧ Fk (ob B) w wr (ob s.2.1)) (fun s => n - s.1) (0, B, d) (js5 rfl rfl rfl rfl rfl) ⟨zj _, by simpa using ho, hl, Fk.refl _ _⟩ ?_
 rintro ⟨i, C, e⟩ wr ⟨hi, ho, hl, K⟩
 dsimp only at hi ho K ⊢
 refine jS (jR (jb rfl rfl (Bin.lssN _ _) (jO (jN (jS ?_)))))
 refine jD rfl (fun hc1 => ?_) fun hc1 => ?_
 ·
  obtain ⟨ad, hL, hc⟩ := rdZU hl hn hc1
  subst hL
  have hvi := hv (l.getD i 0) (by rw [zb, ze jo]; exact zbp _)
  have hsn := mR (jo : i < l.length)
  generalize l.getD i 0 = v at hc hvi hsn
  have hki : k * i ≤ 8 * 1000 := Nat.mul_le_mul hk8 jo
  have hkk : k * (i + 1) = k * i + k := Nat.mul_succ k i
  refine jQ (jN (jv5 0 1 11 12 13 ?_))
  refine jS (jB (jS (jR (je (Run.index1 _ rfl rfl zbv zy jo) (jl rfl zai hc (ja rfl (jO (jN (jv6 0 1 8 11 12 13 ?_)))))))))
  refine jS (jR (jm rfl (jM ?_)))
  refine jc (jE2 Tryz.call155) (sD v k _ hk1 hk8 hvi) ?_
  rintro e2 w2 ⟨B2, d2, rfl, ho2, hf2, hup2⟩
  refine ⟨_, rfl, ?_⟩
  have ho := ho.frm hf2 jp
  have hl := hl.frm hf2 jp
  have K := K.frm hf2 jp
  refine jm rfl (jY rfl rfl (jY rfl rfl (ja rfl (ja rfl (jO (jN (jv6 0 1 9 11 12 13 ?_)))))))
  refine jR (jm rfl (jM ?_))
  refine Ops.m (qV.app rfl rfl zg (eY) rfl jd ho ho2.rd (eZ _) jo jo) rfl ?_
  rintro _ w3 ⟨B3, d3, rfl, ho3, hf3, hob3⟩
  have hfe : (l.take (i + 1)).flatMap (fun v => qC v k) = (l.take i).flatMap (fun v => qC v k) ++ qC v k := by rw [hsn, zan]; simp
  rw [← dM, zab, ← hfe, show m + k * i + k = m + k * (i + 1) by omega] at ho3
  have hl3 := hl.frm hf3 (fun h0 x hx h => by
   rcases K.2 x h with h1 | h1
   · exact hLB jo x hx h1
   have := hl0.lt jo x hx; omega)
  refine ja rfl (jO ?_)
  refine qH (jN ?_)
  refine jv5 0 1 11 12 13 ?_
  refine jR (jb rfl rfl (Bin.add_i64 _ 1 jo) (jm rfl (jO ?_)))
  refine jN ⟨(i + 1, B3, d3), (js5 (by rw [show m + k * (i + 1) = m + k * i + k by omega]; rfl) rfl rfl rfl rfl), ?_, ?_⟩
  ·
   refine ⟨hc1, ho3, hl3, K.trans ⟨hf3, fun x hx => ?_⟩⟩
   rcases hob3 with h | h
   · rw [h] at hx; exact .inl hx
   rw [h, za] at hx; exact .inr (zhf hx.symm)
  exact jq
 refine jX ?_
 refine qZ (qZ (qN ?_))
 refine jN (jv1 0 ?_)
 refine jS (jR (jm rfl (ja rfl (jO (jN (jv1 6 ?_))))))
 refine jT ?_
 refine qS rfl ?_
 obtain rfl : i = n := jo
 rw [zh jo] at ho
 exact ⟨C, e, rfl, ho, K⟩
theorem nO (A : Option Addr) (c n : Nat) (bs : List Nat) (w : World) (hn : bs.length = n) (hl : n ≤ 124) (hB : ∀ b ∈ bs, b < 256) (hr : Rd w 1 A n (NB bs)) :
  Calls Tryz.prog 142 #[.slice A n c] w fun e w' => ∃ B d, e = .returned (.slice B 128 d) ∧ Own w' 5 1 B 128 d (NB (dR bs)) ∧ Frm [] w w' ∧ ∀ x ∈ ob B, w.heap.size ≤ x := by
 refine jV Tryz.func142 Tryz.ntmps142 Tryz.results142 ?_
 refine jS (jR (ja rfl (jO (jN (jv1 0 ?_)))))
 refine jS (jR (jM ?_))
 refine jc (jE1 Tryz.call143) (nI A c n bs _ hn jo hB hr) ?_
 rintro e w1 ⟨B1, d1, rfl, ho1, hf1, hup1⟩
 refine ⟨_, rfl, ?_⟩
 refine jc (jE2 Tryz.call146) (tA B1 d1 (n + 4) 128 (fW bs) _ (by rw [fY, hn]) jo jo ho1.rd) ?_
 rintro e w2 ⟨B2, d2, rfl, ho2, hf2, hup2⟩
 have hp := fM (jo : bs.length ≤ 124)
 unfold dR at hp
 rw [hp] at ho2 ⊢
 refine ⟨_, rfl, ?_⟩
 refine jm rfl (jY rfl rfl (jY rfl rfl (ja rfl (ja rfl (jO (jN (jv1 3 ?_)))))))
 refine jS (jR (jm rfl (ja rfl (jO (jN (jv1 2 ?_))))))
 refine jT ?_
 refine qS rfl ?_
 exact ⟨B2, d2, rfl, ho2, hf1.trans hf2 jp, fun x hx => by have := hup2 x hx; have := hf1.size; omega⟩
theorem qWl (L : Option Addr) (n c : Nat) (l : List Pr) (w : World) (hn : l.length = n) (hnb : n ≤ 1000000) (hl : Rd w 2 L n (PC2 l)) (hok : OkP l) :
  Calls Tryz.prog 138 #[.slice L n c] w fun e w' => e = .returned (.bool (decide (MayT l))) ∧ Frm [] w w' := by
 refine jV Tryz.func138 Tryz.ntmps138 Tryz.results138 ?_
 refine jS (jR (ja rfl (jO (jN (jv1 0 ?_)))))
 refine jS (jS (jR (jz 1 (jO (jN (jB ?_))))))
 refine VC.loop (σ := Nat) (fun s => [(0, .slice L n c), (3, jI1 s)]) (fun s wr => 1 ≤ s ∧ s ≤ n + 1 ∧ (∀ j, j + 1 < s → j + 1 < n → (l.getD j (0, 0)).1 < (l.getD (j + 1) (0, 0)).1) ∧ qP w wr) (fun s => n + 1 - s) 1 (js2 rfl rfl) ⟨zag _, jo, fun j hj => jo, qP.refl _⟩ ?_
 rintro i wr ⟨h1, hi, hlt, hd⟩
 refine jS (jS (jR (jm rfl (jm rfl (jL rfl zl (jb rfl rfl (Bin.lssN _ _) (jO (jN (jv3 0 3 7 ?_)))))))))
 refine jD rfl (fun hc1 => ?_) fun hc1 => ?_
 ·
  have hld := (hl.drawn hd).drawn (qP.drew _)
  obtain ⟨ad, hL, he1⟩ := gM hld hn hc1
  subst hL
  obtain ⟨ad2, hL, he2⟩ := gM hld hn (jo : i - 1 < n)
  cases hL
  have ok1 := hok _ (fN (jo : i < l.length))
  have ok2 := hok _ (fN (jo : i - 1 < l.length))
  obtain ⟨x, hx⟩ : ∃ x, x = l.getD i (0, 0) := ⟨_, rfl⟩
  obtain ⟨y, hy⟩ : ∃ y, y = l.getD (i - 1) (0, 0) := ⟨_, rfl⟩
  rw [← hx] at he1 ok1
  rw [← hy] at he2 ok2
  refine jQ (jN (jv2 0 3 ?_))
  refine jS (jB (jS ?_))
  refine VC.still jK jK ?_
  refine qM ?_
  refine qM ?_
  refine qE (Run.indexS _ rfl rfl zl zu jo) ?_
  refine qE (Run.fieldAddr rfl zbj rfl zy jd) ?_
  refine qE (Run.load rfl zai (he1 0 _ rfl)) ?_
  refine qM ?_
  refine qM ?_
  refine qE (Run.bin rfl rfl (Bin.sub_i64 _ 1 jo jo)) ?_
  refine qE (Run.indexS _ rfl rfl zl zu jo) ?_
  refine qE (Run.fieldAddr rfl zbj rfl zy jd) ?_
  refine qE (Run.load rfl zai (he2 0 _ rfl)) ?_
  refine qE (Run.bin rfl rfl (Bin.leqN _ _)) ?_
  refine bJ.nil ?_
  refine jN (jv3 0 3 21 ?_)
  refine jD rfl (fun hc2 => ?_) fun hc2 => ?_
  ·
   rw [show decide (MayT l) = false from decide_eq_false (fun h => by have := h.1 (i - 1) jo; rw [show i - 1 + 1 = i by omega, ← hx, ← hy] at this; omega)]
   refine jS (jR (ja rfl (jO (jN (jv1 2 ?_)))))
   refine jT ?_
   refine qR (qQ (qQ (qR (qQ (qS rfl ?_)))))
   exact ⟨rfl, (hd.trans (qP.drew _)).frm⟩
  refine jQ ?_
  refine qH (jN ?_)
  refine jv2 0 3 ?_
  refine jR (jm rfl (jb rfl rfl (Bin.add_i64 _ 1 jo) (ja rfl (jO ?_))))
  refine jN ⟨i + 1, (js2 rfl rfl), ?_, ?_⟩
  ·
   refine ⟨jo, jo, fun j hj hjn => ?_, hd.trans (qP.drew _)⟩
   by_cases hji : j + 1 = i
   ·
    subst hji
    rw [← hx, show j = j + 1 - 1 by omega, ← hy]
    omega
   exact hlt j jo hjn
  exact jq
 refine jX ?_
 refine qZ (qZ (qN ?_))
 refine jN (jv1 0 ?_)
 refine jS (jR (jm rfl (jL rfl zl (jb rfl rfl (Bin.leqN _ 600) (ja rfl (jO (jN (jv1 2 ?_))))))))
 refine jT ?_
 refine qS rfl ?_
 rw [show decide (n ≤ 600) = decide (MayT l) from decide_eq_decide.2 ⟨fun h => ⟨fun j hj => hlt j jo jo, jo⟩, fun h => by have := h.2; omega⟩]
 exact ⟨rfl, hd.frm⟩
abbrev Pg := Option Addr × Nat × List Nat
def PgS (b : Nat) (w : World) (X : List Nat) (ps : List Pg) : Prop := ∀ x ∈ ps, Rd w 1 x.1 x.2.2.length (NB x.2.2) ∧ ∀ y ∈ ob x.1, (y < w.heap.size ∧ y ∉ X) ∧ b ≤ y
theorem PgS.nil (b : Nat) (w : World) (X : List Nat) : PgS b w X [] := fun x hx => by cases hx
theorem PgS.frm {b : Nat} {w w' : World} {X : List Nat} {ps : List Pg} (h : PgS b w X ps) (k : Frm [] w w') : PgS b w' X ps := fun x hx => ⟨(h x hx).1.frm k jp, fun y hy => ⟨⟨zas ((h x hx).2 y hy).1.1 k.size, ((h x hx).2 y hy).1.2⟩, ((h x hx).2 y hy).2⟩⟩
theorem PgS.fk {b : Nat} {w w' : World} {X X' : List Nat} {ps : List Pg} (h : PgS b w X ps) (k : Fk X w w' X') : PgS b w' X' ps := fun x hx => ⟨(h x hx).1.frm k.1 (fun _ y hy => ((h x hx).2 y hy).1.2), fun y hy => ⟨⟨zas ((h x hx).2 y hy).1.1 k.1.size, k.out ((h x hx).2 y hy).1.1 ((h x hx).2 y hy).1.2⟩, ((h x hx).2 y hy).2⟩⟩
theorem PgS.less {b : Nat} {w : World} {X X' : List Nat} {ps : List Pg} (h : PgS b w X ps) (hX : ∀ x ∈ X', x ∈ X) : PgS b w X' ps := fun x hx => ⟨(h x hx).1, fun y hy => ⟨⟨((h x hx).2 y hy).1.1, fun k => ((h x hx).2 y hy).1.2 (hX y k)⟩, ((h x hx).2 y hy).2⟩⟩
theorem PgS.snoc {b : Nat} {w : World} {X : List Nat} {ps : List Pg} {x : Pg} (h : PgS b w X ps) (hr : Rd w 1 x.1 x.2.2.length (NB x.2.2)) (hx : ∀ y ∈ ob x.1, y < w.heap.size ∧ y ∉ X) (hb : ∀ y ∈ ob x.1, b ≤ y) : PgS b w X (ps ++ [x]) := fun y hy => by
 rcases zcp.1 hy with hy | hy
 · exact h y hy
 rw [za] at hy; subst hy; exact ⟨hr, fun z hz => ⟨hx z hz, hb z hz⟩⟩
theorem Fk.left {X Y Y' : List Nat} {w w' : World} (k : Fk Y w w' Y') : Fk (X ++ Y) w w' (X ++ Y') := ⟨k.1.mono (fun x hx => .inl (by simp [hx])), fun x hx => by
 rcases zcp.1 hx with h | h
 · exact .inl (by simp [h])
 rcases k.2 x h with h2 | h2
 · exact .inl (by simp [h2])
 exact .inr h2⟩
theorem Fk.right {X Y Y' : List Nat} {w w' : World} (k : Fk Y w w' Y') : Fk (Y ++ X) w w' (Y' ++ X) := ⟨k.1.mono (fun x hx => .inl (by simp [hx])), fun x hx => by
 rcases zcp.1 hx with h | h
 ·
  rcases k.2 x h with h2 | h2
  · exact .inl (by simp [h2])
  exact .inr h2
 exact .inl (by simp [h])⟩
theorem Fk.of_app {B B' : Option Addr} {w w' : World} (k : Frm (ob B) w w') (hob : ob B' = ob B ∨ ob B' = [w.heap.size]) : Fk (ob B) w w' (ob B') := ⟨k, fun x hx => by
 rcases hob with h | h
 · rw [h] at hx; exact .inl hx
 rw [h, za] at hx; exact .inr (zhf hx.symm)⟩
theorem Fk.up {X X' : List Nat} {b : Nat} {w w' : World} (k : Fk X w w' X') (h : ∀ x ∈ X, b ≤ x) (hb : b ≤ w.heap.size) : ∀ x ∈ X', b ≤ x := fun x hx => by
 rcases k.2 x hx with h1 | h1
 · exact h x h1
 omega
def kdC (x : Kd) : List Value := [jI2 x.1, jI1 x.2]
theorem vZ (x : Kd) : (kdC x).length = 2 := rfl
theorem vJ (x : Kd) : ∀ u ∈ kdC x, u.oneCell' = true := by
 intro u hu
 simp only [kdC, zaq, zaz, or_false] at hu
 rcases hu with rfl | rfl <;> rfl
def KC (l : List Kd) : List Value := l.flatMap kdC
theorem yL (l : List Kd) (x : Kd) : KC (l ++ [x]) = KC l ++ kdC x := by simp [KC]
theorem uW (l : List Pr) (k : Nat) : eA l (k + 1) = eA l k ++ [pC (bD l k)] := by unfold eA; rw [zda, zv]; rfl
theorem qJg (l : List Pr) (k : Nat) : fG l (k + 1) = fG l k ++ [(dJ (bD l k), k)] := by unfold fG; rw [zda, zv]; rfl
theorem vK (l : List Pr) (k : Nat) : (PC2 l).take (k * 2) = PC2 (l.take k) ∧ (PC2 l).drop (k * 2) = PC2 (l.drop k) := sR prC 2 gG l k
theorem qKa (l : List Pr) (i : Nat) : (bD l i).length = Nat.min (l.length - 7 * i) 7 := by unfold bD; rw [zk, zq, Nat.min_comm]
theorem oE {α : Type} (x : List α) (k : Nat) : x.take (x.take k).length = x.take k := by
 rw [zk]
 rcases Nat.le_total k x.length with h | h
 · rw [zbh h]
 rw [zej h, zh (zag _), zh h]
theorem qX6 (L : Option Addr) (n c : Nat) (l : List Pr) (w : World) (hn : l.length = n) (hnb : n ≤ 600) (hnc : n ≤ c) (hl : Rd w 2 L n (PC2 l)) (hok : OkP l) :
  Calls Tryz.prog 139 #[.slice L n c] w fun e w' => ∃ B d K ck ps, e = .returned (.tuple #[.slice B (bI n 7) d, .slice K (bI n 7) ck]) ∧ Own w' 63 1 B (bI n 7) d (ps.map SL) ∧ ps.map (·.2.2) = eA l (bI n 7) ∧ PgS w.heap.size w' (ob B ++ ob K) ps ∧ Own w' 214 2 K (bI n 7) ck (KC (fG l (bI n 7))) ∧ Frm [] w w' ∧ ∀ x ∈ ob B ++ ob K, w.heap.size ≤ x := by
 have hab : bI n 7 ≤ 86 := by unfold bI; omega
 have hl0 := hl
 have K0 := Frm.refl [] w
 refine jV Tryz.func139 Tryz.ntmps139 Tryz.results139 ?_
 refine jS (jR (ja rfl (ja rfl (jO (jN (jv1 0 ?_))))))
 refine jS (jR (ja rfl (jO (jN (jS (jR (ja rfl (jO (jN (jS (jS (jR (jm rfl (jL rfl zl ?_))))))))))))))
 refine jc0 (jE2 Tryz.call130) (rG n 7 _ jo jo jo) ?_
 refine jx .i64 0 ?_
 refine jO (jN (jv5 0 4 5 13 14 ?_))
 refine jB ?_
 refine VC.loop (σ := Nat × Option Addr × Nat × Option Addr × Nat × Option Addr × Nat × List Pg) (fun s => [(0, .slice s.2.1 (n - 7 * s.1) s.2.2.1), (4, .slice s.2.2.2.1 s.1 s.2.2.2.2.1), (5, .slice s.2.2.2.2.2.1 s.1 s.2.2.2.2.2.2.1), (13, jI1 (bI n 7)), (14, jI1 s.1)]) (fun s wr => s.1 ≤ bI n 7 ∧ Rd wr 2 s.2.1 (n - 7 * s.1) (PC2 (l.drop (7 * s.1))) ∧ n - 7 * s.1 ≤ s.2.2.1 ∧ Own wr 63 1 s.2.2.2.1 s.1 s.2.2.2.2.1 (s.2.2.2.2.2.2.2.map SL) ∧ s.2.2.2.2.2.2.2.map (·.2.2) = eA l s.1 ∧ PgS w.heap.size wr (ob s.2.2.2.1 ++ ob s.2.2.2.2.2.1) s.2.2.2.2.2.2.2 ∧ Own wr 214 2 s.2.2.2.2.2.1 s.1 s.2.2.2.2.2.2.1 (KC (fG l s.1)) ∧ Frm [] w wr ∧ (∀ x ∈ ob s.2.2.2.1 ++ ob s.2.2.2.2.2.1, w.heap.size ≤ x) ∧ ob s.2.1 = ob L) (fun s => bI n 7 - s.1) (0, L, c, none, 0, none, 0, []) (js5 rfl rfl rfl rfl rfl) ⟨zj _, hl, hnc, Own.nil _ _ _, rfl, PgS.nil _ _ _, Own.nil _ _ _, K0, by simp [ob], rfl⟩ ?_
 rintro ⟨i, A, ca, B, d, K, ck, ps⟩ wr0 ⟨hi, hA, hca, hB, hps, hpg, hK, KK, hup, hobA⟩
 dsimp only at hi hA hca hB hps hpg hK hup hobA ⊢
 have ks := KK.size
 refine jS (jR (jb rfl rfl (Bin.lssN _ _) (jO (jN (jS ?_)))))
 refine jD rfl (fun hc1 => ?_) fun hc1 => ?_
 ·
  obtain ⟨P, hP⟩ : ∃ P, P = bD l i := ⟨_, rfl⟩
  have hPn := qKa l i
  rw [hn, ← hP] at hPn
  have hsn1 := uW l i
  have hsn2 := qJg l i
  rw [← hP] at hsn1 hsn2
  have hok2 : OkP P := fun x hx => hok x (zau (zo (by rw [hP] at hx; exact hx)))
  have h7 : P.length ≤ 7 := by rw [hPn]; exact zel _ _
  have hmin : P.length = 7 ∨ P.length = n - 7 * i := by
   rw [hPn]
   rcases Nat.le_total 7 (n - 7 * i) with h | h
   · exact .inl (zej h)
   exact .inr (zbh h)
  have hle : P.length ≤ n - 7 * i := by rw [hPn]; exact zhb _ _
  have hPc := hA.cut (l := 0) (r := P.length) (cap := ca) (zj _) hle hca
  rw [dP, zei, zbz, zcc, (vK _ _).1, show (l.drop (7 * i)).take P.length = P by rw [hP]; exact oE _ _] at hPc
  have hnx := hA.cut (l := P.length) (r := n - 7 * i) (cap := ca) hle (zag _) hca
  rw [(vK _ _).2, zh (by rw [PC2, oP prC 2 gG, zq, zq]; omega), zey] at hnx
  refine jQ (jN (jv5 0 4 5 13 14 ?_))
  refine jS (jB (jS (jR (jm rfl (jL rfl zl (je ((hPn ▸ Run.minN' (a := n - 7 * i) (b := 7) rfl rfl)) (ja rfl (jO (jN (jv6 0 4 5 6 13 14 ?_))))))))))
  refine jS (jR (jm rfl (je (Run.conv8 _ rfl zz zac) ?_)))
  rw [show P.length % 256 = P.length from zdb jo]
  refine Ops.m (qV.buildN (cells := #[.int .u8 ((1 : Nat) : Int), .int .u8 ((P.length : Nat) : Int)]) (evs.cons rfl (evs.cons rfl evs.nil)) zg zam pM rfl rfl jK) rfl ?_
  rintro _ w2 ⟨rfl, hF2⟩
  have hC2 : Own w2 5 1 (some ⟨wr0.heap.size, 0, none⟩) 2 2 (NB [1, P.length]) := Own.of_blk hF2.blk rfl jd
  refine ja rfl (jO (jN (jv7 0 4 5 6 7 13 14 ?_)))
  refine jS (jS (jR (jm rfl (jm rfl (je (Run.sliceS 0 _ rfl zl zu evB.none_ (evB.some_ rfl) jo jo) ?_)))))
  rw [dP, zcc]
  refine jL rfl zl ?_
  refine jx .i64 0 ?_
  refine jO (jN (jv10 0 4 5 6 7 13 14 24 25 26 ?_))
  refine jB ?_
  refine VC.loop (σ := Nat × Option Addr × Nat) (fun s => [(0, .slice A (n - 7 * i) ca), (4, .slice B i d), (5, .slice K i ck), (6, jI1 P.length), (7, .slice s.2.1 (2 + 16 * s.1) s.2.2), (13, jI1 (bI n 7)), (14, jI1 i), (24, .slice A P.length (ca - 0)), (25, jI1 P.length), (26, jI1 s.1)]) (fun s wr => s.1 ≤ P.length ∧ Own wr 5 1 s.2.1 (2 + 16 * s.1) s.2.2 (NB ([1, P.length] ++ (P.take s.1).flatMap fun x => qC x.1 8 ++ qC x.2 8)) ∧ Frm [] wr0 wr ∧ ∀ x ∈ ob s.2.1, wr0.heap.size ≤ x) (fun s => P.length - s.1) (0, some ⟨wr0.heap.size, 0, none⟩, 2) (js10 rfl rfl rfl rfl rfl rfl rfl rfl rfl rfl) ⟨zj _, by simpa using hC2, hF2.frm, by simp [ob]⟩ ?_
  rintro ⟨j, C, dc⟩ wx ⟨hj, hC, KX, hupC⟩
  dsimp only at hj hC hupC ⊢
  have kx := KX.size
  refine jS (jR (jb rfl rfl (Bin.lssN _ _) (jO (jN (jS ?_)))))
  refine jD rfl (fun hc2 => ?_) fun hc2 => ?_
  ·
   obtain ⟨ad, hAd, hel⟩ := gM (hPc.frm KX jp) rfl hc2
   rw [hAd]
   have hokj := hok2 _ (fN hc2)
   have hsnj := sX hc2
   generalize P.getD j (0, 0) = x at hel hokj hsnj
   obtain ⟨xk, xv⟩ := x
   dsimp only at hokj
   refine jQ (jN (jv10 0 4 5 6 7 13 14 24 25 26 ?_))
   refine jS (jB (jS (jR (je (Run.indexS _ rfl rfl zl zu jo) (je (Run.loadA rfl zea zu hel (by first | rfl | (simp; done))) ?_)))))
   refine Ops.m (qV.alloc dL) rfl ?_
   rintro _ w3 ⟨rfl, hF3⟩
   refine Ops.st (qT.storeA rfl rfl zu hF3.blk rfl (eH (xk, xv))) ?_
   rintro w4 ⟨hb9, hf4, hs4⟩
   have hb9 : Blk w4 wx.heap.size 128 #[jI2 xk, jI2 xv] := hb9
   have k4 : Frm [] wx w4 := hF3.frm.own hf4 jp
   have hC := hC.frm k4 jp
   have KX := KX.trans k4 jp
   refine jO (jN (jv11 0 4 5 6 7 9 13 14 24 25 26 ?_))
   refine jR (jm rfl (jf rfl zbj rfl zy (jl rfl zai (hb9.cell 0) (jf rfl zbj rfl zy (jl rfl zai (hb9.cell 1) ?_)))))
   refine Ops.m (qV.buildN (cells := #[jI2 xk, jI2 xv]) (evs.cons rfl (evs.cons rfl evs.nil)) zbv zy lU rfl rfl jK) rfl ?_
   rintro _ w5 ⟨rfl, hF5⟩
   have hr5 : Rd w5 1 (some ⟨w4.heap.size, 0, none⟩) 2 (ZU [xk, xv]) := Rd.of_blk (n := 2) (size := 1) hF5.blk rfl
   have hClt0 := hC.lt
   have hC := hC.frm hF5.frm jp
   have hC4 : ∀ x ∈ ob C, x < w4.heap.size := hClt0
   have KX := KX.trans hF5.frm jp
   have kx5 := KX.size
   refine jc (jE3 zgq) (fZ C (some ⟨w4.heap.size, 0, none⟩) (2 + 16 * j) dc 8 2 2 _ [xk, xv] _ jo jo jo rfl jo (by intro v hv; simp at hv; rcases hv with rfl | rfl; exact hokj.1; exact hokj.2) hC hr5 (fun _ x hx h => by simp [ob] at hx; have h1 := hC4 x h; omega)) ?_
   rintro e w6 ⟨C6, d6, rfl, ho6, k6⟩
   refine ⟨_, rfl, ?_⟩
   have hfe : (P.take (j + 1)).flatMap (fun x => qC x.1 8 ++ qC x.2 8) = (P.take j).flatMap (fun x => qC x.1 8 ++ qC x.2 8) ++ [xk, xv].flatMap (fun v => qC v 8) := by rw [hsnj, zan]; simp
   rw [zab, ← hfe, show 2 + 16 * j + 8 * 2 = 2 + 16 * (j + 1) by omega] at ho6
   have hup6 := k6.up hupC jo
   have KX := KX.own k6.1 hupC
   refine ja rfl (jO ?_)
   refine qH (jN ?_)
   refine jv10 0 4 5 6 7 13 14 24 25 26 ?_
   refine jR (jb rfl rfl (Bin.add_i64 _ 1 jo) (jm rfl (jO ?_)))
   refine jN ⟨(j + 1, C6, d6), (js10 rfl rfl rfl rfl (by rw [show 2 + 16 * (j + 1) = 2 + 16 * j + 8 * 2 by omega]; rfl) rfl rfl rfl rfl rfl), ?_, ?_⟩
   · exact ⟨hc2, ho6, KX, hup6⟩
   exact jq
  refine jX ?_
  refine qZ (qZ (qN ?_))
  refine jN (jv7 0 4 5 6 7 13 14 ?_)
  refine jS (jR ?_)
  refine jy .u64 0 ?_
  refine jO (jN (jS (jS (jR (jM ?_)))))
  have hj0 : j = P.length := jo
  subst hj0
  rw [zbw] at hC
  have hA := hA.frm KX jp
  have hPc := hPc.frm KX jp
  have hnx := hnx.frm KX jp
  have hB := hB.frm KX jp
  have hpg := hpg.frm KX
  have hK := hK.frm KX jp
  have KK := KK.trans KX jp
  have hleast : ¬ 0 < P.length → dJ P = 0 := fun h => by
   have : P = [] := zca jo
   rw [this]
   rfl
  refine jb rfl rfl (Bin.gtrN _ 0) (jO (jN (jv9 0 4 5 6 7 10 13 14 39 ?_)))
  refine VC.meet (σ := Unit) (fun s => [(0, .slice A (n - 7 * i) ca), (4, .slice B i d), (5, .slice K i ck), (6, jI1 P.length), (7, .slice C (2 + 16 * P.length) dc), (10, jI2 (dJ P)), (13, jI1 (bI n 7)), (14, jI1 i)]) (fun s wz => wx = wz) ?_ ?_
  ·
   refine jD rfl (fun hc3 => ?_) fun hc3 => ?_
   ·
    obtain ⟨ad, hAd, hel⟩ := gM hPc rfl hc3
    subst hAd
    refine jR (jm rfl (je (Run.indexS 0 rfl rfl zl zu jo) (jf rfl zbj rfl zy (jl rfl zai (hel 0 _ rfl) (ja rfl (jO ?_))))))
    refine jN ⟨(), (js8 rfl rfl rfl rfl rfl rfl rfl rfl), ?_⟩
    rfl
   refine jQ ?_
   refine jN ⟨(), (js8 rfl rfl rfl rfl rfl (by rw [hleast hc3]; rfl) rfl rfl), ?_⟩
   rfl
  rintro _ _ rfl Γ hΓ
  refine jN (VC.sub _ hΓ (jS (jR (jm rfl (jm rfl (jm rfl (jL rfl zbc (je (Run.build (evs.cons rfl (evs.cons rfl evs.nil)) mG (lV).choose_spec.1 (lV).choose_spec.2 (cells := (kdC (dJ P, i)).toArray) rfl) ?_))))))))
  refine Ops.m (qV.buildS1 rfl zcm zez mG jd jd rfl rfl) rfl ?_
  rintro _ w7 ⟨rfl, hF7⟩
  have hr7 : Rd w7 2 (some ⟨wx.heap.size, 0, none⟩) 1 (kdC (dJ P, i)) := Rd.of_blk (n := 1) (size := 2) hF7.blk rfl
  have hA := hA.frm hF7.frm jp
  have hnx := hnx.frm hF7.frm jp
  have hB := hB.frm hF7.frm jp
  have hpg := hpg.frm hF7.frm
  have hK := hK.frm hF7.frm jp
  have hC := hC.frm hF7.frm jp
  have KK := KK.trans hF7.frm jp
  have kk7 := KK.size
  have hneB := hB.ne_own hK jd
  have hneC := hC.ne_own hK jd
  have hAl := hA.lt
  have hupK : ∀ x ∈ ob K, w.heap.size ≤ x := fun x hx => hup x (by simp [hx])
  refine Ops.m (qV.app rfl rfl zcm (yB) rfl jd hK hr7 (vJ _) jo jo) rfl ?_
  rintro _ w8 ⟨K8, ck8, rfl, hK8, hf8, hob8⟩
  rw [← yL, ← hsn2] at hK8
  have hB := hB.frm hf8 hneB
  have hC := hC.frm hf8 hneC
  have hoffA : ∀ x ∈ ob A, 0 < n - 7 * i → x < w.heap.size := fun x hx h0 => hl0.lt jo x (by rw [← hobA]; exact hx)
  have hnx := hnx.frm hf8 (fun h0 x hx h => by rw [kJ] at hx; have := hoffA x hx jo; have := hupK x h; omega)
  have hpg := hpg.fk (Fk.left (X := ob B) (Fk.of_app hf8 hob8))
  have KK := KK.own hf8 hupK
  have kk8 := KK.size
  have hBlt := hB.lt
  have hKlt := hK8.lt
  have hup8 : ∀ x ∈ ob B ++ ob K8, w.heap.size ≤ x := (Fk.left (X := ob B) (Fk.of_app hf8 hob8)).up hup kk7
  refine ja rfl (jO (jN (jv7 0 4 5 6 7 13 14 ?_)))
  refine VC.held (fun V => Frm (ob B) w8 V) jK ?_
  have hS : Frm (ob B) w8 w8.drew := (Frm.refl _ _).drew
  refine jh 0 hS ?_
  refine jh 1 hS ?_
  refine jh 5 hS ?_
  refine jh 6 hS ?_
  refine jH 7 rfl hS (fun w0 hw0 => Run.sliceS _ _ rfl zl zu (evB.some_ rfl) evB.none_ jo jo) ?_
  refine qJ.cl 2 rfl jK (jE1 Tryz.call142) (nO C dc (2 + 16 * P.length) (nZ P) _ (tO P) jo (wF jo) (hC.drawn (qP.drew _)).rd) trivial rfl rfl ?_
  rintro e w9 ⟨B9, d9, rfl, ho9, hf9, hup9⟩
  have hS := hS.trans hf9 jp
  refine ⟨_, rfl, hS, ?_⟩
  have q9 : w8.heap.size ≤ w9.heap.size := hS.size
  have hl128 : (pC P).length = 128 := (qXy h7).1
  have hB := (hB.drawn (qP.drew _)).frm hf9 jp
  have hK8 := (hK8.drawn (qP.drew _)).frm hf9 jp
  have hpg := (hpg.frm (qP.drew _).frm).frm hf9
  have hnx := (hnx.drawn (qP.drew _)).frm hf9 jp
  have KK := (KK.drawn (qP.drew _)).trans hf9 jp
  refine qJ.m 3 rfl jK (qV.buildS1 rfl zbc zah tP jd jd rfl rfl) trivial rfl rfl ?_
  rintro _ w10 ⟨rfl, hF10⟩
  have hS := hS.trans hF10.frm jp
  refine ⟨hS, ?_⟩
  obtain ⟨pg, hpgd⟩ : ∃ pg : Pg, pg = (B9, d9, pC P) := ⟨_, rfl⟩
  have hr10 : Rd w10 1 (some ⟨w9.heap.size, 0, none⟩) 1 [SL pg] := by
   have := Rd.of_blk (n := 1) (size := 1) hF10.blk rfl
   rw [hpgd, SL, hl128]
   exact this
  have hpr : Rd w10 1 pg.1 pg.2.2.length (NB pg.2.2) := by rw [hpgd]; dsimp only; rw [hl128]; exact (ho9.rd.frm hF10.frm jp)
  have hB := hB.frm hF10.frm jp
  have hK8 := hK8.frm hF10.frm jp
  have hpg := hpg.frm hF10.frm
  have hnx := hnx.frm hF10.frm jp
  have KK := KK.trans hF10.frm jp
  have kk10 := KK.size
  have q10 := hF10.size
  have hpnew : ∀ y ∈ ob pg.1, y < w10.heap.size ∧ y ∉ ob B ++ ob K8 := fun y hy => by
   rw [hpgd] at hy
   have h1 := hup9 y hy
   have h2 := ho9.lt y hy
   refine ⟨jo, fun h => ?_⟩
   rcases zcp.1 h with h | h
   · have := hBlt y h; rw [show w8.drew.heap.size = w8.heap.size from rfl] at h1; omega
   have := hKlt y h; rw [show w8.drew.heap.size = w8.heap.size from rfl] at h1; omega
  have hpg := hpg.snoc hpr hpnew (fun y hy => by rw [hpgd] at hy; have := hup9 y hy; rw [show w8.drew.heap.size = w8.heap.size from rfl] at this; omega)
  have hneB2 := hK8.ne_own hB jd
  have hupB : ∀ x ∈ ob B, w.heap.size ≤ x := fun x hx => hup x (by simp [hx])
  refine qJ.m 4 rfl jK (qV.app rfl rfl zbc (qXd) rfl jd hB hr10 (by simp; rfl) jo jo) trivial rfl rfl ?_
  rintro _ w11 ⟨B11, d11, rfl, hB11, hf11, hob11⟩
  have hS := hS.trans hf11 (fun x hx => .inl hx)
  refine ⟨hS, ?_⟩
  have e11 : ps.map SL ++ [SL pg] = (ps ++ [pg]).map SL := jp
  rw [e11] at hB11
  have hK11 := hK8.frm hf11 hneB2
  have hnx := hnx.frm hf11 (fun h0 x hx h => by rw [kJ] at hx; have := hoffA x hx jo; have := hupB x h; omega)
  have hpg := hpg.fk (Fk.right (X := ob K8) (Fk.of_app hf11 hob11))
  have hup11 := (Fk.right (X := ob K8) (Fk.of_app hf11 hob11)).up hup8 kk10
  have KK := KK.own hf11 hupB
  refine jH 8 rfl hS (fun w0 hw0 => Run.asg rfl) ?_
  refine jH 9 rfl hS (fun w0 hw0 => Run.asg rfl) ?_
  refine qJ.done jK ?_
  refine qH (jN ?_)
  refine jv5 0 4 5 13 14 ?_
  refine jR (jb rfl rfl (Bin.add_i64 _ 1 jo) (jm rfl (jO ?_)))
  refine jN ⟨(i + 1, dS A ca P.length 2, ca - P.length, B11, d11, K8, ck8, ps ++ [pg]), (js5 (by rw [show n - 7 * (i + 1) = n - 7 * i - P.length by omega]; rfl) rfl rfl rfl rfl), ?_, ?_⟩
  ·
   have hP7 : n - 7 * (i + 1) = n - 7 * i - P.length := jo
   refine ⟨hc1, ?_, by dsimp only; omega, hB11, ?_, hpg, hK11, KK, hup11, by dsimp only; rw [kJ]; exact hobA⟩
   ·
    dsimp only
    have : 7 * i + P.length = 7 * (i + 1) ∨ n - 7 * i - P.length = 0 := jo
    rw [hP7]
    rcases this with h | h
    · rw [← h]; exact hnx
    rw [h, show l.drop (7 * (i + 1)) = [] from zdh jo]; exact Rd.nil _ _ _
   dsimp only
   rw [hsn1, ← hps, zv, hpgd]
   rfl
  exact jq
 refine jX ?_
 refine qZ (qZ (qN ?_))
 refine jN (jv2 4 5 ?_)
 refine jS (jR (jm rfl (jm rfl (ja rfl (ja rfl (jO (jN (jv2 2 3 ?_))))))))
 refine jT ?_
 refine bX rfl rfl ?_
 obtain rfl : i = bI n 7 := jo
 exact ⟨B, d, K, ck, ps, rfl, hB, hps, hpg, hK, KK, hup⟩
def RdX (w : World) (X : List Nat) (sz : Nat) (A : Option Addr) (n : Nat) (xs : List Value) : Prop := Rd w sz A n xs ∧ (0 < n → ∀ y ∈ ob A, y < w.heap.size ∧ y ∉ X)
theorem RdX.frm {w w' : World} {X : List Nat} {sz n : Nat} {A : Option Addr} {xs : List Value} (h : RdX w X sz A n xs) (k : Frm [] w w') : RdX w' X sz A n xs := ⟨h.1.frm k jp, fun h0 y hy => ⟨zas (h.2 h0 y hy).1 k.size, (h.2 h0 y hy).2⟩⟩
theorem RdX.fk {w w' : World} {X X' : List Nat} {sz n : Nat} {A : Option Addr} {xs : List Value} (h : RdX w X sz A n xs) (k : Fk X w w' X') : RdX w' X' sz A n xs := ⟨h.1.frm k.1 (fun h0 y hy => (h.2 h0 y hy).2), fun h0 y hy => ⟨zas (h.2 h0 y hy).1 k.1.size, k.out (h.2 h0 y hy).1 (h.2 h0 y hy).2⟩⟩
abbrev Ck := Option Addr × Nat × List Kd
def ckA (A : Option Addr) (l : List Kd) (i : Nat) : Ck := (dS A (12 * i + ((l.drop (12 * i)).take 12).length) (12 * i) 2, ((l.drop (12 * i)).take 12).length, (l.drop (12 * i)).take 12)
def fU (A : Option Addr) (l : List Kd) : List Ck := (List.range ((l.length + 11) / 12)).map (ckA A l)
theorem wI (A : Option Addr) (l : List Kd) : (fU A l).length = (l.length + 11) / 12 := by simp [fU]
theorem qWm (A : Option Addr) (l : List Kd) : (fU A l).map (·.2.2) = eV l := by simp [fU, eV, ckA]
theorem qQg (A : Option Addr) (l : List Kd) {k : Nat} (h : k < (l.length + 11) / 12) : (fU A l).take (k + 1) = (fU A l).take k ++ [ckA A l k] := by
 unfold fU
 rw [zcq]
 congr 1
 rw [zbr, zgg h]
 rfl
theorem qWn (l : List Kd) (k : Nat) : (KC l).take (k * 2) = KC (l.take k) ∧ (KC l).drop (k * 2) = KC (l.drop k) := sR kdC 2 vZ l k
theorem qMy {w : World} {A : Option Addr} {l : List Kd} {i : Nat} (hr : Rd w 2 A l.length (KC l)) (h : 12 * i < l.length) : Rd w 2 (ckA A l i).1 (ckA A l i).2.2.length (KC (ckA A l i).2.2) := by
 have hm : ((l.drop (12 * i)).take 12).length ≤ l.length - 12 * i := by rw [zk, zq]; omega
 have hp : 0 < ((l.drop (12 * i)).take 12).length := by rw [zk, zq]; omega
 have h1 := hr.cut (l := 12 * i) (r := 12 * i + ((l.drop (12 * i)).take 12).length) (cap := l.length + 1) jo jo jo
 rw [(qWn _ _).2, show 12 * i + ((l.drop (12 * i)).take 12).length - 12 * i = ((l.drop (12 * i)).take 12).length by omega, (qWn _ _).1, oE] at h1
 have e : dS A (l.length + 1) (12 * i) 2 = dS A (12 * i + ((l.drop (12 * i)).take 12).length) (12 * i) 2 := by
  unfold dS
  rw [if_neg jo, if_neg jo]
 rw [e] at h1
 exact h1
theorem qJh (A : Option Addr) (c : Nat) (l : List Kd) (g1 g2 : Nat) (hs : l.length ≤ 1000000) (hc : l.length ≤ c) :
  qXi Tryz.prog 157 #[jI0 g1, jI0 g2] (fun x : Ck => #[.slice x.1 x.2.2.length x.2.1]) [] [g1, g2] (fun w => Blk w g1 207 #[.slice A l.length c] ∧ Blk w g2 3 #[jI1 12]) (fU A l) := by
 rintro l0 J Jx w hJ hJx ⟨hb1, hb2⟩ hY h0
 refine jV Tryz.func157 Tryz.ntmps157 Tryz.results157 ?_
 refine jS (jR (jz 0 (jO (jN (jB ?_)))))
 refine VC.loop (σ := Nat) (fun s => [(0, .func (.yield l0) #[] #[]), (1, jI0 g1), (2, jI0 g2), (4, jI1 (12 * s))]) (fun s wr => s ≤ (l.length + 11) / 12 ∧ Blk wr g1 207 #[.slice A l.length c] ∧ Blk wr g2 3 #[jI1 12] ∧ J ((fU A l).take s) wr) (fun s => (l.length + 11) / 12 - s) 0 (js4 rfl rfl rfl rfl) ⟨jo, hb1, hb2, h0⟩ ?_
 rintro k wr ⟨hk, hb1, hb2, hj⟩
 refine jS (jS (jR (jm rfl (jl rfl zha (hb1.cell 0) (jL rfl zcm (jb rfl rfl (Bin.lssN _ _) (jO (jN (jv5 0 1 2 4 9 ?_)))))))))
 refine jD rfl (fun hc1 => ?_) fun hc1 => ?_
 ·
  have hkl : k < (l.length + 11) / 12 := jo
  have hpre : ((fU A l).take k ++ [ckA A l k]) <+: fU A l := by rw [← qQg A l hkl]; exact List.take_prefix _ _
  have hcl2 : ((l.drop (12 * k)).take 12).length = min 12 (l.length - 12 * k) := by rw [zk, zq]
  have hd := qP.drew wr
  refine jQ (jN (jv4 0 1 2 4 ?_))
  refine jS (jB (jS ?_))
  refine VC.held (fun v => Blk v g1 207 #[.slice A l.length c] ∧ Blk v g2 3 #[jI1 12]) jK ?_
  have hS : (fun v => Blk v g1 207 #[.slice A l.length c] ∧ Blk v g2 3 #[jI1 12]) wr.drew := ⟨hb1.drawn hd, hb2.drawn hd⟩
  have hj := hJ _ _ _ hj hd.frm
  have hb1 := hb1.drawn hd
  have hb2 := hb2.drawn hd
  generalize wr.drew = wr at *
  refine jH 0 rfl hS (fun w0 hw0 => Run.load rfl zaa (hw0.2.cell 0)) ?_
  refine jH 1 rfl hS (fun w0 hw0 => Run.load rfl zha (hw0.1.cell 0)) ?_
  refine jh 2 hS ?_
  refine jH 3 rfl hS (fun w0 hw0 => Run.sliceS _ _ rfl zcm zez (evB.some_ rfl) evB.none_ jo jo) ?_
  refine jH 4 rfl hS (fun w0 hw0 => Run.lenS rfl zcm) ?_
  refine jH 5 rfl hS (fun w0 hw0 => Run.minI rfl rfl) ?_
  have em : (if ((l.length - 12 * k : Nat) : Int) < ((12 : Nat) : Int) then ((l.length - 12 * k : Nat) : Int) else ((12 : Nat) : Int)) = ((((l.drop (12 * k)).take 12).length : Nat) : Int) := by rw [hcl2]; split <;> omega
  rw [em]
  refine jH 6 rfl hS (fun w0 hw0 => Run.asg rfl) ?_
  refine qJ.done jK ?_
  refine jN (jv5 0 1 2 4 5 ?_)
  refine jS (jR (jm rfl (jl rfl zha (hb1.cell 0) (jm rfl (jm rfl (jm rfl (jb rfl rfl (Bin.addZ _ _ jo jo) (jm rfl (jm rfl (jb rfl rfl (Bin.addZ _ _ jo jo) (je (Run.slice3 _ _ _ rfl zcm zez rfl rfl rfl jo jo jo) ?_)))))))))))
  rw [show 12 * k + ((l.drop (12 * k)).take 12).length - 12 * k = ((l.drop (12 * k)).take 12).length by omega]
  refine Ops.yield rfl rfl (evs.cons rfl evs.nil) ((by simpa using hY ((fU A l).take k) (ckA A l k) wr hj hpre : mP Tryz.prog l0 #[.slice (ckA A l k).1 (ckA A l k).2.2.length (ckA A l k).2.1] wr _)) rfl rfl ?_
  rintro e w1 ⟨hoff, hR0⟩
  obtain ⟨yb, rfl, hR⟩ : ∃ yb : Bool, e = .returned (.bool yb) ∧ ((yb = true ∧ J ((fU A l).take k ++ [ckA A l k]) w1) ∨ (yb = false ∧ Jx ((fU A l).take k ++ [ckA A l k]) w1)) := by
   rcases hR0 with ⟨rfl, h⟩ | ⟨rfl, h⟩
   · exact ⟨true, rfl, .inl ⟨rfl, h⟩⟩
   exact ⟨false, rfl, .inr ⟨rfl, h⟩⟩
  refine ⟨_, rfl, ?_⟩
  have hb1 := hoff.blk hb1 jp
  have hb2 := hoff.blk hb2 jp
  refine je (Run.not rfl) (jO (jN (jv5 0 1 2 4 30 ?_)))
  refine VC.condB rfl (fun hc2 => ?_) (fun hc2 => ?_)
  ·
   refine jT ?_
   refine qR (qQ (qQ (qR (qY0 ?_))))
   exact ⟨⟨_, rfl⟩, .inr ⟨_, (hR.resolve_left (fun h => by rw [h.1] at hc2; simp at hc2)).2⟩⟩
  refine jQ ?_
  refine qH (jN ?_)
  refine jv4 0 1 2 4 ?_
  refine jR (jm rfl (jl rfl zaa (hb2.cell 0) (jb rfl rfl (Bin.add_i64 _ _ jo) (ja rfl (jO ?_)))))
  refine jN ⟨k + 1, (js4 rfl rfl rfl (by rw [show 12 * (k + 1) = 12 * k + 12 by omega]; rfl)), ?_, ?_⟩
  · exact ⟨jo, hb1, hb2, by rw [qQg A l hkl]; exact (hR.resolve_right (fun h => by rw [h.1] at hc2; simp at hc2)).2⟩
  exact jq
 refine jX ?_
 refine qZ (qZ (qN ?_))
 refine pY ?_
 have hke : (fU A l).take k = fU A l := zh (by rw [wI]; omega)
 rw [hke] at hj
 exact ⟨⟨_, rfl⟩, .inl hj⟩
theorem qJi (A : Option Addr) (n c : Nat) (w : World) : Calls Tryz.prog 140 #[.slice A n c, jI1 12] w fun e w' => Frm [] w w' ∧ ∃ g1 g2, e = .returned (.func (.func 157) #[] #[jI0 g1, jI0 g2]) ∧ Blk w' g1 207 #[.slice A n c] ∧ Blk w' g2 3 #[jI1 12] ∧ w.heap.size ≤ g1 ∧ w.heap.size ≤ g2 := by
 refine jV Tryz.func140 Tryz.ntmps140 Tryz.results140 ?_
 refine jS (jR ?_)
 refine Ops.m (qV.box rfl) rfl ?_
 rintro _ w1 ⟨rfl, hF1⟩
 have hb1 := hF1.blk
 refine Ops.m (qV.box rfl) rfl ?_
 rintro _ w2 ⟨rfl, hF2⟩
 have hb1 := hb1.frm hF2.frm jp
 have hb2 := hF2.blk
 refine ja rfl (jO (jN (jv2 2 3 ?_)))
 refine jS (jS (jR (jl rfl zaa (hb2.cell 0) (jb rfl rfl (Bin.lssN _ 1) (jO (jN (jv3 2 3 6 ?_)))))))
 refine VC.condF rfl jd ?_
 refine jQ (jN (jv2 2 3 ?_))
 refine jS (jR (je (Run.mkFunc evs.nil (evs.cons rfl (evs.cons rfl evs.nil))) (ja rfl (jO (jN (jv1 4 ?_))))))
 refine jT ?_
 refine qS rfl ?_
 exact ⟨hF1.frm.trans hF2.frm jp, _, _, rfl, hb1, hb2, zag _, hF1.frm.size⟩
theorem qVe (n : Nat) (cs : List (List Kd)) (c : List Kd) : nextM n (cs ++ [c]) = nextM n cs ++ [((c.getD 0 (0, 0)).1, n + cs.length)] := by
 unfold nextM
 rw [List.mapIdx_append]
 simp [List.mapIdx_cons]
theorem qMz {l : List Kd} {i : Nat} (h : i < l.length) : l.getD i (0, 0) ∈ l := fN h
def OkK (m : Nat) (l : List Kd) : Prop := ∀ x ∈ l, x.1 < 18446744073709551616 ∧ x.2 < m
theorem qGl {m0 m : Nat} {cs : List (List Kd)} (h : ∀ c ∈ cs, OkK m0 c) (hm : m + cs.length ≤ 65536) : OkK 65536 (nextM m cs) := fun x hx => by
 unfold nextM at hx
 obtain ⟨i, hi, rfl⟩ := List.mem_iff_getElem.1 hx
 rw [List.length_mapIdx] at hi
 rw [List.getElem_mapIdx]
 refine ⟨?_, by dsimp only; omega⟩
 dsimp only
 cases hc : cs[i] with
 | nil => exact (by decide : (0 : Nat) < 18446744073709551616)
 | cons y r => exact (h _ (zbp hi) y (by rw [hc]; exact zcl)).1
theorem qWo {m : Nat} {l : List Kd} (h : OkK m l) : ∀ c ∈ eV l, OkK m c := fun c hc x hx => by
 obtain ⟨i, _, rfl⟩ := List.mem_map.1 hc
 exact h x (zau (zo hx))
theorem Rd.nc {w W : World} {S : List Nat} {sz n : Nat} {A : Option Addr} {xs : List Value} (h : Rd W sz A n xs) (hsz : 0 < sz) (hS : NC w W [] S) (hn : 0 < n) : ∀ x ∈ ob A, x ∉ S := by
 obtain ⟨ad, rfl, hlt, hc⟩ := h.2 hn
 have hl : 0 < xs.length := by rw [h.1]; exact Nat.mul_pos hn hsz
 have h0 := hc 0 _ (ze hl)
 rw [pW] at h0
 intro x hx hxS
 simp only [ob, za] at hx
 subst hx
 rcases hS _ hxS with h1 | ⟨_, h1⟩
 · cases h1
 cases ho : W.heap[ad.block]? with
 | none => rw [Array.getElem?_eq_none_iff] at ho; omega
 | some o =>
  have h2 := h1 o ho
  cases o with
  | cells cs t m => cases h2
  | _ => simp [World.cell?, ho] at h0
theorem PgS.nc {b : Nat} {w W W' : World} {S X : List Nat} {ps : List Pg} (h : PgS b W X ps) (hf : Frm S W W') (hS : NC w W [] S) : PgS b W' X ps := fun x hx => ⟨(h x hx).1.frm hf (fun h0 => (h x hx).1.nc jo hS h0), fun y hy => ⟨⟨zas ((h x hx).2 y hy).1.1 hf.size, ((h x hx).2 y hy).1.2⟩, ((h x hx).2 y hy).2⟩⟩
theorem RdX.nc {w W W' : World} {S X : List Nat} {sz n : Nat} {A : Option Addr} {xs : List Value} (h : RdX W X sz A n xs) (hsz : 0 < sz) (hf : Frm S W W') (hS : NC w W [] S) : RdX W' X sz A n xs := ⟨h.1.frm hf (fun h0 => h.1.nc hsz hS h0), fun h0 y hy => ⟨zas (h.2 h0 y hy).1 hf.size, (h.2 h0 y hy).2⟩⟩
theorem PgS.add {b : Nat} {w : World} {X : List Nat} {ps : List Pg} {g : Nat} (h : PgS b w X ps) (hg : w.heap.size ≤ g) : PgS b w (X ++ [g]) ps := fun x hx => ⟨(h x hx).1, fun y hy => ⟨⟨((h x hx).2 y hy).1.1, fun k => by
 rcases zcp.1 k with k | k
 · exact ((h x hx).2 y hy).1.2 k
 rw [za] at k
 have := ((h x hx).2 y hy).1.1
 omega⟩, ((h x hx).2 y hy).2⟩⟩
theorem PgS.low {b b' : Nat} {w : World} {X : List Nat} {ps : List Pg} (h : PgS b w X ps) (hb : b' ≤ b) : PgS b' w X ps := fun x hx => ⟨(h x hx).1, fun y hy => ⟨((h x hx).2 y hy).1, zbd hb ((h x hx).2 y hy).2⟩⟩
theorem Fk.self {X S : List Nat} {w w' : World} (k : Frm S w w') (h : ∀ x ∈ S, x ∈ X) : Fk X w w' X := ⟨k.mono (fun x hx => .inl (h x hx)), fun x hx => .inl hx⟩
theorem qM0 {A : Option Addr} {l : List Kd} {pre : List Ck} {x : Ck} (h : (pre ++ [x]) <+: fU A l) : pre.length < (l.length + 11) / 12 ∧ x = ckA A l pre.length := by
 have h1 := h.length_le
 rw [wI, zf, zck] at h1
 refine ⟨jo, ?_⟩
 obtain ⟨r, hr⟩ := h
 have h2 : (fU A l)[pre.length]? = some x := by rw [← hr]; simp
 unfold fU at h2
 rw [zbr, zgg jo] at h2
 exact (Option.some.inj h2).symm
theorem vE (L : Option Addr) (n c : Nat) (l : List Pr) (w : World) (hn : l.length = n) (hnb : n ≤ 1000000) (hnc : n ≤ c) (hl : Rd w 2 L n (PC2 l)) (hok : OkP l) :
  Calls Tryz.prog 107 #[.slice L n c] w fun e w' => Frm [] w w' ∧ if MayT l then ∃ B d ps, e = .returned (.tuple #[.slice B (bQ l).length d, .int .i64 0]) ∧ Own w' 63 1 B (bQ l).length d (ps.map SL) ∧ ps.map (·.2.2) = bQ l ∧ PgS w.heap.size w' (ob B) ps ∧ (∀ x ∈ ob B, w.heap.size ≤ x) else e = .returned (.tuple #[.slice none 0 0, .int .i64 1]) := by
 refine DV.calls (nt := 63) (res := #[.tmp 2, .tmp 3]) Tryz.func107 rfl Tryz.ntmps107 Tryz.results107 rfl ?_
 refine DV.seq ?_
 refine DV.vc ?_
 refine jR (ja rfl (jz 0 (jO ?_)))
 refine bL ?_
 refine DV.seq ?_
 refine DV.seq ?_
 refine DV.vc ?_
 refine jR (jM ?_)
 refine jc (jE1 Tryz.call138) (qWl L n c l _ hn hnb hl hok) ?_
 rintro e w1 ⟨rfl, K1⟩
 refine ⟨_, rfl, ?_⟩
 refine je (Run.not rfl) (jO ?_)
 refine bL ?_
 refine DV.sub [(0, _), (2, _), (3, _), (13, _)] (js4 rfl rfl rfl rfl) ?_
 refine DV.vc ?_
 refine VC.condB rfl (fun hc1 => ?_) (fun hc1 => ?_)
 ·
  have hm : ¬ MayT l := by simpa using hc1
  refine jS (jR (ja rfl (jz 1 (jO (jN (jv2 2 3 ?_))))))
  refine jT ?_
  refine rD (lC jp jp (fun wz hsh => ?_))
  refine bX rfl rfl ?_
  rw [if_neg hm]
  exact ⟨K1.own hsh jp, rfl⟩
 have hm : MayT l := by simpa using hc1
 have h600 : n ≤ 600 := by have := hm.2; omega
 have hab : bI n 7 ≤ 86 := by unfold bI; omega
 refine jQ ?_
 refine bL ?_
 refine DV.sub [(0, _), (2, _), (3, _)] (js3 rfl rfl rfl) ?_
 refine DV.seq ?_
 refine DV.vc ?_
 refine jR (jM ?_)
 refine jc (jE1 Tryz.call139) (qX6 L n c l _ hn h600 hnc (hl.frm K1 jp) hok) ?_
 rintro e w2 ⟨B, d, K, ck, ps, rfl, hB, hps, hpg, hK, hf2, hup⟩
 refine ⟨_, rfl, ?_⟩
 have q1 := K1.size
 have q2 := hf2.size
 have KK := K1.trans hf2 jp
 refine jm rfl (jY rfl rfl (jY rfl rfl ?_))
 refine Ops.m (qV.alloc qHp) rfl ?_
 rintro _ w3 ⟨rfl, hF3⟩
 refine Ops.st (qT.store rfl rfl Tryz.sizeOf174 hF3.blk rfl rfl) ?_
 rintro w4 ⟨hb4, hf4, hs4⟩
 have k4 : Frm [] w2 w4 := hF3.frm.own hf4 jp
 have q3 := hF3.size
 have hB := hB.frm k4 jp
 have hK := hK.frm k4 jp
 have hpg := ((hpg.low (b' := w.heap.size) q1).add (zag _)).frm k4
 have KK := KK.trans k4 jp
 generalize hg4 : w2.heap.size = g4 at *
 have hupX : ∀ x ∈ ob B ++ ob K, w.heap.size ≤ x ∧ x ≠ g4 := fun x hx => by
  have h1 := hup x hx
  refine ⟨jo, fun h => ?_⟩
  subst h
  rcases zcp.1 hx with hx | hx
  · exact hB.ne_blk hb4 jd hx
  exact hK.ne_blk hb4 jd hx
 have hpl : ps.length = bI n 7 := by
  have := congrArg List.length hps
  rwa [zae, gY] at this
 have hok0 : OkK 65536 (fG l (bI n 7)) := fun x hx => by
  unfold fG at hx
  obtain ⟨i, hi, rfl⟩ := List.mem_map.1 hx
  have hi := List.mem_range.1 hi
  refine ⟨?_, by dsimp only; omega⟩
  dsimp only
  unfold dJ
  cases hc : bD l i with
  | nil => exact (by decide : (0 : Nat) < 18446744073709551616)
  | cons y r => exact (hok y (zau (zo (show y ∈ (l.drop (7 * i)).take 7 by rw [show (l.drop (7 * i)).take 7 = bD l i from rfl, hc]; exact zcl)))).1
 have q4 : g4 < w4.heap.size := hb4.lt
 refine ja rfl (jO ?_)
 refine bL ?_
 refine DV.sub [(2, _), (3, _), (4, _), (5, _)] (js4 rfl rfl rfl rfl) ?_
 refine DV.seq ?_
 refine DV.block ?_
 refine DV.loop (σ := List Pg × Option Addr × Nat × Option Addr × Nat × List Kd × List Nat) (fun s => s.2.2.2.2.2.2) (fun s => [(2, _), (3, _), (4, jI0 g4), (5, .slice s.2.2.2.1 s.2.2.2.2.2.1.length s.2.2.2.2.1)]) (fun s wr => upM (s.1.map (·.2.2)) s.2.2.2.2.2.1 = bQ l ∧ Blk wr g4 174 #[.slice s.2.1 s.1.length s.2.2.1] ∧ Own wr 63 1 s.2.1 s.1.length s.2.2.1 (s.1.map SL) ∧ PgS w.heap.size wr (ob s.2.1 ++ ob s.2.2.2.1 ++ [g4]) s.1 ∧ Own wr 214 2 s.2.2.2.1 s.2.2.2.2.2.1.length s.2.2.2.2.1 (KC s.2.2.2.2.2.1) ∧ OkK 65536 s.2.2.2.2.2.1 ∧ s.1.length + 10 * s.2.2.2.2.2.1.length ≤ 1000 ∧ 1 ≤ s.2.2.2.2.2.1.length ∧ Frm [] w wr ∧ (∀ x ∈ ob s.2.1 ++ ob s.2.2.2.1, w.heap.size ≤ x ∧ x ≠ g4) ∧ s.2.2.2.2.2.2.Nodup ∧ ∀ d ∈ s.2.2.2.2.2.2, cG wr d ∧ w.heap.size ≤ d) (fun s => s.2.2.2.2.2.1.length) (ps, B, d, K, ck, fG l (bI n 7), []) rfl (js4 rfl rfl rfl (by rw [lI]; rfl)) ⟨by dsimp only; rw [hps, bQ, hn], by dsimp only; rw [hpl]; exact hb4, by dsimp only; rw [hpl]; exact hB, hpg, by dsimp only; rw [lI]; exact hK, hok0, by dsimp only; rw [lI]; omega, by dsimp only; rw [lI]; exact oC _ _, KK, hupX, zhn, jp⟩ ?_
 rintro ⟨ps, B, d, K, ck, lv, ds⟩ wr ⟨hup0, hb4, hB, hpg, hK, hokk, hsz, hlv1, KK, hup, hnd, hds⟩
 dsimp only at hup0 hb4 hB hpg hK hokk hsz hlv1 hup hnd hds ⊢
 have ks := KK.size
 have q4 := hb4.lt
 refine DV.seq ?_
 refine DV.seq ?_
 refine DV.vc ?_
 refine jR (jm rfl (jL rfl zcm (jb rfl rfl (Bin.gtrN _ 1) (jO ?_))))
 refine bL ?_
 refine DV.sub [(2, _), (3, _), (4, _), (5, _), (21, _)] (js5 rfl rfl rfl rfl rfl) ?_
 refine DV.vc ?_
 refine jD rfl (fun hc2 => ?_) fun hc2 => ?_
 ·
  refine jQ ?_
  refine bL ?_
  refine DV.sub [(2, _), (3, _), (4, _), (5, _)] (js4 rfl rfl rfl rfl) ?_
  refine DV.block ?_
  refine DV.seq ?_
  refine DV.vc ?_
  refine jR ?_
  refine Ops.m (qV.alloc qHq) rfl ?_
  rintro _ w5 ⟨rfl, hF5⟩
  have hb6 := hF5.blk
  have q5 := hF5.size
  have hb4 := hb4.frm hF5.frm jp
  have hB := hB.frm hF5.frm jp
  have hpg := (hpg.add (zag _)).frm hF5.frm
  have hK := hK.frm hF5.frm jp
  have KK := KK.trans hF5.frm jp
  have hds5 : ∀ d ∈ ds, cG w5 d := fun d hd => (hds d hd).1.frm hF5.frm jp
  have hBl : ∀ x ∈ ob B ++ ob K, x < w5.heap.size ∧ x ≠ wr.heap.size := fun x hx => by
   rcases zcp.1 hx with h | h
   · exact ⟨hB.lt x h, fun e => by subst e; exact hB.ne_blk hb6 jd h⟩
   exact ⟨hK.lt x h, fun e => by subst e; exact hK.ne_blk hb6 jd h⟩
  generalize hg6 : wr.heap.size = g6 at *
  refine jO ?_
  refine bL ?_
  refine DV.seq ?_
  refine DV.seq ?_
  refine DV.vc ?_
  refine jR (jM ?_)
  refine jc (jE2 Tryz.call140) (qJi K lv.length ck _) ?_
  rintro e w7 ⟨hf7, g1, g2, rfl, hb1, hb2, hg1, hg2⟩
  refine ⟨_, rfl, ?_⟩
  have hb4 := hb4.frm hf7 jp
  have hb6 := hb6.frm hf7 jp
  have hB := hB.frm hf7 jp
  have hpg := hpg.frm hf7
  have hK := hK.frm hf7 jp
  have KK := KK.trans hf7 jp
  have hds7 : ∀ d ∈ ds, cG w7 d := fun d hd => (hds5 d hd).frm hf7 jp
  have hdsl : ∀ d ∈ ds, d < w7.heap.size := fun d hd => (Array.getElem?_eq_some_iff.1 (hds7 d hd)).1
  have q7 := hf7.size
  have l1 := hb1.lt
  have l2 := hb2.lt
  have l6 := hb6.lt
  have hck := hK.le
  have hKl := hK.lt
  have h46 : g4 ≠ g6 := jo
  have hBl7 : ∀ x ∈ ob B ++ ob K, w.heap.size ≤ x ∧ x ∉ [g1, g2, g4, g6] := fun x hx => by
   have h1 := hup x hx
   have h2 := hBl x hx
   refine ⟨h1.1, fun h => ?_⟩
   simp only [zaq, zaz, or_false] at h
   omega
  have hlvX : RdX w7 (ob B ++ [g4, g6]) 2 K lv.length (KC lv) := ⟨hK.rd, fun _ y hy => ⟨hKl y hy, fun h => by
   rcases zcp.1 h with h | h
   · exact hK.ne_own hB jd y hy h
   exact (hBl7 y (zfu _ hy)).2 (by simp only [zaq, zaz, or_false] at h ⊢; omega)⟩⟩
  refine jO ?_
  refine bL ?_
  refine DV.sub [(2, _), (3, _), (4, _), (5, _), (6, _), (23, _)] (js6 rfl rfl rfl rfl rfl rfl) ?_
  refine DV.block ?_
  refine DV.range (ps := [24]) (fun x : Ck => [.slice x.1 x.2.2.length x.2.1]) (qJh K ck lv g1 g2 jo hck) rfl Tryz.call157 (fun _ => rfl) rfl (fun pre W => ∃ Bn dn pn Kn cn, Blk W g4 174 #[.slice Bn (ps.length + (pre).length) dn] ∧ Own W 63 1 Bn (ps.length + (pre).length) dn (pn.map SL) ∧ pn.map (·.2.2) = ps.map (·.2.2) ++ ((pre).map (·.2.2)).map gO ∧ PgS w.heap.size W (ob Bn ++ ob Kn ++ [g4, g6]) pn ∧ Blk W g6 207 #[.slice Kn (pre).length cn] ∧ Own W 214 2 Kn (pre).length cn (KC (nextM ps.length ((pre).map (·.2.2)))) ∧ RdX W (ob Bn ++ ob Kn ++ [g4, g6]) 2 K lv.length (KC lv) ∧ Frm [] w W ∧ (∀ x ∈ ob Bn ++ ob Kn, w.heap.size ≤ x ∧ x ∉ [g1, g2, g4, g6]) ∧ ∀ d ∈ ds, cG W d) (fun _ _ _ => False) (fun x => [(4, jI0 g4), (6, jI0 g6), (7, .slice x.1 x.2.2.length x.2.1)]) ?_ ?_ ?_ ?_ ?_ ?_ ?_ ?_ ?_ ?_ ?_
  ·
   rintro pre W W' S ⟨Bn, dn, pn, Kn, cn, h4, hB, e, hp, h6, hK, hl, K0, hu, hm⟩ hf hS
   exact ⟨Bn, dn, pn, Kn, cn, h4.frm hf (h4.nc hS jp), hB.frm hf (hB.nc hS jp), e, hp.nc hf hS, h6.frm hf (h6.nc hS jp), hK.frm hf (hK.nc hS jp), hl.nc jo hf hS, K0.nc hf hS jp jo, hu, fun d hd => (hm d hd).frm hf (fun h => by rcases hS d h with h2 | ⟨h2, _⟩; cases h2; have := hdsl d hd; omega)⟩
  · exact fun _ _ _ _ _ h => h.elim
  · exact fun W hf => ⟨hb1.frm hf jp, hb2.frm hf jp⟩
  · simp
  ·
   intro b hb
   simp only [zaq, zaz, or_false] at hb
   rcases hb with rfl | rfl
   · exact l1
   exact l2
  ·
   have e0 : ob B ++ ob (none : Option Addr) = ob B := zav _
   refine ⟨B, d, ps, none, 0, hb4, hB, jp, ?_, hb6, Own.nil _ _ _, ?_, KK, ?_, hds7⟩
   · rw [e0]; exact hpg.less (fun x hx => by grind)
   · rw [e0]; exact hlvX
   rw [e0]; exact fun x hx => hBl7 x (zeo _ hx)
  ·
   intro l x W
   refine jv3 4 6 24 ?_
   refine jR (ja rfl (jO ?_))
   refine jN ⟨rfl, (js3 rfl rfl rfl)⟩
  ·
   rintro l0 pre x W ⟨Bn, dn, pn, Kn, cn, hb4, hB, hpn, hpg, hb6, hK, hlX, KK, hu, hdm⟩ hpre hsz2 hmk
   obtain ⟨hpl, hxe⟩ := qM0 hpre
   have hxr := qMy hlX.1 (jo : 12 * pre.length < lv.length)
   have hxo : OkK 65536 x.2.2 := by rw [hxe]; exact fun y hy => hokk y (zau (zo hy))
   have hx12 : x.2.2.length ≤ 12 ∧ 1 ≤ x.2.2.length := by rw [hxe]; unfold ckA; dsimp only; rw [zk, zq]; omega
   have hxob : ob x.1 = ob K := by rw [hxe]; exact kJ _ _ _ _
   rw [← hxe] at hxr
   have hnxs := qVe ps.length (pre.map (·.2.2)) x.2.2
   rw [zae] at hnxs
   clear hxe
   obtain ⟨xA, xc, P⟩ := x
   dsimp only at hxr hxo hx12 hxob hnxs ⊢
   refine jB (jS (jR (jm rfl (jL rfl zcm (je (Run.conv8 _ rfl zz zac) ?_)))))
   rw [show P.length % 256 = P.length from zdb jo]
   refine Ops.m (qV.buildN (cells := #[.int .u8 ((2 : Nat) : Int), .int .u8 ((P.length : Nat) : Int)]) (evs.cons rfl (evs.cons rfl evs.nil)) zg zam pM rfl rfl jK) rfl ?_
   rintro _ w2 ⟨rfl, hF2⟩
   have hC2 : Own w2 5 1 (some ⟨W.heap.size, 0, none⟩) 2 2 (NB [2, P.length]) := Own.of_blk hF2.blk rfl jd
   refine ja rfl (jO (jN (jv4 4 6 7 8 ?_)))
   refine jS (jS (jR (jm rfl (jL rfl zcm ?_))))
   refine jx .i64 0 ?_
   refine jO (jN (jB ?_))
   refine VC.loop (σ := Nat × Option Addr × Nat) (fun s => [(4, jI0 g4), (6, jI0 g6), (7, .slice xA P.length xc), (8, .slice s.2.1 (2 + 10 * s.1) s.2.2), (29, .slice xA P.length xc), (30, jI1 P.length), (31, jI1 s.1)]) (fun s wr => s.1 ≤ P.length ∧ Own wr 5 1 s.2.1 (2 + 10 * s.1) s.2.2 (NB ([2, P.length] ++ (P.take s.1).flatMap fun x => qC x.1 8 ++ qC x.2 2)) ∧ Frm [] W wr ∧ ∀ x ∈ ob s.2.1, W.heap.size ≤ x) (fun s => P.length - s.1) (0, some ⟨W.heap.size, 0, none⟩, 2) (js7 rfl rfl rfl rfl rfl rfl rfl) ⟨zj _, by simpa using hC2, hF2.frm, by simp [ob]⟩ ?_
   rintro ⟨j, C, dc⟩ wx ⟨hj, hC, KX, hupC⟩
   dsimp only at hj hC hupC ⊢
   have kx := KX.size
   refine jS (jR (jb rfl rfl (Bin.lssN _ _) (jO (jN (jS ?_)))))
   refine jD rfl (fun hc3 => ?_) fun hc3 => ?_
   ·
    obtain ⟨ad, hAd, hel⟩ := rdF kdC 2 vZ (hxr.frm KX jp) rfl hc3 (0, 0)
    subst hAd
    have hokj := hxo _ (qMz hc3)
    have hsnj := sX hc3
    generalize P.getD j (0, 0) = y at hel hokj hsnj
    obtain ⟨yk, yv⟩ := y
    dsimp only at hokj
    refine jQ (jN (jv7 4 6 7 8 29 30 31 ?_))
    refine jS (jB (jS (jR (je (Run.indexS _ rfl rfl zcm zez jo) (je (Run.loadA rfl Tryz.isAgg214 zez hel (by first | rfl | (simp; done))) ?_)))))
    refine Ops.m (qV.alloc mG) rfl ?_
    rintro _ w3 ⟨rfl, hF3⟩
    refine Ops.st (qT.storeA rfl rfl zez hF3.blk rfl (vJ (yk, yv))) ?_
    rintro w4 ⟨hb10, hf4, hs4⟩
    have hb10 : Blk w4 wx.heap.size 214 #[jI2 yk, jI1 yv] := hb10
    have k4 : Frm [] wx w4 := hF3.frm.own hf4 jp
    have hClt := hC.lt
    have hC := hC.frm k4 jp
    have KX := KX.trans k4 jp
    have q10 := hb10.lt
    have hC10 : ∀ x ∈ ob C, x ≠ wx.heap.size := fun x hx => by have := hClt x hx; omega
    generalize hg10 : wx.heap.size = g10 at *
    refine jO (jN (jv8 4 6 7 8 10 29 30 31 ?_))
    refine VC.meet (σ := Option Addr × Nat) (fun s => [(4, jI0 g4), (6, jI0 g6), (7, .slice (some ad) P.length xc), (8, .slice s.1 (2 + 10 * (j + 1)) s.2), (29, .slice (some ad) P.length xc), (30, jI1 P.length), (31, jI1 j)]) (fun s wz => Own wz 5 1 s.1 (2 + 10 * (j + 1)) s.2 (NB ([2, P.length] ++ (P.take (j + 1)).flatMap fun x => qC x.1 8 ++ qC x.2 2)) ∧ Frm [] W wz ∧ ∀ x ∈ ob s.1, W.heap.size ≤ x) ?_ ?_
    ·
     refine VC.held (fun V => Blk V g10 214 #[jI2 yk, jI1 yv]) jK ?_
     have hS := hb10.drawn (qP.drew w4)
     have hC := hC.drawn (qP.drew w4)
     have KX := KX.drawn (qP.drew w4)
     refine jh 0 hS ?_
     refine jH 1 rfl hS (fun w0 hw0 => Run.fieldAddr rfl zhk rfl zy jd) ?_
     refine jH 2 rfl hS (fun w0 hw0 => Run.load rfl zai (hw0.cell 0)) ?_
     refine jH 5 rfl hS (fun w0 hw0 => Run.fieldAddr rfl zhk rfl zm jd) ?_
     refine jH 6 rfl hS (fun w0 hw0 => Run.load rfl zaa (hw0.cell 1)) ?_
     refine jH 7 rfl hS (fun w0 hw0 => Run.convN _ rfl zz zr (by simp only [bmax]; omega)) ?_
     refine qJ.or2 3 8 jK ?_ ?_
     ·
      refine kS.m rfl (qV.buildS1 rfl zbv zy lU jd jd rfl rfl) trivial rfl rfl ?_
      rintro _ wa ⟨rfl, hFa⟩
      have hS := hS.frm hFa.frm jp
      refine ⟨hS, ?_⟩
      have hra := Rd.of_blk (n := 1) (size := 1) hFa.blk rfl
      have hra : Rd wa 1 _ 1 (ZU [yk]) := hra
      have han := hC.lt
      have hC := hC.frm hFa.frm jp
      have KX := KX.trans hFa.frm jp
      refine qJ.or2 4 8 jK ?_ ?_
      ·
       refine kS.cl rfl (jE3 zgq) (fZ C (some ⟨_, 0, none⟩) (2 + 10 * j) dc 8 1 1 _ [yk] _ jo jo jo rfl jo (by intro v hv; simp at hv; subst hv; exact hokj.1) hC hra (fun _ x hx h => by simp only [ob, za] at hx; have h1 := han x h; omega)) trivial rfl rfl ?_
       rintro e w6 ⟨C6, d6, rfl, ho6, k6⟩
       have q10c : g10 < _ := hS.lt
       have hS := hS.frm k6.1 (fun h => hC10 _ h rfl)
       refine ⟨_, rfl, hS, ?_⟩
       have ks := KX.size
       have hup6 := k6.up hupC jo
       have h6ne : g10 ∉ ob C6 := k6.out q10c (fun h => hC10 _ h rfl)
       have KX := KX.own k6.1 hupC
       refine qJ.m 8 rfl jK (qV.buildS1 rfl zbv zy lU jd jd rfl rfl) trivial rfl rfl ?_
       rintro _ wb ⟨rfl, hFb⟩
       have hS := hS.frm hFb.frm jp
       refine ⟨hS, ?_⟩
       have hrb := Rd.of_blk (n := 1) (size := 1) hFb.blk rfl
       have hrb : Rd wb 1 _ 1 (ZU [yv]) := hrb
       have KX := KX.trans hFb.frm jp
       have hbn := ho6.lt
       have hbx : ∀ x ∈ ob (some (⟨w6.heap.size, 0, none⟩ : Addr)), x ∉ ob C6 := fun x hx h => by have h1 := hbn x h; simp only [ob, za] at hx; omega
       have ho6 := ho6.frm hFb.frm jp
       refine qJ.cl 9 rfl jK (jE3 zgq) (fZ C6 (some ⟨_, 0, none⟩) (2 + 10 * j + 8 * 1) d6 2 1 1 _ [yv] _ jo jo jo rfl jo (by intro v hv; simp at hv; subst hv; exact hokj.2) ho6 hrb (fun _ x hx => hbx x hx)) trivial rfl rfl ?_
       rintro e w8 ⟨C8, d8, rfl, ho8, k8⟩
       have hS := hS.frm k8.1 h6ne
       refine ⟨_, rfl, hS, ?_⟩
       have hfe : (P.take (j + 1)).flatMap (fun x => qC x.1 8 ++ qC x.2 2) = (P.take j).flatMap (fun x => qC x.1 8 ++ qC x.2 2) ++ ([yk].flatMap (fun v => qC v 8) ++ [yv].flatMap (fun v => qC v 2)) := by rw [hsnj, zan]; simp
       have ks := KX.size
       have hup8 := k8.up hup6 jo
       have KX := KX.own k8.1 hup6
       rw [zab, zab, ← hfe, show 2 + 10 * j + 8 * 1 + 2 * 1 = 2 + 10 * (j + 1) by omega] at ho8
       refine jH 10 rfl hS (fun w0 hw0 => Run.asg rfl) ?_
       refine qJ.done jK ?_
       refine jN ⟨(C8, d8), (js7 rfl rfl rfl (by rw [show 2 + 10 * (j + 1) = 2 + 10 * j + 8 * 1 + 2 * 1 by omega]; rfl) rfl rfl rfl), ?_⟩
       exact ⟨ho8, KX, hup8⟩
      refine kS.m rfl (qV.buildS1 rfl zbv zy lU jd jd rfl rfl) trivial rfl rfl ?_
      rintro _ wb ⟨rfl, hFb⟩
      have hS := hS.frm hFb.frm jp
      refine ⟨hS, ?_⟩
      have hrb := Rd.of_blk (n := 1) (size := 1) hFb.blk rfl
      have hrb : Rd wb 1 _ 1 (ZU [yv]) := hrb
      have KX := KX.trans hFb.frm jp
      have hbn := hC.lt
      have hC := hC.frm hFb.frm jp
      have hra := hra.frm hFb.frm jp
      refine qJ.cl 4 rfl jK (jE3 zgq) (fZ C (some ⟨_, 0, none⟩) (2 + 10 * j) dc 8 1 1 _ [yk] _ jo jo jo rfl jo (by intro v hv; simp at hv; subst hv; exact hokj.1) hC hra (fun _ x hx h => by simp only [ob, za] at hx; have h1 := han x h; omega)) trivial rfl rfl ?_
      rintro e w6 ⟨C6, d6, rfl, ho6, k6⟩
      have q10c : g10 < _ := hS.lt
      have hS := hS.frm k6.1 (fun h => hC10 _ h rfl)
      refine ⟨_, rfl, hS, ?_⟩
      have ks := KX.size
      have hup6 := k6.up hupC jo
      have h6ne : g10 ∉ ob C6 := k6.out q10c (fun h => hC10 _ h rfl)
      have KX := KX.own k6.1 hupC
      have hbl := hrb.lt jo
      have hbn0 : ∀ x ∈ ob (some (⟨wa.heap.size, 0, none⟩ : Addr)), x ∉ ob C := fun x hx h => by have h1 := hbn x h; simp only [ob, za] at hx; omega
      have hrb := hrb.frm k6.1 (fun _ => hbn0)
      have hbx := fun x hx => k6.out (hbl x hx) (hbn0 x hx)
      refine qJ.cl 9 rfl jK (jE3 zgq) (fZ C6 (some ⟨_, 0, none⟩) (2 + 10 * j + 8 * 1) d6 2 1 1 _ [yv] _ jo jo jo rfl jo (by intro v hv; simp at hv; subst hv; exact hokj.2) ho6 hrb (fun _ x hx => hbx x hx)) trivial rfl rfl ?_
      rintro e w8 ⟨C8, d8, rfl, ho8, k8⟩
      have hS := hS.frm k8.1 h6ne
      refine ⟨_, rfl, hS, ?_⟩
      have hfe : (P.take (j + 1)).flatMap (fun x => qC x.1 8 ++ qC x.2 2) = (P.take j).flatMap (fun x => qC x.1 8 ++ qC x.2 2) ++ ([yk].flatMap (fun v => qC v 8) ++ [yv].flatMap (fun v => qC v 2)) := by rw [hsnj, zan]; simp
      have ks := KX.size
      have hup8 := k8.up hup6 jo
      have KX := KX.own k8.1 hup6
      rw [zab, zab, ← hfe, show 2 + 10 * j + 8 * 1 + 2 * 1 = 2 + 10 * (j + 1) by omega] at ho8
      refine jH 10 rfl hS (fun w0 hw0 => Run.asg rfl) ?_
      refine qJ.done jK ?_
      refine jN ⟨(C8, d8), (js7 rfl rfl rfl (by rw [show 2 + 10 * (j + 1) = 2 + 10 * j + 8 * 1 + 2 * 1 by omega]; rfl) rfl rfl rfl), ?_⟩
      exact ⟨ho8, KX, hup8⟩
     refine kS.m rfl (qV.buildS1 rfl zbv zy lU jd jd rfl rfl) trivial rfl rfl ?_
     rintro _ wb ⟨rfl, hFb⟩
     have hS := hS.frm hFb.frm jp
     refine ⟨hS, ?_⟩
     have hrb := Rd.of_blk (n := 1) (size := 1) hFb.blk rfl
     have hrb : Rd wb 1 _ 1 (ZU [yv]) := hrb
     have KX := KX.trans hFb.frm jp
     have hbn := hC.lt
     have hC := hC.frm hFb.frm jp
     refine qJ.m 3 rfl jK (qV.buildS1 rfl zbv zy lU jd jd rfl rfl) trivial rfl rfl ?_
     rintro _ wa ⟨rfl, hFa⟩
     have hS := hS.frm hFa.frm jp
     refine ⟨hS, ?_⟩
     have hra := Rd.of_blk (n := 1) (size := 1) hFa.blk rfl
     have hra : Rd wa 1 _ 1 (ZU [yk]) := hra
     have han := hC.lt
     have hC := hC.frm hFa.frm jp
     have KX := KX.trans hFa.frm jp
     have hrb := hrb.frm hFa.frm jp
     refine qJ.cl 4 rfl jK (jE3 zgq) (fZ C (some ⟨_, 0, none⟩) (2 + 10 * j) dc 8 1 1 _ [yk] _ jo jo jo rfl jo (by intro v hv; simp at hv; subst hv; exact hokj.1) hC hra (fun _ x hx h => by simp only [ob, za] at hx; have h1 := han x h; omega)) trivial rfl rfl ?_
     rintro e w6 ⟨C6, d6, rfl, ho6, k6⟩
     have q10c : g10 < _ := hS.lt
     have hS := hS.frm k6.1 (fun h => hC10 _ h rfl)
     refine ⟨_, rfl, hS, ?_⟩
     have ks := KX.size
     have hup6 := k6.up hupC jo
     have h6ne : g10 ∉ ob C6 := k6.out q10c (fun h => hC10 _ h rfl)
     have KX := KX.own k6.1 hupC
     have hbl := hrb.lt jo
     have hbn0 : ∀ x ∈ ob (some (⟨w4.drew.heap.size, 0, none⟩ : Addr)), x ∉ ob C := fun x hx h => by have h1 := hbn x h; simp only [ob, za] at hx; omega
     have hrb := hrb.frm k6.1 (fun _ => hbn0)
     have hbx := fun x hx => k6.out (hbl x hx) (hbn0 x hx)
     refine qJ.cl 9 rfl jK (jE3 zgq) (fZ C6 (some ⟨_, 0, none⟩) (2 + 10 * j + 8 * 1) d6 2 1 1 _ [yv] _ jo jo jo rfl jo (by intro v hv; simp at hv; subst hv; exact hokj.2) ho6 hrb (fun _ x hx => hbx x hx)) trivial rfl rfl ?_
     rintro e w8 ⟨C8, d8, rfl, ho8, k8⟩
     have hS := hS.frm k8.1 h6ne
     refine ⟨_, rfl, hS, ?_⟩
     have hfe : (P.take (j + 1)).flatMap (fun x => qC x.1 8 ++ qC x.2 2) = (P.take j).flatMap (fun x => qC x.1 8 ++ qC x.2 2) ++ ([yk].flatMap (fun v => qC v 8) ++ [yv].flatMap (fun v => qC v 2)) := by rw [hsnj, zan]; simp
     have ks := KX.size
     have hup8 := k8.up hup6 jo
     have KX := KX.own k8.1 hup6
     rw [zab, zab, ← hfe, show 2 + 10 * j + 8 * 1 + 2 * 1 = 2 + 10 * (j + 1) by omega] at ho8
     refine jH 10 rfl hS (fun w0 hw0 => Run.asg rfl) ?_
     refine qJ.done jK ?_
     refine jN ⟨(C8, d8), (js7 rfl rfl rfl (by rw [show 2 + 10 * (j + 1) = 2 + 10 * j + 8 * 1 + 2 * 1 by omega]; rfl) rfl rfl rfl), ?_⟩
     exact ⟨ho8, KX, hup8⟩
    rintro ⟨C8, d8⟩ w9 ⟨ho8, KX, hup8⟩ Γ hΓ
    refine qH (jN (VC.sub _ hΓ ?_))
    refine jR (jb rfl rfl (Bin.add_i64 _ 1 jo) (jm rfl (jO ?_)))
    refine jN ⟨(j + 1, C8, d8), (js7 rfl rfl rfl rfl rfl rfl rfl), ?_, ?_⟩
    · exact ⟨hc3, ho8, KX, hup8⟩
    exact jq
   refine jX ?_
   refine qZ (qZ (qN ?_))
   refine jN (jv4 4 6 7 8 ?_)
   refine jS ?_
   refine VC.heldL 10 (fun V => Frm (ob Kn) wx V) jK ?_
   obtain rfl : j = P.length := jo
   rw [zbw] at hC
   have hb4x := hb4.frm KX jp
   have hb6x := hb6.frm KX jp
   have hKx := hK.frm KX jp
   have hBx := hB.frm KX jp
   have hpgx := hpg.frm KX
   have hlXx := hlX.frm KX
   have KKx := KK.trans KX jp
   have hneC := hC.ne_own hKx jd
   have hneB := hBx.ne_own hKx jd
   have n4K : g4 ∉ ob Kn := fun h => (hu g4 (by simp [h])).2 jp
   have n6K : g6 ∉ ob Kn := fun h => (hu g6 (by simp [h])).2 jp
   obtain ⟨ad, hxA, _⟩ := rdF kdC 2 vZ (hxr.frm KX jp) rfl (jo : 0 < P.length) (0, 0)
   subst hxA
   have hel : ∀ V, Frm (ob Kn) wx V → ∀ j v, (kdC (P.getD 0 (0, 0)))[j]? = some v → V.cell? ((ad.add (0 * 2)).add j) = some v := fun V hV => by
    obtain ⟨ad2, he, h2⟩ := rdF kdC 2 vZ ((hxr.frm KX jp).frm hV (fun h0 y hy h => by rw [hxob] at hy; exact (hlX.2 jo y hy).2 (by simp [h]))) rfl (jo : 0 < P.length) (0, 0)
    cases he
    exact h2
   have hS : Frm (ob Kn) wx wx.drew := (Frm.refl _ _).drew
   refine jH 0 rfl hS (fun w0 hw0 => Run.load rfl zha ((hb6x.frm hw0 n6K).cell 0)) ?_
   refine jh 1 hS ?_
   refine jH 2 rfl hS (fun w0 hw0 => Run.indexS 0 rfl rfl zcm zez jo) ?_
   refine jH 3 rfl hS (fun w0 hw0 => Run.fieldAddr rfl zhk rfl zy jd) ?_
   refine jH 4 rfl hS (fun w0 hw0 => Run.load rfl zai (hel w0 hw0 0 _ rfl)) ?_
   refine qJ.r1 5 rfl jK hS (Run.load rfl Tryz.isAgg174 ((hb4x.frm hS n4K).cell 0)) trivial rfl rfl ?_
   refine qJ.r1 6 rfl jK hS (Run.lenS rfl zbc) trivial rfl rfl ?_
   refine qJ.r1 7 rfl jK hS (Run.build (evs.cons rfl (evs.cons rfl evs.nil)) mG (lV).choose_spec.1 (lV).choose_spec.2 (cells := (kdC ((P.getD 0 (0, 0)).1, ps.length + pre.length)).toArray) rfl) trivial rfl rfl ?_
   refine qJ.m 8 rfl jK (qV.buildS1 rfl zcm zez mG jd jd rfl rfl) trivial rfl rfl ?_
   rintro _ w9 ⟨rfl, hF9⟩
   have hS := hS.trans hF9.frm jp
   refine ⟨hS, ?_⟩
   have hr9 : Rd w9 2 (some ⟨wx.drew.heap.size, 0, none⟩) 1 (kdC ((P.getD 0 (0, 0)).1, ps.length + pre.length)) := Rd.of_blk (n := 1) (size := 2) hF9.blk rfl
   have hK9 := hKx.frm (((Frm.refl [] wx).drew).trans hF9.frm jp) jp
   have q9 : wx.heap.size ≤ w9.heap.size := (((Frm.refl [] wx).drew).trans hF9.frm jp).size
   refine qJ.m 9 rfl jK (qV.app rfl rfl zcm (yB) rfl jd hK9 hr9 (vJ _) jo jo) trivial rfl rfl ?_
   rintro _ w10 ⟨K10, c10, rfl, hK10, hf10, hob10⟩
   have kf := Fk.of_app hf10 hob10
   have hS := hS.trans hf10 (fun y hy => .inl hy)
   refine ⟨hS, ?_⟩
   rw [← yL, ← hnxs] at hK10
   have kall : Fk (ob Kn) wx w10 (ob K10) := ⟨hS, fun y hy => by
    rcases kf.2 y hy with h | h
    · exact .inl h
    exact .inr (zbd q9 h)⟩
   have hb4x := hb4x.frm hS n4K
   have hb6x := hb6x.frm hS n6K
   have hBx := hBx.frm hS hneB
   have hC := hC.frm hS hneC
   have hpgx := hpgx.fk (Fk.right (X := [g4, g6]) (Fk.left (X := ob Bn) kall))
   have hlXx := hlXx.fk (Fk.right (X := [g4, g6]) (Fk.left (X := ob Bn) kall))
   have hu10 : ∀ y ∈ ob Bn ++ ob K10, w.heap.size ≤ y ∧ y ∉ [g1, g2, g4, g6] := fun y hy => by
    rcases (Fk.left (X := ob Bn) kall).2 y hy with h | h
    · exact hu y h
    have h1 := KKx.size; have h2 := KX.size
    refine ⟨jo, fun h3 => ?_⟩
    simp only [zaq, zaz, or_false] at h3
    omega
   have n4K10 : g4 ∉ ob K10 := fun h => (hu10 g4 (by simp [h])).2 jp
   have KKx := KKx.own hS (fun y hy => (hu y (by simp [hy])).1)
   refine qJ.stL rfl jK (qT.store rfl rfl zhl hb6x rfl rfl) trivial rfl ?_
   rintro w11 ⟨hb6x, hf11, hs11⟩
   have n6B : g6 ∉ ob Bn := fun h => (hu10 g6 (by simp [h])).2 jp
   have n6K10 : g6 ∉ ob K10 := fun h => (hu10 g6 (by simp [h])).2 jp
   have hb4x := hb4x.frm hf11 (by simp; omega)
   have hBx := hBx.frm hf11 (fun y hy h => by rw [za] at h; subst h; exact n6B hy)
   have hK10 := hK10.frm hf11 (fun y hy h => by rw [za] at h; subst h; exact n6K10 hy)
   have hC := hC.frm hf11 (fun y hy h => by rw [za] at h; subst h; have := hupC _ hy; omega)
   have hpgx := hpgx.fk (Fk.self hf11 jp)
   have hlXx := hlXx.fk (Fk.self hf11 jp)
   have KKx := KKx.own hf11 (by simp; omega)
   have hall11 : Frm (g6 :: ob Kn) W w11 := ((KX.mono (T := g6 :: ob Kn) jp).trans (hS.mono (T := g6 :: ob Kn) (fun y hy => .inl (by simp [hy]))) (fun y hy => .inl hy)).trans (hf11.mono (T := g6 :: ob Kn) jp) (fun y hy => .inl hy)
   refine qJ.done jK ?_
   refine jN (jv2 4 8 ?_)
   refine VC.heldL 5 (fun V => Frm (ob Bn) w11 V) jK ?_
   have n4B : g4 ∉ ob Bn := fun h => (hu10 g4 (by simp [h])).2 jp
   have hneC2 := hC.ne_own hBx jd
   have hneK2 := hK10.ne_own hBx jd
   have hBlx := hBx.lt
   have hKlx := hK10.lt
   have hS : Frm (ob Bn) w11 w11.drew := (Frm.refl _ _).drew
   refine jH 0 rfl hS (fun w0 hw0 => Run.load rfl Tryz.isAgg174 ((hb4x.frm hw0 n4B).cell 0)) ?_
   refine qJ.r1 1 rfl jK hS (Run.mv rfl) trivial rfl rfl ?_
   refine qJ.cl 2 rfl jK (jE1 Tryz.call142) (nO C dc (2 + 10 * P.length) (sF P) _ (wD P) jo (yI jo) (hC.drawn (qP.drew _)).rd) trivial rfl rfl ?_
   rintro e w12 ⟨B9, d9, rfl, ho9, hf9, hup9⟩
   have hS := hS.trans hf9 jp
   refine ⟨_, rfl, hS, ?_⟩
   have k12 : Frm [] w11 w12 := ((Frm.refl [] w11).drew).trans hf9 jp
   have hl128 : (gO P).length = 128 := (qJ5 jo).1
   have q12 : w11.heap.size ≤ w12.heap.size := k12.size
   refine qJ.m 3 rfl jK (qV.buildS1 rfl zbc zah tP jd jd rfl rfl) trivial rfl rfl ?_
   rintro _ w13 ⟨rfl, hF13⟩
   have hS := hS.trans hF13.frm jp
   refine ⟨hS, ?_⟩
   obtain ⟨pg, hpgd⟩ : ∃ pg : Pg, pg = (B9, d9, gO P) := ⟨_, rfl⟩
   have hr13 : Rd w13 1 (some ⟨w12.heap.size, 0, none⟩) 1 [SL pg] := by
    have := Rd.of_blk (n := 1) (size := 1) hF13.blk rfl
    rw [hpgd, SL, hl128]
    exact this
   have hpr : Rd w13 1 pg.1 pg.2.2.length (NB pg.2.2) := by rw [hpgd]; dsimp only; rw [hl128]; exact (ho9.rd.frm hF13.frm jp)
   have k13 := k12.trans hF13.frm jp
   have hB13 := hBx.frm k13 jp
   have q13 := hF13.size
   have q13b : w11.heap.size ≤ w13.heap.size := k13.size
   have hpnew : ∀ y ∈ ob pg.1, y < w13.heap.size ∧ y ∉ ob Bn ++ ob K10 ++ [g4, g6] := fun y hy => by
    rw [hpgd] at hy
    have h1 := hup9 y hy
    have h2 := ho9.lt y hy
    have h3 : w11.drew.heap.size = w11.heap.size := rfl
    have h4 := hb4x.lt
    have h6 := hb6x.lt
    refine ⟨jo, fun h => ?_⟩
    rcases zcp.1 h with h | h
    ·
     rcases zcp.1 h with h | h
     · have := hBlx y h; omega
     have := hKlx y h; omega
    simp only [zaq, zaz, or_false] at h; omega
   have hpgx := (hpgx.frm k13).snoc hpr hpnew (fun y hy => by
    rw [hpgd] at hy
    have h1 := hup9 y hy
    rw [show w11.drew.heap.size = w11.heap.size from rfl] at h1
    have h2 := KKx.size
    omega)
   have hlXx := hlXx.frm k13
   refine qJ.m 4 rfl jK (qV.app rfl rfl zbc (qXd) rfl jd hB13 hr13 (by simp; rfl) jo jo) trivial rfl rfl ?_
   rintro _ w14 ⟨B14, d14, rfl, hB14, hf14, hob14⟩
   have kf := Fk.of_app hf14 hob14
   have hS := hS.trans hf14 (fun y hy => .inl hy)
   refine ⟨hS, ?_⟩
   have e14 : pn.map SL ++ [SL pg] = (pn ++ [pg]).map SL := jp
   rw [e14] at hB14
   have kall2 : Fk (ob Bn) w11 w14 (ob B14) := ⟨hS, fun y hy => by
    rcases kf.2 y hy with h | h
    · exact .inl h
    exact .inr (zbd q13b h)⟩
   have hb4x := hb4x.frm hS n4B
   have hb6x := hb6x.frm hS n6B
   have hK10 := hK10.frm hS hneK2
   have hpgx := hpgx.fk (Fk.right (X := [g4, g6]) (Fk.right (X := ob K10) kf))
   have hlXx := hlXx.fk (Fk.right (X := [g4, g6]) (Fk.right (X := ob K10) kf))
   have hu14 : ∀ y ∈ ob B14 ++ ob K10, w.heap.size ≤ y ∧ y ∉ [g1, g2, g4, g6] := fun y hy => by
    rcases (Fk.right (X := ob K10) kall2).2 y hy with h | h
    · exact hu10 y h
    have h1 := KKx.size; have h2 := hall11.size
    refine ⟨jo, fun h3 => ?_⟩
    simp only [zaq, zaz, or_false] at h3
    omega
   have n4B14 : g4 ∉ ob B14 := fun h => (hu14 g4 (by simp [h])).2 jp
   have KKx := KKx.own hS (fun y hy => (hu10 y (by simp [hy])).1)
   refine qJ.stL rfl jK (qT.store rfl rfl Tryz.sizeOf174 hb4x rfl rfl) trivial rfl ?_
   rintro w15 ⟨hb4x, hf15, hs15⟩
   have hb6x := hb6x.frm hf15 (by simp; omega)
   have hB14 := hB14.frm hf15 (fun y hy h => by rw [za] at h; subst h; exact n4B14 hy)
   have hK10 := hK10.frm hf15 (fun y hy h => by rw [za] at h; subst h; exact n4K10 hy)
   have hpgx := hpgx.fk (Fk.self hf15 jp)
   have hlXx := hlXx.fk (Fk.self hf15 jp)
   have KKx := KKx.own hf15 (by simp; omega)
   have hall : Frm (g4 :: g6 :: (ob Bn ++ ob Kn)) W w15 := ((hall11.mono (T := g4 :: g6 :: (ob Bn ++ ob Kn)) (fun y hy => .inl (by grind))).trans (hS.mono (T := g4 :: g6 :: (ob Bn ++ ob Kn)) (fun y hy => .inl (by simp [hy]))) (fun y hy => .inl hy)).trans (hf15.mono (T := g4 :: g6 :: (ob Bn ++ ob Kn)) jp) (fun y hy => .inl hy)
   refine qJ.done jK ?_
   refine qH (?_)
   have hcl : ∀ y ∈ g4 :: g6 :: (ob Bn ++ ob Kn), y ∉ [g1, g2] ∧ (∀ o, W.heap[y]? = some o → o.isCells = true) ∧ y ∉ ds := fun y hy => by
    have hcells : ∀ o, W.heap[y]? = some o → o.isCells = true := by
     rcases zaq.1 hy with rfl | hy
     · exact hb4.isC
     rcases zaq.1 hy with rfl | hy
     · exact hb6.isC
     rcases zcp.1 hy with hy | hy
     · exact hB.isC y hy
     exact hK.isC y hy
    refine ⟨fun h => ?_, hcells, fun h => ?_⟩
    ·
     rcases zaq.1 hy with rfl | hy
     · simp only [zaq, zaz, or_false] at h; omega
     rcases zaq.1 hy with rfl | hy
     · simp only [zaq, zaz, or_false] at h; omega
     exact (hu y hy).2 (by simp only [zaq, zaz, or_false] at h ⊢; omega)
    have := hcells _ (hdm y h)
    cases this
   have hmap : (pre ++ [((some ad, xc, P) : Ck)]).map (·.2.2) = pre.map (·.2.2) ++ [P] := jp
   have hlen : (pre ++ [((some ad, xc, P) : Ck)]).length = pre.length + 1 := jp
   refine ⟨⟨_, hall, fun y hy => ⟨(hcl y hy).1, (hcl y hy).2.1⟩⟩, B14, d14, pn ++ [pg], K10, c10, ?_, ?_, ?_, hpgx, ?_, ?_, hlXx, KKx, hu14, fun d hd => (hdm d hd).frm hall (fun h => (hcl d h).2.2 hd)⟩
   · rw [hlen]; exact hb4x
   · rw [hlen]; exact hB14
   · rw [hmap, zv, hpn, zv, hpgd, zab]; rfl
   · rw [hlen]; exact hb6x
   rw [hlen, hmap]; exact hK10
  ·
   rintro W ⟨Bn, dn, pn, Kn, cn, hb4, hB, hpn, hpg, hb6, hK, hlX, KK, hu, hdm⟩ hsz2 hmk
   rw [qWm] at hpn hK
   have hcl := wI K lv
   have hpnl : pn.length = ps.length + (fU K lv).length := by
    have := congrArg List.length hpn
    rw [zae, zf, zae, zae, eU] at this
    omega
   refine sN (bL ?_)
   refine DV.sub [(2, _), (3, _), (4, _), (6, _)] (js4 rfl rfl rfl rfl) ?_
   refine DV.vc ?_
   refine jR (jl rfl zha (hb6.cell 0) (ja rfl (jO ?_)))
   refine sN (bL ⟨(pn, Bn, dn, Kn, cn, nextM ps.length (eV lv), w7.heap.size :: ds), rfl, (js4 rfl rfl rfl (by rw [hZ, eU, ← hcl]; rfl)), ?_, ?_⟩)
   ·
    have hnl : (nextM ps.length (eV lv)).length = (fU K lv).length := by rw [hZ, eU, hcl]
    rw [upM, dif_neg jo, zae, ← hpn] at hup0
    refine ⟨hup0, ?_, ?_, hpg.less (fun x hx => by grind), ?_, ?_, ?_, ?_, KK, fun x hx => ⟨(hu x hx).1, fun h => (hu x hx).2 (by simp [h])⟩, ?_, ?_⟩
    · dsimp only; rw [hpnl]; exact hb4
    · dsimp only; rw [hpnl]; exact hB
    · dsimp only; rw [hnl]; exact hK
    · exact qGl (qWo hokk) (by rw [eU]; omega)
    · dsimp only; rw [hpnl, hnl, hcl]; omega
    · dsimp only; rw [hnl, hcl]; omega
    · exact zft.2 ⟨fun h => by have := hdsl _ h; omega, hnd⟩
    intro d hd
    rcases zaq.1 hd with rfl | hd
    · exact ⟨hmk, jo⟩
    exact ⟨hdm d hd, (hds d hd).2⟩
   dsimp only; rw [hZ, eU]; omega
  · exact fun _ _ h => h.elim
  exact fun _ _ _ h => h.elim
 refine jX ?_
 refine qJ1 (qJ1 (qXh ?_))
 refine bL ?_
 refine DV.sub [(4, _)] (js1 rfl) ?_
 refine DV.seq ?_
 refine DV.vc ?_
 refine jR (jl rfl Tryz.isAgg174 (hb4.cell 0) (ja rfl (jz 0 (jO ?_))))
 refine bL ?_
 refine DV.sub [(2, _), (3, _)] (js2 rfl rfl) ?_
 refine DV.vc (jT ?_)
 refine lC hnd (fun d hd => (hds d hd).1) (fun wz hsh => ?_)
 refine bX rfl rfl ?_
 rw [if_pos hm]
 have h1 : lv.length ≤ 1 := jo
 rw [upM, dif_pos h1] at hup0
 have hpl2 : ps.length = (bQ l).length := by rw [← hup0, zae]
 have hno : ∀ x ∈ ob B, x ∉ ds := fun x hx h => (hds x h).1.ne_own hB hx
 have hBz := hB.frm hsh hno
 rw [hpl2] at hBz ⊢
 have hpgz : PgS w.heap.size wz (ob B) ps := fun x hx => ⟨(hpg x hx).1.frm hsh (fun h0 y hy h => ?_), fun y hy => ⟨⟨zas ((hpg x hx).2 y hy).1.1 hsh.size, fun h => ((hpg x hx).2 y hy).1.2 (by simp [h])⟩, ((hpg x hx).2 y hy).2⟩⟩
 · exact ⟨KK.own hsh (fun d hd => (hds d hd).2), B, d, ps, rfl, hBz, hup0, hpgz, fun x hx => (hup x (by simp [hx])).1⟩
 obtain ⟨ad, had, _, hc⟩ := (hpg x hx).1.2 h0
 rw [had] at hy
 simp only [ob, za] at hy
 subst hy
 have hl : 0 < (NB x.2.2).length := by rw [gK]; exact h0
 have h9 := hc 0 _ (ze hl)
 rw [pW] at h9
 have h8 := (hds _ h).1
 simp [World.cell?, h8] at h9
def qI (n : Nat) : Nat := (n + 125) / 126
def fP : List Nat := [104, 115, 117, 112]
def dI (dir : List Nat) : List Nat := fP ++ qC dir.length 2 ++ dir.flatMap fun p => qC p 2
def bR (dir : List Nat) : List Nat := dR (dI dir)
def eD (pg : List Nat) (i : Nat) : Nat := if i + 1 < pg.length then pg.getD (i + 1) 0 + 1 else 0
def fR (D : List Nat) (i : Nat) : List Nat := (D.drop (126 * i)).take 126
def dG (D pg : List Nat) (i : Nat) : List Nat := eS (qC (eD pg i) 2 ++ fR D i) 128
def lO (D pg : List Nat) (k : Nat) : List Pu := (List.range k).map fun i => (42 + pg.getD i 0, dG D pg i)
def dN (D pg : List Nat) : List Pu := lO D pg pg.length
theorem vF (D pg : List Nat) (k : Nat) : lO D pg (k + 1) = lO D pg k ++ [(42 + pg.getD k 0, dG D pg k)] := by unfold lO; rw [zda, zv]; rfl
theorem oQ (D pg : List Nat) (k : Nat) : (lO D pg k).length = k := by simp [lO]
def atP (pg : List Nat) : Nat := if pg.length = 0 then 0 else pg.getD 0 0 + 1
def cE (id : Nat) (D pg : List Nat) : Pr := (id, atP pg + D.length * 65536 + crcM D * 4294967296)
theorem qWp {a b : Nat} (n : Nat) (h : a < 2 ^ n) : a ||| (b * 2 ^ n) = a + b * 2 ^ n := by
 rw [Nat.or_comm, zff, ← Nat.two_pow_add_eq_or_of_lt h, zgp]
theorem nM (D : List Nat) (i : Nat) : (fR D i).length = Nat.min (D.length - 126 * i) 126 := by unfold fR; rw [zk, zq, Nat.min_comm]
theorem wL {D : List Nat} (h : ∀ b ∈ D, b < 256) (i : Nat) : ∀ b ∈ fR D i, b < 256 := fun b hb => h b (zau (zo hb))
theorem uY (D pg : List Nat) (i : Nat) : (dG D pg i).length = 128 := oT (by
 have h := nM D i
 have : Nat.min (D.length - 126 * i) 126 ≤ 126 := zel _ _
 rw [zf, numL_len]
 omega)
theorem qX7 {D : List Nat} (h : ∀ b ∈ D, b < 256) (pg : List Nat) (i : Nat) : ∀ b ∈ dG D pg i, b < 256 := yD (fun b hb => by
 rcases zcp.1 hb with hb | hb
 · exact numL_lt _ _ b hb
 exact wL h i b hb)
theorem eE (dir : List Nat) : (dI dir).length = 6 + 2 * dir.length := by
 have : ∀ l : List Nat, (l.flatMap fun p => qC p 2).length = 2 * l.length := fun l => by
  induction l with
  | nil => rfl
  | cons a r ih => rw [zaw, zf, numL_len, zad, ih]; omega
 rw [dI, zf, zf, numL_len, this]
 show 4 + 2 + _ = _
 omega
theorem lH (dir : List Nat) : ∀ b ∈ dI dir, b < 256 := fun b hb => by
 rcases zcp.1 hb with hb | hb
 ·
  rcases zcp.1 hb with hb | hb
  · simp [fP] at hb; omega
  exact numL_lt _ _ b hb
 obtain ⟨x, _, hx⟩ := List.mem_flatMap.1 hb
 exact numL_lt _ _ b hx
def Srt (l : List Pr) : Prop := l.Pairwise fun a b => a.1 < b.1
def cX (l : List Pr) (id : Nat) : List Pr := l.filter fun x => decide (x.1 < id)
def eqP (l : List Pr) (id : Nat) : List Pr := l.filter fun x => decide (x.1 = id)
def bU (l : List Pr) (id : Nat) : List Pr := l.filter fun x => decide (id < x.1)
def cD (l : List Pr) (id : Nat) : Nat := (cX l id).length
theorem jJ : ∀ {l : List Pr}, Srt l → ∀ id, l = cX l id ++ (eqP l id ++ bU l id)
 | [], _, id => rfl
 | a :: r, h, id => by
  obtain ⟨h1, h2⟩ := List.pairwise_cons.1 h
  have ih := jJ h2 id
  rcases zgo a.1 id with h3 | h3 | h3
  ·
   have e1 : cX (a :: r) id = a :: cX r id := zfk (by simpa using h3)
   have e2 : eqP (a :: r) id = eqP r id := zfl (by simp; omega)
   have e3 : bU (a :: r) id = bU r id := zfl (by simp; omega)
   rw [e1, e2, e3, zcx, ← ih]
  ·
   have e1 : cX (a :: r) id = [] := List.filter_eq_nil_iff.2 fun x hx => by
    rcases zaq.1 hx with rfl | hx
    · simp; omega
    have := h1 x hx; simp; omega
   have e2 : eqP (a :: r) id = [a] := by
    rw [eqP, zfk (by simpa using h3)]
    rw [List.filter_eq_nil_iff.2 fun x hx => by have := h1 x hx; simp; omega]
   have e3 : bU (a :: r) id = r := by
    rw [bU, zfl (by simp; omega)]
    exact List.filter_eq_self.2 fun x hx => by have := h1 x hx; simp; omega
   rw [e1, e2, e3]; rfl
  have e1 : cX (a :: r) id = [] := List.filter_eq_nil_iff.2 fun x hx => by
   rcases zaq.1 hx with rfl | hx
   · simp; omega
   have := h1 x hx; simp; omega
  have e2 : eqP (a :: r) id = [] := List.filter_eq_nil_iff.2 fun x hx => by
   rcases zaq.1 hx with rfl | hx
   · simp; omega
   have := h1 x hx; simp; omega
  have e3 : bU (a :: r) id = a :: r := List.filter_eq_self.2 fun x hx => by
   rcases zaq.1 hx with rfl | hx
   · simpa using h3
   have := h1 x hx; simp; omega
  rw [e1, e2, e3]; rfl
theorem qWq {l : List Pr} (h : Srt l) (id : Nat) : (eqP l id).length ≤ 1 := by
 have h1 : (eqP l id).Pairwise fun a b => a.1 < b.1 := h.sublist zer
 match he : eqP l id with
 | [] => simp
 | [a] => simp
 | a :: b :: r =>
  rw [he] at h1
  have ha : a ∈ eqP l id := by rw [he]; simp
  have hb : b ∈ eqP l id := by rw [he]; simp
  have h2 := (List.pairwise_cons.1 h1).1 b jp
  have h3 := (List.mem_filter.1 ha).2
  have h4 := (List.mem_filter.1 hb).2
  simp at h3 h4
  omega
theorem qWr {l : List Pr} (id : Nat) : cD l id ≤ l.length := zcu _ _
theorem yO {l : List Pr} (h : Srt l) (id : Nat) {j : Nat} (hj : j < l.length) : cD l id ≤ j ↔ id ≤ (l.getD j (0, 0)).1 := by
 have hs := jJ h id
 have hm : ∀ x, l[j]? = some x → (cD l id ≤ j ↔ id ≤ x.1) := by
  intro x hx
  rw [hs] at hx
  rcases Nat.lt_or_ge j (cD l id) with h1 | h1
  ·
   rw [zdl h1] at hx
   have := (List.mem_filter.1 (zen hx)).2
   simp at this
   omega
  rw [zcz h1] at hx
  rcases zcp.1 (zen hx) with h2 | h2 <;> have := (List.mem_filter.1 h2).2 <;> simp at this <;> omega
 have := hm _ (ze hj)
 rwa [zb, ze hj]
theorem qKb {l : List Pr} (h : Srt l) (id : Nat) : id ∈ l.map (·.1) ↔ cD l id < l.length ∧ (l.getD (cD l id) (0, 0)).1 = id := by
 constructor
 ·
  intro hm
  obtain ⟨x, hx, rfl⟩ := List.mem_map.1 hm
  obtain ⟨j, hj, rfl⟩ := zcw hx
  have h1 := (yO h (l[j]).1 hj).2 (by rw [zb, ze hj]; exact zag _)
  have hlt : cD l (l[j]).1 < l.length := jo
  have h2 := (yO h (l[j]).1 hlt).1 (zag _)
  refine ⟨hlt, ?_⟩
  rcases Nat.eq_or_lt_of_le h1 with h3 | h3
  · rw [h3, zb, ze hj]; rfl
  have h4 := List.pairwise_iff_getElem.1 h _ _ hlt hj h3
  rw [zb, ze hlt] at h2 ⊢
  simp only [Option.getD_some] at h2 ⊢
  omega
 rintro ⟨h1, h2⟩
 rw [zb, ze h1] at h2
 exact List.mem_map.2 ⟨_, zbp h1, h2⟩
theorem zQ {l : List Pr} (id : Nat) : id ∈ l.map (·.1) ↔ eqP l id ≠ [] := by
 rw [ne_eq, eqP, List.filter_eq_nil_iff]
 simp
theorem qGm {l : List Pr} (h : Srt l) (id : Nat) : l.take (cD l id) = cX l id ∧ l.drop (cD l id) = eqP l id ++ bU l id := by
 have hs := jJ h id
 constructor
 ·
  conv => lhs; arg 2; rw [hs]
  exact zfj rfl
 conv => lhs; arg 2; rw [hs]
 exact zgi rfl
abbrev Ch := Nat × List Nat × Bool
def cV (l : List Ch) : Prop := (l.map (·.1)).Nodup ∧ ∀ x ∈ l, x.2.1.length ≤ 4032 ∧ (x.2.2 = true → x.2.1.length = 0)
instance (l : List Ch) : Decidable (cV l) := by unfold cV; infer_instance
theorem uH (l : List Ch) (x : Ch) : cV (l ++ [x]) ↔ cV l ∧ x.1 ∉ l.map (·.1) ∧ x.2.1.length ≤ 4032 ∧ (x.2.2 = true → x.2.1.length = 0) := by
 unfold cV
 rw [zv, zga]
 simp only [zcp, zbo, zge, za]
 constructor
 ·
  rintro ⟨⟨h1, -, h2⟩, h3⟩
  exact ⟨⟨h1, fun y hy => h3 y (.inl hy)⟩, fun hx => h2 _ hx _ rfl rfl, h3 x (.inr rfl)⟩
 rintro ⟨⟨h1, h2⟩, h3, h4⟩
 refine ⟨⟨h1, jp, fun a ha b hb => by subst hb; exact fun e => h3 (e ▸ ha)⟩, fun y hy => ?_⟩
 rcases hy with hy | rfl
 · exact h2 y hy
 exact h4
theorem uM {l : List Ch} (h : cV l) (k : Nat) : cV (l.take k) := ⟨(h.1.sublist ((zhr k l).map _)), fun x hx => h.2 x (zo hx)⟩
end
section
open Go.RowKit
open Go.Maps (Keyed)
def MpI (P : Program) (k : TypeId) {κ : Type} (enc : κ → Value) (w : World) (g r : Nat) (M : κ → Option Value) (T : List κ) (n : Nat) : Prop :=
 ∃ (es : List MapEntry) (clock since c0 : Nat) (seen : Array Nat), w.heap[g]? = some (.map es.toArray clock) ∧ w.heap[r]? = some (.mapIter (some g) since seen c0) ∧ (∀ e ∈ es, (∃ l, keyOf P k e.key = some l) ∧ e.born < clock) ∧ es.Pairwise (fun a b => a.born ≠ b.born ∧ a.key ≠ b.key) ∧ (∀ x v, M x = some v ↔ ∃ e ∈ es, e.key = enc x ∧ e.val = v) ∧
  (∀ e ∈ es, e.born < since) ∧ since ≤ c0 ∧ since ≤ clock ∧ (∀ x, x ∈ T ↔ ∃ e ∈ es, e.key = enc x ∧ e.born ∈ seen) ∧ (leftOf es.toArray seen).size = n
section
variable {P : Program} {k : TypeId} {κ : Type} {enc : κ → Value} {w w' : World} {g r n : Nat} {M : κ → Option Value} {T : List κ} {S : List Nat}
theorem MpI.mp (h : MpI P k enc w g r M T n) : MpF P k enc w g M := by
 obtain ⟨es, clock, since, c0, seen, h1, _, h2, h3, h4, _⟩ := h
 exact ⟨es, clock, h1, h2, h3, h4⟩
theorem MpI.ne (h : MpI P k enc w g r M T n) : r ≠ g := by
 obtain ⟨es, clock, since, c0, seen, h1, h2, _⟩ := h
 rintro rfl
 rw [h1] at h2
 cases h2
theorem MpI.lt (h : MpI P k enc w g r M T n) : r < w.heap.size := by
 obtain ⟨es, clock, since, c0, seen, h1, h2, _⟩ := h
 exact (Array.getElem?_eq_some_iff.1 h2).1
theorem MpI.frm (h : MpI P k enc w g r M T n) (f : Frm S w w') (hS : g ∉ S) (hr : r ∉ S) : MpI P k enc w' g r M T n := by
 have hl := h.mp.lt
 have hl2 := h.lt
 obtain ⟨es, clock, since, c0, seen, h1, h2, h3⟩ := h
 exact ⟨es, clock, since, c0, seen, (f.block g hl hS).trans h1, (f.block r hl2 hr).trans h2, h3⟩
theorem qWs {t e : TypeId} (h : MpF P k enc w g M) (ht : P.underlying t = some (.map k e)) :
  ∃ (w' : World) (n : Nat), (Instr.range t (.map (some g))).run P w = .ok (jI0 w.heap.size) w' ∧ MpI P k enc w' g w.heap.size M [] n ∧ Frm [] w w' ∧ w'.heap.size = w.heap.size + 1 := by
 have hlt := h.lt
 obtain ⟨es, clock, hb, h2, h3, h4⟩ := h
 have hf : Frm [] w (w.alloc (.mapIter (some g) clock #[] clock)) := (Frm.refl [] w).alloc _
 exact ⟨_, _, run_range_map w t k e g _ clock ht hb, ⟨es, clock, clock, clock, #[], (hf.block g hlt jp).trans hb, heap_alloc_new w _, h2, h3, h4, fun e he => (h2 e he).2, zag _, zag _, fun x => jp, rfl⟩, hf, jp⟩
theorem qGn (h : MpI P k enc w g r M T n) (inv : ∀ key kl, keyOf P k key = some kl → ∃ x, key = enc x) (henc : ∀ a b, enc a = enc b → a = b) (ty : TypeId) :
  ((Instr.next (jI0 r) false ty).run P w = .ok (.tuple #[.bool false]) w ∧ ∀ x v, M x = some v → x ∈ T) ∨
  ∃ (x : κ) (v : Value) (m : Nat) (w' : World), (Instr.next (jI0 r) false ty).run P w = .ok (.tuple #[.bool true, enc x, v]) w' ∧ M x = some v ∧ x ∉ T ∧ MpI P k enc w' g r M (x :: T) m ∧ m < n ∧ (∃ w1, qP w w1 ∧ Frm [r] w1 w') ∧ w'.heap.size = w.heap.size ∧ (Instr.entry (jI0 r)).run P w' = .ok (.tuple #[enc x, v]) w' := by
 have hne := h.ne
 have hrl := h.lt
 obtain ⟨es, clock, since, c0, seen, hb, hr, h2, h3, h4, h5, h6, h6', h7, h8⟩ := h
 rcases run_next_at (P := P) w ty r g since c0 seen es.toArray clock hr hb (by simpa using h5) h6 with ⟨a1, a2⟩ | ⟨e, he, w1, hw1, a2⟩
 ·
  left
  refine ⟨a2, fun x v hv => ?_⟩
  obtain ⟨e, he, hk, -⟩ := (h4 x v).1 hv
  refine (h7 x).2 ⟨e, he, hk, ?_⟩
  have hz : leftOf es.toArray seen = #[] := Array.eq_empty_of_size_eq_zero a1
  by_cases hs : e.born ∈ seen
  · exact hs
  have : e ∈ leftOf es.toArray seen := by
   unfold leftOf
   rw [Array.mem_filter]
   exact ⟨by simpa using he, by simpa using hs⟩
  rw [hz] at this
  simp at this
 right
 have hem : e ∈ es ∧ e.born ∉ seen := by
  have : e ∈ leftOf es.toArray seen := by simpa using he
  unfold leftOf at this
  rw [Array.mem_filter] at this
  exact ⟨by simpa using this.1, by simpa using this.2⟩
 obtain ⟨he1, he2⟩ := hem
 obtain ⟨⟨kl, hkl⟩, -⟩ := h2 e he1
 obtain ⟨x, hx⟩ := inv _ _ hkl
 have hd : qP w w1 := by
  rcases hw1 with rfl | rfl
  · exact qP.refl _
  exact qP.drew _
 have hsame : ∀ e' ∈ es, e'.born = e.born → e' = e := by
  intro e' he' hbn
  obtain ⟨i, hi, rfl⟩ := zcw he'
  obtain ⟨j, hj, rfl⟩ := zcw he1
  have h3' := List.pairwise_iff_getElem.1 h3
  rcases zgo i j with h | h | h
  · exact absurd hbn (h3' i j hi hj h).1
  · subst h; rfl
  exact absurd hbn.symm (h3' j i hj hi h).1
 have hkey : ∀ e' ∈ es, e'.key = e.key → e' = e := by
  intro e' he' hbn
  obtain ⟨i, hi, rfl⟩ := zcw he'
  obtain ⟨j, hj, rfl⟩ := zcw he1
  have h3' := List.pairwise_iff_getElem.1 h3
  rcases zgo i j with h | h | h
  · exact absurd hbn (h3' i j hi hj h).2
  · subst h; rfl
  exact absurd hbn.symm (h3' j i hj hi h).2
 have hrl1 : r < w1.heap.size := by rw [hd.heap]; exact hrl
 have hb1 : w1.heap[g]? = some (.map es.toArray clock) := by rw [hd.heap]; exact hb
 have hf : Frm [r] w1 (ChangeMaps.setBlock w1 r (.mapIter (some g) since (seen.push e.born) clock)) := gE w1 r _
 have hlt : g < w1.heap.size := (Array.getElem?_eq_some_iff.1 hb1).1
 have hg' : (ChangeMaps.setBlock w1 r (.mapIter (some g) since (seen.push e.born) clock)).heap[g]? = some (.map es.toArray clock) := (hf.block g hlt (by simpa using hne.symm)).trans hb1
 have hr' : (ChangeMaps.setBlock w1 r (.mapIter (some g) since (seen.push e.born) clock)).heap[r]? = some (.mapIter (some g) since (seen.push e.born) clock) := by simp [ChangeMaps.setBlock, hrl1]
 have hnd : (es.map (·.born)).Nodup := by
  rw [zev, zhs]
  exact h3.imp fun h => h.1
 refine ⟨x, e.val, (leftOf es.toArray (seen.push e.born)).size, _, by rw [a2, hx], (h4 x _).2 ⟨e, he1, hx, rfl⟩, fun hT => ?_, ⟨es, clock, since, clock, seen.push e.born, hg', hr', h2, h3, h4, h5, h6', h6', fun y => ?_, rfl⟩, ?_, ⟨w1, hd, hf⟩, ?_, ?_⟩
 ·
  obtain ⟨e', he', hk', hs'⟩ := (h7 x).1 hT
  rw [hkey e' he' (hk'.trans hx.symm)] at hs'
  exact he2 hs'
 ·
  rw [zaq]
  constructor
  ·
   rintro (rfl | hy)
   · exact ⟨e, he1, hx, jp⟩
   obtain ⟨e', he', hk', hs'⟩ := (h7 y).1 hy
   exact ⟨e', he', hk', by simp [hs']⟩
  rintro ⟨e', he', hk', hs'⟩
  rcases Array.mem_push.1 hs' with hs' | hs'
  · exact .inr ((h7 y).2 ⟨e', he', hk', hs'⟩)
  left
  rw [hsame e' he' hs'] at hk'
  exact henc _ _ (hk'.symm.trans hx)
 ·
  rw [← h8]
  have e1 : ∀ (a : Array MapEntry) (sn : Array Nat), (leftOf a sn).size = (a.toList.filter fun e => ! sn.contains e.born).length := fun a sn => by
   unfold leftOf
   rw [← Array.toList_filter, zcn]
  rw [e1, e1]
  refine zas (m := ((es.filter fun e' => ! seen.contains e'.born).filter fun e' => !(e'.born == e.born)).length + 1) ?_ ?_
  ·
   refine Nat.lt_succ_of_le (zhf ?_)
   rw [zfc]
   congr 1
   refine zep fun e' _ => ?_
   cases h1 : (e'.born == e.born) <;> cases h2 : seen.contains e'.born <;> simp_all [Array.contains_eq_mem]
  have hm : e ∈ es.filter fun e' => ! seen.contains e'.born := List.mem_filter.2 ⟨he1, by simpa using he2⟩
  obtain ⟨l1, l2, hl⟩ := List.append_of_mem hm
  show _ ≤ (es.filter fun e' => ! seen.contains e'.born).length
  rw [hl, zcy, List.filter_cons, show (!(e.born == e.born)) = false by simp, if_neg jp]
  have := zcu (fun e' => !(e'.born == e.born)) l1
  have := zcu (fun e' => !(e'.born == e.born)) l2
  simp only [zf, zad]
  omega
 · rw [show (ChangeMaps.setBlock w1 r (.mapIter (some g) since (seen.push e.born) clock)).heap.size = w1.heap.size by simp [ChangeMaps.setBlock], hd.heap]
 rw [← hx]
 exact run_entry_at _ r g since seen es.toArray clock e hr' hg' (by simpa using he1) (by simpa using hnd)
theorem qHy [DecidableEq κ] {t e T0 : TypeId} {x : κ} {kl : Lit} (h : MpF P k enc w g M) (K : Keyed P k) (henc : ∀ a b, enc a = enc b → a = b) (ht : P.underlying t = some (.map k e)) (hkey : keyOf P k (enc x) = some kl) :
  ∃ w' : World, (Builtin.delete_ #[t, k] T0 #[.map (some g), enc x]).run P w = .ok (.tuple #[]) w' ∧ MpF P k enc w' g (fun y => if y = x then none else M y) ∧ Frm [g] w w' ∧ w'.heap.size = w.heap.size := by
 have hlt := h.lt
 obtain ⟨es, clock, hb, h2, h3, h4⟩ := h
 rcases K.find w hkey es (fun e he => (h2 e he).1) with ⟨h5, h6⟩ | ⟨j, e0, h5, h6, h7⟩
 ·
  refine ⟨ChangeMaps.setBlock w g (.map es.toArray clock), ?_, ⟨es, clock, by simp [ChangeMaps.setBlock, hlt], h2, h3, fun y v => ?_⟩, gE w g _, by simp [ChangeMaps.setBlock]⟩
  · simp [Builtin.delete_, run_underlying ht, MapKept.run_getObj_map hb, K.check w _ hkey, h5, MapKept.run_setObj_map _ hb, Result.andThen, ChangeMaps.setBlock]
  dsimp only
  by_cases hy : y = x
  ·
   subst hy
   rw [if_pos rfl]
   exact ⟨fun h => by simp at h, fun ⟨e1, he1, he2, _⟩ => absurd he2 (h6 e1 he1)⟩
  rw [if_neg hy]
  exact h4 y v
 obtain ⟨hjl, ej⟩ := List.getElem?_eq_some_iff.1 h6
 refine ⟨ChangeMaps.setBlock w g (.map (es.eraseIdx j).toArray clock), ?_, ⟨es.eraseIdx j, clock, by simp [ChangeMaps.setBlock, hlt], fun e1 he1 => h2 e1 (List.mem_of_mem_eraseIdx he1), h3.sublist (List.eraseIdx_sublist _ _), fun y v => ?_⟩, gE w g _, by simp [ChangeMaps.setBlock]⟩
 · simp [Builtin.delete_, run_underlying ht, MapKept.run_getObj_map hb, K.check w _ hkey, h5, MapKept.run_setObj_map _ hb, Result.andThen, ChangeMaps.setBlock]
 dsimp only
 have h3' := List.pairwise_iff_getElem.1 h3
 by_cases hy : y = x
 ·
  subst hy
  rw [if_pos rfl]
  refine ⟨fun h => by simp at h, fun ⟨e1, he1, he2, _⟩ => ?_⟩
  obtain ⟨i, hij, hi⟩ := List.mem_eraseIdx_iff_getElem?.1 he1
  obtain ⟨hil, ei⟩ := List.getElem?_eq_some_iff.1 hi
  subst ei ej
  rcases zfs hij with h | h
  · exact absurd (he2.trans h7.symm) (h3' i j hil hjl h).2
  exact absurd (he2.trans h7.symm).symm (h3' j i hjl hil h).2
 rw [if_neg hy, h4 y v]
 constructor
 ·
  rintro ⟨e1, he1, he2, he3⟩
  obtain ⟨i, hi, rfl⟩ := zcw he1
  refine ⟨es[i], List.mem_eraseIdx_iff_getElem?.2 ⟨i, fun hij => ?_, ze hi⟩, he2, he3⟩
  subst hij
  exact hy (henc _ _ (he2.symm.trans ((congrArg MapEntry.key ej).trans h7)))
 rintro ⟨e1, he1, he2⟩
 exact ⟨e1, List.mem_of_mem_eraseIdx he1, he2⟩
end
section
variable {P : Program} {k : TypeId} {κ : Type} {enc : κ → Value} {w : World} {g r n : Nat} {M : κ → Option Value} {T : List κ} {Γ : Env} {dst : Option Tmp} {T0 : TypeId} {pos : String} {after : Array Edge} {gd : Option (Nat × Bool)}
theorem qV.rangeM {t e : TypeId} {a : Operand} (ha : ev? Γ a = some (.map (some g))) (h : MpF P k enc w g M) (ht : P.underlying t = some (.map k e)) :
  qV P ⟨dst, .range t a, T0, pos, after, gd⟩ Γ w (fun v w' => ∃ n, v = jI0 w.heap.size ∧ MpI P k enc w' g w.heap.size M [] n ∧ Frm [] w w' ∧ w'.heap.size = w.heap.size + 1) := fun ρ hρ => by
 obtain ⟨w', n, h1, h2⟩ := qWs h ht
 exact ⟨_, w', by simp [execOp, hρ _ _ ha, h1], n, rfl, h2⟩
theorem qV.nextM {a : Operand} (ha : ev? Γ a = some (jI0 r)) (h : MpI P k enc w g r M T n) (inv : ∀ key kl, keyOf P k key = some kl → ∃ x, key = enc x) (henc : ∀ a b, enc a = enc b → a = b) :
  qV P ⟨dst, .next a false, T0, pos, after, gd⟩ Γ w (fun v w' => (v = .tuple #[.bool false] ∧ w' = w ∧ ∀ x u, M x = some u → x ∈ T) ∨ ∃ (x : κ) (u : Value) (m : Nat), v = .tuple #[.bool true, enc x, u] ∧ M x = some u ∧ x ∉ T ∧ MpI P k enc w' g r M (x :: T) m ∧ m < n ∧ (∃ w1, qP w w1 ∧ Frm [r] w1 w') ∧ w'.heap.size = w.heap.size ∧ (Instr.entry (jI0 r)).run P w' = .ok (.tuple #[enc x, u]) w') := fun ρ hρ => by
 rcases qGn h inv henc T0 with ⟨h1, h2⟩ | ⟨x, v, m, w', h1, h2⟩
 · exact ⟨_, w, by simp [execOp, hρ _ _ ha, h1], .inl ⟨rfl, rfl, h2⟩⟩
 exact ⟨_, w', by simp [execOp, hρ _ _ ha, h1], .inr ⟨x, v, m, rfl, h2⟩⟩
theorem Run.entryM {a : Operand} {x u : Value} (ha : ev? Γ a = some (jI0 r)) (h : (Instr.entry (jI0 r)).run P w = .ok (.tuple #[x, u]) w) :
  Run P ⟨dst, .entry a, T0, pos, after, gd⟩ Γ w (.tuple #[x, u]) := fun ρ hρ => by
 simp [execOp, hρ _ _ ha, h]
theorem qV.deleteM [DecidableEq κ] {t e : TypeId} {a b : Operand} {x : κ} {kl : Lit} (ha : ev? Γ a = some (.map (some g))) (hb : ev? Γ b = some (enc x)) (h : MpF P k enc w g M) (K : Keyed P k) (henc : ∀ a b, enc a = enc b → a = b) (ht : P.underlying t = some (.map k e)) (hkey : keyOf P k (enc x) = some kl) :
  qV P ⟨dst, .call ⟨.builtin .delete, #[a, b], #[t, k]⟩, T0, pos, after, gd⟩ Γ w (fun _ w' => MpF P k enc w' g (fun y => if y = x then none else M y) ∧ Frm [g] w w' ∧ w'.heap.size = w.heap.size) := fun ρ hρ => by
 obtain ⟨w', h1, h2⟩ := qHy (T0 := T0) h K henc ht hkey
 exact ⟨.tuple #[], w', by simp [execOp, resolve, invoke, builtin, hρ _ _ ha, hρ _ _ hb, h1, Result.andThen], h2⟩
end
end
section
open Go.RowKit
section
variable {P : Program} {Γ : Env} {w : World} {dst : Option Tmp} {pos : String} {after : Array Edge} {g : Option (Nat × Bool)} {T : TypeId}
theorem qV.mark {t e : TypeId} {x : Operand} {gb n c : Nat} {cs : Array Value} (hx : ev? Γ x = some (.slice (some ⟨gb, 0, none⟩) n c)) (ht : P.underlying t = some (.slice e)) (he : P.underlying e = some (.int .u8)) (hb : Blk w gb e cs) :
  qV P ⟨dst, .convert t t x, T, pos, after, g⟩ Γ w (fun r w' => r = .slice (some ⟨gb, 0, none⟩) n c ∧ Fro w' gb e cs ∧ Frm [gb] w w') := fun ρ hρ => by
 have hsh : w.shape? gb = some (e, cs.size) := by
  unfold Blk at hb
  unfold World.shape?
  rw [hb]
 refine ⟨.slice (some ⟨gb, 0, none⟩) n c, w.freeze ⟨gb, cs.size, none⟩ 1, ?_, rfl, ?_, ?_⟩
 · simp [execOp, hρ _ _ hx, convert, run_underlying ht, run_underlying he, markStringish, hsh]
 ·
  unfold Blk at hb
  unfold Fro World.freeze
  rw [if_neg jd]
  show (w.heap.modify gb _)[gb]? = _
  rw [Array.getElem?_modify, if_pos rfl, hb]
  rfl
 refine ⟨?_, ?_, ?_, ?_, ?_⟩
 · unfold World.freeze; rw [if_neg jd]
 · unfold World.freeze; rw [if_neg jd]
 · unfold World.freeze; rw [if_neg jd]
 · unfold World.freeze; rw [if_neg jd]; simp
 intro i hi hni
 unfold World.freeze
 rw [if_neg jd]
 show (w.heap.modify gb _)[i]? = _
 rw [Array.getElem?_modify, if_neg (fun h => hni (by simp [h]))]
def wO (w : World) (e : TypeId) (A : Option Addr) (n c : Nat) (xs : List Value) : Prop := Own w e 1 A n c xs ∨ ∃ (gb : Nat) (cs : Array Value), A = some ⟨gb, 0, none⟩ ∧ c = n ∧ cs.toList = xs ∧ xs.length = n ∧ Fro w gb e cs
theorem wO.frm {w w' : World} {S : List Nat} {e n c : Nat} {A : Option Addr} {xs : List Value} (h : wO w e A n c xs) (k : Frm S w w') (hS : ∀ x ∈ ob A, x ∉ S) : wO w' e A n c xs := by
 rcases h with h | ⟨gb, cs, rfl, h1, h2, h3, h4⟩
 · exact .inl (h.frm k hS)
 exact .inr ⟨gb, cs, rfl, h1, h2, h3, h4.frm k (hS gb (by simp [ob]))⟩
theorem wO.cells {w : World} {e n c gb : Nat} {cs : Array Value} {xs : List Value} (h2 : cs.toList = xs) (h4 : Fro w gb e cs) : ∀ j u, xs[j]? = some u → w.cell? ((⟨gb, 0, none⟩ : Addr).add j) = some u := by
 intro j u hu
 have e1 : (⟨gb, 0, none⟩ : Addr).add j = ⟨gb, j, none⟩ := by unfold Addr.add; split <;> simp_all
 rw [e1, h4.cell, ← hu, ← h2, zgr]
theorem qV.appF {t e : TypeId} {x y : Operand} {z : Value} {bytes n m cap c2 : Nat} {A B : Option Addr} {xs news : List Value} (hx : ev? Γ x = some (.slice A n cap)) (hy : ev? Γ y = some (.slice B m c2))
  (ht : P.underlying t = some (.slice e)) (hi : (P.info? e).map (fun i => (i.zero, i.size, i.bytes)) = some (some z, 1, bytes)) (hzs : z.cells.size = 1)
  (ho : wO w e A n cap xs) (hr : Rd w 1 B m news) (h1 : ∀ u ∈ news, u.oneCell' = true) (hm : 0 < m) (h63 : n + m ≤ 9223372036854775807) (hb : (n + m) * bytes ≤ 140737488355328) :
  qV P ⟨dst, .call ⟨.builtin .append, #[x, y], #[t, t]⟩, T, pos, after, g⟩ Γ w
   (fun r w' => ∃ A' c', r = .slice A' (n + m) c' ∧ Own w' e 1 A' (n + m) c' (xs ++ news) ∧ Frm (ob A) w w' ∧ ∀ x ∈ ob A', x ∈ ob A ∨ w.heap.size ≤ x) := by
 rcases ho with ho | ⟨gb, cs, rfl, rfl, h2, h3, h4⟩
 ·
  intro ρ hρ
  obtain ⟨r, w', hrun, A', c', rfl, k1, k2, k3⟩ := qV.app hx hy ht hi hzs jd ho hr h1 h63 hb ρ hρ
  exact ⟨_, w', hrun, A', c', rfl, k1, k2, fun x hx => by
   rcases k3 with h | h
   · exact .inl (h ▸ hx)
   rw [h] at hx; simp only [za] at hx; exact .inr jo⟩
 intro ρ hρ
 obtain ⟨i0, hi0, hz0, hz1, hz2⟩ := info_parts hi
 obtain ⟨ad, rfl, hlt, hcell⟩ := hr.2 hm
 have ex : (execOp ρ ⟨dst, .call ⟨.builtin .append, #[x, y], #[t, t]⟩, T, pos, after, g⟩).run P w = ((Builtin.append_ #[t, t] T #[.slice (some ⟨gb, 0, none⟩) cap cap, .slice (some ad) m c2]).run P w).andThen fun a w => .ok (.value a) w := by
  simp [execOp, resolve, invoke, builtin, hρ _ _ hx, hρ _ _ hy]
 obtain ⟨v', w', hrun, hown, hgr⟩ := run_append_arg_grows (P := P) w t T e i0 z 1 bytes ht hi0 hz0 hz1 hz2 hzs jd ⟨gb, 0, none⟩ cap cap xs jo (wO.cells (n := cap) (c := cap) h2 h4) ad m c2 news hr.1 hcell jo h63 hb
 rcases hown.2 with ⟨rfl, h0⟩ | ⟨g', cap', cur', rfl, k1, k2, k3, k4, k5, k6⟩
 · omega
 have hfr : Frm [] w w' := Frm.grown hgr
 exact ⟨_, w', by rw [ex, hrun]; rfl, some ⟨g', 0, none⟩, cap', rfl, ⟨hown.1, .inr ⟨g', cap', cur', rfl, zj _, k2, k3, k4, k5, k6⟩⟩, hfr.mono jp, fun x hx => by simp only [ob, za] at hx; exact .inr jo⟩
end
theorem bG {l : List Nat} {i : Nat} (h : i < l.length) : l.getD i 0 ∈ l := by
 rw [zb, ze h]
 exact zbp h
theorem rH (n : Nat) (w : World) (hn : n ≤ 1000000000) : Calls Tryz.prog 97 #[jI1 n] w fun e w' => e = .returned (jI1 (qI n)) ∧ w = w' := by
 refine jV Tryz.func97 Tryz.ntmps97 Tryz.results97 ?_
 refine jS (jR (jz 0 (jO (jN (jv1 0 ?_)))))
 refine jS (jR (jm rfl (jb rfl rfl (Bin.add_i64 _ 126 jo) (jb rfl rfl (Bin.sub_i64 _ 1 jo jo) (jb rfl rfl (Bin.quo_i64 _ 126 jo jo) (ja rfl (jO (jN (jv1 2 ?_)))))))))
 refine jT ?_
 refine qS rfl ?_
 rw [show n + 126 - 1 = n + 125 by omega]
 exact ⟨rfl, rfl⟩
theorem uN (v n : Nat) (w : World) (hn1 : 1 ≤ n) (hn8 : n ≤ 8) (hv : v < 256 ^ n) :
  Calls Tryz.prog 135 #[jI2 v, jI1 n] w fun e w' => ∃ B d, e = .returned (.slice B n d) ∧ Own w' 5 1 B n d (NB (qC v n)) ∧ Frm [] w w' ∧ ∀ x ∈ ob B, w.heap.size ≤ x := by
 refine jV Tryz.func135 Tryz.ntmps135 Tryz.results135 ?_
 refine jS (jR (ja rfl (jO (jN (jv2 0 1 ?_)))))
 refine jS (jR (jm rfl (jM ?_)))
 refine jc (jE2 Tryz.call155) (sD v n _ hn1 hn8 hv) ?_
 rintro e w1 ⟨B, d, rfl, ho, hf, hup⟩
 refine ⟨_, rfl, ?_⟩
 refine jm rfl (jY rfl rfl (jY rfl rfl (ja rfl (ja rfl (jO (jN (jv1 5 ?_)))))))
 refine jS (jR (jm rfl (ja rfl (jO (jN (jv1 4 ?_))))))
 refine jT ?_
 refine qS rfl ?_
 exact ⟨B, d, rfl, ho, hf, hup⟩
theorem uP (A : Option Addr) (c n : Nat) (bs : List Nat) (w : World) (hn : bs.length = n) (hl : n ≤ 128) (hr : Rd w 1 A n (NB bs)) :
  Calls Tryz.prog 134 #[.slice A n c] w fun e w' => ∃ B d, e = .returned (.slice B 128 d) ∧ Own w' 5 1 B 128 d (NB (eS bs 128)) ∧ Frm [] w w' ∧ ∀ x ∈ ob B, w.heap.size ≤ x := by
 refine jV Tryz.func134 Tryz.ntmps134 Tryz.results134 ?_
 refine jS (jR (ja rfl (jO (jN (jv1 0 ?_)))))
 refine jS (jR (jM ?_))
 refine jc (jE2 Tryz.call146) (tA A c n 128 bs w hn jo jo hr) ?_
 rintro e w1 ⟨B, d, rfl, ho, hf, hup⟩
 rw [oT (jo : bs.length ≤ 128)] at ho ⊢
 refine ⟨_, rfl, ?_⟩
 refine jm rfl (jY rfl rfl (jY rfl rfl (ja rfl (ja rfl (jO (jN (jv1 3 ?_)))))))
 refine jS (jR (jm rfl (ja rfl (jO (jN (jv1 2 ?_))))))
 refine jT ?_
 refine qS rfl ?_
 exact ⟨B, d, rfl, ho, hf, hup⟩
theorem nJ (g : Nat) (F : List Nat) (d : Dk) (w : World) (hD : IsDk w g F d) : Calls Tryz.prog 35 #[jI0 g] w fun e w' => e = .returned (.bool (decide (d.has.length < 44))) ∧ w = w' := by
 refine jV Tryz.func35 Tryz.ntmps35 Tryz.results35 ?_
 refine jS (jR (ja rfl (jO (jN (jv1 0 ?_)))))
 refine jS (jR (jM ?_))
 refine jc0 (jE1 zfe) (dU g F d w hD) ?_
 refine jb rfl rfl (Bin.lssN _ 44) (ja rfl (jO (jN (jv1 2 ?_))))
 refine jT ?_
 refine qS rfl ?_
 exact ⟨rfl, rfl⟩
theorem mQ (x : Pr) (w : World) (hx : x.2 < 18446744073709551616) : Calls Tryz.prog 73 #[.agg (prC x).toArray] w fun e w' => e = .returned (jI1 (x.2 / 65536 % 65536)) ∧ Frm [] w w' := by
 refine jV Tryz.func73 Tryz.ntmps73 Tryz.results73 ?_
 refine jS (jR ?_)
 refine Ops.m (qV.box rfl) rfl ?_
 rintro _ w1 ⟨rfl, hF1⟩
 have hb1 : Blk w1 w.heap.size 128 #[jI2 x.1, jI2 x.2] := hF1.blk
 refine jz 0 (jO (jN (jv1 1 ?_)))
 refine jS (jR (jf rfl zbj rfl zy (jl rfl zai (hb1.cell 1) (jb rfl rfl (Bin.shr_u64 _ 16 jo) (jb rfl rfl (Bin.and_u64 _ 65535 jo jo) ?_)))))
 rw [show x.2 / 2 ^ 16 &&& 65535 = x.2 / 65536 % 65536 from Nat.and_two_pow_sub_one_eq_mod _ 16]
 refine je (Run.convN _ rfl zr zz (by simp only [bmax]; omega)) (ja rfl (jO (jN (jv1 2 ?_))))
 refine jT ?_
 refine qS rfl ?_
 exact ⟨rfl, hF1.frm⟩
theorem vA (L : Option Addr) (n c : Nat) (l : List Nat) (w : World) (hn : l.length = n) (hnb : n ≤ 59) (hl : Rd w 1 L n (ZN l)) (hp : ∀ p ∈ l, p < 65536) :
  Calls Tryz.prog 108 #[.slice L n c] w fun e w' => ∃ B d, e = .returned (.slice B 128 d) ∧ Own w' 5 1 B 128 d (NB (bR l)) ∧ Frm [] w w' ∧ ∀ x ∈ ob B, w.heap.size ≤ x := by
 refine jV Tryz.func108 Tryz.ntmps108 Tryz.results108 ?_
 refine jS (jR (ja rfl (jO (jN (jv1 0 ?_)))))
 refine jS (jR ?_)
 refine Ops.m (qV.buildN (cells := #[.int .u8 ((104 : Nat) : Int), .int .u8 ((115 : Nat) : Int), .int .u8 ((117 : Nat) : Int), .int .u8 ((112 : Nat) : Int)]) (evs.cons rfl (evs.cons rfl (evs.cons rfl (evs.cons rfl evs.nil)))) zg zam pM rfl rfl jK) rfl ?_
 rintro _ w1 ⟨rfl, hF1⟩
 refine Ops.m (qV.mark rfl zg zac hF1.blk) rfl ?_
 rintro _ wm ⟨rfl, hFr, hfm⟩
 have ho1 : wO wm 5 (some ⟨w.heap.size, 0, none⟩) 4 4 (NB fP) := .inr ⟨_, _, rfl, rfl, rfl, rfl, hFr⟩
 refine jm rfl (jL rfl zn (je (Run.convN _ rfl zz zr (by simp only [bmax]; omega)) ?_))
 refine jc (jE2 Tryz.call135) (uN n 2 _ jo jo jo) ?_
 rintro e w2 ⟨B2, d2, rfl, ho2, hf2, hup2⟩
 refine ⟨_, rfl, ?_⟩
 have ho1 := ho1.frm hf2 jp
 have K := (hF1.frm.own hfm jp).trans hf2 jp
 have s1 := hF1.size
 have s2 := hfm.size
 refine Ops.m (qV.appF rfl rfl zg (eY) rfl ho1 ho2.rd (eZ _) jo jo jo) rfl ?_
 rintro _ w3 ⟨B3, d3, rfl, ho3, hf3, hup3⟩
 have K := K.own hf3 (by simp [ob])
 have hup3 : ∀ x ∈ ob B3, w.heap.size ≤ x := fun x hx => by
  have := hf2.size
  rcases hup3 x hx with h | h
  · simp [ob] at h; omega
  omega
 rw [← dM] at ho3
 refine ja rfl (jO (jN (jv2 0 3 ?_)))
 refine jS (jS (jR (jm rfl (jL rfl zn ?_))))
 refine jx .i64 0 ?_
 refine jO (jN (jv4 3 13 14 15 ?_))
 refine jB ?_
 refine VC.loop (σ := Nat × Option Addr × Nat) (fun s => [(3, .slice s.2.1 (6 + 2 * s.1) s.2.2), (13, .slice L n c), (14, jI1 n), (15, jI1 s.1)]) (fun s wr => s.1 ≤ n ∧ Own wr 5 1 s.2.1 (6 + 2 * s.1) s.2.2 (NB (fP ++ qC n 2 ++ (l.take s.1).flatMap fun p => qC p 2)) ∧ Frm [] w wr ∧ ∀ x ∈ ob s.2.1, w.heap.size ≤ x) (fun s => n - s.1) (0, B3, d3) (js4 rfl rfl rfl rfl) ⟨zj _, by simpa using ho3, K, hup3⟩ ?_
 rintro ⟨k, B, d⟩ wr ⟨hk, ho, K, hup⟩
 dsimp only at hk ho hup ⊢
 refine jS (jR (jb rfl rfl (Bin.lssN _ _) (jO (jN (jS ?_)))))
 refine jD rfl (fun hc1 => ?_) fun hc1 => ?_
 ·
  obtain ⟨ad, hS, hel⟩ := rdZ (hl.frm K jp) hn hc1
  subst hS
  have hpx := hp _ (bG (jo : k < l.length))
  have hsn : (l.take (k + 1)).flatMap (fun p => qC p 2) = (l.take k).flatMap (fun p => qC p 2) ++ qC (l.getD k 0) 2 := by
   rw [zcq, ze (jo : k < l.length), zb, ze (jo : k < l.length), zan]
   simp
  generalize l.getD k 0 = p at hel hpx hsn
  refine jQ (jN (jv4 3 13 14 15 ?_))
  refine jS (jB (jS (jR (je (Run.index1 _ rfl rfl zn zm jo) (jl rfl zaa hel (ja rfl (jO (jN (jv5 3 5 13 14 15 ?_)))))))))
  refine jR (jm rfl (jm rfl (je (Run.convN _ rfl zz zr (by simp only [bmax]; omega)) ?_)))
  refine jc (jE2 Tryz.call135) (uN p 2 _ jo jo jo) ?_
  rintro e w4 ⟨B4, d4, rfl, ho4, hf4, hup4⟩
  refine ⟨_, rfl, ?_⟩
  have ho := ho.frm hf4 jp
  have K := K.trans hf4 jp
  have s4 := K.size
  refine Ops.m (qV.app rfl rfl zg (eY) rfl jd ho ho4.rd (eZ _) jo jo) rfl ?_
  rintro _ w5 ⟨B5, d5, rfl, ho5, hf5, hup5⟩
  rw [← dM, zab, ← hsn] at ho5
  rw [show 6 + 2 * k + 2 = 6 + 2 * (k + 1) by omega] at ho5 ⊢
  refine ja rfl (jO ?_)
  refine qH (jN ?_)
  refine jv4 3 13 14 15 ?_
  refine jR (jb rfl rfl (Bin.add_i64 _ 1 jo) (jm rfl (jO ?_)))
  refine jN ⟨(k + 1, B5, d5), (js4 rfl rfl rfl rfl), ?_, ?_⟩
  ·
   exact ⟨hc1, ho5, K.own hf5 hup, fun x hx => by
    rcases hup5 with h | h
    · rw [h] at hx; exact hup x hx
    rw [h] at hx; simp at hx; omega⟩
  exact jq
 refine jX ?_
 refine qZ (qZ (qN ?_))
 refine jN (jv1 3 ?_)
 refine jS (jR (jM ?_))
 have hki : k = n := jo
 subst hki
 have hbody : Rd wr 1 B (6 + 2 * k) (NB (dI l)) := by
  rw [zh jo] at ho
  have e := ho.rd
  rw [dI, hn]
  exact e
 refine jc (jE1 Tryz.call143) (nI B d (6 + 2 * k) (dI l) _ (by rw [eE]; omega) jo (lH _) hbody) ?_
 rintro e w4 ⟨B5, d5, rfl, ho5, hf5, hup5⟩
 refine ⟨_, rfl, ?_⟩
 refine jc (jE1 Tryz.call134) (uP B5 d5 (6 + 2 * k + 4) (fW (dI l)) _ (by rw [fY, eE]; omega) jo ho5.rd) ?_
 rintro e w6 ⟨B6, d6, rfl, ho6, hf6, hup6⟩
 refine ⟨_, rfl, ?_⟩
 refine ja rfl (jO (jN (jv1 2 ?_)))
 refine jT ?_
 refine qS rfl ?_
 have hk1 := K.size
 have hk2 := hf5.size
 refine ⟨B6, d6, rfl, ho6, (K.trans hf5 jp).trans hf6 jp, fun x hx => ?_⟩
 have := hup6 x hx
 omega
theorem qVf (id n c np cp : Nat) (A L : Option Addr) (D pg : List Nat) (w : World) (hid : id < 18446744073709551616) (hn : D.length = n) (hnb : n ≤ 4032) (hB : ∀ b ∈ D, b < 256) (hr : Rd w 1 A n (NB D)) (hpn : pg.length = np) (hpb : np ≤ 1000000) (hl : Rd w 1 L np (ZN pg)) (hp : ∀ p ∈ pg, p < 2048) :
  Calls Tryz.prog 106 #[jI2 id, .slice A n c, .slice L np cp] w fun e w' => e = .returned (.agg (prC (cE id D pg)).toArray) ∧ Frm [] w w' := by
 refine jV Tryz.func106 Tryz.ntmps106 Tryz.results106 ?_
 refine jS (jR ?_)
 refine Ops.m (qV.alloc dL) rfl ?_
 rintro _ w1 ⟨rfl, hF1⟩
 have hr := hr.frm hF1.frm jp
 have hl := hl.frm hF1.frm jp
 have hat : atP pg ≤ 2048 := by
  unfold atP
  split
  · omega
  have := hp _ (bG (jo : 0 < pg.length))
  omega
 refine jO (jN (jS (jR ?_)))
 refine jy .u64 0 ?_
 refine jO (jN (jS (jS (jR (jm rfl (jL rfl zn (jb rfl rfl (Bin.gtrN _ 0) (jO (jN (jv6 0 1 2 6 7 10 ?_))))))))))
 refine VC.meet (σ := Unit) (fun s => [(0, jI2 id), (1, .slice A n c), (6, jI0 w.heap.size), (7, jI2 (atP pg))]) (fun s wz => w1 = wz) ?_ ?_
 ·
  refine jD rfl (fun hc1 => ?_) fun hc1 => ?_
  ·
   obtain ⟨ad, hS, hel⟩ := rdZ hl hpn hc1
   subst hS
   have hpx := hp _ (bG (jo : 0 < pg.length))
   refine jR (jm rfl (je (Run.index1 0 rfl rfl zn zm jo) (jl rfl zaa (hel) (je (Run.convN _ rfl zz zr (by simp only [bmax]; omega)) (jb rfl rfl (Bin.add_u64 _ 1 jo) (ja rfl (jO ?_)))))))
   refine jN ⟨(), (js4 rfl rfl rfl (by rw [atP, if_neg jo]; rfl)), ?_⟩
   rfl
  refine jQ ?_
  refine jN ⟨(), (js4 rfl rfl rfl (by rw [atP, if_pos jo]; rfl)), ?_⟩
  rfl
 rintro _ _ rfl Γ hΓ
 refine jN (VC.sub _ hΓ (jS (jR (jm rfl (jm rfl (jm rfl (jL rfl zg (je (Run.convN _ rfl zz zr (by simp only [bmax]; omega)) (jb rfl rfl (Bin.shl_u64 _ 16 jo jo) (jb rfl rfl (Bin.or_u64 _ _ jo jo) (jM ?_)))))))))))
 refine jc (jE1 Tryz.call74) (tF A c n D _ hn jo hB hr) ?_
 rintro e w2 ⟨rfl, hf2⟩
 refine ⟨_, rfl, ?_⟩
 have hc32 := kW D
 have e1 : atP pg ||| n * 2 ^ 16 = atP pg + n * 65536 := qWp 16 jo
 refine je (Run.convN _ rfl zby zr (by simp only [bmax]; omega)) (jb rfl rfl (Bin.shl_u64 _ 32 jo jo) (jb rfl rfl (Bin.or_u64 _ _ jo jo) ?_))
 rw [e1, qWp 32 jo]
 refine je (Run.build (evs.cons rfl (evs.cons rfl evs.nil)) dL (fE).choose_spec.1 (fE).choose_spec.2 (cells := (prC (cE id D pg)).toArray) (by rw [cE, hn]; rfl)) ?_
 refine Ops.st (qT.storeA rfl rfl zu (hF1.blk.frm hf2 jp) rfl (eH _)) ?_
 rintro w3 ⟨hb3, hf3, hs3⟩
 refine jO (jN (jv1 6 ?_))
 refine jT ?_
 refine eO ?_
 refine cW rfl zea zu (hb3.cells) (by first | rfl | (simp; done) | (simp [*]; done)) ?_
 refine cY ?_
 exact ⟨rfl, (hF1.frm.trans hf2 jp).own hf3 jp⟩
end
section
open Go.RowKit
open Go.Maps (Keyed)
abbrev fO : Nat → Value := fun z => jI2 z
theorem mE : ∀ a b, fO a = fO b → a = b := fun a b h => by
 injection h with _ h
 exact Int.ofNat.inj h
theorem kP (z : Nat) (h : z < 18446744073709551616) : keyOf Tryz.prog 54 (fO z) = some (.int .u64 ((z : Nat) : Int)) := by
 have hw : (Lit.int .u64 ((z : Nat) : Int)).wf = true := by
  simp [Lit.wf, IntKind.min, IntKind.max, IntKind.signed, IntKind.bits]
  omega
 simp [keyOf, mapKey, zr, hw]
theorem qHz (key : Value) (kl : Lit) (h : keyOf Tryz.prog 54 key = some kl) : ∃ x, key = fO x := by
 obtain ⟨x, rfl, -, hw⟩ := Go.Maps.keyOf_int_inv zr h
 have : 0 ≤ x := by
  simp [Lit.wf, IntKind.min, IntKind.max, IntKind.signed, IntKind.bits] at hw
  omega
 exact ⟨x.toNat, by show Value.int .u64 x = .int .u64 ((x.toNat : Nat) : Int); rw [zgf this]⟩
abbrev Cq := Nat × (Option Addr × Nat × List Nat) × Bool
def cq0 : Cq := (0, (none, 0, []), false)
def cqC (x : Cq) : List Value := [jI2 x.1, SL x.2.1, .bool x.2.2]
theorem sZ (x : Cq) : (cqC x).length = 3 := rfl
theorem oG (x : Cq) : ∀ u ∈ cqC x, u.oneCell' = true := by
 intro u hu
 simp only [cqC, zaq, zaz, or_false] at hu
 rcases hu with rfl | rfl | rfl <;> rfl
def chO (x : Cq) : Ch := (x.1, x.2.1.2.2, x.2.2)
def chL (l : List Cq) : List Ch := l.map chO
theorem mF (l : List Cq) : (chL l).length = l.length := by simp [chL]
structure RdC (w : World) (S : Option Addr) (n : Nat) (l : List Cq) : Prop where
 len : l.length = n
 rd : Rd w 3 S n (l.flatMap cqC)
 el : ∀ x ∈ l, Rd w 1 x.2.1.1 x.2.1.2.2.length (NB x.2.1.2.2) ∧ x.2.1.2.2.length ≤ x.2.1.2.1
 num : ∀ x ∈ l, x.1 < 18446744073709551616 ∧ x.2.1.2.2.length ≤ 1000000
 oct : ∀ x ∈ l, ∀ b ∈ x.2.1.2.2, b < 256
theorem RdC.frm {w w' : World} {S : Option Addr} {n : Nat} {l : List Cq} (h : RdC w S n l) (k : Frm [] w w') : RdC w' S n l := ⟨h.len, h.rd.frm k jp, fun x hx => ⟨(h.el x hx).1.frm k jp, (h.el x hx).2⟩, h.num, h.oct⟩
theorem RdC.cell {w : World} {S : Option Addr} {n : Nat} {l : List Cq} (h : RdC w S n l) {k : Nat} (hk : k < n) : ∃ ad, S = some ad ∧ ∀ j v, (cqC (l.getD k cq0))[j]? = some v → w.cell? ((ad.add (k * 3)).add j) = some v := rdF cqC 3 sZ h.rd h.len hk cq0
theorem nN {l : List Cq} {i : Nat} (h : i < l.length) : l.getD i cq0 ∈ l := by
 rw [zb, ze h]
 exact zbp h
theorem gH {l : List Cq} {i : Nat} (h : i < l.length) : chL (l.take (i + 1)) = chL (l.take i) ++ [chO (l.getD i cq0)] := by
 rw [zcq, ze h, zb, ze h, chL, zv]
 rfl
theorem qX8 (f : FuncId) (us : List Value) (n r : Nat) (w : World) (hn : n ≤ 1000000) (hr : r ≤ n) (hf : ∀ args w, (callFunc f args).run Tryz.prog w = .ok (.enter f args) w)
  (hcl : ∀ W j, Frm [] w W → j < n → Calls Tryz.prog f (jI1 j :: us).toArray W fun e w' => e = .returned (.bool (decide (r ≤ j))) ∧ qP W w') :
  Calls Tryz.prog 95 #[jI1 n, .func (.func f) ([] : List Value).toArray us.toArray] w fun e w' => e = .returned (jI1 r) ∧ qP w w' := by
 refine jV Tryz.func95 Tryz.ntmps95 Tryz.results95 ?_
 refine jS (jR (jz 0 (jO (jN (jv2 0 1 ?_)))))
 refine jS (jR (jm rfl (jz 0 (ja rfl (jO (jN (jv3 1 5 6 ?_)))))))
 refine jS (jB ?_)
 refine VC.loop (σ := Nat × Nat) (fun s => [(1, .func (.func f) ([] : List Value).toArray us.toArray), (5, jI1 s.1), (6, jI1 s.2)]) (fun s wr => s.1 ≤ r ∧ r ≤ s.2 ∧ s.2 ≤ n ∧ qP w wr) (fun s => s.2 - s.1) (0, n) (js3 rfl rfl rfl) ⟨zj _, hr, zag _, qP.refl _⟩ ?_
 rintro ⟨lo, hi⟩ wr ⟨hlo, hhi, hhn, hd⟩
 dsimp only at *
 refine jS (jS (jR (jm rfl (jm rfl (jb rfl rfl (Bin.lssN _ _) (jO (jN (jv4 1 5 6 11 ?_))))))))
 refine jD rfl (fun hc1 => ?_) fun hc1 => ?_
 ·
  refine jQ (jN (jv3 1 5 6 ?_))
  refine jB (jS (jR (jm rfl (jm rfl (jb rfl rfl (Bin.add_i64 _ _ jo) (je (Run.convN _ rfl zz Tryz.underlying140 (by simp only [bmax]; omega)) (jb rfl rfl (Bin.shr_u64 _ 1 jo) (je (Run.convN _ rfl Tryz.underlying140 zz (by simp only [bmax]; omega)) (ja rfl (jO (jN (jv4 1 5 6 7 ?_))))))))))))
  refine jS (jR (jm rfl (jM ?_)))
  refine Ops.cl (cM.dyn rfl (evs.cons rfl evs.nil) hf) (hcl _ _ hd.frm jo) rfl ?_
  rintro e w3 ⟨rfl, hd3⟩
  refine ⟨_, rfl, ?_⟩
  refine je (Run.not rfl) (jO (jN (jv5 1 5 6 7 21 ?_)))
  refine VC.condB rfl (fun hc2 => ?_) (fun hc2 => ?_)
  ·
   refine jR (jm rfl (jb rfl rfl (Bin.add_i64 _ 1 jo) (ja rfl (jO ?_))))
   refine qH (jN ⟨((lo + hi) / 2 + 1, hi), (js3 rfl rfl rfl), ?_, ?_⟩)
   · exact ⟨by simp at hc2; omega, hhi, hhn, hd.trans hd3⟩
   exact jq
  refine jR (jm rfl (ja rfl (jO ?_)))
  refine qH (jN ⟨(lo, (lo + hi) / 2), (js3 rfl rfl rfl), ?_, ?_⟩)
  · exact ⟨hlo, by simp at hc2; omega, jo, hd.trans hd3⟩
  exact jq
 refine jX ?_
 refine qZ (qZ (qN ?_))
 refine jN (jv1 5 ?_)
 refine jS (jR (jm rfl (ja rfl (jO (jN (jv1 4 ?_))))))
 refine jT ?_
 refine qS rfl ?_
 obtain rfl : lo = r := jo
 exact ⟨rfl, hd⟩
theorem qWt (i gs gi n c id r : Nat) (A : Option Addr) (l : List Pr) (w : World) (hn : l.length = n) (hnb : n ≤ 1000000) (hl : Rd w 2 A n (PC2 l)) (hok : OkP l) (hi : i < n) (hid : id < 18446744073709551616) (hr : r ≤ i ↔ id ≤ (l.getD i (0, 0)).1)
  (h1 : Blk w gs 89 #[.slice A n c]) (h2 : Blk w gi 54 #[jI2 id]) :
  Calls Tryz.prog 96 #[jI1 i, jI0 gs, jI0 gi] w fun e w' => e = .returned (.bool (decide (r ≤ i))) ∧ qP w w' := by
 have hw := (hok _ (fN (jo : i < l.length))).1
 have er : decide (r ≤ i) = decide (id ≤ (l.getD i (0, 0)).1) := decide_eq_decide.2 hr
 obtain ⟨ad, hdA, hel⟩ := gM (hl.frm (qP.drew w).frm jp) hn hi
 subst hdA
 generalize l.getD i (0, 0) = x at hel hw er
 obtain ⟨xk, xv⟩ := x
 refine jV Tryz.func96 Tryz.ntmps96 Tryz.results96 ?_
 refine jS (jR (ja rfl (jO (jN (jv3 0 1 2 ?_)))))
 refine jS ?_
 refine VC.still jK jK ?_
 refine qE (Run.load rfl zci ((h1.drawn (qP.drew w)).cell 0)) ?_
 refine qM ?_
 refine qE (Run.indexS _ rfl rfl zl zu jo) ?_
 refine qE (Run.fieldAddr rfl zbj rfl zy jd) ?_
 refine qE (Run.load rfl zai (hel 0 _ rfl)) ?_
 refine qE (Run.load rfl zai ((h2.drawn (qP.drew w)).cell 0)) ?_
 refine qE (Run.bin rfl rfl (Bin.geqN _ _)) ?_
 refine qA ?_
 refine bJ.nil ?_
 refine jN (jv1 4 ?_)
 refine jT ?_
 refine qS rfl ?_
 rw [er]
 exact ⟨rfl, qP.drew w⟩
theorem mX (n c id : Nat) (A : Option Addr) (l : List Pr) (w : World) (hn : l.length = n) (hnb : n ≤ 1000000) (hl : Rd w 2 A n (PC2 l)) (hok : OkP l) (hso : Srt l) (hid : id < 18446744073709551616) :
  Calls Tryz.prog 42 #[.slice A n c, jI2 id] w fun e w' => e = .returned (.tuple #[jI1 (cD l id), .bool (decide (id ∈ l.map (·.1)))]) ∧ Frm [] w w' := by
 have hri : ∀ j, j < l.length → (cD l id ≤ j ↔ id ≤ (l.getD j (0, 0)).1) := fun j hj => yO hso id hj
 have hle := qWr (l := l) id
 have hin := qKb hso id
 generalize cD l id = i at hri hle hin ⊢
 refine jV Tryz.func42 Tryz.ntmps42 Tryz.results42 ?_
 refine jS (jR ?_)
 refine Ops.m (qV.box rfl) rfl ?_
 rintro _ w1 ⟨rfl, hF1⟩
 refine Ops.m (qV.box rfl) rfl ?_
 rintro _ w2 ⟨rfl, hF2⟩
 have h1 := hF1.blk.frm hF2.frm jp
 have h2 := hF2.blk
 have K := hF1.frm.trans hF2.frm jp
 have hl2 := hl.frm K jp
 refine jz 0 (ja rfl (jO (jN (jv2 2 3 ?_))))
 refine jS (jR (jl rfl zci (h1.cell 0) (jL rfl zl (je (Run.mkFunc evs.nil (evs.cons rfl (evs.cons rfl evs.nil))) ?_))))
 refine jc (jE2 Tryz.call95) (qX8 _ [jI0 w.heap.size, jI0 w1.heap.size] n i _ jo jo Tryz.call96 (fun W j hF hj => qWt j _ _ n c _ i A l W hn hnb (hl2.frm hF jp) hok hj hid (hri j jo) (h1.frm hF jp) (h2.frm hF jp))) ?_
 rintro e w3 ⟨rfl, hd3⟩
 refine ⟨_, rfl, ?_⟩
 have K := K.drawn hd3
 have hl3 := hl2.frm (hd3.trans (qP.drew w3)).frm jp
 have h1 := h1.drawn (hd3.trans (qP.drew w3))
 have h2 := h2.drawn (hd3.trans (qP.drew w3))
 refine ja rfl (jO (jN (jv3 2 3 6 ?_)))
 refine jS ?_
 refine VC.splitR [(4, jI1 i)] (qP w3) 5 (.bool (decide (id ∈ l.map (·.1)))) ?_ ?_
 ·
  refine VC.still jK jK ?_
  refine qM ?_
  refine qM ?_
  refine qE (Run.load rfl zci (h1.cell 0)) ?_
  refine qE (Run.lenS rfl zl) ?_
  refine qE (Run.bin rfl rfl (Bin.lssN _ _)) ?_
  by_cases hs15 : i < n
  ·
   obtain ⟨ad, hdA, hel⟩ := gM hl3 hn hs15
   subst hdA
   have hw := (hok _ (fN (jo : i < l.length))).1
   generalize l.getD i (0, 0) = x at hel hw hin
   obtain ⟨xk, xv⟩ := x
   refine qM ?_
   refine qG (Run.load rfl zci (h1.cell 0)) ?_
   refine qG (Run.mv rfl) ?_
   refine qG (Run.indexS _ rfl rfl zl zu jo) ?_
   refine qG (Run.fieldAddr rfl zbj rfl zy jd) ?_
   refine qG (Run.load rfl zai (hel 0 _ rfl)) ?_
   refine qG (Run.load rfl zai (h2.cell 0)) ?_
   refine qG (Run.bin rfl rfl (Bin.eqlN _ _)) ?_
   by_cases hs23 : (l.getD i (0, 0)).1 = id
   ·
    refine qE (Run.pickT rfl rfl au) ?_
    refine qA ?_
    refine qA ?_
    refine bJ.nil ?_
    refine jN ⟨(js2 (jC (by simp only [hin, hn, *]; simp [*])) rfl), (qP.drew _)⟩
   refine qE (Run.pickT rfl rfl au) ?_
   refine qA ?_
   refine qA ?_
   refine bJ.nil ?_
   refine jN ⟨(js2 (jC (by simp only [hin, hn, *]; simp [*])) rfl), (qP.drew _)⟩
  refine qM ?_
  refine qU ?_
  refine qU ?_
  refine qU ?_
  refine qU ?_
  refine qU ?_
  refine qU ?_
  refine qU ?_
  refine qE (Run.pickF rfl rfl au) ?_
  refine qA ?_
  refine qA ?_
  refine bJ.nil ?_
  refine jN ⟨(js2 (jC (by simp only [hin, hn, *]; simp [*])) rfl), (qP.drew _)⟩
 intro Γ w9 hΓ hd9
 refine jN (VC.sub _ hΓ ?_)
 refine jT ?_
 refine bX rfl rfl ?_
 exact ⟨rfl, K.drawn hd9⟩
theorem qWu (S : Option Addr) (n c : Nat) (l : List Cq) (w : World) (hn : n ≤ 1000000) (hr : RdC w S n l) :
  Calls Tryz.prog 41 #[.slice S n c] w fun e w' => e = .returned (.bool (decide (cV (chL l)))) ∧ Frm [] w w' := by
 have hln := hr.len
 refine jV Tryz.func41 Tryz.ntmps41 Tryz.results41 ?_
 refine jS (jR (ja rfl (jO (jN (jv1 0 ?_)))))
 refine jS (jR ?_)
 refine Ops.m (qV.makeMap (k := 54) (enc := fO)) rfl ?_
 rintro _ w1 ⟨rfl, hmp, hf1, hs1⟩
 rw [qJ7] at hmp
 generalize hgm : w.heap.size = gm at *
 refine ja rfl (jO (jN (jv2 0 3 ?_)))
 refine jS (jS (jR (jm rfl (jL rfl zap ?_))))
 refine jx .i64 0 ?_
 refine jO (jN (jv4 3 7 8 9 ?_))
 refine jB ?_
 refine VC.loop (σ := Nat) (fun s => [(3, .map (some gm)), (7, .slice S n c), (8, jI1 n), (9, jI1 s)]) (fun s wr => s ≤ n ∧ MpF Tryz.prog 54 fO wr gm (MvN ((chL (l.take s)).map (·.1))) ∧ Frm [] w wr ∧ cV (chL (l.take s))) (fun s => n - s) 0 (js4 rfl rfl rfl rfl) ⟨zj _, by simpa [chL] using hmp, hf1, by simp [cV, chL]⟩ ?_
 rintro i wr ⟨hi, hmp, K, hK⟩
 have ks := K.size
 refine jS (jR (jb rfl rfl (Bin.lssN _ _) (jO (jN (jS ?_)))))
 refine jD rfl (fun hc1 => ?_) fun hc1 => ?_
 ·
  obtain ⟨ad, hS, hel⟩ := (hr.frm K).cell hc1
  subst hS
  have hsn := gH (jo : i < l.length)
  have hxn := hr.num _ (nN (jo : i < l.length))
  have hms := uH (chL (l.take i)) (chO (l.getD i cq0))
  rw [← hsn] at hms
  have hKn : ¬ cV (chL (l.take (i + 1))) → ¬ cV (chL l) := fun h hm => h (by
   have := uM hm (i + 1)
   rw [chL, ← zdn] at this
   exact this)
  generalize l.getD i cq0 = x at hel hsn hxn hms
  obtain ⟨xa, ⟨xA, xc, xb⟩, xg⟩ := x
  dsimp only [chO] at hms hxn hsn
  refine jQ (jN (jv4 3 7 8 9 ?_))
  refine jS (jB (jS (jR (je (Run.indexS _ rfl rfl zap zbi jo) (je (Run.loadA rfl zhi zbi hel (by first | rfl | (simp; done))) ?_)))))
  refine Ops.m (qV.alloc gC) rfl ?_
  rintro _ w2 ⟨rfl, hF2⟩
  refine Ops.st (qT.storeA rfl rfl zbi hF2.blk rfl (oG (xa, (xA, xc, xb), xg))) ?_
  rintro w3 ⟨hb3, hf3, hs3⟩
  have hb3 : Blk w3 wr.heap.size 93 #[jI2 xa, .slice xA xb.length xc, .bool xg] := hb3
  have K3 : Frm [] wr w3 := hF2.frm.own hf3 jp
  have hmp := hmp.frm K3 jp
  have K := K.trans K3 jp
  have hne := hmp.ne_blk hb3
  generalize hg7 : wr.heap.size = g7 at *
  refine jO (jN (jv5 3 5 7 8 9 ?_))
  refine jS (jS ?_)
  refine VC.split1 [(3, _), (5, _), (7, _), (8, _), (9, _)] (js5 rfl rfl rfl rfl rfl) 32 (.bool (decide (¬ (xa ∉ (chL (l.take i)).map (·.1) ∧ xb.length ≤ 4032 ∧ (xg = true → xb.length = 0))))) ?_ ?_
  ·
   refine jR ?_
   refine jm rfl (jf rfl zak rfl zy (jl rfl zai (hb3.cell 0) (je (Run.lookup (enc := fO) (x := xa) rfl rfl hmp (Go.Maps.int_keyed zr) Tryz.underlying163 qHh (kP _ jo)) ?_)))
   rw [qJ8]
   by_cases hs16 : xa ∈ (chL (l.take i)).map (·.1)
   ·
    refine jM ?_
    refine jU ?_
    refine jU ?_
    refine jU ?_
    refine jU ?_
    refine jW rfl rfl au (jM ?_)
    refine jU ?_
    refine jU ?_
    refine jU ?_
    refine Ops.skU rfl rfl ?_
    refine Ops.skU rfl rfl ?_
    refine Ops.skU rfl rfl ?_
    refine Ops.skU rfl rfl ?_
    refine jU ?_
    refine jW rfl rfl au (jO ?_)
    refine jN ⟨(js6 (jC (by grind)) rfl rfl rfl rfl rfl), rfl⟩
   refine jM ?_
   refine jk (Run.fieldAddr rfl zak rfl zah jd) ?_
   refine jk (Run.load rfl zba (hb3.cell 1)) ?_
   refine jk (Run.lenS rfl zg) ?_
   refine jk (Run.bin rfl rfl (Bin.gtrN _ 4032)) ?_
   by_cases hs21 : 4032 < xb.length
   ·
    refine jF rfl rfl au (jM ?_)
    refine jU ?_
    refine jU ?_
    refine jU ?_
    refine Ops.skU rfl rfl ?_
    refine Ops.skU rfl rfl ?_
    refine Ops.skU rfl rfl ?_
    refine Ops.skU rfl rfl ?_
    refine jU ?_
    refine jW rfl rfl au (jO ?_)
    refine jN ⟨(js6 (jC (by grind)) rfl rfl rfl rfl rfl), rfl⟩
   refine jF rfl rfl au (jM ?_)
   refine jk (Run.fieldAddr rfl zak rfl zat jd) ?_
   refine jk (Run.load rfl zcr (hb3.cell 2)) ?_
   by_cases hs25 : xg = true
   ·
    refine jG ?_
    refine jk (Run.fieldAddr rfl zak rfl zah jd) ?_
    refine jk (Run.load rfl zba (hb3.cell 1)) ?_
    refine jk (Run.lenS rfl zg) ?_
    refine jk (Run.bin rfl rfl (Bin.gtrN _ 0)) ?_
    by_cases hs30 : 0 < xb.length
    ·
     refine jk (Run.pickT rfl rfl au) ?_
     refine jF rfl rfl au (jO ?_)
     refine jN ⟨(js6 (jC (by grind)) rfl rfl rfl rfl rfl), rfl⟩
    refine jk (Run.pickT rfl rfl au) ?_
    refine jF rfl rfl au (jO ?_)
    refine jN ⟨(js6 (jC (by grind)) rfl rfl rfl rfl rfl), rfl⟩
   refine jG ?_
   refine jU ?_
   refine jU ?_
   refine jU ?_
   refine jU ?_
   refine jk (Run.pickF rfl rfl au) ?_
   refine jF rfl rfl au (jO ?_)
   refine jN ⟨(js6 (jC (by grind)) rfl rfl rfl rfl rfl), rfl⟩
  intro Γ hΓ
  refine jN (VC.sub _ hΓ ?_)
  refine jD rfl (fun hc2 => ?_) fun hc2 => ?_
  ·
   rw [show decide (cV (chL l)) = false from decide_eq_false (hKn (fun h => hc2 (hms.1 h).2))]
   refine jS (jR (ja rfl (jO (jN (jv1 2 ?_)))))
   refine jT ?_
   refine qQ (qR (qQ (qQ (qR (qQ (qS rfl ?_))))))
   exact ⟨rfl, K⟩
  have hc2 := Classical.not_not.1 hc2
  refine jQ (jN (jv5 3 5 7 8 9 ?_))
  refine jR (jm rfl (jf rfl zak rfl zy (jl rfl zai (hb3.cell 0) ?_)))
  refine Ops.st (qT.mapUpd (x := xa) rfl rfl rfl hmp (Go.Maps.int_keyed zr) mE Tryz.underlying163 (kP _ jo)) ?_
  rintro w8 ⟨hmp8, hf8, hs8⟩
  rw [qX0] at hmp8
  have K := K.own hf8 (by simp; omega)
  refine jO ?_
  refine qH (jN ?_)
  refine jv4 3 7 8 9 ?_
  refine jR (jb rfl rfl (Bin.add_i64 _ 1 jo) (jm rfl (jO ?_)))
  refine jN ⟨i + 1, (js4 rfl rfl rfl rfl), ?_, ?_⟩
  · exact ⟨hc1, by rw [hsn, zv]; exact hmp8, K, hms.2 ⟨hK, hc2⟩⟩
  exact jq
 refine jX ?_
 refine qZ (qZ (qN ?_))
 refine jN ?_
 refine VC.sub [] .nil ?_
 refine jS (jR (ja rfl (jO (jN (jT ?_)))))
 refine qS rfl ?_
 obtain rfl : i = n := jo
 rw [zh jo] at hK
 rw [show decide (cV (chL l)) = true from decide_eq_true hK]
 exact ⟨rfl, K⟩
theorem nR (l : List Nat) (k : Nat) : (NB l).take k = NB (l.take k) ∧ (NB l).drop k = NB (l.drop k) := ⟨by simp [NB, zdn], by simp [NB, List.map_drop]⟩
def PuS (b : Nat) (w : World) (X : List Nat) (ps : List Pq) : Prop := ∀ x ∈ ps, Rd w 1 x.2.1 x.2.2.2.length (NB x.2.2.2) ∧ ∀ y ∈ ob x.2.1, (y < w.heap.size ∧ y ∉ X) ∧ b ≤ y
theorem PuS.nil (b : Nat) (w : World) (X : List Nat) : PuS b w X [] := fun x hx => by cases hx
theorem PuS.frm {b : Nat} {w w' : World} {X : List Nat} {ps : List Pq} (h : PuS b w X ps) (k : Frm [] w w') : PuS b w' X ps := fun x hx => ⟨(h x hx).1.frm k jp, fun y hy => ⟨⟨zas ((h x hx).2 y hy).1.1 k.size, ((h x hx).2 y hy).1.2⟩, ((h x hx).2 y hy).2⟩⟩
theorem PuS.fk {b : Nat} {w w' : World} {X X' : List Nat} {ps : List Pq} (h : PuS b w X ps) (k : Fk X w w' X') : PuS b w' X' ps := fun x hx => ⟨(h x hx).1.frm k.1 (fun _ y hy => ((h x hx).2 y hy).1.2), fun y hy => ⟨⟨zas ((h x hx).2 y hy).1.1 k.1.size, k.out ((h x hx).2 y hy).1.1 ((h x hx).2 y hy).1.2⟩, ((h x hx).2 y hy).2⟩⟩
theorem PuS.low {b b' : Nat} {w : World} {X : List Nat} {ps : List Pq} (h : PuS b w X ps) (hb : b' ≤ b) : PuS b' w X ps := fun x hx => ⟨(h x hx).1, fun y hy => ⟨((h x hx).2 y hy).1, zbd hb ((h x hx).2 y hy).2⟩⟩
theorem PuS.off {b : Nat} {w : World} {X X' : List Nat} {ps : List Pq} (h : PuS b w X ps) (hX : ∀ y ∈ X', y ∈ X ∨ y < b ∨ w.heap.size ≤ y) : PuS b w X' ps := fun x hx => ⟨(h x hx).1, fun y hy => ⟨⟨((h x hx).2 y hy).1.1, fun k => by
 have h1 := (h x hx).2 y hy
 rcases hX y k with h2 | h2 | h2
 · exact h1.1.2 h2
 · omega
 omega⟩, ((h x hx).2 y hy).2⟩⟩
theorem PuS.snoc {b : Nat} {w : World} {X : List Nat} {ps : List Pq} {x : Pq} (h : PuS b w X ps) (hr : Rd w 1 x.2.1 x.2.2.2.length (NB x.2.2.2)) (hx : ∀ y ∈ ob x.2.1, (y < w.heap.size ∧ y ∉ X) ∧ b ≤ y) : PuS b w X (ps ++ [x]) := fun y hy => by
 rcases zcp.1 hy with hy | hy
 · exact h y hy
 rw [za] at hy; subst hy; exact ⟨hr, hx⟩
theorem PuS.app {b : Nat} {w : World} {X : List Nat} {ps qs : List Pq} (h : PuS b w X ps) (k : PuS b w X qs) : PuS b w X (ps ++ qs) := fun y hy => by
 rcases zcp.1 hy with hy | hy
 · exact h y hy
 exact k y hy
theorem qKc (l : List Pq) : ∀ u ∈ l.flatMap pqC, u.oneCell' = true := wH pqC eG l
theorem qJj (DA L : Option Addr) (n c np cp : Nat) (D pg : List Nat) (w : World) (hn : D.length = n) (hnb : n ≤ 1000000) (hnc : n ≤ c) (hB : ∀ b ∈ D, b < 256) (hr : Rd w 1 DA n (NB D)) (hpn : pg.length = np) (hpb : np ≤ 1000000) (hl : Rd w 1 L np (ZN pg)) (hp : ∀ p ∈ pg, p < 2048) :
  Calls Tryz.prog 104 #[.slice DA n c, .slice L np cp] w fun e w' => ∃ B d ps, e = .returned (.slice B np d) ∧ Own w' 132 2 B np d (ps.flatMap pqC) ∧ puL ps = dN D pg ∧ PuS w.heap.size w' (ob B) ps ∧ Frm [] w w' ∧ ∀ x ∈ ob B, w.heap.size ≤ x := by
 have K0 := Frm.refl [] w
 have hr0 := hr
 refine jV Tryz.func104 Tryz.ntmps104 Tryz.results104 ?_
 refine jS (jR (ja rfl (jO (jN (jv2 0 1 ?_)))))
 refine jS (jR (ja rfl (jO (jN (jS (jS (jR (jm rfl (jL rfl zn ?_)))))))))
 refine jx .i64 0 ?_
 refine jO (jN (jB ?_))
 refine VC.loop (σ := Nat × Option Addr × Nat × Option Addr × Nat × List Pq) (fun s => [(0, .slice s.2.1 (n - 126 * s.1) s.2.2.1), (1, .slice L np cp), (5, .slice s.2.2.2.1 s.1 s.2.2.2.2.1), (10, .slice L np cp), (11, jI1 np), (12, jI1 s.1)]) (fun s wr => s.1 ≤ np ∧ Rd wr 1 s.2.1 (n - 126 * s.1) (NB (D.drop (126 * s.1))) ∧ n - 126 * s.1 ≤ s.2.2.1 ∧ Own wr 132 2 s.2.2.2.1 s.1 s.2.2.2.2.1 (s.2.2.2.2.2.flatMap pqC) ∧ puL s.2.2.2.2.2 = lO D pg s.1 ∧ PuS w.heap.size wr (ob s.2.2.2.1) s.2.2.2.2.2 ∧ Frm [] w wr ∧ (∀ x ∈ ob s.2.2.2.1, w.heap.size ≤ x) ∧ ob s.2.1 = ob DA) (fun s => np - s.1) (0, DA, c, none, 0, []) (js6 rfl rfl rfl rfl rfl rfl) ⟨zj _, hr, hnc, Own.nil _ _ _, rfl, PuS.nil _ _ _, K0, by simp [ob], rfl⟩ ?_
 rintro ⟨i, A, ca, B, d, ps⟩ wr0 ⟨hi, hA, hca, hO, hps, hpu, KK, hup, hobA⟩
 dsimp only at hi hA hca hO hps hpu hup hobA ⊢
 have ks := KK.size
 refine jS (jR (jb rfl rfl (Bin.lssN _ _) (jO (jN (jS ?_)))))
 refine jD rfl (fun hc1 => ?_) fun hc1 => ?_
 ·
  obtain ⟨P, hP⟩ : ∃ P, P = fR D i := ⟨_, rfl⟩
  have hPn := nM D i
  rw [hn, ← hP] at hPn
  have hPlt : ∀ b ∈ P, b < 256 := by rw [hP]; exact wL hB i
  have hsn := vF D pg i
  have hlk : dG D pg i = eS (qC (eD pg i) 2 ++ P) 128 := by rw [hP]; rfl
  have hllen := uY D pg i
  have hllt := qX7 hB pg i
  have h126 : P.length ≤ 126 := by rw [hPn]; exact zel _ _
  have hle : P.length ≤ n - 126 * i := by rw [hPn]; exact zhb _ _
  have hmin : P.length = 126 ∨ P.length = n - 126 * i := by
   rw [hPn]
   rcases Nat.le_total 126 (n - 126 * i) with h | h
   · exact .inl (zej h)
   exact .inr (zbh h)
  have hPc := hA.cut (l := 0) (r := P.length) (cap := ca) (zj _) hle hca
  rw [dP, zei, zbz, zcc, zds, (nR _ _).1, show (D.drop (126 * i)).take P.length = P by rw [hP]; exact oE _ _] at hPc
  have hnx := hA.cut (l := P.length) (r := n - 126 * i) (cap := ca) hle (zag _) hca
  rw [(nR _ _).2, zh (by rw [NB, zae, zq, zq]; omega), zey, zds] at hnx
  obtain ⟨adL, hLa, helL⟩ := rdZ (hl.frm KK jp) hpn hc1
  have hpx := hp _ (bG (jo : i < pg.length))
  obtain ⟨p, hpe⟩ : ∃ p, p = pg.getD i 0 := ⟨_, rfl⟩
  rw [← hpe] at helL hpx hsn
  have hnl : eD pg i ≤ 2048 := by
   unfold eD
   split
   · have := hp _ (bG (jo : i + 1 < pg.length)); omega
   omega
  subst hLa
  refine jQ (jN (jv6 0 1 5 10 11 12 ?_))
  refine jS (jB (jS (jR (jm rfl (je (Run.index1 _ rfl rfl zn zm jo) (jl rfl zaa helL (ja rfl (ja rfl (jO (jN (jv8 0 1 5 6 7 10 11 12 ?_)))))))))))
  refine jS (jR (jz 0 (jO (jN (jS (jS (jR (jm rfl (jb rfl rfl (Bin.add_i64 _ 1 jo) (jm rfl (jL rfl zn (jb rfl rfl (Bin.lssN _ _) (jO (jN (jv10 0 1 5 6 7 8 10 11 12 21 ?_)))))))))))))))
  refine VC.meet (σ := Unit) (fun s => [(0, .slice A (n - 126 * i) ca), (1, .slice (some adL) np cp), (5, .slice B i d), (7, jI1 p), (8, jI1 (eD pg i)), (10, .slice (some adL) np cp), (11, jI1 np), (12, jI1 i)]) (fun s wz => wr0 = wz) ?_ ?_
  ·
   refine jD rfl (fun hc2 => ?_) fun hc2 => ?_
   ·
    obtain ⟨adM, hLb, helM⟩ := rdZ (hl.frm KK jp) hpn hc2
    cases hLb
    have hpy := hp _ (bG (jo : i + 1 < pg.length))
    refine jR (jm rfl (jm rfl (jb rfl rfl (Bin.add_i64 _ 1 jo) (je (Run.index1 _ rfl rfl zn zm jo) (jl rfl zaa helM (jb rfl rfl (Bin.add_i64 _ 1 jo) (ja rfl (jO ?_))))))))
    refine jN ⟨(), (js8 rfl rfl rfl rfl (by rw [eD, if_pos jo]; rfl) rfl rfl rfl), ?_⟩
    rfl
   refine jQ ?_
   refine jN ⟨(), (js8 rfl rfl rfl rfl (by rw [eD, if_neg jo]; rfl) rfl rfl rfl), ?_⟩
   rfl
  rintro _ _ rfl Γ hΓ
  refine jN (VC.sub _ hΓ (jS (jR (jm rfl (jL rfl zg (je ((hPn ▸ Run.minN' (a := n - 126 * i) (b := 126) rfl rfl)) (ja rfl (jO (jN (jv9 0 1 5 7 8 9 10 11 12 ?_))))))))))
  refine jS ?_
  refine VC.held (fun v => True) jK ?_
  have hS : (fun v : World => True) wr0.drew := trivial
  have hd := qP.drew wr0
  have hPc := hPc.drawn hd
  have hnx := hnx.drawn hd
  have hO := hO.drawn hd
  have hpu := hpu.frm hd.frm
  have KK := KK.drawn hd
  generalize wr0.drew = wr0 at hPc hnx hO hpu KK hS ⊢
  have ks := KK.size
  refine jh 0 hS ?_
  refine jh 1 hS ?_
  refine jH 2 rfl hS (fun w0 hw0 => Run.bin rfl rfl (Bin.add_i64 42 _ jo)) ?_
  refine jh 3 hS ?_
  refine jH 4 rfl hS (fun w0 hw0 => Run.convN _ rfl zz zr (by simp only [bmax]; omega)) ?_
  refine jh 6 hS ?_
  refine jh 7 hS ?_
  refine jH 8 rfl hS (fun w0 hw0 => Run.sliceS 0 _ rfl zg zam evB.none_ (evB.some_ rfl) jo jo) ?_
  rw [dP, zcc]
  refine qJ.cl 5 rfl jK (jE2 Tryz.call135) (uN (eD pg i) 2 _ jo jo jo) trivial rfl rfl ?_
  rintro e w2 ⟨B2, d2, rfl, ho2, hf2, hup2⟩
  refine ⟨_, rfl, hS, ?_⟩
  have hPc := hPc.frm hf2 jp
  refine qJ.m 9 rfl jK (qV.app rfl rfl zg (eY) rfl jd ho2 hPc (eZ _) jo jo) trivial rfl rfl ?_
  rintro _ w3 ⟨B3, d3, rfl, ho3, hf3, hup3⟩
  refine ⟨hS, ?_⟩
  rw [← dM] at ho3
  have kk3 : Frm [] wr0 w3 := hf2.own hf3 hup2
  refine qJ.cl 10 rfl jK (jE1 Tryz.call134) (uP B3 d3 (2 + P.length) (qC (eD pg i) 2 ++ P) _ (by rw [zf, numL_len]) jo ho3.rd) trivial rfl rfl ?_
  rintro e w4 ⟨B4, d4, rfl, ho4, hf4, hup4⟩
  refine ⟨_, rfl, hS, ?_⟩
  rw [← hlk] at ho4
  have kk4 := kk3.trans hf4 jp
  refine jH 11 rfl hS (fun w0 hw0 => Run.build (evs.cons rfl (evs.cons rfl evs.nil)) cP (cR).choose_spec.1 (cR).choose_spec.2 (cells := (pqC (42 + p, (B4, d4, dG D pg i))).toArray) (by rw [pqC, SL, hllen]; rfl)) ?_
  refine qJ.m 12 rfl jK (qV.buildS1 rfl zx zbe cP jd jd rfl rfl) trivial rfl rfl ?_
  rintro _ w5 ⟨rfl, hF5⟩
  refine ⟨hS, ?_⟩
  have hr5 : Rd w5 2 (some ⟨w4.heap.size, 0, none⟩) 1 (pqC (42 + p, (B4, d4, dG D pg i))) := Rd.of_blk (n := 1) (size := 2) hF5.blk rfl
  have kk5 := kk4.trans hF5.frm jp
  have hOlt := hO.lt
  have hO := hO.frm kk5 jp
  have hpu := hpu.frm kk5
  have KK := KK.trans kk5 jp
  have s4 := kk4.size
  have s5 := hF5.frm.size
  have s3 := kk3.size
  refine qJ.m 13 rfl jK (qV.app rfl rfl zx (gW) rfl jd hO hr5 (eG _) jo jo) trivial rfl rfl ?_
  rintro _ w6 ⟨B6, d6, rfl, ho6, hf6, hob6⟩
  refine ⟨hS, ?_⟩
  have hk6 : Fk (ob B) w5 w6 (ob B6) := Fk.of_app hf6 hob6
  have ho4w := (ho4.rd.frm hF5.frm jp).frm hf6 (fun _ x hx hy => by have := hOlt x hy; have := hup4 x hx; omega)
  have hnew : ∀ y ∈ ob B4, (y < w6.heap.size ∧ y ∉ ob B6) ∧ w.heap.size ≤ y := fun y hy => by
   have h1 := ho4.lt y hy
   have h2 := hup4 y hy
   have h3 := hf6.size
   refine ⟨⟨jo, fun hy6 => ?_⟩, jo⟩
   rcases hob6 with h | h
   · rw [h] at hy6; have := hOlt y hy6; omega
   rw [h, za] at hy6; omega
  have hpu := (hpu.fk hk6).snoc (x := (42 + p, (B4, d4, dG D pg i))) (by rw [hllen]; exact ho4w) hnew
  have hup6 := hk6.up hup jo
  have KK := KK.own hf6 hup
  have kk6 : Frm (ob B) wr0 w6 := (kk5.mono jp).trans hf6 (fun x hx => .inl hx)
  have hoffA : ∀ x ∈ ob A, 0 < n - 126 * i → x < w.heap.size := fun x hx h0 => hr0.lt jo x (by rw [← hobA]; exact hx)
  have hnx := hnx.frm kk6 (fun h0 x hx h => by rw [kJ] at hx; have := hoffA x hx jo; have := hup x h; omega)
  have e6 : ps.flatMap pqC ++ pqC (42 + p, (B4, d4, dG D pg i)) = (ps ++ [(42 + p, (B4, d4, dG D pg i))]).flatMap pqC := jp
  rw [e6] at ho6
  refine jH 14 rfl hS (fun w0 hw0 => Run.asg rfl) ?_
  refine qJ.done jK ?_
  refine jN (jv7 0 1 5 9 10 11 12 ?_)
  refine jR (jm rfl (jm rfl (je (Run.sliceS _ _ rfl zg zam (evB.some_ rfl) evB.none_ jo jo) (ja rfl (jO ?_)))))
  refine qH (jN ?_)
  refine jv6 0 1 5 10 11 12 ?_
  refine jR (jb rfl rfl (Bin.add_i64 _ 1 jo) (jm rfl (jO ?_)))
  refine jN ⟨(i + 1, dS A ca P.length 1, ca - P.length, B6, d6, ps ++ [(42 + p, (B4, d4, dG D pg i))]), (js6 (by rw [show n - 126 * (i + 1) = n - 126 * i - P.length by omega]; rfl) rfl rfl rfl rfl rfl), ?_, ?_⟩
  ·
   have hP7 : n - 126 * (i + 1) = n - 126 * i - P.length := jo
   refine ⟨hc1, ?_, by dsimp only; omega, ho6, ?_, hpu, KK, hup6, by dsimp only; rw [kJ]; exact hobA⟩
   ·
    dsimp only
    rw [hP7]
    rcases hmin with h | h
    ·
     rw [show 126 * (i + 1) = 126 * i + P.length by omega]
     exact hnx
    rw [show n - 126 * i - P.length = 0 by omega] at hnx ⊢
    rw [show D.drop (126 * (i + 1)) = [] from List.drop_of_length_le jo]
    exact Rd.nil _ _ _
   rw [puL, zv, hsn]
   show puL ps ++ _ = _
   rw [hps]
   rfl
  exact jq
 refine jX ?_
 refine qZ (qZ (qN ?_))
 refine jN (jv1 5 ?_)
 refine jS (jR (jm rfl (ja rfl (jO (jN (jv1 4 ?_))))))
 refine jT ?_
 refine qS rfl ?_
 obtain rfl : i = np := by omega
 refine ⟨_, _, ps, rfl, hO, ?_, hpu, KK, hup⟩
 rw [hps, dN, hpn]
end
section
open Go.RowKit
theorem zX (l : List Pr) : (PC2 l).length = l.length * 2 := by rw [PC2, oP prC 2 gG]
theorem fS (a b : List Pr) : PC2 (a ++ b) = PC2 a ++ PC2 b := by simp [PC2]
theorem sI (l : List Pr) (i : Nat) (_ : i ≤ l.length) : (PC2 l).take (i * 2) = PC2 (l.take i) := (vK l i).1
theorem qX9 (l : List Pr) (i : Nat) (_ : i ≤ l.length) : (PC2 l).drop (i * 2) = PC2 (l.drop i) := (vK l i).2
theorem qJk (A : Option Addr) (c : Nat) (l : List Pr) (w : World) (hl : Rd w 2 A l.length (PC2 l)) (hn : l.length ≤ 1000000) :
  Calls Tryz.prog 102 #[.slice A l.length c] w fun e w' => ∃ B d, e = .returned (.slice B l.length d) ∧ Own w' 128 2 B l.length d (PC2 l) ∧ (∀ b ∈ ob B, w.heap.size ≤ b) ∧ Frm [] w w' := by
 refine jV Tryz.func102 Tryz.ntmps102 Tryz.results102 ?_
 refine jS (jR (ja rfl (jO (jN (jv1 0 ?_)))))
 refine jS (jS (jR (jm rfl (je (Run.eqNilS rfl rfl zl) (jO (jN (jv2 0 4 ?_)))))))
 refine VC.condB rfl (fun hc1 => ?_) (fun hc1 => ?_)
 ·
  refine jS (jR (ja rfl (jO (jN (jv1 2 ?_)))))
  refine jT ?_
  refine qQ (qS rfl ?_)
  obtain rfl : A = none := by cases A with | none => rfl | some a => cases hc1
  have hn0 : l.length = 0 := by
   rcases zem l.length with h | h
   · exact h
   obtain ⟨_, h1, _⟩ := hl.2 h; cases h1
  obtain rfl : l = [] := zca hn0
  exact ⟨none, 0, rfl, Own.nil _ _ _, by simp [ob], Frm.refl _ _⟩
 refine jQ (jN (jv1 0 ?_))
 refine jS (jR ?_)
 refine Ops.m (qV.buildS0 zl zu) rfl ?_
 rintro _ w1 ⟨rfl, hF1⟩
 have ho1 : Own w1 128 2 (some ⟨w.heap.size, 0, none⟩) 0 0 (PC2 []) := Own.of_blk hF1.blk rfl (by simp [maxLen])
 refine jM ?_
 refine Ops.m (qV.app rfl rfl zl (kK) rfl jd ho1 (hl.frm hF1.frm jp) (oY _) jo jo) rfl ?_
 rintro _ w2 ⟨B, d, rfl, ho2, hf2, hob⟩
 rw [zch] at ho2
 rw [zch]
 have hs1 := hF1.size
 have hf := hF1.frm.own hf2 (by simp [ob])
 refine ja rfl (jO (jN (jv1 2 ?_)))
 refine jT ?_
 refine qS rfl ?_
 refine ⟨B, d, rfl, ho2, fun x hx => ?_, hf⟩
 rcases hob with h | h
 · rw [h] at hx; simp [ob] at hx; omega
 rw [h, za] at hx; omega
theorem qWv (l : List Pr) (i : Nat) (hi : i < l.length) : PC2 (l.take i ++ l.drop (i + 1)) = (PC2 l).take (i * 2) ++ (PC2 l).drop ((i + 1) * 2) := by
 rw [fS, sI l i jo, qX9 l (i + 1) jo]
theorem qZa (B : Option Addr) (d i : Nat) (l : List Pr) (w : World) (hl : Own w 128 2 B l.length d (PC2 l)) (hn : l.length ≤ 1000000) (hi : i < l.length) :
  Calls Tryz.prog 103 #[.slice B l.length d, jI1 i, jI1 (i + 1)] w fun e w' => e = .returned (.slice B (l.length - 1) d) ∧ Own w' 128 2 B (l.length - 1) d (PC2 (l.take i ++ l.drop (i + 1))) ∧ Frm (ob B) w w' := by
 obtain ⟨g, rfl⟩ : ∃ g, B = some ⟨g, 0, none⟩ := by
  rcases hl.cases with ⟨_, h0, _⟩ | ⟨g, _, h0, _⟩
  · omega
  exact ⟨g, h0⟩
 have hle := hl.le
 have hcl := zX l
 refine jV Tryz.func103 Tryz.ntmps103 Tryz.results103 ?_
 refine jS (jR (ja rfl (jO (jN (jv3 0 1 2 ?_)))))
 refine jS (jR (jm rfl (jm rfl (jm rfl (jm rfl (jL rfl zl (je (Run.slice3 i (i + 1) l.length rfl zl zu rfl rfl rfl jo jo hle) (jO (jN (jv3 0 1 2 ?_))))))))))
 refine jS (jS (jR (jm rfl (jm rfl (jb rfl rfl (Bin.eqlN _ _) (jO (jN (jv4 0 1 2 16 ?_))))))))
 refine VC.condF rfl jdf ?_
 refine jQ (jN (jv3 0 1 2 ?_))
 refine jS (jR (jm rfl (jL rfl zl (ja rfl (jO (jN (jv4 0 1 2 7 ?_)))))))
 refine jS ?_
 refine VC.tail 6 jK jK ?_
 simp only [zed, zcs, zfn, zbz]
 refine qM ?_
 refine qM ?_
 refine qE (Run.sliceS 0 _ rfl zl zu evB.none_ (evB.some_ rfl) jo jo) ?_
 rw [dP]
 refine qM ?_
 refine qM ?_
 refine qE (Run.sliceS _ _ rfl zl zu (evB.some_ rfl) evB.none_ jo jo) ?_
 refine bJ.nil ?_
 have hd := qP.drew w
 have hown := hl.drawn hd
 have hcut := hown.rd.cut (l := i + 1) (r := l.length) (cap := d) jo (zag _) hle
 rw [zh (by rw [zq, hcl]; omega)] at hcut
 refine Ops.m (qV.appIn (n := i) (cap := d) rfl rfl zl zu hown hcut jo (fun v hv => oY l v (zau hv))) rfl ?_
 rintro _ w1 ⟨rfl, ho1, hf1, hs1⟩
 rw [show i + (l.length - (i + 1)) = l.length - 1 by omega] at ho1 ⊢
 refine ja rfl (jO (jN (jv2 0 7 ?_)))
 refine jS (jR (jm rfl (jm rfl (jL rfl zl (jm rfl (je (Run.sliceS _ _ rfl zl zu (evB.some_ rfl) (evB.some_ rfl) jo jo) ?_))))))
 refine Ops.m0 (qV.clearCut (m := l.length) (size := 2) rfl zl dL rfl jd ho1 jo) ?_
 rintro _ w2 ⟨ho2, hf2⟩
 rw [zcb (by rw [zf, zk, zq, hcl]; omega), zh (by rw [zf, zk, zq, hcl]; omega), ← qWv l i hi] at ho2
 refine jO (jN (jv1 0 ?_))
 refine jS (jR (jm rfl (ja rfl (jO (jN (jv1 6 ?_))))))
 refine jT ?_
 refine qS rfl ?_
 exact ⟨rfl, ho2, (((qP.drew w).frm.mono jp).trans hf1 (fun x hx => .inl hx)).trans hf2 (fun x hx => .inl hx)⟩
theorem zZ {w : World} {gv g i : Nat} {cv cs : Array Value} (hv : Blk w gv 128 cv) (hg : Blk w g 128 cs) (hne : gv ≠ g) (h0 : cs.size ≠ 0) (la ca lb cb : Nat) :
  (callFunc 136 #[.slice (some ⟨gv, 0, none⟩) la ca, .slice (some ⟨g, i, none⟩) lb cb]).run Tryz.prog w = .ok (.value (.bool false)) w := by
 rw [run_callFunc_extern Tryz.func136 jK jK jK (e := Extern.SlicesOverlaps.overlaps #[89, 89] #[4]) jK,
  Lib.run_overlaps_apart w 89 4 128 zl 2 zu ⟨gv, 0, none⟩ ⟨g, i, none⟩ la ca lb cb hne 128 128 cv.size cs.size hv.shape hg.shape h0 (hv.frozen 0) (hv.frozen _)]
 rfl
theorem qGo (l : List Pr) (x : Pr) (i : Nat) (hi : i ≤ l.length) : PC2 (l.take i ++ x :: l.drop i) = (PC2 l).take (i * 2) ++ prC x ++ (PC2 l).drop (i * 2) := by
 rw [fS, sI l i hi, qX9 l i hi, show PC2 (x :: l.drop i) = prC x ++ PC2 (l.drop i) from rfl, zab]
theorem qM1 {a zs b x : List Value} {o : Nat} (h1 : o + 2 ≤ (a ++ zs).length) (h2 : o ≤ a.length) : ((a ++ zs).take (o + 2) ++ b).take o ++ x ++ ((a ++ zs).take (o + 2) ++ b).drop (o + 2) = a.take o ++ x ++ b := by
 have hl : ((a ++ zs).take (o + 2)).length = o + 2 := by rw [zk]; omega
 rw [zcb jo, zex, zbh jo, zcb h2, zgu, zdh jo, hl, zes, zbz, zbu]
theorem qKd {a b c : List Value} {o k : Nat} (ha : a.length = o) (hk : k ≤ c.length) : (a ++ c).take o ++ b ++ (a ++ c).drop (o + k) = a ++ b ++ c.drop k := by
 rw [zcb jo, zh jo, zgu, zdh jo, zbu, show o + k - a.length = k by omega]
theorem qZb (B : Option Addr) (d i gv : Nat) (l : List Pr) (x : Pr) (w : World) (hl : Own w 128 2 B l.length d (PC2 l)) (hn : l.length ≤ 1000000) (hi : i ≤ l.length) (hv : Blk w gv 128 (prC x).toArray) (hne : gv ∉ ob B) :
  Calls Tryz.prog 105 #[.slice B l.length d, jI1 i, .slice (some ⟨gv, 0, none⟩) 1 1] w fun e w' => ∃ C d', e = .returned (.slice C (l.length + 1) d') ∧ Own w' 128 2 C (l.length + 1) d' (PC2 (l.take i ++ x :: l.drop i)) ∧ Frm (ob B) w w' ∧ ∀ b ∈ ob C, b ∈ ob B ∨ w.heap.size ≤ b := by
 have hle := hl.le
 have hcl := zX l
 have hil := qGo l x i hi
 have hrv : Rd w 2 (some ⟨gv, 0, none⟩) 1 (prC x) := Rd.of_blk (n := 1) (size := 2) hv rfl
 refine jV Tryz.func105 Tryz.ntmps105 Tryz.results105 ?_
 refine jS (jR (ja rfl (jO (jN (jv3 0 1 2 ?_)))))
 refine jS (jR (jm rfl (jm rfl (je (Run.sliceS _ _ rfl zl zu (evB.some_ rfl) evB.none_ jo jo) (jO (jN (jv3 0 1 2 ?_)))))))
 refine jS (jR (jm rfl (jL rfl zl (ja rfl (jO (jN (jv4 0 1 2 7 ?_)))))))
 refine jS (jS (jR (jm rfl (jb rfl rfl (Bin.eqlN _ 0) (jO (jN (jv5 0 1 2 7 16 ?_)))))))
 refine VC.condF rfl (rfl) ?_
 refine jQ (jN (jv4 0 1 2 7 ?_))
 refine jS (jR (jm rfl (jL rfl zl (ja rfl (jO (jN (jv5 0 1 2 7 8 ?_)))))))
 refine jS (jS (jR (jm rfl (jm rfl (jb rfl rfl (Bin.eqlN _ _) (jO (jN (jv6 0 1 2 7 8 22 ?_))))))))
 refine jD rfl (fun hc2 => ?_) fun hc2 => ?_
 ·
  obtain rfl : i = l.length := hc2
  have hend : PC2 (l.take l.length ++ x :: l.drop l.length) = PC2 l ++ prC x := by
   rw [zbw, List.drop_length, fS]
   simp [PC2]
  refine jS (jR (jm rfl (jM ?_)))
  refine Ops.m (qV.app rfl rfl zl (kK) rfl jd hl hrv (eH x) jo jo) rfl ?_
  rintro _ w1 ⟨C, c1, rfl, ho1, hf1, hob1⟩
  refine ja rfl (jO (jN (jv1 6 ?_)))
  refine jT ?_
  refine qQ (qS rfl ?_)
  exact ⟨C, c1, rfl, by rw [hend]; exact ho1, hf1, fun b hb => by rcases hob1 with h | h; exact .inl (h ▸ hb); rw [h, za] at hb; exact .inr jo⟩
 have hin : i < l.length := jo
 obtain ⟨g, rfl⟩ : ∃ g, B = some ⟨g, 0, none⟩ := by
  rcases hl.cases with ⟨_, h0, _⟩ | ⟨g, _, h0, _⟩
  · omega
  exact ⟨g, h0⟩
 refine jQ (jN (jv5 0 1 2 7 8 ?_))
 refine jS (jS (jR (jm rfl (jm rfl (jb rfl rfl (Bin.add_i64 _ _ jo) (jm rfl (je (Run.capS rfl zl) (jb rfl rfl (Bin.gtrN _ _) (jO (jN (jv6 0 1 2 7 8 31 ?_)))))))))))
 refine jD rfl (fun hc3 => ?_) fun hc3 => ?_
 ·
  refine jS (jR (jm rfl (jm rfl (je (Run.sliceS 0 _ rfl zl zu evB.none_ (evB.some_ rfl) jo jo) ?_))))
  rw [dP]
  refine jm rfl (jm rfl (jb rfl rfl (Bin.add_i64 _ _ jo) (jm rfl (jb rfl rfl (Bin.sub_i64 _ _ jo jo) ?_))))
  have hpre := (hl.short (k := i) hi).rd
  rw [sI l i hi] at hpre
  refine Ops.m (qV.appMake (n := i) (cap := d) (k := l.length + 1 - i) rfl rfl zl zz (kK) rfl jd hpre jo jo jo jo jo) rfl ?_
  rintro _ w1 ⟨c1, zs, rfl, ho1, hzs, hf1⟩
  have hc1 := ho1.le
  have hpl : (PC2 (l.take i)).length = i * 2 := by rw [zX, zk, zbh hi]
  rw [show i + (l.length + 1 - i) = l.length + 1 by omega] at ho1 hc1 ⊢
  generalize hgn : w.heap.size = gn at ho1 ⊢
  refine ja rfl (jO (jN (jv5 0 1 2 7 9 ?_)))
  refine jS (jR (jm rfl (jm rfl (je (Run.sliceS _ _ rfl zl zu (evB.some_ rfl) evB.none_ jo jo) ?_))))
  rw [mN jo]
  refine jM ?_
  refine Ops.m (qV.copyOwn (g := gn) (o := i * 2) rfl rfl zl zu ho1 1 (hrv.frm hf1 jp) (zbh jo) (by rw [zf, hpl, hzs, gG x]; omega) (eH x)) rfl ?_
  rintro _ w2 ⟨rfl, ho2, hf2, hs2⟩
  rw [gG x, qKd hpl jo] at ho2
  have hf02 : Frm [] w w2 := hf1.trans hf2 (fun y hy => by rw [za] at hy; right; omega)
  have hd2 := qP.drew w2
  have ho2 := ho2.drawn hd2
  have hcut := (hl.rd.frm (hf02.drawn hd2) jp).cut (l := i) (r := l.length) (cap := d) hi (zag _) hle
  rw [zh (by rw [zq, hcl]; omega)] at hcut
  refine jO (jN (jv4 0 1 7 9 ?_))
  refine jS ?_
  refine VC.tail 8 jK jK ?_
  simp only [zed, zcs, zfn, zbz]
  refine qM ?_
  refine qM ?_
  refine qM ?_
  refine qE (Run.bin rfl rfl (Bin.add_i64 _ _ jo)) ?_
  refine qE (Run.sliceS _ _ rfl zl zu (evB.some_ rfl) evB.none_ jo jo) ?_
  rw [mN jo]
  refine qM ?_
  refine qM ?_
  refine qE (Run.sliceS _ _ rfl zl zu (evB.some_ rfl) evB.none_ jo jo) ?_
  refine bJ.nil ?_
  refine Ops.m (qV.copyOwn (g := gn) (o := (i + 1) * 2) rfl rfl zl zu ho2 (l.length - i) hcut (zbh jo) (by rw [zf, zf, zq, zq, hpl, hzs, hcl, gG x]; omega) (fun v hv => oY l v (zau hv))) rfl ?_
  rintro _ w3 ⟨rfl, ho3, hf3, hs3⟩
  have hal : (PC2 (l.take i) ++ prC x).length = (i + 1) * 2 := by rw [zf, hpl, gG x]; omega
  have hz0 : (zs.drop 2).drop ((PC2 l).drop (i * 2)).length = [] := zdh (by rw [zq, zq, hzs, hcl]; omega)
  rw [qKd hal (by rw [zq, zq, hzs, hcl]; omega), hz0, zav, ← sI l i hi, ← hil] at ho3
  have hf03 : Frm [] w w3 := (hf02.drawn hd2).trans hf3 (fun y hy => by rw [za] at hy; right; omega)
  refine jO (jN (jv1 9 ?_))
  refine jS (jR (jm rfl (ja rfl (jO (jN (jv1 6 ?_))))))
  refine jT ?_
  refine qQ (qS rfl ?_)
  exact ⟨_, c1, rfl, ho3, hf03.mono jp, fun b hb => by simp only [ob, za] at hb; exact .inr jo⟩
 refine jQ (jN (jv5 0 1 2 7 8 ?_))
 refine jS (jR (jm rfl (jm rfl (jm rfl (jb rfl rfl (Bin.add_i64 _ _ jo) (je (Run.sliceS 0 _ rfl zl zu evB.none_ (evB.some_ rfl) jo jo) ?_))))))
 rw [dP]
 obtain ⟨zs, hmo, hzs⟩ := hl.more (N := l.length + 1) jo jo
 obtain ⟨cur, hcur, hcs⟩ : ∃ cur, Blk w g 128 cur ∧ cur.size ≠ 0 := by
  rcases hl.cases with ⟨h0, _⟩ | ⟨g', cur, hA, hb, h1, _, h3, _⟩
  · cases h0
  cases hA
  exact ⟨cur, hb, jo⟩
 refine ja rfl (jO (jN (jv5 0 1 2 7 8 ?_)))
 refine jS (jS (jR (jm rfl (jm rfl (jm rfl (jm rfl (jb rfl rfl (Bin.add_i64 _ _ jo) (je (Run.sliceS _ _ rfl zl zu (evB.some_ rfl) evB.none_ jo jo) ?_))))))))
 rw [mN jo]
 refine je (Run.ext2 rfl rfl (zZ hv hcur (by simpa [ob] using hne) hcs _ _ _ _)) (je (Run.not rfl) (jO (jN (jv6 0 1 2 7 8 68 ?_))))
 refine VC.condT rfl (rfl) ?_
 refine jS ?_
 refine VC.tail 8 jK jK ?_
 simp only [zed, zcs, zfn, zbz]
 refine qM ?_
 refine qM ?_
 refine qM ?_
 refine qE (Run.bin rfl rfl (Bin.add_i64 _ _ jo)) ?_
 refine qE (Run.sliceS _ _ rfl zl zu (evB.some_ rfl) evB.none_ jo jo) ?_
 rw [mN jo]
 refine qM ?_
 refine qM ?_
 refine qE (Run.sliceS _ _ rfl zl zu (evB.some_ rfl) evB.none_ jo jo) ?_
 refine bJ.nil ?_
 have hd1 := qP.drew w
 have hmo := hmo.drawn hd1
 have hcut := hmo.rd.cut (l := i) (r := l.length) (cap := d) hi jo jo
 rw [List.drop_append_of_le_length jo, zcb (by rw [zq, hcl]; omega), zh (by rw [zq, hcl]; omega), show l.length - i = l.length + 1 - (i + 1) by omega] at hcut
 refine Ops.m (qV.copyOwn (g := g) (o := (i + 1) * 2) rfl rfl zl zu hmo (l.length + 1 - (i + 1)) hcut (zej jo) (by rw [zf, zq, hzs, hcl]; omega) (fun v hv => oY l v (zau hv))) rfl ?_
 rintro _ w2 ⟨rfl, ho2, hf2, hs2⟩
 have hz0 : (PC2 l ++ zs).drop ((i + 1) * 2 + ((PC2 l).drop (i * 2)).length) = [] := zdh (by rw [zf, zq, hzs, hcl]; omega)
 rw [hz0, zav, show (i + 1) * 2 = i * 2 + 2 by omega] at ho2
 have hf02 : Frm [g] w w2 := (hd1.frm.mono jp).trans hf2 (fun y hy => .inl hy)
 have hv2 : Rd w2 2 (some ⟨gv, 0, none⟩) 1 (prC x) := hrv.frm hf02 (by simpa [ob, eq_comm] using hne)
 refine jO (jN (jv3 0 1 2 ?_))
 refine jS (jR (jm rfl (jm rfl (je (Run.sliceS _ _ rfl zl zu (evB.some_ rfl) evB.none_ jo jo) ?_))))
 rw [mN jo]
 refine jM ?_
 refine Ops.m (qV.copyOwn (g := g) (o := i * 2) rfl rfl zl zu ho2 1 hv2 (zbh jo) (by rw [zf, zk, zf, zq, hzs, hcl, gG x]; omega) (eH x)) rfl ?_
 rintro _ w3 ⟨rfl, ho3, hf3, hs3⟩
 rw [gG x, qM1 (by rw [zf, hzs, hcl]; omega) jo, ← hil] at ho3
 refine jO (jN (jv1 0 ?_))
 refine jS (jR (jm rfl (ja rfl (jO (jN (jv1 6 ?_))))))
 refine jT ?_
 refine qQ (qS rfl ?_)
 exact ⟨_, d, rfl, ho3, hf02.trans hf3 (fun y hy => .inl hy), fun b hb => .inl hb⟩
end
end Go.Proofs.YtoniopdkbeogjaaGreat
