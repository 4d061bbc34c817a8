/-
  Lemmas on the way, joined: CanW, CanC, BitsV, BitsT, CanV, DefP, EngB, Eng18, MatW, EngC.
-/
import Derived.Recover
import Derived.Deep.Strs
import Derived.Laws.IdiomStrings
import Derived.Sort.Walk0
import Derived.Sort.EncStr
import Derived.Maps.Keyed
import Derived.DeepKeys4
import Derived.Carry
import Derived.RangeFuncLeaves
import Derived.RangeFuncSeq
import Derived.RangeFuncOwn
import Derived.Sort.OwnSorted
import Derived.Test.YtnmieihcjjiccaaPk0
namespace Go.Proofs.Ytnmieihcjjiccaa
open Go.RowKit
def CI (f : Nat → Nat) : List Value := (List.range 16).map fun k => .int .i64 ((f k : Nat) : Int)
def CU (f : Nat → Nat) : List Value := (List.range 16).map fun k => .int .u64 ((f k : Nat) : Int)
theorem CI_get (f : Nat → Nat) (k : Nat) (h : k < 16) : (CI f)[k]? = some (.int .i64 ((f k : Nat) : Int)) := by simp [CI, h]
theorem CU_get (f : Nat → Nat) (k : Nat) (h : k < 16) : (CU f)[k]? = some (.int .u64 ((f k : Nat) : Int)) := by simp [CU, h]
theorem CI_set (f : Nat → Nat) (m v : Nat) : (CI f).toArray.setIfInBounds m (.int .i64 ((v : Nat) : Int)) = (CI fun k => if k = m then v else f k).toArray := by
 apply Array.toList_inj.1
 rw [Array.toList_setIfInBounds]
 apply List.ext_getElem?
 intro j
 simp only [CI, List.getElem?_set, List.length_map, List.length_range, List.getElem?_map]
 by_cases h : m = j
 ·
  subst h
  by_cases h2 : m < 16 <;> simp [h2]
 ·
  have h3 : ¬ j = m := fun e => h e.symm
  by_cases h2 : j < 16 <;> simp [h2, h, h3]
theorem CU_set (f : Nat → Nat) (m v : Nat) : (CU f).toArray.setIfInBounds m (.int .u64 ((v : Nat) : Int)) = (CU fun k => if k = m then v else f k).toArray := by
 apply Array.toList_inj.1
 rw [Array.toList_setIfInBounds]
 apply List.ext_getElem?
 intro j
 simp only [CU, List.getElem?_set, List.length_map, List.length_range, List.getElem?_map]
 by_cases h : m = j
 ·
  subst h
  by_cases h2 : m < 16 <;> simp [h2]
 ·
  have h3 : ¬ j = m := fun e => h e.symm
  by_cases h2 : j < 16 <;> simp [h2, h, h3]
theorem CI_one (f : Nat → Nat) : ∀ v ∈ (CI f).toArray.toList, v.oneCell' = true := by
 intro v hv
 obtain ⟨b, _, rfl⟩ := List.mem_map.1 (show v ∈ CI f from hv)
 rfl
theorem CU_one (f : Nat → Nat) : ∀ v ∈ (CU f).toArray.toList, v.oneCell' = true := by
 intro v hv
 obtain ⟨b, _, rfl⟩ := List.mem_map.1 (show v ∈ CU f from hv)
 rfl
def good (l : List Int) : Prop := l.length ≤ 320 ∧ ∀ x ∈ l, 0 ≤ x ∧ x ≤ 15
instance (l : List Int) : Decidable (good l) := inferInstanceAs (Decidable (_ ∧ _))
def KC (f : Nat → Nat) : Nat → Nat
 | 0 => 0
 | i + 1 => KC f i + f i * 2 ^ (15 - i)
theorem KC_le (f : Nat → Nat) (hf : ∀ k, f k ≤ 320) : ∀ i, i ≤ 16 → KC f i + 320 * 2 ^ (16 - i) ≤ 320 * 65536
 | 0, _ => by simp [KC]
 | i + 1, h => by
  have ih := KC_le f hf i (by omega)
  have h1 : f i * 2 ^ (15 - i) ≤ 320 * 2 ^ (15 - i) := Nat.mul_le_mul_right _ (hf i)
  have h2 : 2 ^ (16 - i) = 2 ^ (15 - i) * 2 := by rw [← Nat.pow_succ]; congr 1; omega
  rw [KC, show 16 - (i + 1) = 15 - i by omega]
  omega
theorem IB_at {w : World} {A : Option Addr} {l : List Int} {k : Nat} (h : Rd w 1 A l.length (IB l)) (hk : k < l.length) : ∃ ad, A = some ad ∧ w.cell? (ad.add k) = some (.int .i64 l[k]) := by
 obtain ⟨ad, u, hA, hu, hc⟩ := h.at1 hk
 refine ⟨ad, hA, ?_⟩
 rw [hc]
 simp [IB, hk] at hu
 rw [hu]
set_option maxRecDepth 100000 in
theorem count_spec' (A : Option Addr) (c0 : Nat) (l : List Int) (w : World) (hl : l.length ≤ 1000000000) (hr : Rd w 1 A l.length (IB l)) :
  Calls Try.prog 61 #[.slice A l.length c0] w fun e w' => ∃ f, e = .returned (.tuple #[.agg (CI f).toArray, .bool (decide (good l))]) ∧ (∀ k, f k ≤ 320) ∧ (good l → f = cn l) ∧ Frm [] w w' := by
 refine VC.calls (nt := 32) (res := #[.cell 2 110, .tmp 3]) Try.func61 rfl Try.ntmps61 Try.results61 rfl ?_
 refine jS (jR ?_)
 refine Ops.m (Does.alloc zero110) rfl ?_
 rintro _ w1 ⟨rfl, hF1⟩
 have hb1 : Blk w1 w.heap.size 110 (CI fun _ => 0).toArray := hF1.blk
 refine jA ?_
 refine jO (jN (jv2 0 2 ?_))
 refine jS (jR ?_)
 refine Ops.m (Does.alloc zero110) rfl ?_
 rintro _ w2 ⟨rfl, hF2⟩
 have hb2 : Blk w2 w1.heap.size 110 (CI fun _ => 0).toArray := hF2.blk
 have hb12 := hb1.frm hF2.frm (by simp)
 have hfr2 := hF1.frm.own hF2.frm (by simp)
 have hg1 : w.heap.size < w1.heap.size := hb1.lt
 generalize hg : w.heap.size = g at hb12 hg1
 generalize hgc : w1.heap.size = gc at *
 refine jO (jN (jS (jS (jR (jM ?_)))))
 refine Ops.r (Run.lenS rfl Try.underlying38) rfl ?_
 refine Ops.r (Run.bin rfl rfl (Bin.gtrN _ 320)) rfl ?_
 refine jO (jN (jv4 0 2 4 9 ?_))
 refine VC.condD rfl (fun hc1 => ?_) (fun hc1 => ?_)
 ·
  refine jS (jR ?_)
  refine Ops.r (Run.loadB rfl Try.isAgg110 Try.sizeOf110 (hb2) rfl) rfl ?_
  refine Ops.st (Acts.storeA rfl rfl Try.sizeOf110 hb12 rfl (CI_one _)) ?_
  rintro w3 ⟨hb3, hf3, hs3⟩
  refine jA ?_
  refine jO (jN (jv2 2 3 ?_))
  refine jT ?_
  refine thenQ_r (endR ?_)
  refine res_cellB rfl Try.isAgg110 Try.sizeOf110 (hb3) rfl ?_
  refine res_tmp rfl ?_
  refine res_nil ?_
  refine ⟨fun _ => 0, ?_, fun k => by simp, fun h => absurd h.1 (by omega), hfr2.own hf3 (up_one (by omega))⟩
  rw [decide_eq_false (fun h => absurd h.1 (by omega))]
  rfl
 ·
  refine jQ (jN (jv3 0 2 4 ?_))
  refine jS (jS (jR (jM ?_)))
  refine Ops.r (Run.lenS rfl Try.underlying38) rfl ?_
  refine Ops.r (v := .int .i64 ((0 : Nat) : Int)) (Run.mv rfl) rfl ?_
  refine jO (jN (jv5 2 4 11 12 13 ?_))
  refine jB ?_
  refine VC.loop (σ := Nat) (fun s => [(2, .pointer (some ⟨g, 0, none⟩)), (4, .pointer (some ⟨gc, 0, none⟩)), (11, .slice A l.length c0), (12, .int .i64 ((l.length : Nat) : Int)), (13, .int .i64 s)]) (fun s wr => s ≤ l.length ∧ (∀ x ∈ l.take s, 0 ≤ x ∧ x ≤ 15) ∧ Blk wr g 110 (CI fun _ => 0).toArray ∧ Blk wr gc 110 (CI fun k => (l.take s).count (k : Int)).toArray ∧ Frm [] w wr) (fun s => l.length - s) 0 (js5 (by rw [← hg]; rfl) (by rw [← hgc]; rfl) rfl rfl rfl) ⟨by omega, by simp, hb12, by simpa using hb2, hfr2⟩ ?_
  rintro i wr ⟨hi, hpre, hbr, hbc, hfr⟩
  refine jS (jR ?_)
  refine Ops.r (Run.bin rfl rfl (Bin.lssN _ _)) rfl ?_
  refine jO (jN (jS ?_))
  refine VC.condD rfl (fun hc2 => ?_) (fun hc2 => ?_)
  ·
   obtain ⟨ad, rfl, hcell⟩ := IB_at (hr.belowW hfr.below) hc2
   have htk : l.take (i + 1) = l.take i ++ [l[i]] := by rw [List.take_add_one, List.getElem?_eq_getElem hc2]; rfl
   generalize hx : l[i] = x at *
   refine jQ (jN (jv5 2 4 11 12 13 ?_))
   refine jS (jB (jS (jR ?_)))
   refine Ops.r (Run.index1 _ rfl rfl Try.underlying38 Try.sizeOf3 (by omega)) rfl ?_
   refine Ops.r (Run.load rfl Try.isAgg3 hcell) rfl ?_
   refine jA ?_
   refine jO (jN (jv6 2 4 6 11 12 13 ?_))
   refine jS (jS ?_)
   refine VC.split1 [(2, _), (4, _), (6, _), (11, _), (12, _), (13, _)] (js6 rfl rfl rfl rfl rfl rfl) 22 (.bool (decide (x < 0 ∨ 15 < x))) ?_ ?_
   ·
    by_cases hs0 : x < 0
    ·
     refine jR (jM ?_)
     refine Ops.r (Run.bin rfl rfl (Bin.lss _ 0)) rfl ?_
     refine jM ?_
     refine Ops.sk rfl (by first | rfl | assumption | decide | (simp; done) | (simp; omega) | (simp [*]; done)) rfl ?_
     refine Ops.sk rfl (by first | rfl | assumption | decide | (simp; done) | (simp; omega) | (simp [*]; done)) rfl ?_
     refine Ops.r (Run.pickT rfl rfl (by first | rfl | assumption | decide | (simp; done) | (simp; omega) | (simp [*]; done))) rfl ?_
     refine jO ?_
     refine jN ⟨(js7 (by rw [dor1 hs0]; rfl) rfl rfl rfl rfl rfl rfl), rfl⟩
    ·
     refine jR (jM ?_)
     refine Ops.r (Run.bin rfl rfl (Bin.lss _ 0)) rfl ?_
     refine jM ?_
     refine Ops.rg rfl (by first | rfl | assumption | decide | (simp; done) | (simp; omega) | (simp [*]; done)) (Run.mv rfl) rfl ?_
     refine Ops.rg rfl (by first | rfl | assumption | decide | (simp; done) | (simp; omega) | (simp [*]; done)) (Run.bin rfl rfl (Bin.gtr _ 15)) rfl ?_
     refine Ops.r (Run.pickF rfl rfl (by first | rfl | assumption | decide | (simp; done) | (simp; omega) | (simp [*]; done))) rfl ?_
     refine jO ?_
     refine jN ⟨(js7 (by rw [dor0 hs0]; rfl) rfl rfl rfl rfl rfl rfl), rfl⟩
   ·
    intro Γ hΓ
    refine jN (VC.sub _ hΓ ?_)
    refine VC.condD rfl (fun hc3 => ?_) (fun hc3 => ?_)
    ·
     refine jS (jR ?_)
     refine Ops.r (Run.loadB rfl Try.isAgg110 Try.sizeOf110 (hbc) rfl) rfl ?_
     refine Ops.st (Acts.storeA rfl rfl Try.sizeOf110 hbr rfl (CI_one _)) ?_
     rintro w3 ⟨hb3, hf3, hs3⟩
     refine jA ?_
     refine jO (jN (jv2 2 3 ?_))
     refine jT ?_
     refine thenQ_r (blockQ_r (thenQ_r (thenQ_r (blockQ_r (thenQ_r (endR ?_))))))
     refine res_cellB rfl Try.isAgg110 Try.sizeOf110 (hb3) rfl ?_
     refine res_tmp rfl ?_
     refine res_nil ?_
     have hng : ¬ good l := by
      intro h
      have := h.2 x (by rw [← hx]; exact List.getElem_mem hc2)
      omega
     refine ⟨fun k => (l.take i).count (k : Int), ?_, ?_, fun h => absurd h hng, hfr.own hf3 (up_one (by omega))⟩
     ·
      rw [decide_eq_false hng]
      rfl
     ·
      intro k
      exact Nat.le_trans List.count_le_length (by simp; omega)
    ·
     obtain ⟨m, rfl⟩ : ∃ m : Nat, x = m := ⟨x.toNat, by omega⟩
     have hcm : (l.take i).count (m : Int) ≤ l.length := Nat.le_trans List.count_le_length (by simp; omega)
     refine jQ (jN (jv6 2 4 6 11 12 13 ?_))
     refine jR (jM ?_)
     refine Ops.r (Run.indexA1 _ rfl rfl Try.underlying110 Try.sizeOf3 (by omega)) rfl ?_
     refine Ops.r (Run.load rfl Try.isAgg3 ((hbc.cell _).trans (by simpa using CI_get _ m (by omega)))) rfl ?_
     refine Ops.r (Run.bin rfl rfl (Bin.add_i64 _ 1 (by omega))) rfl ?_
     refine Ops.r (Run.indexA1 _ rfl rfl Try.underlying110 Try.sizeOf3 (by omega)) rfl ?_
     refine Ops.st (Acts.store rfl rfl Try.sizeOf3 hbc (by simp [CI, Nat.blt_eq]; omega) rfl) ?_
     rintro w3 ⟨hb3, hf3, hs3⟩
     refine jO ?_
     refine blockQ_n (jN ?_)
     refine jv5 2 4 11 12 13 ?_
     refine jR ?_
     refine Ops.r (Run.bin rfl rfl (Bin.add_i64 _ 1 (by omega))) rfl ?_
     refine jM ?_
     refine jO ?_
     refine jN ⟨(i + 1), (js5 rfl rfl rfl rfl rfl), ?_, ?_⟩
     ·
      refine ⟨hc2, ?_, hbr.frm hf3 (by simp; omega), ?_, hfr.own hf3 (up_one (by omega))⟩
      ·
       rw [htk]
       intro y hy
       rcases List.mem_append.1 hy with h | h
       ·
        exact hpre y h
       ·
        simp at h; subst h; omega
      ·
       rw [CI_set] at hb3
       have e : (fun k : Nat => if k = 0 + m then (l.take i).count (m : Int) + 1 else (l.take i).count (k : Int)) = fun k : Nat => (l.take (i + 1)).count (k : Int) := by
        funext k
        rw [htk, List.count_append]
        by_cases hk : k = m
        ·
         subst hk; simp
        ·
         have : (m : Int) ≠ (k : Int) := by omega
         simp [hk, List.count_cons, this]
       rw [← e]
       simpa using hb3
     ·
      first | omega | (dsimp only; omega)
  ·
   have hik : i = l.length := by omega
   refine jX ?_
   refine thenQ_x (thenQ_x (blockQ_x ?_))
   refine jN (jv2 2 4 ?_)
   refine jS (jR ?_)
   refine Ops.r (Run.indexA1 0 rfl rfl Try.underlying110 Try.sizeOf3 (by omega)) rfl ?_
   refine Ops.st (Acts.store rfl rfl Try.sizeOf3 hbc rfl rfl) ?_
   rintro w5 ⟨hb5, hf5, hs5⟩
   have hb5 : Blk w5 gc 110 (CI fun k => if k = 0 then 0 else (l.take i).count (k : Int)).toArray := by rw [← CI_set]; exact hb5
   have hbr5 := hbr.frm hf5 (by simp; omega)
   refine jO (jN (jv2 2 4 ?_))
   refine jS (jR ?_)
   refine Ops.r (Run.loadB rfl Try.isAgg110 Try.sizeOf110 (hb5) rfl) rfl ?_
   refine Ops.st (Acts.storeA rfl rfl Try.sizeOf110 hbr5 rfl (CI_one _)) ?_
   rintro w6 ⟨hb6, hf6, hs6⟩
   refine jA ?_
   refine jO (jN (jv2 2 3 ?_))
   refine jT ?_
   refine endR ?_
   refine res_cellB rfl Try.isAgg110 Try.sizeOf110 (hb6) rfl ?_
   refine res_tmp rfl ?_
   refine res_nil ?_
   have hgd : good l := ⟨by omega, by rw [hik, List.take_length] at hpre; exact hpre⟩
   refine ⟨cn l, ?_, ?_, fun _ => rfl, (hfr.own hf5 (up_one (by omega))).own hf6 (up_one (by omega))⟩
   ·
    rw [decide_eq_true hgd, hik, List.take_length]
    rfl
   ·
    intro k
    unfold cn
    split
    ·
     omega
    ·
     exact Nat.le_trans List.count_le_length (by omega)
set_option maxRecDepth 100000 in
theorem left9_spec (f : Nat → Nat) (w : World) (hf : ∀ k, f k ≤ 320) :
  Calls Try.prog 89 #[.agg (CI f).toArray] w fun e w' => e = .returned (.int .i64 (32768 - ((KC f 16 : Nat) : Int))) ∧ Frm [] w w' := by
 refine VC.calls (nt := 18) (res := #[.tmp 2]) Try.func89 rfl Try.ntmps89 Try.results89 rfl ?_
 refine jS (jR ?_)
 refine Ops.m (Does.box rfl) rfl ?_
 rintro _ w1 ⟨rfl, hF1⟩
 have hb1 : Blk w1 w.heap.size 110 (CI f).toArray := hF1.blk
 have hfr1 := hF1.frm
 generalize hg : w.heap.size = g at hb1
 refine Ops.r (v := .int .i64 ((0 : Nat) : Int)) (Run.asg rfl) rfl ?_
 refine jO (jN (jv1 1 ?_))
 refine jS (jR ?_)
 refine Ops.r (v := .int .i64 ((32768 : Nat) : Int)) (Run.asg rfl) rfl ?_
 refine jO (jN (jS (jS (jR ?_))))
 refine Ops.r (v := .int .i64 ((0 : Nat) : Int)) (Run.mv rfl) rfl ?_
 refine jO (jN (jB ?_))
 refine VC.loop (σ := Nat) (fun s => [(1, .pointer (some ⟨g, 0, none⟩)), (3, .int .i64 (32768 - ((KC f s : Nat) : Int))), (5, .int .i64 s)]) (fun s wr => s ≤ 16 ∧ wr = w1) (fun s => 16 - s) 0 (js3 (by rw [← hg]; rfl) rfl rfl) ⟨by omega, rfl⟩ ?_
 rintro i _ ⟨hi, rfl⟩
 have hk := KC_le f hf i hi
 refine jS (jR ?_)
 refine Ops.r (Run.bin rfl rfl (Bin.lssN _ 16)) rfl ?_
 refine jO (jN (jS ?_))
 refine VC.condD rfl (fun hc1 => ?_) (fun hc1 => ?_)
 ·
  have hk1 := KC_le f hf (i + 1) (by omega)
  have he1 : KC f (i + 1) = KC f i + f i * 2 ^ (15 - i) := rfl
  have hfi := hf i
  refine jQ (jN (jv3 1 3 5 ?_))
  refine jS (jB (jS (jR (jM ?_))))
  refine jA ?_
  refine jO (jN (jv4 1 3 4 5 ?_))
  refine jR (jM ?_)
  refine jM ?_
  refine Ops.r (Run.indexA1 _ rfl rfl Try.underlying110 Try.sizeOf3 (by omega)) rfl ?_
  refine Ops.r (Run.load rfl Try.isAgg3 ((hb1.cell _).trans (by simpa using CI_get f i (by omega)))) rfl ?_
  refine jM ?_
  refine Ops.r (Run.bin rfl rfl (Bin.sub_i64 15 _ (by omega) (by omega))) rfl ?_
  refine Ops.r (Run.bin rfl rfl (Bin.shl_i64 _ _ (by omega) (by omega))) rfl ?_
  refine Ops.r (Run.bin rfl rfl (Bin.subZ _ _ (by omega) (by omega))) rfl ?_
  refine jA ?_
  refine jO ?_
  refine blockQ_n (jN ?_)
  refine jv3 1 3 5 ?_
  refine jR ?_
  refine Ops.r (Run.bin rfl rfl (Bin.add_i64 _ 1 (by omega))) rfl ?_
  refine jM ?_
  refine jO ?_
  refine jN ⟨(i + 1), (js3 rfl (congrArg (fun z => some (Value.int .i64 z)) (by omega)) rfl), ?_, ?_⟩
  ·
   exact ⟨hc1, rfl⟩
  ·
   first | omega | (dsimp only; omega)
 ·
  have h16 : i = 16 := by omega
  subst h16
  refine jX ?_
  refine thenQ_x (thenQ_x (blockQ_x ?_))
  refine jN (jv1 3 ?_)
  refine jS (jR (jM ?_))
  refine jA ?_
  refine jO (jN (jv1 2 ?_))
  refine jT ?_
  refine end1 rfl ?_
  exact ⟨rfl, hfr1⟩
def chk (l : List Int) : Nat := if ¬ good l then 1 else if 32768 < KC (cn l) 16 then 8 else if KC (cn l) 16 < 32768 then 2 else 0
set_option maxRecDepth 100000 in
theorem check_spec (A : Option Addr) (c0 : Nat) (l : List Int) (w : World) (hl : l.length ≤ 1000000000) (hr : Rd w 1 A l.length (IB l)) :
  Calls Try.prog 60 #[.slice A l.length c0] w fun e w' => e = .returned (.int .i64 ((chk l : Nat) : Int)) ∧ Frm [] w w' := by
 refine VC.calls (nt := 22) (res := #[.tmp 2]) Try.func60 rfl Try.ntmps60 Try.results60 rfl ?_
 refine jS (jR ?_)
 refine Ops.r (v := .int .i64 ((0 : Nat) : Int)) (Run.asg rfl) rfl ?_
 refine jO (jN (jv1 0 ?_))
 refine jS (jR (jM ?_))
 refine Ops.cl (Enters.fn (evs.cons rfl evs.nil) Try.call61) (count_spec' A c0 l _ hl hr) rfl ?_
 rintro e w1 ⟨f, rfl, hf, hgd, hf1⟩
 refine ⟨_, rfl, ?_⟩
 refine jM ?_
 refine Ops.r (Run.extract rfl rfl) rfl ?_
 refine Ops.r (Run.extract rfl rfl) rfl ?_
 refine Ops.m (Does.alloc zero110) rfl ?_
 rintro _ w2 ⟨rfl, hF2⟩
 have hb2 : Blk w2 w1.heap.size 110 (CI fun _ => 0).toArray := hF2.blk
 have hfr2 := hf1.own hF2.frm (by simp)
 have hg1 := hf1.size
 generalize hg : w1.heap.size = g at *
 refine Ops.st (Acts.storeA rfl rfl Try.sizeOf110 hb2 rfl (CI_one _)) ?_
 rintro w3 ⟨hb3, hf3, hs3⟩
 have hfr3 := hfr2.own hf3 (up_one (by omega))
 refine jA ?_
 refine jO (jN (jv2 3 4 ?_))
 refine jS (jR ?_)
 refine Ops.r (Run.loadB rfl Try.isAgg110 Try.sizeOf110 (hb3) rfl) rfl ?_
 refine Ops.cl (Enters.fn (evs.cons rfl evs.nil) Try.call89) (left9_spec f _ hf) rfl ?_
 rintro e w4 ⟨rfl, hf4⟩
 refine ⟨_, rfl, ?_⟩
 have hfr4 := hfr3.own hf4 (by simp)
 refine jA ?_
 refine jO (jN (jv2 4 5 ?_))
 refine jS (jB (jS (jR (jM ?_))))
 refine Ops.r (Run.not rfl) rfl ?_
 refine jA ?_
 refine jO (jN (jv2 5 13 ?_))
 refine VC.condB rfl (fun hc1 => ?_) (fun hc1 => ?_)
 ·
  have he : chk l = 1 := by unfold chk; rw [if_pos (by simpa using hc1)]
  refine jS (jR ?_)
  refine Ops.r (v := .int .i64 ((1 : Nat) : Int)) (Run.asg rfl) rfl ?_
  refine jO (jN (jv1 2 ?_))
  refine jT ?_
  refine blockQ_r (thenQ_r (end1 rfl ?_))
  exact ⟨by rw [he], hfr4⟩
 ·
  have hgl : good l := by simpa using hc1
  rw [hgd hgl] at *
  refine jS (jR (jM ?_))
  refine Ops.r (Run.bin rfl rfl (Bin.lss _ 0)) rfl ?_
  refine jA ?_
  refine jO (jN (jv2 5 16 ?_))
  refine VC.condD rfl (fun hc2 => ?_) (fun hc2 => ?_)
  ·
   have he : chk l = 8 := by unfold chk; rw [if_neg (by simpa using hgl), if_pos (by omega)]
   refine jS (jR ?_)
   refine Ops.r (v := .int .i64 ((8 : Nat) : Int)) (Run.asg rfl) rfl ?_
   refine jO (jN (jv1 2 ?_))
   refine jT ?_
   refine blockQ_r (thenQ_r (end1 rfl ?_))
   exact ⟨by rw [he], hfr4⟩
  ·
   refine jS (jR (jM ?_))
   refine Ops.r (Run.bin rfl rfl (Bin.gtr _ 0)) rfl ?_
   refine jA ?_
   refine jO (jN (jv1 19 ?_))
   refine VC.condD rfl (fun hc3 => ?_) (fun hc3 => ?_)
   ·
    have he : chk l = 2 := by unfold chk; rw [if_neg (by simpa using hgl), if_neg (by omega), if_pos (by omega)]
    refine jS (jR ?_)
    refine Ops.r (v := .int .i64 ((2 : Nat) : Int)) (Run.asg rfl) rfl ?_
    refine jO (jN (jv1 2 ?_))
    refine jT ?_
    refine blockQ_r (thenQ_r (end1 rfl ?_))
    exact ⟨by rw [he], hfr4⟩
   ·
    have he : chk l = 0 := by unfold chk; rw [if_neg (by simpa using hgl), if_neg (by omega), if_neg (by omega)]
    refine jQ ?_
    refine blockQ_n (jN ?_)
    refine VC.sub [] .nil ?_
    refine jS (jR ?_)
    refine Ops.r (v := .int .i64 ((0 : Nat) : Int)) (Run.asg rfl) rfl ?_
    refine jO (jN (jT ?_))
    refine end1 rfl ?_
    exact ⟨by rw [he], hfr4⟩
set_option maxRecDepth 100000 in
theorem firsts_spec (f : Nat → Nat) (w : World) (hf : ∀ k, f k ≤ 320) :
  Calls Try.prog 62 #[.agg (CI f).toArray] w fun e w' => e = .returned (.agg (CU (fstF f)).toArray) ∧ Frm [] w w' := by
 refine VC.calls (nt := 22) (res := #[.cell 2 113]) Try.func62 rfl Try.ntmps62 Try.results62 rfl ?_
 refine jS (jR ?_)
 refine Ops.m (Does.box rfl) rfl ?_
 rintro _ w1 ⟨rfl, hF1⟩
 have hb1 : Blk w1 w.heap.size 110 (CI f).toArray := hF1.blk
 refine Ops.m (Does.alloc zero113) rfl ?_
 rintro _ w2 ⟨rfl, hF2⟩
 have hb2 : Blk w2 w1.heap.size 113 (CU fun _ => 0).toArray := hF2.blk
 have hb12 := hb1.frm hF2.frm (by simp)
 refine jO (jN (jv2 1 2 ?_))
 refine jS (jR ?_)
 refine Ops.m (Does.alloc zero113) rfl ?_
 rintro _ w3 ⟨rfl, hF3⟩
 have hb3 : Blk w3 w2.heap.size 113 (CU fun _ => 0).toArray := hF3.blk
 have hb13 := hb12.frm hF3.frm (by simp)
 have hb23 := hb2.frm hF3.frm (by simp)
 have hfr3 := (hF1.frm.own hF2.frm (by simp)).own hF3.frm (by simp)
 have h1 := hb1.lt
 have h2 := hb2.lt
 generalize hg1 : w.heap.size = g1 at hb13 h1
 generalize hg2 : w1.heap.size = g2 at *
 generalize hg3 : w2.heap.size = g3 at *
 refine jO (jN (jS (jR ?_)))
 refine Ops.r (v := .int .u64 ((0 : Nat) : Int)) (Run.asg rfl) rfl ?_
 refine jO (jN (jS (jS (jR ?_))))
 refine Ops.r (v := .int .i64 ((1 : Nat) : Int)) (Run.asg rfl) rfl ?_
 refine jO (jN (jB ?_))
 refine VC.loop (σ := Nat) (fun s => [(1, .pointer (some ⟨g1, 0, none⟩)), (2, .pointer (some ⟨g2, 0, none⟩)), (3, .pointer (some ⟨g3, 0, none⟩)), (4, .int .u64 ((fstF f s : Nat) : Int)), (5, .int .i64 ((s + 1 : Nat) : Int))]) (fun s wr => s ≤ 15 ∧ Blk wr g1 110 (CI f).toArray ∧ Blk wr g2 113 (CU fun _ => 0).toArray ∧ Blk wr g3 113 (CU fun k => if k ≤ s then fstF f k else 0).toArray ∧ Frm [] w wr) (fun s => 16 - s) 0 (js5 (by rw [← hg1]; rfl) (by rw [← hg2]; rfl) (by rw [← hg3]; rfl) rfl rfl) ⟨by omega, hb13, hb23, by
   have e : (fun k => if k ≤ 0 then fstF f k else 0) = fun _ => 0 := by
    funext k
    split
    ·
     rename_i h; have : k = 0 := by omega
     subst this; rfl
    ·
     rfl
   rw [e]; exact hb3, hfr3⟩ ?_
 rintro i wr ⟨hi, hbc, hbr, hbf, hfr⟩
 have hfl := fstF_le f 320 hf i
 have hp : 2 ^ i ≤ 2 ^ 15 := Nat.pow_le_pow_right (by omega) hi
 have hfi := hf i
 refine jS (jS (jR (jM ?_)))
 refine Ops.r (Run.bin rfl rfl (Bin.leqN _ 15)) rfl ?_
 refine jO (jN (jv6 1 2 3 4 5 7 ?_))
 refine VC.condD rfl (fun hc1 => ?_) (fun hc1 => ?_)
 ·
  refine jQ (jN (jv5 1 2 3 4 5 ?_))
  refine jS (jB (jS (jR (jM ?_))))
  refine jM ?_
  refine Ops.r (Run.bin rfl rfl (Bin.sub_i64 _ 1 (by omega) (by omega))) rfl ?_
  refine Ops.r (Run.indexA1 _ rfl rfl Try.underlying110 Try.sizeOf3 (by omega)) rfl ?_
  refine Ops.r (Run.load rfl Try.isAgg3 ((hbc.cell _).trans (by simpa using CI_get f i (by omega)))) rfl ?_
  refine Ops.r (Run.convN _ rfl Try.underlying3 Try.underlying37 (by simp only [bmax]; omega)) rfl ?_
  refine Ops.r (Run.bin rfl rfl (Bin.add_u64 _ _ (by omega))) rfl ?_
  refine Ops.r (Run.bin rfl rfl (Bin.shl_u64 _ 1 (by omega) (by omega))) rfl ?_
  refine jA ?_
  refine jO (jN (jv5 1 2 3 4 5 ?_))
  refine jR (jM ?_)
  refine jM ?_
  refine Ops.r (Run.indexA1 _ rfl rfl Try.underlying113 Try.sizeOf37 (by omega)) rfl ?_
  refine Ops.st (Acts.store rfl rfl Try.sizeOf37 hbf (by simp [CU, Nat.blt_eq]; omega) rfl) ?_
  rintro w5 ⟨hb5, hf5, hs5⟩
  refine jO ?_
  refine blockQ_n (jN ?_)
  refine jv5 1 2 3 4 5 ?_
  refine jR (jM ?_)
  refine Ops.r (Run.bin rfl rfl (Bin.add_i64 _ 1 (by omega))) rfl ?_
  refine jA ?_
  refine jO ?_
  refine jN ⟨(i + 1), (js5 rfl rfl rfl (by rw [fstF]; rfl) rfl), ?_, ?_⟩
  ·
   refine ⟨by omega, hbc.frm hf5 (by simp; omega), hbr.frm hf5 (by simp; omega), ?_, hfr.own hf5 (up_one (by omega))⟩
   have e : (CU fun k => if k ≤ i + 1 then fstF f k else 0).toArray = (CU fun k => if k = 0 + (i + 1) then (fstF f i + f i) * 2 ^ 1 else if k ≤ i then fstF f k else 0).toArray := by
    congr 2
    funext k
    by_cases hk : k = i + 1
    ·
     subst hk; simp [fstF]
    ·
     by_cases hk2 : k ≤ i
     ·
      simp [hk, hk2, show k ≤ i + 1 by omega]
     ·
      simp [hk, hk2, show ¬ k ≤ i + 1 by omega]
   rw [e, ← CU_set]
   exact hb5
  ·
   first | omega | (dsimp only; omega)
 ·
  have h15 : i = 15 := by omega
  subst h15
  have hfull : (CU fun k => if k ≤ 15 then fstF f k else 0).toArray = (CU (fstF f)).toArray := rfl
  rw [hfull] at hbf
  refine jX ?_
  refine thenQ_x (thenQ_x (blockQ_x ?_))
  refine jN (jv2 2 3 ?_)
  refine jS (jR ?_)
  refine Ops.r (Run.loadB rfl Try.isAgg113 Try.sizeOf113 (hbf) rfl) rfl ?_
  refine Ops.st (Acts.storeA rfl rfl Try.sizeOf113 hbr rfl (CU_one _)) ?_
  rintro w6 ⟨hb6, hf6, hs6⟩
  refine jO (jN (jv1 2 ?_))
  refine jT ?_
  refine endR ?_
  refine res_cellB rfl Try.isAgg113 Try.sizeOf113 (hb6) rfl ?_
  refine res_nil ?_
  exact ⟨rfl, hfr.own hf6 (up_one (by omega))⟩
end Go.Proofs.Ytnmieihcjjiccaa
namespace Go.Proofs.Ytnmieihcjjiccaa
open Go.RowKit
def CB (c : Nat × Int) : List Value := [.int .u64 ((c.1 : Nat) : Int), .int .i64 c.2]
theorem CB_len (c : Nat × Int) : (CB c).length = 2 := rfl
theorem CB_one (c : Nat × Int) : ∀ v ∈ CB c, v.oneCell' = true := by
 intro v hv
 simp only [CB, List.mem_cons, List.not_mem_nil, or_false] at hv
 rcases hv with rfl | rfl <;> rfl
def NI (l : List Nat) : List Value := l.map fun n : Nat => .int .i64 (n : Int)
theorem NI_one (l : List Nat) : ∀ u ∈ NI l, u.oneCell' = true := by
 intro u hu
 obtain ⟨b, _, rfl⟩ := List.mem_map.1 hu
 rfl
theorem NI_append (a b : List Nat) : NI (a ++ b) = NI a ++ NI b := by simp [NI]
theorem NI_at {w : World} {A : Option Addr} {l : List Nat} {k : Nat} (h : Rd w 1 A l.length (NI l)) (hk : k < l.length) : ∃ ad, A = some ad ∧ w.cell? (ad.add k) = some (.int .i64 ((l[k] : Nat) : Int)) := by
 obtain ⟨ad, u, hA, hu, hc⟩ := h.at1 hk
 refine ⟨ad, hA, ?_⟩
 rw [hc]
 simp [NI, hk] at hu
 rw [hu]
theorem codesT_zero (l : List Int) : (List.replicate l.length [Value.int .u64 0, Value.int .i64 0]).flatten = (codesT l 0).flatMap CB := by
 have e : codesT l 0 = List.replicate l.length (0, 0) := by
  unfold codesT
  apply List.ext_getElem?
  intro i
  by_cases h : i < l.length <;> simp [h]
 rw [e, List.flatMap_replicate]
 rfl
theorem codesT_len (l : List Int) (i : Nat) : (codesT l i).length = l.length := by simp [codesT]
theorem take_count (l : List Int) (i : Nat) (h : i < l.length) (k : Nat) : (l.take (i + 1)).count (k : Int) = (l.take i).count (k : Int) + if l[i] = (k : Int) then 1 else 0 := by
 rw [List.take_add_one, List.getElem?_eq_getElem h, List.count_append]
 simp [List.count_singleton]
theorem getD_at (l : List Int) (i : Nat) (h : i < l.length) : l.getD i 0 = l[i] := by simp [List.getD, List.getElem?_eq_getElem h]
def nxt (l : List Int) (i n : Nat) : Nat := fst' l n + if n = 0 then 0 else (l.take i).count (n : Int)
theorem chk_good {l : List Int} (h : chk l ≠ 1) : good l := by
 unfold chk at h
 by_cases hg : good l
 ·
  exact hg
 ·
  rw [if_pos hg] at h; exact absurd rfl h
set_option maxRecDepth 100000 in
theorem codes_spec (A : Option Addr) (c0 : Nat) (l : List Int) (w : World) (hl : l.length ≤ 1000000) (hr : Rd w 1 A l.length (IB l)) :
  Calls Try.prog 31 #[.slice A l.length c0] w fun e w' => Frm [] w w' ∧
   if chk l = 1 ∨ chk l = 8 then e = .returned (.tuple #[.slice none 0 0, .int .i64 ((chk l : Nat) : Int)])
   else ∃ B c, e = .returned (.tuple #[.slice B l.length c, .int .i64 ((0 : Nat) : Int)]) ∧ Own w' 116 2 B l.length c ((codesL l).flatMap CB) ∧ ∀ x ∈ ob B, w.heap.size ≤ x := by
 refine VC.calls (nt := 54) (res := #[.tmp 2, .tmp 3]) Try.func31 rfl Try.ntmps31 Try.results31 rfl ?_
 refine jS (jR (jA ?_))
 refine Ops.r (v := .int .i64 ((0 : Nat) : Int)) (Run.asg rfl) rfl ?_
 refine jO (jN (jv1 0 ?_))
 refine jS (jS (jR (jM ?_)))
 refine Ops.cl (Enters.fn (evs.cons rfl evs.nil) Try.call60) (check_spec A c0 l _ (by omega) hr) rfl ?_
 rintro e w1 ⟨rfl, hf1⟩
 refine ⟨_, rfl, ?_⟩
 refine jA ?_
 refine jO (jN (jv2 0 4 ?_))
 refine jS ?_
 refine VC.split1 [(0, _), (4, _)] (js2 rfl rfl) 18 (.bool (decide (chk l = 1 ∨ chk l = 8))) ?_ ?_
 ·
  by_cases hs0 : chk l = 1
  ·
   refine jR (jM ?_)
   refine Ops.r (Run.bin rfl rfl (Bin.eqlN _ 1)) rfl ?_
   refine jM ?_
   refine Ops.sk rfl (by first | rfl | assumption | decide | (simp; done) | (simp; omega) | (simp [*]; done)) rfl ?_
   refine Ops.sk rfl (by first | rfl | assumption | decide | (simp; done) | (simp; omega) | (simp [*]; done)) rfl ?_
   refine Ops.r (Run.pickT rfl rfl (by first | rfl | assumption | decide | (simp; done) | (simp; omega) | (simp [*]; done))) rfl ?_
   refine jO ?_
   refine jN ⟨(js3 (by rw [dor1 hs0]; rfl) rfl rfl), rfl⟩
  ·
   refine jR (jM ?_)
   refine Ops.r (Run.bin rfl rfl (Bin.eqlN _ 1)) rfl ?_
   refine jM ?_
   refine Ops.rg rfl (by first | rfl | assumption | decide | (simp; done) | (simp; omega) | (simp [*]; done)) (Run.mv rfl) rfl ?_
   refine Ops.rg rfl (by first | rfl | assumption | decide | (simp; done) | (simp; omega) | (simp [*]; done)) (Run.bin rfl rfl (Bin.eqlN _ 8)) rfl ?_
   refine Ops.r (Run.pickF rfl rfl (by first | rfl | assumption | decide | (simp; done) | (simp; omega) | (simp [*]; done))) rfl ?_
   refine jO ?_
   refine jN ⟨(js3 (by rw [dor0 hs0]; rfl) rfl rfl), rfl⟩
 ·
  intro Γ hΓ
  refine jN (VC.sub _ hΓ ?_)
  refine VC.condD rfl (fun hc1 => ?_) (fun hc1 => ?_)
  ·
   refine jS (jR (jM ?_))
   refine jA ?_
   refine jA ?_
   refine jO (jN (jv2 2 3 ?_))
   refine jT ?_
   refine thenQ_r (end2 rfl rfl ?_)
   refine ⟨hf1, ?_⟩
   rw [if_pos hc1]
  ·
   have hgl : good l := chk_good (fun h => hc1 (.inl h))
   refine jQ (jN (jv1 0 ?_))
   refine jS (jR (jM ?_))
   refine Ops.cl (Enters.fn (evs.cons rfl evs.nil) Try.call61) (count_spec' A c0 l _ (by omega) (hr.belowW hf1.below)) rfl ?_
   rintro e w2 ⟨f, rfl, hf, hgd, hf2⟩
   refine ⟨_, rfl, ?_⟩
   rw [hgd hgl] at hf ⊢
   clear hgd
   have hfr2 := hf1.own hf2 (by simp)
   refine jM ?_
   refine Ops.r (Run.extract rfl rfl) rfl ?_
   refine Ops.r (Run.extract rfl rfl) rfl ?_
   refine Ops.m (Does.alloc zero110) rfl ?_
   rintro _ w3 ⟨rfl, hF3⟩
   have hb3 : Blk w3 w2.heap.size 110 (CI fun _ => 0).toArray := hF3.blk
   have hfr3 := hfr2.own hF3.frm (by simp)
   have hg3 := hfr2.size
   refine Ops.st (Acts.storeA rfl rfl Try.sizeOf110 hb3 rfl (CI_one _)) ?_
   rintro w4 ⟨hb4, hf4, hs4⟩
   have hfr4 := hfr3.own hf4 (up_one hg3)
   refine jA ?_
   refine jO (jN (jv2 0 5 ?_))
   refine jS (jR ?_)
   refine Ops.r (Run.loadB rfl Try.isAgg110 Try.sizeOf110 (hb4) rfl) rfl ?_
   refine Ops.cl (Enters.fn (evs.cons rfl evs.nil) Try.call62) (firsts_spec (cn l) _ hf) rfl ?_
   rintro e w5 ⟨rfl, hf5⟩
   refine ⟨_, rfl, ?_⟩
   have hfr5 := hfr4.own hf5 (by simp)
   refine Ops.m (Does.alloc zero113) rfl ?_
   rintro _ w6 ⟨rfl, hF6⟩
   have hb6 : Blk w6 w5.heap.size 113 (CU fun _ => 0).toArray := hF6.blk
   have hfr6 := hfr5.own hF6.frm (by simp)
   have hg6 := hfr5.size
   refine Ops.st (Acts.storeA rfl rfl Try.sizeOf113 hb6 rfl (CU_one _)) ?_
   rintro w7 ⟨hb7, hf7, hs7⟩
   have hfr7 := hfr6.own hf7 (up_one hg6)
   generalize hgn : w5.heap.size = gn at *
   refine jO (jN (jv2 0 7 ?_))
   refine jS (jR (jM ?_))
   refine Ops.r (Run.lenS rfl Try.underlying38) rfl ?_
   refine Ops.m (Does.makeS rfl rfl Try.underlying60 (info116) rfl (by omega) (by omega)) rfl ?_
   rintro _ w8 ⟨rfl, ho8, hf8, hs8⟩
   have hb8 := hb7.frm hf8 (by simp)
   have hfr8 := hfr7.own hf8 (by simp)
   have hg8 := hfr7.size
   have ho8 : Own w8 116 2 (some ⟨w7.heap.size, 0, none⟩) l.length l.length ((codesT l 0).flatMap CB) := by rw [← codesT_zero]; exact ho8
   generalize hgo : w7.heap.size = go at *
   refine jA ?_
   refine jO (jN (jv3 0 7 8 ?_))
   refine jS (jS (jR (jM ?_)))
   refine Ops.r (Run.lenS rfl Try.underlying38) rfl ?_
   refine Ops.r (v := .int .i64 ((0 : Nat) : Int)) (Run.mv rfl) rfl ?_
   refine jO (jN (jv5 7 8 30 31 32 ?_))
   refine jB ?_
   refine VC.loop (σ := Nat) (fun s => [(7, .pointer (some ⟨gn, 0, none⟩)), (8, .slice (some ⟨go, 0, none⟩) l.length l.length), (30, .slice A l.length c0), (31, .int .i64 ((l.length : Nat) : Int)), (32, .int .i64 s)]) (fun s wr => s ≤ l.length ∧ Blk wr gn 113 (CU (nxt l s)).toArray ∧ Own wr 116 2 (some ⟨go, 0, none⟩) l.length l.length ((codesT l s).flatMap CB) ∧ Frm [] w wr) (fun s => l.length - s) 0 (js5 (by rw [← hgn]; rfl) (by rw [← hgo]; rfl) rfl rfl rfl) ⟨by omega, by
   have e : nxt l 0 = fst' l := by funext n; simp [nxt]
   rw [e]; exact hb8, ho8, hfr8⟩ ?_
   rintro i wr ⟨hi, hbn, ho, hfr⟩
   refine jS (jR ?_)
   refine Ops.r (Run.bin rfl rfl (Bin.lssN _ _)) rfl ?_
   refine jO (jN (jS ?_))
   refine VC.condD rfl (fun hc2 => ?_) (fun hc2 => ?_)
   ·
    obtain ⟨ad, rfl, hcell⟩ := IB_at (hr.belowW hfr.below) hc2
    obtain ⟨hx0, hx15⟩ := hgl.2 _ (List.getElem_mem hc2)
    have htc := take_count l i hc2
    have hgt := getD_at l i hc2
    obtain ⟨m, hm⟩ : ∃ m : Nat, l[i] = (m : Int) := ⟨l[i].toNat, by omega⟩
    rw [hm] at hcell htc hgt hx15
    have hsm := fst_small l hgl.1 m (by omega)
    have hcm : (l.take i).count (m : Int) ≤ l.count (m : Int) := (List.take_sublist i l).count_le _
    have hne : gn ≠ go := by
     intro h
     have h1 := ho.lt go (by simp [ob])
     rw [h] at hbn
     have h2 := hbn
     rcases ho.cases with ⟨h0, _⟩ | ⟨g', cur, hA, hbb, _⟩
     ·
      cases h0
     ·
      simp only [Option.some.injEq, Addr.mk.injEq, and_true] at hA
      rw [← hA] at hbb
      have := h2.symm.trans hbb
      simp at this
    refine jQ (jN (jv5 7 8 30 31 32 ?_))
    refine jS (jB (jS (jR (jM ?_))))
    refine Ops.r (Run.index1 _ rfl rfl Try.underlying38 Try.sizeOf3 (by omega)) rfl ?_
    refine Ops.r (Run.load rfl Try.isAgg3 hcell) rfl ?_
    refine jA ?_
    refine jA ?_
    refine jO (jN (jv7 7 8 9 10 30 31 32 ?_))
    refine jS (jR (jM ?_))
    refine Ops.r (Run.bin rfl rfl (Bin.gtr _ 0)) rfl ?_
    refine jO (jN (jv8 7 8 9 10 30 31 32 38 ?_))
    refine VC.meet (σ := Unit) (fun s => [(7, .pointer (some ⟨gn, 0, none⟩)), (8, .slice (some ⟨go, 0, none⟩) l.length l.length), (30, .slice (some ad) l.length c0), (31, .int .i64 ((l.length : Nat) : Int)), (32, .int .i64 i)]) (fun s w9 => Blk w9 gn 113 (CU (nxt l (i + 1))).toArray ∧ Own w9 116 2 (some ⟨go, 0, none⟩) l.length l.length ((codesT l (i + 1)).flatMap CB) ∧ Frm [] w w9) ?_ ?_
    ·
     refine VC.condD rfl (fun hc3 => ?_) (fun hc3 => ?_)
     ·
      have hm0 : m ≠ 0 := by omega
      have hnx : nxt l i m = fst' l m + (l.take i).count (m : Int) := by unfold nxt; rw [if_neg hm0]
      have hcn : cn l m = l.count (m : Int) := by unfold cn; rw [if_neg hm0]
      have hcc : codeC l i = (nxt l i m, (m : Int)) := by
       unfold codeC codeOf rank
       rw [hgt, if_neg (by omega), hnx, Int.toNat_natCast]
      refine jS (jR (jM ?_))
      refine jM ?_
      refine jM ?_
      refine Ops.r (Run.indexA1 _ rfl rfl Try.underlying113 Try.sizeOf37 (by omega)) rfl ?_
      refine Ops.r (Run.load rfl Try.isAgg37 ((hbn.cell _).trans (by simpa using CU_get _ m (by omega)))) rfl ?_
      refine jM ?_
      refine Ops.r (Run.build (evs.cons rfl (evs.cons rfl evs.nil)) zero116 (places116).choose_spec.1 (places116).choose_spec.2 rfl) rfl ?_
      refine Ops.r (Run.indexS _ rfl rfl Try.underlying60 Try.sizeOf116 (by omega)) rfl ?_
      refine Ops.st (Acts.storeOwnA CB (nxt l i m, (m : Int)) i rfl rfl Try.sizeOf116 CB_len (codesT_len l i) ho rfl hc2 (CB_one _)) ?_
      rintro w3 ⟨ho3, hf3, hs3⟩
      rw [← hcc, codesT_set] at ho3
      have hbn3 := hbn.frm hf3 (by simpa [ob] using hne)
      have hfr3 := hfr.own hf3 (by simp [ob]; omega)
      refine jO (jN (jv6 7 8 10 30 31 32 ?_))
      refine jR (jM ?_)
      refine Ops.r (Run.indexA1 _ rfl rfl Try.underlying113 Try.sizeOf37 (by omega)) rfl ?_
      refine Ops.r (Run.load rfl Try.isAgg37 ((hbn3.cell _).trans (by simpa using CU_get _ m (by omega)))) rfl ?_
      refine Ops.r (Run.bin rfl rfl (Bin.add_u64 _ 1 (by omega))) rfl ?_
      refine Ops.r (Run.indexA1 _ rfl rfl Try.underlying113 Try.sizeOf37 (by omega)) rfl ?_
      refine Ops.st (Acts.store rfl rfl Try.sizeOf37 hbn3 (by simp [CU, Nat.blt_eq]; omega) rfl) ?_
      rintro w4 ⟨hb4, hf4, hs4⟩
      refine jO ?_
      refine jN ⟨(), (js5 rfl rfl rfl rfl rfl), ?_⟩
      refine ⟨?_, ho3.frm hf4 (by simp [ob]; omega), hfr3.own hf4 (up_one (by omega))⟩
      rw [CU_set] at hb4
      have e : (fun k => if k = 0 + m then nxt l i m + 1 else nxt l i k) = nxt l (i + 1) := by
       funext k
       unfold nxt
       rw [htc k]
       by_cases hk : k = m
       ·
        subst hk; simp [hm0]; omega
       ·
        have : ¬ (m : Int) = (k : Int) := by omega
        simp [hk, this]
      rw [← e]
      exact hb4
     ·
      refine jQ ?_
      refine jN ⟨(), (js5 rfl rfl rfl rfl rfl), ?_⟩
      have hm0 : m = 0 := by omega
      subst hm0
      refine ⟨?_, by rw [codesT_same l i (by rw [hgt]; rfl)]; exact ho, hfr⟩
      have e : nxt l (i + 1) = nxt l i := by
       funext k
       unfold nxt
       rw [htc k]
       by_cases hk : k = 0
       ·
        simp [hk]
       ·
        have : ¬ ((0 : Nat) : Int) = (k : Int) := by omega
        rw [if_neg this, Nat.add_zero]
      rw [e]
      exact hbn
    ·
     rintro _ w9 ⟨hbn9, ho9, hfr9⟩ Γ hΓ
     refine blockQ_n (jN (VC.sub _ hΓ ?_))
     refine jR ?_
     refine Ops.r (Run.bin rfl rfl (Bin.add_i64 _ 1 (by omega))) rfl ?_
     refine jM ?_
     refine jO ?_
     refine jN ⟨(i + 1), (js5 rfl rfl rfl rfl rfl), ?_, ?_⟩
     ·
      exact ⟨hc2, hbn9, ho9, hfr9⟩
     ·
      first | omega | (dsimp only; omega)
   ·
    refine jX ?_
    refine thenQ_x (thenQ_x (blockQ_x ?_))
    refine jN (jv1 8 ?_)
    refine jS (jR (jM ?_))
    refine jA ?_
    refine Ops.r (v := .int .i64 ((0 : Nat) : Int)) (Run.asg rfl) rfl ?_
    refine jO (jN (jv2 2 3 ?_))
    refine jT ?_
    refine end2 rfl rfl ?_
    have hil : i = l.length := by omega
    refine ⟨hfr, ?_⟩
    rw [if_neg hc1]
    rw [hil, codesT_all] at ho
    exact ⟨_, _, rfl, ho, by simp [ob]; omega⟩
def DC (f F : Nat → Nat) (A : Option Addr) (n c : Nat) (most : Nat) : Array Value := (CI f ++ CU F ++ [Value.slice A n c, Value.int .i64 ((most : Nat) : Int)]).toArray
def IsD (w : World) (g : Nat) (A : Option Addr) (c : Nat) (f F : Nat → Nat) (sy : List Nat) (most : Nat) : Prop :=
 Blk w g 181 (DC f F A sy.length c most) ∧ Own w 3 1 A sy.length c (NI sy)
theorem IsD.frm {w w' : World} {g : Nat} {A : Option Addr} {c : Nat} {f F : Nat → Nat} {sy : List Nat} {most : Nat} {S : List Nat} (h : IsD w g A c f F sy most) (k : Frm S w w') (hS : ∀ x ∈ g :: ob A, x ∉ S) : IsD w' g A c f F sy most :=
 ⟨h.1.frm k (hS g (by simp)), h.2.frm k (fun x hx => hS x (by simp [hx]))⟩
def mostC (l : List Int) : Nat := if chk l = 2 then (order l).length else 15
end Go.Proofs.Ytnmieihcjjiccaa
namespace Go.Proofs.Ytnmieihcjjiccaa
open Go.RowKit
def BL (l : List Bool) : List Value := l.map Value.bool
theorem BL_one (l : List Bool) : ∀ u ∈ BL l, u.oneCell' = true := by
 intro u hu
 obtain ⟨b, _, rfl⟩ := List.mem_map.1 hu
 rfl
theorem BL_append (a b : List Bool) : BL (a ++ b) = BL a ++ BL b := by simp [BL]
theorem BL_get (l : List Bool) (i : Nat) (b : Bool) (h : l[i]? = some b) : (BL l)[i]? = some (.bool b) := by simp [BL, h]
theorem NB_U8 (xs : List Nat) (h : ∀ x ∈ xs, x < 256) : NB xs = U8 (xs.map UInt8.ofNat) := by
 simp only [NB, U8, List.map_map]
 apply List.map_congr_left
 intro x hx
 have := h x hx
 simp
 omega
def strB (xs : List Nat) : ByteArray := ⟨(xs.map UInt8.ofNat).toArray⟩
theorem strB_size (xs : List Nat) : (strB xs).size = xs.length := by simp [strB, ByteArray.size]
theorem strB_append (a b : List Nat) : strB a ++ strB b = strB (a ++ b) := by
 unfold strB
 rw [ByteArray.mk_append_mk, List.map_append]
set_option maxRecDepth 100000 in
theorem refBits_spec (v n : Nat) (w : World) (hv : v ≤ 18446744073709551615) (hn : n ≤ 1000) :
  Calls Try.prog 63 #[.int .u64 v, .int .i64 n] w fun e w' => ∃ A c, e = .returned (.slice A n c) ∧ Own w' 4 1 A n c (BL (bitsL v n)) ∧ Frm [] w w' ∧ ∀ x ∈ ob A, w.heap.size ≤ x := by
 refine VC.calls (nt := 21) (res := #[.tmp 4]) Try.func63 rfl Try.ntmps63 Try.results63 rfl ?_
 refine jS (jR (jA ?_))
 refine jO (jN (jv2 0 1 ?_))
 refine jS (jR (jA ?_))
 refine jO (jN (jS (jS (jR ?_))))
 refine Ops.r (v := .int .i64 ((0 : Nat) : Int)) (Run.asg rfl) rfl ?_
 refine jO (jN (jB ?_))
 refine VC.loop (σ := Nat × Option Addr × Nat) (fun s => [(0, .int .u64 ((v / 2 ^ s.1 : Nat) : Int)), (1, .int .i64 n), (5, .slice s.2.1 s.1 s.2.2), (6, .int .i64 s.1)]) (fun s wr => s.1 ≤ n ∧ Own wr 4 1 s.2.1 s.1 s.2.2 (BL (bitsL v s.1)) ∧ Frm [] w wr ∧ ∀ x ∈ ob s.2.1, w.heap.size ≤ x) (fun s => n - s.1) (0, none, 0) (js4 (by rw [show v / 2 ^ 0 = v by simp]; rfl) rfl rfl rfl) ⟨by omega, Own.nil _ _ _, Frm.refl _ _, by simp [ob]⟩ ?_
 rintro ⟨k, A, c⟩ wr ⟨hk, hown, hfr, hA⟩
 dsimp only at hk hown hfr hA ⊢
 refine jS (jS (jR (jM ?_)))
 refine jM ?_
 refine Ops.r (Run.bin rfl rfl (Bin.lssN _ _)) rfl ?_
 refine jO (jN (jv5 0 1 5 6 9 ?_))
 refine VC.condD rfl (fun hc1 => ?_) (fun hc1 => ?_)
 ·
  refine jQ (jN (jv4 0 1 5 6 ?_))
  refine jS (jB (jS (jR (jM ?_))))
  refine jM ?_
  refine Ops.r (Run.bin rfl rfl (Bin.remN _ 2 (by omega))) rfl ?_
  refine Ops.r (Run.bin rfl rfl (Bin.eqlN _ 1)) rfl ?_
  refine Ops.m (Does.buildS1 rfl Try.underlying65 Try.sizeOf4 zero4 (by decide) (by decide) rfl rfl) rfl ?_
  rintro _ w1 ⟨rfl, hF⟩
  have hown1 := hown.frm hF.frm (by simp)
  have hrd1 : Rd w1 1 (some ⟨wr.heap.size, 0, none⟩) 1 (BL [decide (v / 2 ^ k % 2 = 1)]) := Rd.of_blk hF.blk rfl
  refine Ops.m (Does.app rfl rfl Try.underlying65 (info4) rfl (by decide) hown1 hrd1 (BL_one _) (by omega) (by omega)) rfl ?_
  rintro _ w2 ⟨A2, c2, rfl, hown2, hfr2, hob2⟩
  refine jA ?_
  refine jO (jN (jv4 0 1 5 6 ?_))
  refine jR (jM ?_)
  refine Ops.r (Run.bin rfl rfl (Bin.quo_u64 _ 2 (by omega) (Nat.le_trans (Nat.div_le_self _ _) hv))) rfl ?_
  refine jA ?_
  refine jO ?_
  refine blockQ_n (jN ?_)
  refine jv4 0 1 5 6 ?_
  refine jR (jM ?_)
  refine Ops.r (Run.bin rfl rfl (Bin.add_i64 _ 1 (by omega))) rfl ?_
  refine jA ?_
  refine jO ?_
  refine jN ⟨(k + 1, A2, c2), (js4 (by rw [show v / 2 ^ (k + 1) = v / 2 ^ k / 2 by rw [Nat.pow_succ, Nat.div_div_eq_div_mul]]; rfl) rfl rfl rfl), ?_, ?_⟩
  ·
   refine ⟨hc1, ?_, ?_, ?_⟩
   ·
    rw [bitsL_succ, BL_append]; exact hown2
   ·
    exact (hfr.trans hF.frm (by simp)).trans hfr2 (fun x hx => .inr (hA x hx))
   ·
    intro x hx
    have := hfr.size
    have := hF.size
    rcases hob2 with h | h <;> rw [h] at hx
    ·
     exact hA x hx
    ·
     simp at hx; omega
  ·
   first | omega | (dsimp only; omega)
 ·
  refine jX ?_
  refine thenQ_x (thenQ_x (blockQ_x ?_))
  refine jN (jv1 5 ?_)
  refine jS (jR (jM ?_))
  refine jA ?_
  refine jO (jN (jv1 4 ?_))
  refine jT ?_
  refine end1 rfl ?_
  have : k = n := by omega
  subst this
  exact ⟨A, c, rfl, hown, hfr, hA⟩
set_option maxRecDepth 100000 in
theorem back_spec (B : Option Addr) (c0 : Nat) (l : List Bool) (w : World) (hl : l.length ≤ 1000000) (hr : Rd w 1 B l.length (BL l)) :
  Calls Try.prog 73 #[.slice B l.length c0] w fun e w' => ∃ A c, e = .returned (.slice A l.length c) ∧ Own w' 4 1 A l.length c (BL l.reverse) ∧ Frm [] w w' ∧ ∀ x ∈ ob A, w.heap.size ≤ x := by
 refine VC.calls (nt := 20) (res := #[.tmp 2]) Try.func73 rfl Try.ntmps73 Try.results73 rfl ?_
 refine jS (jR (jA ?_))
 refine jO (jN (jv1 0 ?_))
 refine jS (jR (jA ?_))
 refine jO (jN (jS (jS (jR (jM ?_)))))
 refine Ops.r (Run.lenS rfl Try.underlying65) rfl ?_
 refine Ops.r (Run.bin rfl rfl (Bin.subZ _ 1 (by omega) (by omega))) rfl ?_
 refine jA ?_
 refine jO (jN (jv3 0 3 4 ?_))
 refine jB ?_
 refine VC.loop (σ := Nat × Option Addr × Nat) (fun s => [(0, .slice B l.length c0), (3, .slice s.2.1 (l.length - s.1) s.2.2), (4, .int .i64 ((s.1 : Int) - 1))]) (fun s wr => s.1 ≤ l.length ∧ Own wr 4 1 s.2.1 (l.length - s.1) s.2.2 (BL (l.drop s.1).reverse) ∧ Frm [] w wr ∧ ∀ x ∈ ob s.2.1, w.heap.size ≤ x) (fun s => s.1) (l.length, none, 0) (js3 rfl (by rw [Nat.sub_self]; rfl) rfl) ⟨by omega, by rw [Nat.sub_self, List.drop_length]; exact Own.nil _ _ _, Frm.refl _ _, by simp [ob]⟩ ?_
 rintro ⟨k, A, c⟩ wr ⟨hk, hown, hfr, hA⟩
 dsimp only at hk hown hfr hA ⊢
 refine jS (jS (jR (jM ?_)))
 refine Ops.r (Run.bin rfl rfl (Bin.geq _ 0)) rfl ?_
 refine jO (jN (jv4 0 3 4 9 ?_))
 refine VC.condD rfl (fun hc1 => ?_) (fun hc1 => ?_)
 ·
  obtain ⟨m, rfl⟩ : ∃ m, k = m + 1 := ⟨k - 1, by omega⟩
  rw [show (((m + 1 : Nat) : Int) - 1) = ((m : Nat) : Int) from by omega]
  have hrw := hr.belowW hfr.below
  obtain ⟨ad, hB, _, hcell⟩ := hrw.2 (by omega)
  subst hB
  have hm : l[m]? = some l[m] := List.getElem?_eq_getElem (by omega)
  have hcm := hcell m _ (BL_get l m _ hm)
  refine jQ (jN (jv3 0 3 4 ?_))
  refine jS (jB (jR (jM ?_)))
  refine jM ?_
  refine jM ?_
  refine Ops.r (Run.index1 _ rfl rfl Try.underlying65 Try.sizeOf4 (by omega)) rfl ?_
  refine Ops.r (Run.load rfl Try.isAgg4 hcm) rfl ?_
  refine Ops.m (Does.buildS1 rfl Try.underlying65 Try.sizeOf4 zero4 (by decide) (by decide) rfl rfl) rfl ?_
  rintro _ w1 ⟨rfl, hF⟩
  have hown1 := hown.frm hF.frm (by simp)
  have hrd1 : Rd w1 1 (some ⟨wr.heap.size, 0, none⟩) 1 (BL [l[m]]) := Rd.of_blk hF.blk rfl
  refine Ops.m (Does.app rfl rfl Try.underlying65 (info4) rfl (by decide) hown1 hrd1 (BL_one _) (by omega) (by omega)) rfl ?_
  rintro _ w2 ⟨A2, c2, rfl, hown2, hfr2, hob2⟩
  refine jA ?_
  refine jO ?_
  refine blockQ_n (jN ?_)
  refine jv3 0 3 4 ?_
  refine jR (jM ?_)
  refine Ops.r (Run.bin rfl rfl (Bin.subZ _ 1 (by omega) (by omega))) rfl ?_
  refine jA ?_
  refine jO ?_
  refine jN ⟨(m, A2, c2), (js3 rfl (by rw [show l.length - m = l.length - (m + 1) + 1 by omega]; rfl) rfl), ?_, ?_⟩
  ·
   have e1 : l.length - (m + 1) + 1 = l.length - m := by omega
   have e2 : (l.drop m).reverse = (l.drop (m + 1)).reverse ++ [l[m]] := by rw [List.drop_eq_getElem_cons (by omega), List.reverse_cons]
   refine ⟨by dsimp only; omega, ?_, ?_, ?_⟩
   ·
    rw [e2, BL_append, ← e1]; exact hown2
   ·
    exact (hfr.trans hF.frm (by simp)).trans hfr2 (fun x hx => .inr (hA x hx))
   ·
    intro x hx
    have := hfr.size
    have := hF.size
    rcases hob2 with h | h <;> rw [h] at hx
    ·
     exact hA x hx
    ·
     simp at hx; omega
  ·
   first | omega | (dsimp only; omega)
 ·
  refine jX ?_
  refine thenQ_x (thenQ_x (blockQ_x ?_))
  refine jN (jv1 3 ?_)
  refine jS (jR (jM ?_))
  refine jA ?_
  refine jO (jN (jv1 2 ?_))
  refine jT ?_
  refine end1 rfl ?_
  have : k = 0 := by omega
  subst this
  rw [Nat.sub_zero, List.drop_zero] at hown
  exact ⟨A, c, rfl, hown, hfr, hA⟩
set_option maxRecDepth 100000 in
theorem whole_spec (B : Option Addr) (c0 : Nat) (l : List Bool) (w : World) (hl : l.length ≤ 1000000000) (hr : Rd w 1 B l.length (BL l)) :
  Calls Try.prog 67 #[.slice B l.length c0] w fun e w' => ∃ A c, e = .returned (.slice A (whole l).length c) ∧ Own w' 4 1 A (whole l).length c (BL (whole l)) ∧ Frm [] w w' ∧ ∀ x ∈ ob A, w.heap.size ≤ x := by
 refine VC.calls (nt := 15) (res := #[.tmp 2]) Try.func67 rfl Try.ntmps67 Try.results67 rfl ?_
 refine jS (jR (jA ?_))
 refine jO (jN (jv1 0 ?_))
 refine jS (jR ?_)
 refine Ops.m (Does.buildS0 Try.underlying65 Try.sizeOf4) rfl ?_
 rintro _ w1 ⟨rfl, hF1⟩
 have ho1 : Own w1 4 1 (some ⟨w.heap.size, 0, none⟩) 0 0 [] := Own.of_blk hF1.blk rfl (by simp [maxLen])
 have hr1 := hr.frm hF1.frm (by simp)
 refine jM ?_
 refine Ops.m (Does.app rfl rfl Try.underlying65 (info4) rfl (by decide) ho1 hr1 (BL_one _) (by omega) (by omega)) rfl ?_
 rintro _ w2 ⟨A2, c2, rfl, hown2, hfr2, hob2⟩
 rw [List.nil_append, Nat.zero_add] at hown2
 rw [Nat.zero_add]
 have hA2 : ∀ x ∈ ob A2, w.heap.size ≤ x := by
  intro x hx
  have := hF1.size
  rcases hob2 with h | h <;> rw [h] at hx
  ·
   simp [ob] at hx; omega
  ·
   simp at hx; omega
 have hfr02 : Frm [] w w2 := hF1.frm.trans hfr2 (fun x hx => .inr (by simp [ob] at hx; omega))
 refine jA ?_
 refine jO (jN (jv1 3 ?_))
 refine jS (jB ?_)
 refine VC.loop (σ := List Bool × Option Addr × Nat) (fun s => [(3, .slice s.2.1 s.1.length s.2.2)]) (fun s wr => s.1.length ≤ (whole l).length ∧ whole s.1 = whole l ∧ Own wr 4 1 s.2.1 s.1.length s.2.2 (BL s.1) ∧ Frm [] w wr ∧ ∀ x ∈ ob s.2.1, w.heap.size ≤ x) (fun s => (whole l).length - s.1.length) (l, A2, c2) (js1 rfl) ⟨by rw [whole_len]; dsimp only; omega, rfl, hown2, hfr02, hA2⟩ ?_
 rintro ⟨o, A, c⟩ wr ⟨hk, hwo, hown, hfr, hA⟩
 dsimp only at hk hwo hown hfr hA ⊢
 have hwl := whole_len l
 have hwo2 := whole_len o
 rw [hwo] at hwo2
 refine jS (jS (jR (jM ?_)))
 refine Ops.r (Run.lenS rfl Try.underlying65) rfl ?_
 refine Ops.r (Run.bin rfl rfl (Bin.remN _ 8 (by omega))) rfl ?_
 refine Ops.r (Run.bin rfl rfl (Bin.neqN _ 0)) rfl ?_
 refine jO (jN (jv2 3 10 ?_))
 refine VC.condD rfl (fun hc1 => ?_) (fun hc1 => ?_)
 ·
  refine jQ (jN (jv1 3 ?_))
  refine jB (jR (jM ?_))
  refine Ops.m (Does.buildS1 rfl Try.underlying65 Try.sizeOf4 zero4 (by decide) (by decide) rfl rfl) rfl ?_
  rintro _ w3 ⟨rfl, hF⟩
  have hown3 := hown.frm hF.frm (by simp)
  have hrd3 : Rd w3 1 (some ⟨wr.heap.size, 0, none⟩) 1 (BL [false]) := Rd.of_blk hF.blk rfl
  refine Ops.m (Does.app rfl rfl Try.underlying65 (info4) rfl (by decide) hown3 hrd3 (BL_one _) (by omega) (by omega)) rfl ?_
  rintro _ w4 ⟨A4, c4, rfl, hown4, hfr4, hob4⟩
  refine jA ?_
  refine jO ?_
  refine blockQ_n (jN ⟨(o ++ [false], A4, c4), (js1 (by rw [List.length_append] <;> rfl)), ?_, ?_⟩)
  ·
   have e := whole_step o hc1
   refine ⟨by rw [List.length_append]; simp; omega, by rw [e]; exact hwo, ?_, ?_, ?_⟩
   ·
    rw [List.length_append, BL_append]; exact hown4
   ·
    exact (hfr.trans hF.frm (by simp)).trans hfr4 (fun x hx => .inr (hA x hx))
   ·
    intro x hx
    have := hfr.size
    have := hF.size
    rcases hob4 with h | h <;> rw [h] at hx
    ·
     exact hA x hx
    ·
     simp at hx; omega
  ·
   simp only [List.length_append, List.length_singleton]; omega
 ·
  refine jX ?_
  refine thenQ_x (thenQ_x (blockQ_x ?_))
  refine jN (jv1 3 ?_)
  refine jS (jR (jM ?_))
  refine jA ?_
  refine jO (jN (jv1 2 ?_))
  refine jT ?_
  refine end1 rfl ?_
  have h0 : o.length % 8 = 0 := by simpa using hc1
  rw [whole_of o h0] at hwo
  subst hwo
  exact ⟨A, c, rfl, hown, hfr, hA⟩
set_option maxRecDepth 100000 in
theorem of_spec (B : Option Addr) (c0 : Nat) (bs : List Nat) (w : World) (hl : bs.length ≤ 1000000) (hb : ∀ b ∈ bs, b < 256) (hr : Rd w 1 B bs.length (NB bs)) :
  Calls Try.prog 74 #[.slice B bs.length c0] w fun e w' => ∃ A c, e = .returned (.slice A (8 * bs.length) c) ∧ Own w' 4 1 A (8 * bs.length) c (BL (ofB bs)) ∧ Frm [] w w' ∧ ∀ x ∈ ob A, w.heap.size ≤ x := by
 refine VC.calls (nt := 20) (res := #[.tmp 2]) Try.func74 rfl Try.ntmps74 Try.results74 rfl ?_
 refine jS (jR (jA ?_))
 refine jO (jN (jv1 0 ?_))
 refine jS (jR (jA ?_))
 refine jO (jN (jS (jS (jR ?_))))
 refine Ops.r (v := .int .i64 ((0 : Nat) : Int)) (Run.asg rfl) rfl ?_
 refine jO (jN (jB ?_))
 refine VC.loop (σ := Nat × Option Addr × Nat) (fun s => [(0, .slice B bs.length c0), (3, .slice s.2.1 (8 * s.1) s.2.2), (4, .int .i64 s.1)]) (fun s wr => s.1 ≤ bs.length ∧ Own wr 4 1 s.2.1 (8 * s.1) s.2.2 (BL (ofB (bs.take s.1))) ∧ Frm [] w wr ∧ ∀ x ∈ ob s.2.1, w.heap.size ≤ x) (fun s => bs.length - s.1) (0, none, 0) (js3 rfl rfl rfl) ⟨by omega, Own.nil _ _ _, Frm.refl _ _, by simp [ob]⟩ ?_
 rintro ⟨k, A, c⟩ wr ⟨hk, hown, hfr, hA⟩
 dsimp only at hk hown hfr hA ⊢
 refine jS (jS (jR (jM ?_)))
 refine jM ?_
 refine Ops.r (Run.lenS rfl Try.underlying22) rfl ?_
 refine Ops.r (Run.bin rfl rfl (Bin.lssN _ _)) rfl ?_
 refine jO (jN (jv4 0 3 4 8 ?_))
 refine VC.condD rfl (fun hc1 => ?_) (fun hc1 => ?_)
 ·
  have hrw := hr.belowW hfr.below
  obtain ⟨ad, hB, _, hcell⟩ := hrw.2 (by omega)
  subst hB
  have hcm := hcell k _ (NB_get bs k hc1)
  have hbk : bs.getD k 0 < 256 := by
   rw [List.getD_eq_getElem?_getD, List.getElem?_eq_getElem hc1]
   exact hb _ (List.getElem_mem _)
  refine jQ (jN (jv3 0 3 4 ?_))
  refine jS (jB (jR (jM ?_)))
  refine jM ?_
  refine jM ?_
  refine Ops.r (Run.index1 _ rfl rfl Try.underlying22 Try.sizeOf5 (by omega)) rfl ?_
  refine Ops.r (Run.load rfl Try.isAgg5 hcm) rfl ?_
  refine Ops.r (Run.convN _ rfl Try.underlying5 Try.underlying37 (by simp only [bmax]; omega)) rfl ?_
  refine Ops.cl (Enters.fn (evs.cons rfl (evs.cons rfl evs.nil)) Try.call63) (refBits_spec (bs.getD k 0) 8 _ (by omega) (by omega)) rfl ?_
  rintro e w1 ⟨A1, c1, rfl, ho1, hf1, hA1⟩
  refine ⟨_, rfl, ?_⟩
  have hown1 := hown.frm hf1 (by simp)
  refine Ops.m (Does.app rfl rfl Try.underlying65 (info4) rfl (by decide) hown1 ho1.rd (BL_one _) (by omega) (by omega)) rfl ?_
  rintro _ w2 ⟨A2, c2, rfl, hown2, hfr2, hob2⟩
  refine jA ?_
  refine jO ?_
  refine blockQ_n (jN ?_)
  refine jv3 0 3 4 ?_
  refine jR (jM ?_)
  refine Ops.r (Run.bin rfl rfl (Bin.add_i64 _ 1 (by omega))) rfl ?_
  refine jA ?_
  refine jO ?_
  refine jN ⟨(k + 1, A2, c2), (js3 rfl (by rw [show 8 * (k + 1) = 8 * k + 8 by omega]; rfl) rfl), ?_, ?_⟩
  ·
   have e2 : ofB (bs.take (k + 1)) = ofB (bs.take k) ++ bitsL (bs.getD k 0) 8 := by
    have e : bs.take (k + 1) = bs.take k ++ [bs.getD k 0] := by
     rw [List.take_add_one, List.getElem?_eq_getElem hc1, List.getD_eq_getElem?_getD, List.getElem?_eq_getElem hc1]; rfl
    rw [e, ofB_append]
    simp [ofB]
   refine ⟨hc1, ?_, ?_, ?_⟩
   ·
    rw [e2, BL_append, show 8 * (k + 1) = 8 * k + 8 by omega]; exact hown2
   ·
    exact (hfr.trans hf1 (by simp)).trans hfr2 (fun x hx => .inr (hA x hx))
   ·
    intro x hx
    have := hfr.size
    have := hf1.size
    rcases hob2 with h | h <;> rw [h] at hx
    ·
     exact hA x hx
    ·
     simp at hx; omega
  ·
   first | omega | (dsimp only; omega)
 ·
  refine jX ?_
  refine thenQ_x (thenQ_x (blockQ_x ?_))
  refine jN (jv1 3 ?_)
  refine jS (jR (jM ?_))
  refine jA ?_
  refine jO (jN (jv1 2 ?_))
  refine jT ?_
  refine end1 rfl ?_
  have : k = bs.length := by omega
  subst this
  rw [List.take_length] at hown
  exact ⟨A, c, rfl, hown, hfr, hA⟩
set_option maxRecDepth 100000 in
theorem number_spec (B : Option Addr) (c0 : Nat) (l : List Bool) (w : World) (hl : l.length ≤ 63) (hr : Rd w 1 B l.length (BL l)) :
  Calls Try.prog 68 #[.slice B l.length c0] w fun e w' => e = .returned (.int .u64 ((num l : Nat) : Int)) ∧ w = w' := by
 refine VC.calls (nt := 22) (res := #[.tmp 2]) Try.func68 rfl Try.ntmps68 Try.results68 rfl ?_
 refine jS (jR ?_)
 refine Ops.r (v := .int .u64 ((0 : Nat) : Int)) (Run.asg rfl) rfl ?_
 refine jO (jN (jv1 0 ?_))
 refine jS (jR ?_)
 refine Ops.r (v := .int .u64 ((0 : Nat) : Int)) (Run.asg rfl) rfl ?_
 refine jO (jN (jS (jS (jR (jM ?_)))))
 refine Ops.r (Run.lenS rfl Try.underlying65) rfl ?_
 refine Ops.r (Run.bin rfl rfl (Bin.subZ _ 1 (by omega) (by omega))) rfl ?_
 refine jA ?_
 refine jO (jN (jv3 0 3 4 ?_))
 refine jB ?_
 refine VC.loop (σ := Nat) (fun s => [(0, .slice B l.length c0), (3, .int .u64 ((num (l.drop s) : Nat) : Int)), (4, .int .i64 ((s : Int) - 1))]) (fun s wr => s ≤ l.length ∧ wr = w) (fun s => s) l.length (js3 rfl (by rw [List.drop_length]; rfl) rfl) ⟨by omega, rfl⟩ ?_
 rintro k wr ⟨hk, rfl⟩
 refine jS (jS (jR (jM ?_)))
 refine Ops.r (Run.bin rfl rfl (Bin.geq _ 0)) rfl ?_
 refine jO (jN (jv4 0 3 4 9 ?_))
 refine VC.condD rfl (fun hc1 => ?_) (fun hc1 => ?_)
 ·
  obtain ⟨m, rfl⟩ : ∃ m, k = m + 1 := ⟨k - 1, by omega⟩
  rw [show (((m + 1 : Nat) : Int) - 1) = ((m : Nat) : Int) from by omega]
  obtain ⟨ad, hB, _, hcell⟩ := hr.2 (by omega)
  subst hB
  have hm : l[m]? = some l[m] := List.getElem?_eq_getElem (by omega)
  have hcm := hcell m _ (BL_get l m _ hm)
  have hnl := num_lt (l.drop (m + 1))
  have hpw : 2 ^ (l.drop (m + 1)).length ≤ 2 ^ 62 := Nat.pow_le_pow_right (by omega) (by rw [List.length_drop]; omega)
  have hstep : num (l.drop m) = l[m].toNat + 2 * num (l.drop (m + 1)) := by rw [List.drop_eq_getElem_cons (by omega)]; rfl
  refine jQ (jN (jv3 0 3 4 ?_))
  refine jS (jB (jS (jR (jM ?_))))
  refine jM ?_
  refine Ops.r (Run.bin rfl rfl (Bin.add_u64 _ _ (by omega))) rfl ?_
  refine jA ?_
  refine jO (jN (jv3 0 3 4 ?_))
  refine jS (jR (jM ?_))
  refine jM ?_
  refine Ops.r (Run.index1 _ rfl rfl Try.underlying65 Try.sizeOf4 (by omega)) rfl ?_
  refine Ops.r (Run.load rfl Try.isAgg4 hcm) rfl ?_
  refine jO (jN (jv4 0 3 4 18 ?_))
  refine VC.condB rfl (fun hc2 => ?_) (fun hc2 => ?_)
  ·
   rw [hc2, Bool.toNat_true] at hstep
   refine jR (jM ?_)
   refine Ops.r (Run.bin rfl rfl (Bin.add_u64 _ 1 (by omega))) rfl ?_
   refine jA ?_
   refine jO ?_
   refine blockQ_n (jN ?_)
   refine jv3 0 3 4 ?_
   refine jR (jM ?_)
   refine Ops.r (Run.bin rfl rfl (Bin.subZ _ 1 (by omega) (by omega))) rfl ?_
   refine jA ?_
   refine jO ?_
   refine jN ⟨m, (js3 rfl (by rw [show num (l.drop m) = num (l.drop (m + 1)) + num (l.drop (m + 1)) + 1 by omega]; rfl) rfl), ?_, ?_⟩
   ·
    exact ⟨by omega, rfl⟩
   ·
    first | omega | (dsimp only; omega)
  ·
   rw [hc2, Bool.toNat_false] at hstep
   refine jQ ?_
   refine blockQ_n (jN ?_)
   refine jv3 0 3 4 ?_
   refine jR (jM ?_)
   refine Ops.r (Run.bin rfl rfl (Bin.subZ _ 1 (by omega) (by omega))) rfl ?_
   refine jA ?_
   refine jO ?_
   refine jN ⟨m, (js3 rfl (by rw [show num (l.drop m) = num (l.drop (m + 1)) + num (l.drop (m + 1)) by omega]; rfl) rfl), ?_, ?_⟩
   ·
    exact ⟨by omega, rfl⟩
   ·
    first | omega | (dsimp only; omega)
 ·
  refine jX ?_
  refine thenQ_x (thenQ_x (blockQ_x ?_))
  refine jN (jv1 3 ?_)
  refine jS (jR (jM ?_))
  refine jA ?_
  refine jO (jN (jv1 2 ?_))
  refine jT ?_
  refine end1 rfl ?_
  have : k = 0 := by omega
  subst this
  exact ⟨rfl, rfl⟩
theorem strB_append_one (l : List Bool) (k : Nat) {x : Nat} (h : (pack l)[k]? = some x) : strB ((pack l).take k) ++ ⟨#[UInt8.ofNat x]⟩ = strB ((pack l).take (k + 1)) := by
 rw [List.take_add_one, h, ← strB_append]
 rfl
set_option maxRecDepth 100000 in
theorem refBytes_spec (B : Option Addr) (c0 : Nat) (l : List Bool) (w : World) (hl : l.length ≤ 1000000000) (hr : Rd w 1 B l.length (BL l)) :
  Calls Try.prog 36 #[.slice B l.length c0] w fun e w' => e = .returned (.string (strB (pack l))) ∧ Frm [] w w' := by
 refine VC.calls (nt := 26) (res := #[.tmp 2]) Try.func36 rfl Try.ntmps36 Try.results36 rfl ?_
 refine jS (jR (jA ?_))
 refine jO (jN (jv1 0 ?_))
 refine jS (jR (jM ?_))
 refine Ops.cl (Enters.fn (evs.cons rfl evs.nil) Try.call67) (whole_spec B c0 l _ hl hr) rfl ?_
 rintro e w1 ⟨A1, c1, rfl, ho1, hf1, hA1⟩
 refine ⟨_, rfl, ?_⟩
 have hwl := whole_len l
 have hpl := pack_len l
 refine jA ?_
 refine jO (jN (jv1 3 ?_))
 refine jS (jR (jA ?_))
 refine jO (jN (jS (jS (jR ?_))))
 refine Ops.r (v := .int .i64 ((0 : Nat) : Int)) (Run.asg rfl) rfl ?_
 refine jO (jN (jB ?_))
 refine VC.loop (σ := Nat) (fun s => [(3, .slice A1 (whole l).length c1), (4, .string (strB ((pack l).take s))), (5, .int .i64 ((8 * s : Nat) : Int))]) (fun s wr => s ≤ (pack l).length ∧ Own wr 4 1 A1 (whole l).length c1 (BL (whole l)) ∧ Frm [] w wr) (fun s => (pack l).length - s) 0 (js3 rfl rfl rfl) ⟨by omega, ho1, hf1⟩ ?_
 rintro k wr ⟨hk, hown, hfr⟩
 have hcap := hown.le
 refine jS (jS (jR (jM ?_)))
 refine jM ?_
 refine Ops.r (Run.lenS rfl Try.underlying65) rfl ?_
 refine Ops.r (Run.bin rfl rfl (Bin.lssN _ _)) rfl ?_
 refine jO (jN (jv4 3 4 5 11 ?_))
 refine VC.condD rfl (fun hc1 => ?_) (fun hc1 => ?_)
 ·
  refine jQ (jN (jv3 3 4 5 ?_))
  refine jS (jB (jR (jM ?_)))
  refine jM ?_
  refine jM ?_
  refine jM ?_
  refine Ops.r (Run.bin rfl rfl (Bin.add_i64 _ 8 (by omega))) rfl ?_
  refine Ops.r (Run.sliceS _ _ rfl Try.underlying65 Try.sizeOf4 (evB.some_ rfl) (evB.some_ rfl) (by omega) (by omega)) rfl ?_
  have hrd20 : Rd wr 1 (cutA A1 c1 (8 * k) 1) (((whole l).drop (8 * k)).take 8).length (BL (((whole l).drop (8 * k)).take 8)) := by
   have := hown.rd.cut (cap := c1) (l := 8 * k) (r := 8 * k + 8) (by omega) (by omega) hcap
   rw [Nat.mul_one, Nat.mul_one, Nat.add_sub_cancel_left] at this
   have hlen : (((whole l).drop (8 * k)).take 8).length = 8 := by rw [List.length_take, List.length_drop]; omega
   rw [hlen]
   simpa [BL, List.map_take, List.map_drop] using this
  rw [show 8 * k + 8 - 8 * k = (((whole l).drop (8 * k)).take 8).length by rw [List.length_take, List.length_drop]; omega]
  refine Ops.cl (Enters.fn (evs.cons rfl evs.nil) Try.call68) (number_spec _ _ (((whole l).drop (8 * k)).take 8) _ (by rw [List.length_take]; omega) hrd20) rfl ?_
  rintro e w2 ⟨rfl, rfl⟩
  refine ⟨_, rfl, ?_⟩
  refine Ops.r (Run.conv8 _ rfl Try.underlying37 Try.underlying5) rfl ?_
  refine Ops.m (Does.buildS1 rfl Try.underlying22 Try.sizeOf5 zero5 (by decide) (by decide) rfl rfl) rfl ?_
  rintro _ w3 ⟨rfl, hF⟩
  have hpk := pack_get l k (by omega)
  have hpw := pack_get (whole l) k (by omega)
  rw [pack_whole, hpk] at hpw
  have hnum : num (((whole l).drop (8 * k)).take 8) = num ((l.drop (8 * k)).take 8) := (Option.some.inj hpw).symm
  have hlt := pack_lt l _ (List.mem_of_getElem? hpk)
  have hrd : Rd w3 1 (some ⟨wr.heap.size, 0, none⟩) 1 (U8 [UInt8.ofNat (num ((l.drop (8 * k)).take 8))]) := by
   have := Rd.of_blk (n := 1) (size := 1) hF.blk rfl
   rw [hnum] at this
   simpa [U8, Value.cells] using this
  refine Ops.r (Run.strOf rfl Try.underlying22 Try.underlying5 Try.underlying9 hrd) rfl ?_
  refine Ops.r (Run.addStr rfl rfl (by rw [strB_size, List.length_take]; simp [ByteArray.size]; omega)) rfl ?_
  refine jA ?_
  refine jO ?_
  refine blockQ_n (jN ?_)
  refine jv3 3 4 5 ?_
  refine jR (jM ?_)
  refine Ops.r (Run.bin rfl rfl (Bin.add_i64 _ 8 (by omega))) rfl ?_
  refine jA ?_
  refine jO ?_
  refine jN ⟨(k + 1), (js3 rfl (by rw [← strB_append_one l k hpk]; rfl) (by rw [show 8 * (k + 1) = 8 * k + 8 by omega]; rfl)), ?_, ?_⟩
  ·
   exact ⟨by omega, hown.frm hF.frm (by simp), hfr.trans hF.frm (by simp)⟩
  ·
   first | omega | (dsimp only; omega)
 ·
  refine jX ?_
  refine thenQ_x (thenQ_x (blockQ_x ?_))
  refine jN (jv1 4 ?_)
  refine jS (jR (jM ?_))
  refine jA ?_
  refine jO (jN (jv1 2 ?_))
  refine jT ?_
  refine end1 rfl ?_
  have : k = (pack l).length := by omega
  subst this
  rw [List.take_length]
  exact ⟨rfl, hfr⟩
end Go.Proofs.Ytnmieihcjjiccaa
namespace Go.Proofs.Ytnmieihcjjiccaa
open Go.RowKit
theorem NB_cut (l : List Nat) (p m : Nat) (h : p + m ≤ l.length) {w : World} {A : Option Addr} {c : Nat} (hr : Rd w 1 A l.length (NB l)) (hc : l.length ≤ c) :
  Rd w 1 (cutA A c p 1) ((l.drop p).take m).length (NB ((l.drop p).take m)) := by
 have e := hr.cut (l := p) (r := p + m) (cap := c) (by omega) h hc
 have e1 : ((l.drop p).take m).length = p + m - p := by simp; omega
 have e2 : NB ((l.drop p).take m) = ((NB l).drop (p * 1)).take ((p + m - p) * 1) := by simp [NB, List.map_take, List.map_drop]
 rw [e1, e2]
 exact e
end Go.Proofs.Ytnmieihcjjiccaa
namespace Go.Proofs.Ytnmieihcjjiccaa
open Go.RowKit
def sumK (l : List Int) : Nat := (l.map fun x => if 0 < x then 2 ^ (15 - x.toNat) else 0).sum
theorem KC_congr {f h : Nat → Nat} : ∀ i, (∀ k, k < i → f k = h k) → KC f i = KC h i
 | 0, _ => rfl
 | i + 1, e => by rw [KC, KC, KC_congr i (fun k hk => e k (by omega)), e i (by omega)]
theorem KC_add (f h : Nat → Nat) : ∀ i, KC (fun k => f k + h k) i = KC f i + KC h i
 | 0 => rfl
 | i + 1 => by rw [KC, KC, KC, KC_add f h i, Nat.add_mul]; omega
theorem KC_zero : ∀ i, KC (fun _ => 0) i = 0
 | 0 => rfl
 | i + 1 => by rw [KC, KC_zero i, Nat.zero_mul]
theorem KC_one (m : Nat) : ∀ i, KC (fun k => if k = m then 1 else 0) i = if m < i then 2 ^ (15 - m) else 0
 | 0 => by simp [KC]
 | i + 1 => by
  rw [KC, KC_one m i]
  by_cases h : i = m
  ·
   subst h; simp
  ·
   by_cases h2 : m < i
   ·
    simp [h, h2, show m < i + 1 by omega]
   ·
    simp [h, h2, show ¬ m < i + 1 by omega]
theorem sumK_eq (l : List Int) (h : ∀ x ∈ l, 0 ≤ x ∧ x ≤ 15) : KC (cn l) 16 = sumK l := by
 induction l with
 | nil =>
  have e : KC (cn []) 16 = KC (fun _ => 0) 16 := KC_congr 16 (fun k _ => by simp [cn])
  rw [e, KC_zero]; rfl
 | cons a r ih =>
  have ha := h a (by simp)
  obtain ⟨m, rfl⟩ : ∃ m : Nat, a = m := ⟨a.toNat, by omega⟩
  have ih := ih (fun x hx => h x (by simp [hx]))
  by_cases hm : m = 0
  ·
   subst hm
   have e : KC (cn (((0 : Nat) : Int) :: r)) 16 = KC (cn r) 16 := KC_congr 16 (fun k _ => by
    unfold cn
    split
    ·
     rfl
    ·
     rename_i hk
     rw [List.count_cons]
     have : ¬ (((0 : Nat) : Int) == (k : Int)) = true := by simp; omega
     rw [if_neg this, Nat.add_zero])
   rw [e, ih]
   simp [sumK]
  ·
   have e : KC (cn ((m : Int) :: r)) 16 = KC (fun k => (if k = m then 1 else 0) + cn r k) 16 := KC_congr 16 (fun k _ => by
    unfold cn
    by_cases hk : k = 0
    ·
     simp [hk]; omega
    ·
     rw [if_neg hk, if_neg hk, List.count_cons]
     by_cases hkm : k = m
     ·
      subst hkm; simp; omega
     ·
      have : ¬ ((m : Int) == (k : Int)) = true := by simp; omega
      rw [if_neg this, if_neg hkm]; omega)
   rw [e, KC_add, KC_one, if_pos (by omega), ih]
   unfold sumK
   rw [List.map_cons, List.sum_cons, if_pos (by omega), Int.toNat_natCast]
theorem sumK_take (l : List Int) (i : Nat) (h : i < l.length) : sumK (l.take (i + 1)) = sumK (l.take i) + if 0 < l[i] then 2 ^ (15 - l[i].toNat) else 0 := by
 unfold sumK
 rw [List.take_add_one, List.getElem?_eq_getElem h]
 simp only [Option.toList_some, List.map_append, List.sum_append, List.map_cons, List.map_nil, List.sum_cons, List.sum_nil, Nat.add_zero]
set_option maxRecDepth 100000 in
theorem refOrder_spec (A : Option Addr) (c0 : Nat) (l : List Int) (w : World) (hl : l.length ≤ 1000000) (hr : Rd w 1 A l.length (IB l)) :
  Calls Try.prog 72 #[.slice A l.length c0] w fun e w' => ∃ B c, e = .returned (.slice B (order l).length c) ∧ Own w' 3 1 B (order l).length c (NI (order l)) ∧ Frm [] w w' ∧ ∀ x ∈ ob B, w.heap.size ≤ x := by
 refine VC.calls (nt := 27) (res := #[.tmp 2]) Try.func72 rfl Try.ntmps72 Try.results72 rfl ?_
 refine jS (jR (jA ?_))
 refine jO (jN (jv1 0 ?_))
 refine jS (jR (jA ?_))
 refine jO (jN (jS (jS (jR ?_))))
 refine Ops.r (v := .int .i64 ((1 : Nat) : Int)) (Run.asg rfl) rfl ?_
 refine jO (jN (jB ?_))
 refine VC.loop (σ := Nat × Option Addr × Nat) (fun s => [(0, .slice A l.length c0), (3, .slice s.2.1 (ordTo l s.1).length s.2.2), (4, .int .i64 ((s.1 : Nat) : Int))]) (fun s wr => 1 ≤ s.1 ∧ s.1 ≤ 16 ∧ Own wr 3 1 s.2.1 (ordTo l s.1).length s.2.2 (NI (ordTo l s.1)) ∧ Frm [] w wr ∧ ∀ x ∈ ob s.2.1, w.heap.size ≤ x) (fun s => 16 - s.1) (1, none, 0) (js3 rfl rfl rfl) ⟨Nat.le_refl 1, by dsimp only; omega, Own.nil _ _ _, Frm.refl _ _, up_nil⟩ ?_
 rintro ⟨n, B, c⟩ wr ⟨hn1, hn, ho, hfr, huB⟩
 dsimp only at hn1 hn ho hfr huB ⊢
 refine jS (jS (jR (jM ?_)))
 refine Ops.r (Run.bin rfl rfl (Bin.leqN _ 15)) rfl ?_
 refine jO (jN (jv4 0 3 4 7 ?_))
 refine VC.condD rfl (fun hc1 => ?_) (fun hc1 => ?_)
 ·
  refine jQ (jN (jv3 0 3 4 ?_))
  refine jS (jB (jS (jR ?_)))
  refine Ops.r (v := .int .i64 ((0 : Nat) : Int)) (Run.asg rfl) rfl ?_
  refine jO (jN (jB ?_))
  refine VC.loop (σ := Nat × Option Addr × Nat) (fun s => [(0, .slice A l.length c0), (3, .slice s.2.1 (ordTo l n ++ idxsT l n s.1).length s.2.2), (4, .int .i64 ((n : Nat) : Int)), (5, .int .i64 ((s.1 : Nat) : Int))]) (fun s wr => s.1 ≤ l.length ∧ Own wr 3 1 s.2.1 (ordTo l n ++ idxsT l n s.1).length s.2.2 (NI (ordTo l n ++ idxsT l n s.1)) ∧ Frm [] w wr ∧ ∀ x ∈ ob s.2.1, w.heap.size ≤ x) (fun s => l.length - s.1) (0, B, c) (js4 rfl (by simp [idxsT]; rfl) rfl rfl) ⟨by omega, by simpa [idxsT] using ho, hfr, huB⟩ ?_
  clear ho hfr huB
  rintro ⟨i, B, c⟩ wr ⟨hi, ho, hfr, huB⟩
  dsimp only at hi ho hfr huB ⊢
  have hsl : (ordTo l n ++ idxsT l n i).length ≤ l.length := by
   rw [List.length_append, ordTo_len]
   have h1 := atL_le l (n + 1)
   have h2 : atL l (n + 1) = atL l n + cn l n := rfl
   have h3 := idxsT_len l n (by omega) i hi
   have h4 : (l.take i).count (n : Int) ≤ l.count (n : Int) := (List.take_sublist i l).count_le _
   have h5 : cn l n = l.count (n : Int) := by unfold cn; rw [if_neg (by omega)]
   omega
  refine jS (jS (jR (jM ?_)))
  refine jM ?_
  refine Ops.r (Run.lenS rfl Try.underlying38) rfl ?_
  refine Ops.r (Run.bin rfl rfl (Bin.lssN _ _)) rfl ?_
  refine jO (jN (jv5 0 3 4 5 13 ?_))
  refine VC.condD rfl (fun hc2 => ?_) (fun hc2 => ?_)
  ·
   obtain ⟨ad, rfl, hcell⟩ := IB_at (hr.belowW hfr.below) hc2
   have hgt := getD_at l i hc2
   generalize hx : l[i] = x at *
   refine jQ (jN (jv4 0 3 4 5 ?_))
   refine jS (jB (jS (jR (jM ?_))))
   refine jM ?_
   refine Ops.r (Run.index1 _ rfl rfl Try.underlying38 Try.sizeOf3 (by omega)) rfl ?_
   refine Ops.r (Run.load rfl Try.isAgg3 hcell) rfl ?_
   refine jM ?_
   refine Ops.r (Run.bin rfl rfl (Bin.eql _ _)) rfl ?_
   refine jO (jN (jv5 0 3 4 5 21 ?_))
   refine VC.condD rfl (fun hc3 => ?_) (fun hc3 => ?_)
   ·
    refine jR (jM ?_)
    refine jM ?_
    refine Ops.m (Does.buildS1 rfl Try.underlying38 Try.sizeOf3 zero3 (by decide) (by decide) rfl rfl) rfl ?_
    rintro _ w7 ⟨rfl, hF7⟩
    have ho7 := ho.frm hF7.frm (by simp)
    have hrd7 : Rd w7 1 (some ⟨wr.heap.size, 0, none⟩) 1 (NI [i]) := Rd.of_blk hF7.blk rfl
    refine Ops.m (Does.app rfl rfl Try.underlying38 (info3) rfl (by decide) ho7 hrd7 (NI_one [i]) (by omega) (by omega)) rfl ?_
    rintro _ w8 ⟨A8, c8, rfl, ho8, hf8, hob8⟩
    have hfr7 := hfr.own hF7.frm (by simp)
    have hfr8 := hfr7.own hf8 huB
    have hu8 := up_app huB hob8 hfr7.size
    refine jA ?_
    refine jO ?_
    refine blockQ_n (jN ?_)
    refine jv4 0 3 4 5 ?_
    refine jR (jM ?_)
    refine Ops.r (Run.bin rfl rfl (Bin.add_i64 _ 1 (by omega))) rfl ?_
    refine jA ?_
    refine jO ?_
    have e : ordTo l n ++ idxsT l n (i + 1) = (ordTo l n ++ idxsT l n i) ++ [i] := by
     unfold idxsT
     rw [if_neg (by omega), if_neg (by omega), List.range_succ, List.filter_append, List.filter_cons_of_pos (by rw [hgt]; simpa using hc3), List.append_assoc]
     rfl
    have e2 : (ordTo l n ++ idxsT l n i ++ [i]).length = (ordTo l n ++ idxsT l n i).length + 1 := List.length_append
    refine jN ⟨(i + 1, A8, c8), (js4 rfl (by dsimp only; rw [e, e2]; rfl) rfl rfl), ?_, ?_⟩
    ·
     refine ⟨hc2, ?_, hfr8, hu8⟩
     dsimp only
     rw [e]
     generalize ordTo l n ++ idxsT l n i = sy at *
     rw [e2, NI_append]
     exact ho8
    ·
     first | omega | (dsimp only; omega)
   ·
    refine jQ ?_
    refine blockQ_n (jN ?_)
    refine jv4 0 3 4 5 ?_
    refine jR (jM ?_)
    refine Ops.r (Run.bin rfl rfl (Bin.add_i64 _ 1 (by omega))) rfl ?_
    refine jA ?_
    refine jO ?_
    have e : idxsT l n (i + 1) = idxsT l n i := by
     unfold idxsT
     split
     ·
      rfl
     ·
      rw [List.range_succ, List.filter_append, List.filter_cons_of_neg (by rw [hgt]; simp; omega)]
      simp
    refine jN ⟨(i + 1, B, c), (js4 rfl (by dsimp only; rw [e]; rfl) rfl rfl), ?_, ?_⟩
    ·
     refine ⟨hc2, ?_, hfr, huB⟩
     dsimp only
     rw [e]
     exact ho
    ·
     first | omega | (dsimp only; omega)
  ·
   have hil : i = l.length := by omega
   have hord : ordTo l n ++ idxsT l n i = ordTo l (n + 1) := by rw [ordTo_succ, hil]; rfl
   rw [hord] at ho
   refine jX ?_
   refine thenQ_x (thenQ_x (blockQ_x ?_))
   refine blockQ_n (jN ?_)
   refine jv3 0 3 4 ?_
   refine jR (jM ?_)
   refine Ops.r (Run.bin rfl rfl (Bin.add_i64 _ 1 (by omega))) rfl ?_
   refine jA ?_
   refine jO ?_
   refine jN ⟨(n + 1, B, c), (js3 rfl (by dsimp only; rw [← hord]; rfl) rfl), ?_, ?_⟩
   ·
    exact ⟨by dsimp only; omega, by dsimp only; omega, ho, hfr, huB⟩
   ·
    first | omega | (dsimp only; omega)
 ·
  have hn16 : n = 16 := by omega
  subst hn16
  refine jX ?_
  refine thenQ_x (thenQ_x (blockQ_x ?_))
  refine jN (jv1 3 ?_)
  refine jS (jR (jM ?_))
  refine jA ?_
  refine jO (jN (jv1 2 ?_))
  refine jT ?_
  refine end1 rfl ?_
  exact ⟨B, c, rfl, ho, hfr, huB⟩
set_option maxRecDepth 100000 in
theorem refCodes_spec (A : Option Addr) (c0 : Nat) (l : List Int) (w : World) (hg : good l) (hr : Rd w 1 A l.length (IB l)) :
  Calls Try.prog 43 #[.slice A l.length c0] w fun e w' => ∃ B c, e = .returned (.slice B l.length c) ∧ Own w' 116 2 B l.length c ((codesL l).flatMap CB) ∧ Frm [] w w' ∧ ∀ x ∈ ob B, w.heap.size ≤ x := by
 have hl := hg.1
 refine VC.calls (nt := 48) (res := #[.tmp 2]) Try.func43 rfl Try.ntmps43 Try.results43 rfl ?_
 refine jS (jR (jA ?_))
 refine jO (jN (jv1 0 ?_))
 refine jS (jR (jM ?_))
 refine Ops.r (Run.lenS rfl Try.underlying38) rfl ?_
 refine Ops.m (Does.makeS rfl rfl Try.underlying60 (info116) rfl (by omega) (by omega)) rfl ?_
 rintro _ w8 ⟨rfl, ho8, hf8, hs8⟩
 have hlt8 : w.heap.size < w8.heap.size := by omega
 have ho8 : Own w8 116 2 (some ⟨w.heap.size, 0, none⟩) l.length l.length ((codesO l 0).flatMap CB) := by
  have e : codesO l 0 = codesT l 0 := by unfold codesO codesT; simp
  rw [e, ← codesT_zero]; exact ho8
 generalize hgo0 : w.heap.size = go at ho8 hlt8 ⊢
 refine jA ?_
 refine jO (jN (jv2 0 3 ?_))
 refine jS (jR (jM ?_))
 refine Ops.cl (Enters.fn (evs.cons rfl evs.nil) Try.call72) (refOrder_spec A c0 l _ (by omega) (hr.belowW hf8.below)) rfl ?_
 rintro e w1 ⟨Bo, co, rfl, hord, hf1, huo⟩
 refine ⟨_, rfl, ?_⟩
 have ho1 := ho8.frm hf1 (by simp)
 have hfr1 := hf8.own hf1 (by simp)
 have hgo : go ∉ ob Bo := fun h => by have := huo go h; omega
 refine jA ?_
 refine jO (jN (jv3 0 3 4 ?_))
 refine jS (jR ?_)
 refine Ops.r (v := .int .u64 ((0 : Nat) : Int)) (Run.asg rfl) rfl ?_
 refine Ops.r (v := .int .i64 ((0 : Nat) : Int)) (Run.asg rfl) rfl ?_
 refine jO (jN (jS (jS (jR ?_))))
 refine Ops.r (v := .int .i64 ((0 : Nat) : Int)) (Run.asg rfl) rfl ?_
 refine jO (jN (jB ?_))
 refine VC.loop (σ := Nat) (fun s => [(0, .slice A l.length c0), (3, .slice (some ⟨go, 0, none⟩) l.length l.length), (4, .slice Bo (order l).length co), (5, .int .u64 ((codeP l s : Nat) : Int)), (6, .int .i64 ((wasL l s : Nat) : Int)), (7, .int .i64 s)]) (fun s wr => s ≤ (order l).length ∧ Own wr 116 2 (some ⟨go, 0, none⟩) l.length l.length ((codesO l s).flatMap CB) ∧ Own wr 3 1 Bo (order l).length co (NI (order l)) ∧ Frm [] w wr) (fun s => (order l).length - s) 0 (js6 rfl rfl rfl rfl rfl rfl) ⟨by omega, ho1, hord, hfr1⟩ ?_
 rintro i w5 ⟨hi, ho, hord, hfr⟩
 refine jS (jS (jR (jM ?_)))
 refine jM ?_
 refine Ops.r (Run.lenS rfl Try.underlying38) rfl ?_
 refine Ops.r (Run.bin rfl rfl (Bin.lssN _ _)) rfl ?_
 refine jO (jN (jv7 0 3 4 5 6 7 17 ?_))
 refine VC.condD rfl (fun hc1 => ?_) (fun hc1 => ?_)
 ·
  have hoi := List.getElem?_eq_getElem hc1
  have holen := order_len l
  have hatl := atL_le l 16
  obtain ⟨ad, rfl, hcell⟩ := NI_at hord.rd hc1
  generalize hj : (order l)[i] = j at *
  obtain ⟨n, hn1, hn15, hjl, hjn, hti, hrk⟩ := order_get l i j hoi
  obtain ⟨ad2, rfl, hcell2⟩ := IB_at (hr.belowW hfr.below) hjl
  have hgt := getD_at l j hjl
  rw [hjn] at hgt
  rw [← hgt] at hcell2
  obtain ⟨hwn, hcp⟩ := codeP_step l i j n hoi hjn
  have hsm := fst_small l hl n hn15
  have hcj : codeOf l j = fst' l n + rank l j := by unfold codeOf; rw [hjn, Int.toNat_natCast]
  have hcb : codeOf l j ≤ 10485760 := by omega
  have hcc : codeC l j = (codeOf l j, (n : Int)) := by unfold codeC; rw [hjn, if_neg (by omega)]
  have hpo : 0 < 2 ^ (n - wasL l i) := Nat.two_pow_pos _
  have hc1le : (if i = 0 then 0 else codeP l i + 1) ≤ codeOf l j := by rw [← hcp]; exact Nat.le_mul_of_pos_right _ hpo
  generalize hc1v : (if i = 0 then 0 else codeP l i + 1) = c1 at *
  refine jQ (jN (jv6 0 3 4 5 6 7 ?_))
  refine jS (jB (jS (jR (jM ?_))))
  refine jM ?_
  refine jM ?_
  refine Ops.r (Run.index1 _ rfl rfl Try.underlying38 Try.sizeOf3 (by omega)) rfl ?_
  refine Ops.r (Run.load rfl Try.isAgg3 hcell) rfl ?_
  refine Ops.r (Run.index1 _ rfl rfl Try.underlying38 Try.sizeOf3 (by omega)) rfl ?_
  refine Ops.r (Run.load rfl Try.isAgg3 hcell2) rfl ?_
  refine jA ?_
  refine jO (jN (jv7 0 3 4 5 6 7 8 ?_))
  refine jS (jS (jR (jM ?_)))
  refine Ops.r (Run.bin rfl rfl (Bin.gtrN _ 0)) rfl ?_
  refine jO (jN (jv8 0 3 4 5 6 7 8 28 ?_))
  refine VC.meet (σ := Unit) (fun s => [(0, .slice (some ad2) l.length c0), (3, .slice (some ⟨go, 0, none⟩) l.length l.length), (4, .slice (some ad) (order l).length co), (5, .int .u64 ((c1 : Nat) : Int)), (6, .int .i64 ((wasL l i : Nat) : Int)), (7, .int .i64 i), (8, .int .i64 ((n : Nat) : Int))]) (fun s w9 => w5 = w9) ?_ ?_
  ·
   refine VC.condD rfl (fun hc2 => ?_) (fun hc2 => ?_)
   ·
    rw [if_neg (by omega)] at hc1v
    refine jR (jM ?_)
    refine Ops.r (Run.bin rfl rfl (Bin.add_u64 _ 1 (by omega))) rfl ?_
    refine jA ?_
    refine jO ?_
    refine jN ⟨(), (js7 rfl rfl rfl (by rw [← hc1v]; rfl) rfl rfl rfl), ?_⟩
    rfl
   ·
    refine jQ ?_
    refine jN ⟨(), (js7 rfl rfl rfl (by rw [← hc1v, if_pos (by omega)]; rw [show codeP l i = 0 by unfold codeP; rw [if_pos (by omega)]]; rfl) rfl rfl rfl), ?_⟩
    rfl
  ·
   rintro _ _ rfl Γ hΓ
   refine jN (VC.sub _ hΓ ?_)
   refine jS (jB ?_)
   refine VC.loop (σ := Nat) (fun s => [(0, .slice (some ad2) l.length c0), (3, .slice (some ⟨go, 0, none⟩) l.length l.length), (4, .slice (some ad) (order l).length co), (5, .int .u64 ((c1 * 2 ^ (s - wasL l i) : Nat) : Int)), (6, .int .i64 ((s : Nat) : Int)), (7, .int .i64 i), (8, .int .i64 ((n : Nat) : Int))]) (fun s wr => wasL l i ≤ s ∧ s ≤ n ∧ w5 = wr) (fun s => n - s) (wasL l i) (js7 rfl rfl rfl (by rw [Nat.sub_self, Nat.pow_zero, Nat.mul_one]; rfl) rfl rfl rfl) ⟨Nat.le_refl _, hwn, rfl⟩ ?_
   rintro s _ ⟨hs1, hs2, rfl⟩
   refine jS (jS (jR (jM ?_)))
   refine jM ?_
   refine Ops.r (Run.bin rfl rfl (Bin.lssN _ _)) rfl ?_
   refine jO (jN (jv8 0 3 4 5 6 7 8 33 ?_))
   refine VC.condD rfl (fun hc3 => ?_) (fun hc3 => ?_)
   ·
    have hp1 : 2 ^ (s + 1 - wasL l i) = 2 ^ (s - wasL l i) * 2 := by rw [← Nat.pow_succ]; congr 1; omega
    have hle : c1 * 2 ^ (s + 1 - wasL l i) ≤ codeOf l j := by rw [← hcp]; exact Nat.mul_le_mul_left _ (Nat.pow_le_pow_right (by omega) (by omega))
    rw [hp1, ← Nat.mul_assoc] at hle
    refine jQ (jN (jv7 0 3 4 5 6 7 8 ?_))
    refine jB (jS (jR (jM ?_)))
    refine Ops.r (Run.bin rfl rfl (Bin.mul_u64 _ 2 (by omega))) rfl ?_
    refine jA ?_
    refine jO (jN (jv7 0 3 4 5 6 7 8 ?_))
    refine jR (jM ?_)
    refine Ops.r (Run.bin rfl rfl (Bin.add_i64 _ 1 (by omega))) rfl ?_
    refine jA ?_
    refine jO ?_
    refine blockQ_n (jN ⟨(s + 1), (js7 rfl rfl rfl (by rw [hp1, ← Nat.mul_assoc]; rfl) rfl rfl rfl), ?_, ?_⟩)
    ·
     exact ⟨by omega, by omega, rfl⟩
    ·
     first | omega | (dsimp only; omega)
   ·
    have hsn : s = n := by omega
    subst hsn
    rw [hcp]
    refine jX ?_
    refine thenQ_x (thenQ_x (blockQ_x ?_))
    refine jN (jv7 0 3 4 5 6 7 8 ?_)
    refine jR (jM ?_)
    refine jM ?_
    refine jM ?_
    refine Ops.r (Run.index1 _ rfl rfl Try.underlying38 Try.sizeOf3 (by omega)) rfl ?_
    refine Ops.r (Run.load rfl Try.isAgg3 hcell) rfl ?_
    refine jM ?_
    refine jM ?_
    refine Ops.r (Run.build (evs.cons rfl (evs.cons rfl evs.nil)) zero116 (places116).choose_spec.1 (places116).choose_spec.2 rfl) rfl ?_
    refine Ops.r (Run.indexS _ rfl rfl Try.underlying60 Try.sizeOf116 (by omega)) rfl ?_
    refine Ops.st (Acts.storeOwnA CB (codeOf l j, (s : Int)) j rfl rfl Try.sizeOf116 CB_len (by simp [codesO]) ho rfl hjl (CB_one _)) ?_
    rintro w3 ⟨ho3, hf3, hs3⟩
    rw [← hcc, codesO_set l i j hoi] at ho3
    refine jO ?_
    refine blockQ_n (jN ?_)
    refine jv6 0 3 4 5 6 7 ?_
    refine jR (jM ?_)
    refine Ops.r (Run.bin rfl rfl (Bin.add_i64 _ 1 (by omega))) rfl ?_
    refine jA ?_
    refine jO ?_
    refine jN ⟨(i + 1), (js6 rfl rfl rfl (by rw [show codeP l (i + 1) = codeOf l j by unfold codeP; simp [List.getD, hoi]]; rfl) (by rw [show wasL l (i + 1) = s by unfold wasL; simp [List.getD, hoi]; rw [List.getD] at hjn; simp [hjn]]; rfl) rfl), ?_, ?_⟩
    ·
     refine ⟨by omega, ho3, hord.frm hf3 (fun x hx hx2 => by simp [ob] at hx2; subst hx2; exact hgo hx), hfr.own hf3 (by simp [ob]; omega)⟩
    ·
     first | omega | (dsimp only; omega)
 ·
  have hio : i = (order l).length := by omega
  subst hio
  rw [codesO_all l hg.2] at ho
  refine jX ?_
  refine thenQ_x (thenQ_x (blockQ_x ?_))
  refine jN (jv1 3 ?_)
  refine jS (jR (jM ?_))
  refine jA ?_
  refine jO (jN (jv1 2 ?_))
  refine jT ?_
  refine end1 rfl ?_
  exact ⟨_, _, rfl, ho, hfr, by first | (simp [ob]; done) | (simp [ob]; omega)⟩
end Go.Proofs.Ytnmieihcjjiccaa
namespace Go.Proofs.Ytnmieihcjjiccaa
open Go.RowKit
def lgM (bs : List Nat) : Nat → Nat → Nat → Nat
 | _, _, 0 => 0
 | f, a, m + 1 => if a < bs.length ∧ bs.getD f 0 = bs.getD a 0 then lgM bs (f + 1) (a + 1) m + 1 else 0
def longM (bs : List Nat) (f a : Nat) : Nat := lgM bs f a 258
theorem lgM_le (bs : List Nat) : ∀ m f a, lgM bs f a m ≤ m
 | 0, _, _ => Nat.le_refl _
 | m + 1, f, a => by
  unfold lgM
  split
  ·
   have := lgM_le bs m (f + 1) (a + 1); omega
  ·
   omega
theorem lgM_end (bs : List Nat) : ∀ m f a, a ≤ bs.length → a + lgM bs f a m ≤ bs.length
 | 0, _, _, h => h
 | m + 1, f, a, h => by
  unfold lgM
  split
  ·
   rename_i h1
   have := lgM_end bs m (f + 1) (a + 1) (by omega); omega
  ·
   omega
theorem lgM_ge (bs : List Nat) : ∀ m f a k, k ≤ m → (k ≤ lgM bs f a m ↔ ∀ j, j < k → a + j < bs.length ∧ bs.getD (f + j) 0 = bs.getD (a + j) 0)
 | 0, f, a, k, hk => by
  obtain rfl : k = 0 := by omega
  simp
 | m + 1, f, a, 0, hk => by simp
 | m + 1, f, a, k + 1, hk => by
  unfold lgM
  by_cases h : a < bs.length ∧ bs.getD f 0 = bs.getD a 0
  ·
   rw [if_pos h]
   have ih := lgM_ge bs m (f + 1) (a + 1) k (by omega)
   constructor
   ·
    intro h1 j hj
    cases j with
    | zero => exact h
    | succ j =>
     have := ih.1 (by omega) j (by omega)
     rw [show f + 1 + j = f + (j + 1) by omega, show a + 1 + j = a + (j + 1) by omega] at this
     exact this
   ·
    intro h1
    have := ih.2 (fun j hj => by
     have := h1 (j + 1) (by omega)
     rw [show f + 1 + j = f + (j + 1) by omega, show a + 1 + j = a + (j + 1) by omega]
     exact this)
    omega
  ·
   rw [if_neg h]
   constructor
   ·
    intro h1; omega
   ·
    intro h1; exact absurd (h1 0 (by omega)) h
theorem longM_le (bs : List Nat) (f a : Nat) : longM bs f a ≤ 258 := lgM_le bs 258 f a
theorem longM_end (bs : List Nat) (f a : Nat) (h : a ≤ bs.length) : a + longM bs f a ≤ bs.length := lgM_end bs 258 f a h
theorem longM_three (bs : List Nat) (f a : Nat) : 3 ≤ longM bs f a ↔ a + 3 ≤ bs.length ∧ bs.getD f 0 = bs.getD a 0 ∧ bs.getD (f + 1) 0 = bs.getD (a + 1) 0 ∧ bs.getD (f + 2) 0 = bs.getD (a + 2) 0 := by
 refine (lgM_ge bs 258 f a 3 (by omega)).trans ⟨fun h => ⟨?_, (h 0 (by omega)).2, (h 1 (by omega)).2, (h 2 (by omega)).2⟩, fun ⟨h0, h1, h2, h3⟩ j hj => ?_⟩
 ·
  have := (h 2 (by omega)).1; omega
 ·
  rcases (by omega : j = 0 ∨ j = 1 ∨ j = 2) with rfl | rfl | rfl
  ·
   exact ⟨by omega, h1⟩
  ·
   exact ⟨by omega, h2⟩
  ·
   exact ⟨by omega, h3⟩
def bst (bs : List Nat) (a : Nat) : Nat → Nat × Nat
 | 0 => (0, 0)
 | D + 1 => if (bst bs a D).1 < longM bs (a - (D + 1)) a then (longM bs (a - (D + 1)) a, D + 1) else bst bs a D
def cutM (r : Nat × Nat) : Nat × Nat := if r.1 < 3 then (0, 0) else r
def bestM (bs : List Nat) (a : Nat) : Nat × Nat := cutM (bst bs a a)
theorem bst_le (bs : List Nat) (a : Nat) : ∀ D, (bst bs a D).1 ≤ 258
 | 0 => by simp [bst]
 | D + 1 => by
  unfold bst
  split
  ·
   exact longM_le bs _ _
  ·
   exact bst_le bs a D
theorem bst_dist (bs : List Nat) (a : Nat) : ∀ D, (bst bs a D).2 ≤ D ∧ ((bst bs a D).1 = 0 ∨ (1 ≤ (bst bs a D).2 ∧ (bst bs a D).1 = longM bs (a - (bst bs a D).2) a))
 | 0 => by simp [bst]
 | D + 1 => by
  have ih := bst_dist bs a D
  unfold bst
  split
  ·
   exact ⟨Nat.le_refl _, .inr ⟨by simp, rfl⟩⟩
  ·
   exact ⟨by omega, ih.2⟩
theorem cut_gap (bs : List Nat) (a D : Nat) : ∀ k, (∀ d, D < d → d ≤ D + k → longM bs (a - d) a < 3) → cutM (bst bs a (D + k)) = cutM (bst bs a D)
 | 0, _ => rfl
 | k + 1, h => by
  have ih := cut_gap bs a D k (fun d h1 h2 => h d h1 (by omega))
  have h3 := h (D + k + 1) (by omega) (by omega)
  rw [← ih]
  show cutM (bst bs a (D + k + 1)) = _
  rw [bst]
  split
  ·
   rename_i h4
   unfold cutM
   rw [if_pos h3, if_pos (by omega)]
  ·
   rfl
theorem cut_step (bs : List Nat) (a D : Nat) (h : 3 ≤ longM bs (a - (D + 1)) a) : cutM (bst bs a (D + 1)) = if (cutM (bst bs a D)).1 < longM bs (a - (D + 1)) a then (longM bs (a - (D + 1)) a, D + 1) else cutM (bst bs a D) := by
 rw [bst]
 generalize longM bs (a - (D + 1)) a = n at h ⊢
 generalize bst bs a D = r
 unfold cutM
 by_cases h1 : r.1 < 3
 ·
  rw [if_pos h1, if_pos (by omega : r.1 < n), if_neg (by dsimp only; omega), if_pos (by dsimp only; omega)]
 ·
  rw [if_neg h1]
  by_cases h2 : r.1 < n
  ·
   simp only [if_pos h2]
   rw [if_neg (by omega)]
  ·
   simp only [if_neg h2, if_neg h1]
theorem bestM_facts (bs : List Nat) (a : Nat) (ha : a ≤ bs.length) : bestM bs a = (0, 0) ∨ (3 ≤ (bestM bs a).1 ∧ (bestM bs a).1 ≤ 258 ∧ 1 ≤ (bestM bs a).2 ∧ (bestM bs a).2 ≤ a ∧ a + (bestM bs a).1 ≤ bs.length ∧ (bestM bs a).1 = longM bs (a - (bestM bs a).2) a) := by
 unfold bestM cutM
 split
 ·
  exact .inl rfl
 ·
  rename_i h
  obtain ⟨h1, h2⟩ := bst_dist bs a a
  have h4 := bst_le bs a a
  rcases h2 with h2 | ⟨h2, h3⟩
  ·
   omega
  ·
   exact .inr ⟨by omega, h4, h2, h1, by rw [h3]; exact longM_end bs _ a ha, h3⟩
def tri (bs : List Nat) (p : Nat) : Nat × Nat × Nat := (bs.getD p 0, bs.getD (p + 1) 0, bs.getD (p + 2) 0)
def posL (bs : List Nat) (k : Nat × Nat × Nat) : Nat → List Nat
 | 0 => []
 | u + 1 => if u + 3 ≤ bs.length ∧ tri bs u = k then posL bs k u ++ [u] else posL bs k u
theorem mem_posL (bs : List Nat) (k : Nat × Nat × Nat) (p : Nat) : ∀ u : Nat, p ∈ posL bs k u ↔ p < u ∧ p + 3 ≤ bs.length ∧ tri bs p = k
 | 0 => by simp [posL]
 | u + 1 => by
  unfold posL
  have ih := mem_posL bs k p u
  split
  ·
   rename_i h
   rw [List.mem_append, ih, List.mem_singleton]
   constructor
   ·
    rintro (⟨h1, h2, h3⟩ | rfl)
    ·
     exact ⟨by omega, h2, h3⟩
    ·
     exact ⟨by omega, h.1, h.2⟩
   ·
    rintro ⟨h1, h2, h3⟩
    by_cases h4 : p = u
    ·
     exact .inr h4
    ·
     exact .inl ⟨by omega, h2, h3⟩
  ·
   rename_i h
   rw [ih]
   constructor
   ·
    rintro ⟨h1, h2, h3⟩
    exact ⟨by omega, h2, h3⟩
   ·
    rintro ⟨h1, h2, h3⟩
    by_cases h4 : p = u
    ·
     subst h4; exact absurd ⟨h2, h3⟩ h
    ·
     exact ⟨by omega, h2, h3⟩
theorem posL_len (bs : List Nat) (k : Nat × Nat × Nat) : ∀ u, (posL bs k u).length ≤ u
 | 0 => Nat.le_refl _
 | u + 1 => by
  unfold posL
  have ih := posL_len bs k u
  split
  ·
   rw [List.length_append]; simp; omega
  ·
   omega
theorem posL_sorted (bs : List Nat) (k : Nat × Nat × Nat) : ∀ u, (posL bs k u).Pairwise (· < ·)
 | 0 => by simp [posL]
 | u + 1 => by
  unfold posL
  split
  ·
   rw [List.pairwise_append]
   refine ⟨posL_sorted bs k u, by simp, fun x hx y hy => ?_⟩
   rw [List.mem_singleton] at hy
   rw [hy]
   exact ((mem_posL bs k x u).1 hx).1
  ·
   exact posL_sorted bs k u
theorem tri_long (bs : List Nat) (p a : Nat) (ha : a + 3 ≤ bs.length) : 3 ≤ longM bs p a ↔ tri bs p = tri bs a := by
 rw [longM_three]
 unfold tri
 simp only [Prod.mk.injEq]
 exact ⟨fun h => h.2, fun h => ⟨ha, h⟩⟩
def Upto (bs : List Nat) (a i : Nat) : Nat × Nat :=
 cutM (bst bs a (if i < (posL bs (tri bs a) a).length then a - (posL bs (tri bs a) a).getD i 0 else 0))
theorem Upto_end (bs : List Nat) (a : Nat) : Upto bs a (posL bs (tri bs a) a).length = (0, 0) := by
 unfold Upto
 rw [if_neg (Nat.lt_irrefl _)]
 rfl
theorem pos_at {bs : List Nat} {k : Nat × Nat × Nat} {u i : Nat} (hi : i < (posL bs k u).length) : (posL bs k u).getD i 0 < u ∧ (posL bs k u).getD i 0 + 3 ≤ bs.length ∧ tri bs ((posL bs k u).getD i 0) = k := by
 refine (mem_posL bs k _ u).1 ?_
 rw [List.getD_eq_getElem?_getD, List.getElem?_eq_getElem hi]
 exact List.getElem_mem hi
theorem pos_lt {bs : List Nat} {k : Nat × Nat × Nat} {u i j : Nat} (hij : i < j) (hj : j < (posL bs k u).length) : (posL bs k u).getD i 0 < (posL bs k u).getD j 0 := by
 have hi : i < (posL bs k u).length := by omega
 rw [List.getD_eq_getElem?_getD, List.getD_eq_getElem?_getD, List.getElem?_eq_getElem hj, List.getElem?_eq_getElem hi]
 exact List.pairwise_iff_getElem.1 (posL_sorted bs k u) i j (by omega) hj hij
theorem pos_no {bs : List Nat} {k : Nat × Nat × Nat} {u p : Nat} (h : p ∈ posL bs k u) : ∃ j, j < (posL bs k u).length ∧ (posL bs k u).getD j 0 = p := by
 obtain ⟨j, hj, he⟩ := List.getElem_of_mem h
 exact ⟨j, hj, by rw [List.getD_eq_getElem?_getD, List.getElem?_eq_getElem hj]; exact he⟩
theorem Upto_step (bs : List Nat) (a i : Nat) (ha : a + 3 ≤ bs.length) (hi : i < (posL bs (tri bs a) a).length) :
  Upto bs a i = (let p := (posL bs (tri bs a) a).getD i 0; if (Upto bs a (i + 1)).1 < longM bs p a then (longM bs p a, a - p) else Upto bs a (i + 1)) := by
 obtain ⟨h1, h2, h3⟩ := pos_at hi
 dsimp only
 generalize hp : (posL bs (tri bs a) a).getD i 0 = p at h1 h2 h3
 have h4 : 3 ≤ longM bs p a := (tri_long bs p a ha).2 h3
 have e1 : Upto bs a (i + 1) = cutM (bst bs a (a - p - 1)) := by
  unfold Upto
  split
  ·
   rename_i h5
   obtain ⟨g1, g2, g3⟩ := pos_at h5
   have g4 := pos_lt (Nat.lt_succ_self i) h5
   rw [hp] at g4
   generalize hq : (posL bs (tri bs a) a).getD (i + 1) 0 = q at g1 g2 g3 g4
   have := cut_gap bs a (a - q) (q - p - 1) (fun d hd1 hd2 => by
    refine Nat.lt_of_not_le fun h6 => ?_
    have h7 := (tri_long bs (a - d) a ha).1 h6
    obtain ⟨j, hj, he⟩ := pos_no ((mem_posL bs (tri bs a) (a - d) a).2 ⟨by omega, by omega, h7⟩)
    by_cases hji : j ≤ i
    ·
     by_cases hje : j = i
     ·
      subst hje; omega
     ·
      have := pos_lt (show j < i by omega) hi; omega
    ·
     by_cases hje : j = i + 1
     ·
      subst hje; omega
     ·
      have := pos_lt (show i + 1 < j by omega) hj; omega)
   rw [show a - q + (q - p - 1) = a - p - 1 by omega] at this
   exact this.symm
  ·
   rename_i h5
   have := cut_gap bs a 0 (a - p - 1) (fun d hd1 hd2 => by
    refine Nat.lt_of_not_le fun h6 => ?_
    have h7 := (tri_long bs (a - d) a ha).1 h6
    obtain ⟨j, hj, he⟩ := pos_no ((mem_posL bs (tri bs a) (a - d) a).2 ⟨by omega, by omega, h7⟩)
    by_cases hje : j = i
    ·
     subst hje; omega
    ·
     have := pos_lt (show j < i by omega) hi; omega)
   rw [Nat.zero_add] at this
   exact this.symm
 rw [e1]
 have e2 : Upto bs a i = cutM (bst bs a (a - p)) := by
  unfold Upto
  rw [if_pos hi, hp]
 rw [e2]
 have := cut_step bs a (a - p - 1) (by rw [show a - (a - p - 1 + 1) = p by omega]; exact h4)
 rw [show a - p - 1 + 1 = a - p by omega, show a - (a - p) = p by omega] at this
 exact this
theorem Upto_zero (bs : List Nat) (a : Nat) (ha : a + 3 ≤ bs.length) : Upto bs a 0 = bestM bs a := by
 unfold Upto bestM
 split
 ·
  rename_i h
  obtain ⟨g1, g2, g3⟩ := pos_at h
  generalize hp : (posL bs (tri bs a) a).getD 0 0 = p at g1 g2 g3
  have := cut_gap bs a (a - p) p (fun d hd1 hd2 => by
   refine Nat.lt_of_not_le fun h6 => ?_
   have h7 := (tri_long bs (a - d) a ha).1 h6
   by_cases hd : d ≤ a
   ·
    obtain ⟨j, hj, he⟩ := pos_no ((mem_posL bs (tri bs a) (a - d) a).2 ⟨by omega, by omega, h7⟩)
    by_cases hje : j = 0
    ·
     subst hje; omega
    ·
     have := pos_lt (show 0 < j by omega) hj; omega
   ·
    omega)
  rw [show a - p + p = a by omega] at this
  exact this.symm
 ·
  rename_i h
  have := cut_gap bs a 0 a (fun d hd1 hd2 => by
   refine Nat.lt_of_not_le fun h6 => ?_
   have h7 := (tri_long bs (a - d) a ha).1 h6
   obtain ⟨j, hj, he⟩ := pos_no ((mem_posL bs (tri bs a) (a - d) a).2 ⟨by omega, by omega, h7⟩)
   omega)
  rw [Nat.zero_add] at this
  exact this.symm
theorem Upto_full (bs : List Nat) (a : Nat) (ha : a + 3 ≤ bs.length) : ∀ i, i ≤ (posL bs (tri bs a) a).length → (Upto bs a i).1 = 258 → bestM bs a = Upto bs a i
 | 0, _, _ => (Upto_zero bs a ha).symm
 | i + 1, hi, h => by
  have := Upto_step bs a i ha (by omega)
  dsimp only at this
  have hl := longM_le bs ((posL bs (tri bs a) a).getD i 0) a
  rw [if_neg (by omega)] at this
  rw [← this]
  exact Upto_full bs a ha i (by omega) (by rw [this]; exact h)
theorem bestM_short (bs : List Nat) (a : Nat) (h : bs.length < a + 3) (ha : a ≤ bs.length) : bestM bs a = (0, 0) := by
 rcases bestM_facts bs a ha with h1 | ⟨h1, _, _, _, h2, _⟩
 ·
  exact h1
 ·
  omega
abbrev Tk := Nat × Nat × Nat
def findM (bs : List Nat) : Nat → Nat → List Tk
 | 0, _ => []
 | m + 1, a => if bs.length ≤ a then [] else if (bestM bs a).1 = 0 then (bs.getD a 0, 0, 0) :: findM bs m (a + 1) else (0, (bestM bs a).1, (bestM bs a).2) :: findM bs m (a + (bestM bs a).1)
theorem findM_end (bs : List Nat) (m a : Nat) (h : bs.length ≤ a) : findM bs m a = [] := by
 cases m with
 | zero => rfl
 | succ m => rw [findM, if_pos h]
theorem findM_more (bs : List Nat) : ∀ m n a, bs.length ≤ a + m → bs.length ≤ a + n → findM bs m a = findM bs n a
 | 0, n, a, h1, _ => by rw [findM_end bs n a (by omega)]; rfl
 | m + 1, 0, a, _, h2 => by rw [findM_end bs (m + 1) a (by omega)]; rfl
 | m + 1, n + 1, a, h1, h2 => by
  unfold findM
  split
  ·
   rfl
  ·
   split
   ·
    rw [findM_more bs m n (a + 1) (by omega) (by omega)]
   ·
    rename_i h3 h4
    rw [findM_more bs m n (a + (bestM bs a).1) (by omega) (by omega)]
def toks (bs : List Nat) (a : Nat) : List Tk := findM bs (bs.length - a) a
theorem toks_end (bs : List Nat) (a : Nat) (h : bs.length ≤ a) : toks bs a = [] := findM_end bs _ a h
theorem toks_lit (bs : List Nat) (a : Nat) (h : a < bs.length) (h0 : (bestM bs a).1 = 0) : toks bs a = (bs.getD a 0, 0, 0) :: toks bs (a + 1) := by
 unfold toks
 rw [show bs.length - a = (bs.length - a - 1) + 1 by omega, findM, if_neg (by omega), if_pos h0, findM_more bs (bs.length - a - 1) (bs.length - (a + 1)) (a + 1) (by omega) (by omega)]
theorem toks_match (bs : List Nat) (a : Nat) (h : a < bs.length) (h0 : (bestM bs a).1 ≠ 0) : toks bs a = (0, (bestM bs a).1, (bestM bs a).2) :: toks bs (a + (bestM bs a).1) := by
 unfold toks
 rw [show bs.length - a = (bs.length - a - 1) + 1 by omega, findM, if_neg (by omega), if_neg h0, findM_more bs (bs.length - a - 1) (bs.length - (a + (bestM bs a).1)) (a + (bestM bs a).1) (by omega) (by omega)]
end Go.Proofs.Ytnmieihcjjiccaa

namespace Go.Proofs.Ytnmieihcjjiccaa
open Go.RowKit
section
variable {P : Program} {Γ : Env} {w : World} {dst : Option Tmp} {T : TypeId} {pos : String} {after : Array Edge} {g : Option (Nat × Bool)}
theorem Run.maxI {t : TypeId} {x y : Operand} {k : IntKind} {a b : Int} {ts : Array TypeId} (hx : ev? Γ x = some (.int k a)) (hy : ev? Γ y = some (.int k b)) :
  Run P ⟨dst, .call ⟨.builtin .max, #[x, y], ts⟩, t, pos, after, g⟩ Γ w (.int k (if a < b then b else a)) := fun ρ hρ => by
 simp [execOp, resolve, invoke, builtin, Builtin.max_, Builtin.max2, hρ _ _ hx, hρ _ _ hy]
theorem Run.buildA {t e : TypeId} {n size : Nat} {parts : List (Nat × Operand)} {vs : List Value} {z cells : Array Value} (hv : evs Γ (parts.map (·.2)) vs) (hz : ∀ w, (zeroValue t).run P w = .ok (.agg z) w)
  (hu : P.underlying t = some (.array n e)) (hsz : ∀ w, (sizeOf e).run P w = .ok size w) (hf : Instr.fill (fun i => some (i * size, size)) z ((parts.map (·.1)).zip vs) = some cells) :
  Run P ⟨dst, .build t parts.toArray, T, pos, after, g⟩ Γ w (.agg cells) := fun ρ hρ => by
 have e1 := evs_map hρ _ _ hv
 have e2 : parts.map (fun p => (p.1, ρ p.2)) = (parts.map (·.1)).zip vs := by
  rw [← e1, List.map_map, List.zip_map']
  rfl
 simp only [execOp, Instr.build, Sem.run_bind, hz, Result.andThen_ok, Value.cells, run_underlying hu, hsz, List.map_toArray, e2, hf, Sem.run_pure]
theorem Run.sliceA {t e : TypeId} {x : Operand} {a : Addr} {n sz : Nat} {lo hi : Option Operand} (l h : Nat) (hx : ev? Γ x = some (.pointer (some a))) (ht : P.underlying t = some (.array n e)) (hz : ∀ w, (sizeOf e).run P w = .ok sz w)
  (hlo : evB Γ lo 0 l) (hhi : evB Γ hi n h) (h1 : l ≤ h) (h2 : h ≤ n) :
  Run P ⟨dst, .slice t x lo hi none, T, pos, after, g⟩ Γ w (.slice (cutA (some a) n l sz) (h - l) (n - l)) := fun ρ hρ => by
 have hb : ∀ (k : IntKind) (r y : Nat) (code : BoundsCode), r ≤ y → (Instr.sliceBound (.int k (r : Int)) y code).run P w = .ok r w := by
  intro k r y code hry
  have := run_sliceBound (P := P) w k (r : Int) y code (by omega) (by omega)
  simpa using this
 have hbs : (Instr.sliceBounds false n n (lo.map ρ) (hi.map ρ) none).run P w = .ok (l, h, n) w := run_bounds (P := P) (w := w) hρ n n l h lo hi hlo hhi h1 h2 false
 simp only [execOp, Instr.sliceAt, Sem.run_bind, run_underlying ht, Result.andThen_ok, hρ _ _ hx, Option.map_none, Instr.sureAddr, Sem.run_pure, hbs, hz]
 unfold cutA
 split
 ·
  rename_i h0; simp [h0]
 ·
  rename_i h0; simp [h0]
end
section
variable {P : Program} {n : NF} {Γ : Env} {w : World} {Q : Exit → Env → World → Prop} {K : Env → World → Prop} {Pn : List PanicEntry → World → Prop} {ops : Array Oper} {rest : List Oper} {S : World → Prop} {L fuel : Nat} {listed : Array Bool} {d : Nat} {op : Op} {T : TypeId} {pos : String} {after : Array Edge}
end
section
variable {P : Program} {n : NF} {Γ : Env} {w : World} {K : Env → World → Prop} {Pn : List PanicEntry → World → Prop} {ops : Array Oper} {S : World → Prop} {L fuel : Nat} {listed : Array Bool}
theorem Sat.perm {Γ Γ' : Env} {a : Act} (h : Sat n Γ a) (hp : ∀ t v, get? Γ' t = some v → get? Γ t = some v) : Sat n Γ' a := ⟨h.size, h.defers, fun t v ht => h.at_ t v (hp t v ht)⟩
end

section
variable {P : Program} {n : Nat} {D : List Deferred} {Γ : Env} {w : World} {Q : Exit → Env → World → Prop}
end
end Go.Proofs.Ytnmieihcjjiccaa

namespace Go.Proofs.Ytnmieihcjjiccaa
open Go.RowKit
def LW (P : Program) (n : NF) (c : Code) (Γ : Env) (w : World) (QQ : Exit → Act → World → Prop) : Prop := n.ro = none → ∀ a, Sat n Γ a → c.wp P QQ a w
def upL (n : NF) (QQ : Exit → Act → World → Prop) : Exit → Env → World → Prop := fun e Γ w => ∀ a, Sat n Γ a → QQ e a w
section
variable {P : Program} {n : NF} {Γ : Env} {w : World} {QQ : Exit → Act → World → Prop} {c x y : Code} {R : Ending → World → Prop} {fn : Func} {res : Array ResultVar}
theorem LW.vc (h : VC P n c Γ w (upL n QQ)) : LW P n c Γ w QQ := fun hro a hs => by
 have h1 := h a hs 0
 rw [hro] at h1
 exact wp_mono (wpIn_wide.1 h1) (fun _ _ _ ⟨_, hs', q⟩ => q _ hs')
theorem LW.seq (h : VC P n x Γ w (thenQ (fun Γ' w' => LW P n y Γ' w' QQ) (upL n QQ))) : LW P n (.seq x y) Γ w QQ := by
 intro hro a hs
 have h1 := h a hs 0
 rw [hro] at h1
 refine wp_seq (wp_mono (wpIn_wide.1 h1) ?_)
 intro e a' w' hq
 obtain ⟨Γ', hs', q⟩ := hq
 cases e with
 | normal => exact q hro a' hs'
 | exit id => exact q a' hs'
 | goto l => exact q a' hs'
 | ret => exact q a' hs'
 | panic ch => exact q a' hs'
 | outgrown => exact q a' hs'
theorem LW.sub (Γ' : Env) (hs : Sub Γ Γ') (h : LW P n c Γ' w QQ) : LW P n c Γ w QQ := fun hro a ha => h hro a (ha.sub hs)
theorem LW.calls {f : FuncId} {args : List Value} {nt : Nat} (hf : P.funcs[f]? = some fn) (hb : fn.body = some c) (hn : fn.ntmps = nt) (hl0 : Nat.ble args.length nt = true)
  (h : LW P ⟨nt, [], none⟩ c (argEnv 0 args) w (bodyPostD P fn R)) : Calls P f args.toArray w R := by
 have hl : args.length ≤ nt := Nat.le_of_ble_eq_true hl0
 refine calls_of_wp_defers hf hb (h rfl _ ?_)
 refine ⟨?_, rfl, ?_⟩
 ·
  simp only [Array.size_append, List.size_toArray, Array.size_replicate, hn]
  omega
 ·
  intro t v ht
  obtain ⟨_, h2⟩ := argEnv_get args 0 t v ht
  simp only [Nat.sub_zero] at h2
  have hlt : t < args.length := (List.getElem?_eq_some_iff.1 h2).1
  rw [Array.getD_eq_getD_getElem?, Array.getElem?_append_left (by simpa using hlt)]
  simp [h2]
end

section
variable {P : Program} {Γ : Env} {w : World} {rest : Code} {R : Ending → FrameMode → World → Prop} {fn : Func} {res : Array ResultVar}
end
section
variable {P : Program} {Γ : Env} {w : World} {dst : Option Tmp} {T : TypeId} {pos : String} {after : Array Edge} {g : Option (Nat × Bool)}
end

section
variable {P : Program} {n : NF} {Γ : Env} {w : World} {K : Env → World → Prop} {Pn : List PanicEntry → World → Prop} {ops : Array Oper} {S : World → Prop} {L fuel : Nat} {listed : Array Bool} {i : Nat} {oi : Oper} {d : Nat}
def HOne (P : Program) (n : NF) (ops : Array Oper) (S : World → Prop) (Pn : List PanicEntry → World → Prop) (L fuel : Nat) (listed : Array Bool) (i : Nat) (Γ : Env) (w : World) (K : Env → World → Prop) : Prop :=
 ∀ a, Sat n Γ a → wpOp P ops (liftN n K Pn) i (fun a' w' => S w' ∧ wpAnyE P ops (liftN n K Pn) S L fuel (listed.setIfInBounds i true) a' w') a w
theorem HOps.or2 (i j : Nat) (hr : Region.ready .any ops listed = [i, j]) (h1 : HOne P n ops S Pn L fuel listed i Γ w K) (h2 : HOne P n ops S Pn L fuel listed j Γ w K) : HOps P n ops S Pn L (fuel + 1) listed Γ w K := fun a hs =>
 wpAnyE_all hr (by simp) (by intro x hx; simp only [List.mem_cons, List.not_mem_nil, or_false] at hx; rcases hx with rfl | rfl; exact h1 a hs; exact h2 a hs)
theorem HOne.of_wp (hi : ops[i]? = some oi) (hup : Up ops Γ oi.guard) (h : ∀ a, Sat n Γ a → oi.wp P a w (fun a' w' => S w' ∧ wpAnyE P ops (liftN n K Pn) S L fuel (listed.setIfInBounds i true) a' w') (liftN n K Pn)) : HOne P n ops S Pn L fuel listed i Γ w K := by
 intro a hs
 unfold wpOp
 simp only [hi]
 rw [if_pos (hup.wanted hs)]
 exact .inl (h a hs)
theorem HOne.m {R : Value → World → Prop} (hi : ops[i]? = some oi) (h : Does P oi Γ w R) (hup : Up ops Γ oi.guard) (hd : oi.dst = some d) (hn : Nat.blt d n.n = true)
  (k : ∀ v w', R v w' → S w' ∧ HOps P n ops S Pn L fuel (listed.setIfInBounds i true) ((d, v) :: Γ) w' K) : HOne P n ops S Pn L fuel listed i Γ w K :=
 HOne.of_wp hi hup fun a hs => by
  obtain ⟨v, w', hrun, hR⟩ := h _ hs.fits
  unfold Oper.wp
  rw [hrun, Oper.upon_value, hd]
  exact ⟨(k v w' hR).1, (k v w' hR).2 _ (hs.put hn v)⟩
theorem HOne.r1 {v : Value} (hi : ops[i]? = some oi) (hS : S w) (h : Run P oi Γ w v) (hup : Up ops Γ oi.guard) (hd : oi.dst = some d) (hn : Nat.blt d n.n = true)
  (k : HOps P n ops S Pn L fuel (listed.setIfInBounds i true) ((d, v) :: Γ) w K) : HOne P n ops S Pn L fuel listed i Γ w K :=
 HOne.of_wp hi hup fun a hs => by
  unfold Oper.wp
  rw [h _ hs.fits, Oper.upon_value, hd]
  exact ⟨hS, k _ (hs.put hn v)⟩
theorem HOne.st {R : World → Prop} (hi : ops[i]? = some oi) (h : Acts P oi Γ w R) (hup : Up ops Γ oi.guard) (hd : oi.dst = none)
  (k : ∀ w', R w' → S w' ∧ HOps P n ops S Pn L fuel (listed.setIfInBounds i true) Γ w' K) : HOne P n ops S Pn L fuel listed i Γ w K :=
 HOne.of_wp hi hup fun a hs => by
  obtain ⟨w', hrun, hR⟩ := h _ hs.fits
  unfold Oper.wp
  rw [hrun, Oper.upon_skip, hd]
  exact ⟨(k w' hR).1, (k w' hR).2 _ hs⟩
theorem HOne.cl {f : FuncId} {args : Array Value} {R : Ending → World → Prop} (hi : ops[i]? = some oi) (he : Enters P oi Γ w f args) (hc : Calls P f args w R) (hup : Up ops Γ oi.guard) (hd : oi.dst = some d) (hn : Nat.blt d n.n = true)
  (k : ∀ e w', R e w' → ∃ v, e = .returned v ∧ S w' ∧ HOps P n ops S Pn L fuel (listed.setIfInBounds i true) ((d, v) :: Γ) w' K) : HOne P n ops S Pn L fuel listed i Γ w K :=
 HOne.of_wp hi hup fun a hs => by
  unfold Oper.wp
  rw [he _ hs.fits, Oper.upon_enter, hd]
  refine hc.mono ?_
  intro e w' hR
  obtain ⟨v, rfl, h1, h2⟩ := k e w' hR
  exact ⟨h1, h2 _ (hs.put hn v)⟩
end
end Go.Proofs.Ytnmieihcjjiccaa

namespace Go.Proofs.Ytnmieihcjjiccaa
open Go.RowKit Go.ChangeShapes Go.WideShapes Go.Deep
section
variable {H : Type} {enc : TypeId × Value → H} {P : Program} {w : World} {base : Nat} {spare : Nat → Bool} {held : Bool}
end
end Go.Proofs.Ytnmieihcjjiccaa

namespace Go.Proofs.Ytnmieihcjjiccaa
open Go.RowKit
def Fro (w : World) (g : Nat) (e : TypeId) (cs : Array Value) : Prop := w.heap[g]? = some (.cells cs e (cs.size, cs.size + 1))
section
variable {S : List Nat} {w w' : World} {g : Nat} {e : TypeId} {cs : Array Value}
theorem Fro.lt (h : Fro w g e cs) : g < w.heap.size := (Array.getElem?_eq_some_iff.1 h).1
theorem Fro.cell (h : Fro w g e cs) (i : Nat) : w.cell? ⟨g, i, none⟩ = cs[i]? := by
 unfold Fro at h
 simp [World.cell?, h]
theorem Fro.frozen (h : Fro w g e cs) {i : Nat} (hi : i < cs.size) : w.frozen? ⟨g, i, none⟩ = false := by
 unfold Fro at h
 simp [World.frozen?, h]
 omega
theorem Fro.frm (h : Fro w g e cs) (k : Frm S w w') (hg : g ∉ S) : Fro w' g e cs := (k.block g h.lt hg).trans h
theorem Fro.set (h : Fro w g e cs) (i : Nat) (u : Value) : Fro (w.setCell ⟨g, i, none⟩ u) g e (cs.setIfInBounds i u) := by
 unfold Fro at *
 have hlt := (Array.getElem?_eq_some_iff.1 h).1
 have hb := (Array.getElem?_eq_some_iff.1 h).2
 simp [World.setCell, Array.getElem?_modify, h]
theorem Fro.rd (h : Fro w g e cs) {l : List UInt8} (hl : cs.toList.take l.length = U8 l) : Rd w 1 (some ⟨g, 0, none⟩) l.length (U8 l) := by
 refine ⟨by simp [U8], fun hn => ⟨_, rfl, h.lt, fun j u hu => ?_⟩⟩
 have e1 : (⟨g, 0, none⟩ : Addr).add j = ⟨g, j, none⟩ := by unfold Addr.add; split <;> simp_all
 rw [e1, h.cell]
 have hj : j < l.length := by have := (List.getElem?_eq_some_iff.1 hu).1; simpa [U8] using this
 rw [← hl, List.getElem?_take_of_lt hj] at hu
 simpa using hu
end
section
variable {P : Program} {n : NF} {Γ : Env} {w : World} {dst : Option Tmp} {T : TypeId} {pos : String} {after : Array Edge} {g : Option (Nat × Bool)}

theorem Run.indexArr1 {t e : TypeId} {x i : Operand} {n : Nat} {k : IntKind} {cs : Array Value} {v : Value} (j : Nat) (hx : ev? Γ x = some (.agg cs)) (hi : ev? Γ i = some (.int k j)) (ht : P.underlying t = some (.array n e))
  (ha : ∀ w, (isAgg e).run P w = .ok false w) (hz : ∀ w, (sizeOf e).run P w = .ok 1 w) (hl : cs.size = n) (hj : cs[j]? = some v) : Run P ⟨dst, .index t x i, T, pos, after, g⟩ Γ w v := fun ρ hρ => by
 have hlt := (Array.getElem?_eq_some_iff.1 hj).1
 have h4 : j < n := by omega
 simp [execOp, hρ _ _ hx, hρ _ _ hi, Instr.index, asIntOf, run_underlying ht, h4, part, ha, hz, hj]
end
end Go.Proofs.Ytnmieihcjjiccaa

namespace Go.Proofs.Ytnmieihcjjiccaa
open Go.RowKit
section
variable {P : Program} {n : NF} {Γ : Env} {w : World} {Q : Exit → Env → World → Prop} {ops : Array Oper} {rest : List Oper} {op : Op} {T : TypeId} {pos : String} {after : Array Edge} {g : Option (Nat × Bool)} {dst : Option Tmp}
theorem Ops.m0 {R : Value → World → Prop} (h : Does P ⟨none, op, T, pos, after, none⟩ Γ w R) (k : ∀ v w', R v w' → Ops P n ops rest Γ w' Q) : Ops P n ops (⟨none, op, T, pos, after, none⟩ :: rest) Γ w Q :=
 Ops.of_wp (show Up ops Γ none from trivial) fun a hs m => by
  obtain ⟨v, w', hr, hR⟩ := h _ hs.fits
  refine ⟨about_wd, ?_⟩
  rw [semAt_run hr (by simp), Oper.uponIn_value]
  exact k v w' hR _ hs m
end
end Go.Proofs.Ytnmieihcjjiccaa

namespace Go.Proofs.Ytnmieihcjjiccaa
open Go.RowKit
structure PT where
 i : Nat
 d : Nat
 dep : List Nat
 pure : Bool
 Φ : (Nat → Value) → Value → Nat → Nat → World → Prop
def PStep (P : Program) (ops : Array Oper) (n : NF) (t : PT) (ρ : Nat → Value) (Γ : Env) (W : World) : Prop :=
 ∃ oi, ops[t.i]? = some oi ∧ oi.dst = some t.d ∧ Nat.blt t.d n.n = true ∧ oi.guard = none ∧
  ((∃ f args R, Enters P oi Γ W f args ∧ Calls P f args W R ∧ ∀ e W', R e W' → ∃ v, e = .returned v ∧ Frm [] W W' ∧ t.Φ ρ v W.heap.size W'.heap.size W') ∨
   (∃ R, Does P oi Γ W R ∧ ∀ v W', R v W' → Frm [] W W' ∧ t.Φ ρ v W.heap.size W'.heap.size W')) ∧
  (t.pure = true → ∃ v, (∀ W', Run P oi Γ W' v) ∧ t.Φ ρ v W.heap.size W.heap.size W)
def parB (ops : Array Oper) (L : Nat) (target : Array Bool) : Nat → Array Bool → List (Nat × Nat × List Nat × Bool) → Bool
 | 0, listed, rest => rest.isEmpty && (listed.toList == target.toList)
 | k + 1, listed, rest => match rest.find? (fun t => t.2.2.2 && (Region.ready .any ops listed).contains t.1 && Region.free .any ops listed t.1 && (Region.noSelect ops && lastOk ops L t.1) && !(rest.any fun u => t.2.2.1.any fun x => Nat.beq x u.2.1)) with
  | some t => parB ops L target k (listed.setIfInBounds t.1 true) (rest.filter fun u => !Nat.beq u.1 t.1)
  | none => !rest.isEmpty && !(Region.ready .any ops listed).isEmpty && (Region.ready .any ops listed).all fun i =>
   rest.any (fun t => Nat.beq t.1 i && !(rest.any fun u => t.2.2.1.any fun x => Nat.beq x u.2.1)) && parB ops L target k (listed.setIfInBounds i true) (rest.filter fun t => !Nat.beq t.1 i)
structure PD where
 t : PT
 v : Value
 lo : Nat
 hi : Nat
abbrev PT.key (t : PT) : Nat × Nat × List Nat × Bool := (t.i, t.d, t.dep, t.pure)
def dget (done : List PD) (x : Nat) : Value × Nat × Nat := match done.find? (fun y => Nat.beq y.t.d x) with | some y => (y.v, y.lo, y.hi) | none => (undef, 0, 0)
abbrev dval (done : List PD) (x : Nat) : Value := (dget done x).1
abbrev denv (done : List PD) (Γ : Env) : Env := done.map (fun x => (x.t.d, x.v)) ++ Γ
theorem get_append (A Γ : Env) (x : Nat) : get? (A ++ Γ) x = match get? A x with | some v => some v | none => get? Γ x := by
 induction A with
 | nil => rfl
 | cons a r ih =>
  obtain ⟨k, v⟩ := a
  simp only [List.cons_append, get?]
  cases Nat.beq k x with
  | true => rfl
  | false => exact ih
theorem get_done {done : List PD} {x : PD} (hn : (done.map fun y => y.t.d).Nodup) (hx : x ∈ done) : get? (done.map fun y => (y.t.d, y.v)) x.t.d = some x.v := by
 induction done with
 | nil => cases hx
 | cons a r ih =>
  simp only [List.map_cons, List.nodup_cons] at hn
  simp only [List.map_cons, get?]
  rcases List.mem_cons.1 hx with rfl | h
  ·
   simp
  ·
   have hne : a.t.d ≠ x.t.d := fun e => hn.1 (by rw [e]; exact List.mem_map.2 ⟨x, h, rfl⟩)
   have : Nat.beq a.t.d x.t.d = false := by
    rw [Bool.eq_false_iff]; intro hb; exact hne (Nat.eq_of_beq_eq_true hb)
   rw [this]
   exact ih hn.2 h
theorem dget_done {done : List PD} {x : PD} (hn : (done.map fun y => y.t.d).Nodup) (hx : x ∈ done) : dget done x.t.d = (x.v, x.lo, x.hi) := by
 have hf : done.find? (fun y => Nat.beq y.t.d x.t.d) = some x := by
  induction done with
  | nil => cases hx
  | cons b r ih =>
   simp only [List.map_cons, List.nodup_cons] at hn
   rcases List.mem_cons.1 hx with rfl | h
   ·
    simp [List.find?_cons]
   ·
    have hne : b.t.d ≠ x.t.d := fun e => hn.1 (by rw [e]; exact List.mem_map.2 ⟨x, h, rfl⟩)
    have hbq : Nat.beq b.t.d x.t.d = false := by rw [Bool.eq_false_iff]; intro hb; exact hne (Nat.eq_of_beq_eq_true hb)
    rw [List.find?_cons, hbq]
    exact ih hn.2 h
 unfold dget
 rw [hf]
theorem dget_cons {done : List PD} {y : PD} {x : Nat} (h : y.t.d ≠ x) : dget (y :: done) x = dget done x := by
 unfold dget
 have : Nat.beq y.t.d x = false := by rw [Bool.eq_false_iff]; intro hb; exact h (Nat.eq_of_beq_eq_true hb)
 rw [List.find?_cons, this]
theorem get_undone {done : List PD} {x : Nat} (hx : ∀ y ∈ done, y.t.d ≠ x) : get? (done.map fun y => (y.t.d, y.v)) x = none := by
 induction done with
 | nil => rfl
 | cons a r ih =>
  simp only [List.map_cons, get?]
  have : Nat.beq a.t.d x = false := by
   rw [Bool.eq_false_iff]; intro hb; exact hx a (by simp) (Nat.eq_of_beq_eq_true hb)
  rw [this]
  exact ih fun y hy => hx y (by simp [hy])
theorem inj_nodup {f : PT → Nat} {u t : PT} : ∀ l : List PT, (l.map f).Nodup → u ∈ l → t ∈ l → f u = f t → u = t
 | [], _, h, _, _ => by cases h
 | b :: r, hn, h1, h2, e => by
  simp only [List.map_cons, List.nodup_cons] at hn
  rcases List.mem_cons.1 h1 with h3 | h3
  ·
   rcases List.mem_cons.1 h2 with h4 | h4
   ·
    rw [h3, h4]
   ·
    exact absurd (List.mem_map.2 ⟨t, h4, by rw [← e, h3]⟩) hn.1
  ·
   rcases List.mem_cons.1 h2 with h4 | h4
   ·
    exact absurd (List.mem_map.2 ⟨u, h3, by rw [e, h4]⟩) hn.1
   ·
    exact inj_nodup r hn.2 h3 h4 e
section
variable {P : Program} {n : NF} {Γ : Env} {w : World} {K : Env → World → Prop} {Pn : List PanicEntry → World → Prop} {ops : Array Oper} {S : World → Prop} {L : Nat} {target : Array Bool}
def PAll (ts : List PT) (w : World) (g : Nat → Value × Nat × Nat) (W : World) : Prop :=
 (∀ t ∈ ts, t.Φ (fun x => (g x).1) (g t.d).1 (g t.d).2.1 (g t.d).2.2 W ∧ w.heap.size ≤ (g t.d).2.1 ∧ (g t.d).2.1 ≤ (g t.d).2.2 ∧ (g t.d).2.2 ≤ W.heap.size) ∧
  ∀ t ∈ ts, ∀ u ∈ ts, t.d ≠ u.d → (g t.d).2.2 ≤ (g u.d).2.1 ∨ (g u.d).2.2 ≤ (g t.d).2.1
theorem par_aux (ts : List PT) (hnd : (ts.map PT.d).Nodup) (hndi : (ts.map PT.i).Nodup) (h0 : ∀ t ∈ ts, get? Γ t.d = none) (fuel : Nat)
  (hst : ∀ t ∈ ts, ∀ ρ v lo hi W W', Frm [] W W' → t.Φ ρ v lo hi W → t.Φ ρ v lo hi W')
  (hcg : ∀ t ∈ ts, ∀ ρ ρ' v lo hi W, (∀ x ∈ t.dep, ρ x = ρ' x) → t.Φ ρ v lo hi W → t.Φ ρ' v lo hi W)
  (hok : ∀ t ∈ ts, ∀ W (g : Nat → Value × Nat × Nat), Frm [] w W → (∀ u ∈ ts, u.d ∈ t.dep → u.Φ (fun x => (g x).1) (g u.d).1 (g u.d).2.1 (g u.d).2.2 W) → (∀ x ∈ t.dep, ∃ u ∈ ts, u.d = x) → PStep P ops n t (fun x => (g x).1) (t.dep.map (fun x => (x, (g x).1)) ++ Γ) W)
  (hdep : ∀ t ∈ ts, ∀ x ∈ t.dep, ∃ u ∈ ts, u.d = x)
  (hS : ∀ W, Frm [] w W → S W)
  (k : ∀ g W, Frm [] w W → PAll ts w g W → HOps P n ops S Pn L fuel target (ts.map (fun t => (t.d, (g t.d).1)) ++ Γ) W K) :
  ∀ (m : Nat) (done : List PD) (rest : List PT) (listed : Array Bool) (W : World) (a : Act), parB ops L target m listed (rest.map PT.key) = true → m = rest.length → (∀ t, t ∈ ts ↔ t ∈ done.map PD.t ∨ t ∈ rest) → (done.map fun x => x.t.d).Nodup → (rest.map PT.i).Nodup → (∀ t ∈ rest, ∀ x ∈ done, x.t.d ≠ t.d) →
   (∀ x ∈ done, ∀ z ∈ x.t.dep, ∃ y ∈ done, y.t.d = z) → (∀ x ∈ done, x.t.Φ (dval done) x.v x.lo x.hi W ∧ w.heap.size ≤ x.lo ∧ x.lo ≤ x.hi ∧ x.hi ≤ W.heap.size) → done.Pairwise (fun x y => y.hi ≤ x.lo) → Frm [] w W → Sat n (denv done Γ) a →
   wpAnyE P ops (liftN n K Pn) S L (fuel + m) listed a W
 | 0, done, rest, listed, W, a, hb, hm, hts, hdn, _, _, _, hph, hpw, hfr, hs => by
  have hr : rest = [] := List.eq_nil_of_length_eq_zero hm.symm
  subst hr
  simp only [parB, List.map_nil, List.isEmpty_nil, Bool.true_and, beq_iff_eq] at hb
  have hl : listed = target := Array.toList_inj.1 hb
  subst hl
  let g : Nat → Value × Nat × Nat := dget done
  have hg : ∀ x ∈ done, g x.t.d = (x.v, x.lo, x.hi) := fun x hx => dget_done hdn hx
  have hin : ∀ t ∈ ts, ∃ x ∈ done, x.t = t := by
   intro t ht
   rcases (hts t).1 ht with h | h
   ·
    obtain ⟨x, hx, rfl⟩ := List.mem_map.1 h; exact ⟨x, hx, rfl⟩
   ·
    simp at h
  refine k g W hfr ⟨?_, ?_⟩ a ?_
  ·
   intro t ht
   obtain ⟨x, hx, rfl⟩ := hin t ht
   rw [hg x hx]
   exact hph x hx
  ·
   intro t ht u hu hne
   obtain ⟨x, hx, rfl⟩ := hin t ht
   obtain ⟨y, hy, rfl⟩ := hin u hu
   rw [hg x hx, hg y hy]
   have key : ∀ l : List PD, l.Pairwise (fun x y => y.hi ≤ x.lo) → x ∈ l → y ∈ l → x.hi ≤ y.lo ∨ y.hi ≤ x.lo := by
    intro l
    induction l with
    | nil => intro _ h; cases h
    | cons b r ih =>
     intro hp hxb hyb
     obtain ⟨hp1, hp2⟩ := List.pairwise_cons.1 hp
     rcases List.mem_cons.1 hxb with rfl | hxr
     ·
      rcases List.mem_cons.1 hyb with rfl | hyr
      ·
       exact absurd rfl hne
      ·
       exact .inr (hp1 y hyr)
     ·
      rcases List.mem_cons.1 hyb with rfl | hyr
      ·
       exact .inl (hp1 x hxr)
      ·
       exact ih hp2 hxr hyr
   exact key done hpw hx hy
  ·
   refine ⟨hs.size, hs.defers, fun x v hv => hs.at_ x v ?_⟩
   rw [get_append] at hv ⊢
   by_cases hx : ∃ y ∈ done, y.t.d = x
   ·
    obtain ⟨y, hy, rfl⟩ := hx
    have hyt : y.t ∈ ts := (hts y.t).2 (.inl (List.mem_map.2 ⟨y, hy, rfl⟩))
    have h1 : get? (ts.map fun t => (t.d, (g t.d).1)) y.t.d = some (g y.t.d).1 := by
     clear hv hs k hok hst hcg hts hin h0 hdep hndi
     induction ts with
     | nil => cases hyt
     | cons b r ih =>
      simp only [List.map_cons, get?]
      cases hq : Nat.beq b.d y.t.d with
      | true => rw [Nat.eq_of_beq_eq_true hq]; rfl
      | false =>
       rcases List.mem_cons.1 hyt with h | h
       ·
        rw [← h] at hq; simp at hq
       ·
        simp only [List.map_cons, List.nodup_cons] at hnd
        exact ih hnd.2 h
    rw [h1] at hv
    rw [get_done hdn hy]
    rw [hg y hy] at hv
    exact hv
   ·
    have hno : ∀ y ∈ done, y.t.d ≠ x := fun y hy e => hx ⟨y, hy, e⟩
    rw [get_undone hno]
    have h1 : get? (ts.map fun t => (t.d, (g t.d).1)) x = none := by
     have hno2 : ∀ t ∈ ts, t.d ≠ x := fun t ht e => by
      obtain ⟨y, hy, rfl⟩ := hin t ht
      exact hno y hy e
     clear hv hs k hok hst hcg hts hin hx hno h0 hdep hndi hnd
     induction ts with
     | nil => rfl
     | cons b r ih =>
      simp only [List.map_cons, get?]
      have hq : Nat.beq b.d x = false := by rw [Bool.eq_false_iff]; intro hb; exact hno2 b (by simp) (Nat.eq_of_beq_eq_true hb)
      rw [hq]
      exact ih fun t ht => hno2 t (by simp [ht])
    rw [h1] at hv
    exact hv
 | m + 1, done, rest, listed, W, a, hb, hm, hts, hdn, hri, hdr, hdc, hph, hpw, hfr, hs => by
  have one : ∀ t ∈ rest, (!((rest.map PT.key).any fun u => t.dep.any fun x => Nat.beq x u.2.1)) = true → parB ops L target m (listed.setIfInBounds t.i true) ((rest.map PT.key).filter fun u => !Nat.beq u.1 t.i) = true →
    ∃ ρ Γ', PStep P ops n t ρ Γ' W ∧ Sat n Γ' a ∧ ∀ v W', Frm [] W W' → t.Φ ρ v W.heap.size W'.heap.size W' → S W' ∧ wpAnyE P ops (liftN n K Pn) S L (fuel + m) (listed.setIfInBounds t.i true) (a.put (some t.d) v) W' := by
   intro t ht hq2 hnext
   have htts : t ∈ ts := (hts t).2 (.inr ht)
   have hdd : ∀ x ∈ t.dep, ∃ y ∈ done, y.t.d = x := by
    intro x hx
    obtain ⟨u, hu, rfl⟩ := hdep t htts x hx
    rcases (hts u).1 hu with h | h
    ·
     obtain ⟨y, hy, rfl⟩ := List.mem_map.1 h; exact ⟨y, hy, rfl⟩
    ·
     exfalso
     simp only [Bool.not_eq_true', Bool.eq_false_iff, ne_eq, List.any_eq_true, not_exists, not_and] at hq2
     exact hq2 u.key (List.mem_map.2 ⟨u, h, rfl⟩) u.d hx (Nat.beq_refl u.d)
   let g : Nat → Value × Nat × Nat := dget done
   have hg : ∀ x ∈ done, g x.t.d = (x.v, x.lo, x.hi) := fun x hx => dget_done hdn hx
   have hstep := hok t htts W g hfr (fun u hu hud => by
    obtain ⟨y, hy, hyd⟩ := hdd u.d hud
    have huy : u = y.t := by
     have hyt : y.t ∈ ts := (hts y.t).2 (.inl (List.mem_map.2 ⟨y, hy, rfl⟩))
     exact inj_nodup ts hnd hu hyt hyd.symm
    rw [huy, hg y hy]
    exact (hph y hy).1) (hdep t htts)
   have hsub : Sat n (t.dep.map (fun x => (x, (g x).1)) ++ Γ) a := by
    refine ⟨hs.size, hs.defers, fun x v hv => hs.at_ x v ?_⟩
    rw [get_append] at hv ⊢
    by_cases hx : ∃ y ∈ done, y.t.d = x
    ·
     obtain ⟨y, hy, rfl⟩ := hx
     rw [get_done hdn hy]
     have hyt : y.t ∈ ts := (hts y.t).2 (.inl (List.mem_map.2 ⟨y, hy, rfl⟩))
     have key : ∀ l : List Nat, get? (l.map fun x => (x, (g x).1)) y.t.d = some y.v ∨ get? (l.map fun x => (x, (g x).1)) y.t.d = none := by
      intro l
      induction l with
      | nil => exact .inr rfl
      | cons b r ih =>
       simp only [List.map_cons, get?]
       cases hq : Nat.beq b y.t.d with
       | true => rw [Nat.eq_of_beq_eq_true hq, hg y hy]; exact .inl rfl
       | false => exact ih
     rcases key t.dep with h1 | h1
     ·
      rw [h1] at hv; exact hv
     ·
      rw [h1] at hv
      exact absurd hv (by rw [h0 _ hyt]; simp)
    ·
     have hno : ∀ y ∈ done, y.t.d ≠ x := fun y hy e => hx ⟨y, hy, e⟩
     rw [get_undone hno]
     have h1 : get? (t.dep.map fun x => (x, (g x).1)) x = none := by
      have key : ∀ l : List Nat, (∀ z ∈ l, z ≠ x) → get? (l.map fun x => (x, (g x).1)) x = none := by
       intro l hl
       induction l with
       | nil => rfl
       | cons b r ih =>
        simp only [List.map_cons, get?]
        have hq : Nat.beq b x = false := by rw [Bool.eq_false_iff]; intro hb; exact hl b (by simp) (Nat.eq_of_beq_eq_true hb)
        rw [hq]
        exact ih fun z hz => hl z (by simp [hz])
      exact key t.dep fun z hz e => by
       obtain ⟨y, hy, hyd⟩ := hdd z hz
       exact hno y hy (hyd.trans e)
     rw [h1] at hv
     exact hv
   have hmr : m = (rest.filter fun u => !Nat.beq u.i t.i).length := by
    have key : ∀ l : List PT, (l.map PT.i).Nodup → t ∈ l → l.length = (l.filter fun u => !Nat.beq u.i t.i).length + 1 := by
     intro l
     induction l with
     | nil => intro _ h; cases h
     | cons b r ih =>
      intro hn h1
      simp only [List.map_cons, List.nodup_cons] at hn
      rcases List.mem_cons.1 h1 with rfl | h1
      ·
       have e : (r.filter fun u => !Nat.beq u.i t.i) = r := by
        refine List.filter_eq_self.2 fun u hu => ?_
        have : Nat.beq u.i t.i = false := by
         rw [Bool.eq_false_iff]; intro hb
         exact hn.1 (List.mem_map.2 ⟨u, hu, Nat.eq_of_beq_eq_true hb⟩)
        rw [this]; rfl
       rw [List.filter_cons]
       simp only [Nat.beq_refl, Bool.not_true, Bool.false_eq_true, if_false, e, List.length_cons]
      ·
       have hb : Nat.beq b.i t.i = false := by
        rw [Bool.eq_false_iff]; intro hb
        exact hn.1 (List.mem_map.2 ⟨t, h1, (Nat.eq_of_beq_eq_true hb).symm⟩)
       rw [List.filter_cons, hb]
       simp only [Bool.not_false, if_true, List.length_cons, ih hn.2 h1]
    have := key rest hri ht
    omega
   have hfm : (rest.map PT.key).filter (fun u => !Nat.beq u.1 t.i) = (rest.filter fun u => !Nat.beq u.i t.i).map PT.key := by
    rw [List.filter_map]; rfl
   have again : ∀ v W', Frm [] W W' → t.Φ (dval done) v W.heap.size W'.heap.size W' → S W' ∧ wpAnyE P ops (liftN n K Pn) S L (fuel + m) (listed.setIfInBounds t.i true) (a.put (some t.d) v) W' := by
    intro v W' hf hΦ
    have hfr' := hfr.trans hf (by simp)
    refine ⟨hS W' hfr', ?_⟩
    have hnot : t.d ∉ done.map fun x => x.t.d := fun h => by
     obtain ⟨y, hy, hyd⟩ := List.mem_map.1 h
     exact hdr t ht y hy hyd
    obtain ⟨_, _, _, hdn', _, _, _⟩ := hstep
    refine par_aux ts hnd hndi h0 fuel hst hcg hok hdep hS k m (⟨t, v, W.heap.size, W'.heap.size⟩ :: done) (rest.filter fun u => !Nat.beq u.i t.i) _ W' _ (by rw [← hfm]; exact hnext) hmr ?_ ?_ ?_ ?_ ?_ ?_ ?_ hfr' (hs.put hdn' v)
    ·
     intro u
     rw [hts u]
     simp only [List.map_cons, List.mem_cons, List.mem_filter]
     constructor
     ·
      rintro (h | h)
      ·
       exact .inl (.inr h)
      ·
       by_cases hut : u.i = t.i
       ·
        left; left
        exact inj_nodup rest hri h ht hut
       ·
        right
        refine ⟨h, ?_⟩
        have : Nat.beq u.i t.i = false := by rw [Bool.eq_false_iff]; intro hb; exact hut (Nat.eq_of_beq_eq_true hb)
        rw [this]; rfl
     ·
      rintro ((rfl | h) | h)
      ·
       exact .inr ht
      ·
       exact .inl h
      ·
       exact .inr h.1
    ·
     simp only [List.map_cons, List.nodup_cons]
     exact ⟨hnot, hdn⟩
    ·
     exact hri.sublist (List.Sublist.map _ List.filter_sublist)
    ·
     intro u hu x hx
     obtain ⟨hu1, hu2⟩ := List.mem_filter.1 hu
     rcases List.mem_cons.1 hx with rfl | hx
     ·
      intro e
      have hut : u ∈ ts := (hts u).2 (.inr hu1)
      have := inj_nodup ts hnd hut htts e.symm
      subst this
      simp at hu2
     ·
      exact hdr u hu1 x hx
    ·
     intro x hx z hz
     rcases List.mem_cons.1 hx with rfl | hx
     ·
      obtain ⟨y, hy, hyz⟩ := hdd z hz
      exact ⟨y, List.mem_cons_of_mem _ hy, hyz⟩
     ·
      obtain ⟨y, hy, hyz⟩ := hdc x hx z hz
      exact ⟨y, List.mem_cons_of_mem _ hy, hyz⟩
    ·
     have hsame : ∀ z, (∃ y ∈ done, y.t.d = z) → dval done z = dval (⟨t, v, W.heap.size, W'.heap.size⟩ :: done) z := fun z ⟨y, hy, hyz⟩ => by
      unfold dval
      rw [dget_cons]
      intro e
      exact hnot (List.mem_map.2 ⟨y, hy, hyz.trans e.symm⟩)
     intro x hx
     rcases List.mem_cons.1 hx with rfl | hx
     ·
      exact ⟨hcg t htts _ _ _ _ _ _ (fun z hz => hsame z (hdd z hz)) hΦ, hfr.size, hf.size, Nat.le_refl _⟩
     ·
      obtain ⟨h1, h2, h3, h4⟩ := hph x hx
      have hxt : x.t ∈ ts := (hts x.t).2 (.inl (List.mem_map.2 ⟨x, hx, rfl⟩))
      exact ⟨hcg x.t hxt _ _ _ _ _ _ (fun z hz => hsame z (hdc x hx z hz)) (hst x.t hxt _ _ _ _ _ _ hf h1), h2, h3, Nat.le_trans h4 hf.size⟩
    ·
     refine List.pairwise_cons.2 ⟨fun y hy => ?_, hpw⟩
     exact (hph y hy).2.2.2
   exact ⟨dval done, _, hstep, hsub, again⟩
  have all : ∀ (oi : Oper) (t : PT), True := fun _ _ => trivial
  clear all
  unfold parB at hb
  split at hb
  ·
   rename_i t0 hfind
   have hmem := List.mem_of_find?_eq_some hfind
   have hp := List.find?_some hfind
   simp only [Bool.and_eq_true] at hp
   obtain ⟨⟨⟨⟨hpu, hrd⟩, hfree⟩, hsel⟩, hdp⟩ := hp
   obtain ⟨t, ht, rfl⟩ := List.mem_map.1 hmem
   obtain ⟨ρ, Γ', ⟨oi, hoi, hdst, hdn', hgd, _, hpure⟩, hsub, again⟩ := one t ht hdp hb
   obtain ⟨v, hrun, hΦ⟩ := hpure hpu
   obtain ⟨_, hk⟩ := again v W (Frm.refl _ _) hΦ
   refine wpAnyE_take (f := fuel + m) hoi (by simpa using hsel) hfree hrd liftN_put (.inl ⟨by unfold Region.wanted; rw [hgd], fun w' _ => hrun w' _ hsub.fits⟩) (hS W hfr) ?_
   rw [hdst]
   exact hk
  ·
   simp only [Bool.and_eq_true, Bool.not_eq_true', List.all_eq_true, List.any_eq_true] at hb
   obtain ⟨⟨_, hne⟩, hall⟩ := hb
   refine wpAnyE_all (rs := Region.ready .any ops listed) rfl (by intro e; rw [e] at hne; simp at hne) ?_
   intro i hi
   obtain ⟨⟨t0, ht0, hq⟩, hnext⟩ := hall i hi
   obtain ⟨t, ht, rfl⟩ := List.mem_map.1 ht0
   obtain ⟨hq1, hq2⟩ := hq
   have hti : t.i = i := Nat.eq_of_beq_eq_true hq1
   subst hti
   obtain ⟨ρ, Γ', ⟨oi, hoi, hdst, hdn', hgd, hstep, _⟩, hsub, again⟩ := one t ht (by rw [Bool.not_eq_true']; exact hq2) hnext
   unfold wpOp
   simp only [hoi]
   rw [if_pos (by unfold Region.wanted; rw [hgd])]
   left
   unfold Oper.wp
   rcases hstep with ⟨f, args, R, he, hc, hR⟩ | ⟨R, hD, hR⟩
   ·
    rw [he _ hsub.fits, Oper.upon_enter, hdst]
    refine hc.mono ?_
    intro e W' hR'
    obtain ⟨v, rfl, hf, hΦ⟩ := hR e W' hR'
    exact again v W' hf hΦ
   ·
    obtain ⟨v, W', hrun, hR'⟩ := hD _ hsub.fits
    rw [hrun, Oper.upon_value, hdst]
    obtain ⟨hf, hΦ⟩ := hR v W' hR'
    exact again v W' hf hΦ
theorem HOps.par (ts : List PT) (m : Nat) {fuel : Nat} {listed : Array Bool} (hm : ts.length = m) (hb : parB ops L target m listed (ts.map PT.key) = true) (hnd : (ts.map PT.d).Nodup) (hndi : (ts.map PT.i).Nodup) (h0 : ∀ t ∈ ts, get? Γ t.d = none)
  (hdep : ∀ t ∈ ts, ∀ x ∈ t.dep, ∃ u ∈ ts, u.d = x)
  (hS : ∀ W, Frm [] w W → S W)
  (hst : ∀ t ∈ ts, ∀ ρ v lo hi W W', Frm [] W W' → t.Φ ρ v lo hi W → t.Φ ρ v lo hi W')
  (hcg : ∀ t ∈ ts, ∀ ρ ρ' v lo hi W, (∀ x ∈ t.dep, ρ x = ρ' x) → t.Φ ρ v lo hi W → t.Φ ρ' v lo hi W)
  (hok : ∀ t ∈ ts, ∀ W (g : Nat → Value × Nat × Nat), Frm [] w W → (∀ u ∈ ts, u.d ∈ t.dep → u.Φ (fun x => (g x).1) (g u.d).1 (g u.d).2.1 (g u.d).2.2 W) → (∀ x ∈ t.dep, ∃ u ∈ ts, u.d = x) → PStep P ops n t (fun x => (g x).1) (t.dep.map (fun x => (x, (g x).1)) ++ Γ) W)
  (k : ∀ g W, Frm [] w W → PAll ts w g W → HOps P n ops S Pn L fuel target (ts.map (fun t => (t.d, (g t.d).1)) ++ Γ) W K) : HOps P n ops S Pn L (fuel + m) listed Γ w K := by
 intro a hs
 exact par_aux ts hnd hndi h0 fuel hst hcg hok hdep hS k m [] ts listed w a hb hm.symm (by simp) (by simp) hndi (by simp) (by simp) (by simp) List.Pairwise.nil (Frm.refl _ _) hs
theorem PStep.cl {t : PT} {ρ : Nat → Value} {W : World} {f : FuncId} {args : Array Value} {R : Ending → World → Prop} {oi : Oper} (hp : t.pure = false) (hi : ops[t.i]? = some oi) (hd : oi.dst = some t.d) (hn : Nat.blt t.d n.n = true) (hg : oi.guard = none) (he : Enters P oi Γ W f args) (hc : Calls P f args W R)
  (h : ∀ e W', R e W' → ∃ v, e = .returned v ∧ Frm [] W W' ∧ t.Φ ρ v W.heap.size W'.heap.size W') : PStep P ops n t ρ Γ W := ⟨oi, hi, hd, hn, hg, .inl ⟨f, args, R, he, hc, h⟩, fun h' => by rw [hp] at h'; cases h'⟩
theorem PStep.m {t : PT} {ρ : Nat → Value} {W : World} {R : Value → World → Prop} {oi : Oper} (hp : t.pure = false) (hi : ops[t.i]? = some oi) (hd : oi.dst = some t.d) (hn : Nat.blt t.d n.n = true) (hg : oi.guard = none) (hD : Does P oi Γ W R)
  (h : ∀ v W', R v W' → Frm [] W W' ∧ t.Φ ρ v W.heap.size W'.heap.size W') : PStep P ops n t ρ Γ W := ⟨oi, hi, hd, hn, hg, .inr ⟨R, hD, h⟩, fun h' => by rw [hp] at h'; cases h'⟩
theorem PStep.r {t : PT} {ρ : Nat → Value} {W : World} {v : Value} {oi : Oper} (hi : ops[t.i]? = some oi) (hd : oi.dst = some t.d) (hn : Nat.blt t.d n.n = true) (hg : oi.guard = none) (hD : ∀ W', Run P oi Γ W' v)
  (h : t.Φ ρ v W.heap.size W.heap.size W) : PStep P ops n t ρ Γ W :=
 ⟨oi, hi, hd, hn, hg, .inr ⟨fun r w' => r = v ∧ w' = W, fun ρ hρ => ⟨v, W, hD W ρ hρ, rfl, rfl⟩, by rintro _ _ ⟨rfl, rfl⟩; exact ⟨Frm.refl _ _, h⟩⟩, fun _ => ⟨v, hD, h⟩⟩
abbrev PT.mv (i d src : Nat) (more : List Nat) : PT := ⟨i, d, src :: more, true, fun ρ v _ _ _ => v = ρ src⟩
abbrev PT.part (i d src k : Nat) (more : List Nat) : PT := ⟨i, d, src :: more, true, fun ρ v _ _ _ => ∃ xs, ρ src = .tuple xs ∧ xs[k]? = some v⟩
end
end Go.Proofs.Ytnmieihcjjiccaa
namespace Go.Proofs.Ytnmieihcjjiccaa
open Go.RowKit
open Go.Maps (Keyed)
def MpF (P : Program) (k : TypeId) {κ : Type} (enc : κ → Value) (w : World) (g : Nat) (M : κ → Option Value) : Prop :=
 ∃ (es : List MapEntry) (clock : Nat), w.heap[g]? = some (.map es.toArray clock) ∧ (∀ e ∈ es, (∃ l, keyOf P k e.key = some l) ∧ e.born < clock) ∧ es.Pairwise (fun a b => a.born ≠ b.born ∧ a.key ≠ b.key) ∧ ∀ x v, M x = some v ↔ ∃ e ∈ es, e.key = enc x ∧ e.val = v
def MpE (P : Program) (k : TypeId) {κ : Type} (enc : κ → Value) (w : World) (g : Nat) (M : κ → Option Value) (x : κ) (n : Nat) : Prop :=
 ∃ (es : List MapEntry) (clock : Nat), w.heap[g]? = some (.map es.toArray clock) ∧ (∀ e ∈ es, (∃ l, keyOf P k e.key = some l) ∧ e.born < clock) ∧ es.Pairwise (fun a b => a.born ≠ b.born ∧ a.key ≠ b.key) ∧ (∀ x v, M x = some v ↔ ∃ e ∈ es, e.key = enc x ∧ e.val = v) ∧
  ∃ e ∈ es, e.key = enc x ∧ e.born = n
section
variable {P : Program} {k : TypeId} {κ : Type} {enc : κ → Value} {w w' : World} {g : Nat} {M : κ → Option Value} {S : List Nat}
theorem MpE.mp {x : κ} {n : Nat} (h : MpE P k enc w g M x n) : MpF P k enc w g M := by
 obtain ⟨es, clock, h1, h2, h3, h4, _⟩ := h
 exact ⟨es, clock, h1, h2, h3, h4⟩
theorem MpF.lt (h : MpF P k enc w g M) : g < w.heap.size := by
 obtain ⟨es, clock, h1, _⟩ := h
 exact (Array.getElem?_eq_some_iff.1 h1).1
theorem MpF.frm (h : MpF P k enc w g M) (f : Frm S w w') (hS : g ∉ S) : MpF P k enc w' g M := by
 have hl := h.lt
 obtain ⟨es, clock, h1, h2⟩ := h
 exact ⟨es, clock, (f.block g hl hS).trans h1, h2⟩
theorem MpE.frm {x : κ} {n : Nat} (h : MpE P k enc w g M x n) (f : Frm S w w') (hS : g ∉ S) : MpE P k enc w' g M x n := by
 have hl := h.mp.lt
 obtain ⟨es, clock, h1, h2⟩ := h
 exact ⟨es, clock, (f.block g hl hS).trans h1, h2⟩
theorem MpF.drawn (h : MpF P k enc w g M) (hd : Drawn w w') : MpF P k enc w' g M := by
 obtain ⟨m, rfl⟩ := hd
 exact h
theorem MpF.ne_blk {b : Nat} {t : TypeId} {cs : Array Value} (h : MpF P k enc w g M) (hb : Blk w b t cs) : g ≠ b := by
 rintro rfl
 obtain ⟨es, clock, h1, _⟩ := h
 rw [show w.heap[g]? = _ from hb] at h1
 cases h1
theorem MpF.new : MpF P k enc (w.alloc (.map #[] 0)) w.heap.size (fun _ : κ => none) := by
 refine ⟨[], 0, (MapKept.heap_alloc w _).1, by simp, List.Pairwise.nil, fun x v => ?_⟩
 simp
theorem frm_setBlock (w : World) (g : Nat) (o : Obj) : Frm [g] w (ChangeMaps.setBlock w g o) :=
 ⟨rfl, rfl, rfl, by simp [ChangeMaps.setBlock], fun i _ hi => by
  unfold ChangeMaps.setBlock
  simp only [Array.getElem?_setIfInBounds]
  rw [if_neg (fun e => hi (by rw [e]; simp))]⟩
theorem run_look {t e : TypeId} {z : Value} {x : κ} {kl : Lit} (h : MpF P k enc w g M) (K : Keyed P k) (ht : P.underlying t = some (.map k e)) (hz : (zeroValue e).run P w = .ok z w) (hkey : keyOf P k (enc x) = some kl) :
  (Instr.lookup t (.map (some g)) (enc x) false).run P w = .ok ((M x).getD z) w := by
 obtain ⟨es, clock, hb, h2, h3, h4⟩ := h
 rcases K.find w hkey es (fun e he => (h2 e he).1) with ⟨h5, h6⟩ | ⟨j, e0, h5, h6, h7⟩
 ·
  have hM : M x = none := by
   cases hm : M x with
   | none => rfl
   | some v =>
    obtain ⟨e1, he1, he2, _⟩ := (h4 x v).1 hm
    exact absurd he2 (h6 e1 he1)
  rw [hM]
  simp [Instr.lookup, run_underlying ht, MapKept.run_getObj_map hb, K.check w _ hkey, h5, hz, Result.andThen]
 ·
  have hM : M x = some e0.val := (h4 x e0.val).2 ⟨e0, List.mem_of_getElem? h6, h7, rfl⟩
  rw [hM]
  simp [Instr.lookup, run_underlying ht, MapKept.run_getObj_map hb, K.check w _ hkey, h5, Result.andThen]
theorem run_entry [DecidableEq κ] {t e : TypeId} {z : Value} {x : κ} {kl : Lit} (h : MpF P k enc w g M) (K : Keyed P k) (henc : ∀ a b, enc a = enc b → a = b) (ht : P.underlying t = some (.map k e)) (hz : ∀ w, (zeroValue e).run P w = .ok z w) (hkey : keyOf P k (enc x) = some kl) :
  ∃ (n : Nat) (w' : World), (Instr.mapEntry t (.map (some g)) (enc x)).run P w = .ok (.tuple #[(M x).getD z, .int .i64 (n : Int)]) w' ∧ MpE P k enc w' g (fun y => if y = x then some ((M x).getD z) else M y) x n ∧ Frm [g] w w' ∧ w'.heap.size = w.heap.size := by
 have hlt := h.lt
 obtain ⟨es, clock, hb, h2, h3, h4⟩ := h
 rcases K.find w hkey es (fun e he => (h2 e he).1) with ⟨h5, h6⟩ | ⟨j, e0, h5, h6, h7⟩
 ·
  have hM : M x = none := by
   cases hm : M x with
   | none => rfl
   | some v =>
    obtain ⟨e1, he1, he2, _⟩ := (h4 x v).1 hm
    exact absurd he2 (h6 e1 he1)
  refine ⟨clock, ChangeMaps.setBlock w g (.map (es ++ [(⟨enc x, z, clock⟩ : MapEntry)]).toArray (clock + 1)), ?_, ⟨es ++ [(⟨enc x, z, clock⟩ : MapEntry)], clock + 1, ?_, ?_, ?_, ?_, ⟨(⟨enc x, z, clock⟩ : MapEntry), by simp, rfl, rfl⟩⟩, frm_setBlock w g _, by simp [ChangeMaps.setBlock]⟩
  ·
   rw [hM]
   simp [Instr.mapEntry, run_underlying ht, MapKept.run_getObj_map hb, K.check w _ hkey, h5, hz, MapKept.run_setObj_map _ hb, Result.andThen, ChangeMaps.setBlock, goInt]
  ·
   simp [ChangeMaps.setBlock, hlt]
  ·
   intro e1 he1
   rcases List.mem_append.1 he1 with he1 | he1
   ·
    exact ⟨(h2 e1 he1).1, by have := (h2 e1 he1).2; omega⟩
   ·
    rw [List.mem_singleton] at he1
    subst he1
    exact ⟨⟨kl, hkey⟩, Nat.lt_succ_self _⟩
  ·
   refine List.pairwise_append.2 ⟨h3, by simp, fun a ha b hb2 => ?_⟩
   rw [List.mem_singleton] at hb2
   subst hb2
   exact ⟨by have := (h2 a ha).2; dsimp only; omega, h6 a ha⟩
  ·
   intro y v
   dsimp only
   by_cases hy : y = x
   ·
    subst hy
    rw [if_pos rfl, hM]
    constructor
    ·
     intro hv
     simp only [Option.getD_none, Option.some.injEq] at hv
     exact ⟨⟨enc y, z, clock⟩, by simp, rfl, hv⟩
    ·
     rintro ⟨e1, he1, he2, he3⟩
     rcases List.mem_append.1 he1 with he1 | he1
     ·
      exact absurd he2 (h6 e1 he1)
     ·
      rw [List.mem_singleton] at he1
      subst he1
      simpa using he3
   ·
    rw [if_neg hy]
    constructor
    ·
     intro hv
     obtain ⟨e1, he1, he2⟩ := (h4 y v).1 hv
     exact ⟨e1, by simp [he1], he2⟩
    ·
     rintro ⟨e1, he1, he2, he3⟩
     rcases List.mem_append.1 he1 with he1 | he1
     ·
      exact (h4 y v).2 ⟨e1, he1, he2, he3⟩
     ·
      rw [List.mem_singleton] at he1
      subst he1
      exact absurd (henc _ _ he2).symm hy
 ·
  have hM : M x = some e0.val := (h4 x e0.val).2 ⟨e0, List.mem_of_getElem? h6, h7, rfl⟩
  have hself : es.modify j (fun e => { e with key := enc x }) = es := by
   rw [ChangeMaps.modify_eq_set _ _ _ _ h6]
   have : ({ e0 with key := enc x } : MapEntry) = e0 := by rw [← h7]
   rw [this]
   apply List.ext_getElem?
   intro i
   rw [List.getElem?_set]
   split
   ·
    rename_i hi
    subst hi
    rw [if_pos (List.getElem?_eq_some_iff.1 h6).1, h6]
   ·
    rfl
  refine ⟨e0.born, ChangeMaps.setBlock w g (.map es.toArray clock), ?_, ⟨es, clock, ?_, h2, h3, ?_, ⟨e0, List.mem_of_getElem? h6, h7, rfl⟩⟩, frm_setBlock w g _, by simp [ChangeMaps.setBlock]⟩
  ·
   rw [hM]
   have hstay := K.stays w hkey
   simp [Instr.mapEntry, run_underlying ht, MapKept.run_getObj_map hb, K.check w _ hkey, h5, h6, h7, hstay, MapKept.run_setObj_map _ hb, Result.andThen, ChangeMaps.setBlock, goInt, hself]
  ·
   simp [ChangeMaps.setBlock, hlt]
  ·
   intro y v
   dsimp only
   by_cases hy : y = x
   ·
    subst hy
    rw [if_pos rfl, hM]
    rw [← h4 y v, hM]
    simp
   ·
    rw [if_neg hy]
    exact h4 y v
theorem born_find {es : List MapEntry} {e0 : MapEntry} (h0 : e0 ∈ es) (hp : es.Pairwise (fun a b => a.born ≠ b.born ∧ a.key ≠ b.key)) : ∃ j, es.findIdx? (fun e => (e.born : Int) == (e0.born : Int)) = some j ∧ es[j]? = some e0 := by
 cases hf : es.findIdx? (fun e => (e.born : Int) == (e0.born : Int)) with
 | none =>
  have := List.findIdx?_eq_none_iff.1 hf e0 h0
  simp at this
 | some j =>
  obtain ⟨hj, h1, _⟩ := List.findIdx?_eq_some_iff_getElem.1 hf
  refine ⟨j, rfl, ?_⟩
  obtain ⟨i, hi, he⟩ := List.getElem_of_mem h0
  have h2 : es[j].born = e0.born := Int.ofNat.inj (by simpa using h1)
  by_cases hij : i = j
  ·
   subst hij
   rw [List.getElem?_eq_getElem hi, he]
  ·
   exfalso
   rcases Nat.lt_or_gt_of_ne hij with h3 | h3
   ·
    exact (List.pairwise_iff_getElem.1 hp i j hi hj h3).1 (by rw [he, h2])
   ·
    exact (List.pairwise_iff_getElem.1 hp j i hj hi h3).1 (by rw [he, h2])
theorem run_entryStore [DecidableEq κ] {t : TypeId} {x : κ} {n : Nat} {v : Value} (h : MpE P k enc w g M x n) (henc : ∀ a b, enc a = enc b → a = b) :
  ∃ w' : World, (Instr.entryStore t (.map (some g)) (.int .i64 (n : Int)) v).run P w = .ok () w' ∧ MpF P k enc w' g (fun y => if y = x then some v else M y) ∧ Frm [g] w w' ∧ w'.heap.size = w.heap.size := by
 have hlt := h.mp.lt
 obtain ⟨es, clock, hb, h2, h3, h4, e0, he0, hk0, hn0⟩ := h
 subst hn0
 obtain ⟨j, hj1, hj2⟩ := born_find he0 h3
 have hjl := (List.getElem?_eq_some_iff.1 hj2).1
 have hmod : es.modify j (fun e => { e with val := v }) = es.set j { e0 with val := v } := ChangeMaps.modify_eq_set _ _ _ _ hj2
 have who : ∀ e1 ∈ es.set j { e0 with val := v }, e1 = { e0 with val := v } ∨ (e1 ∈ es ∧ e1.key ≠ e0.key ∧ e1.born ≠ e0.born) := by
  intro e1 he1
  obtain ⟨i, hi, ex⟩ := List.getElem_of_mem he1
  rw [List.getElem_set] at ex
  split at ex
  ·
   exact .inl ex.symm
  ·
   rename_i hne
   have hi' : i < es.length := by simpa using hi
   refine .inr ⟨ex ▸ List.getElem_mem hi', ?_⟩
   have ej : es[j] = e0 := by rw [List.getElem?_eq_getElem hjl] at hj2; exact Option.some.inj hj2
   rcases Nat.lt_or_gt_of_ne hne with h5 | h5
   ·
    have := List.pairwise_iff_getElem.1 h3 j i hjl hi' h5
    rw [ej, ex] at this
    exact ⟨this.2.symm, this.1.symm⟩
   ·
    have := List.pairwise_iff_getElem.1 h3 i j hi' hjl h5
    rw [ej, ex] at this
    exact ⟨this.2, this.1⟩
 have back : ∀ e1 ∈ es, e1.key ≠ e0.key → e1 ∈ es.set j { e0 with val := v } := by
  intro e1 he1 hne
  obtain ⟨i, hi, ex⟩ := List.getElem_of_mem he1
  have hij : j ≠ i := by
   rintro rfl
   rw [List.getElem?_eq_getElem hi, ex] at hj2
   exact hne (by rw [Option.some.inj hj2])
  have : (es.set j { e0 with val := v })[i]? = some e1 := by rw [List.getElem?_set_ne hij, List.getElem?_eq_getElem hi, ex]
  exact List.mem_of_getElem? this
 have hmem : ({ e0 with val := v } : MapEntry) ∈ es.set j { e0 with val := v } := by
  have : (es.set j { e0 with val := v })[j]? = some { e0 with val := v } := by rw [List.getElem?_set_self hjl]
  exact List.mem_of_getElem? this
 refine ⟨ChangeMaps.setBlock w g (.map (es.set j { e0 with val := v }).toArray clock), ?_, ⟨es.set j { e0 with val := v }, clock, by simp [ChangeMaps.setBlock, hlt], ?_, ?_, ?_⟩, frm_setBlock w g _, by simp [ChangeMaps.setBlock]⟩
 ·
  have e5 : (asInt (.int .i64 (e0.born : Int))).run P w = .ok (e0.born : Int) w := rfl
  simp [Instr.entryStore, MapKept.run_getObj_map hb, e5, hj1, MapKept.run_setObj_map _ hb, Result.andThen, ChangeMaps.setBlock, hmod]
 ·
  intro e1 he1
  rcases who e1 he1 with rfl | ⟨h5, _⟩
  ·
   exact h2 e0 he0
  ·
   exact h2 e1 h5
 ·
  rw [List.pairwise_iff_getElem]
  intro a b ha hb2 hab
  have ha' : a < es.length := by simpa using ha
  have hb' : b < es.length := by simpa using hb2
  have h5 := List.pairwise_iff_getElem.1 h3 a b ha' hb' hab
  have ej : es[j] = e0 := by rw [List.getElem?_eq_getElem hjl] at hj2; exact Option.some.inj hj2
  rw [List.getElem_set, List.getElem_set]
  by_cases h6 : j = a
  ·
   subst h6
   rw [if_pos rfl, if_neg (by omega)]
   rw [ej] at h5
   exact h5
  ·
   rw [if_neg h6]
   by_cases h7 : j = b
   ·
    subst h7
    rw [if_pos rfl]
    rw [ej] at h5
    exact h5
   ·
    rw [if_neg h7]
    exact h5
 ·
  intro y u
  dsimp only
  by_cases hy : y = x
  ·
   subst hy
   rw [if_pos rfl]
   constructor
   ·
    intro hu
    exact ⟨_, hmem, hk0, by simpa using hu⟩
   ·
    rintro ⟨e1, he1, he2, he3⟩
    rcases who e1 he1 with rfl | ⟨_, h6, _⟩
    ·
     simpa using he3
    ·
     exact absurd (he2.trans hk0.symm) h6
  ·
   rw [if_neg hy]
   constructor
   ·
    intro hu
    obtain ⟨e1, he1, he2, he3⟩ := (h4 y u).1 hu
    exact ⟨e1, back e1 he1 (fun e => hy (henc _ _ (by rw [← he2, ← hk0, e]))), he2, he3⟩
   ·
    rintro ⟨e1, he1, he2, he3⟩
    rcases who e1 he1 with rfl | ⟨h5, _, _⟩
    ·
     exact absurd (henc _ _ (hk0.symm.trans he2)).symm hy
    ·
     exact (h4 y u).2 ⟨e1, h5, he2, he3⟩
end

section
variable {P : Program} {k : TypeId} {κ : Type} {enc : κ → Value} {w : World} {g : Nat} {M : κ → Option Value} {Γ : Env} {dst : Option Tmp} {T : TypeId} {pos : String} {after : Array Edge} {gd : Option (Nat × Bool)}
theorem Does.makeMap {t : TypeId} : Does P ⟨dst, .makeMap t none, T, pos, after, gd⟩ Γ w (fun r w' => r = .map (some w.heap.size) ∧ MpF P k enc w' w.heap.size (fun _ : κ => none) ∧ Frm [] w w' ∧ w'.heap.size = w.heap.size + 1) := fun ρ _ =>
 ⟨_, w.alloc (.map #[] 0), by simp [execOp, run_makeMap], rfl, MpF.new, (Frm.refl [] w).alloc _, by simp⟩
theorem Run.lookup {t e : TypeId} {a b : Operand} {z : Value} {x : κ} {kl : Lit} (ha : ev? Γ a = some (.map (some g))) (hb : ev? Γ b = some (enc x)) (h : MpF P k enc w g M) (K : Keyed P k) (ht : P.underlying t = some (.map k e)) (hz : ∀ w, (zeroValue e).run P w = .ok z w) (hkey : keyOf P k (enc x) = some kl) :
  Run P ⟨dst, .lookup t a b false, T, pos, after, gd⟩ Γ w ((M x).getD z) := fun ρ hρ => by
 simp [execOp, hρ _ _ ha, hρ _ _ hb, run_look h K ht (hz w) hkey]
theorem Does.mapEntry [DecidableEq κ] {t e : TypeId} {a b : Operand} {z : Value} {x : κ} {kl : Lit} (ha : ev? Γ a = some (.map (some g))) (hb : ev? Γ b = some (enc x)) (h : MpF P k enc w g M) (K : Keyed P k) (henc : ∀ a b, enc a = enc b → a = b) (ht : P.underlying t = some (.map k e)) (hz : ∀ w, (zeroValue e).run P w = .ok z w) (hkey : keyOf P k (enc x) = some kl) :
  Does P ⟨dst, .mapEntry t a b, T, pos, after, gd⟩ Γ w (fun r w' => ∃ n : Nat, r = .tuple #[(M x).getD z, .int .i64 (n : Int)] ∧ MpE P k enc w' g (fun y => if y = x then some ((M x).getD z) else M y) x n ∧ Frm [g] w w' ∧ w'.heap.size = w.heap.size) := fun ρ hρ => by
 obtain ⟨n, w', h1, h2⟩ := run_entry h K henc ht hz hkey
 exact ⟨_, w', by simp [execOp, hρ _ _ ha, hρ _ _ hb, h1], n, rfl, h2⟩
theorem Acts.entryStore [DecidableEq κ] {t : TypeId} {a b c : Operand} {x : κ} {n : Nat} {v : Value} (ha : ev? Γ a = some (.map (some g))) (hb : ev? Γ b = some (.int .i64 (n : Int))) (hc : ev? Γ c = some v) (h : MpE P k enc w g M x n) (henc : ∀ a b, enc a = enc b → a = b) :
  Acts P ⟨dst, .entryStore t a b c, T, pos, after, gd⟩ Γ w (fun w' => MpF P k enc w' g (fun y => if y = x then some v else M y) ∧ Frm [g] w w' ∧ w'.heap.size = w.heap.size) := fun ρ hρ => by
 obtain ⟨w', h1, h2⟩ := run_entryStore (t := t) (v := v) h henc
 exact ⟨w', by simp [execOp, hρ _ _ ha, hρ _ _ hb, hρ _ _ hc, h1], h2⟩
theorem Run.toArr {t e : TypeId} {a : Operand} {A : Option Addr} {len c n : Nat} (ha : ev? Γ a = some (.slice A len c)) (ht : P.underlying t = some (.array n e)) (hn : n ≤ len) : Run P ⟨dst, .sliceToArrayPointer t a, T, pos, after, gd⟩ Γ w (.pointer A) := fun ρ hρ => by
 have : ¬ len < n := by omega
 simp [execOp, hρ _ _ ha, Instr.arrayAt, run_underlying ht, this]
end
end Go.Proofs.Ytnmieihcjjiccaa
namespace Go.Proofs.Ytnmieihcjjiccaa
open Go.RowKit
open Go.Maps (Keyed)
def K3 (x : Nat × Nat × Nat) : Value := .agg #[.int .u8 ((x.1 : Nat) : Int), .int .u8 ((x.2.1 : Nat) : Int), .int .u8 ((x.2.2 : Nat) : Int)]
theorem K3_inj (a b : Nat × Nat × Nat) (h : K3 a = K3 b) : a = b := by
 obtain ⟨a1, a2, a3⟩ := a
 obtain ⟨b1, b2, b3⟩ := b
 simp only [K3, Value.agg.injEq, Array.mk.injEq, List.cons.injEq, Value.int.injEq, true_and, and_true] at h
 obtain ⟨h1, h2, h3⟩ := h
 rw [Int.ofNat.inj h1, Int.ofNat.inj h2, Int.ofNat.inj h3]
theorem laid3 : laidOutB Try.prog = true := by kernel_rfl
theorem law3 : Keyed Try.prog 139 := Keyed.of_law (deep_law_laid laid3 (m := 2) (by omega) (of_decide_eq_true jK) jK (by rw [Try.underlying139]))
theorem cells3 : Try.prog.cellsOf 139 = 3 := by kernel_rfl
theorem cells8 : Try.prog.cellsOf 5 = 1 := by kernel_rfl
theorem keyT3 : Try.prog.keyType 139 = true := by kernel_rfl
theorem wf8 (n : Nat) (h : n < 256) : (Lit.int .u8 (n : Int)).wf = true := by
 have e1 : IntKind.min .u8 = 0 := by decide
 have e2 : IntKind.max .u8 = 255 := by decide
 simp only [Lit.wf, e1, e2, Bool.and_eq_true, decide_eq_true_eq]
 omega
theorem keyL3 (d a b c : Nat) (h1 : a < 256) (h2 : b < 256) (h3 : c < 256) : Try.prog.keyLits (d + 2) 139 [.int .u8 (a : Int), .int .u8 (b : Int), .int .u8 (c : Int)] = some [.int .u8 (a : Int), .int .u8 (b : Int), .int .u8 (c : Int)] := by
 have e (n : Nat) (h : n < 256) : Try.prog.keyLits (d + 1) 5 [.int .u8 (n : Int)] = some [.int .u8 (n : Int)] := by
  unfold Program.keyLits
  rw [Try.underlying5]
  simp only [wf8 n h, and_self, if_true]
 unfold Program.keyLits
 rw [Try.underlying139]
 have e3 : List.range 3 = [0, 1, 2] := rfl
 simp only [cells3, cells8, e3, List.length_cons, List.length_nil, Nat.zero_add, Nat.reduceAdd, if_true, List.mapM_cons, List.mapM_nil, Nat.zero_mul, Nat.one_mul, Nat.reduceMul, List.drop_zero, List.drop_succ_cons, List.take_succ_cons, List.take_zero, e a h1, e b h2, e c h3]
 rfl
theorem key3 (x : Nat × Nat × Nat) (h1 : x.1 < 256) (h2 : x.2.1 < 256) (h3 : x.2.2 < 256) : ∃ l, keyOf Try.prog 139 (K3 x) = some l := by
 have hf : (K3 x).formed Try.prog 139 = true := by
  unfold K3 Value.formed
  rw [Try.underlying139]
  simp only [cells3]
  rfl
 have e1 : Try.prog.types.size + 1 = (Try.prog.types.size - 1) + 2 := by kernel_rfl
 have hk : Try.prog.keyLits (Try.prog.types.size + 1) 139 (K3 x).cells.toList = some [.int .u8 ((x.1 : Nat) : Int), .int .u8 ((x.2.1 : Nat) : Int), .int .u8 ((x.2.2 : Nat) : Int)] := by
  rw [e1]
  exact keyL3 _ _ _ _ h1 h2 h3
 exact ⟨_, by unfold keyOf; rw [Try.underlying139]; simp only [keyT3, hf, Bool.and_self, if_true, hk]; rfl⟩
def PlV (F : Nat × Nat × Nat → Option Addr × Nat) (bs : List Nat) (u : Nat) (x : Nat × Nat × Nat) : Value := .slice (F x).1 (posL bs x u).length (F x).2
def PlM (F : Nat × Nat × Nat → Option Addr × Nat) (bs : List Nat) (u : Nat) (x : Nat × Nat × Nat) : Option Value := if posL bs x u = [] then none else some (PlV F bs u x)
structure IsP (B : Nat) (w : World) (gm : Nat) (bs : List Nat) (u : Nat) (F : Nat × Nat × Nat → Option Addr × Nat) : Prop where
 hgm : B ≤ gm
 map : MpF Try.prog 139 K3 w gm (PlM F bs u)
 own : ∀ x, Own w 3 1 (F x).1 (posL bs x u).length (F x).2 (NI (posL bs x u))
 up : ∀ x, ∀ z ∈ ob (F x).1, B ≤ z
 nil : ∀ x, posL bs x u = [] → F x = (none, 0)
 apart : ∀ x y, x ≠ y → ∀ z ∈ ob (F x).1, z ∉ ob (F y).1
theorem IsP.getD {B : Nat} {w : World} {gm u : Nat} {bs : List Nat} {F : Nat × Nat × Nat → Option Addr × Nat} (h : IsP B w gm bs u F) (x : Nat × Nat × Nat) : (PlM F bs u x).getD (.slice none 0 0) = .slice (F x).1 (posL bs x u).length (F x).2 := by
 unfold PlM
 split
 ·
  rename_i h1
  rw [h.nil x h1, h1]
  rfl
 ·
  rfl
theorem IsP.frm {B : Nat} {w w' : World} {gm u : Nat} {bs : List Nat} {F : Nat × Nat × Nat → Option Addr × Nat} {S : List Nat} (h : IsP B w gm bs u F) (f : Frm S w w') (h1 : gm ∉ S) (h2 : ∀ x, ∀ z ∈ ob (F x).1, z ∉ S) : IsP B w' gm bs u F :=
 ⟨h.hgm, h.map.frm f h1, fun x => (h.own x).frm f (h2 x), h.up, h.nil, h.apart⟩
theorem IsP.blk {B : Nat} {w : World} {gm u b : Nat} {bs : List Nat} {F : Nat × Nat × Nat → Option Addr × Nat} {t : TypeId} {cs : Array Value} (h : IsP B w gm bs u F) (hb : Blk w b t cs) (ht : 3 ≠ t) : gm ∉ [b] ∧ ∀ x, ∀ z ∈ ob (F x).1, z ∉ [b] := by
 refine ⟨by simpa using h.map.ne_blk hb, fun x z hz hx => ?_⟩
 rw [List.mem_singleton] at hx
 subst hx
 exact (h.own x).ne_blk hb ht hz
theorem IsP.same {B : Nat} {w : World} {gm u : Nat} {bs : List Nat} {F : Nat × Nat × Nat → Option Addr × Nat} (h : IsP B w gm bs u F) (hn : bs.length < u + 3) : IsP B w gm bs (u + 1) F := by
 have e (x : Nat × Nat × Nat) : posL bs x (u + 1) = posL bs x u := by rw [posL, if_neg (by omega)]
 have e2 : PlM F bs (u + 1) = PlM F bs u := by
  funext x
  unfold PlM PlV
  rw [e x]
 exact ⟨h.hgm, by rw [e2]; exact h.map, fun x => by rw [e x]; exact h.own x, h.up, fun x hx => h.nil x (by rw [← e x]; exact hx), h.apart⟩
theorem IsP.row {B : Nat} {w : World} {gm u n c : Nat} {bs : List Nat} {F : Nat × Nat × Nat → Option Addr × Nat} {A : Option Addr} {t : TypeId} {xs : List Value} (h : IsP B w gm bs u F) (ho : Own w t 1 A n c xs) : gm ∉ ob A := by
 rcases ho.cases with ⟨rfl, _⟩ | ⟨g, cur, rfl, hb, _⟩
 ·
  simp [ob]
 ·
  simpa [ob] using h.map.ne_blk hb
theorem IsP.put {B gm p c6 : Nat} {w4 w5 w6 w7 : World} {bs : List Nat} {G : Nat × Nat × Nat → Option Addr × Nat} {A6 : Option Addr} {v0 : Value} (h : IsP B w4 gm bs p G) (hp : p + 3 ≤ bs.length) (hB : B ≤ w4.heap.size) (hf5 : Frm [gm] w4 w5) (hs5 : w5.heap.size = w4.heap.size)
  (ho6 : Own w6 3 1 A6 ((posL bs (tri bs p) p).length + 1) c6 (NI (posL bs (tri bs p) p) ++ NI [p])) (hf6 : Frm (ob (G (tri bs p)).1) w5 w6) (hob6 : ob A6 = ob (G (tri bs p)).1 ∨ ob A6 = [w5.heap.size])
  (hM6 : MpF Try.prog 139 K3 w6 gm (fun y => if y = tri bs p then some v0 else PlM G bs p y))
  (hM7 : MpF Try.prog 139 K3 w7 gm (fun y => if y = tri bs p then some (.slice A6 ((posL bs (tri bs p) p).length + 1) c6) else if y = tri bs p then some v0 else PlM G bs p y)) (hf7 : Frm [gm] w6 w7) :
  IsP B w7 gm bs (p + 1) (fun y => if y = tri bs p then (A6, c6) else G y) := by
 have e (y : Nat × Nat × Nat) : posL bs y (p + 1) = if y = tri bs p then posL bs (tri bs p) p ++ [p] else posL bs y p := by
  rw [posL]
  by_cases hy : y = tri bs p
  ·
   rw [if_pos ⟨hp, hy.symm⟩, if_pos hy, hy]
  ·
   rw [if_neg (fun hh => hy hh.2.symm), if_neg hy]
 have rowAt {n c : Nat} {A : Option Addr} {xs : List Value} (ho : Own w6 3 1 A n c xs) : gm ∉ ob A := by
  rcases ho.cases with ⟨rfl, _⟩ | ⟨g, cur, rfl, hb, _⟩
  ·
   simp [ob]
  ·
   simpa [ob] using hM6.ne_blk hb
 have own6 (y : Nat × Nat × Nat) (hy : y ≠ tri bs p) : Own w6 3 1 (G y).1 (posL bs y p).length (G y).2 (NI (posL bs y p)) :=
  ((h.own y).frm hf5 (fun z hz hx => h.row (h.own y) (by rw [List.mem_singleton] at hx; rw [← hx]; exact hz))).frm hf6 (h.apart y _ hy)
 have up6 : ∀ z ∈ ob A6, B ≤ z := up_app (h.up _) hob6 (by omega)
 refine ⟨h.hgm, ?_, fun y => ?_, fun y => ?_, fun y hy => ?_, fun x y hxy z hz => ?_⟩
 ·
  have e2 : PlM (fun y => if y = tri bs p then (A6, c6) else G y) bs (p + 1) = (fun y => if y = tri bs p then some (.slice A6 ((posL bs (tri bs p) p).length + 1) c6) else if y = tri bs p then some v0 else PlM G bs p y) := by
   funext y
   unfold PlM PlV
   rw [e y]
   by_cases hy : y = tri bs p
   ·
    simp only [if_pos hy]
    rw [if_neg (by simp), List.length_append]
    rfl
   ·
    simp only [if_neg hy]
  rw [e2]
  exact hM7
 ·
  rw [e y]
  by_cases hy : y = tri bs p
  ·
   simp only [if_pos hy, List.length_append, List.length_cons, List.length_nil, NI_append]
   exact ho6.frm hf7 (fun z hz hx => rowAt ho6 (by rw [List.mem_singleton] at hx; rw [← hx]; exact hz))
  ·
   simp only [if_neg hy]
   exact (own6 y hy).frm hf7 (fun z hz hx => rowAt (own6 y hy) (by rw [List.mem_singleton] at hx; rw [← hx]; exact hz))
 ·
  by_cases hy : y = tri bs p
  ·
   rw [if_pos hy]; exact up6
  ·
   rw [if_neg hy]; exact h.up y
 ·
  rw [e y] at hy
  by_cases hy2 : y = tri bs p
  ·
   rw [if_pos hy2] at hy
   simp at hy
  ·
   rw [if_neg hy2] at hy ⊢
   exact h.nil y hy
 ·
  by_cases h1 : x = tri bs p
  ·
   rw [if_pos h1] at hz
   rw [if_neg (fun h2 => hxy (h1.trans h2.symm))]
   rcases hob6 with h3 | h3
   ·
    dsimp only at hz
    rw [h3] at hz
    exact h.apart _ y (fun h2 => hxy (h1.trans h2)) z hz
   ·
    dsimp only at hz
    rw [h3, List.mem_singleton] at hz
    intro hx
    have := (h.own y).lt z hx
    omega
  ·
   rw [if_neg h1] at hz
   by_cases h2 : y = tri bs p
   ·
    rw [if_pos h2]
    dsimp only
    rcases hob6 with h3 | h3
    ·
     rw [h3]
     exact h.apart x _ h1 z hz
    ·
     rw [h3, List.mem_singleton]
     have := (h.own x).lt z hz
     omega
   ·
    rw [if_neg h2]
    exact h.apart x y hxy z hz
structure IsF (w0 w : World) (gf gm : Nat) (Ab : Option Addr) (cb : Nat) (bs : List Nat) (u : Nat) (F : Nat × Nat × Nat → Option Addr × Nat) : Prop where
 blk : Blk w gf 93 #[.slice Ab bs.length cb, .map (some gm), .int .i64 ((u : Nat) : Int)]
 rd0 : Rd w0 1 Ab bs.length (NB bs)
 below : Below w0.heap.size w0 w
 hgf : w0.heap.size ≤ gf
 pl : IsP w0.heap.size w gm bs u F
theorem IsF.rd {w0 w : World} {gf gm cb u : Nat} {Ab : Option Addr} {bs : List Nat} {F : Nat × Nat × Nat → Option Addr × Nat} (h : IsF w0 w gf gm Ab cb bs u F) : Rd w 1 Ab bs.length (NB bs) := h.rd0.belowW h.below
theorem IsF.frm {w0 w w' : World} {gf gm cb u : Nat} {Ab : Option Addr} {bs : List Nat} {F : Nat × Nat × Nat → Option Addr × Nat} {S : List Nat} (h : IsF w0 w gf gm Ab cb bs u F) (f : Frm S w w') (hS : ∀ x ∈ S, w.heap.size ≤ x) : IsF w0 w' gf gm Ab cb bs u F := by
 have h0 := h.below.size
 refine ⟨h.blk.frm f (fun hx => ?_), h.rd0, f.onto h.below (fun x hx => Nat.le_trans h0 (hS x hx)) h0, h.hgf, h.pl.frm f (fun hx => ?_) (fun x z hz hx => ?_)⟩
 ·
  have := hS _ hx; have := h.blk.lt; omega
 ·
  have := hS _ hx; have := h.pl.map.lt; omega
 ·
  have := hS _ hx; have := (h.pl.own x).lt z hz; omega
theorem IsF.drawn {w0 w w' : World} {gf gm cb u : Nat} {Ab : Option Addr} {bs : List Nat} {F : Nat × Nat × Nat → Option Addr × Nat} (h : IsF w0 w gf gm Ab cb bs u F) (f : Drawn w w') : IsF w0 w' gf gm Ab cb bs u F := h.frm f.frm (by simp)
theorem IsF.frm2 {w0 w w' : World} {gf gm cb u : Nat} {Ab : Option Addr} {bs : List Nat} {F : Nat × Nat × Nat → Option Addr × Nat} {S : List Nat} (h : IsF w0 w gf gm Ab cb bs u F) (f : Frm S w w') (h1 : gf ∉ S) (h2 : gm ∉ S) (h3 : ∀ x, ∀ z ∈ ob (F x).1, z ∉ S) (h4 : ∀ x ∈ S, w0.heap.size ≤ x) : IsF w0 w' gf gm Ab cb bs u F :=
 ⟨h.blk.frm f h1, h.rd0, f.onto h.below h4 h.below.size, h.hgf, h.pl.frm f h2 h3⟩
theorem IsF.set {w0 w w' : World} {gf gm cb u b : Nat} {Ab : Option Addr} {bs : List Nat} {F : Nat × Nat × Nat → Option Addr × Nat} {t : TypeId} {cs : Array Value} (h : IsF w0 w gf gm Ab cb bs u F) (f : Frm [b] w w') (hb : Blk w b t cs) (h1 : 3 ≠ t) (h2 : 93 ≠ t) (hB : w0.heap.size ≤ b) : IsF w0 w' gf gm Ab cb bs u F :=
 ⟨h.blk.frm f (fun hx => h.blk.ne hb h2 (by simpa using hx)), h.rd0, f.onto h.below (by simpa using hB) h.below.size, h.hgf, h.pl.frm f (h.pl.blk hb h1).1 (h.pl.blk hb h1).2⟩
def Kpf (gf : Nat) (F : Nat × Nat × Nat → Option Addr × Nat) (w w' : World) : Prop := w.heap.size ≤ w'.heap.size ∧ ∀ b t cs, b ≠ gf → (∀ y, b ∉ ob (F y).1) → Blk w b t cs → Blk w' b t cs
theorem Kpf.refl (gf : Nat) (F : Nat × Nat × Nat → Option Addr × Nat) (w : World) : Kpf gf F w w := ⟨Nat.le_refl _, fun _ _ _ _ _ h => h⟩
theorem Kpf.step {gf : Nat} {F : Nat × Nat × Nat → Option Addr × Nat} {a b c : World} {S : List Nat} (h : Kpf gf F a b) (f : Frm S b c) (hS : ∀ x ∈ S, x = gf ∨ a.heap.size ≤ x ∨ (∃ y, x ∈ ob (F y).1) ∨ (∀ t cs, ¬ Blk b x t cs)) : Kpf gf F a c :=
 ⟨Nat.le_trans h.1 f.size, fun x t cs h1 h2 h3 => (h.2 x t cs h1 h2 h3).frm f (fun hx => by
  rcases hS x hx with h4 | h4 | ⟨y, h4⟩ | h4
  ·
   exact h1 h4
  ·
   have := h3.lt; omega
  ·
   exact h2 y h4
  ·
   exact h4 t cs (h.2 x t cs h1 h2 h3))⟩
theorem Kpf.mp {gf g : Nat} {F : Nat × Nat × Nat → Option Addr × Nat} {a b c : World} {M : Nat × Nat × Nat → Option Value} (h : Kpf gf F a b) (f : Frm [g] b c) (hm : MpF Try.prog 139 K3 b g M) : Kpf gf F a c := h.step f fun x hx => .inr (.inr (.inr fun t cs h3 => by
 rw [List.mem_singleton] at hx
 subst hx
 exact hm.ne_blk h3 rfl))
theorem Kpf.blk {w0 w w' : World} {gf gm cb u b : Nat} {Ab : Option Addr} {bs : List Nat} {F : Nat × Nat × Nat → Option Addr × Nat} {t : TypeId} {cs : Array Value} (k : Kpf gf F w w') (h : IsF w0 w gf gm Ab cb bs u F) (hb : Blk w b t cs) (h1 : 3 ≠ t) (h2 : 93 ≠ t) : Blk w' b t cs :=
 k.2 b t cs (fun e => h.blk.ne hb h2 e.symm) (fun y => (h.pl.own y).ne_blk hb h1) hb
theorem Kpf.own {w0 w w' : World} {gf gm cb u : Nat} {Ab : Option Addr} {bs : List Nat} {F : Nat × Nat × Nat → Option Addr × Nat} {e size n cap : Nat} {A : Option Addr} {xs : List Value} (k : Kpf gf F w w') (h0 : IsF w0 w gf gm Ab cb bs u F) (h : Own w e size A n cap xs) (h1 : 3 ≠ e) (h2 : 93 ≠ e) : Own w' e size A n cap xs := by
 refine ⟨h.1, ?_⟩
 rcases h.cases with ⟨rfl, rfl, rfl, _⟩ | ⟨g, cur, rfl, hb, hn, hc, hs, ht⟩
 ·
  exact .inl ⟨rfl, rfl⟩
 ·
  exact .inr ⟨g, cap, cur, rfl, Nat.zero_le _, k.blk h0 hb h1 h2, hn, hc, hs, ht⟩
def RowsOf (F G : Nat × Nat × Nat → Option Addr × Nat) (n : Nat) : Prop := ∀ y, ∀ z ∈ ob (G y).1, z ∈ ob (F y).1 ∨ n ≤ z
theorem Below.set {B : Nat} {w0 w w' : World} {g : Nat} (h : Below B w0 w) (f : Frm [g] w w') (hg : B ≤ g) (hB : B ≤ w.heap.size) : Below B w0 w' := f.onto h (by simpa using hg) hB
theorem getD_lt {bs : List Nat} (h : ∀ b ∈ bs, b < 256) (i : Nat) : bs.getD i 0 < 256 := by
 rw [List.getD_eq_getElem?_getD]
 cases hi : bs[i]? with
 | none => simp
 | some x => exact h x (List.mem_of_getElem? hi)
theorem three_cells {w : World} {ad : Addr} {bs : List Nat} {p : Nat} (h : Rd w 1 (some ad) bs.length (NB bs)) (hp : p + 3 ≤ bs.length) : ∀ (j : Nat) (v : Value), (NB [bs.getD p 0, bs.getD (p + 1) 0, bs.getD (p + 2) 0])[j]? = some v → w.cell? ((ad.add (p * 1)).add j) = some v := by
 obtain ⟨ad', e, _, hc⟩ := h.2 (by omega)
 cases e
 intro j v hv
 have hj : j < 3 := (List.getElem?_eq_some_iff.1 hv).1
 have e1 : (ad.add (p * 1)).add j = ad.add (p + j) := by rw [Nat.mul_one]; exact add_add ad p j
 rw [e1]
 refine hc (p + j) v ?_
 rw [NB_get bs (p + j) (by omega), ← hv]
 rcases (by omega : j = 0 ∨ j = 1 ∨ j = 2) with rfl | rfl | rfl <;> rfl
theorem lgM_stop {bs : List Nat} {f a m : Nat} (h : ¬ (a < bs.length ∧ bs.getD f 0 = bs.getD a 0)) : lgM bs f a m = 0 := by
 cases m with
 | zero => rfl
 | succ m => rw [lgM, if_neg h]
theorem lgM_go {bs : List Nat} {f a m : Nat} (h1 : a < bs.length) (h2 : bs.getD f 0 = bs.getD a 0) (hm : 0 < m) : lgM bs f a m = lgM bs (f + 1) (a + 1) (m - 1) + 1 := by
 obtain ⟨k, rfl⟩ : ∃ k, m = k + 1 := ⟨m - 1, by omega⟩
 rw [lgM, if_pos ⟨h1, h2⟩]
 rfl
set_option maxRecDepth 100000 in
theorem long_spec (w0 w : World) (gf gm cb u f a : Nat) (Ab : Option Addr) (bs : List Nat) (F : Nat × Nat × Nat → Option Addr × Nat) (hf : f < a) (ha : a ≤ bs.length) (hl : bs.length ≤ 1000000) (hF : IsF w0 w gf gm Ab cb bs u F) :
  Calls Try.prog 81 #[.pointer (some ⟨gf, 0, none⟩), .int .i64 ((f : Nat) : Int), .int .i64 ((a : Nat) : Int)] w fun e w' => e = .returned (.int .i64 ((longM bs f a : Nat) : Int)) ∧ Drawn w w' := by
 have hb := hF.blk
 have hrd := hF.rd
 obtain ⟨ad, hA, hadlt, hadc⟩ := hrd.2 (by omega)
 subst hA
 refine VC.calls (nt := 45) (res := #[.tmp 6]) Try.func81 rfl Try.ntmps81 Try.results81 rfl ?_
 refine jS (jR ?_)
 refine Ops.r (v := .int .i64 ((0 : Nat) : Int)) (Run.asg rfl) rfl ?_
 refine jO (jN (jv3 0 1 2 ?_))
 refine jS (jR ?_)
 refine Ops.r (v := .int .i64 ((0 : Nat) : Int)) (Run.asg rfl) rfl ?_
 refine jO (jN (jS (jB ?_)))
 refine VC.loop (σ := Nat) (fun s => [(0, .pointer (some ⟨gf, 0, none⟩)), (1, .int .i64 ((f : Nat) : Int)), (2, .int .i64 ((a : Nat) : Int)), (7, .int .i64 ((s : Nat) : Int))]) (fun s wr => s ≤ 258 ∧ a + s ≤ bs.length ∧ longM bs f a = s + lgM bs (f + s) (a + s) (258 - s) ∧ Drawn w wr) (fun s => 258 - s) 0 (js4 rfl rfl rfl rfl) ⟨by omega, by omega, by simp [longM], Drawn.refl w⟩ ?_
 rintro n wr ⟨hn, hna, hlg, hd⟩
 have hbr := hb.drawn hd
 have hcell : ∀ j, j < bs.length → wr.cell? (ad.add j) = some (.int .u8 ((bs.getD j 0 : Nat) : Int)) := fun j hj => by
  obtain ⟨m, rfl⟩ := hd
  exact hadc j _ (NB_get bs j hj)
 refine jS (jS ?_)
 refine VC.splitR [(0, .pointer (some ⟨gf, 0, none⟩)), (1, .int .i64 ((f : Nat) : Int)), (2, .int .i64 ((a : Nat) : Int)), (7, .int .i64 ((n : Nat) : Int))] (Drawn w) 41 (.bool (decide (a + n < bs.length ∧ n < 258 ∧ bs.getD (f + n) 0 = bs.getD (a + n) 0))) ?_ ?_
 ·
  refine VC.still jK jK ?_
  refine SOps.r (Run.mv rfl) rfl ?_
  refine SOps.r (Run.mv rfl) rfl ?_
  refine SOps.r (Run.bin rfl rfl (Bin.add_i64 _ _ (by omega))) rfl ?_
  refine SOps.r (Run.mv rfl) rfl ?_
  refine SOps.r (Run.nilck rfl) rfl ?_
  refine SOps.r (Run.fieldAddr rfl Try.underlying93 rfl Try.sizeOf22 (by decide)) rfl ?_
  refine SOps.r (Run.load rfl Try.isAgg22 (hbr.cell 0)) rfl ?_
  refine SOps.r (Run.lenS rfl Try.underlying22) rfl ?_
  refine SOps.r (Run.bin rfl rfl (Bin.lssN _ _)) rfl ?_
  by_cases hs16 : a + n < bs.length
  ·
   refine SOps.r (Run.mv rfl) rfl ?_
   refine SOps.rg rfl au (Run.mv rfl) rfl ?_
   refine SOps.rg rfl au (Run.bin rfl rfl (Bin.lssN _ 258)) rfl ?_
   by_cases hs19 : n < 258
   ·
    refine SOps.r (Run.pickT rfl rfl au) rfl ?_
    refine SOps.r (Run.mv rfl) rfl ?_
    refine SOps.rg rfl au (Run.mv rfl) rfl ?_
    refine SOps.rg rfl au (Run.nilck rfl) rfl ?_
    refine SOps.rg rfl au (Run.fieldAddr rfl Try.underlying93 rfl Try.sizeOf22 (by decide)) rfl ?_
    refine SOps.rg rfl au (Run.load rfl Try.isAgg22 (hbr.cell 0)) rfl ?_
    refine SOps.rg rfl au (Run.mv rfl) rfl ?_
    refine SOps.rg rfl au (Run.mv rfl) rfl ?_
    refine SOps.rg rfl au (Run.bin rfl rfl (Bin.add_i64 _ _ (by omega))) rfl ?_
    refine SOps.rg rfl au (Run.index1 _ rfl rfl Try.underlying22 Try.sizeOf5 (by omega)) rfl ?_
    refine SOps.rg rfl au (Run.load rfl Try.isAgg5 (hcell _ (by omega))) rfl ?_
    refine SOps.rg rfl au (Run.mv rfl) rfl ?_
    refine SOps.rg rfl au (Run.nilck rfl) rfl ?_
    refine SOps.rg rfl au (Run.fieldAddr rfl Try.underlying93 rfl Try.sizeOf22 (by decide)) rfl ?_
    refine SOps.rg rfl au (Run.load rfl Try.isAgg22 (hbr.cell 0)) rfl ?_
    refine SOps.rg rfl au (Run.mv rfl) rfl ?_
    refine SOps.rg rfl au (Run.mv rfl) rfl ?_
    refine SOps.rg rfl au (Run.bin rfl rfl (Bin.add_i64 _ _ (by omega))) rfl ?_
    refine SOps.rg rfl au (Run.index1 _ rfl rfl Try.underlying22 Try.sizeOf5 (by omega)) rfl ?_
    refine SOps.rg rfl au (Run.load rfl Try.isAgg5 (hcell _ (by omega))) rfl ?_
    refine SOps.rg rfl au (Run.bin rfl rfl (Bin.eqlN _ _)) rfl ?_
    by_cases hs40 : bs.getD (f + n) 0 = bs.getD (a + n) 0
    ·
     refine SOps.r (Run.pickT rfl rfl au) rfl ?_
     refine SOps.nil ?_
     refine jN ⟨(js5 (jC (by simp [*])) rfl rfl rfl rfl), (hd.trans (Drawn.drew _))⟩
    ·
     refine SOps.r (Run.pickT rfl rfl au) rfl ?_
     refine SOps.nil ?_
     refine jN ⟨(js5 (jC (by simp [*])) rfl rfl rfl rfl), (hd.trans (Drawn.drew _))⟩
   ·
    refine SOps.r (Run.pickT rfl rfl au) rfl ?_
    refine SOps.r (Run.mv rfl) rfl ?_
    refine SOps.sk rfl au rfl ?_
    refine SOps.sk rfl au rfl ?_
    refine SOps.sk rfl au rfl ?_
    refine SOps.sk rfl au rfl ?_
    refine SOps.sk rfl au rfl ?_
    refine SOps.sk rfl au rfl ?_
    refine SOps.sk rfl au rfl ?_
    refine SOps.sk rfl au rfl ?_
    refine SOps.sk rfl au rfl ?_
    refine SOps.sk rfl au rfl ?_
    refine SOps.sk rfl au rfl ?_
    refine SOps.sk rfl au rfl ?_
    refine SOps.sk rfl au rfl ?_
    refine SOps.sk rfl au rfl ?_
    refine SOps.sk rfl au rfl ?_
    refine SOps.sk rfl au rfl ?_
    refine SOps.sk rfl au rfl ?_
    refine SOps.sk rfl au rfl ?_
    refine SOps.sk rfl au rfl ?_
    refine SOps.r (Run.pickF rfl rfl au) rfl ?_
    refine SOps.nil ?_
    refine jN ⟨(js5 (jC (by simp [*])) rfl rfl rfl rfl), (hd.trans (Drawn.drew _))⟩
  ·
   refine SOps.r (Run.mv rfl) rfl ?_
   refine SOps.sk rfl au rfl ?_
   refine SOps.sk rfl au rfl ?_
   refine SOps.r (Run.pickF rfl rfl au) rfl ?_
   refine SOps.r (Run.mv rfl) rfl ?_
   refine SOps.sk rfl au rfl ?_
   refine SOps.sk rfl au rfl ?_
   refine SOps.sk rfl au rfl ?_
   refine SOps.sk rfl au rfl ?_
   refine SOps.sk rfl au rfl ?_
   refine SOps.sk rfl au rfl ?_
   refine SOps.sk rfl au rfl ?_
   refine SOps.sk rfl au rfl ?_
   refine SOps.sk rfl au rfl ?_
   refine SOps.sk rfl au rfl ?_
   refine SOps.sk rfl au rfl ?_
   refine SOps.sk rfl au rfl ?_
   refine SOps.sk rfl au rfl ?_
   refine SOps.sk rfl au rfl ?_
   refine SOps.sk rfl au rfl ?_
   refine SOps.sk rfl au rfl ?_
   refine SOps.sk rfl au rfl ?_
   refine SOps.sk rfl au rfl ?_
   refine SOps.sk rfl au rfl ?_
   refine SOps.r (Run.pickF rfl rfl au) rfl ?_
   refine SOps.nil ?_
   refine jN ⟨(js5 (jC (by simp [*])) rfl rfl rfl rfl), (hd.trans (Drawn.drew _))⟩
 ·
  intro Γ wr2 hΓ hd2
  refine jN (VC.sub _ hΓ ?_)
  refine VC.condD rfl (fun hc1 => ?_) (fun hc1 => ?_)
  ·
   refine jQ (jN (jv4 0 1 2 7 ?_))
   refine jB (jR (jM ?_))
   refine Ops.r (Run.bin rfl rfl (Bin.add_i64 _ 1 (by omega))) rfl ?_
   refine jA ?_
   refine jO ?_
   refine blockQ_n (jN ⟨n + 1, (js4 rfl rfl rfl rfl), ?_, ?_⟩)
   ·
    obtain ⟨h1, h2, h3⟩ := hc1
    refine ⟨by omega, by omega, ?_, hd2⟩
    rw [hlg, lgM_go h1 h3 (by omega), show f + (n + 1) = f + n + 1 by omega, show a + (n + 1) = a + n + 1 by omega, show 258 - (n + 1) = 258 - n - 1 by omega]
    omega
   ·
    first | omega | (dsimp only; omega)
  ·
   refine jX ?_
   refine thenQ_x (thenQ_x (blockQ_x ?_))
   refine jN (jv1 7 ?_)
   refine jS (jR (jM ?_))
   refine jA ?_
   refine jO (jN (jv1 6 ?_))
   refine jT ?_
   refine end1 rfl ?_
   refine ⟨?_, hd2⟩
   rw [hlg]
   by_cases h2 : n < 258
   ·
    rw [lgM_stop (fun h => hc1 ⟨h.1, h2, h.2⟩)]
    rfl
   ·
    rw [show 258 - n = 0 by omega]
    rfl
set_option maxRecDepth 100000 in
theorem keep_spec (w0 w : World) (gf gm cb u a : Nat) (Ab : Option Addr) (bs : List Nat) (F : Nat × Nat × Nat → Option Addr × Nat) (hu : u ≤ a) (hl : bs.length ≤ 1000000) (hcb : bs.length ≤ cb) (ha : a ≤ bs.length) (hB : ∀ b ∈ bs, b < 256) (hF : IsF w0 w gf gm Ab cb bs u F) :
  Calls Try.prog 79 #[.pointer (some ⟨gf, 0, none⟩), .int .i64 ((a : Nat) : Int)] w fun e w' => e = .returned (.tuple #[]) ∧ Kpf gf F w w' ∧ ∃ F', RowsOf F F' w.heap.size ∧ IsF w0 w' gf gm Ab cb bs a F' := by
 refine VC.calls (nt := 59) (res := #[]) Try.func79 rfl Try.ntmps79 Try.results79 rfl ?_
 refine jB ?_
 refine VC.loop (σ := Nat × (Nat × Nat × Nat → Option Addr × Nat)) (fun s => [(0, .pointer (some ⟨gf, 0, none⟩)), (1, .int .i64 ((a : Nat) : Int))]) (fun s wr => s.1 ≤ a ∧ IsF w0 wr gf gm Ab cb bs s.1 s.2 ∧ Kpf gf F w wr ∧ RowsOf F s.2 w.heap.size) (fun s => a - s.1) (u, F) (js2 rfl rfl) ⟨hu, hF, Kpf.refl gf F w, fun _ _ h => .inl h⟩ ?_
 rintro ⟨p, G⟩ wr ⟨hp, hI, hkp, hro⟩
 dsimp only at hp hI
 have hb := hI.blk
 have hpl := posL_len bs (tri bs p) p
 refine jS (jS (jR (jM ?_)))
 refine Ops.r (Run.nilck rfl) rfl ?_
 refine Ops.r (Run.fieldAddr rfl Try.underlying93 rfl Try.sizeOf3 (by decide)) rfl ?_
 refine Ops.r (Run.load rfl Try.isAgg3 (hb.cell 2)) rfl ?_
 refine jM ?_
 refine Ops.r (Run.bin rfl rfl (Bin.lssN _ _)) rfl ?_
 refine jO (jN (jv3 0 1 10 ?_))
 refine VC.condD rfl (fun hc1 => ?_) (fun hc1 => ?_)
 ·
  refine jQ (jN (jv2 0 1 ?_))
  refine jS (jB (jS ?_))
  refine VC.still jK jK ?_
  refine SOps.r (Run.mv rfl) rfl ?_
  refine SOps.r (Run.nilck rfl) rfl ?_
  refine SOps.r (Run.fieldAddr rfl Try.underlying93 rfl Try.sizeOf3 (by decide)) rfl ?_
  refine SOps.r (Run.load rfl Try.isAgg3 (hb.cell 2)) rfl ?_
  refine SOps.r (Run.bin rfl rfl (Bin.add_i64 _ 3 (by omega))) rfl ?_
  refine SOps.r (Run.mv rfl) rfl ?_
  refine SOps.r (Run.nilck rfl) rfl ?_
  refine SOps.r (Run.fieldAddr rfl Try.underlying93 rfl Try.sizeOf22 (by decide)) rfl ?_
  refine SOps.r (Run.load rfl Try.isAgg22 (hb.cell 0)) rfl ?_
  refine SOps.r (Run.lenS rfl Try.underlying22) rfl ?_
  refine SOps.r (Run.bin rfl rfl (Bin.leqN _ _)) rfl ?_
  refine SOps.nil ?_
  refine jN (jv3 0 1 28 ?_)
  refine VC.meet (σ := Nat × Nat × Nat → Option Addr × Nat) (fun s => [(0, .pointer (some ⟨gf, 0, none⟩)), (1, .int .i64 ((a : Nat) : Int))]) (fun s wr => Blk wr gf 93 #[.slice Ab bs.length cb, .map (some gm), .int .i64 ((p : Nat) : Int)] ∧ Below w0.heap.size w0 wr ∧ IsP w0.heap.size wr gm bs (p + 1) s ∧ Kpf gf F w wr ∧ RowsOf F s w.heap.size) ?_ ?_
  ·
   refine VC.condD rfl (fun hc2 => ?_) (fun hc2 => ?_)
   ·
    refine jS ?_
    refine VC.heldL 17 (fun v => IsF w0 v gf gm Ab cb bs p G) jK ?_
    have hI3 := (hI.drawn (Drawn.drew _)).drawn (Drawn.drew _)
    obtain ⟨ad, hA, hadlt, hadc⟩ := hI3.rd.2 (by omega)
    subst hA
    have hS : (fun v => IsF w0 v gf gm (some ad) cb bs p G) wr.drew.drew := hI3
    have hcut : cutA (some ad) cb p 1 = some (ad.add (p * 1)) := by unfold cutA; rw [if_neg (by omega)]; rfl
    refine jH 0 rfl hS (fun w0 hw0 => Run.mv rfl) ?_
    refine jH 1 rfl hS (fun w0 hw0 => Run.nilck rfl) ?_
    refine jH 2 rfl hS (fun w0 hw0 => Run.fieldAddr rfl Try.underlying93 rfl Try.sizeOf22 (by decide)) ?_
    refine jH 3 rfl hS (fun w0 hw0 => Run.load rfl Try.isAgg22 (hw0.blk.cell 0)) ?_
    refine jH 4 rfl hS (fun w0 hw0 => Run.mv rfl) ?_
    refine jH 5 rfl hS (fun w0 hw0 => Run.nilck rfl) ?_
    refine jH 6 rfl hS (fun w0 hw0 => Run.fieldAddr rfl Try.underlying93 rfl Try.sizeOf3 (by decide)) ?_
    refine jH 7 rfl hS (fun w0 hw0 => Run.load rfl Try.isAgg3 (hw0.blk.cell 2)) ?_
    refine jH 8 rfl hS (fun w0 hw0 => Run.mv rfl) ?_
    refine jH 9 rfl hS (fun w0 hw0 => Run.nilck rfl) ?_
    refine jH 10 rfl hS (fun w0 hw0 => Run.fieldAddr rfl Try.underlying93 rfl Try.sizeOf3 (by decide)) ?_
    refine jH 11 rfl hS (fun w0 hw0 => Run.load rfl Try.isAgg3 (hw0.blk.cell 2)) ?_
    refine jH 12 rfl hS (fun w0 hw0 => Run.bin rfl rfl (Bin.add_i64 _ 3 (by omega))) ?_
    refine jH 13 rfl hS (fun w0 hw0 => Run.sliceS _ _ rfl Try.underlying22 Try.sizeOf5 (evB.some_ rfl) (evB.some_ rfl) (by omega) (by omega)) ?_
    rw [hcut]
    refine jH 14 rfl hS (fun w0 hw0 => Run.toArr rfl Try.underlying139 (by omega)) ?_
    refine jH 15 rfl hS (fun w0 hw0 => Run.loadA (cs := NB [bs.getD p 0, bs.getD (p + 1) 0, bs.getD (p + 2) 0]) rfl Try.isAgg139 Try.sizeOf139 (three_cells hw0.rd (by omega)) rfl) ?_
    refine HOps.m 16 rfl jK (Does.alloc zero139) trivial rfl rfl ?_
    rintro _ w2 ⟨rfl, hF2⟩
    have hI4 := hI3.frm hF2.frm (by simp)
    refine ⟨hI4, ?_⟩
    refine HOps.stL rfl jK (Acts.storeA rfl rfl Try.sizeOf139 hF2.blk rfl (NB_one _)) trivial rfl ?_
    rintro w3 ⟨hk3, hf3, hs3⟩
    have hI5 : IsF w0 w3 gf gm (some ad) cb bs p G := hI4.set hf3 hF2.blk (by decide) (by decide) (by have := hI3.below.size; omega)
    generalize hgk : (World.drew (World.drew wr)).heap.size = gk at hk3 hf3 ⊢
    refine HOps.done jK ?_
    refine jN (jv3 0 1 4 ?_)
    refine VC.heldL 14 (fun v => Blk v gf 93 #[.slice (some ad) bs.length cb, .map (some gm), .int .i64 ((p : Nat) : Int)] ∧ Blk v gk 139 #[.int .u8 ((bs.getD p 0 : Nat) : Int), .int .u8 ((bs.getD (p + 1) 0 : Nat) : Int), .int .u8 ((bs.getD (p + 2) 0 : Nat) : Int)]) jK ?_
    have hI6 := hI5.drawn (Drawn.drew _)
    have hk6 := hk3.drawn (Drawn.drew _)
    have hS : (fun v => Blk v gf 93 #[.slice (some ad) bs.length cb, .map (some gm), .int .i64 ((p : Nat) : Int)] ∧ Blk v gk 139 #[.int .u8 ((bs.getD p 0 : Nat) : Int), .int .u8 ((bs.getD (p + 1) 0 : Nat) : Int), .int .u8 ((bs.getD (p + 2) 0 : Nat) : Int)]) w3.drew := ⟨hI6.blk, hk6⟩
    refine jH 0 rfl hS (fun w0 hw0 => Run.mv rfl) ?_
    refine jH 1 rfl hS (fun w0 hw0 => Run.nilck rfl) ?_
    refine jH 2 rfl hS (fun w0 hw0 => Run.fieldAddr rfl Try.underlying93 rfl Try.sizeOf91 (by decide)) ?_
    refine jH 3 rfl hS (fun w0 hw0 => Run.load rfl Try.isAgg91 (hw0.1.cell 1)) ?_
    refine jH 4 rfl hS (fun w0 hw0 => Run.loadB rfl Try.isAgg139 Try.sizeOf139 (hw0.2) rfl) ?_
    refine HOps.r1 5 rfl jK hS (Run.mv rfl) trivial rfl rfl ?_
    refine HOps.r1 6 rfl jK hS (Run.nilck rfl) trivial rfl rfl ?_
    refine HOps.r1 7 rfl jK hS (Run.fieldAddr rfl Try.underlying93 rfl Try.sizeOf3 (by decide)) trivial rfl rfl ?_
    refine HOps.r1 8 rfl jK hS (Run.load rfl Try.isAgg3 (hS.1.cell 2)) trivial rfl rfl ?_
    refine HOps.m 9 rfl jK (Does.buildS1 rfl Try.underlying38 Try.sizeOf3 zero3 (by decide) (by decide) rfl rfl) trivial rfl rfl ?_
    rintro _ w4 ⟨rfl, hF4⟩
    have hI7 := hI6.frm hF4.frm (by simp)
    have hk7 := hk6.frm hF4.frm (by simp)
    refine ⟨⟨hI7.blk, hk7⟩, ?_⟩
    obtain ⟨kl, hkey⟩ := key3 (tri bs p) (getD_lt hB p) (getD_lt hB (p + 1)) (getD_lt hB (p + 2))
    have hrd7 : Rd w4 1 (some ⟨w3.drew.heap.size, 0, none⟩) 1 (NI [p]) := Rd.of_blk hF4.blk rfl
    refine HOps.m 10 rfl jK (Does.mapEntry (x := tri bs p) rfl rfl hI7.pl.map law3 K3_inj Try.underlying91 zero38 hkey) trivial rfl rfl ?_
    rintro r w5 ⟨n, hr, hE5, hf5, hs5⟩
    rw [hI7.pl.getD] at hr
    subst hr
    have hS := And.intro (hI7.blk.frm hf5 (by simpa using (hI7.pl.map.ne_blk hI7.blk).symm)) (hk7.frm hf5 (by simpa using (hI7.pl.map.ne_blk hk7).symm))
    refine ⟨hS, ?_⟩
    have ho5 := (hI7.pl.own (tri bs p)).frm hf5 (fun z hz hx => hI7.pl.row (hI7.pl.own (tri bs p)) (by rw [List.mem_singleton] at hx; rw [← hx]; exact hz))
    have hrd5 := hrd7.frm hf5 (by simpa [ob] using (hI7.pl.map.ne_blk hF4.blk).symm)
    refine jH 11 rfl hS (fun w0 hw0 => Run.extract rfl rfl) ?_
    refine jH 13 rfl hS (fun w0 hw0 => Run.extract rfl rfl) ?_
    refine HOps.m 12 rfl jK (Does.app rfl rfl Try.underlying38 (info3) rfl (by decide) ho5 hrd5 (NI_one [p]) (by omega) (by omega)) trivial rfl rfl ?_
    rintro _ w6 ⟨A6, c6, rfl, ho6, hf6, hob6⟩
    have hgx := hI7.pl.row (hI7.pl.own (tri bs p))
    have hE6 := hE5.frm hf6 hgx
    have hb6 := hS.1.frm hf6 (ho5.ne_blk hS.1 (by decide))
    refine ⟨⟨hb6, hS.2.frm hf6 (ho5.ne_blk hS.2 (by decide))⟩, ?_⟩
    refine HOps.stL rfl jK (Acts.entryStore rfl rfl rfl hE6 K3_inj) trivial rfl ?_
    rintro w7 ⟨hM7, hf7, hs7⟩
    have hbelow : Below w0.heap.size w0 w7 := by
     have h5 := hf5.onto hI7.below (by simpa using hI7.pl.hgm) hI7.below.size
     have h6 := hf6.onto h5 (hI7.pl.up _) h5.size
     exact hf7.onto h6 (by simpa using hI7.pl.hgm) h6.size
    refine HOps.done jK ?_
    refine jN ⟨(fun y => if y = tri bs p then (A6, c6) else G y), (js2 rfl rfl), ?_⟩
    refine ⟨hb6.frm hf7 (by simpa using (hE6.mp.ne_blk hb6).symm), hbelow, hI7.pl.put hc2 hI7.below.size hf5 hs5 ho6 hf6 hob6 hE6.mp hM7 hf7, ?_, ?_⟩
    ·
     have k3 : Kpf gf F w w3 := (hkp.step ((Drawn.drew wr).frm.trans ((Drawn.drew _).frm.trans hF2.frm (by simp)) (by simp)) (by simp)).step hf3 (fun x hx => .inr (.inl (by rw [List.mem_singleton] at hx; rw [hx, ← hgk]; exact hkp.1)))
     refine (((k3.step ((Drawn.drew w3).frm.trans hF4.frm (by simp)) (by simp)).mp hf5 hI7.pl.map).step hf6 (fun x hx => ?_)).mp hf7 hE6.mp
     rcases hro _ x hx with h | h
     ·
      exact .inr (.inr (.inl ⟨_, h⟩))
     ·
      exact .inr (.inl h)
    ·
     intro y z hz
     by_cases hy : y = tri bs p
     ·
      simp only [if_pos hy] at hz
      rcases hob6 with h | h
      ·
       rw [h] at hz
       rw [hy]
       exact hro _ z hz
      ·
       rw [h, List.mem_singleton] at hz
       have h1 := hkp.1
       have h2 := hF2.size
       have h3 := hF4.size
       have h5 := hf3.size
       have e1 : wr.drew.drew.heap.size = wr.heap.size := rfl
       have e2 : w3.drew.heap.size = w3.heap.size := rfl
       exact .inr (by omega)
     ·
      simp only [if_neg hy] at hz
      exact hro y z hz
   ·
    refine jQ ?_
    refine jN ⟨G, (js2 rfl rfl), ?_⟩
    have hI8 := hI.drawn (Drawn.drew _)
    exact ⟨hI8.blk, hI8.below, hI8.pl.same (by omega), hkp.step (Drawn.drew wr).frm (by simp), hro⟩
  ·
   rintro G2 w9 ⟨hb9, hbel9, hP9, hkp9, hro9⟩ Γ hΓ
   refine blockQ_n (jN (VC.sub _ hΓ ?_))
   refine jR (jM ?_)
   refine Ops.r (Run.nilck rfl) rfl ?_
   refine Ops.r (Run.fieldAddr rfl Try.underlying93 rfl Try.sizeOf3 (by decide)) rfl ?_
   refine Ops.r (Run.load rfl Try.isAgg3 (hb9.cell 2)) rfl ?_
   refine Ops.r (Run.bin rfl rfl (Bin.add_i64 _ 1 (by omega))) rfl ?_
   refine Ops.r (Run.nilck rfl) rfl ?_
   refine Ops.r (Run.fieldAddr rfl Try.underlying93 rfl Try.sizeOf3 (by decide)) rfl ?_
   refine Ops.st (Acts.store rfl rfl Try.sizeOf3 hb9 rfl rfl) ?_
   rintro w10 ⟨hb10, hf10, hs10⟩
   refine jO ?_
   refine jN ⟨(p + 1, G2), (js2 rfl rfl), ?_, ?_⟩
   ·
    refine ⟨by dsimp only; omega, ⟨hb10, hF.rd0, hf10.onto hbel9 (by simpa using hF.hgf) hbel9.size, hF.hgf, hP9.frm hf10 (hP9.blk hb9 (by decide)).1 (hP9.blk hb9 (by decide)).2⟩, hkp9.step hf10 (by simp), hro9⟩
   ·
    first | omega | (dsimp only; omega)
 ·
  refine jX ?_
  refine thenQ_x (thenQ_x (blockQ_x ?_))
  refine end0n ?_
  have hpa : p = a := by omega
  subst hpa
  exact ⟨rfl, hkp, G, hro, hI⟩
end Go.Proofs.Ytnmieihcjjiccaa

namespace Go.Proofs.Ytnmieihcjjiccaa
open Go.RowKit
theorem Run.minI {P : Program} {Γ : Env} {w : World} {dst : Option Tmp} {pos : String} {after : Array Edge} {g : Option (Nat × Bool)} {t : TypeId} {x y : Operand} {k : IntKind} {a b : Int} {ts : Array TypeId} (hx : ev? Γ x = some (.int k a)) (hy : ev? Γ y = some (.int k b)) :
  Run P ⟨dst, .call ⟨.builtin .min, #[x, y], ts⟩, t, pos, after, g⟩ Γ w (.int k (if b < a then b else a)) := fun ρ hρ => by
 simp [execOp, resolve, invoke, builtin, Builtin.min_, Builtin.min2, hρ _ _ hx, hρ _ _ hy]
def marks (ds : List Nat) : List Deferred := ds.map fun d => { target := .collected d, args := #[] }
abbrev DQ := Exit → List Nat → Env → World → Prop
def liftD (m : Nat) (Q : DQ) (e : Exit) (a : Act) (w : World) : Prop := ∃ ds Γ, Sat ⟨m, marks ds, none⟩ Γ a ∧ Q e ds Γ w
def DV (P : Program) (m : Nat) (c : Code) (ds : List Nat) (Γ : Env) (w : World) (Q : DQ) : Prop := ∀ a, Sat ⟨m, marks ds, none⟩ Γ a → ∀ k, c.wpIn (wd none) k P (liftD m Q) a w
def thenD (K : List Nat → Env → World → Prop) (Q : DQ) : DQ
 | .normal, ds, Γ, w => K ds Γ w
 | e, ds, Γ, w => Q e ds Γ w
def blockD (id : Nat) (Q : DQ) : DQ
 | .exit i, ds, Γ, w => if i = id then Q .normal ds Γ w else Q (.exit i) ds Γ w
 | e, ds, Γ, w => Q e ds Γ w
section
variable {P : Program} {m : Nat} {ds : List Nat} {Γ : Env} {w : World} {Q : DQ} {K : List Nat → Env → World → Prop} {i id : Nat}
theorem thenD_n (h : K ds Γ w) : thenD K Q .normal ds Γ w := h
theorem thenD_r (h : Q .ret ds Γ w) : thenD K Q .ret ds Γ w := h
theorem blockD_n (h : Q .normal ds Γ w) : blockD id Q .normal ds Γ w := h
theorem blockD_x (h : Q .normal ds Γ w) : blockD id Q (.exit id) ds Γ w := by simp only [blockD, if_true]; exact h
theorem DV.vc {c : Code} (h : VC P ⟨m, marks ds, none⟩ c Γ w (fun e Γ' w' => Q e ds Γ' w')) : DV P m c ds Γ w Q := fun a hs k =>
 wpIn_mono (h a hs k) fun _ _ _ ⟨Γ', hs', q⟩ => ⟨ds, Γ', hs', q⟩
theorem DV.sub {c : Code} (Γ' : Env) (hs : Sub Γ Γ') (h : DV P m c ds Γ' w Q) : DV P m c ds Γ w Q := fun a ha => h a (ha.sub hs)
theorem DV.seq {x y : Code} (h : DV P m x ds Γ w (thenD (fun ds' Γ' w' => DV P m y ds' Γ' w' Q) Q)) : DV P m (.seq x y) ds Γ w Q := by
 intro a hs k
 refine wpIn_seq (wpIn_mono (h a hs k) ?_)
 intro e a' w' hq
 obtain ⟨ds', Γ', hs', q⟩ := hq
 cases e with
 | normal => exact q a' hs' k
 | exit id => exact ⟨ds', Γ', hs', q⟩
 | goto l => exact ⟨ds', Γ', hs', q⟩
 | ret => exact ⟨ds', Γ', hs', q⟩
 | panic c => exact ⟨ds', Γ', hs', q⟩
 | outgrown => exact ⟨ds', Γ', hs', q⟩
theorem DV.block {c : Code} (h : DV P m c ds Γ w (blockD id Q)) : DV P m (.block id c) ds Γ w Q := by
 intro a hs k
 refine wpIn_block (wpIn_mono (h a hs k) ?_)
 intro e a' w' hq
 obtain ⟨ds', Γ', hs', q⟩ := hq
 cases e with
 | normal => exact ⟨ds', Γ', hs', q⟩
 | exit i =>
  simp only [blockD] at q
  by_cases hi : i = id
  ·
   rw [if_pos hi] at q; simp only [Exit.inBlock, hi, if_true]; exact ⟨ds', Γ', hs', q⟩
  ·
   rw [if_neg hi] at q; simp only [Exit.inBlock, hi, if_false]; exact ⟨ds', Γ', hs', q⟩
 | goto l => exact ⟨ds', Γ', hs', q⟩
 | ret => exact ⟨ds', Γ', hs', q⟩
 | panic c => exact ⟨ds', Γ', hs', q⟩
 | outgrown => exact ⟨ds', Γ', hs', q⟩
theorem DV.condB {c : Operand} {x y : Code} {b : Bool} (hc : ev? Γ c = some (.bool b)) (ht : b = true → DV P m x ds Γ w Q) (hf : b = false → DV P m y ds Γ w Q) : DV P m (.cond c x y) ds Γ w Q := by
 intro a hs k
 have e := hs.fits _ _ hc
 exact wpIn_cond_split e (fun h => ht h a hs k) (fun h => hf h a hs k)
theorem DV.condD {c : Operand} {x y : Code} {p : Prop} [Decidable p] (hc : ev? Γ c = some (.bool (decide p))) (ht : p → DV P m x ds Γ w Q) (hf : ¬ p → DV P m y ds Γ w Q) : DV P m (.cond c x y) ds Γ w Q :=
 DV.condB hc (fun e => ht (of_decide_eq_true e)) (fun e => hf (of_decide_eq_false e))
theorem DV.condT {c : Operand} {x y : Code} {b : Bool} (hc : ev? Γ c = some (.bool b)) (hb : b = true) (h : DV P m x ds Γ w Q) : DV P m (.cond c x y) ds Γ w Q :=
 DV.condB hc (fun _ => h) (fun e => by rw [hb] at e; cases e)
theorem DV.condF {c : Operand} {x y : Code} {b : Bool} (hc : ev? Γ c = some (.bool b)) (hb : b = false) (h : DV P m y ds Γ w Q) : DV P m (.cond c x y) ds Γ w Q :=
 DV.condB hc (fun e => by rw [hb] at e; cases e) (fun _ => h)
theorem DV.skip (h : Q .normal ds Γ w) : DV P m .skip ds Γ w Q := DV.vc (VC.skip h)
theorem DV.loop {σ : Type} {c : Code} (D : σ → List Nat) (env : σ → Env) (inv : σ → World → Prop) (μ : σ → Nat) (s0 : σ) (hD0 : ds = D s0) (hs0 : Sub Γ (env s0)) (h0 : inv s0 w)
  (round : ∀ s w, inv s w → DV P m c (D s) (env s) w (thenD (fun ds' Γ' w' => ∃ s', ds' = D s' ∧ Sub Γ' (env s') ∧ inv s' w' ∧ μ s' < μ s) Q)) : DV P m (.loop c) ds Γ w Q := by
 subst hD0
 intro a hs m0
 refine wpIn_loop_ghost (fun k a w => ∃ s, μ s = k ∧ Sat ⟨m, marks (D s), none⟩ (env s) a ∧ inv s w) (μ s0) ⟨s0, rfl, hs.sub hs0, h0⟩ ?_
 rintro k a w ⟨s, rfl, hsa, hi⟩
 refine wpIn_mono (round s w hi a hsa m0) ?_
 intro e a' w' hq
 obtain ⟨ds', Γ', hs', q⟩ := hq
 cases e with
 | normal =>
  obtain ⟨s', rfl, hsub, hinv, hlt⟩ := q
  exact ⟨μ s', hlt, s', rfl, hs'.sub hsub, hinv⟩
 | exit id => exact ⟨ds', Γ', hs', q⟩
 | goto l => exact ⟨ds', Γ', hs', q⟩
 | ret => exact ⟨ds', Γ', hs', q⟩
 | panic c => exact ⟨ds', Γ', hs', q⟩
 | outgrown => exact ⟨ds', Γ', hs', q⟩
end

abbrev Mark (w : World) (d : Nat) : Prop := w.heap[d]? = some (.deferred (some []))
theorem Mark.frm {w w' : World} {S : List Nat} {d : Nat} (h : Mark w d) (k : Frm S w w') (hd : d ∉ S) : Mark w' d := (k.block d (Array.getElem?_eq_some_iff.1 h).1 hd).trans h
theorem Mark.ne_blk {w : World} {d g : Nat} {t : TypeId} {cs : Array Value} (h : Mark w d) (hb : Blk w g t cs) : d ≠ g := by
 rintro rfl
 unfold Blk at hb
 rw [h] at hb
 cases hb
theorem Mark.ne_own {w : World} {d e size n c : Nat} {A : Option Addr} {xs : List Value} (h : Mark w d) (ho : Own w e size A n c xs) : d ∉ ob A := by
 rcases ho.cases with ⟨rfl, _⟩ | ⟨g, cur, rfl, hb, _⟩
 ·
  simp [ob]
 ·
  simp only [ob, List.mem_singleton]
  exact h.ne_blk hb
theorem Mark.drew {w : World} {d : Nat} (h : Mark w d) : Mark w.drew d := h
theorem Frm.putObj (w : World) (l : Nat) (o : Obj) : Frm [l] w (w.putObj l o) :=
 ⟨rfl, rfl, rfl, by simp [World.putObj], fun k _ hk => World.putObj_heap_other (fun e => hk (by simp [e]))⟩
def endD (P : Program) (res : Array ResultVar) (R : Ending → World → Prop) : DQ
 | .normal, ds, Γ, w | .ret, ds, Γ, w => ds.Nodup ∧ (∀ d ∈ ds, Mark w d) ∧ ∀ w', Frm ds w w' → endQ P res R .ret Γ w'
 | _, _, _, _ => False
section
variable {P : Program} {m : Nat} {ds : List Nat} {Γ : Env} {w : World} {res : Array ResultVar} {R : Ending → World → Prop}
theorem endD_r (h1 : ds.Nodup) (h2 : ∀ d ∈ ds, Mark w d) (h : ∀ w', Frm ds w w' → endQ P res R .ret Γ w') : endD P res R .ret ds Γ w := ⟨h1, h2, h⟩
theorem leaves_marks {fn : Func} {tmps : Array Value} {k : Nat} {F : Fence} : ∀ (ds : List Nat) (w : World), ds.Nodup → (∀ d ∈ ds, Mark w d) →
  (∀ w', Frm ds w w' → ∃ v, (results fn tmps).run P w' = .ok v w' ∧ R (.returned v) w') → LeavesInM F k P fn tmps R (marks ds) .returning w
 | [], w, _, _, h => by
  obtain ⟨v, h1, h2⟩ := h w (Frm.refl _ _)
  exact ⟨v, h1, h2⟩
 | d :: ds, w, hn, hm, h => by
  obtain ⟨hn1, hn2⟩ := List.nodup_cons.1 hn
  refine ⟨by simp, .inl ⟨d, w.putObj d (.deferred none), rfl, run_takeDeferred (hm d (by simp)), ?_⟩⟩
  have hf := Frm.putObj w d (.deferred none)
  refine leaves_marks ds _ hn2 (fun x hx => ?_) (fun w' hw' => h w' ?_)
  ·
   exact (hm x (by simp [hx])).frm hf (by simp; rintro rfl; exact hn1 hx)
  ·
   exact (hf.mono (T := d :: ds) (by simp)).trans hw' (fun x hx => .inl (by simp [hx]))
theorem DV.calls {f : FuncId} {fn : Func} {c : Code} {args : List Value} {nt : Nat} (hf : P.funcs[f]? = some fn) (hb : fn.body = some c) (hn : fn.ntmps = nt) (hr : fn.results = res) (hl0 : Nat.ble args.length nt = true)
  (h : DV P nt c [] (argEnv 0 args) w (endD P res R)) : Calls P f args.toArray w R := by
 have hl : args.length ≤ nt := Nat.le_of_ble_eq_true hl0
 refine callsIn_wide.1 (callsIn_of_wp_marks (F := Fence.wide) (n := 0) hf hb trivial ?_)
 refine wpIn_mono (h _ ?_ 0) ?_
 ·
  refine ⟨?_, rfl, ?_⟩
  ·
   simp only [Array.size_append, List.size_toArray, Array.size_replicate, hn]
   omega
  ·
   intro t v ht
   obtain ⟨_, h2⟩ := argEnv_get args 0 t v ht
   simp only [Nat.sub_zero] at h2
   have hlt : t < args.length := (List.getElem?_eq_some_iff.1 h2).1
   rw [Array.getD_eq_getD_getElem?, Array.getElem?_append_left (by simpa using hlt)]
   simp [h2]
 ·
  rintro e a w' ⟨ds, Γ, hs, hq⟩
  have key : ds.Nodup ∧ (∀ d ∈ ds, Mark w' d) ∧ (∀ w'', Frm ds w' w'' → endQ P res R .ret Γ w'') → LeavesInM Fence.wide 0 P fn a.tmps R a.defers .returning w' := by
   rintro ⟨h1, h2, h3⟩
   rw [hs.defers]
   refine leaves_marks ds w' h1 h2 (fun w'' hw'' => ?_)
   obtain ⟨vs, h4, h5⟩ := resQ_results hs hr (h3 w'' hw'')
   exact ⟨_, h4, h5⟩
  cases e with
  | normal => exact key hq
  | ret => exact key hq
  | _ => exact hq.elim
end

def YieldsTo (P : Program) (l : Nat) (args : Array Value) (W : World) (R : Ending → World → Prop) : Prop := ∀ k, YieldAt (wd none) k P l args W R
theorem YieldsTo.mono {P : Program} {l : Nat} {args : Array Value} {W : World} {R R' : Ending → World → Prop} (h : YieldsTo P l args W R) (hr : ∀ e w', R e w' → R' e w') : YieldsTo P l args W R' := fun k =>
 let ⟨fn, tmps, assign, body, h1, h2⟩ := h k; ⟨fn, tmps, assign, body, h1, h2.mono hr⟩
def Off (Bt : List Nat) (W W' : World) : Prop := ∃ C, Frm C W W' ∧ ∀ b ∈ Bt, b ∉ C
theorem Off.blk {Bt : List Nat} {W W' : World} {g : Nat} {t : TypeId} {cs : Array Value} (h : Off Bt W W') (hb : Blk W g t cs) (hg : g ∈ Bt) : Blk W' g t cs := by
 obtain ⟨C, hf, hC⟩ := h
 exact hb.frm hf (hC g hg)
theorem Off.rd {Bt : List Nat} {W W' : World} {size n : Nat} {A : Option Addr} {xs : List Value} (h : Off Bt W W') (hr : Rd W size A n xs) (hg : 0 < n → ∀ x ∈ ob A, x ∈ Bt) : Rd W' size A n xs := by
 obtain ⟨C, hf, hC⟩ := h
 exact hr.frm hf fun hn x hx => hC x (hg hn x hx)
def Iter {α : Type} (P : Program) (gf : FuncId) (lb : Array Value) (encs : α → Array Value) (B Bt : List Nat) (Kp : World → Prop) (xs : List α) : Prop :=
 ∀ (l : Nat) (J Jx : List α → World → Prop) (W : World),
  (∀ pre W W', J pre W → Frm B W W' → J pre W') → (∀ pre W W', Jx pre W → Frm B W W' → Jx pre W') → Kp W →
  (∀ pre x W1, J pre W1 → (pre ++ [x]) <+: xs → YieldsTo P l (encs x) W1 fun e W' => Off Bt W1 W' ∧ ((e = .returned (.bool true) ∧ J (pre ++ [x]) W') ∨ (e = .returned (.bool false) ∧ Jx (pre ++ [x]) W'))) →
  J [] W → Calls P gf (#[.func (.yield l) #[] #[]] ++ lb) W fun e W' => (∃ v, e = .returned v) ∧ (J xs W' ∨ ∃ pre, Jx pre W')
theorem Ops.yield {P : Program} {n : NF} {Γ : Env} {w : World} {Q : Exit → Env → World → Prop} {ops : Array Oper} {rest : List Oper} {dst : Option Tmp} {T : TypeId} {pos : String} {after : Array Edge} {l : Nat} {c : Operand} {xs : List Operand} {vs : List Value} {ts : Array TypeId} {R : Ending → World → Prop}
  (hro : n.ro = none) (hc : ev? Γ c = some (.func (.yield l) #[] #[])) (hv : evs Γ xs vs) (hy : YieldsTo P l vs.toArray w R) {d : Nat} (hd : dst = some d) (hn : Nat.blt d n.n = true)
  (k : ∀ e w', R e w' → ∃ v, e = .returned v ∧ Ops P n ops rest ((d, v) :: Γ) w' Q) : Ops P n ops (⟨dst, .call ⟨.value c, xs.toArray, ts⟩, T, pos, after, none⟩ :: rest) Γ w Q :=
 Ops.of_wp trivial fun a hs m => by
  rw [hro]
  refine ⟨about_wd, ?_⟩
  obtain ⟨fn, tmps, assign, body, h1, h2⟩ := hy (m - 1)
  have e1 := evs_map hs.fits xs vs hv
  have e2 : a.eval c = .func (.yield l) #[] #[] := hs.fits _ _ hc
  have hrun : (execOp a.eval ⟨dst, .call ⟨.value c, xs.toArray, ts⟩, T, pos, after, none⟩).run P w = .ok (.round l fn tmps assign body) w := by
   simp [execOp, resolve, e2, Deferred.ofValue, invoke, callFunc, e1, h1]
  rw [semAt_run hrun (by simp), Oper.uponIn_round, hd]
  refine ⟨fun h => by simp [wd, Fence.wide] at h, h2.mono ?_⟩
  intro e w' hR
  obtain ⟨v, rfl, hk⟩ := k e w' hR
  have := hk _ (hs.put hn v) m
  rw [hro] at this
  exact this

theorem KeepsOthers.of_frm {S : List Nat} {W W' : World} (h : Frm S W W') (hS : ∀ b ∈ S, ∀ o, W.heap[b]? = some o → o.isCells = true) : KeepsOthers W W' :=
 ⟨h.size, fun k o hk ho => (h.block k (Array.getElem?_eq_some_iff.1 hk).1 (fun hx => by have := hS k hx o hk; rw [ho] at this; cases this)).trans hk⟩
theorem KeepsOthers.frm0 {W W' : World} (h : Frm [] W W') : KeepsOthers W W' := KeepsOthers.of_frm h (by simp)
theorem KeepsOthers.blk {W W' : World} {g : Nat} {t : TypeId} {cs : Array Value} (h : Frm [g] W W') (hb : Blk W g t cs) : KeepsOthers W W' := KeepsOthers.of_frm h (fun b hx o ho => by
 simp at hx; subst hx
 unfold Blk at hb
 rw [hb] at ho
 cases ho; rfl)
theorem KeepsOthers.own {W W' : World} {e size n c : Nat} {A : Option Addr} {xs : List Value} (h : Frm (ob A) W W') (ho : Own W e size A n c xs) : KeepsOthers W W' := by
 rcases ho.cases with ⟨rfl, _⟩ | ⟨g, cur, rfl, hb, _⟩
 ·
  exact KeepsOthers.frm0 h
 ·
  exact KeepsOthers.blk h hb
def Wrote (Bt : List Nat) (W W' : World) : Prop := ∃ C, Frm C W W' ∧ ∀ b ∈ C, b ∉ Bt ∧ ∀ o, W.heap[b]? = some o → o.isCells = true
theorem Wrote.frm0 {Bt : List Nat} {W W' : World} (h : Frm [] W W') : Wrote Bt W W' := ⟨[], h, by simp⟩
theorem Wrote.off {Bt : List Nat} {W W' : World} (h : Wrote Bt W W') : Off Bt W W' := by
 obtain ⟨C, hf, hC⟩ := h
 exact ⟨C, hf, fun b hb hx => (hC b hx).1 hb⟩
theorem Wrote.others {Bt : List Nat} {W W' : World} (h : Wrote Bt W W') : KeepsOthers W W' := by
 obtain ⟨C, hf, hC⟩ := h
 exact KeepsOthers.of_frm hf fun b hb o ho => (hC b hb).2 o ho
theorem Blk.isC {W : World} {g : Nat} {t : TypeId} {cs : Array Value} (hb : Blk W g t cs) : ∀ o, W.heap[g]? = some o → o.isCells = true := fun o ho => by
 unfold Blk at hb
 rw [hb] at ho
 cases ho; rfl
theorem Own.isC {W : World} {e size n c : Nat} {A : Option Addr} {xs : List Value} (ho : Own W e size A n c xs) : ∀ g ∈ ob A, ∀ o, W.heap[g]? = some o → o.isCells = true := by
 rcases ho.cases with ⟨rfl, _⟩ | ⟨g, cur, rfl, hb, _⟩
 ·
  simp [ob]
 ·
  intro x hx
  simp only [ob, List.mem_singleton] at hx
  subst hx
  exact hb.isC
def roundQ {α : Type} (Bt : List Nat) (I : List α → World → Prop) (Ix : Exit → List α → World → Prop) (xs : List α) (W : World) : Exit → Env → World → Prop
 | .normal, _, W' => Wrote Bt W W' ∧ I xs W'
 | .ret, _, W' => Wrote Bt W W' ∧ Ix .ret xs W'
 | .exit id, _, W' => Wrote Bt W W' ∧ Ix (.exit id) xs W'
 | _, _, _ => False
theorem foldl_params : ∀ (l : List (Nat × Value)) (tmps : Array Value) (Γ : Env) (N : Nat), tmps.size = N → (∀ t v, get? Γ t = some v → tmps.getD t undef = v) → (∀ x ∈ l, x.1 < N) →
  (l.foldl (fun t (x : Nat × Value) => t.setIfInBounds x.1 x.2) tmps).size = N ∧ ∀ t v, get? (l.reverse ++ Γ) t = some v → (l.foldl (fun t (x : Nat × Value) => t.setIfInBounds x.1 x.2) tmps).getD t undef = v
 | [], tmps, Γ, N, hN, h, _ => ⟨hN, by simpa using h⟩
 | (p, u) :: r, tmps, Γ, N, hN, h, hl => by
  have hp : p < tmps.size := by rw [hN]; exact hl (p, u) (by simp)
  have h1 := foldl_params r (tmps.setIfInBounds p u) ((p, u) :: Γ) N (by simpa using hN) (fun t v ht => by
   simp only [get?] at ht
   cases hq : Nat.beq p t with
   | true =>
    rw [hq] at ht
    simp only [cond_true, Option.some.injEq] at ht
    subst ht
    rw [← Nat.eq_of_beq_eq_true hq]
    simp [Array.getD_eq_getD_getElem?, hp]
   | false =>
    rw [hq] at ht
    simp only [cond_false] at ht
    have hne : p ≠ t := fun e => by subst e; rw [Nat.beq_refl] at hq; cases hq
    have := h t v ht
    rw [Array.getD_eq_getD_getElem?, Array.getElem?_setIfInBounds_ne hne, ← Array.getD_eq_getD_getElem?]
    exact this) (fun x hx => hl x (by simp [hx]))
  rw [List.foldl_cons]
  have e : ((p, u) :: r).reverse ++ Γ = r.reverse ++ (p, u) :: Γ := by simp
  rw [e]
  exact h1
abbrev NC (w W : World) (B S : List Nat) : Prop := ∀ b ∈ S, b ∈ B ∨ (w.heap.size ≤ b ∧ ∀ o, W.heap[b]? = some o → o.isCells = false)
theorem Blk.nc {w W : World} {B S : List Nat} {g : Nat} {t : TypeId} {cs : Array Value} (hb : Blk W g t cs) (hS : NC w W B S) (hg : g ∉ B) : g ∉ S := fun h => by
 rcases hS g h with h1 | ⟨_, h1⟩
 ·
  exact hg h1
 ·
  have := h1 _ hb
  cases this
theorem Own.nc {w W : World} {B S : List Nat} {e size n c : Nat} {A : Option Addr} {xs : List Value} (ho : Own W e size A n c xs) (hS : NC w W B S) (hg : ∀ x ∈ ob A, x ∉ B) : ∀ x ∈ ob A, x ∉ S := by
 rcases ho.cases with ⟨rfl, _⟩ | ⟨g, cur, rfl, hb, _⟩
 ·
  simp [ob]
 ·
  intro x hx
  have hx2 := hg x hx
  simp only [ob, List.mem_singleton] at hx
  subst hx
  exact hb.nc hS hx2
theorem Frm.nc {w0 w W W' : World} {B S : List Nat} (h : Frm [] w0 W) (k : Frm S W W') (hS : NC w W B S) (hB : ∀ b ∈ B, w0.heap.size ≤ b) (hw : w0.heap.size ≤ w.heap.size) : Frm [] w0 W' := h.own k fun b hb => by
 rcases hS b hb with h1 | ⟨h1, _⟩
 ·
  exact hB b h1
 ·
  omega
theorem DV.range {α : Type} {P : Program} {m : Nat} {ds : List Nat} {Γ : Env} {w : World} {Q : DQ} {g : Operand} {ps : List Tmp} {assign body : Code} {gf : FuncId} {lb : Array Value} {Kp : World → Prop} {xs : List α} {B Bt : List Nat} (encs : α → List Value)
  (hit : Iter P gf lb (fun x => (encs x).toArray) B Bt Kp xs) (hg : ev? Γ g = some (.func (.func gf) #[] lb)) (eg : ∀ args w, (callFunc gf args).run P w = .ok (.enter gf args) w) (hps : ∀ x, (encs x).length = ps.length) (hpm : (ps.all fun p => Nat.blt p m) = true)
  (I : List α → World → Prop) (Ix : Exit → List α → World → Prop) (ΓA : α → Env)
  (hI : ∀ pre W W' S, I pre W → Frm S W W' → NC w W B S → I pre W') (hIx : ∀ e pre W W' S, Ix e pre W → Frm S W W' → NC w W B S → Ix e pre W') (hK : ∀ W, Frm [] w W → Kp W) (hB : ∀ b ∈ B, b ∈ Bt) (hBt : ∀ b ∈ Bt, b < w.heap.size) (h0 : I [] w)
  (hassign : ∀ l x W, VC P ⟨m, [], some l⟩ assign ((ps.zip (encs x)).reverse ++ Γ) W (thenQ (fun Γ' W' => W' = W ∧ Sub Γ' (ΓA x)) (fun _ _ _ => False)))
  (hbody : ∀ l pre x W, I pre W → (pre ++ [x]) <+: xs → w.heap.size + 2 ≤ W.heap.size → Mark W w.heap.size → VC P ⟨m, [], some l⟩ body (ΓA x) W (roundQ Bt I Ix (pre ++ [x]) W))
  (hdone : ∀ W, I xs W → w.heap.size + 2 ≤ W.heap.size → Mark W w.heap.size → Q .normal (w.heap.size :: ds) Γ W)
  (hret : ∀ pre W, Ix .ret pre W → w.heap.size + 2 ≤ W.heap.size → Mark W w.heap.size → Q .ret (w.heap.size :: ds) Γ W)
  (hexit : ∀ id pre W, Ix (.exit id) pre W → w.heap.size + 2 ≤ W.heap.size → Mark W w.heap.size → Q (.exit id) (w.heap.size :: ds) Γ W) : DV P m (.rangeFunc g ps.toArray assign body) ds Γ w Q := by
 intro a hs k
 refine wpIn_rangeFunc ?_
 intro fn hfn
 obtain ⟨rec, hrec⟩ : ∃ rec : LoopState → Option Code → Loop, rec = fun st pe => { state := st, pending := pe, fn, tmps := a.tmps, params := ps.toArray, assign, body, defers := w.heap.size } := ⟨_, rfl⟩
 obtain ⟨W1, hW1⟩ : ∃ W1, (w.alloc (.deferred (some []))).alloc (.loop (rec .ready none)) = W1 := ⟨_, rfl⟩
 have hL1 : W1.heap[w.heap.size + 1]? = some (.loop (rec .ready none)) := by
  rw [← hW1]; have := World.alloc_heap_new (w.alloc (.deferred (some []))) (.loop (rec .ready none)); rwa [World.size_alloc] at this
 have hK1 : Mark W1 w.heap.size := by
  rw [← hW1]; exact (Below.heap_alloc _ _ _ (by simp)).trans (World.alloc_heap_new w _)
 have hF1 : Frm [] w W1 := by rw [← hW1]; exact ((Frm.refl [] w).alloc _).alloc _
 have hI1 : I [] W1 := hI [] w W1 [] h0 hF1 (fun b hb => by cases hb)
 have hsz : ∀ W : World, ∀ r, W.heap[w.heap.size + 1]? = some (.loop r) → w.heap.size + 2 ≤ W.heap.size := fun W r h => by
  have := (Array.getElem?_eq_some_iff.1 h).1; omega
 have hnc : ∀ W r, W.heap[w.heap.size + 1]? = some (.loop r) → NC w W B [w.heap.size + 1] := fun W r h b hb => by
  simp only [List.mem_singleton] at hb
  subst hb
  refine .inr ⟨by omega, fun o ho => by rw [h] at ho; cases ho; rfl⟩
 have hmk : ∀ (W : World) o, Mark W w.heap.size → Mark (W.putObj (w.heap.size + 1) o) w.heap.size := fun W o h => (World.putObj_heap_other (by omega)).trans h
 refine ⟨w.heap.size + 1, [{ target := .collected w.heap.size, args := #[] }], W1, { target := .fn (.func gf) lb, args := #[.func (.yield (w.heap.size + 1)) #[] #[]] }, W1, gf,
  #[.func (.yield (w.heap.size + 1)) #[] #[]] ++ lb, W1, ?_, ?_, fun _ _ => trivial, ?_, fun h => by simp [wd, Fence.wide] at h, ?_⟩
 ·
  rw [← hW1, hrec]; exact run_enterLoop_outer _ _ _ _ _
 ·
  have e1 : a.eval g = .func (.func gf) #[] lb := hs.fits _ _ hg
  simp only [resolve, e1]
  simp [go_sem]
 ·
  simp [invoke, go_sem, eg]
 ·
  let J : List α → World → Prop := fun pre W => I pre W ∧ W.heap[w.heap.size + 1]? = some (.loop (rec .ready none)) ∧ Mark W w.heap.size
  let Jx : List α → World → Prop := fun pre W => ((Ix .ret pre W ∧ W.heap[w.heap.size + 1]? = some (.loop (rec .done (some .ret)))) ∨ ∃ id, Ix (.exit id) pre W ∧ W.heap[w.heap.size + 1]? = some (.loop (rec .done (some (.exit id))))) ∧ Mark W w.heap.size
  have keepL : ∀ {W W' : World} {r}, Frm B W W' → W.heap[w.heap.size + 1]? = some (.loop r) → W'.heap[w.heap.size + 1]? = some (.loop r) := fun hf h => (hf.block _ (Array.getElem?_eq_some_iff.1 h).1 (fun hx => by have := hBt _ (hB _ hx); omega)).trans h
  have keepM : ∀ {W W' : World}, Frm B W W' → Mark W w.heap.size → Mark W' w.heap.size := fun hf h => h.frm hf (fun hx => by have := hBt _ (hB _ hx); omega)
  refine callsIn_wd.2 ((hit (w.heap.size + 1) J Jx W1 ?_ ?_ (hK _ hF1) ?_ ⟨hI1, hL1, hK1⟩).mono ?_)
  ·
   rintro pre W W' ⟨h1, h2, h3⟩ hf
   exact ⟨hI pre W W' B h1 hf (fun b hb => .inl hb), keepL hf h2, keepM hf h3⟩
  ·
   rintro pre W W' ⟨h1, h3⟩ hf
   refine ⟨?_, keepM hf h3⟩
   rcases h1 with ⟨h1, h2⟩ | ⟨id, h1, h2⟩
   ·
    exact .inl ⟨hIx _ pre W W' B h1 hf (fun b hb => .inl hb), keepL hf h2⟩
   ·
    exact .inr ⟨id, hIx _ pre W W' B h1 hf (fun b hb => .inl hb), keepL hf h2⟩
  ·
   rintro pre x W ⟨hi, hl, hk⟩ hpre k'
   have hlt : w.heap.size + 1 < W.heap.size := (Array.getElem?_eq_some_iff.1 hl).1
   have hy := run_yield (P := P) (args := (encs x).toArray) hl (by rw [hrec]; simpa using hps x)
   rw [hrec] at hy
   refine ⟨fn, _, assign, body, hy, roundIn_of_wpIn hfn ?_⟩
   have hz : (ps.toArray.zip (encs x).toArray).foldl (fun tmps (t, a) => tmps.setIfInBounds t a) a.tmps = (ps.zip (encs x)).foldl (fun t (x : Nat × Value) => t.setIfInBounds x.1 x.2) a.tmps := by
    simp [List.zip_toArray]
   obtain ⟨hfs, hfg⟩ := foldl_params (ps.zip (encs x)) a.tmps Γ m hs.size hs.at_ (fun y hy => by
    have h1 := (List.of_mem_zip hy).1
    have h2 := List.all_eq_true.1 hpm _ h1
    simpa [Nat.blt_eq] using h2)
   dsimp only
   rw [hz]
   refine wpIn_mono (hassign (w.heap.size + 1) x W { tmps := (ps.zip (encs x)).foldl (fun t (x : Nat × Value) => t.setIfInBounds x.1 x.2) a.tmps, defers := [] } ⟨hfs, rfl, hfg⟩ k') ?_
   rintro e a1 W' ⟨Γ1, hs1, hq1⟩
   cases e with
   | normal =>
    obtain ⟨rfl, hsub⟩ := hq1
    have hl2 : (W'.putObj (w.heap.size + 1) (.loop { rec .ready none with state := .busy })).heap[w.heap.size + 1]? = some (.loop { rec .ready none with state := .busy }) := World.putObj_heap_same hlt
    have hf2 := Frm.putObj W' (w.heap.size + 1) (.loop { rec .ready none with state := .busy })
    have hi2 := hI pre _ _ _ hi hf2 (hnc _ _ hl)
    refine ⟨_, run_beginRound hl (by rw [hrec]), ?_⟩
    refine wpIn_mono (hbody (w.heap.size + 1) pre x _ hi2 hpre (hsz _ _ hl2) (hmk _ _ hk) a1 (hs1.sub hsub) k') ?_
    have fin : ∀ (jump : Option Code) (W3 : World), KeepsOthers (W'.putObj (w.heap.size + 1) (.loop { rec .ready none with state := .busy })) W3 →
      (Instr.endRound (w.heap.size + 1) jump).run P W3 = .ok (.bool jump.isNone) (W3.putObj (w.heap.size + 1) (.loop (rec (if jump.isNone then .ready else .done) jump))) ∧
      W3.heap[w.heap.size + 1]? = some (.loop { rec .ready none with state := .busy }) ∧
      (W3.putObj (w.heap.size + 1) (.loop (rec (if jump.isNone then .ready else .done) jump))).heap[w.heap.size + 1]? = some (.loop (rec (if jump.isNone then .ready else .done) jump)) ∧
      Mark (W3.putObj (w.heap.size + 1) (.loop (rec (if jump.isNone then .ready else .done) jump))) w.heap.size := fun jump W3 hk3 => by
     have hl3 := hk3.same _ _ hl2 rfl
     have := run_endRound (P := P) jump hl3
     rw [hrec] at this ⊢
     exact ⟨this, by rw [hrec] at hl3; exact hl3, World.putObj_heap_same (Array.getElem?_eq_some_iff.1 hl3).1, hmk _ _ (hk3.same _ _ (hmk _ _ hk) rfl)⟩
    have offs : ∀ {W3 : World} {o : Obj}, Wrote Bt (W'.putObj (w.heap.size + 1) (.loop { rec .ready none with state := .busy })) W3 → Off Bt W' (W3.putObj (w.heap.size + 1) o) := fun {W3 o} hw => by
     obtain ⟨C, hf, hC⟩ := hw.off
     refine ⟨(w.heap.size + 1) :: C, ((hf2.mono (T := (w.heap.size + 1) :: C) (by simp)).trans hf (fun x hx => .inl (by simp [hx]))).trans (Frm.putObj W3 _ o) (by simp), fun b hb hx => ?_⟩
     rcases List.mem_cons.1 hx with rfl | hx
     ·
      have := hBt _ hb; omega
     ·
      exact hC b hb hx
    rintro e a3 W3 ⟨Γ3, _, hp⟩
    cases e with
    | normal =>
     obtain ⟨hk3, hi3⟩ := hp
     obtain ⟨hr, hl3, hl4, hk4⟩ := fin none W3 hk3.others
     exact ⟨_, _, hr, offs hk3, .inl ⟨rfl, hI _ _ _ _ hi3 (Frm.putObj W3 _ _) (hnc _ _ hl3), hl4, hk4⟩⟩
    | ret =>
     obtain ⟨hk3, hi3⟩ := hp
     obtain ⟨hr, hl3, hl4, hk4⟩ := fin (some .ret) W3 hk3.others
     exact ⟨_, _, hr, offs hk3, .inr ⟨rfl, .inl ⟨hIx _ _ _ _ _ hi3 (Frm.putObj W3 _ _) (hnc _ _ hl3), hl4⟩, hk4⟩⟩
    | exit id =>
     obtain ⟨hk3, hi3⟩ := hp
     obtain ⟨hr, hl3, hl4, hk4⟩ := fin (some (.exit id)) W3 hk3.others
     exact ⟨_, _, hr, offs hk3, .inr ⟨rfl, .inr ⟨id, hIx _ _ _ _ _ hi3 (Frm.putObj W3 _ _) (hnc _ _ hl3), hl4⟩, hk4⟩⟩
    | goto t => exact hp.elim
    | panic ch => exact hp.elim
    | outgrown => exact hp.elim
   | exit id => exact hq1.elim
   | goto t => exact hq1.elim
   | ret => exact hq1.elim
   | panic ch => exact hq1.elim
   | outgrown => exact hq1.elim
  ·
   have hs' : Sat ⟨m, marks (w.heap.size :: ds), none⟩ Γ { a with defers := [{ target := .collected w.heap.size, args := #[] }] ++ a.defers } := ⟨hs.size, by show [_] ++ a.defers = _; rw [hs.defers]; rfl, hs.at_⟩
   rintro e W2 ⟨⟨v, rfl⟩, (⟨hi, hl, hk⟩ | ⟨pre, h1, hk⟩)⟩
   ·
    have hend := run_endLoop (P := P) hl (by rw [hrec]; simp)
    refine ⟨none, _, by rw [hend, hrec], ?_⟩
    exact ⟨_, Γ, hs', hdone _ (hI _ _ _ _ hi (Frm.putObj _ _ _) (hnc _ _ hl)) (Nat.le_trans (hsz _ _ hl) (Frm.putObj _ _ _).size) (hmk _ _ hk)⟩
   ·
    rcases h1 with ⟨hi, hl⟩ | ⟨id, hi, hl⟩
    ·
     have hend := run_endLoop (P := P) hl (by rw [hrec]; simp)
     refine ⟨some .ret, _, by rw [hend, hrec], ?_⟩
     exact wpIn_ret (Q := liftD m Q) ⟨_, Γ, hs', hret _ _ (hIx _ _ _ _ _ hi (Frm.putObj _ _ _) (hnc _ _ hl)) (Nat.le_trans (hsz _ _ hl) (Frm.putObj _ _ _).size) (hmk _ _ hk)⟩
    ·
     have hend := run_endLoop (P := P) hl (by rw [hrec]; simp)
     refine ⟨some (.exit id), _, by rw [hend, hrec], ?_⟩
     exact wpIn_exit (Q := liftD m Q) ⟨_, Γ, hs', hexit _ _ _ (hIx _ _ _ _ _ hi (Frm.putObj _ _ _) (hnc _ _ hl)) (Nat.le_trans (hsz _ _ hl) (Frm.putObj _ _ _).size) (hmk _ _ hk)⟩
end Go.Proofs.Ytnmieihcjjiccaa

namespace Go.Proofs.Ytnmieihcjjiccaa
open Go.RowKit Go.Sort
abbrev Tx := List UInt8
def SB (ss : List Tx) : List Value := ss.map encStr
theorem Own.put {w : World} {g c m : Nat} {e : TypeId} {os : Array Obj} {ss ts : List Tx} (h : Own w e 1 (some ⟨g, 0, none⟩) ss.length c (SB ss)) (hl : ts.length = ss.length) :
  Own (grow (putRow encStr (Sort.ahead w m) g 0 ts.toArray) os) e 1 (some ⟨g, 0, none⟩) ss.length c (SB ts) ∧ Frm [g] w (grow (putRow encStr (Sort.ahead w m) g 0 ts.toArray) os) := by
 rcases h.cases with ⟨h0, _⟩ | ⟨g', cur, hA, hb, h1, h2, h3, h4⟩
 ·
  cases h0
 ·
  cases hA
  refine ⟨ownsRow_sorted hl (Nat.zero_le _) hb h1 h2 (by simpa using h3), ?_⟩
  have := Frm.grown (grownBy_sorted (w := w) (g := g) (n := m) (os := os) ts.toArray)
  simpa using this
theorem Own.holds {w : World} {g c : Nat} {e : TypeId} {ss : List Tx} (h : Own w e 1 (some ⟨g, 0, none⟩) ss.length c (SB ss)) : Holds encStr w g 0 ss.toArray ∧ g < w.heap.size := by
 rcases h.cases with ⟨h0, _⟩ | ⟨g', cur, hA, hb, h1, h2, h3, h4⟩
 ·
  cases h0
 ·
  cases hA
  exact ⟨holds_of_block hb (by rw [Nat.mul_one] at h4; exact h4), hb.lt⟩
end Go.Proofs.Ytnmieihcjjiccaa

namespace Go.Proofs.Ytnmieihcjjiccaa
open Go.RowKit Go.ChangeShapes Go.WideShapes Go.Deep
section
variable {H : Type} {enc : TypeId × Value → H} {P : Program} {w : World} {base : Nat} {spare : Nat → Bool} {held : Bool} {n : Nat} {cs : List Value} {x : DataW H × List MemPlace} {t e : TypeId}
end
end Go.Proofs.Ytnmieihcjjiccaa
