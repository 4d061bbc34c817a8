/-
  Lemmas on the way, joined: BitsW, CanW, CanC, BitsV, BitsT, CanV, CanT, DefP, EngB, Eng18, MatW.
-/
import Derived.Recover
import Derived.Deep.Strs
import Derived.Laws.IdiomStrings
import Derived.Sort.Walk0
import Derived.Sort.EncStr
import Derived.Maps.Keyed
import Derived.DeepKeys4
import Derived.Carry
import Derived.Test.YtnmieihcjjiccaaPk0
namespace Go.Proofs.Ytnmieihcjjiccaa
open Go.RowKit
theorem NB_one (l : List Nat) : ∀ u ∈ NB l, u.oneCell' = true := by
 intro u hu
 obtain ⟨b, _, rfl⟩ := List.mem_map.1 hu
 rfl
theorem NB_append (a b : List Nat) : NB (a ++ b) = NB a ++ NB b := by simp [NB]
theorem NB_set (a : List Nat) (i x : Nat) : NB (a.set i x) = (NB a).set i (.int .u8 (x : Int)) := by simp [NB, List.map_set]
theorem NB_get (a : List Nat) (i : Nat) (h : i < a.length) : (NB a)[i]? = some (.int .u8 ((a.getD i 0 : Nat) : Int)) := by
 simp [NB, h]
def IsW (w : World) (g : Nat) (A : Option Addr) (l : List Bool) : Prop :=
 ∃ c, Blk w g 97 #[.slice A (pack l).length c, .int .i64 ((l.length : Nat) : Int)] ∧ Own w 5 1 A (pack l).length c (NB (pack l))
theorem IsW.frm {w w' : World} {g : Nat} {A : Option Addr} {l : List Bool} {S : List Nat} (h : IsW w g A l) (k : Frm S w w') (hS : ∀ x ∈ g :: ob A, x ∉ S) : IsW w' g A l := by
 obtain ⟨c, h1, h2⟩ := h
 exact ⟨c, h1.frm k (hS g (by simp)), h2.frm k (fun x hx => hS x (by simp [hx]))⟩
theorem IsW.lt {w : World} {g : Nat} {A : Option Addr} {l : List Bool} (h : IsW w g A l) : ∀ x ∈ g :: ob A, x < w.heap.size := by
 obtain ⟨c, h1, h2⟩ := h
 intro x hx
 rcases List.mem_cons.1 hx with rfl | hx
 ·
  exact h1.lt
 ·
  exact h2.lt x hx
def IsR (w : World) (g : Nat) (A : Option Addr) (bs : List Nat) (p : Nat) : Prop :=
 ∃ c, Blk w g 155 #[.slice A bs.length c, .int .i64 ((p : Nat) : Int)] ∧ Own w 5 1 A bs.length c (NB bs)
theorem IsR.frm {w w' : World} {g : Nat} {A : Option Addr} {bs : List Nat} {p : Nat} {S : List Nat} (h : IsR w g A bs p) (k : Frm S w w') (hS : ∀ x ∈ g :: ob A, x ∉ S) : IsR w' g A bs p := by
 obtain ⟨c, h1, h2⟩ := h
 exact ⟨c, h1.frm k (hS g (by simp)), h2.frm k (fun x hx => hS x (by simp [hx]))⟩
theorem IsR.lt {w : World} {g : Nat} {A : Option Addr} {bs : List Nat} {p : Nat} (h : IsR w g A bs p) : ∀ x ∈ g :: ob A, x < w.heap.size := by
 obtain ⟨c, h1, h2⟩ := h
 intro x hx
 rcases List.mem_cons.1 hx with rfl | hx
 ·
  exact h1.lt
 ·
  exact h2.lt x hx
def rightE (v : Nat) (n : Int) : Nat := if n < 0 ∨ 32 < n then 1 else if v / 2 ^ n.toNat = 0 then 0 else 8
set_option maxRecDepth 100000 in
theorem new_spec (w : World) : Calls Try.prog 18 #[] w fun e w' => e = .returned (.pointer (some ⟨w.heap.size, 0, none⟩)) ∧ IsW w' w.heap.size none [] ∧ Frm [] w w' ∧ w'.heap.size = w.heap.size + 1 := by
 refine VC.calls (nt := 3) (res := #[.tmp 0]) Try.func18 rfl Try.ntmps18 Try.results18 rfl ?_
 refine jS (jR (jA ?_))
 refine jO (jN ?_)
 refine VC.sub [] .nil ?_
 refine jS (jR ?_)
 refine Ops.r (Run.build evs.nil zero97 (places97).choose_spec.1 (places97).choose_spec.2 rfl) rfl ?_
 refine Ops.m (Does.box rfl) rfl ?_
 rintro _ w1 ⟨rfl, hFw1⟩
 refine jA ?_
 refine jO (jN (jv1 0 ?_))
 refine jT ?_
 refine end1 rfl ?_
 exact ⟨rfl, ⟨0, hFw1.blk, Own.nil _ _ _⟩, hFw1.frm, hFw1.size⟩
set_option maxRecDepth 100000 in
theorem right_in (v n : Nat) (w : World) (hn : n ≤ 32) (hv : v ≤ 18446744073709551615) : Calls Try.prog 50 #[.int .u64 v, .int .i64 n] w fun e w' => e = .returned (.int .i64 ((if v / 2 ^ n = 0 then 0 else 8 : Nat) : Int)) ∧ w = w' := by
 refine VC.calls (nt := 17) (res := #[.tmp 4]) Try.func50 rfl Try.ntmps50 Try.results50 rfl ?_
 refine jS (jR ?_)
 refine Ops.r (v := .int .i64 ((0 : Nat) : Int)) (Run.asg rfl) rfl ?_
 refine jO (jN (jv2 0 1 ?_))
 refine jS (jB (jS (jR (jM ?_))))
 refine Ops.r (Run.bin rfl rfl (Bin.lssN _ 0)) rfl ?_
 refine jM ?_
 refine Ops.rg rfl (decide_eq_false (by omega)) (Run.mv rfl) rfl ?_
 refine Ops.rg rfl (decide_eq_false (by omega)) (Run.bin rfl rfl (Bin.gtrN _ 32)) rfl ?_
 refine Ops.r (Run.pickF rfl rfl (decide_eq_false (by omega))) rfl ?_
 refine jA ?_
 refine jO (jN (jv3 0 1 5 ?_))
 refine VC.condF rfl (decide_eq_false (by omega)) ?_
 refine jS (jR (jM ?_))
 refine jM ?_
 refine Ops.r (Run.bin rfl rfl (Bin.shr_u64 _ _ hv)) rfl ?_
 refine Ops.r (Run.bin rfl rfl (Bin.neqN _ 0)) rfl ?_
 refine jA ?_
 refine jO (jN (jv1 12 ?_))
 refine VC.condD rfl (fun hc2 => ?_) (fun hc2 => ?_)
 ·
  refine jS (jR ?_)
  refine Ops.r (v := .int .i64 ((8 : Nat) : Int)) (Run.asg rfl) rfl ?_
  refine jO (jN (jv1 4 ?_))
  refine jT ?_
  refine blockQ_r (thenQ_r (end1 rfl ?_))
  exact ⟨by rw [if_neg hc2], rfl⟩
 ·
  refine jQ ?_
  refine blockQ_n (jN ?_)
  refine VC.sub [] .nil ?_
  refine jS (jR ?_)
  refine Ops.r (v := .int .i64 ((0 : Nat) : Int)) (Run.asg rfl) rfl ?_
  refine jO (jN (jT ?_))
  refine end1 rfl ?_
  exact ⟨by rw [if_pos (by simpa using hc2)], rfl⟩
set_option maxRecDepth 100000 in
theorem right_neg (v : Nat) (n : Int) (w : World) (hn : n < 0) : Calls Try.prog 50 #[.int .u64 v, .int .i64 n] w fun e w' => e = .returned (.int .i64 ((1 : Nat) : Int)) ∧ w = w' := by
 refine VC.calls (nt := 17) (res := #[.tmp 4]) Try.func50 rfl Try.ntmps50 Try.results50 rfl ?_
 refine jS (jR ?_)
 refine Ops.r (v := .int .i64 ((0 : Nat) : Int)) (Run.asg rfl) rfl ?_
 refine jO (jN (jv2 0 1 ?_))
 refine jS (jB (jS (jR (jM ?_))))
 refine Ops.r (Run.bin rfl rfl (Bin.lss _ 0)) rfl ?_
 refine jM ?_
 refine Ops.sk rfl (by simpa using hn) rfl ?_
 refine Ops.sk rfl (by simpa using hn) rfl ?_
 refine Ops.r (Run.pickT rfl rfl (decide_eq_true hn)) rfl ?_
 refine jA ?_
 refine jO (jN (jv3 0 1 5 ?_))
 refine VC.condT rfl (rfl) ?_
 refine jS (jR ?_)
 refine Ops.r (v := .int .i64 ((1 : Nat) : Int)) (Run.asg rfl) rfl ?_
 refine jO (jN (jv1 4 ?_))
 refine jT ?_
 refine blockQ_r (thenQ_r (end1 rfl ?_))
 exact ⟨rfl, rfl⟩
set_option maxRecDepth 100000 in
theorem right_big (v : Nat) (n : Int) (w : World) (hn : 32 < n) : Calls Try.prog 50 #[.int .u64 v, .int .i64 n] w fun e w' => e = .returned (.int .i64 ((1 : Nat) : Int)) ∧ w = w' := by
 refine VC.calls (nt := 17) (res := #[.tmp 4]) Try.func50 rfl Try.ntmps50 Try.results50 rfl ?_
 refine jS (jR ?_)
 refine Ops.r (v := .int .i64 ((0 : Nat) : Int)) (Run.asg rfl) rfl ?_
 refine jO (jN (jv2 0 1 ?_))
 refine jS (jB (jS (jR (jM ?_))))
 refine Ops.r (Run.bin rfl rfl (Bin.lss _ 0)) rfl ?_
 refine jM ?_
 refine Ops.rg rfl (decide_eq_false (by omega)) (Run.mv rfl) rfl ?_
 refine Ops.rg rfl (decide_eq_false (by omega)) (Run.bin rfl rfl (Bin.gtr _ 32)) rfl ?_
 refine Ops.r (Run.pickF rfl rfl (decide_eq_false (by omega))) rfl ?_
 refine jA ?_
 refine jO (jN (jv3 0 1 5 ?_))
 refine VC.condT rfl (decide_eq_true hn) ?_
 refine jS (jR ?_)
 refine Ops.r (v := .int .i64 ((1 : Nat) : Int)) (Run.asg rfl) rfl ?_
 refine jO (jN (jv1 4 ?_))
 refine jT ?_
 refine blockQ_r (thenQ_r (end1 rfl ?_))
 exact ⟨rfl, rfl⟩
theorem right_spec (v : Nat) (n : Int) (w : World) (hv : v ≤ 18446744073709551615) : Calls Try.prog 50 #[.int .u64 v, .int .i64 n] w fun e w' => e = .returned (.int .i64 ((rightE v n : Nat) : Int)) ∧ w = w' := by
 unfold rightE
 by_cases h1 : n < 0
 ·
  rw [if_pos (.inl h1)]; exact right_neg v n w h1
 ·
  by_cases h2 : 32 < n
  ·
   rw [if_pos (.inr h2)]; exact right_big v n w h2
  ·
   rw [if_neg (by omega)]
   obtain ⟨m, rfl⟩ := Int.eq_ofNat_of_zero_le (show 0 ≤ n by omega)
   exact right_in v m w (by omega) hv
theorem rightE_ok (v m : Nat) (h1 : m ≤ 32) (h2 : v < 2 ^ m) : rightE v (m : Int) = 0 := by
 unfold rightE
 rw [if_neg (by omega), if_pos (by simp only [Int.toNat_natCast]; exact Nat.div_eq_of_lt h2)]
def padW (l : List Bool) : List Nat := if l.length % 8 = 0 then pack l ++ [0] else pack l
theorem padW_len (l : List Bool) : (padW l).length = l.length / 8 + 1 := by
 unfold padW; split <;> simp [pack_len] <;> omega
theorem padW_lt (l : List Bool) : (padW l).getD (l.length / 8) 0 < 256 := by
 have hl : ∀ x ∈ padW l, x < 256 := by
  intro x hx
  unfold padW at hx
  split at hx
  ·
   rcases List.mem_append.1 hx with h | h
   ·
    exact pack_lt l x h
   ·
    simp at h; omega
  ·
   exact pack_lt l x hx
 have := padW_len l
 rw [List.getD_eq_getElem?_getD, List.getElem?_eq_getElem (by omega)]
 exact hl _ (List.getElem_mem _)
theorem pack_snoc (l : List Bool) (b : Bool) : pack (l ++ [b]) = (padW l).set (l.length / 8) ((padW l).getD (l.length / 8) 0 ||| (b.toNat * 2 ^ (l.length % 8) % 256)) := by
 have hb : b.toNat * 2 ^ (l.length % 8) % 256 = b.toNat * 2 ^ (l.length % 8) := by
  apply Nat.mod_eq_of_lt
  have h1 : 2 ^ (l.length % 8) ≤ 2 ^ 7 := Nat.pow_le_pow_right (by omega) (by omega)
  cases b <;> simp <;> omega
 rw [hb]
 by_cases h : l.length % 8 = 0
 ·
  have h8 : (pack l).length = l.length / 8 := by rw [pack_len]; omega
  rw [pack_snoc_new l b h]
  unfold padW
  rw [if_pos h, h, List.set_append_right _ _ (by omega), List.getD_eq_getElem?_getD, List.getElem?_append_right (by omega), h8]
  simp
 ·
  rw [pack_snoc_old l b h]
  unfold padW
  rw [if_neg h]
  congr 1
  rw [List.getD_eq_getElem?_getD, pack_get _ _ (by omega)]
  simp only [Option.getD_some]
  rw [List.take_of_length_le (by simp; omega)]
  have := num_lt (l.drop (8 * (l.length / 8)))
  rw [show (l.drop (8 * (l.length / 8))).length = l.length % 8 by simp; omega] at this
  rw [or_top _ _ _ this]
set_option maxRecDepth 100000 in
theorem one_spec (g v : Nat) (A : Option Addr) (l : List Bool) (w : World) (hv : v ≤ 18446744073709551615) (hl : l.length ≤ 1000000000000) (hW : IsW w g A l) :
  Calls Try.prog 51 #[.pointer (some ⟨g, 0, none⟩), .int .u64 v] w fun e w' => e = .returned (.tuple #[]) ∧ ∃ A', IsW w' g A' (l ++ [decide (v % 2 = 1)]) ∧ Frm (g :: ob A) w w' ∧ ∀ x ∈ ob A', x ∈ ob A ∨ w.heap.size ≤ x := by
 obtain ⟨c, hb, ho⟩ := hW
 have hpl := pack_len l
 have hgA := ho.ne_blk hb (by decide)
 have hlt := hb.lt
 refine VC.calls (nt := 48) (res := #[]) Try.func51 rfl Try.ntmps51 Try.results51 rfl ?_
 refine jS (jS (jR (jM ?_)))
 refine Ops.r (Run.nilck rfl) rfl ?_
 refine Ops.r (Run.fieldAddr rfl Try.underlying97 rfl Try.sizeOf3 (by decide)) rfl ?_
 refine Ops.r (Run.load rfl Try.isAgg3 (hb.cell 1)) rfl ?_
 refine Ops.r (Run.bin rfl rfl (Bin.remN _ 8 (by omega))) rfl ?_
 refine Ops.r (Run.bin rfl rfl (Bin.eqlN _ 0)) rfl ?_
 refine jO (jN (jv3 0 1 9 ?_))
 refine VC.meet (σ := Option Addr × Nat) (fun s => [(0, .pointer (some ⟨g, 0, none⟩)), (1, .int .u64 v)]) (fun s wr => Blk wr g 97 #[.slice s.1 (l.length / 8 + 1) s.2, .int .i64 ((l.length : Nat) : Int)] ∧ Own wr 5 1 s.1 (l.length / 8 + 1) s.2 (NB (padW l)) ∧ Frm (g :: ob A) w wr ∧ ∀ x ∈ ob s.1, x ∈ ob A ∨ w.heap.size ≤ x) ?_ ?_
 ·
  refine VC.condD rfl (fun hc1 => ?_) (fun hc1 => ?_)
  ·
   refine jR (jM ?_)
   refine jM ?_
   refine Ops.r (Run.nilck rfl) rfl ?_
   refine Ops.r (Run.fieldAddr rfl Try.underlying97 rfl Try.sizeOf22 (by decide)) rfl ?_
   refine Ops.r (Run.load rfl Try.isAgg22 (hb.cell 0)) rfl ?_
   refine Ops.m (Does.buildS1 rfl Try.underlying22 Try.sizeOf5 zero5 (by decide) (by decide) rfl rfl) rfl ?_
   rintro _ w1 ⟨rfl, hF⟩
   have ho1 := ho.frm hF.frm (by simp)
   have hrd1 : Rd w1 1 (some ⟨w.heap.size, 0, none⟩) 1 (NB [0]) := Rd.of_blk hF.blk rfl
   refine Ops.m (Does.app rfl rfl Try.underlying22 (info5) rfl (by decide) ho1 hrd1 (NB_one [0]) (by omega) (by omega)) rfl ?_
   rintro _ w2 ⟨A2, c2, rfl, ho2, hfr2, hob2⟩
   have hb2 := (hb.frm hF.frm (by simp)).frm hfr2 hgA
   refine Ops.r (Run.nilck rfl) rfl ?_
   refine Ops.r (Run.fieldAddr rfl Try.underlying97 rfl Try.sizeOf22 (by decide)) rfl ?_
   refine Ops.st (Acts.store rfl rfl Try.sizeOf22 hb2 rfl rfl) ?_
   rintro w3 ⟨hb3, hfr3, hsz3⟩
   refine jO ?_
   refine jN ⟨(A2, c2), (js2 rfl rfl), ?_⟩
   have h8 : l.length % 8 = 0 := hc1
   have hn : (pack l).length + 1 = l.length / 8 + 1 := by omega
   have ho3 := ho2.frm hfr3 (by
    have hne := ho2.ne_blk hb2 (by decide)
    intro x hx hx2
    simp at hx2
    subst hx2
    exact hne hx)
   have hp : NB (pack l) ++ NB [0] = NB (padW l) := by rw [← NB_append]; unfold padW; rw [if_pos h8]
   rw [hp, hn] at ho3
   rw [hn] at hb3
   refine ⟨hb3, ho3, ?_, ?_⟩
   ·
    refine ((hF.frm.mono (T := g :: ob A) (by simp)).trans hfr2 (fun x hx => .inl (by simp [hx]))).trans hfr3 (fun x hx => .inl (by simp at hx; simp [hx]))
   ·
    intro x hx
    rcases hob2 with h | h <;> rw [h] at hx
    ·
     exact .inl hx
    ·
     right; have := hF.size; simp at hx; omega
  ·
   refine jQ ?_
   refine jN ⟨(A, c), (js2 rfl rfl), ?_⟩
   have h8 : ¬ l.length % 8 = 0 := hc1
   have hn : (pack l).length = l.length / 8 + 1 := by omega
   have hp : pack l = padW l := by unfold padW; rw [if_neg h8]
   rw [hp] at ho hb
   rw [← hp, hn] at hb
   rw [← hp, hn, hp] at ho
   exact ⟨hb, ho, Frm.refl _ _, fun x hx => .inl hx⟩
 ·
  rintro ⟨A1, c1⟩ wr ⟨hb1, ho1, hfr1, hA1⟩ Γ hΓ
  dsimp only at hb1 ho1 hfr1 hA1 hΓ
  have hpw := padW_len l
  obtain ⟨ad, rfl, hadlt, hadc⟩ := ho1.rd.2 (by omega)
  have hcell := hadc _ _ (NB_get (padW l) (l.length / 8) (by omega))
  have holt := padW_lt l
  have h2 : v &&& 1 = v % 2 := Nat.and_one_is_mod v
  refine jN (VC.sub _ hΓ ?_)
  refine jS ?_
  refine VC.tail 22 jK jK ?_
  simp only [List.take_succ_cons, List.take_zero, List.drop_succ_cons, List.drop_zero]
  refine SOps.r (Run.mv rfl) rfl ?_
  refine SOps.r (Run.nilck rfl) rfl ?_
  refine SOps.r (Run.fieldAddr rfl Try.underlying97 rfl Try.sizeOf22 (by decide)) rfl ?_
  refine SOps.r (Run.load rfl Try.isAgg22 (hb1.cell 0)) rfl ?_
  refine SOps.r (Run.mv rfl) rfl ?_
  refine SOps.r (Run.nilck rfl) rfl ?_
  refine SOps.r (Run.fieldAddr rfl Try.underlying97 rfl Try.sizeOf3 (by decide)) rfl ?_
  refine SOps.r (Run.load rfl Try.isAgg3 (hb1.cell 1)) rfl ?_
  refine SOps.r (Run.bin rfl rfl (Bin.quo_i64 _ 8 (by omega) (by omega))) rfl ?_
  refine SOps.r (Run.index1 _ rfl rfl Try.underlying22 Try.sizeOf5 (by omega)) rfl ?_
  refine SOps.r (Run.load rfl Try.isAgg5 hcell) rfl ?_
  refine SOps.r (Run.mv rfl) rfl ?_
  refine SOps.r (Run.bin rfl rfl (Bin.and_u64 _ 1 hv (by omega))) rfl ?_
  refine SOps.r (Run.conv8 _ rfl Try.underlying37 Try.underlying5) rfl ?_
  refine SOps.r (Run.mv rfl) rfl ?_
  refine SOps.r (Run.nilck rfl) rfl ?_
  refine SOps.r (Run.fieldAddr rfl Try.underlying97 rfl Try.sizeOf3 (by decide)) rfl ?_
  refine SOps.r (Run.load rfl Try.isAgg3 (hb1.cell 1)) rfl ?_
  refine SOps.r (Run.bin rfl rfl (Bin.remN _ 8 (by omega))) rfl ?_
  refine SOps.r (Run.bin rfl rfl (Bin.shl8 _ _ (by omega))) rfl ?_
  refine SOps.r (Run.bin rfl rfl (Bin.or_u8 _ _ (by omega) (by omega))) rfl ?_
  refine SOps.r (Run.index1 _ rfl rfl Try.underlying22 Try.sizeOf5 (by omega)) rfl ?_
  refine SOps.nil ?_
  refine Ops.st (Acts.storeOwn _ rfl rfl Try.sizeOf5 (ho1.drawn (Drawn.drew _)) rfl (by omega) rfl) ?_
  rintro w4 ⟨ho4, hfr4, hsz4⟩
  have hb4 := (hb1.drawn (Drawn.drew _)).frm hfr4 (ho1.ne_blk hb1 (by decide))
  refine jO (jN (jv1 0 ?_))
  refine jR (jM ?_)
  refine Ops.r (Run.nilck rfl) rfl ?_
  refine Ops.r (Run.fieldAddr rfl Try.underlying97 rfl Try.sizeOf3 (by decide)) rfl ?_
  refine Ops.r (Run.load rfl Try.isAgg3 (hb4.cell 1)) rfl ?_
  refine Ops.r (Run.bin rfl rfl (Bin.add_i64 _ 1 (by omega))) rfl ?_
  refine Ops.r (Run.nilck rfl) rfl ?_
  refine Ops.r (Run.fieldAddr rfl Try.underlying97 rfl Try.sizeOf3 (by decide)) rfl ?_
  refine Ops.st (Acts.store rfl rfl Try.sizeOf3 hb4 rfl rfl) ?_
  rintro w5 ⟨hb5, hfr5, hsz5⟩
  refine jO ?_
  refine end0n ?_
  refine ⟨rfl, some ad, ⟨c1, ?_, ?_⟩, ?_, hA1⟩
  ·
   have hp := pack_len (l ++ [decide (v % 2 = 1)])
   simp only [List.length_append, List.length_singleton] at hp
   rw [show (pack (l ++ [decide (v % 2 = 1)])).length = l.length / 8 + 1 by omega]
   rw [List.length_append]
   exact hb5
  ·
   have hbit : (v &&& 1) % 256 = (decide (v % 2 = 1)).toNat := by
    rw [h2]
    rcases Nat.mod_two_eq_zero_or_one v with h | h <;> simp [h]
   rw [hbit] at ho4
   have e : (NB (padW l)).set (l.length / 8) (.int .u8 (((padW l).getD (l.length / 8) 0 ||| (decide (v % 2 = 1)).toNat * 2 ^ (l.length % 8) % 256 : Nat) : Int)) = NB (pack (l ++ [decide (v % 2 = 1)])) := by
    rw [pack_snoc, NB_set]
   rw [e] at ho4
   have hp := pack_len (l ++ [decide (v % 2 = 1)])
   simp only [List.length_append, List.length_singleton] at hp
   rw [show (pack (l ++ [decide (v % 2 = 1)])).length = l.length / 8 + 1 by omega]
   exact ho4.frm hfr5 (by
    have hne := ho4.ne_blk hb4 (by decide)
    intro x hx hx2
    simp at hx2
    subst hx2
    exact hne hx)
  ·
   refine ((hfr1.drawn (Drawn.drew _)).trans hfr4 (fun x hx => ?_)).trans hfr5 (fun x hx => .inl (by simp at hx; simp [hx]))
   rcases hA1 x hx with h | h
   ·
    exact .inl (by simp [h])
   ·
    exact .inr h
set_option maxRecDepth 100000 in
theorem put_ok (g v n : Nat) (A : Option Addr) (l : List Bool) (w : World) (hv : v < 2 ^ n) (hn : n ≤ 32) (hl : l.length ≤ 1000000000) (hW : IsW w g A l) :
  Calls Try.prog 19 #[.pointer (some ⟨g, 0, none⟩), .int .u64 v, .int .i64 n] w fun e w' => e = .returned (.int .i64 ((0 : Nat) : Int)) ∧ ∃ A', IsW w' g A' (l ++ bitsL v n) ∧ Frm (g :: ob A) w w' ∧ ∀ x ∈ ob A', x ∈ ob A ∨ w.heap.size ≤ x := by
 have hpow : 2 ^ n ≤ 2 ^ 32 := Nat.pow_le_pow_right (by omega) hn
 have hv64 : v ≤ 18446744073709551615 := by omega
 have he := rightE_ok v n hn hv
 refine VC.calls (nt := 25) (res := #[.tmp 6]) Try.func19 rfl Try.ntmps19 Try.results19 rfl ?_
 refine jS (jR ?_)
 refine Ops.r (v := .int .i64 ((0 : Nat) : Int)) (Run.asg rfl) rfl ?_
 refine jO (jN (jv3 0 1 2 ?_))
 refine jS (jS (jR (jM ?_)))
 refine jM ?_
 refine Ops.cl (Enters.fn (evs.cons rfl (evs.cons rfl evs.nil)) Try.call50) (right_spec v n _ hv64) rfl ?_
 rintro e w1 ⟨rfl, rfl⟩
 refine ⟨_, rfl, ?_⟩
 rw [he]
 refine jA ?_
 refine jO (jN (jv4 0 1 2 7 ?_))
 refine jS (jR (jM ?_))
 refine Ops.r (Run.bin rfl rfl (Bin.neqN _ 0)) rfl ?_
 refine jO (jN (jv5 0 1 2 7 13 ?_))
 refine VC.condF rfl (rfl) ?_
 refine jQ (jN (jv3 0 1 2 ?_))
 refine jS (jS (jR (jM ?_)))
 refine Ops.r (v := .int .i64 ((0 : Nat) : Int)) (Run.mv rfl) rfl ?_
 refine jO (jN (jv4 0 1 15 16 ?_))
 refine jB ?_
 refine VC.loop (σ := Nat × Option Addr) (fun s => [(0, .pointer (some ⟨g, 0, none⟩)), (1, .int .u64 v), (15, .int .i64 n), (16, .int .i64 s.1)]) (fun s wr => s.1 ≤ n ∧ IsW wr g s.2 (l ++ bitsL v s.1) ∧ Frm (g :: ob A) w wr ∧ ∀ x ∈ ob s.2, x ∈ ob A ∨ w.heap.size ≤ x) (fun s => n - s.1) (0, A) (js4 rfl rfl rfl rfl) ⟨by omega, by simpa [bitsL] using hW, Frm.refl _ _, fun x hx => .inl hx⟩ ?_
 rintro ⟨k, A1⟩ wr ⟨hk, hW1, hfr1, hA1⟩
 dsimp only at hk hW1 hfr1 hA1 ⊢
 refine jS (jR ?_)
 refine Ops.r (Run.bin rfl rfl (Bin.lssN _ _)) rfl ?_
 refine jO (jN (jS ?_))
 refine VC.condD rfl (fun hc2 => ?_) (fun hc2 => ?_)
 ·
  refine jQ (jN (jv4 0 1 15 16 ?_))
  refine jS (jB (jS (jR (jM ?_))))
  refine jA ?_
  refine jO (jN (jv5 0 1 8 15 16 ?_))
  refine jR (jM ?_)
  refine jM ?_
  refine jM ?_
  refine Ops.r (Run.bin rfl rfl (Bin.shr_u64 _ _ hv64)) rfl ?_
  refine Ops.cl (Enters.fn (evs.cons rfl (evs.cons rfl evs.nil)) Try.call51) (one_spec g (v / 2 ^ k) A1 (l ++ bitsL v k) _ (Nat.le_trans (Nat.div_le_self _ _) hv64) (by rw [List.length_append, bitsL_len]; omega) hW1) rfl ?_
  rintro e w2 ⟨rfl, A2, hW2, hfr2, hA2⟩
  refine ⟨_, rfl, ?_⟩
  refine jO ?_
  refine blockQ_n (jN ?_)
  refine jv4 0 1 15 16 ?_
  refine jR ?_
  refine Ops.r (Run.bin rfl rfl (Bin.add_i64 _ 1 (by omega))) rfl ?_
  refine jM ?_
  refine jO ?_
  refine jN ⟨(k + 1, A2), (js4 rfl rfl rfl rfl), ?_, ?_⟩
  ·
   refine ⟨hc2, ?_, ?_, ?_⟩
   ·
    rw [List.append_assoc, ← bitsL_succ] at hW2; exact hW2
   ·
    refine hfr1.trans hfr2 (fun x hx => ?_)
    rcases List.mem_cons.1 hx with rfl | hx
    ·
     exact .inl (by simp)
    ·
     rcases hA1 x hx with h | h
     ·
      exact .inl (by simp [h])
     ·
      exact .inr h
   ·
    intro x hx
    rcases hA2 x hx with h | h
    ·
     exact hA1 x h
    ·
     have := hfr1.size; right; omega
  ·
   first | omega | (dsimp only; omega)
 ·
  refine jX ?_
  refine thenQ_x (thenQ_x (blockQ_x ?_))
  refine jN ?_
  refine VC.sub [] .nil ?_
  refine jS (jR ?_)
  refine Ops.r (v := .int .i64 ((0 : Nat) : Int)) (Run.asg rfl) rfl ?_
  refine jO (jN (jT ?_))
  refine end1 rfl ?_
  have : k = n := by omega
  subst this
  exact ⟨rfl, A1, hW1, hfr1, hA1⟩
set_option maxRecDepth 100000 in
theorem revB_spec (x : Nat) (w : World) (hx : x ≤ 18446744073709551615) :
  Calls Try.prog 109 #[.int .u64 x] w fun e w' => e = .returned (.int .u64 ((((swapK 16 281470681808895 (swapK 8 71777214294589695 x)) / 2 ^ 32) ||| ((swapK 16 281470681808895 (swapK 8 71777214294589695 x)) * 2 ^ 32 % 18446744073709551616) : Nat) : Int)) ∧ w = w' := by
 refine VC.calls (nt := 22) (res := #[.tmp 2]) Try.func109 rfl Try.ntmps109 Try.results109 rfl ?_
 refine jS (jR ?_)
 refine Ops.r (v := .int .u64 ((0 : Nat) : Int)) (Run.asg rfl) rfl ?_
 refine jO (jN (jv1 0 ?_))
 refine jS (jR (jM ?_))
 refine Ops.r (Run.bin rfl rfl (Bin.shr_u64 _ 8 hx)) rfl ?_
 refine Ops.r (Run.bin rfl rfl (Bin.and_u64 _ 71777214294589695 (Nat.le_trans (Nat.div_le_self _ _) hx) (by omega))) rfl ?_
 refine jM ?_
 refine Ops.r (Run.bin rfl rfl (Bin.and_u64 _ 71777214294589695 hx (by omega))) rfl ?_
 refine Ops.r (Run.bin rfl rfl (Bin.shlU _ 8)) rfl ?_
 refine Ops.r (Run.bin rfl rfl (Bin.or_u64 _ _ (Nat.le_trans Nat.and_le_right (by omega)) (by omega))) rfl ?_
 have hx := swap_lt 8 71777214294589695 (x) (by omega)
 refine jA ?_
 refine jO (jN (jv1 0 ?_))
 refine jS (jR (jM ?_))
 refine Ops.r (Run.bin rfl rfl (Bin.shr_u64 _ 16 hx)) rfl ?_
 refine Ops.r (Run.bin rfl rfl (Bin.and_u64 _ 281470681808895 (Nat.le_trans (Nat.div_le_self _ _) hx) (by omega))) rfl ?_
 refine jM ?_
 refine Ops.r (Run.bin rfl rfl (Bin.and_u64 _ 281470681808895 hx (by omega))) rfl ?_
 refine Ops.r (Run.bin rfl rfl (Bin.shlU _ 16)) rfl ?_
 refine Ops.r (Run.bin rfl rfl (Bin.or_u64 _ _ (Nat.le_trans Nat.and_le_right (by omega)) (by omega))) rfl ?_
 have hx := swap_lt 16 281470681808895 (swapK 8 71777214294589695 x) (by omega)
 refine jA ?_
 refine jO (jN (jv1 0 ?_))
 refine jS (jR (jM ?_))
 refine Ops.r (Run.bin rfl rfl (Bin.shr_u64 _ 32 hx)) rfl ?_
 refine jM ?_
 refine Ops.r (Run.bin rfl rfl (Bin.shlU _ 32)) rfl ?_
 refine Ops.r (Run.bin rfl rfl (Bin.or_u64 _ _ (Nat.le_trans (Nat.div_le_self _ _) hx) (by omega))) rfl ?_
 refine jA ?_
 refine jO (jN (jv1 2 ?_))
 refine jT ?_
 refine end1 rfl ?_
 exact ⟨rfl, rfl⟩
set_option maxRecDepth 100000 in
theorem rev_spec (x : Nat) (w : World) (hx : x ≤ 18446744073709551615) :
  Calls Try.prog 98 #[.int .u64 x] w fun e w' => e = .returned (.int .u64 ((rev64 x : Nat) : Int)) ∧ w = w' := by
 refine VC.calls (nt := 26) (res := #[.tmp 2]) Try.func98 rfl Try.ntmps98 Try.results98 rfl ?_
 refine jS (jR ?_)
 refine Ops.r (v := .int .u64 ((0 : Nat) : Int)) (Run.asg rfl) rfl ?_
 refine jO (jN (jv1 0 ?_))
 refine jS (jR (jM ?_))
 refine Ops.r (Run.bin rfl rfl (Bin.shr_u64 _ 1 hx)) rfl ?_
 refine Ops.r (Run.bin rfl rfl (Bin.and_u64 _ 6148914691236517205 (Nat.le_trans (Nat.div_le_self _ _) hx) (by omega))) rfl ?_
 refine jM ?_
 refine Ops.r (Run.bin rfl rfl (Bin.and_u64 _ 6148914691236517205 hx (by omega))) rfl ?_
 refine Ops.r (Run.bin rfl rfl (Bin.shlU _ 1)) rfl ?_
 refine Ops.r (Run.bin rfl rfl (Bin.or_u64 _ _ (Nat.le_trans Nat.and_le_right (by omega)) (by omega))) rfl ?_
 have hx := swap_lt 1 6148914691236517205 (x) (by omega)
 refine jA ?_
 refine jO (jN (jv1 0 ?_))
 refine jS (jR (jM ?_))
 refine Ops.r (Run.bin rfl rfl (Bin.shr_u64 _ 2 hx)) rfl ?_
 refine Ops.r (Run.bin rfl rfl (Bin.and_u64 _ 3689348814741910323 (Nat.le_trans (Nat.div_le_self _ _) hx) (by omega))) rfl ?_
 refine jM ?_
 refine Ops.r (Run.bin rfl rfl (Bin.and_u64 _ 3689348814741910323 hx (by omega))) rfl ?_
 refine Ops.r (Run.bin rfl rfl (Bin.shlU _ 2)) rfl ?_
 refine Ops.r (Run.bin rfl rfl (Bin.or_u64 _ _ (Nat.le_trans Nat.and_le_right (by omega)) (by omega))) rfl ?_
 have hx := swap_lt 2 3689348814741910323 (swapK 1 6148914691236517205 x) (by omega)
 refine jA ?_
 refine jO (jN (jv1 0 ?_))
 refine jS (jR (jM ?_))
 refine Ops.r (Run.bin rfl rfl (Bin.shr_u64 _ 4 hx)) rfl ?_
 refine Ops.r (Run.bin rfl rfl (Bin.and_u64 _ 1085102592571150095 (Nat.le_trans (Nat.div_le_self _ _) hx) (by omega))) rfl ?_
 refine jM ?_
 refine Ops.r (Run.bin rfl rfl (Bin.and_u64 _ 1085102592571150095 hx (by omega))) rfl ?_
 refine Ops.r (Run.bin rfl rfl (Bin.shlU _ 4)) rfl ?_
 refine Ops.r (Run.bin rfl rfl (Bin.or_u64 _ _ (Nat.le_trans Nat.and_le_right (by omega)) (by omega))) rfl ?_
 have hx := swap_lt 4 1085102592571150095 (swapK 2 3689348814741910323 (swapK 1 6148914691236517205 x)) (by omega)
 refine jA ?_
 refine jO (jN (jv1 0 ?_))
 refine jS (jR (jM ?_))
 refine Ops.cl (Enters.fn (evs.cons rfl evs.nil) Try.call109) (revB_spec (swapK 4 1085102592571150095 (swapK 2 3689348814741910323 (swapK 1 6148914691236517205 x))) _ hx) rfl ?_
 rintro e w1 ⟨rfl, rfl⟩
 refine ⟨_, rfl, ?_⟩
 refine jA ?_
 refine jO (jN (jv1 2 ?_))
 refine jT ?_
 refine end1 rfl ?_
 exact ⟨rfl, rfl⟩
set_option maxRecDepth 100000 in
theorem turned_ok (g v n : Nat) (A : Option Addr) (l : List Bool) (w : World) (hv : v < 2 ^ n) (hn : n ≤ 32) (hl : l.length ≤ 1000000000) (hW : IsW w g A l) :
  Calls Try.prog 82 #[.pointer (some ⟨g, 0, none⟩), .int .u64 v, .int .i64 n] w fun e w' => e = .returned (.int .i64 ((0 : Nat) : Int)) ∧ ∃ A', IsW w' g A' (l ++ (bitsL v n).reverse) ∧ Frm (g :: ob A) w w' ∧ ∀ x ∈ ob A', x ∈ ob A ∨ w.heap.size ≤ x := by
 have hpow : 2 ^ n ≤ 2 ^ 32 := Nat.pow_le_pow_right (by omega) hn
 have hpos := Nat.two_pow_pos n
 have hv64 : v ≤ 18446744073709551615 := by omega
 have he := rightE_ok v n hn hv
 have hrl := rev64_le v
 have hrd : rev64 v / 2 ^ (64 - n) ≤ 18446744073709551615 := Nat.le_trans (Nat.div_le_self _ _) hrl
 refine VC.calls (nt := 26) (res := #[.tmp 6]) Try.func82 rfl Try.ntmps82 Try.results82 rfl ?_
 refine jS (jR ?_)
 refine Ops.r (v := .int .i64 ((0 : Nat) : Int)) (Run.asg rfl) rfl ?_
 refine jO (jN (jv3 0 1 2 ?_))
 refine jS (jS (jR (jM ?_)))
 refine jM ?_
 refine Ops.cl (Enters.fn (evs.cons rfl (evs.cons rfl evs.nil)) Try.call50) (right_spec v n _ hv64) rfl ?_
 rintro e w1 ⟨rfl, rfl⟩
 refine ⟨_, rfl, ?_⟩
 rw [he]
 refine jA ?_
 refine jO (jN (jv4 0 1 2 7 ?_))
 refine jS (jR (jM ?_))
 refine Ops.r (Run.bin rfl rfl (Bin.neqN _ 0)) rfl ?_
 refine jO (jN (jv5 0 1 2 7 12 ?_))
 refine VC.condF rfl (rfl) ?_
 refine jQ (jN (jv3 0 1 2 ?_))
 refine jS ?_
 refine VC.tail 11 jK jK ?_
 simp only [List.take_succ_cons, List.take_zero, List.drop_succ_cons, List.drop_zero]
 refine SOps.r (Run.mv rfl) rfl ?_
 refine SOps.r (Run.mv rfl) rfl ?_
 refine SOps.call (Enters.fn (evs.cons rfl evs.nil) Try.call98) (rev_spec v _ hv64) trivial rfl rfl ?_
 refine SOps.r (Run.mv rfl) rfl ?_
 refine SOps.r (Run.bin rfl rfl (Bin.sub_i64 64 _ (by omega) (by omega))) rfl ?_
 refine SOps.r (Run.bin rfl rfl (Bin.shr_u64 _ _ hrl)) rfl ?_
 refine SOps.r (Run.mv rfl) rfl ?_
 refine SOps.r (v := .int .u64 ((2 ^ n : Nat) : Int)) (Run.bin rfl rfl (by have := Bin.shl_u64 (k' := .i64) 1 n (by omega) (by omega); rwa [Nat.one_mul] at this)) rfl ?_
 refine SOps.r (Run.bin rfl rfl (Bin.sub_u64 _ 1 (by omega) (by omega))) rfl ?_
 refine SOps.r (Run.bin rfl rfl (Bin.and_u64 _ _ hrd (by omega))) rfl ?_
 refine SOps.r (Run.mv rfl) rfl ?_
 refine SOps.nil ?_
 refine Ops.cl (Enters.fn (evs.cons rfl (evs.cons rfl (evs.cons rfl evs.nil))) Try.call19) (put_ok g (turn v n) n A l _ (turn_lt v n) hn hl (hW.frm (Drawn.drew _).frm (by simp))) rfl ?_
 rintro e w2 ⟨rfl, A2, hW2, hfr2, hA2⟩
 refine ⟨_, rfl, ?_⟩
 refine jA ?_
 refine jO (jN (jv1 6 ?_))
 refine jT ?_
 refine end1 rfl ?_
 rw [turn_bits v n (by omega)] at hW2
 exact ⟨rfl, A2, hW2, ((Drawn.drew _).frm.mono (by simp)).trans hfr2 (fun x hx => .inl hx), hA2⟩
set_option maxRecDepth 100000 in
theorem woctets_spec (g c0 : Nat) (A B : Option Addr) (l : List Bool) (bs : List Nat) (w : World) (hl : l.length ≤ 1000000000) (hbs : bs.length ≤ 1000000000) (hB : ∀ b ∈ bs, b < 256) (hW : IsW w g A l) (hr : Rd w 1 B bs.length (NB bs)) :
  Calls Try.prog 47 #[.pointer (some ⟨g, 0, none⟩), .slice B bs.length c0] w fun e w' => e = .returned (.tuple #[]) ∧ ∃ A', IsW w' g A' (whole l ++ ofB bs) ∧ Frm (g :: ob A) w w' ∧ ∀ x ∈ ob A', x ∈ ob A ∨ w.heap.size ≤ x := by
 obtain ⟨c, hb, ho⟩ := hW
 have hpl := pack_len l
 have hgA := ho.ne_blk hb (by decide)
 have hp : pack (whole l ++ ofB bs) = pack l ++ bs := by rw [pack_append_whole _ _ (by rw [whole_len]; omega), pack_whole, pack_ofB bs hB]
 have hlen : (whole l ++ ofB bs).length = 8 * ((pack l).length + bs.length) := by rw [List.length_append, whole_len, ofB_len, hpl]; omega
 refine VC.calls (nt := 22) (res := #[]) Try.func47 rfl Try.ntmps47 Try.results47 rfl ?_
 refine jS (jR (jM ?_))
 refine jM ?_
 refine Ops.r (Run.nilck rfl) rfl ?_
 refine Ops.r (Run.fieldAddr rfl Try.underlying97 rfl Try.sizeOf22 (by decide)) rfl ?_
 refine Ops.r (Run.load rfl Try.isAgg22 (hb.cell 0)) rfl ?_
 refine jM ?_
 refine Ops.m (Does.app rfl rfl Try.underlying22 (info5) rfl (by decide) ho hr (NB_one bs) (by omega) (by omega)) rfl ?_
 rintro _ w1 ⟨A1, c1, rfl, ho1, hfr1, hob1⟩
 have hb1 := hb.frm hfr1 hgA
 refine Ops.r (Run.nilck rfl) rfl ?_
 refine Ops.r (Run.fieldAddr rfl Try.underlying97 rfl Try.sizeOf22 (by decide)) rfl ?_
 refine Ops.st (Acts.store rfl rfl Try.sizeOf22 hb1 rfl rfl) ?_
 rintro w2 ⟨hb2, hfr2, hsz2⟩
 refine jO (jN (jv1 0 ?_))
 refine jR (jM ?_)
 refine jM ?_
 refine Ops.r (Run.nilck rfl) rfl ?_
 refine Ops.r (Run.fieldAddr rfl Try.underlying97 rfl Try.sizeOf22 (by decide)) rfl ?_
 refine Ops.r (Run.load rfl Try.isAgg22 (hb2.cell 0)) rfl ?_
 refine Ops.r (Run.lenS rfl Try.underlying22) rfl ?_
 refine Ops.r (Run.bin rfl rfl (Bin.mul_i64 8 _ (by omega))) rfl ?_
 refine Ops.r (Run.nilck rfl) rfl ?_
 refine Ops.r (Run.fieldAddr rfl Try.underlying97 rfl Try.sizeOf3 (by decide)) rfl ?_
 refine Ops.st (Acts.store rfl rfl Try.sizeOf3 hb2 rfl rfl) ?_
 rintro w3 ⟨hb3, hfr3, hsz3⟩
 refine jO ?_
 refine end0n ?_
 have hne : ∀ x ∈ ob A1, x ∉ [g] := by
  intro x hx hx2
  simp at hx2
  subst hx2
  exact ho1.ne_blk hb1 (by decide) hx
 refine ⟨rfl, A1, ⟨c1, ?_, ?_⟩, ?_, ?_⟩
 ·
  rw [hp, hlen, List.length_append]; exact hb3
 ·
  rw [hp, List.length_append, NB_append]; exact (ho1.frm hfr2 hne).frm hfr3 hne
 ·
  exact ((hfr1.mono (T := g :: ob A) (fun x hx => .inl (by simp [hx]))).trans hfr2 (fun x hx => .inl (by simp at hx; simp [hx]))).trans hfr3 (fun x hx => .inl (by simp at hx; simp [hx]))
 ·
  intro x hx
  rcases hob1 with h | h <;> rw [h] at hx
  ·
   exact .inl hx
  ·
   right; simp at hx; omega
set_option maxRecDepth 100000 in
theorem bytes_spec (g : Nat) (A : Option Addr) (l : List Bool) (w : World) (hl : l.length ≤ 1000000000000) (hW : IsW w g A l) :
  Calls Try.prog 22 #[.pointer (some ⟨g, 0, none⟩)] w fun e w' => ∃ B c, e = .returned (.slice B (pack l).length c) ∧ Own w' 5 1 B (pack l).length c (NB (pack l)) ∧ Frm [] w w' ∧ ∀ x ∈ ob B, w.heap.size ≤ x := by
 obtain ⟨c, hb, ho⟩ := hW
 have hpl := pack_len l
 refine VC.calls (nt := 8) (res := #[.tmp 2]) Try.func22 rfl Try.ntmps22 Try.results22 rfl ?_
 refine jS (jR (jA ?_))
 refine jO (jN (jv1 0 ?_))
 refine jS (jR (jM ?_))
 refine Ops.r (Run.nilck rfl) rfl ?_
 refine Ops.r (Run.fieldAddr rfl Try.underlying97 rfl Try.sizeOf22 (by decide)) rfl ?_
 refine Ops.r (Run.load rfl Try.isAgg22 (hb.cell 0)) rfl ?_
 refine Ops.m (Does.app rfl rfl Try.underlying22 (info5) rfl (by decide) (Own.nil _ _ _) ho.rd (NB_one _) (by omega) (by omega)) rfl ?_
 rintro _ w1 ⟨A1, c1, rfl, ho1, hfr1, hob1⟩
 refine jA ?_
 refine jO (jN (jv1 2 ?_))
 refine jT ?_
 refine end1 rfl ?_
 rw [Nat.zero_add, List.nil_append] at ho1
 refine ⟨A1, c1, by rw [Nat.zero_add], ho1, hfr1, ?_⟩
 intro x hx
 rcases hob1 with h | h <;> rw [h] at hx <;> simp [ob] at hx
 omega
set_option maxRecDepth 100000 in
theorem read_spec (B : Option Addr) (c0 : Nat) (bs : List Nat) (w : World) (hbs : bs.length ≤ 1000000000) (hr : Rd w 1 B bs.length (NB bs)) :
  Calls Try.prog 76 #[.slice B bs.length c0] w fun e w' => ∃ g A, e = .returned (.pointer (some ⟨g, 0, none⟩)) ∧ IsR w' g A bs 0 ∧ Frm [] w w' ∧ ∀ x ∈ g :: ob A, w.heap.size ≤ x := by
 refine VC.calls (nt := 7) (res := #[.tmp 2]) Try.func76 rfl Try.ntmps76 Try.results76 rfl ?_
 refine jS (jR (jA ?_))
 refine jO (jN (jv1 0 ?_))
 refine jS (jR (jM ?_))
 refine Ops.m (Does.app rfl rfl Try.underlying22 (info5) rfl (by decide) (Own.nil _ _ _) hr (NB_one _) (by omega) (by omega)) rfl ?_
 rintro _ w1 ⟨A1, c1, rfl, ho1, hfr1, hob1⟩
 rw [Nat.zero_add, List.nil_append] at ho1
 rw [Nat.zero_add]
 refine Ops.r (Run.build (evs.cons rfl evs.nil) zero155 (places155).choose_spec.1 (places155).choose_spec.2 rfl) rfl ?_
 refine Ops.m (Does.box rfl) rfl ?_
 rintro _ w2 ⟨rfl, hF⟩
 refine jA ?_
 refine jO (jN (jv1 2 ?_))
 refine jT ?_
 refine end1 rfl ?_
 refine ⟨w1.heap.size, A1, rfl, ⟨c1, hF.blk, ho1.frm hF.frm (by simp)⟩, hfr1.trans hF.frm (by simp), ?_⟩
 intro x hx
 rcases List.mem_cons.1 hx with rfl | hx
 ·
  exact hfr1.size
 ·
  rcases hob1 with h | h <;> rw [h] at hx <;> simp [ob] at hx
  omega
set_option maxRecDepth 100000 in
theorem at_spec (g p : Nat) (A : Option Addr) (bs : List Nat) (w : World) (hR : IsR w g A bs p) :
  Calls Try.prog 78 #[.pointer (some ⟨g, 0, none⟩)] w fun e w' => e = .returned (.int .i64 ((p : Nat) : Int)) ∧ w = w' := by
 obtain ⟨c, hb, ho⟩ := hR
 refine VC.calls (nt := 7) (res := #[.tmp 2]) Try.func78 rfl Try.ntmps78 Try.results78 rfl ?_
 refine jS (jR ?_)
 refine Ops.r (v := .int .i64 ((0 : Nat) : Int)) (Run.asg rfl) rfl ?_
 refine jO (jN (jv1 0 ?_))
 refine jS (jR (jM ?_))
 refine Ops.r (Run.nilck rfl) rfl ?_
 refine Ops.r (Run.fieldAddr rfl Try.underlying155 rfl Try.sizeOf3 (by decide)) rfl ?_
 refine Ops.r (Run.load rfl Try.isAgg3 (hb.cell 1)) rfl ?_
 refine jA ?_
 refine jO (jN (jv1 2 ?_))
 refine jT ?_
 refine end1 rfl ?_
 exact ⟨rfl, rfl⟩
set_option maxRecDepth 100000 in
theorem left_spec (g p : Nat) (A : Option Addr) (bs : List Nat) (w : World) (hp : p ≤ 8 * bs.length) (hbs : bs.length ≤ 1000000000) (hR : IsR w g A bs p) :
  Calls Try.prog 110 #[.pointer (some ⟨g, 0, none⟩)] w fun e w' => e = .returned (.int .i64 ((8 * bs.length - p : Nat) : Int)) ∧ Drawn w w' := by
 obtain ⟨c, hb, ho⟩ := hR
 refine VC.calls (nt := 14) (res := #[.tmp 2]) Try.func110 rfl Try.ntmps110 Try.results110 rfl ?_
 refine jS (jR ?_)
 refine Ops.r (v := .int .i64 ((0 : Nat) : Int)) (Run.asg rfl) rfl ?_
 refine jO (jN (jv1 0 ?_))
 refine jS ?_
 refine VC.still jK jK ?_
 refine SOps.r (Run.mv rfl) rfl ?_
 refine SOps.r (Run.nilck rfl) rfl ?_
 refine SOps.r (Run.fieldAddr rfl Try.underlying155 rfl Try.sizeOf22 (by decide)) rfl ?_
 refine SOps.r (Run.load rfl Try.isAgg22 (hb.cell 0)) rfl ?_
 refine SOps.r (Run.lenS rfl Try.underlying22) rfl ?_
 refine SOps.r (Run.bin rfl rfl (Bin.mul_i64 8 _ (by omega))) rfl ?_
 refine SOps.r (Run.mv rfl) rfl ?_
 refine SOps.r (Run.nilck rfl) rfl ?_
 refine SOps.r (Run.fieldAddr rfl Try.underlying155 rfl Try.sizeOf3 (by decide)) rfl ?_
 refine SOps.r (Run.load rfl Try.isAgg3 (hb.cell 1)) rfl ?_
 refine SOps.r (Run.bin rfl rfl (Bin.sub_i64 _ _ (by omega) (by omega))) rfl ?_
 refine SOps.r (Run.asg rfl) rfl ?_
 refine SOps.nil ?_
 refine jN (jv1 2 ?_)
 refine jT ?_
 refine end1 rfl ?_
 exact ⟨rfl, Drawn.drew _⟩
set_option maxRecDepth 100000 in
theorem align_spec (g p : Nat) (A : Option Addr) (bs : List Nat) (w : World) (hp : p ≤ 8 * bs.length) (hbs : bs.length ≤ 1000000000) (hR : IsR w g A bs p) :
  Calls Try.prog 103 #[.pointer (some ⟨g, 0, none⟩)] w fun e w' => e = .returned (.tuple #[]) ∧ IsR w' g A bs ((p + 7) / 8 * 8) ∧ Frm [g] w w' := by
 obtain ⟨c, hb, ho⟩ := hR
 refine VC.calls (nt := 12) (res := #[]) Try.func103 rfl Try.ntmps103 Try.results103 rfl ?_
 refine jR (jM ?_)
 refine jM ?_
 refine Ops.r (Run.nilck rfl) rfl ?_
 refine Ops.r (Run.fieldAddr rfl Try.underlying155 rfl Try.sizeOf3 (by decide)) rfl ?_
 refine Ops.r (Run.load rfl Try.isAgg3 (hb.cell 1)) rfl ?_
 refine Ops.r (Run.bin rfl rfl (Bin.add_i64 _ 7 (by omega))) rfl ?_
 refine Ops.r (Run.bin rfl rfl (Bin.quo_i64 _ 8 (by omega) (by omega))) rfl ?_
 refine Ops.r (Run.bin rfl rfl (Bin.mul_i64 _ 8 (by omega))) rfl ?_
 refine Ops.r (Run.nilck rfl) rfl ?_
 refine Ops.r (Run.fieldAddr rfl Try.underlying155 rfl Try.sizeOf3 (by decide)) rfl ?_
 refine Ops.st (Acts.store rfl rfl Try.sizeOf3 hb rfl rfl) ?_
 rintro w1 ⟨hb1, hfr1, hsz1⟩
 refine jO ?_
 refine end0n ?_
 refine ⟨rfl, ⟨c, hb1, ho.frm hfr1 ?_⟩, hfr1⟩
 intro x hx hx2
 simp at hx2
 subst hx2
 exact ho.ne_blk hb (by decide) hx
set_option maxRecDepth 100000 in
theorem take_neg (g : Nat) (n : Int) (w : World) (hn : n < 0) :
  Calls Try.prog 101 #[.pointer (some ⟨g, 0, none⟩), .int .i64 n] w fun e w' => e = .returned (.tuple #[.int .u64 ((0 : Nat) : Int), .int .i64 ((1 : Nat) : Int)]) ∧ w = w' := by
 refine VC.calls (nt := 56) (res := #[.tmp 4, .tmp 5]) Try.func101 rfl Try.ntmps101 Try.results101 rfl ?_
 refine jS (jR ?_)
 refine Ops.r (v := .int .u64 ((0 : Nat) : Int)) (Run.asg rfl) rfl ?_
 refine Ops.r (v := .int .i64 ((0 : Nat) : Int)) (Run.asg rfl) rfl ?_
 refine jO (jN (jv2 0 1 ?_))
 refine jS (jB (jS (jR (jM ?_))))
 refine Ops.r (Run.bin rfl rfl (Bin.lss _ 0)) rfl ?_
 refine jM ?_
 refine Ops.sk rfl (by simpa using hn) rfl ?_
 refine Ops.sk rfl (by simpa using hn) rfl ?_
 refine Ops.r (Run.pickT rfl rfl (decide_eq_true hn)) rfl ?_
 refine jA ?_
 refine jO (jN (jv3 0 1 8 ?_))
 refine VC.condT rfl (rfl) ?_
 refine jS (jR ?_)
 refine Ops.r (v := .int .u64 ((0 : Nat) : Int)) (Run.asg rfl) rfl ?_
 refine Ops.r (v := .int .i64 ((1 : Nat) : Int)) (Run.asg rfl) rfl ?_
 refine jO (jN (jv2 4 5 ?_))
 refine jT ?_
 refine blockQ_r (thenQ_r (end2 rfl rfl ?_))
 exact ⟨rfl, rfl⟩
set_option maxRecDepth 100000 in
theorem take_big (g : Nat) (n : Int) (w : World) (hn : 32 < n) :
  Calls Try.prog 101 #[.pointer (some ⟨g, 0, none⟩), .int .i64 n] w fun e w' => e = .returned (.tuple #[.int .u64 ((0 : Nat) : Int), .int .i64 ((1 : Nat) : Int)]) ∧ w = w' := by
 refine VC.calls (nt := 56) (res := #[.tmp 4, .tmp 5]) Try.func101 rfl Try.ntmps101 Try.results101 rfl ?_
 refine jS (jR ?_)
 refine Ops.r (v := .int .u64 ((0 : Nat) : Int)) (Run.asg rfl) rfl ?_
 refine Ops.r (v := .int .i64 ((0 : Nat) : Int)) (Run.asg rfl) rfl ?_
 refine jO (jN (jv2 0 1 ?_))
 refine jS (jB (jS (jR (jM ?_))))
 refine Ops.r (Run.bin rfl rfl (Bin.lss _ 0)) rfl ?_
 refine jM ?_
 refine Ops.rg rfl (decide_eq_false (by omega)) (Run.mv rfl) rfl ?_
 refine Ops.rg rfl (decide_eq_false (by omega)) (Run.bin rfl rfl (Bin.gtr _ 32)) rfl ?_
 refine Ops.r (Run.pickF rfl rfl (decide_eq_false (by omega))) rfl ?_
 refine jA ?_
 refine jO (jN (jv3 0 1 8 ?_))
 refine VC.condT rfl (decide_eq_true hn) ?_
 refine jS (jR ?_)
 refine Ops.r (v := .int .u64 ((0 : Nat) : Int)) (Run.asg rfl) rfl ?_
 refine Ops.r (v := .int .i64 ((1 : Nat) : Int)) (Run.asg rfl) rfl ?_
 refine jO (jN (jv2 4 5 ?_))
 refine jT ?_
 refine blockQ_r (thenQ_r (end2 rfl rfl ?_))
 exact ⟨rfl, rfl⟩
set_option maxRecDepth 100000 in
theorem take_short (g n p : Nat) (A : Option Addr) (bs : List Nat) (w : World) (hp : p ≤ 8 * bs.length) (hbs : bs.length ≤ 1000000000) (hR : IsR w g A bs p) (hn : n ≤ 32) (hs : 8 * bs.length - p < n) :
  Calls Try.prog 101 #[.pointer (some ⟨g, 0, none⟩), .int .i64 n] w fun e w' => e = .returned (.tuple #[.int .u64 ((0 : Nat) : Int), .int .i64 ((2 : Nat) : Int)]) ∧ Drawn w w' := by
 refine VC.calls (nt := 56) (res := #[.tmp 4, .tmp 5]) Try.func101 rfl Try.ntmps101 Try.results101 rfl ?_
 refine jS (jR ?_)
 refine Ops.r (v := .int .u64 ((0 : Nat) : Int)) (Run.asg rfl) rfl ?_
 refine Ops.r (v := .int .i64 ((0 : Nat) : Int)) (Run.asg rfl) rfl ?_
 refine jO (jN (jv2 0 1 ?_))
 refine jS (jB (jS (jR (jM ?_))))
 refine Ops.r (Run.bin rfl rfl (Bin.lssN _ 0)) rfl ?_
 refine jM ?_
 refine Ops.rg rfl (decide_eq_false (by omega)) (Run.mv rfl) rfl ?_
 refine Ops.rg rfl (decide_eq_false (by omega)) (Run.bin rfl rfl (Bin.gtrN _ 32)) rfl ?_
 refine Ops.r (Run.pickF rfl rfl (decide_eq_false (by omega))) rfl ?_
 refine jA ?_
 refine jO (jN (jv3 0 1 8 ?_))
 refine VC.condF rfl (decide_eq_false (by omega)) ?_
 refine jS (jR (jM ?_))
 refine jM ?_
 refine Ops.cl (Enters.fn (evs.cons rfl evs.nil) Try.call110) (left_spec g p A bs _ hp hbs hR) rfl ?_
 rintro e w1 ⟨rfl, hd1⟩
 refine ⟨_, rfl, ?_⟩
 refine Ops.r (Run.bin rfl rfl (Bin.gtrN _ _)) rfl ?_
 refine jA ?_
 refine jO (jN (jv3 0 1 15 ?_))
 refine VC.condT rfl (decide_eq_true hs) ?_
 refine jS (jR ?_)
 refine Ops.r (v := .int .u64 ((0 : Nat) : Int)) (Run.asg rfl) rfl ?_
 refine Ops.r (v := .int .i64 ((2 : Nat) : Int)) (Run.asg rfl) rfl ?_
 refine jO (jN (jv2 4 5 ?_))
 refine jT ?_
 refine blockQ_r (thenQ_r (end2 rfl rfl ?_))
 exact ⟨rfl, hd1⟩
set_option maxRecDepth 100000 in
theorem take_ok (g n p : Nat) (A : Option Addr) (bs : List Nat) (w : World) (hp : p ≤ 8 * bs.length) (hbs : bs.length ≤ 1000000000) (hB : ∀ b ∈ bs, b < 256) (hR : IsR w g A bs p) (hn : n ≤ 32) (hs : n ≤ 8 * bs.length - p) :
  Calls Try.prog 101 #[.pointer (some ⟨g, 0, none⟩), .int .i64 n] w fun e w' => e = .returned (.tuple #[.int .u64 ((num (((ofB bs).drop p).take n) : Nat) : Int), .int .i64 ((0 : Nat) : Int)]) ∧ IsR w' g A bs (p + n) ∧ Frm [g] w w' := by
 refine VC.calls (nt := 56) (res := #[.tmp 4, .tmp 5]) Try.func101 rfl Try.ntmps101 Try.results101 rfl ?_
 refine jS (jR ?_)
 refine Ops.r (v := .int .u64 ((0 : Nat) : Int)) (Run.asg rfl) rfl ?_
 refine Ops.r (v := .int .i64 ((0 : Nat) : Int)) (Run.asg rfl) rfl ?_
 refine jO (jN (jv2 0 1 ?_))
 refine jS (jB (jS (jR (jM ?_))))
 refine Ops.r (Run.bin rfl rfl (Bin.lssN _ 0)) rfl ?_
 refine jM ?_
 refine Ops.rg rfl (decide_eq_false (by omega)) (Run.mv rfl) rfl ?_
 refine Ops.rg rfl (decide_eq_false (by omega)) (Run.bin rfl rfl (Bin.gtrN _ 32)) rfl ?_
 refine Ops.r (Run.pickF rfl rfl (decide_eq_false (by omega))) rfl ?_
 refine jA ?_
 refine jO (jN (jv3 0 1 8 ?_))
 refine VC.condF rfl (decide_eq_false (by omega)) ?_
 refine jS (jR (jM ?_))
 refine jM ?_
 refine Ops.cl (Enters.fn (evs.cons rfl evs.nil) Try.call110) (left_spec g p A bs _ hp hbs hR) rfl ?_
 rintro e w1 ⟨rfl, hd1⟩
 refine ⟨_, rfl, ?_⟩
 refine Ops.r (Run.bin rfl rfl (Bin.gtrN _ _)) rfl ?_
 refine jA ?_
 refine jO (jN (jv3 0 1 15 ?_))
 refine VC.condF rfl (decide_eq_false (by omega)) ?_
 refine jQ ?_
 refine blockQ_n (jN ?_)
 refine jv2 0 1 ?_
 refine jS (jR ?_)
 refine Ops.r (v := .int .u64 ((0 : Nat) : Int)) (Run.asg rfl) rfl ?_
 refine jO (jN (jS (jS (jR (jM ?_)))))
 refine Ops.r (v := .int .i64 ((0 : Nat) : Int)) (Run.mv rfl) rfl ?_
 refine jO (jN (jv4 0 6 20 21 ?_))
 refine jB ?_
 refine VC.loop (σ := Nat) (fun s => [(0, .pointer (some ⟨g, 0, none⟩)), (6, .int .u64 ((num (((ofB bs).drop p).take s) : Nat) : Int)), (20, .int .i64 n), (21, .int .i64 s)]) (fun s wr => s ≤ n ∧ IsR wr g A bs (p + s) ∧ Frm [g] w wr) (fun s => n - s) 0 (js4 rfl rfl rfl rfl) ⟨by omega, hR.frm hd1.frm (by simp), hd1.frm.mono (by simp)⟩ ?_
 rintro k wr ⟨hk, hR1, hfr1⟩
 obtain ⟨c, hb, ho⟩ := hR1
 refine jS (jR ?_)
 refine Ops.r (Run.bin rfl rfl (Bin.lssN _ _)) rfl ?_
 refine jO (jN (jS ?_))
 refine VC.condD rfl (fun hc3 => ?_) (fun hc3 => ?_)
 ·
  obtain ⟨ad, rfl, hadlt, hadc⟩ := ho.rd.2 (by omega)
  have hcell := hadc _ _ (NB_get bs ((p + k) / 8) (by omega))
  have hbl : bs.getD ((p + k) / 8) 0 < 256 := by
   rw [List.getD_eq_getElem?_getD, List.getElem?_eq_getElem (by omega)]
   exact hB _ (List.getElem_mem _)
  have hpk : 2 ^ k ≤ 2 ^ 32 := Nat.pow_le_pow_right (by omega) (by omega)
  have hbit := ofB_get bs (p + k) (by omega)
  have hnk := num_lt (((ofB bs).drop p).take k)
  have hnl : (((ofB bs).drop p).take k).length = k := by rw [List.length_take, List.length_drop, ofB_len]; omega
  rw [hnl] at hnk
  have hsn := take_succ_num (ofB bs) p k _ hbit
  rw [← or_top _ _ _ hnk] at hsn
  have h1m := and1 (bs.getD ((p + k) / 8) 0 / 2 ^ ((p + k) % 8))
  have hdl : bs.getD ((p + k) / 8) 0 / 2 ^ ((p + k) % 8) ≤ 255 := Nat.le_trans (Nat.div_le_self _ _) (by omega)
  have h1l : bs.getD ((p + k) / 8) 0 / 2 ^ ((p + k) % 8) &&& 1 ≤ 1 := Nat.and_le_right
  have h2l : (bs.getD ((p + k) / 8) 0 / 2 ^ ((p + k) % 8) &&& 1) * 2 ^ k ≤ 1 * 2 ^ k := Nat.mul_le_mul_right _ h1l
  refine jQ (jN (jv4 0 6 20 21 ?_))
  refine jS (jB (jS (jR (jM ?_))))
  refine jA ?_
  refine jO (jN (jv5 0 6 7 20 21 ?_))
  refine jS ?_
  refine VC.still jK jK ?_
  refine SOps.r (Run.mv rfl) rfl ?_
  refine SOps.r (Run.mv rfl) rfl ?_
  refine SOps.r (Run.nilck rfl) rfl ?_
  refine SOps.r (Run.fieldAddr rfl Try.underlying155 rfl Try.sizeOf22 (by decide)) rfl ?_
  refine SOps.r (Run.load rfl Try.isAgg22 (hb.cell 0)) rfl ?_
  refine SOps.r (Run.mv rfl) rfl ?_
  refine SOps.r (Run.nilck rfl) rfl ?_
  refine SOps.r (Run.fieldAddr rfl Try.underlying155 rfl Try.sizeOf3 (by decide)) rfl ?_
  refine SOps.r (Run.load rfl Try.isAgg3 (hb.cell 1)) rfl ?_
  refine SOps.r (Run.bin rfl rfl (Bin.quo_i64 _ 8 (by omega) (by omega))) rfl ?_
  refine SOps.r (Run.index1 _ rfl rfl Try.underlying22 Try.sizeOf5 (by omega)) rfl ?_
  refine SOps.r (Run.load rfl Try.isAgg5 hcell) rfl ?_
  refine SOps.r (Run.mv rfl) rfl ?_
  refine SOps.r (Run.nilck rfl) rfl ?_
  refine SOps.r (Run.fieldAddr rfl Try.underlying155 rfl Try.sizeOf3 (by decide)) rfl ?_
  refine SOps.r (Run.load rfl Try.isAgg3 (hb.cell 1)) rfl ?_
  refine SOps.r (Run.bin rfl rfl (Bin.remN _ 8 (by omega))) rfl ?_
  refine SOps.r (Run.bin rfl rfl (Bin.shr_u8 _ _ (by omega))) rfl ?_
  refine SOps.r (Run.bin rfl rfl (Bin.and_u8 _ 1 hdl (by omega))) rfl ?_
  refine SOps.r (Run.convN _ rfl Try.underlying5 Try.underlying37 (by simp only [bmax]; omega)) rfl ?_
  refine SOps.r (Run.mv rfl) rfl ?_
  refine SOps.r (Run.bin rfl rfl (Bin.shl_u64 _ _ (by omega) (by omega))) rfl ?_
  refine SOps.r (Run.bin rfl rfl (Bin.or_u64 _ _ (by omega) (by omega))) rfl ?_
  refine SOps.r (Run.asg rfl) rfl ?_
  refine SOps.nil ?_
  refine jN (jv4 0 6 20 21 ?_)
  refine jR (jM ?_)
  refine Ops.r (Run.nilck rfl) rfl ?_
  refine Ops.r (Run.fieldAddr rfl Try.underlying155 rfl Try.sizeOf3 (by decide)) rfl ?_
  refine Ops.r (Run.load rfl Try.isAgg3 ((hb.drawn (Drawn.drew _)).cell 1)) rfl ?_
  refine Ops.r (Run.bin rfl rfl (Bin.add_i64 _ 1 (by omega))) rfl ?_
  refine Ops.r (Run.nilck rfl) rfl ?_
  refine Ops.r (Run.fieldAddr rfl Try.underlying155 rfl Try.sizeOf3 (by decide)) rfl ?_
  refine Ops.st (Acts.store rfl rfl Try.sizeOf3 (hb.drawn (Drawn.drew _)) rfl rfl) ?_
  rintro w2 ⟨hb2, hfr2, hsz2⟩
  refine jO ?_
  refine blockQ_n (jN ?_)
  refine jv4 0 6 20 21 ?_
  refine jR ?_
  refine Ops.r (Run.bin rfl rfl (Bin.add_i64 _ 1 (by omega))) rfl ?_
  refine jM ?_
  refine jO ?_
  refine jN ⟨(k + 1), (js4 rfl (by rw [hsn, ← h1m]; rfl) rfl rfl), ?_, ?_⟩
  ·
   refine ⟨hc3, ⟨c, hb2, (ho.drawn (Drawn.drew _)).frm hfr2 ?_⟩, (hfr1.drawn (Drawn.drew _)).trans hfr2 (fun x hx => .inl hx)⟩
   intro x hx hx2
   simp at hx2
   subst hx2
   exact ho.ne_blk hb (by decide) hx
  ·
   first | omega | (dsimp only; omega)
 ·
  refine jX ?_
  refine thenQ_x (thenQ_x (blockQ_x ?_))
  refine jN (jv1 6 ?_)
  refine jS (jR (jM ?_))
  refine jA ?_
  refine Ops.r (v := .int .i64 ((0 : Nat) : Int)) (Run.asg rfl) rfl ?_
  refine jO (jN (jv2 4 5 ?_))
  refine jT ?_
  refine end2 rfl rfl ?_
  have : k = n := by omega
  subst this
  exact ⟨rfl, ⟨c, hb, ho⟩, hfr1⟩
set_option maxRecDepth 100000 in
theorem octets_neg (g : Nat) (n : Int) (p : Nat) (A : Option Addr) (bs : List Nat) (w : World) (hp : p ≤ 8 * bs.length) (hbs : bs.length ≤ 1000000000) (hR : IsR w g A bs p) (hn : n < 0) :
  Calls Try.prog 104 #[.pointer (some ⟨g, 0, none⟩), .int .i64 n] w fun e w' => e = .returned (.tuple #[.slice none 0 0, .int .i64 ((1 : Nat) : Int)]) ∧ IsR w' g A bs ((p + 7) / 8 * 8) ∧ Frm [g] w w' := by
 refine VC.calls (nt := 42) (res := #[.tmp 4, .tmp 5]) Try.func104 rfl Try.ntmps104 Try.results104 rfl ?_
 refine jS (jR (jA ?_))
 refine Ops.r (v := .int .i64 ((0 : Nat) : Int)) (Run.asg rfl) rfl ?_
 refine jO (jN (jv2 0 1 ?_))
 refine jS (jR (jM ?_))
 refine Ops.cl (Enters.fn (evs.cons rfl evs.nil) Try.call103) (align_spec g p A bs _ hp hbs hR) rfl ?_
 rintro e w1 ⟨rfl, hR1, hfr1⟩
 refine ⟨_, rfl, ?_⟩
 have hq : (p + 7) / 8 * 8 ≤ 8 * bs.length := by omega
 refine jO (jN (jv2 0 1 ?_))
 refine jS (jB (jS (jR (jM ?_))))
 refine Ops.r (Run.bin rfl rfl (Bin.lss _ 0)) rfl ?_
 refine jA ?_
 refine jO (jN (jv3 0 1 9 ?_))
 refine VC.condT rfl (decide_eq_true hn) ?_
 refine jS (jR (jA ?_))
 refine Ops.r (v := .int .i64 ((1 : Nat) : Int)) (Run.asg rfl) rfl ?_
 refine jO (jN (jv2 4 5 ?_))
 refine jT ?_
 refine blockQ_r (thenQ_r (end2 rfl rfl ?_))
 exact ⟨rfl, hR1, hfr1⟩
set_option maxRecDepth 100000 in
theorem octets_short (g n : Nat) (p : Nat) (A : Option Addr) (bs : List Nat) (w : World) (hp : p ≤ 8 * bs.length) (hbs : bs.length ≤ 1000000000) (hR : IsR w g A bs p) (hn : (8 * bs.length - (p + 7) / 8 * 8) / 8 < n) :
  Calls Try.prog 104 #[.pointer (some ⟨g, 0, none⟩), .int .i64 n] w fun e w' => e = .returned (.tuple #[.slice none 0 0, .int .i64 ((2 : Nat) : Int)]) ∧ IsR w' g A bs ((p + 7) / 8 * 8) ∧ Frm [g] w w' := by
 refine VC.calls (nt := 42) (res := #[.tmp 4, .tmp 5]) Try.func104 rfl Try.ntmps104 Try.results104 rfl ?_
 refine jS (jR (jA ?_))
 refine Ops.r (v := .int .i64 ((0 : Nat) : Int)) (Run.asg rfl) rfl ?_
 refine jO (jN (jv2 0 1 ?_))
 refine jS (jR (jM ?_))
 refine Ops.cl (Enters.fn (evs.cons rfl evs.nil) Try.call103) (align_spec g p A bs _ hp hbs hR) rfl ?_
 rintro e w1 ⟨rfl, hR1, hfr1⟩
 refine ⟨_, rfl, ?_⟩
 have hq : (p + 7) / 8 * 8 ≤ 8 * bs.length := by omega
 refine jO (jN (jv2 0 1 ?_))
 refine jS (jB (jS (jR (jM ?_))))
 refine Ops.r (Run.bin rfl rfl (Bin.lssN _ 0)) rfl ?_
 refine jA ?_
 refine jO (jN (jv3 0 1 9 ?_))
 refine VC.condF rfl (decide_eq_false (by omega)) ?_
 refine jS (jR (jM ?_))
 refine jM ?_
 refine Ops.cl (Enters.fn (evs.cons rfl evs.nil) Try.call110) (left_spec g ((p + 7) / 8 * 8) A bs _ hq hbs hR1) rfl ?_
 rintro e w2 ⟨rfl, hd2⟩
 refine ⟨_, rfl, ?_⟩
 refine Ops.r (Run.bin rfl rfl (Bin.quo_i64 _ 8 (by omega) (by omega))) rfl ?_
 refine Ops.r (Run.bin rfl rfl (Bin.gtrN _ _)) rfl ?_
 refine jA ?_
 refine jO (jN (jv3 0 1 12 ?_))
 refine VC.condT rfl (decide_eq_true hn) ?_
 refine jS (jR (jA ?_))
 refine Ops.r (v := .int .i64 ((2 : Nat) : Int)) (Run.asg rfl) rfl ?_
 refine jO (jN (jv2 4 5 ?_))
 refine jT ?_
 refine blockQ_r (thenQ_r (end2 rfl rfl ?_))
 exact ⟨rfl, hR1.frm hd2.frm (by simp), hfr1.drawn hd2⟩
set_option maxRecDepth 100000 in
theorem octets_ok (g n : Nat) (p : Nat) (A : Option Addr) (bs : List Nat) (w : World) (hp : p ≤ 8 * bs.length) (hbs : bs.length ≤ 1000000000) (hR : IsR w g A bs p) (hn : n ≤ (8 * bs.length - (p + 7) / 8 * 8) / 8) :
  Calls Try.prog 104 #[.pointer (some ⟨g, 0, none⟩), .int .i64 n] w fun e w' => ∃ B c, e = .returned (.tuple #[.slice B n c, .int .i64 ((0 : Nat) : Int)]) ∧ Own w' 5 1 B n c (NB ((bs.drop ((p + 7) / 8)).take n)) ∧ IsR w' g A bs ((p + 7) / 8 * 8 + 8 * n) ∧ Frm [g] w w' ∧ ∀ x ∈ ob B, w.heap.size ≤ x := by
 refine VC.calls (nt := 42) (res := #[.tmp 4, .tmp 5]) Try.func104 rfl Try.ntmps104 Try.results104 rfl ?_
 refine jS (jR (jA ?_))
 refine Ops.r (v := .int .i64 ((0 : Nat) : Int)) (Run.asg rfl) rfl ?_
 refine jO (jN (jv2 0 1 ?_))
 refine jS (jR (jM ?_))
 refine Ops.cl (Enters.fn (evs.cons rfl evs.nil) Try.call103) (align_spec g p A bs _ hp hbs hR) rfl ?_
 rintro e w1 ⟨rfl, hR1, hfr1⟩
 refine ⟨_, rfl, ?_⟩
 have hq : (p + 7) / 8 * 8 ≤ 8 * bs.length := by omega
 refine jO (jN (jv2 0 1 ?_))
 refine jS (jB (jS (jR (jM ?_))))
 refine Ops.r (Run.bin rfl rfl (Bin.lssN _ 0)) rfl ?_
 refine jA ?_
 refine jO (jN (jv3 0 1 9 ?_))
 refine VC.condF rfl (decide_eq_false (by omega)) ?_
 refine jS (jR (jM ?_))
 refine jM ?_
 refine Ops.cl (Enters.fn (evs.cons rfl evs.nil) Try.call110) (left_spec g ((p + 7) / 8 * 8) A bs _ hq hbs hR1) rfl ?_
 rintro e w2 ⟨rfl, hd2⟩
 refine ⟨_, rfl, ?_⟩
 obtain ⟨c, hb, ho⟩ := hR1.frm hd2.frm (by simp)
 refine Ops.r (Run.bin rfl rfl (Bin.quo_i64 _ 8 (by omega) (by omega))) rfl ?_
 refine Ops.r (Run.bin rfl rfl (Bin.gtrN _ _)) rfl ?_
 refine jA ?_
 refine jO (jN (jv3 0 1 12 ?_))
 refine VC.condF rfl (decide_eq_false (by omega)) ?_
 refine jQ ?_
 refine blockQ_n (jN ?_)
 refine jv2 0 1 ?_
 refine jS (jR (jM ?_))
 refine Ops.r (Run.nilck rfl) rfl ?_
 refine Ops.r (Run.fieldAddr rfl Try.underlying155 rfl Try.sizeOf3 (by decide)) rfl ?_
 refine Ops.r (Run.load rfl Try.isAgg3 (hb.cell 1)) rfl ?_
 refine Ops.r (Run.bin rfl rfl (Bin.quo_i64 _ 8 (by omega) (by omega))) rfl ?_
 refine jA ?_
 refine jO (jN (jv3 0 1 6 ?_))
 refine jS (jR (jM ?_))
 refine Ops.r (Run.nilck rfl) rfl ?_
 refine Ops.r (Run.fieldAddr rfl Try.underlying155 rfl Try.sizeOf3 (by decide)) rfl ?_
 refine Ops.r (Run.load rfl Try.isAgg3 (hb.cell 1)) rfl ?_
 refine jM ?_
 refine Ops.r (Run.bin rfl rfl (Bin.mul_i64 8 _ (by omega))) rfl ?_
 refine Ops.r (Run.bin rfl rfl (Bin.add_i64 _ _ (by omega))) rfl ?_
 refine Ops.r (Run.nilck rfl) rfl ?_
 refine Ops.r (Run.fieldAddr rfl Try.underlying155 rfl Try.sizeOf3 (by decide)) rfl ?_
 refine Ops.st (Acts.store rfl rfl Try.sizeOf3 hb rfl rfl) ?_
 rintro w3 ⟨hb3, hfr3, hsz3⟩
 have hne : ∀ x ∈ ob A, x ∉ [g] := by
  intro x hx hx2
  simp at hx2
  subst hx2
  exact ho.ne_blk hb (by decide) hx
 have ho3 := ho.frm hfr3 hne
 have hcap := ho3.le
 refine jO (jN (jv3 0 1 6 ?_))
 refine jS (jR (jM ?_))
 refine Ops.r (Run.nilck rfl) rfl ?_
 refine Ops.r (Run.fieldAddr rfl Try.underlying155 rfl Try.sizeOf22 (by decide)) rfl ?_
 refine Ops.r (Run.load rfl Try.isAgg22 (hb3.cell 0)) rfl ?_
 refine jM ?_
 refine jM ?_
 refine jM ?_
 refine Ops.r (Run.bin rfl rfl (Bin.add_i64 _ _ (by omega))) rfl ?_
 refine Ops.r (Run.sliceS _ _ rfl Try.underlying22 Try.sizeOf5 (evB.some_ rfl) (evB.some_ rfl) (by omega) (by omega)) rfl ?_
 refine Ops.m (Does.app rfl rfl Try.underlying22 (info5) rfl (by decide) (Own.nil _ _ _) (ho3.rd.cut (cap := c) (l := (p + 7) / 8 * 8 / 8) (r := (p + 7) / 8 * 8 / 8 + n) (by omega) (by omega) hcap) (fun u hu => NB_one bs u (List.mem_of_mem_drop (List.mem_of_mem_take hu))) (by omega) (by omega)) rfl ?_
 rintro _ w4 ⟨A4, c4, rfl, ho4, hfr4, hob4⟩
 refine jA ?_
 refine Ops.r (v := .int .i64 ((0 : Nat) : Int)) (Run.asg rfl) rfl ?_
 refine jO (jN (jv2 4 5 ?_))
 refine jT ?_
 refine end2 rfl rfl ?_
 have e1 : (p + 7) / 8 * 8 / 8 = (p + 7) / 8 := by omega
 have e2 : 0 + ((p + 7) / 8 * 8 / 8 + n - (p + 7) / 8 * 8 / 8) = n := by omega
 have e3 : [] ++ List.take (((p + 7) / 8 * 8 / 8 + n - (p + 7) / 8 * 8 / 8) * 1) (List.drop ((p + 7) / 8 * 8 / 8 * 1) (NB bs)) = NB ((bs.drop ((p + 7) / 8)).take n) := by
  rw [List.nil_append, Nat.mul_one, Nat.mul_one, e1, Nat.add_sub_cancel_left]
  simp [NB, List.map_take, List.map_drop]
 rw [e2, e3] at ho4
 rw [e2]
 refine ⟨A4, c4, rfl, ho4, ⟨c, hb3.frm hfr4 (by simp [ob]), ho3.frm hfr4 (by simp [ob])⟩, ?_, ?_⟩
 ·
  exact ((hfr1.drawn hd2).trans hfr3 (fun x hx => .inl hx)).trans hfr4 (by simp [ob])
 ·
  intro x hx
  have := hfr1.size
  have := hd2.frm.size
  have := hfr3.size
  rcases hob4 with h | h <;> rw [h] at hx <;> simp [ob] at hx
  omega
end Go.Proofs.Ytnmieihcjjiccaa
namespace Go.Proofs.Ytnmieihcjjiccaa
open Go.RowKit
def CI (f : Nat → Nat) : List Value := (List.range 16).map fun k => .int .i64 ((f k : Nat) : Int)
def CU (f : Nat → Nat) : List Value := (List.range 16).map fun k => .int .u64 ((f k : Nat) : Int)
theorem CI_get (f : Nat → Nat) (k : Nat) (h : k < 16) : (CI f)[k]? = some (.int .i64 ((f k : Nat) : Int)) := by simp [CI, h]
theorem CU_get (f : Nat → Nat) (k : Nat) (h : k < 16) : (CU f)[k]? = some (.int .u64 ((f k : Nat) : Int)) := by simp [CU, h]
theorem CI_set (f : Nat → Nat) (m v : Nat) : (CI f).toArray.setIfInBounds m (.int .i64 ((v : Nat) : Int)) = (CI fun k => if k = m then v else f k).toArray := by
 apply Array.toList_inj.1
 rw [Array.toList_setIfInBounds]
 apply List.ext_getElem?
 intro j
 simp only [CI, List.getElem?_set, List.length_map, List.length_range, List.getElem?_map]
 by_cases h : m = j
 ·
  subst h
  by_cases h2 : m < 16 <;> simp [h2]
 ·
  have h3 : ¬ j = m := fun e => h e.symm
  by_cases h2 : j < 16 <;> simp [h2, h, h3]
theorem CU_set (f : Nat → Nat) (m v : Nat) : (CU f).toArray.setIfInBounds m (.int .u64 ((v : Nat) : Int)) = (CU fun k => if k = m then v else f k).toArray := by
 apply Array.toList_inj.1
 rw [Array.toList_setIfInBounds]
 apply List.ext_getElem?
 intro j
 simp only [CU, List.getElem?_set, List.length_map, List.length_range, List.getElem?_map]
 by_cases h : m = j
 ·
  subst h
  by_cases h2 : m < 16 <;> simp [h2]
 ·
  have h3 : ¬ j = m := fun e => h e.symm
  by_cases h2 : j < 16 <;> simp [h2, h, h3]
theorem CI_one (f : Nat → Nat) : ∀ v ∈ (CI f).toArray.toList, v.oneCell' = true := by
 intro v hv
 obtain ⟨b, _, rfl⟩ := List.mem_map.1 (show v ∈ CI f from hv)
 rfl
theorem CU_one (f : Nat → Nat) : ∀ v ∈ (CU f).toArray.toList, v.oneCell' = true := by
 intro v hv
 obtain ⟨b, _, rfl⟩ := List.mem_map.1 (show v ∈ CU f from hv)
 rfl
def good (l : List Int) : Prop := l.length ≤ 320 ∧ ∀ x ∈ l, 0 ≤ x ∧ x ≤ 15
instance (l : List Int) : Decidable (good l) := inferInstanceAs (Decidable (_ ∧ _))
def KC (f : Nat → Nat) : Nat → Nat
 | 0 => 0
 | i + 1 => KC f i + f i * 2 ^ (15 - i)
theorem KC_le (f : Nat → Nat) (hf : ∀ k, f k ≤ 320) : ∀ i, i ≤ 16 → KC f i + 320 * 2 ^ (16 - i) ≤ 320 * 65536
 | 0, _ => by simp [KC]
 | i + 1, h => by
  have ih := KC_le f hf i (by omega)
  have h1 : f i * 2 ^ (15 - i) ≤ 320 * 2 ^ (15 - i) := Nat.mul_le_mul_right _ (hf i)
  have h2 : 2 ^ (16 - i) = 2 ^ (15 - i) * 2 := by rw [← Nat.pow_succ]; congr 1; omega
  rw [KC, show 16 - (i + 1) = 15 - i by omega]
  omega
theorem IB_at {w : World} {A : Option Addr} {l : List Int} {k : Nat} (h : Rd w 1 A l.length (IB l)) (hk : k < l.length) : ∃ ad, A = some ad ∧ w.cell? (ad.add k) = some (.int .i64 l[k]) := by
 obtain ⟨ad, u, hA, hu, hc⟩ := h.at1 hk
 refine ⟨ad, hA, ?_⟩
 rw [hc]
 simp [IB, hk] at hu
 rw [hu]
set_option maxRecDepth 100000 in
theorem count_spec' (A : Option Addr) (c0 : Nat) (l : List Int) (w : World) (hl : l.length ≤ 1000000000) (hr : Rd w 1 A l.length (IB l)) :
  Calls Try.prog 61 #[.slice A l.length c0] w fun e w' => ∃ f, e = .returned (.tuple #[.agg (CI f).toArray, .bool (decide (good l))]) ∧ (∀ k, f k ≤ 320) ∧ (good l → f = cn l) ∧ Frm [] w w' := by
 refine VC.calls (nt := 32) (res := #[.cell 2 110, .tmp 3]) Try.func61 rfl Try.ntmps61 Try.results61 rfl ?_
 refine jS (jR ?_)
 refine Ops.m (Does.alloc zero110) rfl ?_
 rintro _ w1 ⟨rfl, hF1⟩
 have hb1 : Blk w1 w.heap.size 110 (CI fun _ => 0).toArray := hF1.blk
 refine jA ?_
 refine jO (jN (jv2 0 2 ?_))
 refine jS (jR ?_)
 refine Ops.m (Does.alloc zero110) rfl ?_
 rintro _ w2 ⟨rfl, hF2⟩
 have hb2 : Blk w2 w1.heap.size 110 (CI fun _ => 0).toArray := hF2.blk
 have hb12 := hb1.frm hF2.frm (by simp)
 have hfr2 := hF1.frm.own hF2.frm (by simp)
 have hg1 : w.heap.size < w1.heap.size := hb1.lt
 generalize hg : w.heap.size = g at hb12 hg1
 generalize hgc : w1.heap.size = gc at *
 refine jO (jN (jS (jS (jR (jM ?_)))))
 refine Ops.r (Run.lenS rfl Try.underlying38) rfl ?_
 refine Ops.r (Run.bin rfl rfl (Bin.gtrN _ 320)) rfl ?_
 refine jO (jN (jv4 0 2 4 9 ?_))
 refine VC.condD rfl (fun hc1 => ?_) (fun hc1 => ?_)
 ·
  refine jS (jR ?_)
  refine Ops.r (Run.loadB rfl Try.isAgg110 Try.sizeOf110 (hb2) rfl) rfl ?_
  refine Ops.st (Acts.storeA rfl rfl Try.sizeOf110 hb12 rfl (CI_one _)) ?_
  rintro w3 ⟨hb3, hf3, hs3⟩
  refine jA ?_
  refine jO (jN (jv2 2 3 ?_))
  refine jT ?_
  refine thenQ_r (endR ?_)
  refine res_cellB rfl Try.isAgg110 Try.sizeOf110 (hb3) rfl ?_
  refine res_tmp rfl ?_
  refine res_nil ?_
  refine ⟨fun _ => 0, ?_, fun k => by simp, fun h => absurd h.1 (by omega), hfr2.own hf3 (up_one (by omega))⟩
  rw [decide_eq_false (fun h => absurd h.1 (by omega))]
  rfl
 ·
  refine jQ (jN (jv3 0 2 4 ?_))
  refine jS (jS (jR (jM ?_)))
  refine Ops.r (Run.lenS rfl Try.underlying38) rfl ?_
  refine Ops.r (v := .int .i64 ((0 : Nat) : Int)) (Run.mv rfl) rfl ?_
  refine jO (jN (jv5 2 4 11 12 13 ?_))
  refine jB ?_
  refine VC.loop (σ := Nat) (fun s => [(2, .pointer (some ⟨g, 0, none⟩)), (4, .pointer (some ⟨gc, 0, none⟩)), (11, .slice A l.length c0), (12, .int .i64 ((l.length : Nat) : Int)), (13, .int .i64 s)]) (fun s wr => s ≤ l.length ∧ (∀ x ∈ l.take s, 0 ≤ x ∧ x ≤ 15) ∧ Blk wr g 110 (CI fun _ => 0).toArray ∧ Blk wr gc 110 (CI fun k => (l.take s).count (k : Int)).toArray ∧ Frm [] w wr) (fun s => l.length - s) 0 (js5 (by rw [← hg]; rfl) (by rw [← hgc]; rfl) rfl rfl rfl) ⟨by omega, by simp, hb12, by simpa using hb2, hfr2⟩ ?_
  rintro i wr ⟨hi, hpre, hbr, hbc, hfr⟩
  refine jS (jR ?_)
  refine Ops.r (Run.bin rfl rfl (Bin.lssN _ _)) rfl ?_
  refine jO (jN (jS ?_))
  refine VC.condD rfl (fun hc2 => ?_) (fun hc2 => ?_)
  ·
   obtain ⟨ad, rfl, hcell⟩ := IB_at (hr.belowW hfr.below) hc2
   have htk : l.take (i + 1) = l.take i ++ [l[i]] := by rw [List.take_add_one, List.getElem?_eq_getElem hc2]; rfl
   generalize hx : l[i] = x at *
   refine jQ (jN (jv5 2 4 11 12 13 ?_))
   refine jS (jB (jS (jR ?_)))
   refine Ops.r (Run.index1 _ rfl rfl Try.underlying38 Try.sizeOf3 (by omega)) rfl ?_
   refine Ops.r (Run.load rfl Try.isAgg3 hcell) rfl ?_
   refine jA ?_
   refine jO (jN (jv6 2 4 6 11 12 13 ?_))
   refine jS (jS ?_)
   refine VC.split1 [(2, _), (4, _), (6, _), (11, _), (12, _), (13, _)] (js6 rfl rfl rfl rfl rfl rfl) 22 (.bool (decide (x < 0 ∨ 15 < x))) ?_ ?_
   ·
    by_cases hs0 : x < 0
    ·
     refine jR (jM ?_)
     refine Ops.r (Run.bin rfl rfl (Bin.lss _ 0)) rfl ?_
     refine jM ?_
     refine Ops.sk rfl (by first | rfl | assumption | decide | (simp; done) | (simp; omega) | (simp [*]; done)) rfl ?_
     refine Ops.sk rfl (by first | rfl | assumption | decide | (simp; done) | (simp; omega) | (simp [*]; done)) rfl ?_
     refine Ops.r (Run.pickT rfl rfl (by first | rfl | assumption | decide | (simp; done) | (simp; omega) | (simp [*]; done))) rfl ?_
     refine jO ?_
     refine jN ⟨(js7 (by rw [dor1 hs0]; rfl) rfl rfl rfl rfl rfl rfl), rfl⟩
    ·
     refine jR (jM ?_)
     refine Ops.r (Run.bin rfl rfl (Bin.lss _ 0)) rfl ?_
     refine jM ?_
     refine Ops.rg rfl (by first | rfl | assumption | decide | (simp; done) | (simp; omega) | (simp [*]; done)) (Run.mv rfl) rfl ?_
     refine Ops.rg rfl (by first | rfl | assumption | decide | (simp; done) | (simp; omega) | (simp [*]; done)) (Run.bin rfl rfl (Bin.gtr _ 15)) rfl ?_
     refine Ops.r (Run.pickF rfl rfl (by first | rfl | assumption | decide | (simp; done) | (simp; omega) | (simp [*]; done))) rfl ?_
     refine jO ?_
     refine jN ⟨(js7 (by rw [dor0 hs0]; rfl) rfl rfl rfl rfl rfl rfl), rfl⟩
   ·
    intro Γ hΓ
    refine jN (VC.sub _ hΓ ?_)
    refine VC.condD rfl (fun hc3 => ?_) (fun hc3 => ?_)
    ·
     refine jS (jR ?_)
     refine Ops.r (Run.loadB rfl Try.isAgg110 Try.sizeOf110 (hbc) rfl) rfl ?_
     refine Ops.st (Acts.storeA rfl rfl Try.sizeOf110 hbr rfl (CI_one _)) ?_
     rintro w3 ⟨hb3, hf3, hs3⟩
     refine jA ?_
     refine jO (jN (jv2 2 3 ?_))
     refine jT ?_
     refine thenQ_r (blockQ_r (thenQ_r (thenQ_r (blockQ_r (thenQ_r (endR ?_))))))
     refine res_cellB rfl Try.isAgg110 Try.sizeOf110 (hb3) rfl ?_
     refine res_tmp rfl ?_
     refine res_nil ?_
     have hng : ¬ good l := by
      intro h
      have := h.2 x (by rw [← hx]; exact List.getElem_mem hc2)
      omega
     refine ⟨fun k => (l.take i).count (k : Int), ?_, ?_, fun h => absurd h hng, hfr.own hf3 (up_one (by omega))⟩
     ·
      rw [decide_eq_false hng]
      rfl
     ·
      intro k
      exact Nat.le_trans List.count_le_length (by simp; omega)
    ·
     obtain ⟨m, rfl⟩ : ∃ m : Nat, x = m := ⟨x.toNat, by omega⟩
     have hcm : (l.take i).count (m : Int) ≤ l.length := Nat.le_trans List.count_le_length (by simp; omega)
     refine jQ (jN (jv6 2 4 6 11 12 13 ?_))
     refine jR (jM ?_)
     refine Ops.r (Run.indexA1 _ rfl rfl Try.underlying110 Try.sizeOf3 (by omega)) rfl ?_
     refine Ops.r (Run.load rfl Try.isAgg3 ((hbc.cell _).trans (by simpa using CI_get _ m (by omega)))) rfl ?_
     refine Ops.r (Run.bin rfl rfl (Bin.add_i64 _ 1 (by omega))) rfl ?_
     refine Ops.r (Run.indexA1 _ rfl rfl Try.underlying110 Try.sizeOf3 (by omega)) rfl ?_
     refine Ops.st (Acts.store rfl rfl Try.sizeOf3 hbc (by simp [CI, Nat.blt_eq]; omega) rfl) ?_
     rintro w3 ⟨hb3, hf3, hs3⟩
     refine jO ?_
     refine blockQ_n (jN ?_)
     refine jv5 2 4 11 12 13 ?_
     refine jR ?_
     refine Ops.r (Run.bin rfl rfl (Bin.add_i64 _ 1 (by omega))) rfl ?_
     refine jM ?_
     refine jO ?_
     refine jN ⟨(i + 1), (js5 rfl rfl rfl rfl rfl), ?_, ?_⟩
     ·
      refine ⟨hc2, ?_, hbr.frm hf3 (by simp; omega), ?_, hfr.own hf3 (up_one (by omega))⟩
      ·
       rw [htk]
       intro y hy
       rcases List.mem_append.1 hy with h | h
       ·
        exact hpre y h
       ·
        simp at h; subst h; omega
      ·
       rw [CI_set] at hb3
       have e : (fun k : Nat => if k = 0 + m then (l.take i).count (m : Int) + 1 else (l.take i).count (k : Int)) = fun k : Nat => (l.take (i + 1)).count (k : Int) := by
        funext k
        rw [htk, List.count_append]
        by_cases hk : k = m
        ·
         subst hk; simp
        ·
         have : (m : Int) ≠ (k : Int) := by omega
         simp [hk, List.count_cons, this]
       rw [← e]
       simpa using hb3
     ·
      first | omega | (dsimp only; omega)
  ·
   have hik : i = l.length := by omega
   refine jX ?_
   refine thenQ_x (thenQ_x (blockQ_x ?_))
   refine jN (jv2 2 4 ?_)
   refine jS (jR ?_)
   refine Ops.r (Run.indexA1 0 rfl rfl Try.underlying110 Try.sizeOf3 (by omega)) rfl ?_
   refine Ops.st (Acts.store rfl rfl Try.sizeOf3 hbc rfl rfl) ?_
   rintro w5 ⟨hb5, hf5, hs5⟩
   have hb5 : Blk w5 gc 110 (CI fun k => if k = 0 then 0 else (l.take i).count (k : Int)).toArray := by rw [← CI_set]; exact hb5
   have hbr5 := hbr.frm hf5 (by simp; omega)
   refine jO (jN (jv2 2 4 ?_))
   refine jS (jR ?_)
   refine Ops.r (Run.loadB rfl Try.isAgg110 Try.sizeOf110 (hb5) rfl) rfl ?_
   refine Ops.st (Acts.storeA rfl rfl Try.sizeOf110 hbr5 rfl (CI_one _)) ?_
   rintro w6 ⟨hb6, hf6, hs6⟩
   refine jA ?_
   refine jO (jN (jv2 2 3 ?_))
   refine jT ?_
   refine endR ?_
   refine res_cellB rfl Try.isAgg110 Try.sizeOf110 (hb6) rfl ?_
   refine res_tmp rfl ?_
   refine res_nil ?_
   have hgd : good l := ⟨by omega, by rw [hik, List.take_length] at hpre; exact hpre⟩
   refine ⟨cn l, ?_, ?_, fun _ => rfl, (hfr.own hf5 (up_one (by omega))).own hf6 (up_one (by omega))⟩
   ·
    rw [decide_eq_true hgd, hik, List.take_length]
    rfl
   ·
    intro k
    unfold cn
    split
    ·
     omega
    ·
     exact Nat.le_trans List.count_le_length (by omega)
set_option maxRecDepth 100000 in
theorem left9_spec (f : Nat → Nat) (w : World) (hf : ∀ k, f k ≤ 320) :
  Calls Try.prog 89 #[.agg (CI f).toArray] w fun e w' => e = .returned (.int .i64 (32768 - ((KC f 16 : Nat) : Int))) ∧ Frm [] w w' := by
 refine VC.calls (nt := 18) (res := #[.tmp 2]) Try.func89 rfl Try.ntmps89 Try.results89 rfl ?_
 refine jS (jR ?_)
 refine Ops.m (Does.box rfl) rfl ?_
 rintro _ w1 ⟨rfl, hF1⟩
 have hb1 : Blk w1 w.heap.size 110 (CI f).toArray := hF1.blk
 have hfr1 := hF1.frm
 generalize hg : w.heap.size = g at hb1
 refine Ops.r (v := .int .i64 ((0 : Nat) : Int)) (Run.asg rfl) rfl ?_
 refine jO (jN (jv1 1 ?_))
 refine jS (jR ?_)
 refine Ops.r (v := .int .i64 ((32768 : Nat) : Int)) (Run.asg rfl) rfl ?_
 refine jO (jN (jS (jS (jR ?_))))
 refine Ops.r (v := .int .i64 ((0 : Nat) : Int)) (Run.mv rfl) rfl ?_
 refine jO (jN (jB ?_))
 refine VC.loop (σ := Nat) (fun s => [(1, .pointer (some ⟨g, 0, none⟩)), (3, .int .i64 (32768 - ((KC f s : Nat) : Int))), (5, .int .i64 s)]) (fun s wr => s ≤ 16 ∧ wr = w1) (fun s => 16 - s) 0 (js3 (by rw [← hg]; rfl) rfl rfl) ⟨by omega, rfl⟩ ?_
 rintro i _ ⟨hi, rfl⟩
 have hk := KC_le f hf i hi
 refine jS (jR ?_)
 refine Ops.r (Run.bin rfl rfl (Bin.lssN _ 16)) rfl ?_
 refine jO (jN (jS ?_))
 refine VC.condD rfl (fun hc1 => ?_) (fun hc1 => ?_)
 ·
  have hk1 := KC_le f hf (i + 1) (by omega)
  have he1 : KC f (i + 1) = KC f i + f i * 2 ^ (15 - i) := rfl
  have hfi := hf i
  refine jQ (jN (jv3 1 3 5 ?_))
  refine jS (jB (jS (jR (jM ?_))))
  refine jA ?_
  refine jO (jN (jv4 1 3 4 5 ?_))
  refine jR (jM ?_)
  refine jM ?_
  refine Ops.r (Run.indexA1 _ rfl rfl Try.underlying110 Try.sizeOf3 (by omega)) rfl ?_
  refine Ops.r (Run.load rfl Try.isAgg3 ((hb1.cell _).trans (by simpa using CI_get f i (by omega)))) rfl ?_
  refine jM ?_
  refine Ops.r (Run.bin rfl rfl (Bin.sub_i64 15 _ (by omega) (by omega))) rfl ?_
  refine Ops.r (Run.bin rfl rfl (Bin.shl_i64 _ _ (by omega) (by omega))) rfl ?_
  refine Ops.r (Run.bin rfl rfl (Bin.subZ _ _ (by omega) (by omega))) rfl ?_
  refine jA ?_
  refine jO ?_
  refine blockQ_n (jN ?_)
  refine jv3 1 3 5 ?_
  refine jR ?_
  refine Ops.r (Run.bin rfl rfl (Bin.add_i64 _ 1 (by omega))) rfl ?_
  refine jM ?_
  refine jO ?_
  refine jN ⟨(i + 1), (js3 rfl (congrArg (fun z => some (Value.int .i64 z)) (by omega)) rfl), ?_, ?_⟩
  ·
   exact ⟨hc1, rfl⟩
  ·
   first | omega | (dsimp only; omega)
 ·
  have h16 : i = 16 := by omega
  subst h16
  refine jX ?_
  refine thenQ_x (thenQ_x (blockQ_x ?_))
  refine jN (jv1 3 ?_)
  refine jS (jR (jM ?_))
  refine jA ?_
  refine jO (jN (jv1 2 ?_))
  refine jT ?_
  refine end1 rfl ?_
  exact ⟨rfl, hfr1⟩
def chk (l : List Int) : Nat := if ¬ good l then 1 else if 32768 < KC (cn l) 16 then 8 else if KC (cn l) 16 < 32768 then 2 else 0
set_option maxRecDepth 100000 in
theorem check_spec (A : Option Addr) (c0 : Nat) (l : List Int) (w : World) (hl : l.length ≤ 1000000000) (hr : Rd w 1 A l.length (IB l)) :
  Calls Try.prog 60 #[.slice A l.length c0] w fun e w' => e = .returned (.int .i64 ((chk l : Nat) : Int)) ∧ Frm [] w w' := by
 refine VC.calls (nt := 22) (res := #[.tmp 2]) Try.func60 rfl Try.ntmps60 Try.results60 rfl ?_
 refine jS (jR ?_)
 refine Ops.r (v := .int .i64 ((0 : Nat) : Int)) (Run.asg rfl) rfl ?_
 refine jO (jN (jv1 0 ?_))
 refine jS (jR (jM ?_))
 refine Ops.cl (Enters.fn (evs.cons rfl evs.nil) Try.call61) (count_spec' A c0 l _ hl hr) rfl ?_
 rintro e w1 ⟨f, rfl, hf, hgd, hf1⟩
 refine ⟨_, rfl, ?_⟩
 refine jM ?_
 refine Ops.r (Run.extract rfl rfl) rfl ?_
 refine Ops.r (Run.extract rfl rfl) rfl ?_
 refine Ops.m (Does.alloc zero110) rfl ?_
 rintro _ w2 ⟨rfl, hF2⟩
 have hb2 : Blk w2 w1.heap.size 110 (CI fun _ => 0).toArray := hF2.blk
 have hfr2 := hf1.own hF2.frm (by simp)
 have hg1 := hf1.size
 generalize hg : w1.heap.size = g at *
 refine Ops.st (Acts.storeA rfl rfl Try.sizeOf110 hb2 rfl (CI_one _)) ?_
 rintro w3 ⟨hb3, hf3, hs3⟩
 have hfr3 := hfr2.own hf3 (up_one (by omega))
 refine jA ?_
 refine jO (jN (jv2 3 4 ?_))
 refine jS (jR ?_)
 refine Ops.r (Run.loadB rfl Try.isAgg110 Try.sizeOf110 (hb3) rfl) rfl ?_
 refine Ops.cl (Enters.fn (evs.cons rfl evs.nil) Try.call89) (left9_spec f _ hf) rfl ?_
 rintro e w4 ⟨rfl, hf4⟩
 refine ⟨_, rfl, ?_⟩
 have hfr4 := hfr3.own hf4 (by simp)
 refine jA ?_
 refine jO (jN (jv2 4 5 ?_))
 refine jS (jB (jS (jR (jM ?_))))
 refine Ops.r (Run.not rfl) rfl ?_
 refine jA ?_
 refine jO (jN (jv2 5 13 ?_))
 refine VC.condB rfl (fun hc1 => ?_) (fun hc1 => ?_)
 ·
  have he : chk l = 1 := by unfold chk; rw [if_pos (by simpa using hc1)]
  refine jS (jR ?_)
  refine Ops.r (v := .int .i64 ((1 : Nat) : Int)) (Run.asg rfl) rfl ?_
  refine jO (jN (jv1 2 ?_))
  refine jT ?_
  refine blockQ_r (thenQ_r (end1 rfl ?_))
  exact ⟨by rw [he], hfr4⟩
 ·
  have hgl : good l := by simpa using hc1
  rw [hgd hgl] at *
  refine jS (jR (jM ?_))
  refine Ops.r (Run.bin rfl rfl (Bin.lss _ 0)) rfl ?_
  refine jA ?_
  refine jO (jN (jv2 5 16 ?_))
  refine VC.condD rfl (fun hc2 => ?_) (fun hc2 => ?_)
  ·
   have he : chk l = 8 := by unfold chk; rw [if_neg (by simpa using hgl), if_pos (by omega)]
   refine jS (jR ?_)
   refine Ops.r (v := .int .i64 ((8 : Nat) : Int)) (Run.asg rfl) rfl ?_
   refine jO (jN (jv1 2 ?_))
   refine jT ?_
   refine blockQ_r (thenQ_r (end1 rfl ?_))
   exact ⟨by rw [he], hfr4⟩
  ·
   refine jS (jR (jM ?_))
   refine Ops.r (Run.bin rfl rfl (Bin.gtr _ 0)) rfl ?_
   refine jA ?_
   refine jO (jN (jv1 19 ?_))
   refine VC.condD rfl (fun hc3 => ?_) (fun hc3 => ?_)
   ·
    have he : chk l = 2 := by unfold chk; rw [if_neg (by simpa using hgl), if_neg (by omega), if_pos (by omega)]
    refine jS (jR ?_)
    refine Ops.r (v := .int .i64 ((2 : Nat) : Int)) (Run.asg rfl) rfl ?_
    refine jO (jN (jv1 2 ?_))
    refine jT ?_
    refine blockQ_r (thenQ_r (end1 rfl ?_))
    exact ⟨by rw [he], hfr4⟩
   ·
    have he : chk l = 0 := by unfold chk; rw [if_neg (by simpa using hgl), if_neg (by omega), if_neg (by omega)]
    refine jQ ?_
    refine blockQ_n (jN ?_)
    refine VC.sub [] .nil ?_
    refine jS (jR ?_)
    refine Ops.r (v := .int .i64 ((0 : Nat) : Int)) (Run.asg rfl) rfl ?_
    refine jO (jN (jT ?_))
    refine end1 rfl ?_
    exact ⟨by rw [he], hfr4⟩
set_option maxRecDepth 100000 in
theorem firsts_spec (f : Nat → Nat) (w : World) (hf : ∀ k, f k ≤ 320) :
  Calls Try.prog 62 #[.agg (CI f).toArray] w fun e w' => e = .returned (.agg (CU (fstF f)).toArray) ∧ Frm [] w w' := by
 refine VC.calls (nt := 22) (res := #[.cell 2 113]) Try.func62 rfl Try.ntmps62 Try.results62 rfl ?_
 refine jS (jR ?_)
 refine Ops.m (Does.box rfl) rfl ?_
 rintro _ w1 ⟨rfl, hF1⟩
 have hb1 : Blk w1 w.heap.size 110 (CI f).toArray := hF1.blk
 refine Ops.m (Does.alloc zero113) rfl ?_
 rintro _ w2 ⟨rfl, hF2⟩
 have hb2 : Blk w2 w1.heap.size 113 (CU fun _ => 0).toArray := hF2.blk
 have hb12 := hb1.frm hF2.frm (by simp)
 refine jO (jN (jv2 1 2 ?_))
 refine jS (jR ?_)
 refine Ops.m (Does.alloc zero113) rfl ?_
 rintro _ w3 ⟨rfl, hF3⟩
 have hb3 : Blk w3 w2.heap.size 113 (CU fun _ => 0).toArray := hF3.blk
 have hb13 := hb12.frm hF3.frm (by simp)
 have hb23 := hb2.frm hF3.frm (by simp)
 have hfr3 := (hF1.frm.own hF2.frm (by simp)).own hF3.frm (by simp)
 have h1 := hb1.lt
 have h2 := hb2.lt
 generalize hg1 : w.heap.size = g1 at hb13 h1
 generalize hg2 : w1.heap.size = g2 at *
 generalize hg3 : w2.heap.size = g3 at *
 refine jO (jN (jS (jR ?_)))
 refine Ops.r (v := .int .u64 ((0 : Nat) : Int)) (Run.asg rfl) rfl ?_
 refine jO (jN (jS (jS (jR ?_))))
 refine Ops.r (v := .int .i64 ((1 : Nat) : Int)) (Run.asg rfl) rfl ?_
 refine jO (jN (jB ?_))
 refine VC.loop (σ := Nat) (fun s => [(1, .pointer (some ⟨g1, 0, none⟩)), (2, .pointer (some ⟨g2, 0, none⟩)), (3, .pointer (some ⟨g3, 0, none⟩)), (4, .int .u64 ((fstF f s : Nat) : Int)), (5, .int .i64 ((s + 1 : Nat) : Int))]) (fun s wr => s ≤ 15 ∧ Blk wr g1 110 (CI f).toArray ∧ Blk wr g2 113 (CU fun _ => 0).toArray ∧ Blk wr g3 113 (CU fun k => if k ≤ s then fstF f k else 0).toArray ∧ Frm [] w wr) (fun s => 16 - s) 0 (js5 (by rw [← hg1]; rfl) (by rw [← hg2]; rfl) (by rw [← hg3]; rfl) rfl rfl) ⟨by omega, hb13, hb23, by
   have e : (fun k => if k ≤ 0 then fstF f k else 0) = fun _ => 0 := by
    funext k
    split
    ·
     rename_i h; have : k = 0 := by omega
     subst this; rfl
    ·
     rfl
   rw [e]; exact hb3, hfr3⟩ ?_
 rintro i wr ⟨hi, hbc, hbr, hbf, hfr⟩
 have hfl := fstF_le f 320 hf i
 have hp : 2 ^ i ≤ 2 ^ 15 := Nat.pow_le_pow_right (by omega) hi
 have hfi := hf i
 refine jS (jS (jR (jM ?_)))
 refine Ops.r (Run.bin rfl rfl (Bin.leqN _ 15)) rfl ?_
 refine jO (jN (jv6 1 2 3 4 5 7 ?_))
 refine VC.condD rfl (fun hc1 => ?_) (fun hc1 => ?_)
 ·
  refine jQ (jN (jv5 1 2 3 4 5 ?_))
  refine jS (jB (jS (jR (jM ?_))))
  refine jM ?_
  refine Ops.r (Run.bin rfl rfl (Bin.sub_i64 _ 1 (by omega) (by omega))) rfl ?_
  refine Ops.r (Run.indexA1 _ rfl rfl Try.underlying110 Try.sizeOf3 (by omega)) rfl ?_
  refine Ops.r (Run.load rfl Try.isAgg3 ((hbc.cell _).trans (by simpa using CI_get f i (by omega)))) rfl ?_
  refine Ops.r (Run.convN _ rfl Try.underlying3 Try.underlying37 (by simp only [bmax]; omega)) rfl ?_
  refine Ops.r (Run.bin rfl rfl (Bin.add_u64 _ _ (by omega))) rfl ?_
  refine Ops.r (Run.bin rfl rfl (Bin.shl_u64 _ 1 (by omega) (by omega))) rfl ?_
  refine jA ?_
  refine jO (jN (jv5 1 2 3 4 5 ?_))
  refine jR (jM ?_)
  refine jM ?_
  refine Ops.r (Run.indexA1 _ rfl rfl Try.underlying113 Try.sizeOf37 (by omega)) rfl ?_
  refine Ops.st (Acts.store rfl rfl Try.sizeOf37 hbf (by simp [CU, Nat.blt_eq]; omega) rfl) ?_
  rintro w5 ⟨hb5, hf5, hs5⟩
  refine jO ?_
  refine blockQ_n (jN ?_)
  refine jv5 1 2 3 4 5 ?_
  refine jR (jM ?_)
  refine Ops.r (Run.bin rfl rfl (Bin.add_i64 _ 1 (by omega))) rfl ?_
  refine jA ?_
  refine jO ?_
  refine jN ⟨(i + 1), (js5 rfl rfl rfl (by rw [fstF]; rfl) rfl), ?_, ?_⟩
  ·
   refine ⟨by omega, hbc.frm hf5 (by simp; omega), hbr.frm hf5 (by simp; omega), ?_, hfr.own hf5 (up_one (by omega))⟩
   have e : (CU fun k => if k ≤ i + 1 then fstF f k else 0).toArray = (CU fun k => if k = 0 + (i + 1) then (fstF f i + f i) * 2 ^ 1 else if k ≤ i then fstF f k else 0).toArray := by
    congr 2
    funext k
    by_cases hk : k = i + 1
    ·
     subst hk; simp [fstF]
    ·
     by_cases hk2 : k ≤ i
     ·
      simp [hk, hk2, show k ≤ i + 1 by omega]
     ·
      simp [hk, hk2, show ¬ k ≤ i + 1 by omega]
   rw [e, ← CU_set]
   exact hb5
  ·
   first | omega | (dsimp only; omega)
 ·
  have h15 : i = 15 := by omega
  subst h15
  have hfull : (CU fun k => if k ≤ 15 then fstF f k else 0).toArray = (CU (fstF f)).toArray := rfl
  rw [hfull] at hbf
  refine jX ?_
  refine thenQ_x (thenQ_x (blockQ_x ?_))
  refine jN (jv2 2 3 ?_)
  refine jS (jR ?_)
  refine Ops.r (Run.loadB rfl Try.isAgg113 Try.sizeOf113 (hbf) rfl) rfl ?_
  refine Ops.st (Acts.storeA rfl rfl Try.sizeOf113 hbr rfl (CU_one _)) ?_
  rintro w6 ⟨hb6, hf6, hs6⟩
  refine jO (jN (jv1 2 ?_))
  refine jT ?_
  refine endR ?_
  refine res_cellB rfl Try.isAgg113 Try.sizeOf113 (hb6) rfl ?_
  refine res_nil ?_
  exact ⟨rfl, hfr.own hf6 (up_one (by omega))⟩
end Go.Proofs.Ytnmieihcjjiccaa
namespace Go.Proofs.Ytnmieihcjjiccaa
open Go.RowKit
def CB (c : Nat × Int) : List Value := [.int .u64 ((c.1 : Nat) : Int), .int .i64 c.2]
theorem CB_len (c : Nat × Int) : (CB c).length = 2 := rfl
theorem CB_one (c : Nat × Int) : ∀ v ∈ CB c, v.oneCell' = true := by
 intro v hv
 simp only [CB, List.mem_cons, List.not_mem_nil, or_false] at hv
 rcases hv with rfl | rfl <;> rfl
def NI (l : List Nat) : List Value := l.map fun n : Nat => .int .i64 (n : Int)
theorem NI_one (l : List Nat) : ∀ u ∈ NI l, u.oneCell' = true := by
 intro u hu
 obtain ⟨b, _, rfl⟩ := List.mem_map.1 hu
 rfl
theorem NI_append (a b : List Nat) : NI (a ++ b) = NI a ++ NI b := by simp [NI]
theorem NI_at {w : World} {A : Option Addr} {l : List Nat} {k : Nat} (h : Rd w 1 A l.length (NI l)) (hk : k < l.length) : ∃ ad, A = some ad ∧ w.cell? (ad.add k) = some (.int .i64 ((l[k] : Nat) : Int)) := by
 obtain ⟨ad, u, hA, hu, hc⟩ := h.at1 hk
 refine ⟨ad, hA, ?_⟩
 rw [hc]
 simp [NI, hk] at hu
 rw [hu]
theorem codesT_zero (l : List Int) : (List.replicate l.length [Value.int .u64 0, Value.int .i64 0]).flatten = (codesT l 0).flatMap CB := by
 have e : codesT l 0 = List.replicate l.length (0, 0) := by
  unfold codesT
  apply List.ext_getElem?
  intro i
  by_cases h : i < l.length <;> simp [h]
 rw [e, List.flatMap_replicate]
 rfl
theorem codesT_len (l : List Int) (i : Nat) : (codesT l i).length = l.length := by simp [codesT]
theorem take_count (l : List Int) (i : Nat) (h : i < l.length) (k : Nat) : (l.take (i + 1)).count (k : Int) = (l.take i).count (k : Int) + if l[i] = (k : Int) then 1 else 0 := by
 rw [List.take_add_one, List.getElem?_eq_getElem h, List.count_append]
 simp [List.count_singleton]
theorem getD_at (l : List Int) (i : Nat) (h : i < l.length) : l.getD i 0 = l[i] := by simp [List.getD, List.getElem?_eq_getElem h]
def nxt (l : List Int) (i n : Nat) : Nat := fst' l n + if n = 0 then 0 else (l.take i).count (n : Int)
theorem chk_good {l : List Int} (h : chk l ≠ 1) : good l := by
 unfold chk at h
 by_cases hg : good l
 ·
  exact hg
 ·
  rw [if_pos hg] at h; exact absurd rfl h
set_option maxRecDepth 100000 in
theorem codes_spec (A : Option Addr) (c0 : Nat) (l : List Int) (w : World) (hl : l.length ≤ 1000000) (hr : Rd w 1 A l.length (IB l)) :
  Calls Try.prog 31 #[.slice A l.length c0] w fun e w' => Frm [] w w' ∧
   if chk l = 1 ∨ chk l = 8 then e = .returned (.tuple #[.slice none 0 0, .int .i64 ((chk l : Nat) : Int)])
   else ∃ B c, e = .returned (.tuple #[.slice B l.length c, .int .i64 ((0 : Nat) : Int)]) ∧ Own w' 116 2 B l.length c ((codesL l).flatMap CB) ∧ ∀ x ∈ ob B, w.heap.size ≤ x := by
 refine VC.calls (nt := 54) (res := #[.tmp 2, .tmp 3]) Try.func31 rfl Try.ntmps31 Try.results31 rfl ?_
 refine jS (jR (jA ?_))
 refine Ops.r (v := .int .i64 ((0 : Nat) : Int)) (Run.asg rfl) rfl ?_
 refine jO (jN (jv1 0 ?_))
 refine jS (jS (jR (jM ?_)))
 refine Ops.cl (Enters.fn (evs.cons rfl evs.nil) Try.call60) (check_spec A c0 l _ (by omega) hr) rfl ?_
 rintro e w1 ⟨rfl, hf1⟩
 refine ⟨_, rfl, ?_⟩
 refine jA ?_
 refine jO (jN (jv2 0 4 ?_))
 refine jS ?_
 refine VC.split1 [(0, _), (4, _)] (js2 rfl rfl) 18 (.bool (decide (chk l = 1 ∨ chk l = 8))) ?_ ?_
 ·
  by_cases hs0 : chk l = 1
  ·
   refine jR (jM ?_)
   refine Ops.r (Run.bin rfl rfl (Bin.eqlN _ 1)) rfl ?_
   refine jM ?_
   refine Ops.sk rfl (by first | rfl | assumption | decide | (simp; done) | (simp; omega) | (simp [*]; done)) rfl ?_
   refine Ops.sk rfl (by first | rfl | assumption | decide | (simp; done) | (simp; omega) | (simp [*]; done)) rfl ?_
   refine Ops.r (Run.pickT rfl rfl (by first | rfl | assumption | decide | (simp; done) | (simp; omega) | (simp [*]; done))) rfl ?_
   refine jO ?_
   refine jN ⟨(js3 (by rw [dor1 hs0]; rfl) rfl rfl), rfl⟩
  ·
   refine jR (jM ?_)
   refine Ops.r (Run.bin rfl rfl (Bin.eqlN _ 1)) rfl ?_
   refine jM ?_
   refine Ops.rg rfl (by first | rfl | assumption | decide | (simp; done) | (simp; omega) | (simp [*]; done)) (Run.mv rfl) rfl ?_
   refine Ops.rg rfl (by first | rfl | assumption | decide | (simp; done) | (simp; omega) | (simp [*]; done)) (Run.bin rfl rfl (Bin.eqlN _ 8)) rfl ?_
   refine Ops.r (Run.pickF rfl rfl (by first | rfl | assumption | decide | (simp; done) | (simp; omega) | (simp [*]; done))) rfl ?_
   refine jO ?_
   refine jN ⟨(js3 (by rw [dor0 hs0]; rfl) rfl rfl), rfl⟩
 ·
  intro Γ hΓ
  refine jN (VC.sub _ hΓ ?_)
  refine VC.condD rfl (fun hc1 => ?_) (fun hc1 => ?_)
  ·
   refine jS (jR (jM ?_))
   refine jA ?_
   refine jA ?_
   refine jO (jN (jv2 2 3 ?_))
   refine jT ?_
   refine thenQ_r (end2 rfl rfl ?_)
   refine ⟨hf1, ?_⟩
   rw [if_pos hc1]
  ·
   have hgl : good l := chk_good (fun h => hc1 (.inl h))
   refine jQ (jN (jv1 0 ?_))
   refine jS (jR (jM ?_))
   refine Ops.cl (Enters.fn (evs.cons rfl evs.nil) Try.call61) (count_spec' A c0 l _ (by omega) (hr.belowW hf1.below)) rfl ?_
   rintro e w2 ⟨f, rfl, hf, hgd, hf2⟩
   refine ⟨_, rfl, ?_⟩
   rw [hgd hgl] at hf ⊢
   clear hgd
   have hfr2 := hf1.own hf2 (by simp)
   refine jM ?_
   refine Ops.r (Run.extract rfl rfl) rfl ?_
   refine Ops.r (Run.extract rfl rfl) rfl ?_
   refine Ops.m (Does.alloc zero110) rfl ?_
   rintro _ w3 ⟨rfl, hF3⟩
   have hb3 : Blk w3 w2.heap.size 110 (CI fun _ => 0).toArray := hF3.blk
   have hfr3 := hfr2.own hF3.frm (by simp)
   have hg3 := hfr2.size
   refine Ops.st (Acts.storeA rfl rfl Try.sizeOf110 hb3 rfl (CI_one _)) ?_
   rintro w4 ⟨hb4, hf4, hs4⟩
   have hfr4 := hfr3.own hf4 (up_one hg3)
   refine jA ?_
   refine jO (jN (jv2 0 5 ?_))
   refine jS (jR ?_)
   refine Ops.r (Run.loadB rfl Try.isAgg110 Try.sizeOf110 (hb4) rfl) rfl ?_
   refine Ops.cl (Enters.fn (evs.cons rfl evs.nil) Try.call62) (firsts_spec (cn l) _ hf) rfl ?_
   rintro e w5 ⟨rfl, hf5⟩
   refine ⟨_, rfl, ?_⟩
   have hfr5 := hfr4.own hf5 (by simp)
   refine Ops.m (Does.alloc zero113) rfl ?_
   rintro _ w6 ⟨rfl, hF6⟩
   have hb6 : Blk w6 w5.heap.size 113 (CU fun _ => 0).toArray := hF6.blk
   have hfr6 := hfr5.own hF6.frm (by simp)
   have hg6 := hfr5.size
   refine Ops.st (Acts.storeA rfl rfl Try.sizeOf113 hb6 rfl (CU_one _)) ?_
   rintro w7 ⟨hb7, hf7, hs7⟩
   have hfr7 := hfr6.own hf7 (up_one hg6)
   generalize hgn : w5.heap.size = gn at *
   refine jO (jN (jv2 0 7 ?_))
   refine jS (jR (jM ?_))
   refine Ops.r (Run.lenS rfl Try.underlying38) rfl ?_
   refine Ops.m (Does.makeS rfl rfl Try.underlying60 (info116) rfl (by omega) (by omega)) rfl ?_
   rintro _ w8 ⟨rfl, ho8, hf8, hs8⟩
   have hb8 := hb7.frm hf8 (by simp)
   have hfr8 := hfr7.own hf8 (by simp)
   have hg8 := hfr7.size
   have ho8 : Own w8 116 2 (some ⟨w7.heap.size, 0, none⟩) l.length l.length ((codesT l 0).flatMap CB) := by rw [← codesT_zero]; exact ho8
   generalize hgo : w7.heap.size = go at *
   refine jA ?_
   refine jO (jN (jv3 0 7 8 ?_))
   refine jS (jS (jR (jM ?_)))
   refine Ops.r (Run.lenS rfl Try.underlying38) rfl ?_
   refine Ops.r (v := .int .i64 ((0 : Nat) : Int)) (Run.mv rfl) rfl ?_
   refine jO (jN (jv5 7 8 30 31 32 ?_))
   refine jB ?_
   refine VC.loop (σ := Nat) (fun s => [(7, .pointer (some ⟨gn, 0, none⟩)), (8, .slice (some ⟨go, 0, none⟩) l.length l.length), (30, .slice A l.length c0), (31, .int .i64 ((l.length : Nat) : Int)), (32, .int .i64 s)]) (fun s wr => s ≤ l.length ∧ Blk wr gn 113 (CU (nxt l s)).toArray ∧ Own wr 116 2 (some ⟨go, 0, none⟩) l.length l.length ((codesT l s).flatMap CB) ∧ Frm [] w wr) (fun s => l.length - s) 0 (js5 (by rw [← hgn]; rfl) (by rw [← hgo]; rfl) rfl rfl rfl) ⟨by omega, by
   have e : nxt l 0 = fst' l := by funext n; simp [nxt]
   rw [e]; exact hb8, ho8, hfr8⟩ ?_
   rintro i wr ⟨hi, hbn, ho, hfr⟩
   refine jS (jR ?_)
   refine Ops.r (Run.bin rfl rfl (Bin.lssN _ _)) rfl ?_
   refine jO (jN (jS ?_))
   refine VC.condD rfl (fun hc2 => ?_) (fun hc2 => ?_)
   ·
    obtain ⟨ad, rfl, hcell⟩ := IB_at (hr.belowW hfr.below) hc2
    obtain ⟨hx0, hx15⟩ := hgl.2 _ (List.getElem_mem hc2)
    have htc := take_count l i hc2
    have hgt := getD_at l i hc2
    obtain ⟨m, hm⟩ : ∃ m : Nat, l[i] = (m : Int) := ⟨l[i].toNat, by omega⟩
    rw [hm] at hcell htc hgt hx15
    have hsm := fst_small l hgl.1 m (by omega)
    have hcm : (l.take i).count (m : Int) ≤ l.count (m : Int) := (List.take_sublist i l).count_le _
    have hne : gn ≠ go := by
     intro h
     have h1 := ho.lt go (by simp [ob])
     rw [h] at hbn
     have h2 := hbn
     rcases ho.cases with ⟨h0, _⟩ | ⟨g', cur, hA, hbb, _⟩
     ·
      cases h0
     ·
      simp only [Option.some.injEq, Addr.mk.injEq, and_true] at hA
      rw [← hA] at hbb
      have := h2.symm.trans hbb
      simp at this
    refine jQ (jN (jv5 7 8 30 31 32 ?_))
    refine jS (jB (jS (jR (jM ?_))))
    refine Ops.r (Run.index1 _ rfl rfl Try.underlying38 Try.sizeOf3 (by omega)) rfl ?_
    refine Ops.r (Run.load rfl Try.isAgg3 hcell) rfl ?_
    refine jA ?_
    refine jA ?_
    refine jO (jN (jv7 7 8 9 10 30 31 32 ?_))
    refine jS (jR (jM ?_))
    refine Ops.r (Run.bin rfl rfl (Bin.gtr _ 0)) rfl ?_
    refine jO (jN (jv8 7 8 9 10 30 31 32 38 ?_))
    refine VC.meet (σ := Unit) (fun s => [(7, .pointer (some ⟨gn, 0, none⟩)), (8, .slice (some ⟨go, 0, none⟩) l.length l.length), (30, .slice (some ad) l.length c0), (31, .int .i64 ((l.length : Nat) : Int)), (32, .int .i64 i)]) (fun s w9 => Blk w9 gn 113 (CU (nxt l (i + 1))).toArray ∧ Own w9 116 2 (some ⟨go, 0, none⟩) l.length l.length ((codesT l (i + 1)).flatMap CB) ∧ Frm [] w w9) ?_ ?_
    ·
     refine VC.condD rfl (fun hc3 => ?_) (fun hc3 => ?_)
     ·
      have hm0 : m ≠ 0 := by omega
      have hnx : nxt l i m = fst' l m + (l.take i).count (m : Int) := by unfold nxt; rw [if_neg hm0]
      have hcn : cn l m = l.count (m : Int) := by unfold cn; rw [if_neg hm0]
      have hcc : codeC l i = (nxt l i m, (m : Int)) := by
       unfold codeC codeOf rank
       rw [hgt, if_neg (by omega), hnx, Int.toNat_natCast]
      refine jS (jR (jM ?_))
      refine jM ?_
      refine jM ?_
      refine Ops.r (Run.indexA1 _ rfl rfl Try.underlying113 Try.sizeOf37 (by omega)) rfl ?_
      refine Ops.r (Run.load rfl Try.isAgg37 ((hbn.cell _).trans (by simpa using CU_get _ m (by omega)))) rfl ?_
      refine jM ?_
      refine Ops.r (Run.build (evs.cons rfl (evs.cons rfl evs.nil)) zero116 (places116).choose_spec.1 (places116).choose_spec.2 rfl) rfl ?_
      refine Ops.r (Run.indexS _ rfl rfl Try.underlying60 Try.sizeOf116 (by omega)) rfl ?_
      refine Ops.st (Acts.storeOwnA CB (nxt l i m, (m : Int)) i rfl rfl Try.sizeOf116 CB_len (codesT_len l i) ho rfl hc2 (CB_one _)) ?_
      rintro w3 ⟨ho3, hf3, hs3⟩
      rw [← hcc, codesT_set] at ho3
      have hbn3 := hbn.frm hf3 (by simpa [ob] using hne)
      have hfr3 := hfr.own hf3 (by simp [ob]; omega)
      refine jO (jN (jv6 7 8 10 30 31 32 ?_))
      refine jR (jM ?_)
      refine Ops.r (Run.indexA1 _ rfl rfl Try.underlying113 Try.sizeOf37 (by omega)) rfl ?_
      refine Ops.r (Run.load rfl Try.isAgg37 ((hbn3.cell _).trans (by simpa using CU_get _ m (by omega)))) rfl ?_
      refine Ops.r (Run.bin rfl rfl (Bin.add_u64 _ 1 (by omega))) rfl ?_
      refine Ops.r (Run.indexA1 _ rfl rfl Try.underlying113 Try.sizeOf37 (by omega)) rfl ?_
      refine Ops.st (Acts.store rfl rfl Try.sizeOf37 hbn3 (by simp [CU, Nat.blt_eq]; omega) rfl) ?_
      rintro w4 ⟨hb4, hf4, hs4⟩
      refine jO ?_
      refine jN ⟨(), (js5 rfl rfl rfl rfl rfl), ?_⟩
      refine ⟨?_, ho3.frm hf4 (by simp [ob]; omega), hfr3.own hf4 (up_one (by omega))⟩
      rw [CU_set] at hb4
      have e : (fun k => if k = 0 + m then nxt l i m + 1 else nxt l i k) = nxt l (i + 1) := by
       funext k
       unfold nxt
       rw [htc k]
       by_cases hk : k = m
       ·
        subst hk; simp [hm0]; omega
       ·
        have : ¬ (m : Int) = (k : Int) := by omega
        simp [hk, this]
      rw [← e]
      exact hb4
     ·
      refine jQ ?_
      refine jN ⟨(), (js5 rfl rfl rfl rfl rfl), ?_⟩
      have hm0 : m = 0 := by omega
      subst hm0
      refine ⟨?_, by rw [codesT_same l i (by rw [hgt]; rfl)]; exact ho, hfr⟩
      have e : nxt l (i + 1) = nxt l i := by
       funext k
       unfold nxt
       rw [htc k]
       by_cases hk : k = 0
       ·
        simp [hk]
       ·
        have : ¬ ((0 : Nat) : Int) = (k : Int) := by omega
        rw [if_neg this, Nat.add_zero]
      rw [e]
      exact hbn
    ·
     rintro _ w9 ⟨hbn9, ho9, hfr9⟩ Γ hΓ
     refine blockQ_n (jN (VC.sub _ hΓ ?_))
     refine jR ?_
     refine Ops.r (Run.bin rfl rfl (Bin.add_i64 _ 1 (by omega))) rfl ?_
     refine jM ?_
     refine jO ?_
     refine jN ⟨(i + 1), (js5 rfl rfl rfl rfl rfl), ?_, ?_⟩
     ·
      exact ⟨hc2, hbn9, ho9, hfr9⟩
     ·
      first | omega | (dsimp only; omega)
   ·
    refine jX ?_
    refine thenQ_x (thenQ_x (blockQ_x ?_))
    refine jN (jv1 8 ?_)
    refine jS (jR (jM ?_))
    refine jA ?_
    refine Ops.r (v := .int .i64 ((0 : Nat) : Int)) (Run.asg rfl) rfl ?_
    refine jO (jN (jv2 2 3 ?_))
    refine jT ?_
    refine end2 rfl rfl ?_
    have hil : i = l.length := by omega
    refine ⟨hfr, ?_⟩
    rw [if_neg hc1]
    rw [hil, codesT_all] at ho
    exact ⟨_, _, rfl, ho, by simp [ob]; omega⟩
def DC (f F : Nat → Nat) (A : Option Addr) (n c : Nat) (most : Nat) : Array Value := (CI f ++ CU F ++ [Value.slice A n c, Value.int .i64 ((most : Nat) : Int)]).toArray
theorem DC_c (f F : Nat → Nat) (A : Option Addr) (n c most k : Nat) (h : k < 16) : (DC f F A n c most)[k]? = some (.int .i64 ((f k : Nat) : Int)) := by
 unfold DC
 rw [List.getElem?_toArray, List.getElem?_append_left (by simp [CI, CU]; omega), List.getElem?_append_left (by simpa [CI] using h), CI_get f k h]
theorem DC_f (f F : Nat → Nat) (A : Option Addr) (n c most k : Nat) (h : k < 16) : (DC f F A n c most)[16 + k]? = some (.int .u64 ((F k : Nat) : Int)) := by
 unfold DC
 have e : 16 + k - (CI f).length = k := by simp [CI]
 rw [List.getElem?_toArray, List.getElem?_append_left (by simp [CI, CU]; omega), List.getElem?_append_right (by simp [CI]), e, CU_get F k h]
def IsD (w : World) (g : Nat) (A : Option Addr) (c : Nat) (f F : Nat → Nat) (sy : List Nat) (most : Nat) : Prop :=
 Blk w g 181 (DC f F A sy.length c most) ∧ Own w 3 1 A sy.length c (NI sy)
theorem IsD.frm {w w' : World} {g : Nat} {A : Option Addr} {c : Nat} {f F : Nat → Nat} {sy : List Nat} {most : Nat} {S : List Nat} (h : IsD w g A c f F sy most) (k : Frm S w w') (hS : ∀ x ∈ g :: ob A, x ∉ S) : IsD w' g A c f F sy most :=
 ⟨h.1.frm k (hS g (by simp)), h.2.frm k (fun x hx => hS x (by simp [hx]))⟩
def newE (l : List Int) : Nat := if chk l = 2 ∧ ((order l).length = 0 ∨ (order l).length = 1 ∧ cn l 1 = 1) then 0 else chk l
def mostC (l : List Int) : Nat := if chk l = 2 then (order l).length else 15
set_option maxRecDepth 100000 in
theorem newD_spec (A : Option Addr) (c0 : Nat) (l : List Int) (w : World) (hl : l.length ≤ 1000000) (hr : Rd w 1 A l.length (IB l)) :
  Calls Try.prog 106 #[.slice A l.length c0] w fun e w' => Frm [] w w' ∧
   if newE l = 0 then ∃ g B c, e = .returned (.tuple #[.pointer (some ⟨g, 0, none⟩), .int .i64 ((0 : Nat) : Int)]) ∧ IsD w' g B c (cn l) (fst' l) (order l) (mostC l) ∧ ∀ x ∈ g :: ob B, w.heap.size ≤ x
   else e = .returned (.tuple #[.pointer none, .int .i64 ((newE l : Nat) : Int)]) := by
 refine VC.calls (nt := 87) (res := #[.tmp 2, .tmp 3]) Try.func106 rfl Try.ntmps106 Try.results106 rfl ?_
 refine jS (jR (jA ?_))
 refine Ops.r (v := .int .i64 ((0 : Nat) : Int)) (Run.asg rfl) rfl ?_
 refine jO (jN (jv1 0 ?_))
 refine jS (jR (jM ?_))
 refine Ops.cl (Enters.fn (evs.cons rfl evs.nil) Try.call60) (check_spec A c0 l _ (by omega) hr) rfl ?_
 rintro e w1 ⟨rfl, hf1⟩
 refine ⟨_, rfl, ?_⟩
 refine jA ?_
 refine jO (jN (jv2 0 4 ?_))
 refine jS (jR (jM ?_))
 refine Ops.cl (Enters.fn (evs.cons rfl evs.nil) Try.call61) (count_spec' A c0 l _ (by omega) (hr.belowW hf1.below)) rfl ?_
 rintro e w2 ⟨f, rfl, hf, hgd, hf2⟩
 refine ⟨_, rfl, ?_⟩
 have hfr2 := hf1.own hf2 (by simp)
 refine jM ?_
 refine Ops.r (Run.extract rfl rfl) rfl ?_
 refine Ops.r (Run.extract rfl rfl) rfl ?_
 refine Ops.m (Does.alloc zero110) rfl ?_
 rintro _ w3 ⟨rfl, hF3⟩
 have hb3 : Blk w3 w2.heap.size 110 (CI fun _ => 0).toArray := hF3.blk
 have hfr3 := hfr2.own hF3.frm (by simp)
 have hg3 := hfr2.size
 refine Ops.st (Acts.storeA rfl rfl Try.sizeOf110 hb3 rfl (CI_one _)) ?_
 rintro w4 ⟨hb4, hf4, hs4⟩
 have hfr4 := hfr3.own hf4 (up_one hg3)
 generalize hgc : w2.heap.size = gc at *
 refine jA ?_
 refine jO (jN (jv3 0 4 5 ?_))
 refine jS ?_
 refine VC.held (fun v => Blk v gc 110 (CI f).toArray ∧ Frm [] w v) jK ?_
 have hS : (fun v => Blk v gc 110 (CI f).toArray ∧ Frm [] w v) w4.drew := ⟨hb4.drawn (Drawn.drew _), hfr4.drawn (Drawn.drew _)⟩
 refine jH 0 rfl hS (fun w0 hw0 => Run.loadB rfl Try.isAgg110 Try.sizeOf110 (hw0.1) rfl) ?_
 refine jH 1 rfl hS (fun w0 hw0 => Run.loadB rfl Try.isAgg110 Try.sizeOf110 (hw0.1) rfl) ?_
 refine HOps.cl 2 rfl jK (Enters.fn (evs.cons rfl evs.nil) Try.call62) (firsts_spec f _ hf) trivial rfl rfl ?_
 rintro e w5 ⟨rfl, hf5⟩
 have hS : (fun v => Blk v gc 110 (CI f).toArray ∧ Frm [] w v) w5 := ⟨hS.1.frm hf5 (by simp), hS.2.own hf5 (by simp)⟩
 refine ⟨_, rfl, hS, ?_⟩
 refine jH 3 rfl hS (fun w0 hw0 => Run.build (evs.cons rfl (evs.cons rfl (evs.cons rfl evs.nil))) zero181 (places181).choose_spec.1 (places181).choose_spec.2 (cells := DC f (fstF f) none 0 0 15) jK) ?_
 refine HOps.m 4 rfl jK (Does.box rfl) trivial rfl rfl ?_
 rintro _ w6 ⟨rfl, hF6⟩
 have hb6 : Blk w6 w5.heap.size 181 (DC f (fstF f) none 0 0 15) := hF6.blk
 have hg6 := hS.2.size
 refine ⟨⟨hS.1.frm hF6.frm (by simp), hS.2.own hF6.frm (by simp)⟩, ?_⟩
 have hbc := hS.1.frm hF6.frm (by simp)
 have hfr6 := hS.2.own hF6.frm (by simp)
 have hne : gc ≠ w5.heap.size := by have := hS.1.lt; omega
 generalize hgd0 : w5.heap.size = gd at *
 have hS : (fun v => Blk v gc 110 (CI f).toArray ∧ Frm [] w v) w6 := ⟨hbc, hfr6⟩
 refine jH 5 rfl hS (fun w0 hw0 => Run.asg rfl) ?_
 refine HOps.done jK ?_
 refine jN (jv4 0 4 5 7 ?_)
 refine jS (jS (jR ?_))
 refine Ops.r (v := .int .i64 ((0 : Nat) : Int)) (Run.mv rfl) rfl ?_
 refine jO (jN (jB ?_))
 refine VC.loop (σ := Nat × Option Addr × Nat) (fun s => [(0, .slice A l.length c0), (4, .int .i64 ((chk l : Nat) : Int)), (5, .pointer (some ⟨gc, 0, none⟩)), (7, .pointer (some ⟨gd, 0, none⟩)), (23, .int .i64 s.1)]) (fun s wr => s.1 ≤ 16 ∧ Blk wr gc 110 (CI f).toArray ∧ IsD wr gd s.2.1 s.2.2 f (fstF f) (ordTo l s.1) 15 ∧ Frm [] w wr ∧ ∀ x ∈ ob s.2.1, w.heap.size ≤ x) (fun s => 16 - s.1) (0, none, 0) (js5 rfl rfl (by rw [← hgc]; rfl) (by rw [← hgd0]; rfl) rfl) ⟨by omega, hbc, ⟨hb6, Own.nil _ _ _⟩, hfr6, up_nil⟩ ?_
 rintro ⟨n, B, c⟩ wr ⟨hn, hbc, hD, hfr, huB⟩
 dsimp only at hn hbc hD hfr huB ⊢
 refine jS (jR ?_)
 refine Ops.r (Run.bin rfl rfl (Bin.lssN _ 16)) rfl ?_
 refine jO (jN (jS ?_))
 refine VC.condD rfl (fun hc1 => ?_) (fun hc1 => ?_)
 ·
  refine jQ (jN (jv5 0 4 5 7 23 ?_))
  refine jS (jB (jS (jR (jM ?_))))
  refine jA ?_
  refine jO (jN (jv6 0 4 5 7 8 23 ?_))
  refine jS (jR (jM ?_))
  refine Ops.r (Run.lenS rfl Try.underlying38) rfl ?_
  refine Ops.r (v := .int .i64 ((0 : Nat) : Int)) (Run.mv rfl) rfl ?_
  refine jO (jN (jB ?_))
  refine VC.loop (σ := Nat × Option Addr × Nat) (fun s => [(0, .slice A l.length c0), (4, .int .i64 ((chk l : Nat) : Int)), (5, .pointer (some ⟨gc, 0, none⟩)), (7, .pointer (some ⟨gd, 0, none⟩)), (8, .int .i64 n), (23, .int .i64 n), (26, .slice A l.length c0), (27, .int .i64 ((l.length : Nat) : Int)), (28, .int .i64 s.1)]) (fun s wr => s.1 ≤ l.length ∧ Blk wr gc 110 (CI f).toArray ∧ IsD wr gd s.2.1 s.2.2 f (fstF f) (ordTo l n ++ idxsT l n s.1) 15 ∧ Frm [] w wr ∧ ∀ x ∈ ob s.2.1, w.heap.size ≤ x) (fun s => l.length - s.1) (0, B, c) (js9 rfl rfl rfl rfl rfl rfl rfl rfl rfl) ⟨by omega, hbc, by simpa [idxsT] using hD, hfr, huB⟩ ?_
  clear hD hbc hfr huB
  rintro ⟨i, B, c⟩ wr ⟨hi, hbc, hD, hfr, huB⟩
  dsimp only at hi hbc hD hfr huB ⊢
  have hsl : (ordTo l n ++ idxsT l n i).length ≤ l.length := by
   rw [List.length_append, ordTo_len]
   have h1 := atL_le l (n + 1)
   have h2 : atL l (n + 1) = atL l n + cn l n := rfl
   by_cases hn0 : n = 0
   ·
    subst hn0; simp [idxsT, atL]
   ·
    have h3 := idxsT_len l n hn0 i hi
    have h4 : (l.take i).count (n : Int) ≤ l.count (n : Int) := (List.take_sublist i l).count_le _
    have h5 : cn l n = l.count (n : Int) := by unfold cn; rw [if_neg hn0]
    omega
  refine jS (jR ?_)
  refine Ops.r (Run.bin rfl rfl (Bin.lssN _ _)) rfl ?_
  refine jO (jN (jS ?_))
  refine VC.condD rfl (fun hc2 => ?_) (fun hc2 => ?_)
  ·
   obtain ⟨ad, rfl, hcell⟩ := IB_at (hr.belowW hfr.below) hc2
   have hgt := getD_at l i hc2
   generalize hx : l[i] = x at *
   refine jQ (jN (jv9 0 4 5 7 8 23 26 27 28 ?_))
   refine jS (jB (jS (jR (jM ?_))))
   refine Ops.r (Run.index1 _ rfl rfl Try.underlying38 Try.sizeOf3 (by omega)) rfl ?_
   refine Ops.r (Run.load rfl Try.isAgg3 hcell) rfl ?_
   refine jA ?_
   refine jA ?_
   refine jO (jN (jv11 0 4 5 7 8 9 10 23 26 27 28 ?_))
   refine jS ?_
   refine VC.split1 [(0, _), (4, _), (5, _), (7, _), (8, _), (9, _), (23, _), (26, _), (27, _), (28, _)] (js10 rfl rfl rfl rfl rfl rfl rfl rfl rfl rfl) 39 (.bool (decide (x = (n : Int) ∧ 0 < n))) ?_ ?_
   ·
    by_cases hs0 : x = (n : Int)
    ·
     refine jR (jM ?_)
     refine jM ?_
     refine Ops.r (Run.bin rfl rfl (Bin.eql _ _)) rfl ?_
     refine jM ?_
     refine Ops.rg rfl (by first | rfl | assumption | decide | (simp; done) | (simp; omega) | (simp [*]; done)) (Run.mv rfl) rfl ?_
     refine Ops.rg rfl (by first | rfl | assumption | decide | (simp; done) | (simp; omega) | (simp [*]; done)) (Run.bin rfl rfl (Bin.gtrN _ 0)) rfl ?_
     refine Ops.r (Run.pickT rfl rfl (by first | rfl | assumption | decide | (simp; done) | (simp; omega) | (simp [*]; done))) rfl ?_
     refine jO ?_
     refine jN ⟨(js11 (by rw [dand1 hs0]; rfl) rfl rfl rfl rfl rfl rfl rfl rfl rfl rfl), rfl⟩
    ·
     refine jR (jM ?_)
     refine jM ?_
     refine Ops.r (Run.bin rfl rfl (Bin.eql _ _)) rfl ?_
     refine jM ?_
     refine Ops.sk rfl (by first | rfl | assumption | decide | (simp; done) | (simp; omega) | (simp [*]; done)) rfl ?_
     refine Ops.sk rfl (by first | rfl | assumption | decide | (simp; done) | (simp; omega) | (simp [*]; done)) rfl ?_
     refine Ops.r (Run.pickF rfl rfl (by first | rfl | assumption | decide | (simp; done) | (simp; omega) | (simp [*]; done))) rfl ?_
     refine jO ?_
     refine jN ⟨(js11 (by rw [dand0 hs0]; rfl) rfl rfl rfl rfl rfl rfl rfl rfl rfl rfl), rfl⟩
   ·
    intro Γ hΓ
    refine jN (VC.sub _ hΓ ?_)
    refine VC.meet (σ := Option Addr × Nat) (fun s => [(0, .slice (some ad) l.length c0), (4, .int .i64 ((chk l : Nat) : Int)), (5, .pointer (some ⟨gc, 0, none⟩)), (7, .pointer (some ⟨gd, 0, none⟩)), (8, .int .i64 n), (23, .int .i64 n), (26, .slice (some ad) l.length c0), (27, .int .i64 ((l.length : Nat) : Int)), (28, .int .i64 i)]) (fun s w9 => Blk w9 gc 110 (CI f).toArray ∧ IsD w9 gd s.1 s.2 f (fstF f) (ordTo l n ++ idxsT l n (i + 1)) 15 ∧ Frm [] w w9 ∧ ∀ x ∈ ob s.1, w.heap.size ≤ x) ?_ ?_
    ·
     refine VC.condD rfl (fun hc3 => ?_) (fun hc3 => ?_)
     ·
      refine jR (jM ?_)
      refine jM ?_
      refine Ops.r (Run.nilck rfl) rfl ?_
      refine Ops.r (Run.fieldAddr rfl Try.underlying181 rfl Try.sizeOf38 (by decide)) rfl ?_
      refine Ops.r (Run.load rfl Try.isAgg38 (hD.1.cell 32)) rfl ?_
      refine jM ?_
      refine Ops.m (Does.buildS1 rfl Try.underlying38 Try.sizeOf3 zero3 (by decide) (by decide) rfl rfl) rfl ?_
      rintro _ w7 ⟨rfl, hF7⟩
      have ho7 := hD.2.frm hF7.frm (by simp)
      have hb7 := hD.1.frm hF7.frm (by simp)
      have hrd7 : Rd w7 1 (some ⟨wr.heap.size, 0, none⟩) 1 (NI [i]) := Rd.of_blk hF7.blk rfl
      refine Ops.m (Does.app rfl rfl Try.underlying38 (info3) rfl (by decide) ho7 hrd7 (NI_one [i]) (by omega) (by omega)) rfl ?_
      rintro _ w8 ⟨A8, c8, rfl, ho8, hf8, hob8⟩
      have hb8 := hb7.frm hf8 (ho7.ne_blk hb7 (by decide))
      have hbc8 := (hbc.frm hF7.frm (by simp)).frm hf8 (ho7.ne_blk (hbc.frm hF7.frm (by simp)) (by decide))
      have hfr7 := hfr.own hF7.frm (by simp)
      have hfr8 := hfr7.own hf8 huB
      have hu8 := up_app huB hob8 hfr7.size
      refine Ops.r (Run.nilck rfl) rfl ?_
      refine Ops.r (Run.fieldAddr rfl Try.underlying181 rfl Try.sizeOf38 (by decide)) rfl ?_
      refine Ops.st (Acts.store rfl rfl Try.sizeOf38 hb8 rfl rfl) ?_
      rintro w9 ⟨hb9, hf9, hs9⟩
      have ho9 := ho8.frm hf9 (fun x hx hx2 => by simp at hx2; subst hx2; exact ho8.ne_blk hb8 (by decide) hx)
      refine jO ?_
      refine jN ⟨(A8, c8), (js9 rfl rfl rfl rfl rfl rfl rfl rfl rfl), ?_⟩
      have e : ordTo l n ++ idxsT l n (i + 1) = (ordTo l n ++ idxsT l n i) ++ [i] := by
       unfold idxsT
       rw [if_neg (by omega), if_neg (by omega), List.range_succ, List.filter_append, List.filter_cons_of_pos (by rw [hgt]; simpa using hc3.1), List.append_assoc]
       rfl
      have e2 : (ordTo l n ++ idxsT l n i ++ [i]).length = (ordTo l n ++ idxsT l n i).length + 1 := List.length_append
      refine ⟨hbc8.frm hf9 (by simpa using hne), ?_, hfr8.own hf9 (up_one (by omega)), hu8⟩
      rw [e]
      generalize ordTo l n ++ idxsT l n i = sy at *
      refine ⟨?_, ?_⟩
      ·
       rw [e2]
       exact hb9
      ·
       rw [e2, NI_append]
       exact ho9
     ·
      refine jQ ?_
      refine jN ⟨(B, c), (js9 rfl rfl rfl rfl rfl rfl rfl rfl rfl), ?_⟩
      have e : idxsT l n (i + 1) = idxsT l n i := by
       unfold idxsT
       split
       ·
        rfl
       ·
        rw [List.range_succ, List.filter_append, List.filter_cons_of_neg (by rw [hgt]; simp; omega)]
        simp
      rw [e]
      exact ⟨hbc, hD, hfr, huB⟩
    ·
     rintro ⟨B9, c9⟩ w9 ⟨hbc9, hD9, hfr9, hu9⟩ Γ hΓ
     refine blockQ_n (jN (VC.sub _ hΓ ?_))
     refine jR ?_
     refine Ops.r (Run.bin rfl rfl (Bin.add_i64 _ 1 (by omega))) rfl ?_
     refine jM ?_
     refine jO ?_
     refine jN ⟨(i + 1, B9, c9), (js9 rfl rfl rfl rfl rfl rfl rfl rfl rfl), ?_, ?_⟩
     ·
      exact ⟨hc2, hbc9, hD9, hfr9, hu9⟩
     ·
      first | omega | (dsimp only; omega)
  ·
   have hil : i = l.length := by omega
   have hord : ordTo l n ++ idxsT l n i = ordTo l (n + 1) := by rw [ordTo_succ, hil]; rfl
   rw [hord] at hD
   refine jX ?_
   refine thenQ_x (thenQ_x (blockQ_x ?_))
   refine blockQ_n (jN ?_)
   refine jv5 0 4 5 7 23 ?_
   refine jR ?_
   refine Ops.r (Run.bin rfl rfl (Bin.add_i64 _ 1 (by omega))) rfl ?_
   refine jM ?_
   refine jO ?_
   refine jN ⟨(n + 1, B, c), (js5 rfl rfl rfl rfl rfl), ?_, ?_⟩
   ·
    exact ⟨hc1, hbc, hD, hfr, huB⟩
   ·
    first | omega | (dsimp only; omega)
 ·
  have hn16 : n = 16 := by omega
  subst hn16
  refine jX ?_
  refine thenQ_x (thenQ_x (blockQ_x ?_))
  refine jN (jv3 4 5 7 ?_)
  refine jS (jS ?_)
  refine VC.split1 [(4, _), (5, _), (7, _)] (js3 rfl rfl rfl) 61 (.bool (decide (chk l = 2 ∧ (order l).length = 0))) ?_ ?_
  ·
   by_cases hs0 : chk l = 2
   ·
    refine jR (jM ?_)
    refine Ops.r (Run.bin rfl rfl (Bin.eqlN _ 2)) rfl ?_
    refine jM ?_
    refine Ops.rg rfl (by first | rfl | assumption | decide | (simp; done) | (simp; omega) | (simp [*]; done)) (Run.mv rfl) rfl ?_
    refine Ops.rg rfl (by first | rfl | assumption | decide | (simp; done) | (simp; omega) | (simp [*]; done)) (Run.nilck rfl) rfl ?_
    refine Ops.rg rfl (by first | rfl | assumption | decide | (simp; done) | (simp; omega) | (simp [*]; done)) (Run.fieldAddr rfl Try.underlying181 rfl Try.sizeOf38 (by decide)) rfl ?_
    refine Ops.rg rfl (by first | rfl | assumption | decide | (simp; done) | (simp; omega) | (simp [*]; done)) (Run.load rfl Try.isAgg38 (hD.1.cell 32)) rfl ?_
    refine Ops.rg rfl (by first | rfl | assumption | decide | (simp; done) | (simp; omega) | (simp [*]; done)) (Run.lenS rfl Try.underlying38) rfl ?_
    refine Ops.rg rfl (by first | rfl | assumption | decide | (simp; done) | (simp; omega) | (simp [*]; done)) (Run.bin rfl rfl (Bin.eqlN _ 0)) rfl ?_
    refine Ops.r (Run.pickT rfl rfl (by first | rfl | assumption | decide | (simp; done) | (simp; omega) | (simp [*]; done))) rfl ?_
    refine jO ?_
    refine jN ⟨(js4 (by rw [dand1 hs0]; rfl) rfl rfl rfl), rfl⟩
   ·
    refine jR (jM ?_)
    refine Ops.r (Run.bin rfl rfl (Bin.eqlN _ 2)) rfl ?_
    refine jM ?_
    refine Ops.sk rfl (by first | rfl | assumption | decide | (simp; done) | (simp; omega) | (simp [*]; done)) rfl ?_
    refine Ops.sk rfl (by first | rfl | assumption | decide | (simp; done) | (simp; omega) | (simp [*]; done)) rfl ?_
    refine Ops.sk rfl (by first | rfl | assumption | decide | (simp; done) | (simp; omega) | (simp [*]; done)) rfl ?_
    refine Ops.sk rfl (by first | rfl | assumption | decide | (simp; done) | (simp; omega) | (simp [*]; done)) rfl ?_
    refine Ops.sk rfl (by first | rfl | assumption | decide | (simp; done) | (simp; omega) | (simp [*]; done)) rfl ?_
    refine Ops.sk rfl (by first | rfl | assumption | decide | (simp; done) | (simp; omega) | (simp [*]; done)) rfl ?_
    refine Ops.r (Run.pickF rfl rfl (by first | rfl | assumption | decide | (simp; done) | (simp; omega) | (simp [*]; done))) rfl ?_
    refine jO ?_
    refine jN ⟨(js4 (by rw [dand0 hs0]; rfl) rfl rfl rfl), rfl⟩
  ·
   intro Γ hΓ
   refine jN (VC.sub _ hΓ ?_)
   refine VC.meet (σ := Unit) (fun s => [(4, .int .i64 (((if chk l = 2 ∧ (order l).length = 0 then 0 else chk l) : Nat) : Int)), (5, .pointer (some ⟨gc, 0, none⟩)), (7, .pointer (some ⟨gd, 0, none⟩))]) (fun s w9 => Blk w9 gc 110 (CI f).toArray ∧ IsD w9 gd B c f (fstF f) (order l) (if chk l = 2 ∧ (order l).length = 0 then 0 else 15) ∧ Frm [] w w9) ?_ ?_
   ·
    refine VC.condD rfl (fun hc4 => ?_) (fun hc4 => ?_)
    ·
     refine jR (jM ?_)
     refine Ops.r (Run.nilck rfl) rfl ?_
     refine Ops.r (Run.fieldAddr rfl Try.underlying181 rfl Try.sizeOf3 (by decide)) rfl ?_
     refine Ops.st (Acts.store rfl rfl Try.sizeOf3 hD.1 rfl rfl) ?_
     rintro w9 ⟨hb9, hf9, hs9⟩
     have ho9 := hD.2.frm hf9 (fun x hx hx2 => by simp at hx2; subst hx2; exact hD.2.ne_blk hD.1 (by decide) hx)
     refine Ops.r (v := .int .i64 ((0 : Nat) : Int)) (Run.asg rfl) rfl ?_
     refine jO ?_
     refine jN ⟨(), (js3 (by rw [if_pos hc4]; rfl) rfl rfl), ?_⟩
     rw [if_pos hc4]
     exact ⟨hbc.frm hf9 (by simpa using hne), ⟨hb9, ho9⟩, hfr.own hf9 (up_one (by omega))⟩
    ·
     refine jQ ?_
     refine jN ⟨(), (js3 (by rw [if_neg hc4]; rfl) rfl rfl), ?_⟩
     rw [if_neg hc4]
     exact ⟨hbc, hD, hfr⟩
   ·
    rintro _ w4 ⟨hbc4, hD4, hfr4⟩ Γ hΓ
    generalize he4 : (if chk l = 2 ∧ (order l).length = 0 then 0 else chk l) = e4 at *
    generalize hm4 : (if chk l = 2 ∧ (order l).length = 0 then 0 else 15) = m4 at *
    refine jN (VC.sub _ hΓ ?_)
    refine jS (jS ?_)
    refine VC.split1 [(4, _), (7, _)] (js2 rfl rfl) 79 (.bool (decide (e4 = 2 ∧ (order l).length = 1 ∧ f 1 = 1))) ?_ ?_
    ·
     refine jR ?_
     refine jM ?_
     refine Ops.r (Run.bin rfl rfl (Bin.eqlN _ 2)) rfl ?_
     by_cases hs66 : e4 = 2
     ·
      refine jM ?_
      refine Ops.rg rfl (by first | rfl | assumption | decide | (simp; done) | (simp; omega) | (simp [*]; done)) (Run.mv rfl) rfl ?_
      refine Ops.rg rfl (by first | rfl | assumption | decide | (simp; done) | (simp; omega) | (simp [*]; done)) (Run.nilck rfl) rfl ?_
      refine Ops.rg rfl (by first | rfl | assumption | decide | (simp; done) | (simp; omega) | (simp [*]; done)) (Run.fieldAddr rfl Try.underlying181 rfl Try.sizeOf38 (by decide)) rfl ?_
      refine Ops.rg rfl (by first | rfl | assumption | decide | (simp; done) | (simp; omega) | (simp [*]; done)) (Run.load rfl Try.isAgg38 (hD4.1.cell 32)) rfl ?_
      refine Ops.rg rfl (by first | rfl | assumption | decide | (simp; done) | (simp; omega) | (simp [*]; done)) (Run.lenS rfl Try.underlying38) rfl ?_
      refine Ops.rg rfl (by first | rfl | assumption | decide | (simp; done) | (simp; omega) | (simp [*]; done)) (Run.bin rfl rfl (Bin.eqlN _ 1)) rfl ?_
      by_cases hs73 : (order l).length = 1
      ·
       refine Ops.r (Run.pickT rfl rfl (by first | rfl | assumption | decide | (simp; done) | (simp; omega) | (simp [*]; done))) rfl ?_
       refine jM ?_
       refine Ops.rg rfl (by first | rfl | assumption | decide | (simp; done) | (simp; omega) | (simp [*]; done)) (Run.indexA1 1 rfl rfl Try.underlying110 Try.sizeOf3 (by omega)) rfl ?_
       refine Ops.rg rfl (by first | rfl | assumption | decide | (simp; done) | (simp; omega) | (simp [*]; done)) (Run.load rfl Try.isAgg3 ((hbc4.cell _).trans (by simpa using CI_get f 1 (by omega)))) rfl ?_
       refine Ops.rg rfl (by first | rfl | assumption | decide | (simp; done) | (simp; omega) | (simp [*]; done)) (Run.bin rfl rfl (Bin.eqlN _ 1)) rfl ?_
       by_cases hs78 : f 1 = 1
       ·
        refine Ops.r (Run.pickT rfl rfl (by first | rfl | assumption | decide | (simp; done) | (simp; omega) | (simp [*]; done))) rfl ?_
        refine jO ?_
        refine jN ⟨(js3 (jC (by simp [*])) rfl rfl), rfl⟩
       ·
        refine Ops.r (Run.pickT rfl rfl (by first | rfl | assumption | decide | (simp; done) | (simp; omega) | (simp [*]; done))) rfl ?_
        refine jO ?_
        refine jN ⟨(js3 (jC (by simp [*])) rfl rfl), rfl⟩
      ·
       refine Ops.r (Run.pickT rfl rfl (by first | rfl | assumption | decide | (simp; done) | (simp; omega) | (simp [*]; done))) rfl ?_
       refine jM ?_
       refine Ops.sk rfl (by first | rfl | assumption | decide | (simp; done) | (simp; omega) | (simp [*]; done)) rfl ?_
       refine Ops.sk rfl (by first | rfl | assumption | decide | (simp; done) | (simp; omega) | (simp [*]; done)) rfl ?_
       refine Ops.sk rfl (by first | rfl | assumption | decide | (simp; done) | (simp; omega) | (simp [*]; done)) rfl ?_
       refine Ops.r (Run.pickF rfl rfl (by first | rfl | assumption | decide | (simp; done) | (simp; omega) | (simp [*]; done))) rfl ?_
       refine jO ?_
       refine jN ⟨(js3 (jC (by simp [*])) rfl rfl), rfl⟩
     ·
      refine jM ?_
      refine Ops.sk rfl (by first | rfl | assumption | decide | (simp; done) | (simp; omega) | (simp [*]; done)) rfl ?_
      refine Ops.sk rfl (by first | rfl | assumption | decide | (simp; done) | (simp; omega) | (simp [*]; done)) rfl ?_
      refine Ops.sk rfl (by first | rfl | assumption | decide | (simp; done) | (simp; omega) | (simp [*]; done)) rfl ?_
      refine Ops.sk rfl (by first | rfl | assumption | decide | (simp; done) | (simp; omega) | (simp [*]; done)) rfl ?_
      refine Ops.sk rfl (by first | rfl | assumption | decide | (simp; done) | (simp; omega) | (simp [*]; done)) rfl ?_
      refine Ops.sk rfl (by first | rfl | assumption | decide | (simp; done) | (simp; omega) | (simp [*]; done)) rfl ?_
      refine Ops.r (Run.pickF rfl rfl (by first | rfl | assumption | decide | (simp; done) | (simp; omega) | (simp [*]; done))) rfl ?_
      refine jM ?_
      refine Ops.sk rfl (by first | rfl | assumption | decide | (simp; done) | (simp; omega) | (simp [*]; done)) rfl ?_
      refine Ops.sk rfl (by first | rfl | assumption | decide | (simp; done) | (simp; omega) | (simp [*]; done)) rfl ?_
      refine Ops.sk rfl (by first | rfl | assumption | decide | (simp; done) | (simp; omega) | (simp [*]; done)) rfl ?_
      refine Ops.r (Run.pickF rfl rfl (by first | rfl | assumption | decide | (simp; done) | (simp; omega) | (simp [*]; done))) rfl ?_
      refine jO ?_
      refine jN ⟨(js3 (jC (by simp [*])) rfl rfl), rfl⟩
    ·
     intro Γ hΓ
     refine jN (VC.sub _ hΓ ?_)
     refine VC.condD rfl (fun hc5 => ?_) (fun hc5 => ?_)
     ·
      obtain ⟨he2, hl1, hf1'⟩ := hc5
      subst he2
      have hch : chk l = 2 := by split at he4 <;> omega
      have hfg := hgd (chk_good (by omega))
      subst hfg
      have hnew : newE l = 0 := by unfold newE; rw [if_pos ⟨hch, .inr ⟨hl1, hf1'⟩⟩]
      refine jR (jM ?_)
      refine Ops.r (Run.nilck rfl) rfl ?_
      refine Ops.r (Run.fieldAddr rfl Try.underlying181 rfl Try.sizeOf3 (by decide)) rfl ?_
      refine Ops.st (Acts.store rfl rfl Try.sizeOf3 hD4.1 rfl rfl) ?_
      rintro w9 ⟨hb9, hf9, hs9⟩
      have ho9 := hD4.2.frm hf9 (fun x hx hx2 => by simp at hx2; subst hx2; exact hD4.2.ne_blk hD4.1 (by decide) hx)
      refine Ops.r (v := .int .i64 ((0 : Nat) : Int)) (Run.asg rfl) rfl ?_
      refine jO (jN (jv2 4 7 ?_))
      refine jS (jS (jR (jM ?_)))
      refine Ops.r (Run.bin rfl rfl (Bin.neqN _ 0)) rfl ?_
      refine jO (jN (jv3 4 7 84 ?_))
      refine VC.condF rfl (by simp) ?_
      refine jQ (jN (jv1 7 ?_))
      refine jS (jR (jM ?_))
      refine jA ?_
      refine Ops.r (v := .int .i64 ((0 : Nat) : Int)) (Run.asg rfl) rfl ?_
      refine jO (jN (jv2 2 3 ?_))
      refine jT ?_
      refine end2 rfl rfl ?_
      refine ⟨hfr4.own hf9 (up_one (by omega)), ?_⟩
      rw [if_pos hnew]
      refine ⟨gd, B, c, rfl, ⟨?_, ho9⟩, up_cons (by omega) huB⟩
      have hm : mostC l = 1 := by unfold mostC; rw [if_pos hch]; exact hl1
      rw [hm]
      exact hb9
     ·
      refine jQ (jN (jv2 4 7 ?_))
      refine jS (jS (jR (jM ?_)))
      refine Ops.r (Run.bin rfl rfl (Bin.neqN _ 0)) rfl ?_
      refine jO (jN (jv3 4 7 84 ?_))
      refine VC.condD rfl (fun hc6 => ?_) (fun hc6 => ?_)
      ·
       have hnew : newE l = e4 := by
        unfold newE
        split at he4
        ·
         omega
        ·
         rename_i h
         rw [if_neg, he4]
         rintro ⟨h1, h2⟩
         have hfg := hgd (chk_good (by omega))
         rcases h2 with h2 | ⟨h2, h3⟩
         ·
          exact h ⟨h1, h2⟩
         ·
          exact hc5 ⟨by omega, h2, by rw [hfg]; exact h3⟩
       refine jS (jR (jM ?_))
       refine jA ?_
       refine jA ?_
       refine jO (jN (jv2 2 3 ?_))
       refine jT ?_
       refine thenQ_r (end2 rfl rfl ?_)
       refine ⟨hfr4, ?_⟩
       rw [if_neg (by omega), hnew]
      ·
       have hnew : newE l = 0 := by
        unfold newE
        split
        ·
         rfl
        ·
         rename_i h
         split at he4
         ·
          rename_i h2; exact absurd ⟨h2.1, .inl h2.2⟩ h
         ·
          omega
       have hch : chk l ≠ 1 := by
        intro h
        unfold newE at hnew
        rw [h, if_neg (by omega)] at hnew
        omega
       have hfg := hgd (chk_good hch)
       subst hfg
       have hmost : m4 = mostC l := by
        unfold mostC
        split at he4
        ·
         rename_i h; rw [if_pos h] at hm4; rw [if_pos h.1]; omega
        ·
         rename_i h; rw [if_neg h] at hm4; rw [if_neg (by omega)]; omega
       refine jQ (jN (jv1 7 ?_))
       refine jS (jR (jM ?_))
       refine jA ?_
       refine Ops.r (v := .int .i64 ((0 : Nat) : Int)) (Run.asg rfl) rfl ?_
       refine jO (jN (jv2 2 3 ?_))
       refine jT ?_
       refine end2 rfl rfl ?_
       refine ⟨hfr4, ?_⟩
       rw [if_pos hnew]
       refine ⟨gd, B, c, rfl, ?_, up_cons (by omega) huB⟩
       rw [← hmost]
       exact hD4
end Go.Proofs.Ytnmieihcjjiccaa
namespace Go.Proofs.Ytnmieihcjjiccaa
open Go.RowKit
def BL (l : List Bool) : List Value := l.map Value.bool
theorem NB_U8 (xs : List Nat) (h : ∀ x ∈ xs, x < 256) : NB xs = U8 (xs.map UInt8.ofNat) := by
 simp only [NB, U8, List.map_map]
 apply List.map_congr_left
 intro x hx
 have := h x hx
 simp
 omega
def strB (xs : List Nat) : ByteArray := ⟨(xs.map UInt8.ofNat).toArray⟩
end Go.Proofs.Ytnmieihcjjiccaa
namespace Go.Proofs.Ytnmieihcjjiccaa
open Go.RowKit
def TakeR (bs : List Nat) (p : Nat) (n : Int) (v e p' : Nat) : Prop :=
 (n < 0 ∨ 32 < n) ∧ v = 0 ∧ e = 1 ∧ p' = p ∨ ∃ m : Nat, n = m ∧ m ≤ 32 ∧ (8 * bs.length - p < m ∧ v = 0 ∧ e = 2 ∧ p' = p ∨ m ≤ 8 * bs.length - p ∧ v = num (((ofB bs).drop p).take m) ∧ e = 0 ∧ p' = p + m)
theorem take_any (g p : Nat) (n : Int) (A : Option Addr) (bs : List Nat) (w : World) (hp : p ≤ 8 * bs.length) (hbs : bs.length ≤ 1000000000) (hB : ∀ b ∈ bs, b < 256) (hR : IsR w g A bs p) :
  Calls Try.prog 101 #[.pointer (some ⟨g, 0, none⟩), .int .i64 n] w fun e w' => ∃ v k p', e = .returned (.tuple #[.int .u64 ((v : Nat) : Int), .int .i64 ((k : Nat) : Int)]) ∧ TakeR bs p n v k p' ∧ p' ≤ 8 * bs.length ∧ IsR w' g A bs p' ∧ Frm [g] w w' := by
 by_cases h1 : n < 0
 ·
  exact (take_neg g n w h1).mono fun e w' ⟨he, hw⟩ => by subst hw; exact ⟨0, 1, p, he, .inl ⟨.inl h1, rfl, rfl, rfl⟩, hp, hR, Frm.refl _ _⟩
 by_cases h2 : 32 < n
 ·
  exact (take_big g n w h2).mono fun e w' ⟨he, hw⟩ => by subst hw; exact ⟨0, 1, p, he, .inl ⟨.inr h2, rfl, rfl, rfl⟩, hp, hR, Frm.refl _ _⟩
 obtain ⟨m, rfl⟩ : ∃ m : Nat, n = m := ⟨n.toNat, by omega⟩
 by_cases h3 : 8 * bs.length - p < m
 ·
  exact (take_short g m p A bs w hp hbs hR (by omega) h3).mono fun e w' ⟨he, hd⟩ => ⟨0, 2, p, he, .inr ⟨m, rfl, by omega, .inl ⟨h3, rfl, rfl, rfl⟩⟩, hp, hR.frm hd.frm (by simp), hd.frm.mono (by simp)⟩
 ·
  exact (take_ok g m p A bs w hp hbs hB hR (by omega) (by omega)).mono fun e w' ⟨he, hR', hf⟩ => ⟨_, 0, p + m, he, .inr ⟨m, rfl, by omega, .inr ⟨by omega, rfl, rfl, rfl⟩⟩, by omega, hR', hf⟩
def OctR (w' : World) (bs : List Nat) (p : Nat) (n : Int) (B : Option Addr) (nl c e p' : Nat) : Prop :=
 n < 0 ∧ nl = 0 ∧ e = 1 ∧ p' = (p + 7) / 8 * 8 ∨ ∃ m : Nat, n = m ∧ ((8 * bs.length - (p + 7) / 8 * 8) / 8 < m ∧ nl = 0 ∧ e = 2 ∧ p' = (p + 7) / 8 * 8 ∨ m ≤ (8 * bs.length - (p + 7) / 8 * 8) / 8 ∧ nl = m ∧ e = 0 ∧ p' = (p + 7) / 8 * 8 + 8 * m ∧ Own w' 5 1 B m c (NB ((bs.drop ((p + 7) / 8)).take m)))
theorem octets_any (g p : Nat) (n : Int) (A : Option Addr) (bs : List Nat) (w : World) (hp : p ≤ 8 * bs.length) (hbs : bs.length ≤ 1000000000) (hR : IsR w g A bs p) :
  Calls Try.prog 104 #[.pointer (some ⟨g, 0, none⟩), .int .i64 n] w fun e w' => ∃ B nl c k p', e = .returned (.tuple #[.slice B nl c, .int .i64 ((k : Nat) : Int)]) ∧ OctR w' bs p n B nl c k p' ∧ p' ≤ 8 * bs.length ∧ IsR w' g A bs p' ∧ Frm [g] w w' := by
 by_cases h1 : n < 0
 ·
  exact (octets_neg g n p A bs w hp hbs hR h1).mono fun e w' ⟨he, hR', hf⟩ => ⟨none, 0, 0, 1, _, he, .inl ⟨h1, rfl, rfl, rfl⟩, by omega, hR', hf⟩
 obtain ⟨m, rfl⟩ : ∃ m : Nat, n = m := ⟨n.toNat, by omega⟩
 by_cases h3 : (8 * bs.length - (p + 7) / 8 * 8) / 8 < m
 ·
  exact (octets_short g m p A bs w hp hbs hR h3).mono fun e w' ⟨he, hR', hf⟩ => ⟨none, 0, 0, 2, _, he, .inr ⟨m, rfl, .inl ⟨h3, rfl, rfl, rfl⟩⟩, by omega, hR', hf⟩
 ·
  exact (octets_ok g m p A bs w hp hbs hR (by omega)).mono fun e w' ⟨B, c, he, ho, hR', hf, _⟩ => ⟨B, m, c, 0, _, he, .inr ⟨m, rfl, .inr ⟨by omega, rfl, rfl, rfl, ho⟩⟩, by omega, hR', hf⟩
theorem NB_cut (l : List Nat) (p m : Nat) (h : p + m ≤ l.length) {w : World} {A : Option Addr} {c : Nat} (hr : Rd w 1 A l.length (NB l)) (hc : l.length ≤ c) :
  Rd w 1 (cutA A c p 1) ((l.drop p).take m).length (NB ((l.drop p).take m)) := by
 have e := hr.cut (l := p) (r := p + m) (cap := c) (by omega) h hc
 have e1 : ((l.drop p).take m).length = p + m - p := by simp; omega
 have e2 : NB ((l.drop p).take m) = ((NB l).drop (p * 1)).take ((p + m - p) * 1) := by simp [NB, List.map_take, List.map_drop]
 rw [e1, e2]
 exact e
end Go.Proofs.Ytnmieihcjjiccaa
namespace Go.Proofs.Ytnmieihcjjiccaa
open Go.RowKit
def sumK (l : List Int) : Nat := (l.map fun x => if 0 < x then 2 ^ (15 - x.toNat) else 0).sum
theorem KC_congr {f h : Nat → Nat} : ∀ i, (∀ k, k < i → f k = h k) → KC f i = KC h i
 | 0, _ => rfl
 | i + 1, e => by rw [KC, KC, KC_congr i (fun k hk => e k (by omega)), e i (by omega)]
theorem KC_add (f h : Nat → Nat) : ∀ i, KC (fun k => f k + h k) i = KC f i + KC h i
 | 0 => rfl
 | i + 1 => by rw [KC, KC, KC, KC_add f h i, Nat.add_mul]; omega
theorem KC_zero : ∀ i, KC (fun _ => 0) i = 0
 | 0 => rfl
 | i + 1 => by rw [KC, KC_zero i, Nat.zero_mul]
theorem KC_one (m : Nat) : ∀ i, KC (fun k => if k = m then 1 else 0) i = if m < i then 2 ^ (15 - m) else 0
 | 0 => by simp [KC]
 | i + 1 => by
  rw [KC, KC_one m i]
  by_cases h : i = m
  ·
   subst h; simp
  ·
   by_cases h2 : m < i
   ·
    simp [h, h2, show m < i + 1 by omega]
   ·
    simp [h, h2, show ¬ m < i + 1 by omega]
theorem sumK_eq (l : List Int) (h : ∀ x ∈ l, 0 ≤ x ∧ x ≤ 15) : KC (cn l) 16 = sumK l := by
 induction l with
 | nil =>
  have e : KC (cn []) 16 = KC (fun _ => 0) 16 := KC_congr 16 (fun k _ => by simp [cn])
  rw [e, KC_zero]; rfl
 | cons a r ih =>
  have ha := h a (by simp)
  obtain ⟨m, rfl⟩ : ∃ m : Nat, a = m := ⟨a.toNat, by omega⟩
  have ih := ih (fun x hx => h x (by simp [hx]))
  by_cases hm : m = 0
  ·
   subst hm
   have e : KC (cn (((0 : Nat) : Int) :: r)) 16 = KC (cn r) 16 := KC_congr 16 (fun k _ => by
    unfold cn
    split
    ·
     rfl
    ·
     rename_i hk
     rw [List.count_cons]
     have : ¬ (((0 : Nat) : Int) == (k : Int)) = true := by simp; omega
     rw [if_neg this, Nat.add_zero])
   rw [e, ih]
   simp [sumK]
  ·
   have e : KC (cn ((m : Int) :: r)) 16 = KC (fun k => (if k = m then 1 else 0) + cn r k) 16 := KC_congr 16 (fun k _ => by
    unfold cn
    by_cases hk : k = 0
    ·
     simp [hk]; omega
    ·
     rw [if_neg hk, if_neg hk, List.count_cons]
     by_cases hkm : k = m
     ·
      subst hkm; simp; omega
     ·
      have : ¬ ((m : Int) == (k : Int)) = true := by simp; omega
      rw [if_neg this, if_neg hkm]; omega)
   rw [e, KC_add, KC_one, if_pos (by omega), ih]
   unfold sumK
   rw [List.map_cons, List.sum_cons, if_pos (by omega), Int.toNat_natCast]
theorem sumK_take (l : List Int) (i : Nat) (h : i < l.length) : sumK (l.take (i + 1)) = sumK (l.take i) + if 0 < l[i] then 2 ^ (15 - l[i].toNat) else 0 := by
 unfold sumK
 rw [List.take_add_one, List.getElem?_eq_getElem h]
 simp only [Option.toList_some, List.map_append, List.sum_append, List.map_cons, List.map_nil, List.sum_cons, List.sum_nil, Nat.add_zero]
end Go.Proofs.Ytnmieihcjjiccaa
namespace Go.Proofs.Ytnmieihcjjiccaa
open Go.RowKit
theorem hit_none {l : List Int} {n v : Nat} (h : ¬ (fst' l n ≤ v ∧ v - fst' l n < cn l n)) : hit l n v = none := by unfold hit; rw [if_neg h]
theorem hit_some {l : List Int} {n v : Nat} (h : fst' l n ≤ v ∧ v - fst' l n < cn l n) : hit l n v = some ((order l).getD (atL l n + (v - fst' l n)) 0) := by unfold hit; rw [if_pos h]
theorem or_bit (v : Nat) (b : Bool) : (v * 2 ^ 1) ||| b.toNat = 2 * v + b.toNat := by
 have h := or_top b.toNat 1 true (by cases b <;> decide)
 have h2 : (v * 2 ^ 1) ||| b.toNat = v * 2 ^ 1 + b.toNat := by
  rw [Nat.mul_comm, ← Nat.two_pow_add_eq_or_of_lt (by cases b <;> decide)]
 rw [h2]
 omega
set_option maxRecDepth 100000 in
theorem takeD_spec (g gr : Nat) (B Ar : Option Addr) (c : Nat) (l : List Int) (most p : Nat) (bs : List Nat) (w : World) (hl : l.length ≤ 320) (hm : most ≤ 15) (hp : p ≤ 8 * bs.length) (hbs : bs.length ≤ 1000000000) (hB : ∀ b ∈ bs, b < 256)
  (hD : IsD w g B c (cn l) (fst' l) (order l) most) (hR : IsR w gr Ar bs p) :
  Calls Try.prog 112 #[.pointer (some ⟨g, 0, none⟩), .pointer (some ⟨gr, 0, none⟩)] w fun e w' => e = .returned (.tuple #[.int .i64 (((tk l (ofB bs) most 1 0 p).1 : Nat) : Int), .int .i64 (((tk l (ofB bs) most 1 0 p).2.2 : Nat) : Int)]) ∧
   (tk l (ofB bs) most 1 0 p).2.1 ≤ 8 * bs.length ∧ IsR w' gr Ar bs (tk l (ofB bs) most 1 0 p).2.1 ∧ Frm [gr] w w' := by
 have hgr : g ≠ gr := hD.1.ne hR.choose_spec.1 (by decide)
 have hgB : gr ∉ ob B := hD.2.ne_blk hR.choose_spec.1 (by decide)
 have hne : ∀ x ∈ g :: ob B, x ∉ [gr] := by
  intro x hx hx2
  simp at hx2
  subst hx2
  rcases List.mem_cons.1 hx with h | h
  ·
   exact hgr h.symm
  ·
   exact hgB h
 generalize hT : tk l (ofB bs) most 1 0 p = R
 have holen := ordTo_len l 16
 have hbl := ofB_len bs
 refine VC.calls (nt := 77) (res := #[.tmp 4, .tmp 5]) Try.func112 rfl Try.ntmps112 Try.results112 rfl ?_
 refine jS (jR ?_)
 refine Ops.r (v := .int .i64 ((0 : Nat) : Int)) (Run.asg rfl) rfl ?_
 refine Ops.r (v := .int .i64 ((0 : Nat) : Int)) (Run.asg rfl) rfl ?_
 refine jO (jN (jv2 0 1 ?_))
 refine jS (jR ?_)
 refine Ops.r (v := .int .u64 ((0 : Nat) : Int)) (Run.asg rfl) rfl ?_
 refine Ops.r (v := .int .i64 ((0 : Nat) : Int)) (Run.asg rfl) rfl ?_
 refine jO (jN (jS (jS (jR ?_))))
 refine Ops.r (v := .int .i64 ((1 : Nat) : Int)) (Run.asg rfl) rfl ?_
 refine jO (jN (jB ?_))
 refine VC.loop (σ := Nat × Nat × Nat × Nat) (fun s => [(0, .pointer (some ⟨g, 0, none⟩)), (1, .pointer (some ⟨gr, 0, none⟩)), (6, .int .u64 ((s.2.2.1 : Nat) : Int)), (7, .int .i64 ((atL l s.2.1 : Nat) : Int)), (8, .int .i64 ((s.2.1 : Nat) : Int))]) (fun s wr => s.1 + s.2.1 = most + 1 ∧ 1 ≤ s.2.1 ∧ s.2.2.1 < 2 ^ (s.2.1 - 1) ∧ s.2.2.2 ≤ 8 * bs.length ∧ tk l (ofB bs) s.1 s.2.1 s.2.2.1 s.2.2.2 = R ∧ IsR wr gr Ar bs s.2.2.2 ∧ IsD wr g B c (cn l) (fst' l) (order l) most ∧ Frm [gr] w wr) (fun s => s.1) (most, 1, 0, p) (js5 rfl rfl rfl (by rw [show atL l 1 = 0 by simp [atL, cn]]; rfl) rfl) ⟨rfl, Nat.le_refl 1, by simp, hp, hT, hR, hD, Frm.refl _ _⟩ ?_
 clear hT hR hp hD
 rintro ⟨m, n, v, q⟩ wr ⟨hmn, hn1, hv, hq, hT, hR, hD, hfr⟩
 dsimp only at hmn hn1 hv hq hT hR hD hfr ⊢
 refine jS (jS (jR (jM ?_)))
 refine jM ?_
 refine Ops.r (Run.nilck rfl) rfl ?_
 refine Ops.r (Run.fieldAddr rfl Try.underlying181 rfl Try.sizeOf3 (by decide)) rfl ?_
 refine Ops.r (Run.load rfl Try.isAgg3 (hD.1.cell 33)) rfl ?_
 refine Ops.r (Run.bin rfl rfl (Bin.leqN _ _)) rfl ?_
 refine jO (jN (jv6 0 1 6 7 8 17 ?_))
 refine VC.condD rfl (fun hc1 => ?_) (fun hc1 => ?_)
 ·
  obtain ⟨m, rfl⟩ : ∃ k, m = k + 1 := ⟨m - 1, by omega⟩
  have hpw : 2 ^ (n - 1) ≤ 2 ^ 14 := Nat.pow_le_pow_right (by omega) (by omega)
  have hpn : 2 ^ n = 2 ^ (n - 1) * 2 := by rw [← Nat.pow_succ]; congr 1; omega
  have hsm := fst_small l hl n (by omega)
  have hat := atL_le l (n + 1)
  have hat2 : atL l (n + 1) = atL l n + cn l n := rfl
  have hat16 := atL_mono l (show n + 1 ≤ 16 by omega)
  refine jQ (jN (jv5 0 1 6 7 8 ?_))
  refine jS (jB (jS (jR (jM ?_))))
  refine Ops.cl (Enters.fn (evs.cons rfl (evs.cons rfl evs.nil)) Try.call101) (take_any gr q 1 Ar bs _ hq (by omega) hB hR) rfl ?_
  rintro e w4 ⟨b0, e4, q4, rfl, hTk, hq4, hR4, hf4⟩
  refine ⟨_, rfl, ?_⟩
  have hD4 := hD.frm hf4 hne
  have hfr4 := hfr.trans hf4 (by simp)
  obtain ⟨k1, hk1, _, hTk⟩ := hTk.resolve_left (by omega)
  have hk1 : k1 = 1 := by omega
  subst hk1
  refine jM ?_
  refine Ops.r (Run.extract rfl rfl) rfl ?_
  refine Ops.r (Run.extract rfl rfl) rfl ?_
  refine jA ?_
  refine jA ?_
  refine jO (jN (jv7 0 1 6 7 8 9 10 ?_))
  refine jS (jS (jR (jM ?_)))
  refine Ops.r (Run.bin rfl rfl (Bin.neqN _ 0)) rfl ?_
  refine jO (jN (jv8 0 1 6 7 8 9 10 26 ?_))
  refine VC.condD rfl (fun hc2 => ?_) (fun hc2 => ?_)
  ·
   obtain ⟨hq5, rfl, rfl, rfl⟩ := hTk.resolve_right (fun h => by have := h.2.2.1; omega)
   have hnone : (ofB bs)[q4]? = none := List.getElem?_eq_none (by omega)
   rw [tk, hnone] at hT
   dsimp only at hT
   subst hT
   refine jS (jR (jM ?_))
   refine Ops.r (v := .int .i64 ((0 : Nat) : Int)) (Run.asg rfl) rfl ?_
   refine jA ?_
   refine jO (jN (jv2 4 5 ?_))
   refine jT ?_
   refine thenQ_r (blockQ_r (thenQ_r (thenQ_r (blockQ_r (thenQ_r (end2 rfl rfl ?_))))))
   exact ⟨rfl, hq4, hR4, hfr4⟩
  ·
   obtain ⟨hq5, hb0, _, rfl⟩ := hTk.resolve_left (fun h => by have := h.2.2.1; omega)
   obtain ⟨b, hb⟩ : ∃ b, (ofB bs)[q]? = some b := ⟨_, List.getElem?_eq_getElem (show q < (ofB bs).length by omega)⟩
   have hb0e : b0 = b.toNat := by rw [hb0, take1 _ _ _ hb]; simp [num]
   clear hb0
   subst hb0e
   have hb1 : b.toNat ≤ 1 := Bool.toNat_le _
   rw [tk, hb] at hT
   dsimp only at hT
   refine jQ (jN (jv6 0 1 6 7 8 9 ?_))
   refine jS (jR (jM ?_))
   refine Ops.r (Run.bin rfl rfl (Bin.shl_u64 _ 1 (by omega) (by omega))) rfl ?_
   refine jM ?_
   refine Ops.r (Run.bin rfl rfl (Bin.or_u64 _ _ (by omega) (by omega))) rfl ?_
   rw [or_bit]
   refine jA ?_
   refine jO (jN (jv5 0 1 6 7 8 ?_))
   refine jS (jS (jR (jM ?_)))
   refine jM ?_
   refine jM ?_
   refine Ops.r (Run.nilck rfl) rfl ?_
   refine Ops.r (Run.fieldAddr rfl Try.underlying181 rfl Try.sizeOf113 (by decide)) rfl ?_
   refine Ops.r (Run.indexA1 _ rfl rfl Try.underlying113 Try.sizeOf37 (by omega)) rfl ?_
   refine Ops.r (Run.load rfl Try.isAgg37 (by simpa using (hD4.1.cell (16 + n)).trans (DC_f _ _ _ _ _ _ n (by omega)))) rfl ?_
   refine Ops.r (Run.bin rfl rfl (Bin.subU _ _ (by omega))) rfl ?_
   refine jA ?_
   refine jO (jN (jv6 0 1 6 7 8 11 ?_))
   refine jS ?_
   refine VC.split1 [(0, _), (1, _), (6, _), (7, _), (8, _), (11, _)] (js6 rfl rfl rfl rfl rfl rfl) 58 (.bool (decide (fst' l n ≤ 2 * v + b.toNat ∧ 2 * v + b.toNat - fst' l n < cn l n))) ?_ ?_
   ·
    refine jR ?_
    refine jM ?_
    refine jM ?_
    refine jM ?_
    refine Ops.r (Run.nilck rfl) rfl ?_
    refine Ops.r (Run.fieldAddr rfl Try.underlying181 rfl Try.sizeOf113 (by decide)) rfl ?_
    refine Ops.r (Run.indexA1 _ rfl rfl Try.underlying113 Try.sizeOf37 (by omega)) rfl ?_
    refine Ops.r (Run.load rfl Try.isAgg37 (by simpa using (hD4.1.cell (16 + n)).trans (DC_f _ _ _ _ _ _ n (by omega)))) rfl ?_
    refine Ops.r (Run.bin rfl rfl (Bin.geqN _ _)) rfl ?_
    by_cases hs47 : fst' l n ≤ 2 * v + b.toNat
    ·
     have hsub : (2 * v + b.toNat + 18446744073709551616 - fst' l n) % 18446744073709551616 = 2 * v + b.toNat - fst' l n := by omega
     refine jM ?_
     refine Ops.rg rfl (by first | rfl | assumption | decide | (simp; done) | (simp; omega) | (simp [*]; done)) (Run.mv rfl) rfl ?_
     refine Ops.rg rfl (by first | rfl | assumption | decide | (simp; done) | (simp; omega) | (simp [*]; done)) (Run.mv rfl) rfl ?_
     refine Ops.rg rfl (by first | rfl | assumption | decide | (simp; done) | (simp; omega) | (simp [*]; done)) (Run.mv rfl) rfl ?_
     refine Ops.rg rfl (by first | rfl | assumption | decide | (simp; done) | (simp; omega) | (simp [*]; done)) (Run.nilck rfl) rfl ?_
     refine Ops.rg rfl (by first | rfl | assumption | decide | (simp; done) | (simp; omega) | (simp [*]; done)) (Run.fieldAddr rfl Try.underlying181 rfl Try.sizeOf110 (by decide)) rfl ?_
     refine Ops.rg rfl (by first | rfl | assumption | decide | (simp; done) | (simp; omega) | (simp [*]; done)) (Run.indexA1 _ rfl rfl Try.underlying110 Try.sizeOf3 (by omega)) rfl ?_
     refine Ops.rg rfl (by first | rfl | assumption | decide | (simp; done) | (simp; omega) | (simp [*]; done)) (Run.load rfl Try.isAgg3 (by simpa using (hD4.1.cell n).trans (DC_c _ _ _ _ _ _ n (by omega)))) rfl ?_
     refine Ops.rg rfl (by first | rfl | assumption | decide | (simp; done) | (simp; omega) | (simp [*]; done)) (Run.convN _ rfl Try.underlying3 Try.underlying37 (by simp only [bmax]; omega)) rfl ?_
     refine Ops.rg rfl (by first | rfl | assumption | decide | (simp; done) | (simp; omega) | (simp [*]; done)) (Run.bin rfl rfl (Bin.lssN _ _)) rfl ?_
     by_cases hs57 : 2 * v + b.toNat - fst' l n < cn l n
     ·
      refine Ops.r (Run.pickT rfl rfl (by first | rfl | assumption | decide | (simp; done) | (simp; omega) | (simp [*]; done))) rfl ?_
      refine jO ?_
      refine jN ⟨(js7 (jC (by simp [*])) rfl rfl rfl rfl rfl rfl), rfl⟩
     ·
      refine Ops.r (Run.pickT rfl rfl (by first | rfl | assumption | decide | (simp; done) | (simp; omega) | (simp [*]; done))) rfl ?_
      refine jO ?_
      refine jN ⟨(js7 (jC (by simp [*])) rfl rfl rfl rfl rfl rfl), rfl⟩
    ·
     refine jM ?_
     refine Ops.sk rfl (by first | rfl | assumption | decide | (simp; done) | (simp; omega) | (simp [*]; done)) rfl ?_
     refine Ops.sk rfl (by first | rfl | assumption | decide | (simp; done) | (simp; omega) | (simp [*]; done)) rfl ?_
     refine Ops.sk rfl (by first | rfl | assumption | decide | (simp; done) | (simp; omega) | (simp [*]; done)) rfl ?_
     refine Ops.sk rfl (by first | rfl | assumption | decide | (simp; done) | (simp; omega) | (simp [*]; done)) rfl ?_
     refine Ops.sk rfl (by first | rfl | assumption | decide | (simp; done) | (simp; omega) | (simp [*]; done)) rfl ?_
     refine Ops.sk rfl (by first | rfl | assumption | decide | (simp; done) | (simp; omega) | (simp [*]; done)) rfl ?_
     refine Ops.sk rfl (by first | rfl | assumption | decide | (simp; done) | (simp; omega) | (simp [*]; done)) rfl ?_
     refine Ops.sk rfl (by first | rfl | assumption | decide | (simp; done) | (simp; omega) | (simp [*]; done)) rfl ?_
     refine Ops.sk rfl (by first | rfl | assumption | decide | (simp; done) | (simp; omega) | (simp [*]; done)) rfl ?_
     refine Ops.r (Run.pickF rfl rfl (by first | rfl | assumption | decide | (simp; done) | (simp; omega) | (simp [*]; done))) rfl ?_
     refine jO ?_
     refine jN ⟨(js7 (jC (by simp [*])) rfl rfl rfl rfl rfl rfl), rfl⟩
   ·
    intro Γ hΓ
    refine jN (VC.sub _ hΓ ?_)
    refine VC.condD rfl (fun hc3 => ?_) (fun hc3 => ?_)
    ·
     have hsub : (2 * v + b.toNat + 18446744073709551616 - fst' l n) % 18446744073709551616 = 2 * v + b.toNat - fst' l n := by omega
     rw [hit_some hc3] at hT
     dsimp only at hT
     subst hT
     have hlt : atL l n + (2 * v + b.toNat - fst' l n) < (order l).length := by unfold order; rw [holen]; omega
     obtain ⟨ad, rfl, hcell⟩ := NI_at hD4.2.rd hlt
     refine jS (jR (jM ?_))
     refine Ops.r (Run.nilck rfl) rfl ?_
     refine Ops.r (Run.fieldAddr rfl Try.underlying181 rfl Try.sizeOf38 (by decide)) rfl ?_
     refine Ops.r (Run.load rfl Try.isAgg38 (hD4.1.cell 32)) rfl ?_
     refine jM ?_
     refine jM ?_
     refine Ops.r (Run.convN _ rfl Try.underlying37 Try.underlying3 (by simp only [bmax]; omega)) rfl ?_
     refine Ops.r (Run.bin rfl rfl (Bin.add_i64 _ _ (by omega))) rfl ?_
     refine Ops.r (Run.index1 _ rfl rfl Try.underlying38 Try.sizeOf3 (by omega)) rfl ?_
     refine Ops.r (Run.load rfl Try.isAgg3 (by rw [hsub]; exact hcell)) rfl ?_
     refine jA ?_
     refine Ops.r (v := .int .i64 ((0 : Nat) : Int)) (Run.asg rfl) rfl ?_
     refine jO (jN (jv2 4 5 ?_))
     refine jT ?_
     refine thenQ_r (blockQ_r (thenQ_r (thenQ_r (blockQ_r (thenQ_r (end2 rfl rfl ?_))))))
     refine ⟨?_, hq4, hR4, hfr4⟩
     rw [List.getD_eq_getElem?_getD, List.getElem?_eq_getElem hlt]
     rfl
    ·
     rw [hit_none hc3] at hT
     dsimp only at hT
     refine jQ (jN (jv5 0 1 6 7 8 ?_))
     refine jR (jM ?_)
     refine jM ?_
     refine jM ?_
     refine Ops.r (Run.nilck rfl) rfl ?_
     refine Ops.r (Run.fieldAddr rfl Try.underlying181 rfl Try.sizeOf110 (by decide)) rfl ?_
     refine Ops.r (Run.indexA1 _ rfl rfl Try.underlying110 Try.sizeOf3 (by omega)) rfl ?_
     refine Ops.r (Run.load rfl Try.isAgg3 (by simpa using (hD4.1.cell n).trans (DC_c _ _ _ _ _ _ n (by omega)))) rfl ?_
     refine Ops.r (Run.bin rfl rfl (Bin.add_i64 _ _ (by omega))) rfl ?_
     refine jA ?_
     refine jO ?_
     refine blockQ_n (jN ?_)
     refine jv5 0 1 6 7 8 ?_
     refine jR (jM ?_)
     refine Ops.r (Run.bin rfl rfl (Bin.add_i64 _ 1 (by omega))) rfl ?_
     refine jA ?_
     refine jO ?_
     refine jN ⟨(m, n + 1, 2 * v + b.toNat, q + 1), (js5 rfl rfl rfl rfl rfl), ?_, ?_⟩
     ·
      exact ⟨by dsimp only; omega, by dsimp only; omega, by dsimp only; rw [Nat.add_sub_cancel]; omega, hq4, hT, hR4, hD4, hfr4⟩
     ·
      first | omega | (dsimp only; omega)
 ·
  have hm0 : m = 0 := by omega
  subst hm0
  rw [tk] at hT
  subst hT
  refine jX ?_
  refine thenQ_x (thenQ_x (blockQ_x ?_))
  refine jN ?_
  refine VC.sub [] .nil ?_
  refine jS (jR ?_)
  refine Ops.r (v := .int .i64 ((0 : Nat) : Int)) (Run.asg rfl) rfl ?_
  refine Ops.r (v := .int .i64 ((11 : Nat) : Int)) (Run.asg rfl) rfl ?_
  refine jO (jN (jT ?_))
  refine end2 rfl rfl ?_
  exact ⟨rfl, hq, hR, hfr⟩
end Go.Proofs.Ytnmieihcjjiccaa
namespace Go.Proofs.Ytnmieihcjjiccaa
open Go.RowKit
def lgM (bs : List Nat) : Nat → Nat → Nat → Nat
 | _, _, 0 => 0
 | f, a, m + 1 => if a < bs.length ∧ bs.getD f 0 = bs.getD a 0 then lgM bs (f + 1) (a + 1) m + 1 else 0
def longM (bs : List Nat) (f a : Nat) : Nat := lgM bs f a 258
theorem lgM_le (bs : List Nat) : ∀ m f a, lgM bs f a m ≤ m
 | 0, _, _ => Nat.le_refl _
 | m + 1, f, a => by
  unfold lgM
  split
  ·
   have := lgM_le bs m (f + 1) (a + 1); omega
  ·
   omega
theorem lgM_end (bs : List Nat) : ∀ m f a, a ≤ bs.length → a + lgM bs f a m ≤ bs.length
 | 0, _, _, h => h
 | m + 1, f, a, h => by
  unfold lgM
  split
  ·
   rename_i h1
   have := lgM_end bs m (f + 1) (a + 1) (by omega); omega
  ·
   omega
theorem lgM_ge (bs : List Nat) : ∀ m f a k, k ≤ m → (k ≤ lgM bs f a m ↔ ∀ j, j < k → a + j < bs.length ∧ bs.getD (f + j) 0 = bs.getD (a + j) 0)
 | 0, f, a, k, hk => by
  obtain rfl : k = 0 := by omega
  simp
 | m + 1, f, a, 0, hk => by simp
 | m + 1, f, a, k + 1, hk => by
  unfold lgM
  by_cases h : a < bs.length ∧ bs.getD f 0 = bs.getD a 0
  ·
   rw [if_pos h]
   have ih := lgM_ge bs m (f + 1) (a + 1) k (by omega)
   constructor
   ·
    intro h1 j hj
    cases j with
    | zero => exact h
    | succ j =>
     have := ih.1 (by omega) j (by omega)
     rw [show f + 1 + j = f + (j + 1) by omega, show a + 1 + j = a + (j + 1) by omega] at this
     exact this
   ·
    intro h1
    have := ih.2 (fun j hj => by
     have := h1 (j + 1) (by omega)
     rw [show f + 1 + j = f + (j + 1) by omega, show a + 1 + j = a + (j + 1) by omega]
     exact this)
    omega
  ·
   rw [if_neg h]
   constructor
   ·
    intro h1; omega
   ·
    intro h1; exact absurd (h1 0 (by omega)) h
theorem longM_le (bs : List Nat) (f a : Nat) : longM bs f a ≤ 258 := lgM_le bs 258 f a
theorem longM_end (bs : List Nat) (f a : Nat) (h : a ≤ bs.length) : a + longM bs f a ≤ bs.length := lgM_end bs 258 f a h
theorem longM_three (bs : List Nat) (f a : Nat) : 3 ≤ longM bs f a ↔ a + 3 ≤ bs.length ∧ bs.getD f 0 = bs.getD a 0 ∧ bs.getD (f + 1) 0 = bs.getD (a + 1) 0 ∧ bs.getD (f + 2) 0 = bs.getD (a + 2) 0 := by
 refine (lgM_ge bs 258 f a 3 (by omega)).trans ⟨fun h => ⟨?_, (h 0 (by omega)).2, (h 1 (by omega)).2, (h 2 (by omega)).2⟩, fun ⟨h0, h1, h2, h3⟩ j hj => ?_⟩
 ·
  have := (h 2 (by omega)).1; omega
 ·
  rcases (by omega : j = 0 ∨ j = 1 ∨ j = 2) with rfl | rfl | rfl
  ·
   exact ⟨by omega, h1⟩
  ·
   exact ⟨by omega, h2⟩
  ·
   exact ⟨by omega, h3⟩
def bst (bs : List Nat) (a : Nat) : Nat → Nat × Nat
 | 0 => (0, 0)
 | D + 1 => if (bst bs a D).1 < longM bs (a - (D + 1)) a then (longM bs (a - (D + 1)) a, D + 1) else bst bs a D
def cutM (r : Nat × Nat) : Nat × Nat := if r.1 < 3 then (0, 0) else r
def bestM (bs : List Nat) (a : Nat) : Nat × Nat := cutM (bst bs a a)
theorem bst_le (bs : List Nat) (a : Nat) : ∀ D, (bst bs a D).1 ≤ 258
 | 0 => by simp [bst]
 | D + 1 => by
  unfold bst
  split
  ·
   exact longM_le bs _ _
  ·
   exact bst_le bs a D
theorem bst_dist (bs : List Nat) (a : Nat) : ∀ D, (bst bs a D).2 ≤ D ∧ ((bst bs a D).1 = 0 ∨ (1 ≤ (bst bs a D).2 ∧ (bst bs a D).1 = longM bs (a - (bst bs a D).2) a))
 | 0 => by simp [bst]
 | D + 1 => by
  have ih := bst_dist bs a D
  unfold bst
  split
  ·
   exact ⟨Nat.le_refl _, .inr ⟨by simp, rfl⟩⟩
  ·
   exact ⟨by omega, ih.2⟩
theorem cut_gap (bs : List Nat) (a D : Nat) : ∀ k, (∀ d, D < d → d ≤ D + k → longM bs (a - d) a < 3) → cutM (bst bs a (D + k)) = cutM (bst bs a D)
 | 0, _ => rfl
 | k + 1, h => by
  have ih := cut_gap bs a D k (fun d h1 h2 => h d h1 (by omega))
  have h3 := h (D + k + 1) (by omega) (by omega)
  rw [← ih]
  show cutM (bst bs a (D + k + 1)) = _
  rw [bst]
  split
  ·
   rename_i h4
   unfold cutM
   rw [if_pos h3, if_pos (by omega)]
  ·
   rfl
theorem cut_step (bs : List Nat) (a D : Nat) (h : 3 ≤ longM bs (a - (D + 1)) a) : cutM (bst bs a (D + 1)) = if (cutM (bst bs a D)).1 < longM bs (a - (D + 1)) a then (longM bs (a - (D + 1)) a, D + 1) else cutM (bst bs a D) := by
 rw [bst]
 generalize longM bs (a - (D + 1)) a = n at h ⊢
 generalize bst bs a D = r
 unfold cutM
 by_cases h1 : r.1 < 3
 ·
  rw [if_pos h1, if_pos (by omega : r.1 < n), if_neg (by dsimp only; omega), if_pos (by dsimp only; omega)]
 ·
  rw [if_neg h1]
  by_cases h2 : r.1 < n
  ·
   simp only [if_pos h2]
   rw [if_neg (by omega)]
  ·
   simp only [if_neg h2, if_neg h1]
theorem bestM_facts (bs : List Nat) (a : Nat) (ha : a ≤ bs.length) : bestM bs a = (0, 0) ∨ (3 ≤ (bestM bs a).1 ∧ (bestM bs a).1 ≤ 258 ∧ 1 ≤ (bestM bs a).2 ∧ (bestM bs a).2 ≤ a ∧ a + (bestM bs a).1 ≤ bs.length ∧ (bestM bs a).1 = longM bs (a - (bestM bs a).2) a) := by
 unfold bestM cutM
 split
 ·
  exact .inl rfl
 ·
  rename_i h
  obtain ⟨h1, h2⟩ := bst_dist bs a a
  have h4 := bst_le bs a a
  rcases h2 with h2 | ⟨h2, h3⟩
  ·
   omega
  ·
   exact .inr ⟨by omega, h4, h2, h1, by rw [h3]; exact longM_end bs _ a ha, h3⟩
def tri (bs : List Nat) (p : Nat) : Nat × Nat × Nat := (bs.getD p 0, bs.getD (p + 1) 0, bs.getD (p + 2) 0)
def posL (bs : List Nat) (k : Nat × Nat × Nat) : Nat → List Nat
 | 0 => []
 | u + 1 => if u + 3 ≤ bs.length ∧ tri bs u = k then posL bs k u ++ [u] else posL bs k u
theorem mem_posL (bs : List Nat) (k : Nat × Nat × Nat) (p : Nat) : ∀ u : Nat, p ∈ posL bs k u ↔ p < u ∧ p + 3 ≤ bs.length ∧ tri bs p = k
 | 0 => by simp [posL]
 | u + 1 => by
  unfold posL
  have ih := mem_posL bs k p u
  split
  ·
   rename_i h
   rw [List.mem_append, ih, List.mem_singleton]
   constructor
   ·
    rintro (⟨h1, h2, h3⟩ | rfl)
    ·
     exact ⟨by omega, h2, h3⟩
    ·
     exact ⟨by omega, h.1, h.2⟩
   ·
    rintro ⟨h1, h2, h3⟩
    by_cases h4 : p = u
    ·
     exact .inr h4
    ·
     exact .inl ⟨by omega, h2, h3⟩
  ·
   rename_i h
   rw [ih]
   constructor
   ·
    rintro ⟨h1, h2, h3⟩
    exact ⟨by omega, h2, h3⟩
   ·
    rintro ⟨h1, h2, h3⟩
    by_cases h4 : p = u
    ·
     subst h4; exact absurd ⟨h2, h3⟩ h
    ·
     exact ⟨by omega, h2, h3⟩
theorem posL_len (bs : List Nat) (k : Nat × Nat × Nat) : ∀ u, (posL bs k u).length ≤ u
 | 0 => Nat.le_refl _
 | u + 1 => by
  unfold posL
  have ih := posL_len bs k u
  split
  ·
   rw [List.length_append]; simp; omega
  ·
   omega
theorem posL_sorted (bs : List Nat) (k : Nat × Nat × Nat) : ∀ u, (posL bs k u).Pairwise (· < ·)
 | 0 => by simp [posL]
 | u + 1 => by
  unfold posL
  split
  ·
   rw [List.pairwise_append]
   refine ⟨posL_sorted bs k u, by simp, fun x hx y hy => ?_⟩
   rw [List.mem_singleton] at hy
   rw [hy]
   exact ((mem_posL bs k x u).1 hx).1
  ·
   exact posL_sorted bs k u
theorem tri_long (bs : List Nat) (p a : Nat) (ha : a + 3 ≤ bs.length) : 3 ≤ longM bs p a ↔ tri bs p = tri bs a := by
 rw [longM_three]
 unfold tri
 simp only [Prod.mk.injEq]
 exact ⟨fun h => h.2, fun h => ⟨ha, h⟩⟩
def Upto (bs : List Nat) (a i : Nat) : Nat × Nat :=
 cutM (bst bs a (if i < (posL bs (tri bs a) a).length then a - (posL bs (tri bs a) a).getD i 0 else 0))
theorem Upto_end (bs : List Nat) (a : Nat) : Upto bs a (posL bs (tri bs a) a).length = (0, 0) := by
 unfold Upto
 rw [if_neg (Nat.lt_irrefl _)]
 rfl
theorem pos_at {bs : List Nat} {k : Nat × Nat × Nat} {u i : Nat} (hi : i < (posL bs k u).length) : (posL bs k u).getD i 0 < u ∧ (posL bs k u).getD i 0 + 3 ≤ bs.length ∧ tri bs ((posL bs k u).getD i 0) = k := by
 refine (mem_posL bs k _ u).1 ?_
 rw [List.getD_eq_getElem?_getD, List.getElem?_eq_getElem hi]
 exact List.getElem_mem hi
theorem pos_lt {bs : List Nat} {k : Nat × Nat × Nat} {u i j : Nat} (hij : i < j) (hj : j < (posL bs k u).length) : (posL bs k u).getD i 0 < (posL bs k u).getD j 0 := by
 have hi : i < (posL bs k u).length := by omega
 rw [List.getD_eq_getElem?_getD, List.getD_eq_getElem?_getD, List.getElem?_eq_getElem hj, List.getElem?_eq_getElem hi]
 exact List.pairwise_iff_getElem.1 (posL_sorted bs k u) i j (by omega) hj hij
theorem pos_no {bs : List Nat} {k : Nat × Nat × Nat} {u p : Nat} (h : p ∈ posL bs k u) : ∃ j, j < (posL bs k u).length ∧ (posL bs k u).getD j 0 = p := by
 obtain ⟨j, hj, he⟩ := List.getElem_of_mem h
 exact ⟨j, hj, by rw [List.getD_eq_getElem?_getD, List.getElem?_eq_getElem hj]; exact he⟩
theorem Upto_step (bs : List Nat) (a i : Nat) (ha : a + 3 ≤ bs.length) (hi : i < (posL bs (tri bs a) a).length) :
  Upto bs a i = (let p := (posL bs (tri bs a) a).getD i 0; if (Upto bs a (i + 1)).1 < longM bs p a then (longM bs p a, a - p) else Upto bs a (i + 1)) := by
 obtain ⟨h1, h2, h3⟩ := pos_at hi
 dsimp only
 generalize hp : (posL bs (tri bs a) a).getD i 0 = p at h1 h2 h3
 have h4 : 3 ≤ longM bs p a := (tri_long bs p a ha).2 h3
 have e1 : Upto bs a (i + 1) = cutM (bst bs a (a - p - 1)) := by
  unfold Upto
  split
  ·
   rename_i h5
   obtain ⟨g1, g2, g3⟩ := pos_at h5
   have g4 := pos_lt (Nat.lt_succ_self i) h5
   rw [hp] at g4
   generalize hq : (posL bs (tri bs a) a).getD (i + 1) 0 = q at g1 g2 g3 g4
   have := cut_gap bs a (a - q) (q - p - 1) (fun d hd1 hd2 => by
    refine Nat.lt_of_not_le fun h6 => ?_
    have h7 := (tri_long bs (a - d) a ha).1 h6
    obtain ⟨j, hj, he⟩ := pos_no ((mem_posL bs (tri bs a) (a - d) a).2 ⟨by omega, by omega, h7⟩)
    by_cases hji : j ≤ i
    ·
     by_cases hje : j = i
     ·
      subst hje; omega
     ·
      have := pos_lt (show j < i by omega) hi; omega
    ·
     by_cases hje : j = i + 1
     ·
      subst hje; omega
     ·
      have := pos_lt (show i + 1 < j by omega) hj; omega)
   rw [show a - q + (q - p - 1) = a - p - 1 by omega] at this
   exact this.symm
  ·
   rename_i h5
   have := cut_gap bs a 0 (a - p - 1) (fun d hd1 hd2 => by
    refine Nat.lt_of_not_le fun h6 => ?_
    have h7 := (tri_long bs (a - d) a ha).1 h6
    obtain ⟨j, hj, he⟩ := pos_no ((mem_posL bs (tri bs a) (a - d) a).2 ⟨by omega, by omega, h7⟩)
    by_cases hje : j = i
    ·
     subst hje; omega
    ·
     have := pos_lt (show j < i by omega) hi; omega)
   rw [Nat.zero_add] at this
   exact this.symm
 rw [e1]
 have e2 : Upto bs a i = cutM (bst bs a (a - p)) := by
  unfold Upto
  rw [if_pos hi, hp]
 rw [e2]
 have := cut_step bs a (a - p - 1) (by rw [show a - (a - p - 1 + 1) = p by omega]; exact h4)
 rw [show a - p - 1 + 1 = a - p by omega, show a - (a - p) = p by omega] at this
 exact this
theorem Upto_zero (bs : List Nat) (a : Nat) (ha : a + 3 ≤ bs.length) : Upto bs a 0 = bestM bs a := by
 unfold Upto bestM
 split
 ·
  rename_i h
  obtain ⟨g1, g2, g3⟩ := pos_at h
  generalize hp : (posL bs (tri bs a) a).getD 0 0 = p at g1 g2 g3
  have := cut_gap bs a (a - p) p (fun d hd1 hd2 => by
   refine Nat.lt_of_not_le fun h6 => ?_
   have h7 := (tri_long bs (a - d) a ha).1 h6
   by_cases hd : d ≤ a
   ·
    obtain ⟨j, hj, he⟩ := pos_no ((mem_posL bs (tri bs a) (a - d) a).2 ⟨by omega, by omega, h7⟩)
    by_cases hje : j = 0
    ·
     subst hje; omega
    ·
     have := pos_lt (show 0 < j by omega) hj; omega
   ·
    omega)
  rw [show a - p + p = a by omega] at this
  exact this.symm
 ·
  rename_i h
  have := cut_gap bs a 0 a (fun d hd1 hd2 => by
   refine Nat.lt_of_not_le fun h6 => ?_
   have h7 := (tri_long bs (a - d) a ha).1 h6
   obtain ⟨j, hj, he⟩ := pos_no ((mem_posL bs (tri bs a) (a - d) a).2 ⟨by omega, by omega, h7⟩)
   omega)
  rw [Nat.zero_add] at this
  exact this.symm
theorem Upto_full (bs : List Nat) (a : Nat) (ha : a + 3 ≤ bs.length) : ∀ i, i ≤ (posL bs (tri bs a) a).length → (Upto bs a i).1 = 258 → bestM bs a = Upto bs a i
 | 0, _, _ => (Upto_zero bs a ha).symm
 | i + 1, hi, h => by
  have := Upto_step bs a i ha (by omega)
  dsimp only at this
  have hl := longM_le bs ((posL bs (tri bs a) a).getD i 0) a
  rw [if_neg (by omega)] at this
  rw [← this]
  exact Upto_full bs a ha i (by omega) (by rw [this]; exact h)
theorem bestM_short (bs : List Nat) (a : Nat) (h : bs.length < a + 3) (ha : a ≤ bs.length) : bestM bs a = (0, 0) := by
 rcases bestM_facts bs a ha with h1 | ⟨h1, _, _, _, h2, _⟩
 ·
  exact h1
 ·
  omega
abbrev Tk := Nat × Nat × Nat
def findM (bs : List Nat) : Nat → Nat → List Tk
 | 0, _ => []
 | m + 1, a => if bs.length ≤ a then [] else if (bestM bs a).1 = 0 then (bs.getD a 0, 0, 0) :: findM bs m (a + 1) else (0, (bestM bs a).1, (bestM bs a).2) :: findM bs m (a + (bestM bs a).1)
theorem findM_end (bs : List Nat) (m a : Nat) (h : bs.length ≤ a) : findM bs m a = [] := by
 cases m with
 | zero => rfl
 | succ m => rw [findM, if_pos h]
theorem findM_more (bs : List Nat) : ∀ m n a, bs.length ≤ a + m → bs.length ≤ a + n → findM bs m a = findM bs n a
 | 0, n, a, h1, _ => by rw [findM_end bs n a (by omega)]; rfl
 | m + 1, 0, a, _, h2 => by rw [findM_end bs (m + 1) a (by omega)]; rfl
 | m + 1, n + 1, a, h1, h2 => by
  unfold findM
  split
  ·
   rfl
  ·
   split
   ·
    rw [findM_more bs m n (a + 1) (by omega) (by omega)]
   ·
    rename_i h3 h4
    rw [findM_more bs m n (a + (bestM bs a).1) (by omega) (by omega)]
def toks (bs : List Nat) (a : Nat) : List Tk := findM bs (bs.length - a) a
theorem toks_end (bs : List Nat) (a : Nat) (h : bs.length ≤ a) : toks bs a = [] := findM_end bs _ a h
theorem toks_lit (bs : List Nat) (a : Nat) (h : a < bs.length) (h0 : (bestM bs a).1 = 0) : toks bs a = (bs.getD a 0, 0, 0) :: toks bs (a + 1) := by
 unfold toks
 rw [show bs.length - a = (bs.length - a - 1) + 1 by omega, findM, if_neg (by omega), if_pos h0, findM_more bs (bs.length - a - 1) (bs.length - (a + 1)) (a + 1) (by omega) (by omega)]
theorem toks_match (bs : List Nat) (a : Nat) (h : a < bs.length) (h0 : (bestM bs a).1 ≠ 0) : toks bs a = (0, (bestM bs a).1, (bestM bs a).2) :: toks bs (a + (bestM bs a).1) := by
 unfold toks
 rw [show bs.length - a = (bs.length - a - 1) + 1 by omega, findM, if_neg (by omega), if_neg h0, findM_more bs (bs.length - a - 1) (bs.length - (a + (bestM bs a).1)) (a + (bestM bs a).1) (by omega) (by omega)]
end Go.Proofs.Ytnmieihcjjiccaa

namespace Go.Proofs.Ytnmieihcjjiccaa
open Go.RowKit
section
variable {P : Program} {Γ : Env} {w : World} {dst : Option Tmp} {T : TypeId} {pos : String} {after : Array Edge} {g : Option (Nat × Bool)}
theorem Falls.pn {x : Operand} {t : TypeId} {v : Value} (hx : ev? Γ x = some (.iface t v)) : Falls P ⟨dst, .panic x, T, pos, after, g⟩ Γ w (.iface t v) := fun ρ hρ => by
 simp [execOp, hρ _ _ hx, Instr.panic, goPanic]
theorem Run.maxI {t : TypeId} {x y : Operand} {k : IntKind} {a b : Int} {ts : Array TypeId} (hx : ev? Γ x = some (.int k a)) (hy : ev? Γ y = some (.int k b)) :
  Run P ⟨dst, .call ⟨.builtin .max, #[x, y], ts⟩, t, pos, after, g⟩ Γ w (.int k (if a < b then b else a)) := fun ρ hρ => by
 simp [execOp, resolve, invoke, builtin, Builtin.max_, Builtin.max2, hρ _ _ hx, hρ _ _ hy]
theorem Run.indexArrA {α : Type} (f : α → List Value) {t e : TypeId} {x i : Operand} {n : Nat} {k : IntKind} {sz : Nat} {l : List α} (j : Nat) (hx : ev? Γ x = some (.agg (l.flatMap f).toArray)) (hi : ev? Γ i = some (.int k j)) (ht : P.underlying t = some (.array n e))
  (ha : ∀ w, (isAgg e).run P w = .ok true w) (hz : ∀ w, (sizeOf e).run P w = .ok sz w) (hf : ∀ a, (f a).length = sz) (hl : l.length = n) (hj : j < l.length) : Run P ⟨dst, .index t x i, T, pos, after, g⟩ Γ w (.agg (f l[j]).toArray) := fun ρ hρ => by
 have h1 : (j : Int) < (n : Int) := by omega
 have h2 := flat_get f sz hf l j hj
 have h3 : (l.flatMap f).toArray.extract (j * sz) (j * sz + sz) = (f l[j]).toArray := by
  rw [← h2]
  apply Array.ext'
  simp
 have h4 : j < n := by omega
 simp only [List.extract_toArray] at h3
 simp [execOp, hρ _ _ hx, hρ _ _ hi, Instr.index, asIntOf, run_underlying ht, h4, part, ha, hz]
 simpa using h3
theorem Run.buildA {t e : TypeId} {n size : Nat} {parts : List (Nat × Operand)} {vs : List Value} {z cells : Array Value} (hv : evs Γ (parts.map (·.2)) vs) (hz : ∀ w, (zeroValue t).run P w = .ok (.agg z) w)
  (hu : P.underlying t = some (.array n e)) (hsz : ∀ w, (sizeOf e).run P w = .ok size w) (hf : Instr.fill (fun i => some (i * size, size)) z ((parts.map (·.1)).zip vs) = some cells) :
  Run P ⟨dst, .build t parts.toArray, T, pos, after, g⟩ Γ w (.agg cells) := fun ρ hρ => by
 have e1 := evs_map hρ _ _ hv
 have e2 : parts.map (fun p => (p.1, ρ p.2)) = (parts.map (·.1)).zip vs := by
  rw [← e1, List.map_map, List.zip_map']
  rfl
 simp only [execOp, Instr.build, Sem.run_bind, hz, Result.andThen_ok, Value.cells, run_underlying hu, hsz, List.map_toArray, e2, hf, Sem.run_pure]
theorem Run.sliceA {t e : TypeId} {x : Operand} {a : Addr} {n sz : Nat} {lo hi : Option Operand} (l h : Nat) (hx : ev? Γ x = some (.pointer (some a))) (ht : P.underlying t = some (.array n e)) (hz : ∀ w, (sizeOf e).run P w = .ok sz w)
  (hlo : evB Γ lo 0 l) (hhi : evB Γ hi n h) (h1 : l ≤ h) (h2 : h ≤ n) :
  Run P ⟨dst, .slice t x lo hi none, T, pos, after, g⟩ Γ w (.slice (cutA (some a) n l sz) (h - l) (n - l)) := fun ρ hρ => by
 have hb : ∀ (k : IntKind) (r y : Nat) (code : BoundsCode), r ≤ y → (Instr.sliceBound (.int k (r : Int)) y code).run P w = .ok r w := by
  intro k r y code hry
  have := run_sliceBound (P := P) w k (r : Int) y code (by omega) (by omega)
  simpa using this
 have hbs : (Instr.sliceBounds false n n (lo.map ρ) (hi.map ρ) none).run P w = .ok (l, h, n) w := run_bounds (P := P) (w := w) hρ n n l h lo hi hlo hhi h1 h2 false
 simp only [execOp, Instr.sliceAt, Sem.run_bind, run_underlying ht, Result.andThen_ok, hρ _ _ hx, Option.map_none, Instr.sureAddr, Sem.run_pure, hbs, hz]
 unfold cutA
 split
 ·
  rename_i h0; simp [h0]
 ·
  rename_i h0; simp [h0]
theorem Run.neqNilI {t yT : TypeId} {x y : Operand} {u : TypeId} {v : Value} {d : TypeDesc} (hx : ev? Γ x = some (.iface u v)) (hy : ev? Γ y = some .nilIface) (ht : P.underlying t = some d) (hd : notIface d = false) :
  Run P ⟨dst, .binOp .neq t x y yT, T, pos, after, g⟩ Γ w (.bool true) := fun ρ hρ => by
 have h0 : ∀ k : Nat, (Op.equalIn (k + 1) t (.iface u v) .nilIface).run P w = .ok false w := fun k => by
  cases d <;> first | (cases hd; done) | simp [Op.equalIn, run_underlying ht]
 have h1 : (Op.equal t (.iface u v) .nilIface).run P w = .ok false w := h0 9999
 simp [execOp, hρ _ _ hx, hρ _ _ hy, eqGuard, binOp, h1]
end
section
variable {P : Program} {n : NF} {Γ : Env} {w : World} {Q : Exit → Env → World → Prop} {K : Env → World → Prop} {Pn : List PanicEntry → World → Prop} {ops : Array Oper} {rest : List Oper} {S : World → Prop} {L fuel : Nat} {listed : Array Bool} {d : Nat} {op : Op} {T : TypeId} {pos : String} {after : Array Edge}
theorem Ops.clp {f : FuncId} {args : Array Value} {R : Ending → World → Prop} (he : Enters P ⟨some d, op, T, pos, after, none⟩ Γ w f args) (hc : Calls P f args w R) (hn : Nat.blt d n.n = true)
  (k : ∀ e w', R e w' → (∃ v, e = .returned v ∧ Ops P n ops rest ((d, v) :: Γ) w' Q) ∨ (∃ ch, e = .panicked ch ∧ Q (.panic ch) Γ w')) : Ops P n ops (⟨some d, op, T, pos, after, none⟩ :: rest) Γ w Q :=
 Ops.callP he hc trivial rfl hn k
theorem Ops.pn {x : Operand} {t : TypeId} {v : Value} {dd : Option Tmp} (hx : ev? Γ x = some (.iface t v)) (k : Q (.panic [{ v := .iface t v, recovered := false }]) Γ w) : Ops P n ops (⟨dd, .panic x, T, pos, after, none⟩ :: rest) Γ w Q :=
 Ops.falls (Falls.pn hx) trivial k
theorem HOps.clp {f : FuncId} {args : Array Value} {R : Ending → World → Prop} {d : Nat} (i : Nat) {oi : Oper} (hi : ops[i]? = some oi) (hr : Region.ready .any ops listed = [i]) (he : Enters P oi Γ w f args) (hc : Calls P f args w R) (hup : Up ops Γ oi.guard) (hd : oi.dst = some d) (hn : Nat.blt d n.n = true)
  (k : ∀ e w', R e w' → (∃ v, e = .returned v ∧ S w' ∧ HOps P n ops S Pn L fuel (listed.setIfInBounds i true) ((d, v) :: Γ) w' K) ∨ (∃ ch, e = .panicked ch ∧ Pn ch w')) : HOps P n ops S Pn L (fuel + 1) listed Γ w K :=
 HOps.of_wp i hi hr hup fun a hs => by
  unfold Oper.wp
  rw [he _ hs.fits, Oper.upon_enter, hd]
  refine hc.mono ?_
  intro e w' hR
  rcases k e w' hR with ⟨v, rfl, h1, h2⟩ | ⟨ch, rfl, h1⟩
  ·
   exact ⟨h1, h2 _ (hs.put hn v)⟩
  ·
   exact ⟨⟨hs.size, hs.defers⟩, h1⟩
end
section
variable {P : Program} {n : NF} {Γ : Env} {w : World} {K : Env → World → Prop} {Pn : List PanicEntry → World → Prop} {ops : Array Oper} {S : World → Prop} {L fuel : Nat} {listed : Array Bool}
theorem Sat.perm {Γ Γ' : Env} {a : Act} (h : Sat n Γ a) (hp : ∀ t v, get? Γ' t = some v → get? Γ t = some v) : Sat n Γ' a := ⟨h.size, h.defers, fun t v ht => h.at_ t v (hp t v ht)⟩
end

section
variable {P : Program} {n : Nat} {D : List Deferred} {Γ : Env} {w : World} {Q : Exit → Env → World → Prop}
end
end Go.Proofs.Ytnmieihcjjiccaa

namespace Go.Proofs.Ytnmieihcjjiccaa
open Go.RowKit
def LW (P : Program) (n : NF) (c : Code) (Γ : Env) (w : World) (QQ : Exit → Act → World → Prop) : Prop := n.ro = none → ∀ a, Sat n Γ a → c.wp P QQ a w
def upL (n : NF) (QQ : Exit → Act → World → Prop) : Exit → Env → World → Prop := fun e Γ w => ∀ a, Sat n Γ a → QQ e a w
section
variable {P : Program} {n : NF} {Γ : Env} {w : World} {QQ : Exit → Act → World → Prop} {c x y : Code} {R : Ending → World → Prop} {fn : Func} {res : Array ResultVar}
theorem LW.vc (h : VC P n c Γ w (upL n QQ)) : LW P n c Γ w QQ := fun hro a hs => by
 have h1 := h a hs 0
 rw [hro] at h1
 exact wp_mono (wpIn_wide.1 h1) (fun _ _ _ ⟨_, hs', q⟩ => q _ hs')
theorem LW.seq (h : VC P n x Γ w (thenQ (fun Γ' w' => LW P n y Γ' w' QQ) (upL n QQ))) : LW P n (.seq x y) Γ w QQ := by
 intro hro a hs
 have h1 := h a hs 0
 rw [hro] at h1
 refine wp_seq (wp_mono (wpIn_wide.1 h1) ?_)
 intro e a' w' hq
 obtain ⟨Γ', hs', q⟩ := hq
 cases e with
 | normal => exact q hro a' hs'
 | exit id => exact q a' hs'
 | goto l => exact q a' hs'
 | ret => exact q a' hs'
 | panic ch => exact q a' hs'
 | outgrown => exact q a' hs'
theorem LW.dfr {m : Nat} {D : List Deferred} {id : Nat} {om od : Oper} {t : Nat} {o : Operand} {f : FuncId} {us : List Value} {ts : Array TypeId} (h : Run P om Γ w (.func (.func f) #[] us.toArray)) (hgm : om.guard = none) (hdm : om.dst = some t) (htn : Nat.blt t m = true)
  (ho : od.op = .defer ⟨.value o, #[], ts⟩) (hg : od.guard = none) (hd : od.dst = none) (hc : ev? ((t, .func (.func f) #[] us.toArray) :: Γ) o = some (.func (.func f) #[] us.toArray))
  (k : LW P ⟨m, { target := .fn (.func f) us.toArray, args := #[] } :: D, none⟩ y ((t, .func (.func f) #[] us.toArray) :: Γ) w QQ) : LW P ⟨m, D, none⟩ (.seq (.region id #[om, od] false) y) Γ w QQ := by
 intro _ a hs
 refine wp_seq (wp_region_lit ?_)
 unfold wpList
 rw [if_pos (by unfold Region.wanted; rw [hgm])]
 left
 unfold Oper.wp
 rw [h _ hs.fits, Oper.upon_value, hdm]
 have hs1 := hs.put htn (.func (.func f) #[] us.toArray)
 unfold wpList
 rw [if_pos (by unfold Region.wanted; rw [hg])]
 left
 unfold Oper.wp
 have e2 := hs1.fits _ _ hc
 have hr : (execOp (a.put (some t) (.func (.func f) #[] us.toArray)).eval od).run P w = .ok (.defer { target := .fn (.func f) us.toArray, args := #[] }) w := by
  simp [execOp, ho, resolve, e2, Deferred.ofValue]
 rw [hr, Oper.upon_defer, hd]
 refine wpList_nil (k rfl _ ⟨hs1.size, ?_, hs1.at_⟩)
 show _ :: (a.put (some t) _).defers = _
 rw [hs1.defers]
theorem LW.sub (Γ' : Env) (hs : Sub Γ Γ') (h : LW P n c Γ' w QQ) : LW P n c Γ w QQ := fun hro a ha => h hro a (ha.sub hs)
theorem invoke_clo {f : FuncId} {us : List Value} (hi : ∀ args w, (callFunc f args).run P w = .ok (.enter f args) w) (w : World) : (invoke (.fn (.func f) us.toArray) #[]).run P w = .ok (.enter f us.toArray) w := by
 simp [invoke, hi]
theorem upL_ret0 {m : Nat} (hr : fn.results = res) (h : endQ P res R .ret Γ w) : upL ⟨m, [], none⟩ (bodyPostD P fn R) .ret Γ w := fun a hs => by
 obtain ⟨vs, h1, h2⟩ := resQ_results hs hr h
 show Leaves P fn a.tmps R a.defers .returning w
 rw [hs.defers]
 exact ⟨_, h1, h2⟩
theorem upL_retD {m : Nat} {f : FuncId} {us : List Value} (hr : fn.results = res) (hi : ∀ args w, (callFunc f args).run P w = .ok (.enter f args) w)
  (hc : CallsD P f us.toArray .returning w fun e u w' => (∃ v, e = .returned v) ∧ settle u = .returning ∧ endQ P res R .ret Γ w') : upL ⟨m, [{ target := .fn (.func f) us.toArray, args := #[] }], none⟩ (bodyPostD P fn R) .ret Γ w := fun a hs => by
 show Leaves P fn a.tmps R a.defers .returning w
 rw [hs.defers]
 refine leaves_cons (by simp) (invoke_clo hi w) (hc.mono ?_)
 rintro e u w' ⟨⟨v, rfl⟩, hu, h⟩
 obtain ⟨vs, h1, h2⟩ := resQ_results hs hr h
 dsimp only
 rw [hu]
 exact ⟨_, h1, h2⟩
theorem upL_panD {m : Nat} {f : FuncId} {us : List Value} {ch : List PanicEntry} (hr : fn.results = res) (hi : ∀ args w, (callFunc f args).run P w = .ok (.enter f args) w)
  (hc : CallsD P f us.toArray (.panicking ch) w fun e u w' => (∃ v, e = .returned v) ∧ settle u = .returning ∧ endQ P res R .ret Γ w') : upL ⟨m, [{ target := .fn (.func f) us.toArray, args := #[] }], none⟩ (bodyPostD P fn R) (.panic ch) Γ w := fun a hs => by
 show Leaves P fn a.tmps R a.defers (.panicking ch) w
 rw [hs.defers]
 refine leaves_cons (by simp) (invoke_clo hi w) (hc.mono ?_)
 rintro e u w' ⟨⟨v, rfl⟩, hu, h⟩
 obtain ⟨vs, h1, h2⟩ := resQ_results hs hr h
 dsimp only
 rw [hu]
 exact ⟨_, h1, h2⟩
theorem LW.calls {f : FuncId} {args : List Value} {nt : Nat} (hf : P.funcs[f]? = some fn) (hb : fn.body = some c) (hn : fn.ntmps = nt) (hl0 : Nat.ble args.length nt = true)
  (h : LW P ⟨nt, [], none⟩ c (argEnv 0 args) w (bodyPostD P fn R)) : Calls P f args.toArray w R := by
 have hl : args.length ≤ nt := Nat.le_of_ble_eq_true hl0
 refine calls_of_wp_defers hf hb (h rfl _ ?_)
 refine ⟨?_, rfl, ?_⟩
 ·
  simp only [Array.size_append, List.size_toArray, Array.size_replicate, hn]
  omega
 ·
  intro t v ht
  obtain ⟨_, h2⟩ := argEnv_get args 0 t v ht
  simp only [Nat.sub_zero] at h2
  have hlt : t < args.length := (List.getElem?_eq_some_iff.1 h2).1
  rw [Array.getD_eq_getD_getElem?, Array.getElem?_append_left (by simpa using hlt)]
  simp [h2]
end

section
variable {P : Program} {Γ : Env} {w : World} {rest : Code} {R : Ending → FrameMode → World → Prop} {fn : Func} {res : Array ResultVar}
theorem VC.recovered {f : FuncId} {args : List Value} {nt id : Nat} {o4 o3 : Oper} {d e : Nat} {u u' : FrameMode} {v : Value} (hf : P.funcs[f]? = some fn) (hb : fn.body = some (.seq (.region id #[o4, o3] false) rest)) (hn : fn.ntmps = nt) (hr : fn.results = res) (hl0 : Nat.ble args.length nt = true)
  (hu : (∃ older, u = .panicking ({ v, recovered := false } :: older) ∧ u' = .panicking ({ v, recovered := true } :: older)) ∨ (u = .returning ∧ u' = u ∧ v = .nilIface))
  (h4 : o4.op = .call ⟨.builtin .recover, #[], #[]⟩) (hg4 : o4.guard = none) (hd4 : o4.dst = some d) (h3 : o3.op = .assign (.tmp d)) (hg3 : o3.guard = none) (hd3 : o3.dst = some e) (hdn : Nat.blt d nt = true) (hen : Nat.blt e nt = true)
  (k : VC P ⟨nt, [], none⟩ rest ((e, v) :: (d, v) :: argEnv 0 args) w (endQ P res (fun x w' => R x u' w'))) : CallsD P f args.toArray u w R := by
 have hl : args.length ≤ nt := Nat.le_of_ble_eq_true hl0
 refine callsD_of_wpS hf hb fun c₀ cs hmode => wpS_seq (wpS_region ?_)
 have hs0 : Sat ⟨nt, [], none⟩ (argEnv 0 args) { tmps := args.toArray ++ Array.replicate (fn.ntmps - args.toArray.size) undef, defers := [] } := by
  refine ⟨?_, rfl, ?_⟩
  ·
   simp only [Array.size_append, List.size_toArray, Array.size_replicate, hn]
   omega
  ·
   intro t v ht
   obtain ⟨_, h2⟩ := argEnv_get args 0 t v ht
   simp only [Nat.sub_zero] at h2
   have hlt : t < args.length := (List.getElem?_eq_some_iff.1 h2).1
   rw [Array.getD_eq_getD_getElem?, Array.getElem?_append_left (by simpa using hlt)]
   simp [h2]
 generalize ({ tmps := args.toArray ++ Array.replicate (fn.ntmps - args.toArray.size) undef, defers := [] } : Act) = a0 at hs0
 have e0 : (execOp a0.eval o4).run P w = .ok .recover w := by
  simp [execOp, h4, resolve, invoke, builtin]
 have fin : ∀ cs', cs' = { c₀ with mode := u' } :: cs → wpOpsS P #[o4, o3] (Exit.thenS (rest.wpS P (bodyPostS P fn c₀ cs R)) (bodyPostS P fn c₀ cs R)) [1] (a0.put o4.dst v) cs' w := by
  rintro cs' rfl
  have hs1 := hs0.put hdn v
  rw [hd4]
  have e1 : (execOp (a0.put (some d) v).eval o3).run P w = .ok (.value v) w := by
   have h5 : (a0.put (some d) v).eval (.tmp d) = v := hs1.fits (.tmp d) v (by simp [ev?, get?])
   simp [execOp, h3, h5]
  have hs2 := hs1.put hen v
  simp only [wpOpsS, show (#[o4, o3] : Array Oper)[1]? = some o3 from rfl]
  rw [if_pos (by unfold Region.wanted; rw [hg3]), e1]
  simp only [Oper.upon_value, hd3]
  refine wpS_of_wp (wp_mono (wpIn_wide.1 (k _ hs2 0)) ?_)
  rintro x a' w' ⟨Γ', hs', q⟩
  have key : endQ P res (fun x w' => R x u' w') .ret Γ' w' → ∃ v, (results fn a'.tmps).run P w' = .ok v w' ∧ R (.returned v) u' w' := by
   intro q
   obtain ⟨vs, h1, h2⟩ := resQ_results hs' hr q
   exact ⟨_, h1, h2⟩
  cases x with
  | normal => obtain ⟨v, h1, h2⟩ := key q; exact ⟨hs'.defers, _, rfl, v, h1, h2⟩
  | ret => obtain ⟨v, h1, h2⟩ := key q; exact ⟨hs'.defers, _, rfl, v, h1, h2⟩
  | panic ch => exact ⟨hs'.defers, _, rfl, q⟩
  | exit id => exact q.elim
  | goto l => exact q.elim
  | outgrown => exact q.elim
 show wpOpsS P #[o4, o3] _ [0, 1] a0 (c₀ :: cs) w
 rw [wpOpsS]
 simp only [show (#[o4, o3] : Array Oper)[0]? = some o4 from rfl]
 rw [if_pos (by unfold Region.wanted; rw [hg4]), e0]
 dsimp only
 rcases hu with ⟨older, rfl, rfl⟩ | ⟨rfl, rfl, rfl⟩
 ·
  have : recoverD (c₀ :: cs) = some (v, { c₀ with mode := .panicking ({ v, recovered := true } :: older) } :: cs) := by simp [recoverD, hmode]
  rw [this]
  exact fin _ rfl
 ·
  have : recoverD (c₀ :: cs) = none := by simp [recoverD, hmode]
  rw [this]
  exact fin _ (by rw [← hmode])
end
section
variable {P : Program} {Γ : Env} {w : World} {dst : Option Tmp} {T : TypeId} {pos : String} {after : Array Edge} {g : Option (Nat × Bool)}
theorem Run.neqNil2 {t yT : TypeId} {x : Operand} {d : TypeDesc} (hx : ev? Γ x = some .nilIface) (ht : P.underlying t = some d) (hd : notIface d = false) :
  Run P ⟨dst, .binOp .neq t x (.const .nilIface) yT, T, pos, after, g⟩ Γ w (.bool false) := fun ρ hρ => by
 have h0 : ∀ k : Nat, (Op.equalIn (k + 1) t .nilIface .nilIface).run P w = .ok true w := fun k => by
  cases d <;> first | (cases hd; done) | simp [Op.equalIn, run_underlying ht]
 have h1 : (Op.equal t .nilIface .nilIface).run P w = .ok true w := h0 9999
 have hy : ρ (.const .nilIface) = .nilIface := hρ _ _ rfl
 simp [execOp, hρ _ _ hx, hy, eqGuard, binOp, h1]
end

section
variable {P : Program} {n : NF} {Γ : Env} {w : World} {K : Env → World → Prop} {Pn : List PanicEntry → World → Prop} {ops : Array Oper} {S : World → Prop} {L fuel : Nat} {listed : Array Bool} {i : Nat} {oi : Oper} {d : Nat}
def HOne (P : Program) (n : NF) (ops : Array Oper) (S : World → Prop) (Pn : List PanicEntry → World → Prop) (L fuel : Nat) (listed : Array Bool) (i : Nat) (Γ : Env) (w : World) (K : Env → World → Prop) : Prop :=
 ∀ a, Sat n Γ a → wpOp P ops (liftN n K Pn) i (fun a' w' => S w' ∧ wpAnyE P ops (liftN n K Pn) S L fuel (listed.setIfInBounds i true) a' w') a w
theorem HOne.of_wp (hi : ops[i]? = some oi) (hup : Up ops Γ oi.guard) (h : ∀ a, Sat n Γ a → oi.wp P a w (fun a' w' => S w' ∧ wpAnyE P ops (liftN n K Pn) S L fuel (listed.setIfInBounds i true) a' w') (liftN n K Pn)) : HOne P n ops S Pn L fuel listed i Γ w K := by
 intro a hs
 unfold wpOp
 simp only [hi]
 rw [if_pos (hup.wanted hs)]
 exact .inl (h a hs)
theorem HOne.m {R : Value → World → Prop} (hi : ops[i]? = some oi) (h : Does P oi Γ w R) (hup : Up ops Γ oi.guard) (hd : oi.dst = some d) (hn : Nat.blt d n.n = true)
  (k : ∀ v w', R v w' → S w' ∧ HOps P n ops S Pn L fuel (listed.setIfInBounds i true) ((d, v) :: Γ) w' K) : HOne P n ops S Pn L fuel listed i Γ w K :=
 HOne.of_wp hi hup fun a hs => by
  obtain ⟨v, w', hrun, hR⟩ := h _ hs.fits
  unfold Oper.wp
  rw [hrun, Oper.upon_value, hd]
  exact ⟨(k v w' hR).1, (k v w' hR).2 _ (hs.put hn v)⟩
theorem HOne.r1 {v : Value} (hi : ops[i]? = some oi) (hS : S w) (h : Run P oi Γ w v) (hup : Up ops Γ oi.guard) (hd : oi.dst = some d) (hn : Nat.blt d n.n = true)
  (k : HOps P n ops S Pn L fuel (listed.setIfInBounds i true) ((d, v) :: Γ) w K) : HOne P n ops S Pn L fuel listed i Γ w K :=
 HOne.of_wp hi hup fun a hs => by
  unfold Oper.wp
  rw [h _ hs.fits, Oper.upon_value, hd]
  exact ⟨hS, k _ (hs.put hn v)⟩
theorem HOne.st {R : World → Prop} (hi : ops[i]? = some oi) (h : Acts P oi Γ w R) (hup : Up ops Γ oi.guard) (hd : oi.dst = none)
  (k : ∀ w', R w' → S w' ∧ HOps P n ops S Pn L fuel (listed.setIfInBounds i true) Γ w' K) : HOne P n ops S Pn L fuel listed i Γ w K :=
 HOne.of_wp hi hup fun a hs => by
  obtain ⟨w', hrun, hR⟩ := h _ hs.fits
  unfold Oper.wp
  rw [hrun, Oper.upon_skip, hd]
  exact ⟨(k w' hR).1, (k w' hR).2 _ hs⟩
theorem HOne.cl {f : FuncId} {args : Array Value} {R : Ending → World → Prop} (hi : ops[i]? = some oi) (he : Enters P oi Γ w f args) (hc : Calls P f args w R) (hup : Up ops Γ oi.guard) (hd : oi.dst = some d) (hn : Nat.blt d n.n = true)
  (k : ∀ e w', R e w' → ∃ v, e = .returned v ∧ S w' ∧ HOps P n ops S Pn L fuel (listed.setIfInBounds i true) ((d, v) :: Γ) w' K) : HOne P n ops S Pn L fuel listed i Γ w K :=
 HOne.of_wp hi hup fun a hs => by
  unfold Oper.wp
  rw [he _ hs.fits, Oper.upon_enter, hd]
  refine hc.mono ?_
  intro e w' hR
  obtain ⟨v, rfl, h1, h2⟩ := k e w' hR
  exact ⟨h1, h2 _ (hs.put hn v)⟩
end
end Go.Proofs.Ytnmieihcjjiccaa

namespace Go.Proofs.Ytnmieihcjjiccaa
open Go.RowKit Go.ChangeShapes Go.WideShapes Go.Deep
section
variable {H : Type} {enc : TypeId × Value → H} {P : Program} {w : World} {base : Nat} {spare : Nat → Bool} {held : Bool}
end
end Go.Proofs.Ytnmieihcjjiccaa

namespace Go.Proofs.Ytnmieihcjjiccaa
open Go.RowKit
def Fro (w : World) (g : Nat) (e : TypeId) (cs : Array Value) : Prop := w.heap[g]? = some (.cells cs e (cs.size, cs.size + 1))
section
variable {S : List Nat} {w w' : World} {g : Nat} {e : TypeId} {cs : Array Value}
theorem Fro.lt (h : Fro w g e cs) : g < w.heap.size := (Array.getElem?_eq_some_iff.1 h).1
theorem Fro.cell (h : Fro w g e cs) (i : Nat) : w.cell? ⟨g, i, none⟩ = cs[i]? := by
 unfold Fro at h
 simp [World.cell?, h]
theorem Fro.frozen (h : Fro w g e cs) {i : Nat} (hi : i < cs.size) : w.frozen? ⟨g, i, none⟩ = false := by
 unfold Fro at h
 simp [World.frozen?, h]
 omega
theorem Fro.frm (h : Fro w g e cs) (k : Frm S w w') (hg : g ∉ S) : Fro w' g e cs := (k.block g h.lt hg).trans h
theorem Fro.set (h : Fro w g e cs) (i : Nat) (u : Value) : Fro (w.setCell ⟨g, i, none⟩ u) g e (cs.setIfInBounds i u) := by
 unfold Fro at *
 have hlt := (Array.getElem?_eq_some_iff.1 h).1
 have hb := (Array.getElem?_eq_some_iff.1 h).2
 simp [World.setCell, Array.getElem?_modify, h]
theorem Fro.rd (h : Fro w g e cs) {l : List UInt8} (hl : cs.toList.take l.length = U8 l) : Rd w 1 (some ⟨g, 0, none⟩) l.length (U8 l) := by
 refine ⟨by simp [U8], fun hn => ⟨_, rfl, h.lt, fun j u hu => ?_⟩⟩
 have e1 : (⟨g, 0, none⟩ : Addr).add j = ⟨g, j, none⟩ := by unfold Addr.add; split <;> simp_all
 rw [e1, h.cell]
 have hj : j < l.length := by have := (List.getElem?_eq_some_iff.1 hu).1; simpa [U8] using this
 rw [← hl, List.getElem?_take_of_lt hj] at hu
 simpa using hu
end
section
variable {P : Program} {n : NF} {Γ : Env} {w : World} {dst : Option Tmp} {T : TypeId} {pos : String} {after : Array Edge} {g : Option (Nat × Bool)}

theorem Run.indexArr1 {t e : TypeId} {x i : Operand} {n : Nat} {k : IntKind} {cs : Array Value} {v : Value} (j : Nat) (hx : ev? Γ x = some (.agg cs)) (hi : ev? Γ i = some (.int k j)) (ht : P.underlying t = some (.array n e))
  (ha : ∀ w, (isAgg e).run P w = .ok false w) (hz : ∀ w, (sizeOf e).run P w = .ok 1 w) (hl : cs.size = n) (hj : cs[j]? = some v) : Run P ⟨dst, .index t x i, T, pos, after, g⟩ Γ w v := fun ρ hρ => by
 have hlt := (Array.getElem?_eq_some_iff.1 hj).1
 have h4 : j < n := by omega
 simp [execOp, hρ _ _ hx, hρ _ _ hi, Instr.index, asIntOf, run_underlying ht, h4, part, ha, hz, hj]
end
end Go.Proofs.Ytnmieihcjjiccaa

namespace Go.Proofs.Ytnmieihcjjiccaa
open Go.RowKit
section
variable {P : Program} {n : NF} {Γ : Env} {w : World} {Q : Exit → Env → World → Prop} {ops : Array Oper} {rest : List Oper} {op : Op} {T : TypeId} {pos : String} {after : Array Edge} {g : Option (Nat × Bool)} {dst : Option Tmp}
theorem Ops.m0 {R : Value → World → Prop} (h : Does P ⟨none, op, T, pos, after, none⟩ Γ w R) (k : ∀ v w', R v w' → Ops P n ops rest Γ w' Q) : Ops P n ops (⟨none, op, T, pos, after, none⟩ :: rest) Γ w Q :=
 Ops.of_wp (show Up ops Γ none from trivial) fun a hs m => by
  obtain ⟨v, w', hr, hR⟩ := h _ hs.fits
  refine ⟨about_wd, ?_⟩
  rw [semAt_run hr (by simp), Oper.uponIn_value]
  exact k v w' hR _ hs m
end
end Go.Proofs.Ytnmieihcjjiccaa

namespace Go.Proofs.Ytnmieihcjjiccaa
open Go.RowKit
structure PT where
 i : Nat
 d : Nat
 dep : List Nat
 pure : Bool
 Φ : (Nat → Value) → Value → Nat → Nat → World → Prop
def PStep (P : Program) (ops : Array Oper) (n : NF) (t : PT) (ρ : Nat → Value) (Γ : Env) (W : World) : Prop :=
 ∃ oi, ops[t.i]? = some oi ∧ oi.dst = some t.d ∧ Nat.blt t.d n.n = true ∧ oi.guard = none ∧
  ((∃ f args R, Enters P oi Γ W f args ∧ Calls P f args W R ∧ ∀ e W', R e W' → ∃ v, e = .returned v ∧ Frm [] W W' ∧ t.Φ ρ v W.heap.size W'.heap.size W') ∨
   (∃ R, Does P oi Γ W R ∧ ∀ v W', R v W' → Frm [] W W' ∧ t.Φ ρ v W.heap.size W'.heap.size W')) ∧
  (t.pure = true → ∃ v, (∀ W', Run P oi Γ W' v) ∧ t.Φ ρ v W.heap.size W.heap.size W)
structure PD where
 t : PT
 v : Value
 lo : Nat
 hi : Nat
abbrev PT.key (t : PT) : Nat × Nat × List Nat × Bool := (t.i, t.d, t.dep, t.pure)
section
variable {P : Program} {n : NF} {Γ : Env} {w : World} {K : Env → World → Prop} {Pn : List PanicEntry → World → Prop} {ops : Array Oper} {S : World → Prop} {L : Nat} {target : Array Bool}
theorem PStep.cl {t : PT} {ρ : Nat → Value} {W : World} {f : FuncId} {args : Array Value} {R : Ending → World → Prop} {oi : Oper} (hp : t.pure = false) (hi : ops[t.i]? = some oi) (hd : oi.dst = some t.d) (hn : Nat.blt t.d n.n = true) (hg : oi.guard = none) (he : Enters P oi Γ W f args) (hc : Calls P f args W R)
  (h : ∀ e W', R e W' → ∃ v, e = .returned v ∧ Frm [] W W' ∧ t.Φ ρ v W.heap.size W'.heap.size W') : PStep P ops n t ρ Γ W := ⟨oi, hi, hd, hn, hg, .inl ⟨f, args, R, he, hc, h⟩, fun h' => by rw [hp] at h'; cases h'⟩
theorem PStep.m {t : PT} {ρ : Nat → Value} {W : World} {R : Value → World → Prop} {oi : Oper} (hp : t.pure = false) (hi : ops[t.i]? = some oi) (hd : oi.dst = some t.d) (hn : Nat.blt t.d n.n = true) (hg : oi.guard = none) (hD : Does P oi Γ W R)
  (h : ∀ v W', R v W' → Frm [] W W' ∧ t.Φ ρ v W.heap.size W'.heap.size W') : PStep P ops n t ρ Γ W := ⟨oi, hi, hd, hn, hg, .inr ⟨R, hD, h⟩, fun h' => by rw [hp] at h'; cases h'⟩
theorem PStep.r {t : PT} {ρ : Nat → Value} {W : World} {v : Value} {oi : Oper} (hi : ops[t.i]? = some oi) (hd : oi.dst = some t.d) (hn : Nat.blt t.d n.n = true) (hg : oi.guard = none) (hD : ∀ W', Run P oi Γ W' v)
  (h : t.Φ ρ v W.heap.size W.heap.size W) : PStep P ops n t ρ Γ W :=
 ⟨oi, hi, hd, hn, hg, .inr ⟨fun r w' => r = v ∧ w' = W, fun ρ hρ => ⟨v, W, hD W ρ hρ, rfl, rfl⟩, by rintro _ _ ⟨rfl, rfl⟩; exact ⟨Frm.refl _ _, h⟩⟩, fun _ => ⟨v, hD, h⟩⟩
abbrev PT.mv (i d src : Nat) (more : List Nat) : PT := ⟨i, d, src :: more, true, fun ρ v _ _ _ => v = ρ src⟩
abbrev PT.part (i d src k : Nat) (more : List Nat) : PT := ⟨i, d, src :: more, true, fun ρ v _ _ _ => ∃ xs, ρ src = .tuple xs ∧ xs[k]? = some v⟩
end
end Go.Proofs.Ytnmieihcjjiccaa
namespace Go.Proofs.Ytnmieihcjjiccaa
open Go.RowKit
open Go.Maps (Keyed)
def MpF (P : Program) (k : TypeId) {κ : Type} (enc : κ → Value) (w : World) (g : Nat) (M : κ → Option Value) : Prop :=
 ∃ (es : List MapEntry) (clock : Nat), w.heap[g]? = some (.map es.toArray clock) ∧ (∀ e ∈ es, (∃ l, keyOf P k e.key = some l) ∧ e.born < clock) ∧ es.Pairwise (fun a b => a.born ≠ b.born ∧ a.key ≠ b.key) ∧ ∀ x v, M x = some v ↔ ∃ e ∈ es, e.key = enc x ∧ e.val = v
def MpE (P : Program) (k : TypeId) {κ : Type} (enc : κ → Value) (w : World) (g : Nat) (M : κ → Option Value) (x : κ) (n : Nat) : Prop :=
 ∃ (es : List MapEntry) (clock : Nat), w.heap[g]? = some (.map es.toArray clock) ∧ (∀ e ∈ es, (∃ l, keyOf P k e.key = some l) ∧ e.born < clock) ∧ es.Pairwise (fun a b => a.born ≠ b.born ∧ a.key ≠ b.key) ∧ (∀ x v, M x = some v ↔ ∃ e ∈ es, e.key = enc x ∧ e.val = v) ∧
  ∃ e ∈ es, e.key = enc x ∧ e.born = n
section
variable {P : Program} {k : TypeId} {κ : Type} {enc : κ → Value} {w w' : World} {g : Nat} {M : κ → Option Value} {S : List Nat}
theorem MpE.mp {x : κ} {n : Nat} (h : MpE P k enc w g M x n) : MpF P k enc w g M := by
 obtain ⟨es, clock, h1, h2, h3, h4, _⟩ := h
 exact ⟨es, clock, h1, h2, h3, h4⟩
theorem MpF.lt (h : MpF P k enc w g M) : g < w.heap.size := by
 obtain ⟨es, clock, h1, _⟩ := h
 exact (Array.getElem?_eq_some_iff.1 h1).1
theorem MpF.frm (h : MpF P k enc w g M) (f : Frm S w w') (hS : g ∉ S) : MpF P k enc w' g M := by
 have hl := h.lt
 obtain ⟨es, clock, h1, h2⟩ := h
 exact ⟨es, clock, (f.block g hl hS).trans h1, h2⟩
theorem MpE.frm {x : κ} {n : Nat} (h : MpE P k enc w g M x n) (f : Frm S w w') (hS : g ∉ S) : MpE P k enc w' g M x n := by
 have hl := h.mp.lt
 obtain ⟨es, clock, h1, h2⟩ := h
 exact ⟨es, clock, (f.block g hl hS).trans h1, h2⟩
theorem MpF.drawn (h : MpF P k enc w g M) (hd : Drawn w w') : MpF P k enc w' g M := by
 obtain ⟨m, rfl⟩ := hd
 exact h
theorem MpF.ne_blk {b : Nat} {t : TypeId} {cs : Array Value} (h : MpF P k enc w g M) (hb : Blk w b t cs) : g ≠ b := by
 rintro rfl
 obtain ⟨es, clock, h1, _⟩ := h
 rw [show w.heap[g]? = _ from hb] at h1
 cases h1
theorem MpF.new : MpF P k enc (w.alloc (.map #[] 0)) w.heap.size (fun _ : κ => none) := by
 refine ⟨[], 0, (MapKept.heap_alloc w _).1, by simp, List.Pairwise.nil, fun x v => ?_⟩
 simp
theorem frm_setBlock (w : World) (g : Nat) (o : Obj) : Frm [g] w (ChangeMaps.setBlock w g o) :=
 ⟨rfl, rfl, rfl, by simp [ChangeMaps.setBlock], fun i _ hi => by
  unfold ChangeMaps.setBlock
  simp only [Array.getElem?_setIfInBounds]
  rw [if_neg (fun e => hi (by rw [e]; simp))]⟩
theorem run_look {t e : TypeId} {z : Value} {x : κ} {kl : Lit} (h : MpF P k enc w g M) (K : Keyed P k) (ht : P.underlying t = some (.map k e)) (hz : (zeroValue e).run P w = .ok z w) (hkey : keyOf P k (enc x) = some kl) :
  (Instr.lookup t (.map (some g)) (enc x) false).run P w = .ok ((M x).getD z) w := by
 obtain ⟨es, clock, hb, h2, h3, h4⟩ := h
 rcases K.find w hkey es (fun e he => (h2 e he).1) with ⟨h5, h6⟩ | ⟨j, e0, h5, h6, h7⟩
 ·
  have hM : M x = none := by
   cases hm : M x with
   | none => rfl
   | some v =>
    obtain ⟨e1, he1, he2, _⟩ := (h4 x v).1 hm
    exact absurd he2 (h6 e1 he1)
  rw [hM]
  simp [Instr.lookup, run_underlying ht, MapKept.run_getObj_map hb, K.check w _ hkey, h5, hz, Result.andThen]
 ·
  have hM : M x = some e0.val := (h4 x e0.val).2 ⟨e0, List.mem_of_getElem? h6, h7, rfl⟩
  rw [hM]
  simp [Instr.lookup, run_underlying ht, MapKept.run_getObj_map hb, K.check w _ hkey, h5, Result.andThen]
theorem run_entry [DecidableEq κ] {t e : TypeId} {z : Value} {x : κ} {kl : Lit} (h : MpF P k enc w g M) (K : Keyed P k) (henc : ∀ a b, enc a = enc b → a = b) (ht : P.underlying t = some (.map k e)) (hz : ∀ w, (zeroValue e).run P w = .ok z w) (hkey : keyOf P k (enc x) = some kl) :
  ∃ (n : Nat) (w' : World), (Instr.mapEntry t (.map (some g)) (enc x)).run P w = .ok (.tuple #[(M x).getD z, .int .i64 (n : Int)]) w' ∧ MpE P k enc w' g (fun y => if y = x then some ((M x).getD z) else M y) x n ∧ Frm [g] w w' ∧ w'.heap.size = w.heap.size := by
 have hlt := h.lt
 obtain ⟨es, clock, hb, h2, h3, h4⟩ := h
 rcases K.find w hkey es (fun e he => (h2 e he).1) with ⟨h5, h6⟩ | ⟨j, e0, h5, h6, h7⟩
 ·
  have hM : M x = none := by
   cases hm : M x with
   | none => rfl
   | some v =>
    obtain ⟨e1, he1, he2, _⟩ := (h4 x v).1 hm
    exact absurd he2 (h6 e1 he1)
  refine ⟨clock, ChangeMaps.setBlock w g (.map (es ++ [(⟨enc x, z, clock⟩ : MapEntry)]).toArray (clock + 1)), ?_, ⟨es ++ [(⟨enc x, z, clock⟩ : MapEntry)], clock + 1, ?_, ?_, ?_, ?_, ⟨(⟨enc x, z, clock⟩ : MapEntry), by simp, rfl, rfl⟩⟩, frm_setBlock w g _, by simp [ChangeMaps.setBlock]⟩
  ·
   rw [hM]
   simp [Instr.mapEntry, run_underlying ht, MapKept.run_getObj_map hb, K.check w _ hkey, h5, hz, MapKept.run_setObj_map _ hb, Result.andThen, ChangeMaps.setBlock, goInt]
  ·
   simp [ChangeMaps.setBlock, hlt]
  ·
   intro e1 he1
   rcases List.mem_append.1 he1 with he1 | he1
   ·
    exact ⟨(h2 e1 he1).1, by have := (h2 e1 he1).2; omega⟩
   ·
    rw [List.mem_singleton] at he1
    subst he1
    exact ⟨⟨kl, hkey⟩, Nat.lt_succ_self _⟩
  ·
   refine List.pairwise_append.2 ⟨h3, by simp, fun a ha b hb2 => ?_⟩
   rw [List.mem_singleton] at hb2
   subst hb2
   exact ⟨by have := (h2 a ha).2; dsimp only; omega, h6 a ha⟩
  ·
   intro y v
   dsimp only
   by_cases hy : y = x
   ·
    subst hy
    rw [if_pos rfl, hM]
    constructor
    ·
     intro hv
     simp only [Option.getD_none, Option.some.injEq] at hv
     exact ⟨⟨enc y, z, clock⟩, by simp, rfl, hv⟩
    ·
     rintro ⟨e1, he1, he2, he3⟩
     rcases List.mem_append.1 he1 with he1 | he1
     ·
      exact absurd he2 (h6 e1 he1)
     ·
      rw [List.mem_singleton] at he1
      subst he1
      simpa using he3
   ·
    rw [if_neg hy]
    constructor
    ·
     intro hv
     obtain ⟨e1, he1, he2⟩ := (h4 y v).1 hv
     exact ⟨e1, by simp [he1], he2⟩
    ·
     rintro ⟨e1, he1, he2, he3⟩
     rcases List.mem_append.1 he1 with he1 | he1
     ·
      exact (h4 y v).2 ⟨e1, he1, he2, he3⟩
     ·
      rw [List.mem_singleton] at he1
      subst he1
      exact absurd (henc _ _ he2).symm hy
 ·
  have hM : M x = some e0.val := (h4 x e0.val).2 ⟨e0, List.mem_of_getElem? h6, h7, rfl⟩
  have hself : es.modify j (fun e => { e with key := enc x }) = es := by
   rw [ChangeMaps.modify_eq_set _ _ _ _ h6]
   have : ({ e0 with key := enc x } : MapEntry) = e0 := by rw [← h7]
   rw [this]
   apply List.ext_getElem?
   intro i
   rw [List.getElem?_set]
   split
   ·
    rename_i hi
    subst hi
    rw [if_pos (List.getElem?_eq_some_iff.1 h6).1, h6]
   ·
    rfl
  refine ⟨e0.born, ChangeMaps.setBlock w g (.map es.toArray clock), ?_, ⟨es, clock, ?_, h2, h3, ?_, ⟨e0, List.mem_of_getElem? h6, h7, rfl⟩⟩, frm_setBlock w g _, by simp [ChangeMaps.setBlock]⟩
  ·
   rw [hM]
   have hstay := K.stays w hkey
   simp [Instr.mapEntry, run_underlying ht, MapKept.run_getObj_map hb, K.check w _ hkey, h5, h6, h7, hstay, MapKept.run_setObj_map _ hb, Result.andThen, ChangeMaps.setBlock, goInt, hself]
  ·
   simp [ChangeMaps.setBlock, hlt]
  ·
   intro y v
   dsimp only
   by_cases hy : y = x
   ·
    subst hy
    rw [if_pos rfl, hM]
    rw [← h4 y v, hM]
    simp
   ·
    rw [if_neg hy]
    exact h4 y v
theorem born_find {es : List MapEntry} {e0 : MapEntry} (h0 : e0 ∈ es) (hp : es.Pairwise (fun a b => a.born ≠ b.born ∧ a.key ≠ b.key)) : ∃ j, es.findIdx? (fun e => (e.born : Int) == (e0.born : Int)) = some j ∧ es[j]? = some e0 := by
 cases hf : es.findIdx? (fun e => (e.born : Int) == (e0.born : Int)) with
 | none =>
  have := List.findIdx?_eq_none_iff.1 hf e0 h0
  simp at this
 | some j =>
  obtain ⟨hj, h1, _⟩ := List.findIdx?_eq_some_iff_getElem.1 hf
  refine ⟨j, rfl, ?_⟩
  obtain ⟨i, hi, he⟩ := List.getElem_of_mem h0
  have h2 : es[j].born = e0.born := Int.ofNat.inj (by simpa using h1)
  by_cases hij : i = j
  ·
   subst hij
   rw [List.getElem?_eq_getElem hi, he]
  ·
   exfalso
   rcases Nat.lt_or_gt_of_ne hij with h3 | h3
   ·
    exact (List.pairwise_iff_getElem.1 hp i j hi hj h3).1 (by rw [he, h2])
   ·
    exact (List.pairwise_iff_getElem.1 hp j i hj hi h3).1 (by rw [he, h2])
theorem run_entryStore [DecidableEq κ] {t : TypeId} {x : κ} {n : Nat} {v : Value} (h : MpE P k enc w g M x n) (henc : ∀ a b, enc a = enc b → a = b) :
  ∃ w' : World, (Instr.entryStore t (.map (some g)) (.int .i64 (n : Int)) v).run P w = .ok () w' ∧ MpF P k enc w' g (fun y => if y = x then some v else M y) ∧ Frm [g] w w' ∧ w'.heap.size = w.heap.size := by
 have hlt := h.mp.lt
 obtain ⟨es, clock, hb, h2, h3, h4, e0, he0, hk0, hn0⟩ := h
 subst hn0
 obtain ⟨j, hj1, hj2⟩ := born_find he0 h3
 have hjl := (List.getElem?_eq_some_iff.1 hj2).1
 have hmod : es.modify j (fun e => { e with val := v }) = es.set j { e0 with val := v } := ChangeMaps.modify_eq_set _ _ _ _ hj2
 have who : ∀ e1 ∈ es.set j { e0 with val := v }, e1 = { e0 with val := v } ∨ (e1 ∈ es ∧ e1.key ≠ e0.key ∧ e1.born ≠ e0.born) := by
  intro e1 he1
  obtain ⟨i, hi, ex⟩ := List.getElem_of_mem he1
  rw [List.getElem_set] at ex
  split at ex
  ·
   exact .inl ex.symm
  ·
   rename_i hne
   have hi' : i < es.length := by simpa using hi
   refine .inr ⟨ex ▸ List.getElem_mem hi', ?_⟩
   have ej : es[j] = e0 := by rw [List.getElem?_eq_getElem hjl] at hj2; exact Option.some.inj hj2
   rcases Nat.lt_or_gt_of_ne hne with h5 | h5
   ·
    have := List.pairwise_iff_getElem.1 h3 j i hjl hi' h5
    rw [ej, ex] at this
    exact ⟨this.2.symm, this.1.symm⟩
   ·
    have := List.pairwise_iff_getElem.1 h3 i j hi' hjl h5
    rw [ej, ex] at this
    exact ⟨this.2, this.1⟩
 have back : ∀ e1 ∈ es, e1.key ≠ e0.key → e1 ∈ es.set j { e0 with val := v } := by
  intro e1 he1 hne
  obtain ⟨i, hi, ex⟩ := List.getElem_of_mem he1
  have hij : j ≠ i := by
   rintro rfl
   rw [List.getElem?_eq_getElem hi, ex] at hj2
   exact hne (by rw [Option.some.inj hj2])
  have : (es.set j { e0 with val := v })[i]? = some e1 := by rw [List.getElem?_set_ne hij, List.getElem?_eq_getElem hi, ex]
  exact List.mem_of_getElem? this
 have hmem : ({ e0 with val := v } : MapEntry) ∈ es.set j { e0 with val := v } := by
  have : (es.set j { e0 with val := v })[j]? = some { e0 with val := v } := by rw [List.getElem?_set_self hjl]
  exact List.mem_of_getElem? this
 refine ⟨ChangeMaps.setBlock w g (.map (es.set j { e0 with val := v }).toArray clock), ?_, ⟨es.set j { e0 with val := v }, clock, by simp [ChangeMaps.setBlock, hlt], ?_, ?_, ?_⟩, frm_setBlock w g _, by simp [ChangeMaps.setBlock]⟩
 ·
  have e5 : (asInt (.int .i64 (e0.born : Int))).run P w = .ok (e0.born : Int) w := rfl
  simp [Instr.entryStore, MapKept.run_getObj_map hb, e5, hj1, MapKept.run_setObj_map _ hb, Result.andThen, ChangeMaps.setBlock, hmod]
 ·
  intro e1 he1
  rcases who e1 he1 with rfl | ⟨h5, _⟩
  ·
   exact h2 e0 he0
  ·
   exact h2 e1 h5
 ·
  rw [List.pairwise_iff_getElem]
  intro a b ha hb2 hab
  have ha' : a < es.length := by simpa using ha
  have hb' : b < es.length := by simpa using hb2
  have h5 := List.pairwise_iff_getElem.1 h3 a b ha' hb' hab
  have ej : es[j] = e0 := by rw [List.getElem?_eq_getElem hjl] at hj2; exact Option.some.inj hj2
  rw [List.getElem_set, List.getElem_set]
  by_cases h6 : j = a
  ·
   subst h6
   rw [if_pos rfl, if_neg (by omega)]
   rw [ej] at h5
   exact h5
  ·
   rw [if_neg h6]
   by_cases h7 : j = b
   ·
    subst h7
    rw [if_pos rfl]
    rw [ej] at h5
    exact h5
   ·
    rw [if_neg h7]
    exact h5
 ·
  intro y u
  dsimp only
  by_cases hy : y = x
  ·
   subst hy
   rw [if_pos rfl]
   constructor
   ·
    intro hu
    exact ⟨_, hmem, hk0, by simpa using hu⟩
   ·
    rintro ⟨e1, he1, he2, he3⟩
    rcases who e1 he1 with rfl | ⟨_, h6, _⟩
    ·
     simpa using he3
    ·
     exact absurd (he2.trans hk0.symm) h6
  ·
   rw [if_neg hy]
   constructor
   ·
    intro hu
    obtain ⟨e1, he1, he2, he3⟩ := (h4 y u).1 hu
    exact ⟨e1, back e1 he1 (fun e => hy (henc _ _ (by rw [← he2, ← hk0, e]))), he2, he3⟩
   ·
    rintro ⟨e1, he1, he2, he3⟩
    rcases who e1 he1 with rfl | ⟨h5, _, _⟩
    ·
     exact absurd (henc _ _ (hk0.symm.trans he2)).symm hy
    ·
     exact (h4 y u).2 ⟨e1, h5, he2, he3⟩
end

section
variable {P : Program} {k : TypeId} {κ : Type} {enc : κ → Value} {w : World} {g : Nat} {M : κ → Option Value} {Γ : Env} {dst : Option Tmp} {T : TypeId} {pos : String} {after : Array Edge} {gd : Option (Nat × Bool)}
theorem Does.makeMap {t : TypeId} : Does P ⟨dst, .makeMap t none, T, pos, after, gd⟩ Γ w (fun r w' => r = .map (some w.heap.size) ∧ MpF P k enc w' w.heap.size (fun _ : κ => none) ∧ Frm [] w w' ∧ w'.heap.size = w.heap.size + 1) := fun ρ _ =>
 ⟨_, w.alloc (.map #[] 0), by simp [execOp, run_makeMap], rfl, MpF.new, (Frm.refl [] w).alloc _, by simp⟩
theorem Run.lookup {t e : TypeId} {a b : Operand} {z : Value} {x : κ} {kl : Lit} (ha : ev? Γ a = some (.map (some g))) (hb : ev? Γ b = some (enc x)) (h : MpF P k enc w g M) (K : Keyed P k) (ht : P.underlying t = some (.map k e)) (hz : ∀ w, (zeroValue e).run P w = .ok z w) (hkey : keyOf P k (enc x) = some kl) :
  Run P ⟨dst, .lookup t a b false, T, pos, after, gd⟩ Γ w ((M x).getD z) := fun ρ hρ => by
 simp [execOp, hρ _ _ ha, hρ _ _ hb, run_look h K ht (hz w) hkey]
theorem Does.mapEntry [DecidableEq κ] {t e : TypeId} {a b : Operand} {z : Value} {x : κ} {kl : Lit} (ha : ev? Γ a = some (.map (some g))) (hb : ev? Γ b = some (enc x)) (h : MpF P k enc w g M) (K : Keyed P k) (henc : ∀ a b, enc a = enc b → a = b) (ht : P.underlying t = some (.map k e)) (hz : ∀ w, (zeroValue e).run P w = .ok z w) (hkey : keyOf P k (enc x) = some kl) :
  Does P ⟨dst, .mapEntry t a b, T, pos, after, gd⟩ Γ w (fun r w' => ∃ n : Nat, r = .tuple #[(M x).getD z, .int .i64 (n : Int)] ∧ MpE P k enc w' g (fun y => if y = x then some ((M x).getD z) else M y) x n ∧ Frm [g] w w' ∧ w'.heap.size = w.heap.size) := fun ρ hρ => by
 obtain ⟨n, w', h1, h2⟩ := run_entry h K henc ht hz hkey
 exact ⟨_, w', by simp [execOp, hρ _ _ ha, hρ _ _ hb, h1], n, rfl, h2⟩
theorem Acts.entryStore [DecidableEq κ] {t : TypeId} {a b c : Operand} {x : κ} {n : Nat} {v : Value} (ha : ev? Γ a = some (.map (some g))) (hb : ev? Γ b = some (.int .i64 (n : Int))) (hc : ev? Γ c = some v) (h : MpE P k enc w g M x n) (henc : ∀ a b, enc a = enc b → a = b) :
  Acts P ⟨dst, .entryStore t a b c, T, pos, after, gd⟩ Γ w (fun w' => MpF P k enc w' g (fun y => if y = x then some v else M y) ∧ Frm [g] w w' ∧ w'.heap.size = w.heap.size) := fun ρ hρ => by
 obtain ⟨w', h1, h2⟩ := run_entryStore (t := t) (v := v) h henc
 exact ⟨w', by simp [execOp, hρ _ _ ha, hρ _ _ hb, hρ _ _ hc, h1], h2⟩
theorem Run.toArr {t e : TypeId} {a : Operand} {A : Option Addr} {len c n : Nat} (ha : ev? Γ a = some (.slice A len c)) (ht : P.underlying t = some (.array n e)) (hn : n ≤ len) : Run P ⟨dst, .sliceToArrayPointer t a, T, pos, after, gd⟩ Γ w (.pointer A) := fun ρ hρ => by
 have : ¬ len < n := by omega
 simp [execOp, hρ _ _ ha, Instr.arrayAt, run_underlying ht, this]
end
end Go.Proofs.Ytnmieihcjjiccaa
namespace Go.Proofs.Ytnmieihcjjiccaa
open Go.RowKit
open Go.Maps (Keyed)
def K3 (x : Nat × Nat × Nat) : Value := .agg #[.int .u8 ((x.1 : Nat) : Int), .int .u8 ((x.2.1 : Nat) : Int), .int .u8 ((x.2.2 : Nat) : Int)]
theorem K3_inj (a b : Nat × Nat × Nat) (h : K3 a = K3 b) : a = b := by
 obtain ⟨a1, a2, a3⟩ := a
 obtain ⟨b1, b2, b3⟩ := b
 simp only [K3, Value.agg.injEq, Array.mk.injEq, List.cons.injEq, Value.int.injEq, true_and, and_true] at h
 obtain ⟨h1, h2, h3⟩ := h
 rw [Int.ofNat.inj h1, Int.ofNat.inj h2, Int.ofNat.inj h3]
theorem laid3 : laidOutB Try.prog = true := by kernel_rfl
theorem law3 : Keyed Try.prog 139 := Keyed.of_law (deep_law_laid laid3 (m := 2) (by omega) (of_decide_eq_true jK) jK (by rw [Try.underlying139]))
theorem cells3 : Try.prog.cellsOf 139 = 3 := by kernel_rfl
theorem cells8 : Try.prog.cellsOf 5 = 1 := by kernel_rfl
theorem keyT3 : Try.prog.keyType 139 = true := by kernel_rfl
theorem wf8 (n : Nat) (h : n < 256) : (Lit.int .u8 (n : Int)).wf = true := by
 have e1 : IntKind.min .u8 = 0 := by decide
 have e2 : IntKind.max .u8 = 255 := by decide
 simp only [Lit.wf, e1, e2, Bool.and_eq_true, decide_eq_true_eq]
 omega
theorem keyL3 (d a b c : Nat) (h1 : a < 256) (h2 : b < 256) (h3 : c < 256) : Try.prog.keyLits (d + 2) 139 [.int .u8 (a : Int), .int .u8 (b : Int), .int .u8 (c : Int)] = some [.int .u8 (a : Int), .int .u8 (b : Int), .int .u8 (c : Int)] := by
 have e (n : Nat) (h : n < 256) : Try.prog.keyLits (d + 1) 5 [.int .u8 (n : Int)] = some [.int .u8 (n : Int)] := by
  unfold Program.keyLits
  rw [Try.underlying5]
  simp only [wf8 n h, and_self, if_true]
 unfold Program.keyLits
 rw [Try.underlying139]
 have e3 : List.range 3 = [0, 1, 2] := rfl
 simp only [cells3, cells8, e3, List.length_cons, List.length_nil, Nat.zero_add, Nat.reduceAdd, if_true, List.mapM_cons, List.mapM_nil, Nat.zero_mul, Nat.one_mul, Nat.reduceMul, List.drop_zero, List.drop_succ_cons, List.take_succ_cons, List.take_zero, e a h1, e b h2, e c h3]
 rfl
theorem key3 (x : Nat × Nat × Nat) (h1 : x.1 < 256) (h2 : x.2.1 < 256) (h3 : x.2.2 < 256) : ∃ l, keyOf Try.prog 139 (K3 x) = some l := by
 have hf : (K3 x).formed Try.prog 139 = true := by
  unfold K3 Value.formed
  rw [Try.underlying139]
  simp only [cells3]
  rfl
 have e1 : Try.prog.types.size + 1 = (Try.prog.types.size - 1) + 2 := by kernel_rfl
 have hk : Try.prog.keyLits (Try.prog.types.size + 1) 139 (K3 x).cells.toList = some [.int .u8 ((x.1 : Nat) : Int), .int .u8 ((x.2.1 : Nat) : Int), .int .u8 ((x.2.2 : Nat) : Int)] := by
  rw [e1]
  exact keyL3 _ _ _ _ h1 h2 h3
 exact ⟨_, by unfold keyOf; rw [Try.underlying139]; simp only [keyT3, hf, Bool.and_self, if_true, hk]; rfl⟩
def PlV (F : Nat × Nat × Nat → Option Addr × Nat) (bs : List Nat) (u : Nat) (x : Nat × Nat × Nat) : Value := .slice (F x).1 (posL bs x u).length (F x).2
def PlM (F : Nat × Nat × Nat → Option Addr × Nat) (bs : List Nat) (u : Nat) (x : Nat × Nat × Nat) : Option Value := if posL bs x u = [] then none else some (PlV F bs u x)
structure IsP (B : Nat) (w : World) (gm : Nat) (bs : List Nat) (u : Nat) (F : Nat × Nat × Nat → Option Addr × Nat) : Prop where
 hgm : B ≤ gm
 map : MpF Try.prog 139 K3 w gm (PlM F bs u)
 own : ∀ x, Own w 3 1 (F x).1 (posL bs x u).length (F x).2 (NI (posL bs x u))
 up : ∀ x, ∀ z ∈ ob (F x).1, B ≤ z
 nil : ∀ x, posL bs x u = [] → F x = (none, 0)
 apart : ∀ x y, x ≠ y → ∀ z ∈ ob (F x).1, z ∉ ob (F y).1
theorem IsP.getD {B : Nat} {w : World} {gm u : Nat} {bs : List Nat} {F : Nat × Nat × Nat → Option Addr × Nat} (h : IsP B w gm bs u F) (x : Nat × Nat × Nat) : (PlM F bs u x).getD (.slice none 0 0) = .slice (F x).1 (posL bs x u).length (F x).2 := by
 unfold PlM
 split
 ·
  rename_i h1
  rw [h.nil x h1, h1]
  rfl
 ·
  rfl
theorem IsP.frm {B : Nat} {w w' : World} {gm u : Nat} {bs : List Nat} {F : Nat × Nat × Nat → Option Addr × Nat} {S : List Nat} (h : IsP B w gm bs u F) (f : Frm S w w') (h1 : gm ∉ S) (h2 : ∀ x, ∀ z ∈ ob (F x).1, z ∉ S) : IsP B w' gm bs u F :=
 ⟨h.hgm, h.map.frm f h1, fun x => (h.own x).frm f (h2 x), h.up, h.nil, h.apart⟩
theorem IsP.blk {B : Nat} {w : World} {gm u b : Nat} {bs : List Nat} {F : Nat × Nat × Nat → Option Addr × Nat} {t : TypeId} {cs : Array Value} (h : IsP B w gm bs u F) (hb : Blk w b t cs) (ht : 3 ≠ t) : gm ∉ [b] ∧ ∀ x, ∀ z ∈ ob (F x).1, z ∉ [b] := by
 refine ⟨by simpa using h.map.ne_blk hb, fun x z hz hx => ?_⟩
 rw [List.mem_singleton] at hx
 subst hx
 exact (h.own x).ne_blk hb ht hz
theorem IsP.same {B : Nat} {w : World} {gm u : Nat} {bs : List Nat} {F : Nat × Nat × Nat → Option Addr × Nat} (h : IsP B w gm bs u F) (hn : bs.length < u + 3) : IsP B w gm bs (u + 1) F := by
 have e (x : Nat × Nat × Nat) : posL bs x (u + 1) = posL bs x u := by rw [posL, if_neg (by omega)]
 have e2 : PlM F bs (u + 1) = PlM F bs u := by
  funext x
  unfold PlM PlV
  rw [e x]
 exact ⟨h.hgm, by rw [e2]; exact h.map, fun x => by rw [e x]; exact h.own x, h.up, fun x hx => h.nil x (by rw [← e x]; exact hx), h.apart⟩
theorem IsP.row {B : Nat} {w : World} {gm u n c : Nat} {bs : List Nat} {F : Nat × Nat × Nat → Option Addr × Nat} {A : Option Addr} {t : TypeId} {xs : List Value} (h : IsP B w gm bs u F) (ho : Own w t 1 A n c xs) : gm ∉ ob A := by
 rcases ho.cases with ⟨rfl, _⟩ | ⟨g, cur, rfl, hb, _⟩
 ·
  simp [ob]
 ·
  simpa [ob] using h.map.ne_blk hb
theorem IsP.put {B gm p c6 : Nat} {w4 w5 w6 w7 : World} {bs : List Nat} {G : Nat × Nat × Nat → Option Addr × Nat} {A6 : Option Addr} {v0 : Value} (h : IsP B w4 gm bs p G) (hp : p + 3 ≤ bs.length) (hB : B ≤ w4.heap.size) (hf5 : Frm [gm] w4 w5) (hs5 : w5.heap.size = w4.heap.size)
  (ho6 : Own w6 3 1 A6 ((posL bs (tri bs p) p).length + 1) c6 (NI (posL bs (tri bs p) p) ++ NI [p])) (hf6 : Frm (ob (G (tri bs p)).1) w5 w6) (hob6 : ob A6 = ob (G (tri bs p)).1 ∨ ob A6 = [w5.heap.size])
  (hM6 : MpF Try.prog 139 K3 w6 gm (fun y => if y = tri bs p then some v0 else PlM G bs p y))
  (hM7 : MpF Try.prog 139 K3 w7 gm (fun y => if y = tri bs p then some (.slice A6 ((posL bs (tri bs p) p).length + 1) c6) else if y = tri bs p then some v0 else PlM G bs p y)) (hf7 : Frm [gm] w6 w7) :
  IsP B w7 gm bs (p + 1) (fun y => if y = tri bs p then (A6, c6) else G y) := by
 have e (y : Nat × Nat × Nat) : posL bs y (p + 1) = if y = tri bs p then posL bs (tri bs p) p ++ [p] else posL bs y p := by
  rw [posL]
  by_cases hy : y = tri bs p
  ·
   rw [if_pos ⟨hp, hy.symm⟩, if_pos hy, hy]
  ·
   rw [if_neg (fun hh => hy hh.2.symm), if_neg hy]
 have rowAt {n c : Nat} {A : Option Addr} {xs : List Value} (ho : Own w6 3 1 A n c xs) : gm ∉ ob A := by
  rcases ho.cases with ⟨rfl, _⟩ | ⟨g, cur, rfl, hb, _⟩
  ·
   simp [ob]
  ·
   simpa [ob] using hM6.ne_blk hb
 have own6 (y : Nat × Nat × Nat) (hy : y ≠ tri bs p) : Own w6 3 1 (G y).1 (posL bs y p).length (G y).2 (NI (posL bs y p)) :=
  ((h.own y).frm hf5 (fun z hz hx => h.row (h.own y) (by rw [List.mem_singleton] at hx; rw [← hx]; exact hz))).frm hf6 (h.apart y _ hy)
 have up6 : ∀ z ∈ ob A6, B ≤ z := up_app (h.up _) hob6 (by omega)
 refine ⟨h.hgm, ?_, fun y => ?_, fun y => ?_, fun y hy => ?_, fun x y hxy z hz => ?_⟩
 ·
  have e2 : PlM (fun y => if y = tri bs p then (A6, c6) else G y) bs (p + 1) = (fun y => if y = tri bs p then some (.slice A6 ((posL bs (tri bs p) p).length + 1) c6) else if y = tri bs p then some v0 else PlM G bs p y) := by
   funext y
   unfold PlM PlV
   rw [e y]
   by_cases hy : y = tri bs p
   ·
    simp only [if_pos hy]
    rw [if_neg (by simp), List.length_append]
    rfl
   ·
    simp only [if_neg hy]
  rw [e2]
  exact hM7
 ·
  rw [e y]
  by_cases hy : y = tri bs p
  ·
   simp only [if_pos hy, List.length_append, List.length_cons, List.length_nil, NI_append]
   exact ho6.frm hf7 (fun z hz hx => rowAt ho6 (by rw [List.mem_singleton] at hx; rw [← hx]; exact hz))
  ·
   simp only [if_neg hy]
   exact (own6 y hy).frm hf7 (fun z hz hx => rowAt (own6 y hy) (by rw [List.mem_singleton] at hx; rw [← hx]; exact hz))
 ·
  by_cases hy : y = tri bs p
  ·
   rw [if_pos hy]; exact up6
  ·
   rw [if_neg hy]; exact h.up y
 ·
  rw [e y] at hy
  by_cases hy2 : y = tri bs p
  ·
   rw [if_pos hy2] at hy
   simp at hy
  ·
   rw [if_neg hy2] at hy ⊢
   exact h.nil y hy
 ·
  by_cases h1 : x = tri bs p
  ·
   rw [if_pos h1] at hz
   rw [if_neg (fun h2 => hxy (h1.trans h2.symm))]
   rcases hob6 with h3 | h3
   ·
    dsimp only at hz
    rw [h3] at hz
    exact h.apart _ y (fun h2 => hxy (h1.trans h2)) z hz
   ·
    dsimp only at hz
    rw [h3, List.mem_singleton] at hz
    intro hx
    have := (h.own y).lt z hx
    omega
  ·
   rw [if_neg h1] at hz
   by_cases h2 : y = tri bs p
   ·
    rw [if_pos h2]
    dsimp only
    rcases hob6 with h3 | h3
    ·
     rw [h3]
     exact h.apart x _ h1 z hz
    ·
     rw [h3, List.mem_singleton]
     have := (h.own x).lt z hz
     omega
   ·
    rw [if_neg h2]
    exact h.apart x y hxy z hz
structure IsF (w0 w : World) (gf gm : Nat) (Ab : Option Addr) (cb : Nat) (bs : List Nat) (u : Nat) (F : Nat × Nat × Nat → Option Addr × Nat) : Prop where
 blk : Blk w gf 93 #[.slice Ab bs.length cb, .map (some gm), .int .i64 ((u : Nat) : Int)]
 rd0 : Rd w0 1 Ab bs.length (NB bs)
 below : Below w0.heap.size w0 w
 hgf : w0.heap.size ≤ gf
 pl : IsP w0.heap.size w gm bs u F
theorem IsF.rd {w0 w : World} {gf gm cb u : Nat} {Ab : Option Addr} {bs : List Nat} {F : Nat × Nat × Nat → Option Addr × Nat} (h : IsF w0 w gf gm Ab cb bs u F) : Rd w 1 Ab bs.length (NB bs) := h.rd0.belowW h.below
theorem IsF.frm {w0 w w' : World} {gf gm cb u : Nat} {Ab : Option Addr} {bs : List Nat} {F : Nat × Nat × Nat → Option Addr × Nat} {S : List Nat} (h : IsF w0 w gf gm Ab cb bs u F) (f : Frm S w w') (hS : ∀ x ∈ S, w.heap.size ≤ x) : IsF w0 w' gf gm Ab cb bs u F := by
 have h0 := h.below.size
 refine ⟨h.blk.frm f (fun hx => ?_), h.rd0, f.onto h.below (fun x hx => Nat.le_trans h0 (hS x hx)) h0, h.hgf, h.pl.frm f (fun hx => ?_) (fun x z hz hx => ?_)⟩
 ·
  have := hS _ hx; have := h.blk.lt; omega
 ·
  have := hS _ hx; have := h.pl.map.lt; omega
 ·
  have := hS _ hx; have := (h.pl.own x).lt z hz; omega
theorem IsF.drawn {w0 w w' : World} {gf gm cb u : Nat} {Ab : Option Addr} {bs : List Nat} {F : Nat × Nat × Nat → Option Addr × Nat} (h : IsF w0 w gf gm Ab cb bs u F) (f : Drawn w w') : IsF w0 w' gf gm Ab cb bs u F := h.frm f.frm (by simp)
theorem IsF.frm2 {w0 w w' : World} {gf gm cb u : Nat} {Ab : Option Addr} {bs : List Nat} {F : Nat × Nat × Nat → Option Addr × Nat} {S : List Nat} (h : IsF w0 w gf gm Ab cb bs u F) (f : Frm S w w') (h1 : gf ∉ S) (h2 : gm ∉ S) (h3 : ∀ x, ∀ z ∈ ob (F x).1, z ∉ S) (h4 : ∀ x ∈ S, w0.heap.size ≤ x) : IsF w0 w' gf gm Ab cb bs u F :=
 ⟨h.blk.frm f h1, h.rd0, f.onto h.below h4 h.below.size, h.hgf, h.pl.frm f h2 h3⟩
theorem IsF.set {w0 w w' : World} {gf gm cb u b : Nat} {Ab : Option Addr} {bs : List Nat} {F : Nat × Nat × Nat → Option Addr × Nat} {t : TypeId} {cs : Array Value} (h : IsF w0 w gf gm Ab cb bs u F) (f : Frm [b] w w') (hb : Blk w b t cs) (h1 : 3 ≠ t) (h2 : 93 ≠ t) (hB : w0.heap.size ≤ b) : IsF w0 w' gf gm Ab cb bs u F :=
 ⟨h.blk.frm f (fun hx => h.blk.ne hb h2 (by simpa using hx)), h.rd0, f.onto h.below (by simpa using hB) h.below.size, h.hgf, h.pl.frm f (h.pl.blk hb h1).1 (h.pl.blk hb h1).2⟩
def Kpf (gf : Nat) (F : Nat × Nat × Nat → Option Addr × Nat) (w w' : World) : Prop := w.heap.size ≤ w'.heap.size ∧ ∀ b t cs, b ≠ gf → (∀ y, b ∉ ob (F y).1) → Blk w b t cs → Blk w' b t cs
theorem Kpf.refl (gf : Nat) (F : Nat × Nat × Nat → Option Addr × Nat) (w : World) : Kpf gf F w w := ⟨Nat.le_refl _, fun _ _ _ _ _ h => h⟩
theorem Kpf.step {gf : Nat} {F : Nat × Nat × Nat → Option Addr × Nat} {a b c : World} {S : List Nat} (h : Kpf gf F a b) (f : Frm S b c) (hS : ∀ x ∈ S, x = gf ∨ a.heap.size ≤ x ∨ (∃ y, x ∈ ob (F y).1) ∨ (∀ t cs, ¬ Blk b x t cs)) : Kpf gf F a c :=
 ⟨Nat.le_trans h.1 f.size, fun x t cs h1 h2 h3 => (h.2 x t cs h1 h2 h3).frm f (fun hx => by
  rcases hS x hx with h4 | h4 | ⟨y, h4⟩ | h4
  ·
   exact h1 h4
  ·
   have := h3.lt; omega
  ·
   exact h2 y h4
  ·
   exact h4 t cs (h.2 x t cs h1 h2 h3))⟩
theorem Kpf.mp {gf g : Nat} {F : Nat × Nat × Nat → Option Addr × Nat} {a b c : World} {M : Nat × Nat × Nat → Option Value} (h : Kpf gf F a b) (f : Frm [g] b c) (hm : MpF Try.prog 139 K3 b g M) : Kpf gf F a c := h.step f fun x hx => .inr (.inr (.inr fun t cs h3 => by
 rw [List.mem_singleton] at hx
 subst hx
 exact hm.ne_blk h3 rfl))
theorem Kpf.blk {w0 w w' : World} {gf gm cb u b : Nat} {Ab : Option Addr} {bs : List Nat} {F : Nat × Nat × Nat → Option Addr × Nat} {t : TypeId} {cs : Array Value} (k : Kpf gf F w w') (h : IsF w0 w gf gm Ab cb bs u F) (hb : Blk w b t cs) (h1 : 3 ≠ t) (h2 : 93 ≠ t) : Blk w' b t cs :=
 k.2 b t cs (fun e => h.blk.ne hb h2 e.symm) (fun y => (h.pl.own y).ne_blk hb h1) hb
theorem Kpf.own {w0 w w' : World} {gf gm cb u : Nat} {Ab : Option Addr} {bs : List Nat} {F : Nat × Nat × Nat → Option Addr × Nat} {e size n cap : Nat} {A : Option Addr} {xs : List Value} (k : Kpf gf F w w') (h0 : IsF w0 w gf gm Ab cb bs u F) (h : Own w e size A n cap xs) (h1 : 3 ≠ e) (h2 : 93 ≠ e) : Own w' e size A n cap xs := by
 refine ⟨h.1, ?_⟩
 rcases h.cases with ⟨rfl, rfl, rfl, _⟩ | ⟨g, cur, rfl, hb, hn, hc, hs, ht⟩
 ·
  exact .inl ⟨rfl, rfl⟩
 ·
  exact .inr ⟨g, cap, cur, rfl, Nat.zero_le _, k.blk h0 hb h1 h2, hn, hc, hs, ht⟩
def RowsOf (F G : Nat × Nat × Nat → Option Addr × Nat) (n : Nat) : Prop := ∀ y, ∀ z ∈ ob (G y).1, z ∈ ob (F y).1 ∨ n ≤ z
theorem Below.set {B : Nat} {w0 w w' : World} {g : Nat} (h : Below B w0 w) (f : Frm [g] w w') (hg : B ≤ g) (hB : B ≤ w.heap.size) : Below B w0 w' := f.onto h (by simpa using hg) hB
theorem getD_lt {bs : List Nat} (h : ∀ b ∈ bs, b < 256) (i : Nat) : bs.getD i 0 < 256 := by
 rw [List.getD_eq_getElem?_getD]
 cases hi : bs[i]? with
 | none => simp
 | some x => exact h x (List.mem_of_getElem? hi)
theorem three_cells {w : World} {ad : Addr} {bs : List Nat} {p : Nat} (h : Rd w 1 (some ad) bs.length (NB bs)) (hp : p + 3 ≤ bs.length) : ∀ (j : Nat) (v : Value), (NB [bs.getD p 0, bs.getD (p + 1) 0, bs.getD (p + 2) 0])[j]? = some v → w.cell? ((ad.add (p * 1)).add j) = some v := by
 obtain ⟨ad', e, _, hc⟩ := h.2 (by omega)
 cases e
 intro j v hv
 have hj : j < 3 := (List.getElem?_eq_some_iff.1 hv).1
 have e1 : (ad.add (p * 1)).add j = ad.add (p + j) := by rw [Nat.mul_one]; exact add_add ad p j
 rw [e1]
 refine hc (p + j) v ?_
 rw [NB_get bs (p + j) (by omega), ← hv]
 rcases (by omega : j = 0 ∨ j = 1 ∨ j = 2) with rfl | rfl | rfl <;> rfl
theorem lgM_stop {bs : List Nat} {f a m : Nat} (h : ¬ (a < bs.length ∧ bs.getD f 0 = bs.getD a 0)) : lgM bs f a m = 0 := by
 cases m with
 | zero => rfl
 | succ m => rw [lgM, if_neg h]
theorem lgM_go {bs : List Nat} {f a m : Nat} (h1 : a < bs.length) (h2 : bs.getD f 0 = bs.getD a 0) (hm : 0 < m) : lgM bs f a m = lgM bs (f + 1) (a + 1) (m - 1) + 1 := by
 obtain ⟨k, rfl⟩ : ∃ k, m = k + 1 := ⟨m - 1, by omega⟩
 rw [lgM, if_pos ⟨h1, h2⟩]
 rfl
set_option maxRecDepth 100000 in
theorem long_spec (w0 w : World) (gf gm cb u f a : Nat) (Ab : Option Addr) (bs : List Nat) (F : Nat × Nat × Nat → Option Addr × Nat) (hf : f < a) (ha : a ≤ bs.length) (hl : bs.length ≤ 1000000) (hF : IsF w0 w gf gm Ab cb bs u F) :
  Calls Try.prog 81 #[.pointer (some ⟨gf, 0, none⟩), .int .i64 ((f : Nat) : Int), .int .i64 ((a : Nat) : Int)] w fun e w' => e = .returned (.int .i64 ((longM bs f a : Nat) : Int)) ∧ Drawn w w' := by
 have hb := hF.blk
 have hrd := hF.rd
 obtain ⟨ad, hA, hadlt, hadc⟩ := hrd.2 (by omega)
 subst hA
 refine VC.calls (nt := 45) (res := #[.tmp 6]) Try.func81 rfl Try.ntmps81 Try.results81 rfl ?_
 refine jS (jR ?_)
 refine Ops.r (v := .int .i64 ((0 : Nat) : Int)) (Run.asg rfl) rfl ?_
 refine jO (jN (jv3 0 1 2 ?_))
 refine jS (jR ?_)
 refine Ops.r (v := .int .i64 ((0 : Nat) : Int)) (Run.asg rfl) rfl ?_
 refine jO (jN (jS (jB ?_)))
 refine VC.loop (σ := Nat) (fun s => [(0, .pointer (some ⟨gf, 0, none⟩)), (1, .int .i64 ((f : Nat) : Int)), (2, .int .i64 ((a : Nat) : Int)), (7, .int .i64 ((s : Nat) : Int))]) (fun s wr => s ≤ 258 ∧ a + s ≤ bs.length ∧ longM bs f a = s + lgM bs (f + s) (a + s) (258 - s) ∧ Drawn w wr) (fun s => 258 - s) 0 (js4 rfl rfl rfl rfl) ⟨by omega, by omega, by simp [longM], Drawn.refl w⟩ ?_
 rintro n wr ⟨hn, hna, hlg, hd⟩
 have hbr := hb.drawn hd
 have hcell : ∀ j, j < bs.length → wr.cell? (ad.add j) = some (.int .u8 ((bs.getD j 0 : Nat) : Int)) := fun j hj => by
  obtain ⟨m, rfl⟩ := hd
  exact hadc j _ (NB_get bs j hj)
 refine jS (jS ?_)
 refine VC.splitR [(0, .pointer (some ⟨gf, 0, none⟩)), (1, .int .i64 ((f : Nat) : Int)), (2, .int .i64 ((a : Nat) : Int)), (7, .int .i64 ((n : Nat) : Int))] (Drawn w) 41 (.bool (decide (a + n < bs.length ∧ n < 258 ∧ bs.getD (f + n) 0 = bs.getD (a + n) 0))) ?_ ?_
 ·
  refine VC.still jK jK ?_
  refine SOps.r (Run.mv rfl) rfl ?_
  refine SOps.r (Run.mv rfl) rfl ?_
  refine SOps.r (Run.bin rfl rfl (Bin.add_i64 _ _ (by omega))) rfl ?_
  refine SOps.r (Run.mv rfl) rfl ?_
  refine SOps.r (Run.nilck rfl) rfl ?_
  refine SOps.r (Run.fieldAddr rfl Try.underlying93 rfl Try.sizeOf22 (by decide)) rfl ?_
  refine SOps.r (Run.load rfl Try.isAgg22 (hbr.cell 0)) rfl ?_
  refine SOps.r (Run.lenS rfl Try.underlying22) rfl ?_
  refine SOps.r (Run.bin rfl rfl (Bin.lssN _ _)) rfl ?_
  by_cases hs16 : a + n < bs.length
  ·
   refine SOps.r (Run.mv rfl) rfl ?_
   refine SOps.rg rfl au (Run.mv rfl) rfl ?_
   refine SOps.rg rfl au (Run.bin rfl rfl (Bin.lssN _ 258)) rfl ?_
   by_cases hs19 : n < 258
   ·
    refine SOps.r (Run.pickT rfl rfl au) rfl ?_
    refine SOps.r (Run.mv rfl) rfl ?_
    refine SOps.rg rfl au (Run.mv rfl) rfl ?_
    refine SOps.rg rfl au (Run.nilck rfl) rfl ?_
    refine SOps.rg rfl au (Run.fieldAddr rfl Try.underlying93 rfl Try.sizeOf22 (by decide)) rfl ?_
    refine SOps.rg rfl au (Run.load rfl Try.isAgg22 (hbr.cell 0)) rfl ?_
    refine SOps.rg rfl au (Run.mv rfl) rfl ?_
    refine SOps.rg rfl au (Run.mv rfl) rfl ?_
    refine SOps.rg rfl au (Run.bin rfl rfl (Bin.add_i64 _ _ (by omega))) rfl ?_
    refine SOps.rg rfl au (Run.index1 _ rfl rfl Try.underlying22 Try.sizeOf5 (by omega)) rfl ?_
    refine SOps.rg rfl au (Run.load rfl Try.isAgg5 (hcell _ (by omega))) rfl ?_
    refine SOps.rg rfl au (Run.mv rfl) rfl ?_
    refine SOps.rg rfl au (Run.nilck rfl) rfl ?_
    refine SOps.rg rfl au (Run.fieldAddr rfl Try.underlying93 rfl Try.sizeOf22 (by decide)) rfl ?_
    refine SOps.rg rfl au (Run.load rfl Try.isAgg22 (hbr.cell 0)) rfl ?_
    refine SOps.rg rfl au (Run.mv rfl) rfl ?_
    refine SOps.rg rfl au (Run.mv rfl) rfl ?_
    refine SOps.rg rfl au (Run.bin rfl rfl (Bin.add_i64 _ _ (by omega))) rfl ?_
    refine SOps.rg rfl au (Run.index1 _ rfl rfl Try.underlying22 Try.sizeOf5 (by omega)) rfl ?_
    refine SOps.rg rfl au (Run.load rfl Try.isAgg5 (hcell _ (by omega))) rfl ?_
    refine SOps.rg rfl au (Run.bin rfl rfl (Bin.eqlN _ _)) rfl ?_
    by_cases hs40 : bs.getD (f + n) 0 = bs.getD (a + n) 0
    ·
     refine SOps.r (Run.pickT rfl rfl au) rfl ?_
     refine SOps.nil ?_
     refine jN ⟨(js5 (jC (by simp [*])) rfl rfl rfl rfl), (hd.trans (Drawn.drew _))⟩
    ·
     refine SOps.r (Run.pickT rfl rfl au) rfl ?_
     refine SOps.nil ?_
     refine jN ⟨(js5 (jC (by simp [*])) rfl rfl rfl rfl), (hd.trans (Drawn.drew _))⟩
   ·
    refine SOps.r (Run.pickT rfl rfl au) rfl ?_
    refine SOps.r (Run.mv rfl) rfl ?_
    refine SOps.sk rfl au rfl ?_
    refine SOps.sk rfl au rfl ?_
    refine SOps.sk rfl au rfl ?_
    refine SOps.sk rfl au rfl ?_
    refine SOps.sk rfl au rfl ?_
    refine SOps.sk rfl au rfl ?_
    refine SOps.sk rfl au rfl ?_
    refine SOps.sk rfl au rfl ?_
    refine SOps.sk rfl au rfl ?_
    refine SOps.sk rfl au rfl ?_
    refine SOps.sk rfl au rfl ?_
    refine SOps.sk rfl au rfl ?_
    refine SOps.sk rfl au rfl ?_
    refine SOps.sk rfl au rfl ?_
    refine SOps.sk rfl au rfl ?_
    refine SOps.sk rfl au rfl ?_
    refine SOps.sk rfl au rfl ?_
    refine SOps.sk rfl au rfl ?_
    refine SOps.sk rfl au rfl ?_
    refine SOps.r (Run.pickF rfl rfl au) rfl ?_
    refine SOps.nil ?_
    refine jN ⟨(js5 (jC (by simp [*])) rfl rfl rfl rfl), (hd.trans (Drawn.drew _))⟩
  ·
   refine SOps.r (Run.mv rfl) rfl ?_
   refine SOps.sk rfl au rfl ?_
   refine SOps.sk rfl au rfl ?_
   refine SOps.r (Run.pickF rfl rfl au) rfl ?_
   refine SOps.r (Run.mv rfl) rfl ?_
   refine SOps.sk rfl au rfl ?_
   refine SOps.sk rfl au rfl ?_
   refine SOps.sk rfl au rfl ?_
   refine SOps.sk rfl au rfl ?_
   refine SOps.sk rfl au rfl ?_
   refine SOps.sk rfl au rfl ?_
   refine SOps.sk rfl au rfl ?_
   refine SOps.sk rfl au rfl ?_
   refine SOps.sk rfl au rfl ?_
   refine SOps.sk rfl au rfl ?_
   refine SOps.sk rfl au rfl ?_
   refine SOps.sk rfl au rfl ?_
   refine SOps.sk rfl au rfl ?_
   refine SOps.sk rfl au rfl ?_
   refine SOps.sk rfl au rfl ?_
   refine SOps.sk rfl au rfl ?_
   refine SOps.sk rfl au rfl ?_
   refine SOps.sk rfl au rfl ?_
   refine SOps.sk rfl au rfl ?_
   refine SOps.r (Run.pickF rfl rfl au) rfl ?_
   refine SOps.nil ?_
   refine jN ⟨(js5 (jC (by simp [*])) rfl rfl rfl rfl), (hd.trans (Drawn.drew _))⟩
 ·
  intro Γ wr2 hΓ hd2
  refine jN (VC.sub _ hΓ ?_)
  refine VC.condD rfl (fun hc1 => ?_) (fun hc1 => ?_)
  ·
   refine jQ (jN (jv4 0 1 2 7 ?_))
   refine jB (jR (jM ?_))
   refine Ops.r (Run.bin rfl rfl (Bin.add_i64 _ 1 (by omega))) rfl ?_
   refine jA ?_
   refine jO ?_
   refine blockQ_n (jN ⟨n + 1, (js4 rfl rfl rfl rfl), ?_, ?_⟩)
   ·
    obtain ⟨h1, h2, h3⟩ := hc1
    refine ⟨by omega, by omega, ?_, hd2⟩
    rw [hlg, lgM_go h1 h3 (by omega), show f + (n + 1) = f + n + 1 by omega, show a + (n + 1) = a + n + 1 by omega, show 258 - (n + 1) = 258 - n - 1 by omega]
    omega
   ·
    first | omega | (dsimp only; omega)
  ·
   refine jX ?_
   refine thenQ_x (thenQ_x (blockQ_x ?_))
   refine jN (jv1 7 ?_)
   refine jS (jR (jM ?_))
   refine jA ?_
   refine jO (jN (jv1 6 ?_))
   refine jT ?_
   refine end1 rfl ?_
   refine ⟨?_, hd2⟩
   rw [hlg]
   by_cases h2 : n < 258
   ·
    rw [lgM_stop (fun h => hc1 ⟨h.1, h2, h.2⟩)]
    rfl
   ·
    rw [show 258 - n = 0 by omega]
    rfl
set_option maxRecDepth 100000 in
theorem keep_spec (w0 w : World) (gf gm cb u a : Nat) (Ab : Option Addr) (bs : List Nat) (F : Nat × Nat × Nat → Option Addr × Nat) (hu : u ≤ a) (hl : bs.length ≤ 1000000) (hcb : bs.length ≤ cb) (ha : a ≤ bs.length) (hB : ∀ b ∈ bs, b < 256) (hF : IsF w0 w gf gm Ab cb bs u F) :
  Calls Try.prog 79 #[.pointer (some ⟨gf, 0, none⟩), .int .i64 ((a : Nat) : Int)] w fun e w' => e = .returned (.tuple #[]) ∧ Kpf gf F w w' ∧ ∃ F', RowsOf F F' w.heap.size ∧ IsF w0 w' gf gm Ab cb bs a F' := by
 refine VC.calls (nt := 59) (res := #[]) Try.func79 rfl Try.ntmps79 Try.results79 rfl ?_
 refine jB ?_
 refine VC.loop (σ := Nat × (Nat × Nat × Nat → Option Addr × Nat)) (fun s => [(0, .pointer (some ⟨gf, 0, none⟩)), (1, .int .i64 ((a : Nat) : Int))]) (fun s wr => s.1 ≤ a ∧ IsF w0 wr gf gm Ab cb bs s.1 s.2 ∧ Kpf gf F w wr ∧ RowsOf F s.2 w.heap.size) (fun s => a - s.1) (u, F) (js2 rfl rfl) ⟨hu, hF, Kpf.refl gf F w, fun _ _ h => .inl h⟩ ?_
 rintro ⟨p, G⟩ wr ⟨hp, hI, hkp, hro⟩
 dsimp only at hp hI
 have hb := hI.blk
 have hpl := posL_len bs (tri bs p) p
 refine jS (jS (jR (jM ?_)))
 refine Ops.r (Run.nilck rfl) rfl ?_
 refine Ops.r (Run.fieldAddr rfl Try.underlying93 rfl Try.sizeOf3 (by decide)) rfl ?_
 refine Ops.r (Run.load rfl Try.isAgg3 (hb.cell 2)) rfl ?_
 refine jM ?_
 refine Ops.r (Run.bin rfl rfl (Bin.lssN _ _)) rfl ?_
 refine jO (jN (jv3 0 1 10 ?_))
 refine VC.condD rfl (fun hc1 => ?_) (fun hc1 => ?_)
 ·
  refine jQ (jN (jv2 0 1 ?_))
  refine jS (jB (jS ?_))
  refine VC.still jK jK ?_
  refine SOps.r (Run.mv rfl) rfl ?_
  refine SOps.r (Run.nilck rfl) rfl ?_
  refine SOps.r (Run.fieldAddr rfl Try.underlying93 rfl Try.sizeOf3 (by decide)) rfl ?_
  refine SOps.r (Run.load rfl Try.isAgg3 (hb.cell 2)) rfl ?_
  refine SOps.r (Run.bin rfl rfl (Bin.add_i64 _ 3 (by omega))) rfl ?_
  refine SOps.r (Run.mv rfl) rfl ?_
  refine SOps.r (Run.nilck rfl) rfl ?_
  refine SOps.r (Run.fieldAddr rfl Try.underlying93 rfl Try.sizeOf22 (by decide)) rfl ?_
  refine SOps.r (Run.load rfl Try.isAgg22 (hb.cell 0)) rfl ?_
  refine SOps.r (Run.lenS rfl Try.underlying22) rfl ?_
  refine SOps.r (Run.bin rfl rfl (Bin.leqN _ _)) rfl ?_
  refine SOps.nil ?_
  refine jN (jv3 0 1 28 ?_)
  refine VC.meet (σ := Nat × Nat × Nat → Option Addr × Nat) (fun s => [(0, .pointer (some ⟨gf, 0, none⟩)), (1, .int .i64 ((a : Nat) : Int))]) (fun s wr => Blk wr gf 93 #[.slice Ab bs.length cb, .map (some gm), .int .i64 ((p : Nat) : Int)] ∧ Below w0.heap.size w0 wr ∧ IsP w0.heap.size wr gm bs (p + 1) s ∧ Kpf gf F w wr ∧ RowsOf F s w.heap.size) ?_ ?_
  ·
   refine VC.condD rfl (fun hc2 => ?_) (fun hc2 => ?_)
   ·
    refine jS ?_
    refine VC.heldL 17 (fun v => IsF w0 v gf gm Ab cb bs p G) jK ?_
    have hI3 := (hI.drawn (Drawn.drew _)).drawn (Drawn.drew _)
    obtain ⟨ad, hA, hadlt, hadc⟩ := hI3.rd.2 (by omega)
    subst hA
    have hS : (fun v => IsF w0 v gf gm (some ad) cb bs p G) wr.drew.drew := hI3
    have hcut : cutA (some ad) cb p 1 = some (ad.add (p * 1)) := by unfold cutA; rw [if_neg (by omega)]; rfl
    refine jH 0 rfl hS (fun w0 hw0 => Run.mv rfl) ?_
    refine jH 1 rfl hS (fun w0 hw0 => Run.nilck rfl) ?_
    refine jH 2 rfl hS (fun w0 hw0 => Run.fieldAddr rfl Try.underlying93 rfl Try.sizeOf22 (by decide)) ?_
    refine jH 3 rfl hS (fun w0 hw0 => Run.load rfl Try.isAgg22 (hw0.blk.cell 0)) ?_
    refine jH 4 rfl hS (fun w0 hw0 => Run.mv rfl) ?_
    refine jH 5 rfl hS (fun w0 hw0 => Run.nilck rfl) ?_
    refine jH 6 rfl hS (fun w0 hw0 => Run.fieldAddr rfl Try.underlying93 rfl Try.sizeOf3 (by decide)) ?_
    refine jH 7 rfl hS (fun w0 hw0 => Run.load rfl Try.isAgg3 (hw0.blk.cell 2)) ?_
    refine jH 8 rfl hS (fun w0 hw0 => Run.mv rfl) ?_
    refine jH 9 rfl hS (fun w0 hw0 => Run.nilck rfl) ?_
    refine jH 10 rfl hS (fun w0 hw0 => Run.fieldAddr rfl Try.underlying93 rfl Try.sizeOf3 (by decide)) ?_
    refine jH 11 rfl hS (fun w0 hw0 => Run.load rfl Try.isAgg3 (hw0.blk.cell 2)) ?_
    refine jH 12 rfl hS (fun w0 hw0 => Run.bin rfl rfl (Bin.add_i64 _ 3 (by omega))) ?_
    refine jH 13 rfl hS (fun w0 hw0 => Run.sliceS _ _ rfl Try.underlying22 Try.sizeOf5 (evB.some_ rfl) (evB.some_ rfl) (by omega) (by omega)) ?_
    rw [hcut]
    refine jH 14 rfl hS (fun w0 hw0 => Run.toArr rfl Try.underlying139 (by omega)) ?_
    refine jH 15 rfl hS (fun w0 hw0 => Run.loadA (cs := NB [bs.getD p 0, bs.getD (p + 1) 0, bs.getD (p + 2) 0]) rfl Try.isAgg139 Try.sizeOf139 (three_cells hw0.rd (by omega)) rfl) ?_
    refine HOps.m 16 rfl jK (Does.alloc zero139) trivial rfl rfl ?_
    rintro _ w2 ⟨rfl, hF2⟩
    have hI4 := hI3.frm hF2.frm (by simp)
    refine ⟨hI4, ?_⟩
    refine HOps.stL rfl jK (Acts.storeA rfl rfl Try.sizeOf139 hF2.blk rfl (NB_one _)) trivial rfl ?_
    rintro w3 ⟨hk3, hf3, hs3⟩
    have hI5 : IsF w0 w3 gf gm (some ad) cb bs p G := hI4.set hf3 hF2.blk (by decide) (by decide) (by have := hI3.below.size; omega)
    generalize hgk : (World.drew (World.drew wr)).heap.size = gk at hk3 hf3 ⊢
    refine HOps.done jK ?_
    refine jN (jv3 0 1 4 ?_)
    refine VC.heldL 14 (fun v => Blk v gf 93 #[.slice (some ad) bs.length cb, .map (some gm), .int .i64 ((p : Nat) : Int)] ∧ Blk v gk 139 #[.int .u8 ((bs.getD p 0 : Nat) : Int), .int .u8 ((bs.getD (p + 1) 0 : Nat) : Int), .int .u8 ((bs.getD (p + 2) 0 : Nat) : Int)]) jK ?_
    have hI6 := hI5.drawn (Drawn.drew _)
    have hk6 := hk3.drawn (Drawn.drew _)
    have hS : (fun v => Blk v gf 93 #[.slice (some ad) bs.length cb, .map (some gm), .int .i64 ((p : Nat) : Int)] ∧ Blk v gk 139 #[.int .u8 ((bs.getD p 0 : Nat) : Int), .int .u8 ((bs.getD (p + 1) 0 : Nat) : Int), .int .u8 ((bs.getD (p + 2) 0 : Nat) : Int)]) w3.drew := ⟨hI6.blk, hk6⟩
    refine jH 0 rfl hS (fun w0 hw0 => Run.mv rfl) ?_
    refine jH 1 rfl hS (fun w0 hw0 => Run.nilck rfl) ?_
    refine jH 2 rfl hS (fun w0 hw0 => Run.fieldAddr rfl Try.underlying93 rfl Try.sizeOf91 (by decide)) ?_
    refine jH 3 rfl hS (fun w0 hw0 => Run.load rfl Try.isAgg91 (hw0.1.cell 1)) ?_
    refine jH 4 rfl hS (fun w0 hw0 => Run.loadB rfl Try.isAgg139 Try.sizeOf139 (hw0.2) rfl) ?_
    refine HOps.r1 5 rfl jK hS (Run.mv rfl) trivial rfl rfl ?_
    refine HOps.r1 6 rfl jK hS (Run.nilck rfl) trivial rfl rfl ?_
    refine HOps.r1 7 rfl jK hS (Run.fieldAddr rfl Try.underlying93 rfl Try.sizeOf3 (by decide)) trivial rfl rfl ?_
    refine HOps.r1 8 rfl jK hS (Run.load rfl Try.isAgg3 (hS.1.cell 2)) trivial rfl rfl ?_
    refine HOps.m 9 rfl jK (Does.buildS1 rfl Try.underlying38 Try.sizeOf3 zero3 (by decide) (by decide) rfl rfl) trivial rfl rfl ?_
    rintro _ w4 ⟨rfl, hF4⟩
    have hI7 := hI6.frm hF4.frm (by simp)
    have hk7 := hk6.frm hF4.frm (by simp)
    refine ⟨⟨hI7.blk, hk7⟩, ?_⟩
    obtain ⟨kl, hkey⟩ := key3 (tri bs p) (getD_lt hB p) (getD_lt hB (p + 1)) (getD_lt hB (p + 2))
    have hrd7 : Rd w4 1 (some ⟨w3.drew.heap.size, 0, none⟩) 1 (NI [p]) := Rd.of_blk hF4.blk rfl
    refine HOps.m 10 rfl jK (Does.mapEntry (x := tri bs p) rfl rfl hI7.pl.map law3 K3_inj Try.underlying91 zero38 hkey) trivial rfl rfl ?_
    rintro r w5 ⟨n, hr, hE5, hf5, hs5⟩
    rw [hI7.pl.getD] at hr
    subst hr
    have hS := And.intro (hI7.blk.frm hf5 (by simpa using (hI7.pl.map.ne_blk hI7.blk).symm)) (hk7.frm hf5 (by simpa using (hI7.pl.map.ne_blk hk7).symm))
    refine ⟨hS, ?_⟩
    have ho5 := (hI7.pl.own (tri bs p)).frm hf5 (fun z hz hx => hI7.pl.row (hI7.pl.own (tri bs p)) (by rw [List.mem_singleton] at hx; rw [← hx]; exact hz))
    have hrd5 := hrd7.frm hf5 (by simpa [ob] using (hI7.pl.map.ne_blk hF4.blk).symm)
    refine jH 11 rfl hS (fun w0 hw0 => Run.extract rfl rfl) ?_
    refine jH 13 rfl hS (fun w0 hw0 => Run.extract rfl rfl) ?_
    refine HOps.m 12 rfl jK (Does.app rfl rfl Try.underlying38 (info3) rfl (by decide) ho5 hrd5 (NI_one [p]) (by omega) (by omega)) trivial rfl rfl ?_
    rintro _ w6 ⟨A6, c6, rfl, ho6, hf6, hob6⟩
    have hgx := hI7.pl.row (hI7.pl.own (tri bs p))
    have hE6 := hE5.frm hf6 hgx
    have hb6 := hS.1.frm hf6 (ho5.ne_blk hS.1 (by decide))
    refine ⟨⟨hb6, hS.2.frm hf6 (ho5.ne_blk hS.2 (by decide))⟩, ?_⟩
    refine HOps.stL rfl jK (Acts.entryStore rfl rfl rfl hE6 K3_inj) trivial rfl ?_
    rintro w7 ⟨hM7, hf7, hs7⟩
    have hbelow : Below w0.heap.size w0 w7 := by
     have h5 := hf5.onto hI7.below (by simpa using hI7.pl.hgm) hI7.below.size
     have h6 := hf6.onto h5 (hI7.pl.up _) h5.size
     exact hf7.onto h6 (by simpa using hI7.pl.hgm) h6.size
    refine HOps.done jK ?_
    refine jN ⟨(fun y => if y = tri bs p then (A6, c6) else G y), (js2 rfl rfl), ?_⟩
    refine ⟨hb6.frm hf7 (by simpa using (hE6.mp.ne_blk hb6).symm), hbelow, hI7.pl.put hc2 hI7.below.size hf5 hs5 ho6 hf6 hob6 hE6.mp hM7 hf7, ?_, ?_⟩
    ·
     have k3 : Kpf gf F w w3 := (hkp.step ((Drawn.drew wr).frm.trans ((Drawn.drew _).frm.trans hF2.frm (by simp)) (by simp)) (by simp)).step hf3 (fun x hx => .inr (.inl (by rw [List.mem_singleton] at hx; rw [hx, ← hgk]; exact hkp.1)))
     refine (((k3.step ((Drawn.drew w3).frm.trans hF4.frm (by simp)) (by simp)).mp hf5 hI7.pl.map).step hf6 (fun x hx => ?_)).mp hf7 hE6.mp
     rcases hro _ x hx with h | h
     ·
      exact .inr (.inr (.inl ⟨_, h⟩))
     ·
      exact .inr (.inl h)
    ·
     intro y z hz
     by_cases hy : y = tri bs p
     ·
      simp only [if_pos hy] at hz
      rcases hob6 with h | h
      ·
       rw [h] at hz
       rw [hy]
       exact hro _ z hz
      ·
       rw [h, List.mem_singleton] at hz
       have h1 := hkp.1
       have h2 := hF2.size
       have h3 := hF4.size
       have h5 := hf3.size
       have e1 : wr.drew.drew.heap.size = wr.heap.size := rfl
       have e2 : w3.drew.heap.size = w3.heap.size := rfl
       exact .inr (by omega)
     ·
      simp only [if_neg hy] at hz
      exact hro y z hz
   ·
    refine jQ ?_
    refine jN ⟨G, (js2 rfl rfl), ?_⟩
    have hI8 := hI.drawn (Drawn.drew _)
    exact ⟨hI8.blk, hI8.below, hI8.pl.same (by omega), hkp.step (Drawn.drew wr).frm (by simp), hro⟩
  ·
   rintro G2 w9 ⟨hb9, hbel9, hP9, hkp9, hro9⟩ Γ hΓ
   refine blockQ_n (jN (VC.sub _ hΓ ?_))
   refine jR (jM ?_)
   refine Ops.r (Run.nilck rfl) rfl ?_
   refine Ops.r (Run.fieldAddr rfl Try.underlying93 rfl Try.sizeOf3 (by decide)) rfl ?_
   refine Ops.r (Run.load rfl Try.isAgg3 (hb9.cell 2)) rfl ?_
   refine Ops.r (Run.bin rfl rfl (Bin.add_i64 _ 1 (by omega))) rfl ?_
   refine Ops.r (Run.nilck rfl) rfl ?_
   refine Ops.r (Run.fieldAddr rfl Try.underlying93 rfl Try.sizeOf3 (by decide)) rfl ?_
   refine Ops.st (Acts.store rfl rfl Try.sizeOf3 hb9 rfl rfl) ?_
   rintro w10 ⟨hb10, hf10, hs10⟩
   refine jO ?_
   refine jN ⟨(p + 1, G2), (js2 rfl rfl), ?_, ?_⟩
   ·
    refine ⟨by dsimp only; omega, ⟨hb10, hF.rd0, hf10.onto hbel9 (by simpa using hF.hgf) hbel9.size, hF.hgf, hP9.frm hf10 (hP9.blk hb9 (by decide)).1 (hP9.blk hb9 (by decide)).2⟩, hkp9.step hf10 (by simp), hro9⟩
   ·
    first | omega | (dsimp only; omega)
 ·
  refine jX ?_
  refine thenQ_x (thenQ_x (blockQ_x ?_))
  refine end0n ?_
  have hpa : p = a := by omega
  subst hpa
  exact ⟨rfl, hkp, G, hro, hI⟩
end Go.Proofs.Ytnmieihcjjiccaa
