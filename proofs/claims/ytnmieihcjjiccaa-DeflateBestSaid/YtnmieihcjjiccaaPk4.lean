/-
  Lemmas on the way, joined: LimV, LimX, LimK, LimY, LimO, DefM, InfPT, InfLF, DefN, DefO, RefQ, RefR, RefS, DefK, RefT, Eng17, DefL, DefLC.
-/
import Derived.ArgAppend
import Derived.Test.YtnmieihcjjiccaaPk3
namespace Go.Proofs.Ytnmieihcjjiccaa
open Go.RowKit
set_option maxRecDepth 100000 in
theorem refLengths_spec (A : Option Addr) (c0 : Nat) (l : List Int) (m : Int) (w : World) (hl : l.length ≤ 1000000) (hr : Rd w 1 A l.length (IB l)) :
  Calls Try.prog 40 #[.slice A l.length c0, .int .i64 m] w fun e w' => Frm [] w w' ∧
   if ¬ mayB l ∨ m < 1 ∨ 15 < m then e = .returned (.tuple #[.slice none 0 0, .int .i64 ((1 : Nat) : Int)])
   else ∃ own, IsCoins (l.map Int.toNat) own ∧ if 2 ^ m.toNat < own.length then e = .returned (.tuple #[.slice none 0 0, .int .i64 ((8 : Nat) : Int)])
    else ∃ B c, e = .returned (.tuple #[.slice B l.length c, .int .i64 ((0 : Nat) : Int)]) ∧ Own w' 3 1 B l.length c (NI (lenP l.length m.toNat own)) := by
 refine VC.calls (nt := 90) (res := #[.tmp 4, .tmp 5]) Try.func40 rfl Try.ntmps40 Try.results40 rfl ?_
 refine jS (jR (jA ?_))
 refine Ops.r (v := .int .i64 ((0 : Nat) : Int)) (Run.asg rfl) rfl ?_
 refine jO (jN (jv2 0 1 ?_))
 refine jS (jS ?_)
 refine VC.split1 [(0, _), (1, _)] (js2 rfl rfl) 24 (.bool (decide (¬ mayB l ∨ m < 1 ∨ 15 < m))) ?_ ?_
 ·
  refine jR ?_
  refine jM ?_
  refine Ops.cl (Enters.fn (evs.cons rfl evs.nil) Try.call69) (refMay_spec A c0 l _ (by omega) hr) rfl ?_
  rintro e _ ⟨rfl, rfl⟩
  refine ⟨_, rfl, ?_⟩
  by_cases hs15 : mayB l
  ·
   refine Ops.r (Run.not rfl) rfl ?_
   refine jM ?_
   refine jG ?_
   refine Ops.rg rfl au (Run.bin rfl rfl (Bin.lss _ 1)) rfl ?_
   by_cases hs19 : m < 1
   ·
    refine Ops.r (Run.pickF rfl rfl au) rfl ?_
    refine jM ?_
    refine jU ?_
    refine jU ?_
    refine Ops.r (Run.pickT rfl rfl au) rfl ?_
    refine jO ?_
    refine jN ⟨(js3 (jC (by simp [*])) rfl rfl), rfl⟩
   ·
    refine Ops.r (Run.pickF rfl rfl au) rfl ?_
    refine jM ?_
    refine jG ?_
    refine Ops.rg rfl au (Run.bin rfl rfl (Bin.gtr _ 15)) rfl ?_
    by_cases hs23 : 15 < m
    ·
     refine Ops.r (Run.pickF rfl rfl au) rfl ?_
     refine jO ?_
     refine jN ⟨(js3 (jC (by simp [*])) rfl rfl), rfl⟩
    ·
     refine Ops.r (Run.pickF rfl rfl au) rfl ?_
     refine jO ?_
     refine jN ⟨(js3 (jC (by simp [*])) rfl rfl), rfl⟩
  ·
   refine Ops.r (Run.not rfl) rfl ?_
   refine jM ?_
   refine jU ?_
   refine jU ?_
   refine Ops.r (Run.pickT rfl rfl au) rfl ?_
   refine jM ?_
   refine jU ?_
   refine jU ?_
   refine Ops.r (Run.pickT rfl rfl au) rfl ?_
   refine jO ?_
   refine jN ⟨(js3 (jC (by simp [*])) rfl rfl), rfl⟩
 ·
  intro Γ hΓ
  refine jN (VC.sub _ hΓ ?_)
  refine VC.condD rfl (fun hc1 => ?_) (fun hc1 => ?_)
  ·
   refine jS (jR (jA ?_))
   refine Ops.r (v := .int .i64 ((1 : Nat) : Int)) (Run.asg rfl) rfl ?_
   refine jO (jN (jv2 4 5 ?_))
   refine jT ?_
   refine thenQ_r (end2 rfl rfl ?_)
   exact ⟨Frm.refl [] w, by rw [if_pos hc1]⟩
  ·
   obtain ⟨m, rfl⟩ : ∃ k : Nat, m = k := ⟨m.toNat, by omega⟩
   have hm1 : 1 ≤ m := by omega
   have hm15 : m ≤ 15 := by omega
   have hmay : mayB l := Classical.not_not.1 (fun h => hc1 (.inl h))
   have hpos : ∀ x ∈ l, 0 ≤ x := fun x hx => (hmay.2 x hx).1
   have hll := hmay.1
   have hin := IB_NI hpos
   generalize hcs : l.map Int.toNat = cs at *
   have hcl : cs.length = l.length := by rw [← hcs, List.length_map]
   have hcx : ∀ x ∈ cs, x ≤ 2147483647 := by
    intro x hx
    rw [← hcs] at hx
    obtain ⟨y, hy, rfl⟩ := List.mem_map.1 hx
    have := hmay.2 y hy
    omega
   rw [hin, ← hcl] at hr
   rw [← hcl]
   refine jQ (jN (jv2 0 1 ?_))
   refine jS (jR (jM ?_))
   refine Ops.cl (Enters.fn (evs.cons rfl evs.nil) Try.call70) (refCoins_spec A c0 cs _ (by omega) hcx hr) rfl ?_
   rintro e w1 ⟨B1, c1, ps, rfl, hP1, hco, hf1⟩
   refine ⟨_, rfl, ?_⟩
   have hpl : ps.length ≤ 320 := by
    have h5 := hco.1.length_eq
    rw [List.length_map] at h5
    rw [h5]
    unfold coinsTo
    rw [List.length_map]
    exact Nat.le_trans (List.length_filter_le _ _) (by simp; omega)
   have hpw : 2 ^ m ≤ 2 ^ 15 := Nat.pow_le_pow_right (by omega) hm15
   refine jA ?_
   refine jO (jN (jv3 0 1 6 ?_))
   refine jS (jR ?_)
   refine Ops.r (v := .int .i64 ((1 : Nat) : Int)) (Run.asg rfl) rfl ?_
   refine jO (jN (jS (jS (jR ?_))))
   refine Ops.r (v := .int .i64 ((0 : Nat) : Int)) (Run.asg rfl) rfl ?_
   refine jO (jN (jB ?_))
   refine VC.loop (σ := Nat) (fun s => [(0, .slice A cs.length c0), (1, .int .i64 ((m : Nat) : Int)), (6, .slice B1 ps.length c1), (7, .int .i64 ((2 ^ s : Nat) : Int)), (8, .int .i64 ((s : Nat) : Int))]) (fun s wr => s ≤ m ∧ w1 = wr) (fun s => m - s) 0 (js5 rfl rfl rfl rfl rfl) ⟨by omega, rfl⟩ ?_
   rintro i _ ⟨hi, rfl⟩
   have hpi : 2 ^ i ≤ 2 ^ 15 := Nat.pow_le_pow_right (by omega) (by omega)
   refine jS (jS (jR (jM ?_)))
   refine jM ?_
   refine Ops.r (Run.bin rfl rfl (Bin.lss _ _)) rfl ?_
   refine jO (jN (jv6 0 1 6 7 8 29 ?_))
   refine VC.condD rfl (fun hc2 => ?_) (fun hc2 => ?_)
   ·
    refine jQ (jN (jv5 0 1 6 7 8 ?_))
    refine jS (jB (jR (jM ?_)))
    refine Ops.r (Run.bin rfl rfl (Bin.mul_i64 _ 2 (by omega))) rfl ?_
    refine jA ?_
    refine jO ?_
    refine blockQ_n (jN ?_)
    refine jv5 0 1 6 7 8 ?_
    refine jR (jM ?_)
    refine Ops.r (Run.bin rfl rfl (Bin.add_i64 _ 1 (by omega))) rfl ?_
    refine jA ?_
    refine jO ?_
    refine jN ⟨(i + 1), (js5 rfl rfl rfl (by rw [Nat.pow_succ]; rfl) rfl), ?_, ?_⟩
    ·
     exact ⟨by omega, rfl⟩
    ·
     first | omega | (dsimp only; omega)
   ·
    have him : i = m := by omega
    subst him
    refine jX ?_
    refine thenQ_x (thenQ_x (blockQ_x ?_))
    refine jN (jv4 0 1 6 7 ?_)
    refine jS (jS (jR (jM ?_)))
    refine Ops.r (Run.lenS rfl Try.underlying122) rfl ?_
    refine jM ?_
    refine Ops.r (Run.bin rfl rfl (Bin.gtrN _ _)) rfl ?_
    refine jO (jN (jv4 0 1 6 37 ?_))
    refine VC.condD rfl (fun hc3 => ?_) (fun hc3 => ?_)
    ·
     refine jS (jR (jA ?_))
     refine Ops.r (v := .int .i64 ((8 : Nat) : Int)) (Run.asg rfl) rfl ?_
     refine jO (jN (jv2 4 5 ?_))
     refine jT ?_
     refine thenQ_r (end2 rfl rfl ?_)
     refine ⟨hf1, ?_⟩
     rw [if_neg hc1]
     refine ⟨_, hco, ?_⟩
     rw [Int.toNat_natCast, List.length_map, if_pos hc3]
    ·
     have hc3n : ¬ 2 ^ i < ps.length := hc3
     refine jQ (jN (jv3 0 1 6 ?_))
     refine jS (jR (jM ?_))
     refine Ops.r (Run.lenS rfl Try.underlying38) rfl ?_
     refine Ops.m (Does.makeS rfl rfl Try.underlying38 (info3) rfl (by omega) (by omega)) rfl ?_
     rintro _ w2 ⟨rfl, ho2, hf2, hs2⟩
     have hP2 := hP1.frm hf2 (by simp) (fun _ _ _ _ => by simp)
     have hfr2 := hf1.own hf2 (by simp)
     have hgo := hf1.size
     have hpg0 : ∀ p ∈ ps, ∀ x ∈ ob p.A, x < w1.heap.size := fun p hp => Own.lt (hP1.2 p hp)
     generalize hgo2 : w1.heap.size = go at *
     refine jA ?_
     refine jO (jN (jv3 1 6 9 ?_))
     refine jS (jS (jR (jM ?_)))
     refine Ops.r (Run.lenS rfl Try.underlying122) rfl ?_
     refine Ops.r (Run.bin rfl rfl (Bin.eqlN _ 1)) rfl ?_
     refine jO (jN (jv4 1 6 9 43 ?_))
     refine VC.condD rfl (fun hc4 => ?_) (fun hc4 => ?_)
     ·
      obtain ⟨p, rfl⟩ : ∃ p, ps = [p] := by
       match ps, hc4 with
       | [p], _ => exact ⟨p, rfl⟩
      obtain ⟨k, hk, hk0, hpe⟩ := coinsTo_mem (hco.1.mem_iff.1 (List.mem_map_of_mem (f := PkC.abs) (List.mem_singleton.2 rfl)))
      have hsy : p.sy = [k] := congrArg Prod.snd hpe
      obtain ⟨ad, rfl, hea⟩ := hP2.1.rd.elem (k := 0) (by simp)
      rw [flat_get (RC cs.length) 2 (RC_len _) [p] 0 (by simp)] at hea
      have hpo := hP2.2 p (by simp)
      unfold RkOk at hpo
      have hl1 : [p].length = 1 := rfl
      rw [hl1]
      refine jS (jR (jM ?_))
      refine Ops.r (Run.indexS 0 rfl rfl Try.underlying122 Try.sizeOf125 (by omega)) rfl ?_
      refine Ops.r (Run.fieldAddr rfl Try.underlying125 rfl Try.sizeOf38 (by decide)) rfl ?_
      refine Ops.r (Run.load rfl Try.isAgg38 (hea 1 _ rfl)) rfl ?_
      refine jA ?_
      refine Ops.r (v := .int .i64 ((0 : Nat) : Int)) (Run.asg rfl) rfl ?_
      refine jO (jN (jv2 4 5 ?_))
      refine jT ?_
      refine thenQ_r (end2 rfl rfl ?_)
      refine ⟨hfr2, ?_⟩
      rw [if_neg hc1]
      refine ⟨_, hco, ?_⟩
      rw [Int.toNat_natCast, List.length_map, if_neg hc3n]
      refine ⟨_, _, rfl, ?_⟩
      have h5 : lenP cs.length i ([p].map PkC.abs) = cntV cs.length p.sy := by
       unfold lenP
       rw [if_pos (show ([p].map PkC.abs).length ≤ 1 from Nat.le_refl 1), vecOf_eq]
       simp [PkC.abs]
      rw [h5]
      exact hpo
     ·
      refine jQ (jN (jv3 1 6 9 ?_))
      refine jS (jS (jR (jM ?_)))
      refine Ops.r (Run.lenS rfl Try.underlying122) rfl ?_
      refine Ops.r (Run.bin rfl rfl (Bin.eqlN _ 0)) rfl ?_
      refine jO (jN (jv4 1 6 9 50 ?_))
      refine VC.condD rfl (fun hc5 => ?_) (fun hc5 => ?_)
      ·
       refine jS (jR (jM ?_))
       refine jA ?_
       refine Ops.r (v := .int .i64 ((0 : Nat) : Int)) (Run.asg rfl) rfl ?_
       refine jO (jN (jv2 4 5 ?_))
       refine jT ?_
       refine thenQ_r (end2 rfl rfl ?_)
       refine ⟨hfr2, ?_⟩
       rw [if_neg hc1]
       refine ⟨_, hco, ?_⟩
       rw [Int.toNat_natCast, List.length_map, if_neg hc3n]
       refine ⟨_, _, rfl, ?_⟩
       have hpn : ps = [] := List.eq_nil_of_length_eq_zero hc5
       have h5 : lenP cs.length i (ps.map PkC.abs) = cntV cs.length [] := by
        unfold lenP
        rw [if_pos (by simp [hpn]), vecOf_eq, hpn]
        rfl
       have h6 : (List.replicate cs.length (Value.int .i64 0).cells.toList).flatten = NI (cntV cs.length []) := (cntV_nil _).symm
       rw [h5, ← h6]
       exact ho2
      ·
       have hn2 : 2 ≤ ps.length := by omega
       have htc := tot_coins cs 2147483647 hcx cs.length (Nat.le_refl _)
       have htp := tot_perm hco.1
       have htm : cs.length * 2147483647 ≤ 320 * 2147483647 := Nat.mul_le_mul_right _ (by omega)
       have htC : totC (ps.map PkC.abs) ≤ 320 * 2147483647 := by omega
       have htS : totS (ps.map PkC.abs) ≤ 320 := by omega
       have hsort := sort_coins hco (by omega)
       refine jQ (jN (jv3 1 6 9 ?_))
       refine jS (jR (jM ?_))
       refine jA ?_
       refine jO (jN (jv4 1 6 9 10 ?_))
       refine jS (jS (jR ?_))
       refine Ops.r (v := .int .i64 ((1 : Nat) : Int)) (Run.asg rfl) rfl ?_
       refine jO (jN (jB ?_))
       refine VC.loop (σ := Nat × Option Addr × Nat × List PkC) (fun s => [(1, .int .i64 ((i : Nat) : Int)), (6, .slice B1 ps.length c1), (9, .slice (some ⟨go, 0, none⟩) cs.length cs.length), (10, .slice s.2.1 s.2.2.2.length s.2.2.1), (11, .int .i64 ((s.1 + 1 : Nat) : Int))]) (fun s wr => s.1 ≤ i - 1 ∧ s.2.2.2.map PkC.abs = levelP (ps.map PkC.abs) s.1 ∧ Rps wr cs.length s.2.1 s.2.2.1 s.2.2.2 ∧ Rps wr cs.length B1 c1 ps ∧ Own wr 3 1 (some ⟨go, 0, none⟩) cs.length cs.length (List.replicate cs.length [Value.int .i64 0]).flatten ∧ Frm [] w wr ∧ ∀ p ∈ s.2.2.2, ∀ x ∈ ob p.A, x ≠ go) (fun s => i - 1 - s.1) (0, B1, c1, ps) (js5 rfl rfl rfl rfl rfl) ⟨by omega, rfl, hP2, hP2, ho2, hfr2, fun p hp x hx => Nat.ne_of_lt (hpg0 p hp x hx)⟩ ?_
       rintro ⟨k, Bk, ck, lst⟩ wr ⟨hk, hlv, hPk, hPo, hoo, hfr, hpg⟩
       dsimp only at hk hlv hPk hPo hoo hfr hpg ⊢
       have hlen := (level_len (ps.map PkC.abs) k).1
       rw [← hlv, List.length_map, List.length_map] at hlen
       have hgw : go < wr.heap.size := hoo.lt go (by simp [ob])
       refine jS (jS (jR (jM ?_)))
       refine jM ?_
       refine Ops.r (Run.bin rfl rfl (Bin.lss _ _)) rfl ?_
       refine jO (jN (jv6 1 6 9 10 11 55 ?_))
       refine VC.condD rfl (fun hc6 => ?_) (fun hc6 => ?_)
       ·
        have hbd : ∀ p ∈ lst, p.count ≤ 2305843009213693951 ∧ p.sy.length ≤ 100000 := by
         intro p hp
         have h5 : p.abs ∈ levelP (ps.map PkC.abs) k := by rw [← hlv]; exact List.mem_map_of_mem hp
         have h6 : p.count ≤ _ := mem_totC h5
         have h7 : p.sy.length ≤ _ := mem_totS h5
         have h8 := level_totC (ps.map PkC.abs) k
         have h9 := level_totS (ps.map PkC.abs) k
         have h10 : (k + 1) * totC (ps.map PkC.abs) ≤ 16 * (320 * 2147483647) := Nat.mul_le_mul (by omega) htC
         have h11 : (k + 1) * totS (ps.map PkC.abs) ≤ 16 * 320 := Nat.mul_le_mul (by omega) htS
         exact ⟨by omega, by omega⟩
        refine jQ (jN (jv5 1 6 9 10 11 ?_))
        refine jS (jB (jR (jM ?_)))
        refine jM ?_
        refine Ops.cl (Enters.fn (evs.cons rfl (evs.cons rfl evs.nil)) Try.call71) (refMerged_spec cs.length B1 Bk c1 ck ps lst _ (by omega) hPo.1.rd hPo.2 hPk.1.rd hPk.2 (by omega) (by omega) hbd (fun x => x ≠ go) (fun x hx => by omega) (fun p hp x hx => Nat.ne_of_lt (hpg0 p hp x hx))) rfl ?_
        rintro e w5 ⟨B5, c5, qs, rfl, hP5, hq5, hf5, hu5, hg5⟩
        refine ⟨_, rfl, ?_⟩
        refine jA ?_
        refine jO ?_
        refine blockQ_n (jN ?_)
        refine jv5 1 6 9 10 11 ?_
        refine jR (jM ?_)
        refine Ops.r (Run.bin rfl rfl (Bin.add_i64 _ 1 (by omega))) rfl ?_
        refine jA ?_
        refine jO ?_
        refine jN ⟨(k + 1, B5, c5, qs), (js5 rfl rfl rfl rfl rfl), ?_, ?_⟩
        ·
         refine ⟨by dsimp only; omega, ?_, hP5, hPo.frm hf5 (by simp) (fun _ _ _ _ => by simp), hoo.frm hf5 (by simp), hfr.own hf5 (by simp), hg5⟩
         dsimp only
         rw [hq5, hlv, merge_ins _ _ hsort (sort_pairs _ (sort_level _ hsort k))]
         rfl
        ·
         first | omega | (dsimp only; omega)
       ·
        have hkm : k = i - 1 := by omega
        subst hkm
        have hen := level_enough (ps.map PkC.abs) (i - 1) (by rw [List.length_map, show i - 1 + 1 = i by omega]; omega)
        rw [← hlv, List.length_map, List.length_map] at hen
        rw [← cntV_nil] at hoo
        have hall : ∀ j, j ≤ lst.length → ((lst.take j).flatMap PkC.sy).length ≤ 16 * 320 := by
         intro j _
         have h8 := level_totS (ps.map PkC.abs) (i - 1)
         have h9 : (i - 1 + 1) * totS (ps.map PkC.abs) ≤ 16 * 320 := Nat.mul_le_mul (by omega) htS
         have h10 := totS_take (lst.map PkC.abs) j
         rw [← count_le_tot, ← List.map_take, List.flatMap_map, hlv] at h10
         exact Nat.le_trans h10 (Nat.le_trans h8 h9)
        refine jX ?_
        refine thenQ_x (thenQ_x (blockQ_x ?_))
        refine jN (jv3 6 9 10 ?_)
        refine jS (jS (jR ?_))
        refine Ops.r (v := .int .i64 ((0 : Nat) : Int)) (Run.asg rfl) rfl ?_
        refine jO (jN (jB ?_))
        refine VC.loop (σ := Nat) (fun s => [(6, .slice B1 ps.length c1), (9, .slice (some ⟨go, 0, none⟩) cs.length cs.length), (10, .slice Bk lst.length ck), (12, .int .i64 ((s : Nat) : Int))]) (fun s wr => s ≤ 2 * ps.length - 2 ∧ Rps wr cs.length Bk ck lst ∧ Own wr 3 1 (some ⟨go, 0, none⟩) cs.length cs.length (NI (cntV cs.length ((lst.take s).flatMap PkC.sy))) ∧ Frm [] w wr) (fun s => 2 * ps.length - 2 - s) 0 (js4 rfl rfl rfl rfl) ⟨by omega, hPk, by simpa using hoo, hfr⟩ ?_
        clear hPk hoo hfr hgw
        rintro j w5 ⟨hj, hPk, hoo, hfr⟩
        refine jS (jS (jR (jM ?_)))
        refine jM ?_
        refine Ops.r (Run.lenS rfl Try.underlying122) rfl ?_
        refine Ops.r (Run.bin rfl rfl (Bin.mul_i64 2 _ (by omega))) rfl ?_
        refine Ops.r (Run.bin rfl rfl (Bin.sub_i64 _ 2 (by omega) (by omega))) rfl ?_
        refine Ops.r (Run.bin rfl rfl (Bin.lssN _ _)) rfl ?_
        refine jO (jN (jv5 6 9 10 12 66 ?_))
        refine VC.condD rfl (fun hc7 => ?_) (fun hc7 => ?_)
        ·
         have hil : j < lst.length := by omega
         obtain ⟨ad, rfl, hea⟩ := hPk.1.rd.elem (k := j) hil
         clear hea
         have hfg : ((lst.flatMap (RC cs.length)).drop (j * 2)).take 2 = RC cs.length lst[j] := flat_get (RC cs.length) 2 (RC_len _) lst j hil
         have hpgi := hpg lst[j] (List.getElem_mem _)
         have hpm : lst[j] ∈ lst := List.getElem_mem _
         have htk : lst.take (j + 1) = lst.take j ++ [lst[j]] := by rw [List.take_add_one, List.getElem?_eq_getElem hil]; rfl
         have hfl := hall (j + 1) hil
         rw [htk, List.flatMap_append] at hfl
         simp only [List.flatMap_cons, List.flatMap_nil, List.append_nil, List.length_append] at hfl
         generalize lst[j] = p at *
         refine jQ (jN (jv4 6 9 10 12 ?_))
         refine jS (jB (jS (jR ?_)))
         refine Ops.r (v := .int .i64 ((0 : Nat) : Int)) (Run.asg rfl) rfl ?_
         refine jO (jN (jB ?_))
         refine VC.loop (σ := Nat) (fun s => [(6, .slice B1 ps.length c1), (9, .slice (some ⟨go, 0, none⟩) cs.length cs.length), (10, .slice (some ad) lst.length ck), (12, .int .i64 ((j : Nat) : Int)), (13, .int .i64 ((s : Nat) : Int))]) (fun s wr => s ≤ cs.length ∧ Rps wr cs.length (some ad) ck lst ∧ Own wr 3 1 (some ⟨go, 0, none⟩) cs.length cs.length (NI (cntM cs.length ((lst.take j).flatMap PkC.sy) p.sy s)) ∧ Frm [] w wr) (fun s => cs.length - s) 0 (js5 rfl rfl rfl rfl rfl) ⟨by omega, hPk, by rw [cntM_zero]; exact hoo, hfr⟩ ?_
         clear hPk hoo hfr
         rintro k w8 ⟨hk, hPk, hoo, hfr⟩
         have hd := Drawn.drew w8
         refine jS (jS (jR (jM ?_)))
         refine jM ?_
         refine Ops.r (Run.lenS rfl Try.underlying38) rfl ?_
         refine Ops.r (Run.bin rfl rfl (Bin.lssN _ _)) rfl ?_
         refine jO (jN (jv6 6 9 10 12 13 72 ?_))
         refine VC.condD rfl (fun hc8 => ?_) (fun hc8 => ?_)
         ·
          obtain ⟨ad2, had2, hea⟩ := (hPk.1.rd.drawn hd).elem (k := j) hil
          obtain rfl : ad = ad2 := by injection had2
          rw [hfg] at hea
          obtain ⟨ai, hai, hci⟩ := ((hPk.2 p hpm).frm hd.frm (by simp)).at1 hc8
          have hct := cntM_cell (hoo.drawn hd) hc8
          have hcl2 : ((lst.take j).flatMap PkC.sy).count k ≤ 5120 := Nat.le_trans List.count_le_length (by omega)
          have hcl3 : p.sy.count k ≤ 5120 := Nat.le_trans List.count_le_length (by omega)
          have h83 : (RC cs.length p)[1]? = some (.slice (some ai) cs.length p.c) := by simp [RC, hai]
          refine jQ (jN (jv5 6 9 10 12 13 ?_))
          refine jS (jB ?_)
          refine VC.tail 14 jK jK ?_
          simp only [List.take_succ_cons, List.take_zero, List.drop_succ_cons, List.drop_zero]
          refine SOps.r (Run.mv rfl) rfl ?_
          refine SOps.r (Run.mv rfl) rfl ?_
          refine SOps.r (Run.index1 _ rfl rfl Try.underlying38 Try.sizeOf3 (by omega)) rfl ?_
          refine SOps.r (Run.load rfl Try.isAgg3 hct) rfl ?_
          refine SOps.r (Run.mv rfl) rfl ?_
          refine SOps.r (Run.mv rfl) rfl ?_
          refine SOps.r (Run.indexS _ rfl rfl Try.underlying122 Try.sizeOf125 (by omega)) rfl ?_
          refine SOps.r (Run.fieldAddr rfl Try.underlying125 rfl Try.sizeOf38 (by decide)) rfl ?_
          refine SOps.r (Run.load rfl Try.isAgg38 (hea 1 _ h83)) rfl ?_
          refine SOps.r (Run.mv rfl) rfl ?_
          refine SOps.r (Run.index1 _ rfl rfl Try.underlying38 Try.sizeOf3 (by omega)) rfl ?_
          refine SOps.r (Run.load rfl Try.isAgg3 hci) rfl ?_
          refine SOps.r (Run.bin rfl rfl (Bin.add_i64 _ _ (by omega))) rfl ?_
          refine SOps.r (Run.index1 _ rfl rfl Try.underlying38 Try.sizeOf3 (by omega)) rfl ?_
          refine SOps.nil ?_
          refine Ops.st (Acts.storeOwn k rfl rfl Try.sizeOf3 (hoo.drawn hd) rfl (by omega) rfl) ?_
          rintro w9 ⟨ho9, hf9, hs9⟩
          rw [← cntM_succ _ _ _ _ hc8] at ho9
          have hf89 := hfr.drawn hd
          refine jO ?_
          refine blockQ_n (jN ?_)
          refine jv5 6 9 10 12 13 ?_
          refine jR (jM ?_)
          refine Ops.r (Run.bin rfl rfl (Bin.add_i64 _ 1 (by omega))) rfl ?_
          refine jA ?_
          refine jO ?_
          refine jN ⟨(k + 1), (js5 rfl rfl rfl rfl rfl), ?_, ?_⟩
          ·
           refine ⟨hc8, (hPk.frm hd.frm (by simp) (fun _ _ _ _ => by simp)).frm hf9 (hPk.1.ne_own hoo (by decide)) (fun q hq x hx => by simp [ob]; exact hpg q hq x hx), ho9, hf89.own hf9 (fun x hx => ?_)⟩
           simp [ob] at hx
           omega
          ·
           first | omega | (dsimp only; omega)
         ·
          have hkl : k = cs.length := by omega
          subst hkl
          rw [cntM_all] at hoo
          refine jX ?_
          refine thenQ_x (thenQ_x (blockQ_x ?_))
          refine blockQ_n (jN ?_)
          refine jv4 6 9 10 12 ?_
          refine jR (jM ?_)
          refine Ops.r (Run.bin rfl rfl (Bin.add_i64 _ 1 (by omega))) rfl ?_
          refine jA ?_
          refine jO ?_
          refine jN ⟨(j + 1), (js4 rfl rfl rfl rfl), ?_, ?_⟩
          ·
           refine ⟨by omega, hPk, ?_, hfr⟩
           rw [htk, List.flatMap_append]
           simpa using hoo
          ·
           first | omega | (dsimp only; omega)
        ·
         have hin2 : j = 2 * ps.length - 2 := by omega
         subst hin2
         refine jX ?_
         refine thenQ_x (thenQ_x (blockQ_x ?_))
         refine jN (jv1 9 ?_)
         refine jS (jR (jM ?_))
         refine jA ?_
         refine Ops.r (v := .int .i64 ((0 : Nat) : Int)) (Run.asg rfl) rfl ?_
         refine jO (jN (jv2 4 5 ?_))
         refine jT ?_
         refine end2 rfl rfl ?_
         refine ⟨hfr, ?_⟩
         rw [if_neg hc1]
         refine ⟨_, hco, ?_⟩
         rw [Int.toNat_natCast, List.length_map, if_neg hc3n]
         refine ⟨_, _, rfl, ?_⟩
         have h5 : lenP cs.length i (ps.map PkC.abs) = cntV cs.length ((lst.take (2 * ps.length - 2)).flatMap PkC.sy) := by
          unfold lenP
          rw [if_neg (by rw [List.length_map]; omega), vecOf_eq, ← hlv, List.length_map, ← List.map_take, List.flatMap_map]
          rfl
         rw [h5]
         exact hoo
end Go.Proofs.Ytnmieihcjjiccaa
namespace Go.Proofs.Ytnmieihcjjiccaa
open Go.RowKit
theorem NI_IB (l : List Nat) : NI l = IB (l.map fun x : Nat => (x : Int)) := by simp [NI, IB]
theorem lenP_len (n m : Nat) (own : List (Nat × List Nat)) : (lenP n m own).length = n := by
 unfold lenP
 split <;> simp [vecOf]
end Go.Proofs.Ytnmieihcjjiccaa
namespace Go.Proofs.Ytnmieihcjjiccaa
open Go.RowKit

def sg (f : Nat → Nat) : Nat → Nat
 | 0 => 0
 | n + 1 => sg f n + f n
theorem sg_congr {f h : Nat → Nat} : ∀ n, (∀ k, k < n → f k = h k) → sg f n = sg h n
 | 0, _ => rfl
 | n + 1, e => by rw [sg, sg, sg_congr n (fun k hk => e k (by omega)), e n (by omega)]
theorem sg_add (f h : Nat → Nat) : ∀ n, sg (fun k => f k + h k) n = sg f n + sg h n
 | 0 => rfl
 | n + 1 => by rw [sg, sg, sg, sg_add f h n]; omega
theorem sg_zero : ∀ n, sg (fun _ => 0) n = 0
 | 0 => rfl
 | n + 1 => by rw [sg, sg_zero n]
theorem sg_mul (f : Nat → Nat) (c : Nat) : ∀ n, sg (fun k => f k * c) n = sg f n * c
 | 0 => by simp [sg]
 | n + 1 => by rw [sg, sg, sg_mul f c n, Nat.add_mul]
theorem sg_swap (f : Nat → Nat → Nat) (m : Nat) : ∀ n, sg (fun i => sg (fun j => f i j) m) n = sg (fun j => sg (fun i => f i j) n) m
 | 0 => by simp only [sg]; rw [sg_zero]
 | n + 1 => by rw [sg, sg_swap f m n, ← sg_add]; rfl
theorem sg_lt (a : Nat) : ∀ n, a ≤ n → sg (fun i => if i < a then 1 else 0) n = a
 | 0, h => by simp [sg]; omega
 | n + 1, h => by
  rw [sg]
  by_cases h2 : a = n + 1
  ·
   subst h2
   rw [sg_congr (h := fun _ => 1) n (fun k hk => by simp; omega), if_pos (by omega)]
   have : ∀ n, sg (fun _ => 1) n = n := fun n => by
    induction n with
    | zero => rfl
    | succ n ih => rw [sg, ih]
   rw [this]
  ·
   rw [sg_lt a n (by omega), if_neg (by omega)]; rfl

abbrev PL := List (Nat × List Nat)

theorem sum_coins (cs : List Nat) (g : Nat × List Nat → Nat) : ∀ n, ((coinsTo cs n).map g).sum = sg (fun k => if 0 < cs.getD k 0 then g (cs.getD k 0, [k]) else 0) n
 | 0 => rfl
 | n + 1 => by
  rw [coinsTo_succ, List.map_append, List.sum_append, sum_coins cs g n, sg]
  by_cases h : 0 < cs.getD n 0
  ·
   rw [if_pos h, if_pos h]; simp
  ·
   rw [if_neg h, if_neg h]; simp
theorem sum_own {cs : List Nat} {own : PL} (h : IsCoins cs own) (g : Nat × List Nat → Nat) : (own.map g).sum = sg (fun k => if 0 < cs.getD k 0 then g (cs.getD k 0, [k]) else 0) cs.length := by
 rw [← sum_coins, (h.1.map g).sum_nat]
theorem sg_single (f : Nat → Nat) (s : Nat) : ∀ n, sg (fun i => if i = s then f i else 0) n = if s < n then f s else 0
 | 0 => by simp [sg]
 | n + 1 => by
  rw [sg, sg_single f s n]
  by_cases h : n = s
  ·
   subst h; simp
  ·
   by_cases h2 : s < n
   ·
    rw [if_pos h2, if_neg h, if_pos (by omega)]; rfl
   ·
    rw [if_neg h2, if_neg h, if_neg (by omega)]
theorem vec_getD (n : Nat) (l : PL) (i : Nat) (hi : i < n) : (vecOf n l).getD i 0 = (l.flatMap Prod.snd).count i := by
 rw [vecOf_eq]
 simp [cntV, List.getD, hi]
theorem flat_count_merge (s : Nat) : ∀ a b : PL, ((mergeP a b).flatMap Prod.snd).count s = (a.flatMap Prod.snd).count s + (b.flatMap Prod.snd).count s
 | [], b => by simp [mergeP]
 | c :: cs, [] => by simp [mergeP]
 | c :: cs, p :: ps => by
  rw [mergeP]
  split
  ·
   rw [List.flatMap_cons, List.count_append, flat_count_merge s cs (p :: ps), List.flatMap_cons (x := c), List.count_append]; omega
  ·
   rw [List.flatMap_cons, List.count_append, flat_count_merge s (c :: cs) ps, List.flatMap_cons (x := p), List.count_append]; omega
 termination_by a b => a.length + b.length
theorem flat_count_pairs (s : Nat) : ∀ l : PL, ((pairsP l).flatMap Prod.snd).count s ≤ (l.flatMap Prod.snd).count s
 | [] => by simp [pairsP]
 | [a] => by simp [pairsP]
 | a :: b :: r => by
  have := flat_count_pairs s r
  rw [pairsP, List.flatMap_cons, List.flatMap_cons, List.flatMap_cons]
  simp only [both2, List.count_append]
  omega
theorem flat_count_level (own : PL) (s : Nat) : ∀ k, ((levelP own k).flatMap Prod.snd).count s ≤ (k + 1) * (own.flatMap Prod.snd).count s
 | 0 => by simp [levelP]
 | k + 1 => by
  have ih := flat_count_level own s k
  have h := flat_count_pairs s (levelP own k)
  rw [levelP, flat_count_merge, Nat.succ_mul]
  omega
theorem own_count {cs : List Nat} {own : PL} (h : IsCoins cs own) (s : Nat) : (own.flatMap Prod.snd).count s = if s < cs.length ∧ 0 < cs.getD s 0 then 1 else 0 := by
 have e : (own.flatMap Prod.snd).count s = (own.map fun p => p.2.count s).sum := by
  clear h
  induction own with
  | nil => rfl
  | cons a r ih => rw [List.flatMap_cons, List.count_append, ih, List.map_cons, List.sum_cons]
 rw [e, sum_own h]
 have h2 := sg_single (fun k => if 0 < cs.getD k 0 then 1 else 0) s cs.length
 rw [sg_congr (h := fun i => if i = s then (if 0 < cs.getD i 0 then 1 else 0) else 0) _ (fun k _ => ?_), h2]
 ·
  by_cases h3 : s < cs.length
  ·
   simp [h3]
  ·
   simp [h3]
 ·
  by_cases hk : k = s
  ·
   subst hk; simp
  ·
   simp [hk, List.count_cons]
theorem take_flat_count (l : PL) (s x : Nat) : ((l.take x).flatMap Prod.snd).count s ≤ (l.flatMap Prod.snd).count s := by
 have h : l.flatMap Prod.snd = (l.take x).flatMap Prod.snd ++ (l.drop x).flatMap Prod.snd := by rw [← List.flatMap_append, List.take_append_drop]
 rw [h, List.count_append]
 omega
theorem len_le {cs : List Nat} {own : PL} {m : Nat} (h : IsCoins cs own) (hm : 1 ≤ m) (i : Nat) (hi : i < cs.length) : (lenP cs.length m own).getD i 0 ≤ m ∧ (cs.getD i 0 = 0 → (lenP cs.length m own).getD i 0 = 0) := by
 have h1 := own_count h i
 unfold lenP
 split
 ·
  rw [vec_getD _ _ _ hi, h1]
  split
  ·
   rename_i h2; exact ⟨hm, fun h3 => by omega⟩
  ·
   exact ⟨by omega, fun _ => rfl⟩
 ·
  rw [vec_getD _ _ _ hi]
  have h2 := take_flat_count (levelP own (m - 1)) i (2 * own.length - 2)
  have h3 := flat_count_level own i (m - 1)
  rw [show m - 1 + 1 = m by omega] at h3
  rw [h1] at h3
  split at h3
  ·
   rename_i h4; exact ⟨by omega, fun h5 => by omega⟩
  ·
   exact ⟨by omega, fun _ => by omega⟩
end Go.Proofs.Ytnmieihcjjiccaa
namespace Go.Proofs.Ytnmieihcjjiccaa
open Go.RowKit
noncomputable section
open Classical in
def rgt (a b : List Int) (m : Int) (i : Nat) : Prop := (chk b = 0 ∨ chk b = 2) ∧ ∀ k, k < i → b.getD k 0 ≤ m ∧ (0 < b.getD k 0 ∨ a.getD k 0 = 0)
instance (a b : List Int) (m : Int) (i : Nat) : Decidable (rgt a b m i) := Classical.propDecidable _
end
theorem sumK_sg (l : List Int) : ∀ i, i ≤ l.length → sumK (l.take i) = sg (fun k => if 0 < (l.getD k 0).toNat then 2 ^ (15 - (l.getD k 0).toNat) else 0) i
 | 0, _ => by simp [sumK, sg]
 | i + 1, h => by
  rw [sumK_take l i (by omega), sumK_sg l i (by omega), sg]
  have e : l.getD i 0 = l[i] := by simp [List.getD, List.getElem?_eq_getElem (show i < l.length by omega)]
  rw [e]
  by_cases h2 : 0 < l[i]
  ·
   rw [if_pos h2, if_pos (by omega)]
  ·
   rw [if_neg h2, if_neg (by omega)]
end Go.Proofs.Ytnmieihcjjiccaa
namespace Go.Proofs.Ytnmieihcjjiccaa
open Go.RowKit
theorem merge_pre : ∀ (A B : PL) (x : Nat), SortP A → SortP B → x ≤ A.length + B.length → ∃ a p, a + p = x ∧ a ≤ A.length ∧ p ≤ B.length ∧ ((mergeP A B).take x).Perm (A.take a ++ B.take p) ∧ ∀ i j (hi : i < A.length) (hj : j < B.length), j < p → A[i].1 ≤ B[j].1 → i < a
 | [], B, x, _, _, h => ⟨0, x, by omega, by simp, by simpa using h, by simp [mergeP], fun i j hi => by simp at hi⟩
 | c :: cs, [], x, _, _, h => ⟨x, 0, by omega, by simpa using h, by simp, by simp [mergeP], fun i j hi hj => by simp at hj⟩
 | c :: cs, p0 :: ps, 0, _, _, h => ⟨0, 0, rfl, by omega, by omega, by simp, fun i j hi hj h2 => by omega⟩
 | c :: cs, p0 :: ps, x + 1, hA, hB, h => by
  have h1 := List.pairwise_cons.1 hA
  have h2 := List.pairwise_cons.1 hB
  rw [mergeP]
  by_cases hc : c.1 ≤ p0.1
  ·
   obtain ⟨a, p, e, ha, hp, hperm, hb⟩ := merge_pre cs (p0 :: ps) x h1.2 hB (by simp at h ⊢; omega)
   rw [if_pos hc]
   refine ⟨a + 1, p, by omega, by simpa using ha, hp, ?_, ?_⟩
   ·
    rw [List.take_succ_cons, List.take_succ_cons, List.cons_append]
    exact hperm.cons c
   ·
    intro i j hi hj hjp hle
    cases i with
    | zero => omega
    | succ i =>
     have := hb i j (by simpa using hi) hj hjp hle
     omega
  ·
   obtain ⟨a, p, e, ha, hp, hperm, hb⟩ := merge_pre (c :: cs) ps x hA h2.2 (by simp at h ⊢; omega)
   rw [if_neg hc]
   refine ⟨a, p + 1, by omega, ha, by simpa using hp, ?_, ?_⟩
   ·
    rw [List.take_succ_cons, List.take_succ_cons]
    exact (hperm.cons p0).trans List.perm_middle.symm
   ·
    intro i j hi hj hjp hle
    cases j with
    | zero =>
     exfalso
     have h3 : c.1 ≤ ((c :: cs)[i]).1 := by
      cases i with
      | zero => exact Nat.le_refl _
      | succ i => exact h1.1 _ (List.getElem_mem _)
     simp only [List.getElem_cons_zero] at hle
     omega
    | succ j => exact hb i j hi (by simpa using hj) (by omega) hle
 termination_by A B => A.length + B.length
theorem pair_ge : ∀ (L : PL) (q : Nat) (hq : q < L.length) (h : q / 2 < (pairsP L).length), L[q].1 ≤ ((pairsP L)[q / 2]).1
 | [], q, hq, _ => by simp at hq
 | [a], q, _, h => by simp [pairsP] at h
 | a :: b :: r, 0, _, _ => by simp [pairsP, both2]
 | a :: b :: r, 1, _, _ => by simp [pairsP, both2]
 | a :: b :: r, q + 2, hq, h => by
  have e : (q + 2) / 2 = q / 2 + 1 := by omega
  have h2 : q / 2 < (pairsP r).length := by simp only [pairsP, List.length_cons, e] at h; omega
  have := pair_ge r q (by simpa using hq) h2
  simp only [List.getElem_cons_succ, pairsP, e]
  exact this
theorem pairs_flat : ∀ (L : PL) (p : Nat), 2 * p ≤ L.length → ((pairsP L).take p).flatMap Prod.snd = (L.take (2 * p)).flatMap Prod.snd
 | L, 0, _ => by simp
 | [], p + 1, h => by simp at h
 | [a], p + 1, h => by simp at h; omega
 | a :: b :: r, p + 1, h => by
  have ih := pairs_flat r p (by simp at h; omega)
  rw [pairsP, List.take_succ_cons, List.flatMap_cons, ih, show 2 * (p + 1) = (2 * p) + 1 + 1 by omega, List.take_succ_cons, List.take_succ_cons, List.flatMap_cons, List.flatMap_cons]
  simp [both2]
theorem mem_take_of {l : PL} {i x : Nat} (hi : i < l.length) (h : i < x) : l[i] ∈ l.take x := by
 have : (l.take x)[i]'(by simp; omega) = l[i] := by simp
 rw [← this]
 exact List.getElem_mem _
theorem level_pre {own : PL} (hs : SortP own) : ∀ k x, x ≤ (levelP own k).length → ∃ a : Nat → Nat, (∀ j, j ≤ k → a j ≤ own.length) ∧ (∀ j, j < k → a j ≤ a (j + 1)) ∧ x * 2 ^ k = sg (fun j => a j * 2 ^ j) (k + 1) ∧
  (∀ s, (((levelP own k).take x).flatMap Prod.snd).count s = sg (fun j => ((own.take (a j)).flatMap Prod.snd).count s) (k + 1)) ∧ ∀ i (hi : i < own.length), i < a k → own[i] ∈ (levelP own k).take x
 | 0, x, h => ⟨fun _ => x, fun _ _ => h, fun _ _ => Nat.le_refl _, by simp [sg], fun s => by simp [sg, levelP], fun i hi hx => mem_take_of hi hx⟩
 | k + 1, x, h => by
  have hsl := sort_level own hs k
  have hsp := sort_pairs _ hsl
  rw [levelP, len_merge] at h
  obtain ⟨a', p, e, ha, hp, hperm, hb⟩ := merge_pre own (pairsP (levelP own k)) x hs hsp h
  have hpl := pairsP_len (levelP own k)
  have h2p : 2 * p ≤ (levelP own k).length := by omega
  obtain ⟨a, h1, h2, h3, h4, h5⟩ := level_pre hs k (2 * p) h2p
  have hmono : a k ≤ a' := by
   refine Nat.le_of_not_lt fun hlt => ?_
   have hi : a' < own.length := Nat.lt_of_lt_of_le hlt (h1 k (Nat.le_refl _))
   obtain ⟨q, hq, hqe⟩ := List.getElem_of_mem (h5 a' hi hlt)
   rw [List.length_take] at hq
   have hq2 : q / 2 < (pairsP (levelP own k)).length := by omega
   have h6 := pair_ge (levelP own k) q (by omega) hq2
   rw [List.getElem_take] at hqe
   rw [hqe] at h6
   have := hb a' (q / 2) hi hq2 (by omega) h6
   omega
  have hc : ∀ (f : Nat → Nat → Nat), sg (fun j => f (if j ≤ k then a j else a') j) (k + 1) = sg (fun j => f (a j) j) (k + 1) := fun f => sg_congr _ (fun j hj => by rw [if_pos (by omega)])
  refine ⟨fun j => if j ≤ k then a j else a', ?_, ?_, ?_, ?_, ?_⟩
  ·
   intro j hj
   dsimp only
   split
   ·
    exact h1 j (by assumption)
   ·
    exact ha
  ·
   intro j hj
   dsimp only
   rw [if_pos (by omega)]
   by_cases hjk : j = k
   ·
    subst hjk; rw [if_neg (by omega)]; exact hmono
   ·
    rw [if_pos (by omega)]; exact h2 j (by omega)
  ·
   rw [sg, hc (fun y j => y * 2 ^ j), ← h3]
   dsimp only
   rw [if_neg (by omega), ← e, Nat.add_mul, Nat.pow_succ, Nat.mul_comm 2 p, Nat.mul_assoc p 2, Nat.mul_comm 2 (2 ^ k)]
   omega
  ·
   intro s
   rw [sg, hc (fun y j => ((own.take y).flatMap Prod.snd).count s), ← h4 s, ← pairs_flat _ _ h2p, levelP]
   dsimp only
   rw [if_neg (by omega), (hperm.flatMap_right _).count_eq, List.flatMap_append, List.count_append]
   omega
  ·
   intro i hi hia
   dsimp only at hia
   rw [if_neg (by omega)] at hia
   rw [levelP]
   exact hperm.mem_iff.2 (List.mem_append_left _ (mem_take_of hi hia))
theorem mono_le {a : Nat → Nat} {k : Nat} (h : ∀ j, j < k → a j ≤ a (j + 1)) : ∀ d j, j + d = k → a j ≤ a k
 | 0, j, e => by subst e; exact Nat.le_refl _
 | d + 1, j, e => Nat.le_trans (h j (by omega)) (mono_le h d (j + 1) (by omega))
theorem kraft1 (a : Nat → Nat) (i : Nat) : ∀ k, (∀ j, j < k → a j ≤ a (j + 1)) → sg (fun j => if i < a j then 1 else 0) (k + 1) ≤ k + 1 ∧ sg (fun j => if i < a j then 2 ^ j else 0) (k + 1) + 2 ^ (k + 1 - sg (fun j => if i < a j then 1 else 0) (k + 1)) = 2 ^ (k + 1)
 | 0, _ => by
  by_cases h : i < a 0
  ·
   simp [sg, h]
  ·
   simp [sg, h]
 | k + 1, hm => by
  obtain ⟨h1, h2⟩ := kraft1 a i k (fun j hj => hm j (by omega))
  have e1 : ∀ f : Nat → Nat, sg f (k + 1 + 1) = sg f (k + 1) + f (k + 1) := fun _ => rfl
  rw [e1, e1]
  by_cases h : i < a (k + 1)
  ·
   rw [if_pos h, if_pos h]
   refine ⟨by omega, ?_⟩
   have h3 : 2 ^ (k + 1 + 1) = 2 ^ (k + 1) * 2 := Nat.pow_succ ..
   rw [show k + 1 + 1 - (sg (fun j => if i < a j then 1 else 0) (k + 1) + 1) = k + 1 - sg (fun j => if i < a j then 1 else 0) (k + 1) by omega]
   omega
  ·
   have h4 : ∀ j, j < k + 1 → ¬ i < a j := fun j hj h5 => h (Nat.lt_of_lt_of_le h5 (mono_le hm (k + 1 - j) j (by omega)))
   have h5 : sg (fun j => if i < a j then 1 else 0) (k + 1) = 0 := by rw [sg_congr (h := fun _ => 0) _ (fun j hj => if_neg (h4 j hj)), sg_zero]
   have h6 : sg (fun j => if i < a j then 2 ^ j else 0) (k + 1) = 0 := by rw [sg_congr (h := fun _ => 0) _ (fun j hj => if_neg (h4 j hj)), sg_zero]
   rw [if_neg h, if_neg h, h5, h6]
   simp
theorem map_sum_sg (g : Nat × List Nat → Nat) (l : PL) : ∀ i, i ≤ l.length → ((l.take i).map g).sum = sg (fun k => g (l.getD k (0, []))) i
 | 0, _ => rfl
 | i + 1, h => by
  rw [List.take_add_one, List.getElem?_eq_getElem (show i < l.length by omega), List.map_append, List.sum_append, map_sum_sg g l i (by omega), sg]
  simp [List.getD, List.getElem?_eq_getElem (show i < l.length by omega)]
theorem sg_ge (f : Nat → Nat) (i : Nat) : ∀ n, i < n → (∀ k, k < n → 1 ≤ f k) → f i + (n - 1) ≤ sg f n
 | 0, h, _ => by omega
 | n + 1, h, h1 => by
  rw [sg]
  have h2 := h1 n (by omega)
  by_cases e : i = n
  ·
   subst e
   have : ∀ m, m ≤ i → m ≤ sg f m := fun m => by
    induction m with
    | zero => intro _; omega
    | succ m ih =>
     intro hm
     have := ih (by omega)
     have := h1 m (by omega)
     rw [sg]; omega
   have := this i (Nat.le_refl _)
   omega
  ·
   have := sg_ge f i n (by omega) (fun k hk => h1 k (by omega))
   omega
theorem take_own_count {cs : List Nat} {own : PL} (h : IsCoins cs own) (i b : Nat) (hi : i < own.length) : ((own.take b).flatMap Prod.snd).count (own[i].2.headD 0) = if i < b then 1 else 0 := by
 obtain ⟨k, hk, hk0, he⟩ := coinsTo_mem (h.1.mem_iff.1 (List.getElem_mem hi))
 have hsy : own[i].2 = [k] := by rw [he]
 rw [hsy, List.headD_cons]
 have h1 := own_count h k
 rw [if_pos ⟨hk, hk0⟩] at h1
 have hsplit : own = own.take i ++ own[i] :: own.drop (i + 1) := by rw [← List.drop_eq_getElem_cons hi, List.take_append_drop]
 have h2 : ((own.take i).flatMap Prod.snd).count k + (1 + ((own.drop (i + 1)).flatMap Prod.snd).count k) = (own.flatMap Prod.snd).count k := by
  conv => rhs; rw [hsplit]
  rw [List.flatMap_append, List.flatMap_cons, hsy, List.count_append, List.count_append]
  simp
 rw [h1] at h2
 by_cases hb : i < b
 ·
  rw [if_pos hb]
  have h3 := take_flat_count own k b
  have h4 : own.take b = own.take i ++ own[i] :: (own.drop (i + 1)).take (b - (i + 1)) := by
   conv => lhs; rw [hsplit]
   rw [List.take_append, List.length_take, Nat.min_eq_left (by omega), List.take_of_length_le (by simp; omega), show b - i = (b - (i + 1)) + 1 by omega, List.take_succ_cons]
  rw [h4, List.flatMap_append, List.flatMap_cons, hsy, List.count_append, List.count_append]
  rw [h4, List.flatMap_append, List.flatMap_cons, hsy, List.count_append, List.count_append] at h3
  simp at h3 ⊢
  omega
 ·
  rw [if_neg hb]
  have h4 : own.take b = (own.take i).take b := by rw [List.take_take, Nat.min_eq_left (by omega)]
  have h3 := take_flat_count (own.take i) k b
  rw [h4]
  omega
theorem whole10 {cs : List Nat} {own : PL} {m : Nat} (hco : IsCoins cs own) (hn : cs.length ≤ 320) (hm1 : 1 ≤ m) (hm15 : m ≤ 15) (hfit : own.length ≤ 2 ^ m) :
  (∀ i, i < cs.length → ((lenP cs.length m own).getD i 0 = 0 ↔ cs.getD i 0 = 0)) ∧ sg (fun k => if 0 < (lenP cs.length m own).getD k 0 then 2 ^ (15 - (lenP cs.length m own).getD k 0) else 0) cs.length = if 2 ≤ own.length then 32768 else own.length * 16384 := by
 have hone : ∀ c : Nat, (own.map fun _ => c).sum = own.length * c := by
  intro c
  generalize own = l
  induction l with
  | nil => simp
  | cons a r ih => rw [List.map_cons, List.sum_cons, ih, List.length_cons, Nat.succ_mul]; omega
 by_cases h1 : own.length ≤ 1
 ·
  have hR : ∀ i, i < cs.length → (lenP cs.length m own).getD i 0 = if 0 < cs.getD i 0 then 1 else 0 := by
   intro i hi
   unfold lenP
   rw [if_pos h1, vec_getD _ _ _ hi, own_count hco]
   by_cases h2 : 0 < cs.getD i 0
   ·
    rw [if_pos ⟨hi, h2⟩, if_pos h2]
   ·
    rw [if_neg (fun h => h2 h.2), if_neg h2]
  refine ⟨fun i hi => ?_, ?_⟩
  ·
   rw [hR i hi]
   by_cases h2 : 0 < cs.getD i 0
   ·
    rw [if_pos h2]; omega
   ·
    rw [if_neg h2]; omega
  ·
   rw [if_neg (by omega), ← hone, sum_own hco]
   refine sg_congr _ (fun i hi => ?_)
   rw [hR i hi]
   by_cases h2 : 0 < cs.getD i 0
   ·
    rw [if_pos h2, if_pos h2, if_pos (by omega)]
   ·
    rw [if_neg h2, if_neg h2, if_neg (by omega)]
 ·
  obtain ⟨q, rfl⟩ : ∃ q, m = q + 1 := ⟨m - 1, by omega⟩
  have hen := level_enough own q hfit
  obtain ⟨a, ha1, ha2, ha3, ha4, _⟩ := level_pre (sort_coins hco hn) q (2 * own.length - 2) hen
  have hL : ∀ i (hi : i < own.length), (lenP cs.length (q + 1) own).getD (own[i].2.headD 0) 0 = sg (fun j => if i < a j then 1 else 0) (q + 1) := by
   intro i hi
   obtain ⟨k, hk, hk0, he⟩ := coinsTo_mem (hco.1.mem_iff.1 (List.getElem_mem hi))
   unfold lenP
   rw [if_neg h1, Nat.add_sub_cancel, vec_getD _ _ _ (by rw [he]; exact hk), ha4]
   exact sg_congr _ (fun j _ => take_own_count hco i (a j) hi)
  have hsum : sg (fun i => 2 ^ (q + 1 - sg (fun j => if i < a j then 1 else 0) (q + 1))) own.length = 2 ^ (q + 1) := by
   have e1 : sg (fun i => sg (fun j => if i < a j then 2 ^ j else 0) (q + 1)) own.length = (2 * own.length - 2) * 2 ^ q := by
    rw [sg_swap, ha3]
    refine sg_congr _ (fun j hj => ?_)
    have e2 : sg (fun i => (if i < a j then 1 else 0) * 2 ^ j) own.length = a j * 2 ^ j := by rw [sg_mul, sg_lt _ _ (ha1 j (by omega))]
    rw [← e2]
    exact sg_congr _ (fun i _ => by split <;> simp)
   have e3 : sg (fun i => sg (fun j => if i < a j then 2 ^ j else 0) (q + 1) + 2 ^ (q + 1 - sg (fun j => if i < a j then 1 else 0) (q + 1))) own.length = own.length * 2 ^ (q + 1) := by
    rw [sg_congr (h := fun _ => 2 ^ (q + 1)) _ (fun i _ => (kraft1 a i q ha2).2)]
    generalize own.length = z
    induction z with
    | zero => simp [sg]
    | succ z ih => rw [sg, ih, Nat.succ_mul]
   rw [sg_add, e1] at e3
   have e4 : (2 * own.length - 2) * 2 ^ q = own.length * 2 ^ (q + 1) - 2 ^ (q + 1) := by
    have h3 : 2 ^ (q + 1) = 2 ^ q * 2 := Nat.pow_succ ..
    rw [h3, Nat.sub_mul, Nat.mul_comm 2 own.length, Nat.mul_assoc, Nat.mul_comm (2 ^ q) 2]
   have e5 : 2 ^ (q + 1) ≤ own.length * 2 ^ (q + 1) := Nat.le_mul_of_pos_left _ (by omega)
   omega
  have hpos : ∀ i, i < own.length → 0 < sg (fun j => if i < a j then 1 else 0) (q + 1) := by
   intro i hi
   refine Nat.pos_of_ne_zero fun h0 => ?_
   have h2 := sg_ge (fun i => 2 ^ (q + 1 - sg (fun j => if i < a j then 1 else 0) (q + 1))) i own.length hi (fun k _ => Nat.pow_pos (by omega))
   rw [hsum] at h2
   rw [h0, Nat.sub_zero] at h2
   omega
  have hcome : ∀ s, s < cs.length → 0 < cs.getD s 0 → ∃ i, ∃ hi : i < own.length, own[i].2.headD 0 = s := by
   intro s hs hs0
   have hmem : (cs.getD s 0, [s]) ∈ own := by
    refine hco.1.mem_iff.2 ?_
    unfold coinsTo
    exact List.mem_map.2 ⟨s, List.mem_filter.2 ⟨List.mem_range.2 hs, by simpa using hs0⟩, rfl⟩
   obtain ⟨i, hi, he⟩ := List.getElem_of_mem hmem
   exact ⟨i, hi, by rw [he]; rfl⟩
  have hz : ∀ i, i < cs.length → ((lenP cs.length (q + 1) own).getD i 0 = 0 ↔ cs.getD i 0 = 0) := by
   intro s hs
   refine ⟨fun h => ?_, (len_le hco hm1 s hs).2⟩
   refine Classical.byContradiction fun h2 => ?_
   obtain ⟨i, hi, he⟩ := hcome s hs (by omega)
   have h3 := hL i hi
   rw [he, h] at h3
   have := hpos i hi
   omega
  refine ⟨hz, ?_⟩
  rw [if_pos (by omega)]
  have e6 : sg (fun k => if 0 < (lenP cs.length (q + 1) own).getD k 0 then 2 ^ (15 - (lenP cs.length (q + 1) own).getD k 0) else 0) cs.length = (own.map fun c => 2 ^ (15 - (lenP cs.length (q + 1) own).getD (c.2.headD 0) 0)).sum := by
   rw [sum_own hco]
   refine sg_congr _ (fun k hk => ?_)
   have h2 := hz k hk
   by_cases h3 : 0 < cs.getD k 0
   ·
    rw [if_pos h3, if_pos (by omega)]; rfl
   ·
    rw [if_neg h3, if_neg (by omega)]
  rw [e6]
  have e7 := map_sum_sg (fun c => 2 ^ (15 - (lenP cs.length (q + 1) own).getD (c.2.headD 0) 0)) own own.length (Nat.le_refl _)
  rw [List.take_length] at e7
  rw [e7]
  have e8 : sg (fun k => 2 ^ (15 - (lenP cs.length (q + 1) own).getD ((own.getD k (0, [])).2.headD 0) 0)) own.length = sg (fun i => 2 ^ (q + 1 - sg (fun j => if i < a j then 1 else 0) (q + 1)) * 2 ^ (15 - (q + 1))) own.length := by
   refine sg_congr _ (fun i hi => ?_)
   have h2 : own.getD i (0, []) = own[i] := by simp [List.getD, List.getElem?_eq_getElem hi]
   have h3 := (kraft1 a i q ha2).1
   rw [h2, hL i hi, ← Nat.pow_add]
   congr 1
   omega
  rw [e8, sg_mul, hsum, ← Nat.pow_add, show q + 1 + (15 - (q + 1)) = 15 by omega]
end Go.Proofs.Ytnmieihcjjiccaa
namespace Go.Proofs.Ytnmieihcjjiccaa
open Go.RowKit
def toZ (l : List Nat) : List Int := l.map fun x : Nat => (x : Int)
theorem toZ_len (l : List Nat) : (toZ l).length = l.length := by simp [toZ]
theorem toZ_IB (l : List Nat) : NI l = IB (toZ l) := NI_IB l
theorem toZ_nat (l : List Nat) : (toZ l).map Int.toNat = l := by simp [toZ, Function.comp_def]
theorem toZ_getD (l : List Nat) (i : Nat) : (toZ l).getD i 0 = ((l.getD i 0 : Nat) : Int) := by
 simp only [toZ, List.getD, List.getElem?_map]
 cases l[i]? <;> simp
noncomputable section
open Classical in
def coinsM (cs : List Nat) : PL := if h : ∃ own, IsCoins cs own then h.choose else []
def lenM (cs : List Nat) (m : Nat) : List Nat := lenP cs.length m (coinsM cs)
end
theorem coinsM_eq {cs : List Nat} {own : PL} (h : IsCoins cs own) : coinsM cs = own := by
 have h1 : ∃ own, IsCoins cs own := ⟨own, h⟩
 unfold coinsM
 rw [dif_pos h1]
 exact coins_unique h1.choose_spec h
theorem lenM_len (cs : List Nat) (m : Nat) : (lenM cs m).length = cs.length := lenP_len _ _ _
theorem coins_le {cs : List Nat} {own : PL} (h : IsCoins cs own) : own.length ≤ cs.length := by
 rw [h.1.length_eq]
 unfold coinsTo
 rw [List.length_map]
 exact Nat.le_trans (List.length_filter_le _ _) (by simp)
structure LenOk (cs ls : List Nat) (m : Nat) : Prop where
 len : ls.length = cs.length
 ok : LOk (toZ ls)
 most : ∀ i, ls.getD i 0 ≤ m
 come : ∀ i, i < cs.length → (ls.getD i 0 = 0 ↔ cs.getD i 0 = 0)
theorem lenM_ok {cs : List Nat} {own : PL} {m : Nat} (h : IsCoins cs own) (hl : cs.length ≤ 320) (hm1 : 1 ≤ m) (hm2 : m ≤ 15) (hf : cs.length ≤ 2 ^ m) : LenOk cs (lenM cs m) m := by
 have hfit : own.length ≤ 2 ^ m := Nat.le_trans (coins_le h) hf
 obtain ⟨h1, h2⟩ := whole10 h hl hm1 hm2 hfit
 have hE : lenM cs m = lenP cs.length m own := by unfold lenM; rw [coinsM_eq h]
 have hlen := lenM_len cs m
 have hle : ∀ i, (lenM cs m).getD i 0 ≤ m := fun i => by
  by_cases hi : i < cs.length
  ·
   rw [hE]; exact (len_le h hm1 i hi).1
  ·
   rw [List.getD_eq_getElem?_getD, List.getElem?_eq_none (by omega)]
   exact Nat.zero_le _
 have hr : ∀ x ∈ toZ (lenM cs m), 0 ≤ x ∧ x ≤ 15 := fun x hx => by
  obtain ⟨y, hy, rfl⟩ := List.mem_map.1 hx
  obtain ⟨i, hi, rfl⟩ := List.getElem_of_mem hy
  have := hle i
  rw [List.getD_eq_getElem?_getD, List.getElem?_eq_getElem hi, Option.getD_some] at this
  omega
 refine ⟨hlen, ⟨⟨by rw [toZ_len]; omega, hr⟩, ?_⟩, hle, fun i hi => by rw [hE]; exact h1 i hi⟩
 rw [sumK_eq _ hr]
 have h3 := sumK_sg (toZ (lenM cs m)) _ (Nat.le_refl _)
 rw [List.take_length] at h3
 rw [h3, toZ_len, hlen, sg_congr (h := fun k => if 0 < (lenP cs.length m own).getD k 0 then 2 ^ (15 - (lenP cs.length m own).getD k 0) else 0) _ (fun k _ => by rw [toZ_getD, Int.toNat_natCast, hE]), h2]
 split
 ·
  exact Nat.le_refl _
 ·
  have : own.length ≤ 1 := by omega
  omega
theorem lens_ok (A : Option Addr) (c0 : Nat) (cs : List Nat) (m : Nat) (w : World) (hl : cs.length ≤ 320) (hb : ∀ x ∈ cs, x ≤ 2147483647) (hm1 : 1 ≤ m) (hm2 : m ≤ 15) (hf : cs.length ≤ 2 ^ m) (hr : Rd w 1 A cs.length (NI cs)) :
  Calls Try.prog 25 #[.slice A cs.length c0, .int .i64 ((m : Nat) : Int)] w fun e w' => ∃ B c, e = .returned (.tuple #[.slice B cs.length c, .int .i64 ((0 : Nat) : Int)]) ∧ Own w' 3 1 B cs.length c (NI (lenM cs m)) ∧ Frm [] w w' ∧ (∀ x ∈ ob B, w.heap.size ≤ x) ∧ LenOk cs (lenM cs m) m := by
 have h1 := lengths_spec A c0 (toZ cs) m w (by rw [toZ_len]; omega) (by rw [toZ_len, ← toZ_IB]; exact hr)
 rw [toZ_len, toZ_nat] at h1
 refine h1.mono ?_
 rintro e w' ⟨hfr, h2⟩
 have hmay : mayB (toZ cs) := ⟨by rw [toZ_len]; exact hl, fun x hx => by
  obtain ⟨y, hy, rfl⟩ := List.mem_map.1 hx
  have := hb y hy
  omega⟩
 rw [if_neg (by rintro (h | h | h); exact h hmay; omega; omega)] at h2
 obtain ⟨own, hco, h2⟩ := h2
 rw [Int.toNat_natCast, if_neg (by have := coins_le hco; omega)] at h2
 obtain ⟨B, c, he, ho, hn⟩ := h2
 have hE : lenM cs m = lenP cs.length m own := by unfold lenM; rw [coinsM_eq hco]
 exact ⟨B, c, he, by rw [hE]; exact ho, hfr, hn, lenM_ok hco hl hm1 hm2 hf⟩
theorem rlens_ok (A : Option Addr) (c0 : Nat) (cs : List Nat) (m : Nat) (w : World) (hl : cs.length ≤ 320) (hb : ∀ x ∈ cs, x ≤ 2147483647) (hm1 : 1 ≤ m) (hm2 : m ≤ 15) (hf : cs.length ≤ 2 ^ m) (hr : Rd w 1 A cs.length (NI cs)) :
  Calls Try.prog 40 #[.slice A cs.length c0, .int .i64 ((m : Nat) : Int)] w fun e w' => ∃ B c, e = .returned (.tuple #[.slice B cs.length c, .int .i64 ((0 : Nat) : Int)]) ∧ Own w' 3 1 B cs.length c (NI (lenM cs m)) ∧ Frm [] w w' ∧ LenOk cs (lenM cs m) m := by
 have h1 := refLengths_spec A c0 (toZ cs) m w (by rw [toZ_len]; omega) (by rw [toZ_len, ← toZ_IB]; exact hr)
 rw [toZ_len, toZ_nat] at h1
 refine h1.mono ?_
 rintro e w' ⟨hfr, h2⟩
 have hmay : mayB (toZ cs) := ⟨by rw [toZ_len]; exact hl, fun x hx => by
  obtain ⟨y, hy, rfl⟩ := List.mem_map.1 hx
  have := hb y hy
  omega⟩
 rw [if_neg (by rintro (h | h | h); exact h hmay; omega; omega)] at h2
 obtain ⟨own, hco, h2⟩ := h2
 rw [Int.toNat_natCast, if_neg (by have := coins_le hco; omega)] at h2
 obtain ⟨B, c, he, ho⟩ := h2
 have hE : lenM cs m = lenP cs.length m own := by unfold lenM; rw [coinsM_eq hco]
 exact ⟨B, c, he, by rw [hE]; exact ho, hfr, lenM_ok hco hl hm1 hm2 hf⟩
def SdOk (t : Sd) : Prop := t.1 < 19 ∧ t.2.1 ≤ 7 ∧ t.2.2 < 2 ^ t.2.1
theorem sayAt_ok {l : List Nat} (h : ∀ i, l.getD i 0 ≤ 15) (a : Nat) : SdOk (sayAt l a).1 := by
 have h1 := h a
 unfold sayAt SdOk
 split
 ·
  dsimp only; omega
 ·
  split
  ·
   dsimp only; omega
  ·
   split
   ·
    dsimp only; omega
   ·
    dsimp only; omega
theorem sayF_ok {l : List Nat} (h : ∀ i, l.getD i 0 ≤ 15) : ∀ m a, ∀ t ∈ sayF l m a, SdOk t
 | 0, _, t, ht => by simp [sayF] at ht
 | m + 1, a, t, ht => by
  unfold sayF at ht
  split at ht
  ·
   cases ht
  ·
   rcases List.mem_cons.1 ht with rfl | ht
   ·
    exact sayAt_ok h a
   ·
    exact sayF_ok h m _ t ht
theorem sayM_ok {l : List Nat} (h : ∀ i, l.getD i 0 ≤ 15) : ∀ t ∈ sayM l 0, SdOk t := sayF_ok h _ _
theorem sayM_len (l : List Nat) : (sayM l 0).length ≤ l.length := sayF_len l _ _
def timeStep (c : List Nat) (t : Sd) : List Nat := c.set t.1 (c.getD t.1 0 + 1)
def timesC (l : List Sd) : List Nat := l.foldl timeStep (rep 19)
theorem timesC_snoc (l : List Sd) (t : Sd) : timesC (l ++ [t]) = timeStep (timesC l) t := by unfold timesC; rw [List.foldl_append]; rfl
theorem time_fold (l : List Sd) : ∀ c : List Nat, (l.foldl timeStep c).length = c.length := by
 induction l with
 | nil => intro c; rfl
 | cons t r ih => intro c; rw [List.foldl_cons, ih]; unfold timeStep; rw [List.length_set]
theorem timesC_len (l : List Sd) : (timesC l).length = 19 := by unfold timesC; rw [time_fold]; rfl
theorem time_le (l : List Sd) : ∀ (c : List Nat) (n : Nat), (∀ x ∈ c, x ≤ n) → ∀ x ∈ l.foldl timeStep c, x ≤ n + l.length := by
 induction l with
 | nil => intro c n h; exact h
 | cons t r ih =>
  intro c n h x hx
  have := ih _ (n + 1) (set_le h) x hx
  simp only [List.length_cons]
  omega
theorem timesC_le (l : List Sd) : ∀ x ∈ timesC l, x ≤ 0 + l.length := time_le l _ 0 (fun x hx => by rw [List.eq_of_mem_replicate hx]; omega)
noncomputable section
def litsM (bs : List Nat) : List Nat := lenM (litC (toks bs 0)) 15
def waysM (bs : List Nat) : List Nat := lenM (wayC (toks bs 0)) 15
def manyM (bs : List Nat) : List Nat := cutL (litsM bs) 257
def farM (bs : List Nat) : List Nat := cutL (waysM bs) 1
def listM (bs : List Nat) : List Sd := sayM (manyM bs ++ farM bs) 0
def thirdM (bs : List Nat) : List Nat := lenM (timesC (listM bs)) 7
def writM (bs : List Nat) : List Nat := cutL (ordL (thirdM bs)) 4
def sayB (third : List Int) (t : Sd) : List Bool := cbits third t.1 ++ bitsL t.2.2 t.2.1
def dynB (bs : List Nat) : List Bool :=
 bitsL 1 1 ++ bitsL 2 2 ++ bitsL ((manyM bs).length - 257) 5 ++ bitsL ((farM bs).length - 1) 5 ++ bitsL ((writM bs).length - 4) 4 ++ (writM bs).flatMap (fun n => bitsL n 3) ++ (listM bs).flatMap (sayB (toZ (thirdM bs))) ++ toksB (toZ (litsM bs)) (toZ (waysM bs)) (toks bs 0)
end
theorem cutL_bound (l : List Nat) (least : Nat) (h : least ≤ l.length) : least ≤ (cutL l least).length ∧ (cutL l least).length ≤ l.length := by
 rw [cutL_len]
 exact ⟨cutN_ge l least _ h, cutN_le l least _⟩
theorem cutL_getD (l : List Nat) (least n : Nat) (h : ∀ i, l.getD i 0 ≤ n) (i : Nat) : (cutL l least).getD i 0 ≤ n := by
 unfold cutL
 by_cases hi : i < cutN l least l.length
 ·
  rw [List.getD_eq_getElem?_getD, List.getElem?_take_of_lt hi, ← List.getD_eq_getElem?_getD]
  exact h i
 ·
  rw [List.getD_eq_getElem?_getD, List.getElem?_take_eq_none (by omega)]
  exact Nat.zero_le _
theorem append_getD (a b : List Nat) (n : Nat) (ha : ∀ i, a.getD i 0 ≤ n) (hb : ∀ i, b.getD i 0 ≤ n) (i : Nat) : (a ++ b).getD i 0 ≤ n := by
 rw [List.getD_eq_getElem?_getD, List.getElem?_append]
 split
 ·
  rw [← List.getD_eq_getElem?_getD]; exact ha i
 ·
  rw [← List.getD_eq_getElem?_getD]; exact hb _
theorem ordL_len (l : List Nat) : (ordL l).length = 19 := by unfold ordL; rw [List.length_map]; rfl
theorem ordL_getD (l : List Nat) (n : Nat) (h : ∀ i, l.getD i 0 ≤ n) (i : Nat) : (ordL l).getD i 0 ≤ n := by
 unfold ordL
 rw [List.getD_eq_getElem?_getD, List.getElem?_map]
 cases orderT[i]? with
 | none => exact Nat.zero_le _
 | some s => exact h s
theorem say_flat {third : List Int} (h3 : LOk third) (hl : 19 ≤ third.length) : ∀ L : List Sd, (∀ t ∈ L, SdOk t) → (L.flatMap (sayB third)).length ≤ 22 * L.length
 | [], _ => by simp
 | t :: L, h => by
  have h1 := say_flat h3 hl L (fun t ht => h t (List.mem_cons_of_mem _ ht))
  obtain ⟨h4, h5, _⟩ := h t List.mem_cons_self
  have h2 := cbits_len h3.1 h3.2 (show t.1 < third.length by omega)
  have h6 : (sayB third t).length = (cbits third t.1).length + t.2.1 := by unfold sayB; rw [List.length_append, bitsL_len]
  rw [List.flatMap_cons, List.length_append, List.length_cons]
  omega
theorem flat_three : ∀ L : List Nat, (L.flatMap fun n => bitsL n 3).length = 3 * L.length
 | [] => by simp
 | a :: L => by rw [List.flatMap_cons, List.length_append, flat_three L, bitsL_len, List.length_cons]; omega
end Go.Proofs.Ytnmieihcjjiccaa
namespace Go.Proofs.Ytnmieihcjjiccaa
open Go.RowKit
structure Sm {α : Type} (L' L : List Bool) (m' m : Nat) (pos len : α → Nat) (p o : Nat) (X Y : Except Nat α) : Prop where
 low : ∀ x, Y = .ok x → p ≤ pos x ∧ pos x ≤ L.length ∧ o ≤ len x
 sim : p ≤ L'.length → (X = Y ∧ ∀ x, Y = .ok x → pos x ≤ L'.length) ∨ (L' ≠ L ∧ X = .error 2 ∧ ∀ x, Y = .ok x → L'.length < pos x) ∨ (m' ≠ m ∧ X = .error 13 ∧ ∀ x, Y = .ok x → m' < len x)
section
variable {α β : Type} {L' L : List Bool} {m' m : Nat}
theorem Sm.bind {pos len : α → Nat} {pos2 len2 : β → Nat} {p o : Nat} {X Y : Except Nat α} {f g : α → Except Nat β} (h : Sm L' L m' m pos len p o X Y)
  (hf : ∀ x, Y = .ok x → p ≤ pos x → pos x ≤ L.length → o ≤ len x → Sm L' L m' m pos2 len2 (pos x) (len x) (f x) (g x)) : Sm L' L m' m pos2 len2 p o (bnd X f) (bnd Y g) := by
 refine ⟨?_, fun hp => ?_⟩
 ·
  intro y hy
  cases hY : Y with
  | error k => rw [hY] at hy; cases hy
  | ok x =>
   rw [hY, bnd_k] at hy
   obtain ⟨h1, h2, h3⟩ := h.low x hY
   obtain ⟨h4, h5, h6⟩ := (hf x hY h1 h2 h3).low y hy
   exact ⟨by omega, h5, by omega⟩
 ·
  rcases h.sim hp with ⟨h1, h0⟩ | ⟨h1, h2, h3⟩ | ⟨h1, h2, h3⟩
  ·
   subst h1
   cases hY : X with
   | error k => exact .inl ⟨rfl, by intro x h; cases h⟩
   | ok x =>
    obtain ⟨h1, h2, h3⟩ := h.low x hY
    exact (hf x hY h1 h2 h3).sim (h0 x hY)
  ·
   subst h2
   refine .inr (.inl ⟨h1, rfl, fun y hy => ?_⟩)
   cases hY : Y with
   | error k => rw [hY] at hy; cases hy
   | ok x =>
    rw [hY, bnd_k] at hy
    obtain ⟨h4, h5, h6⟩ := h.low x hY
    have := (hf x hY h4 h5 h6).low y hy
    have := h3 x hY
    omega
  ·
   subst h2
   refine .inr (.inr ⟨h1, rfl, fun y hy => ?_⟩)
   cases hY : Y with
   | error k => rw [hY] at hy; cases hy
   | ok x =>
    rw [hY, bnd_k] at hy
    obtain ⟨h4, h5, h6⟩ := h.low x hY
    have := (hf x hY h4 h5 h6).low y hy
    have := h3 x hY
    omega
end
section
variable {L' L : List Bool} {m' m : Nat}
end
section
variable {L' L : List Bool} {m' m : Nat} (hL : L' <+: L)
include hL
end
section
variable {bs' bs : List Nat} {m' m : Nat} (hb : bs' <+: bs) (hm : m' ≤ m)
include hb hm
end
structure NZ {α : Type} (X : Except Nat α) : Prop where
 ne : X ≠ .error 0
theorem NZ.bnd {α β : Type} {X : Except Nat α} {f : α → Except Nat β} (h : NZ X) (hf : ∀ x, NZ (f x)) : NZ (bnd X f) := by
 cases X with
 | error k => exact ⟨fun e => h.ne (by injection e with e; rw [e])⟩
 | ok x => exact hf x
theorem NZ.ok {α : Type} (x : α) : NZ (.ok x : Except Nat α) := ⟨by intro h; cases h⟩
end Go.Proofs.Ytnmieihcjjiccaa
namespace Go.Proofs.Ytnmieihcjjiccaa
open Go.RowKit
def encB (h : Nat) (x : List Nat) : List Nat := [h, x.length % 256, x.length / 256, 255 - x.length % 256, 255 - x.length / 256] ++ x
theorem bits01 {h : Nat} (hh : h < 2) : bitsL h 8 = [decide (h = 1)] ++ [false, false] ++ [false, false, false, false, false] := by
 rcases (by omega : h = 0 ∨ h = 1) with rfl | rfl <;> rfl
theorem num16 {a b : Nat} (ha : a < 256) (hb : b < 256) : num (bitsL a 8 ++ bitsL b 8) = a + 256 * b := by
 rw [num_append, num_bitsL 8 a ha, num_bitsL 8 b hb, bitsL_len]
end Go.Proofs.Ytnmieihcjjiccaa
namespace Go.Proofs.Ytnmieihcjjiccaa
open Go.RowKit
def storO (bs : List Nat) : List Nat := if 65535 < bs.length then encB 0 (bs.take 65535) ++ storO (bs.drop 65535) else encB 1 bs
termination_by bs.length
decreasing_by simp; omega
theorem storO_eq (bs : List Nat) : storO bs = if 65535 < bs.length then encB 0 (bs.take 65535) ++ storO (bs.drop 65535) else encB 1 bs := by rw [storO]
theorem encB_lt {h : Nat} {x : List Nat} (hh : h < 2) (hx : ∀ b ∈ x, b < 256) (hl : x.length ≤ 65535) : ∀ b ∈ encB h x, b < 256 := by
 intro b hb
 simp only [encB, List.mem_append, List.mem_cons, List.not_mem_nil, or_false] at hb
 rcases hb with (rfl | rfl | rfl | rfl | rfl) | hb
 ·
  omega
 ·
  omega
 ·
  omega
 ·
  omega
 ·
  omega
 ·
  exact hx b hb
theorem encB_len (h : Nat) (x : List Nat) : (encB h x).length = x.length + 5 := by simp [encB]
theorem whole_head {pre : List Nat} {h : Nat} (hh : h < 2) : whole (ofB pre ++ bitsL h 1 ++ bitsL 0 2) = ofB (pre ++ [h]) := by
 rw [ofB_append, show ofB [h] = bitsL h 8 ++ [] from rfl, bits01 hh, List.append_nil]
 unfold whole
 have e : (8 - (ofB pre ++ bitsL h 1 ++ bitsL 0 2).length % 8) % 8 = 5 := by
  simp only [List.length_append, ofB_len, bitsL_len]
  omega
 rw [e]
 have e1 : bitsL h 1 = [decide (h = 1)] := by rcases (by omega : h = 0 ∨ h = 1) with rfl | rfl <;> rfl
 rw [e1]
 simp only [List.append_assoc]
 rfl
theorem whole_ofB (l : List Nat) : whole (ofB l) = ofB l := whole_of _ (by rw [ofB_len]; omega)
theorem woctets_n (g c0 n : Nat) (A B : Option Addr) (l : List Bool) (bs : List Nat) (w : World) (hn : bs.length = n) (hl : l.length ≤ 1000000000) (hbs : bs.length ≤ 1000000000) (hB : ∀ b ∈ bs, b < 256) (hW : IsW w g A l) (hr : Rd w 1 B bs.length (NB bs)) :
  Calls Try.prog 47 #[.pointer (some ⟨g, 0, none⟩), .slice B n c0] w fun e w' => e = .returned (.tuple #[]) ∧ ∃ A', IsW w' g A' (whole l ++ ofB bs) ∧ Frm (g :: ob A) w w' ∧ ∀ x ∈ ob A', x ∈ ob A ∨ w.heap.size ≤ x := by
 subst hn
 exact woctets_spec g c0 A B l bs w hl hbs hB hW hr
theorem storO_len : ∀ n (bs : List Nat), bs.length ≤ n → (storO bs).length ≤ 2 * bs.length + 5
 | n, bs, h => by
  rw [storO_eq]
  split
  ·
   rename_i h1
   have h2 := storO_len (n - 1) (bs.drop 65535) (by rw [List.length_drop]; omega)
   rw [List.length_drop] at h2
   rw [List.length_append, encB_len, List.length_take]
   omega
  ·
   rw [encB_len]; omega
 termination_by n => n
 decreasing_by omega
theorem storO_lt : ∀ n (bs : List Nat), bs.length ≤ n → (∀ b ∈ bs, b < 256) → ∀ b ∈ storO bs, b < 256
 | n, bs, h, hB => by
  rw [storO_eq]
  split
  ·
   intro b hb
   rcases List.mem_append.1 hb with hb | hb
   ·
    exact encB_lt (by omega) (fun b hb => hB b (List.mem_of_mem_take hb)) (by rw [List.length_take]; omega) b hb
   ·
    exact storO_lt (n - 1) (bs.drop 65535) (by rw [List.length_drop]; omega) (fun b hb => hB b (List.mem_of_mem_drop hb)) b hb
  ·
   exact encB_lt (by omega) hB (by omega)
 termination_by n => n
 decreasing_by omega
set_option maxRecDepth 100000 in
theorem flag_spec (b : Bool) (w : World) : Calls Try.prog 46 #[.bool b] w fun e w' => e = .returned (.int .u64 ((b.toNat : Nat) : Int)) ∧ w = w' := by
 refine VC.calls (nt := 4) (res := #[.tmp 2]) Try.func46 rfl Try.ntmps46 Try.results46 rfl ?_
 refine jS (jR ?_)
 refine Ops.r (v := .int .u64 ((0 : Nat) : Int)) (Run.asg rfl) rfl ?_
 refine jO (jN (jv1 0 ?_))
 refine jS (jS (jR (jM ?_)))
 refine jO (jN (jv1 3 ?_))
 refine VC.condB rfl (fun hc1 => ?_) (fun hc1 => ?_)
 ·
  refine jS (jR ?_)
  refine Ops.r (v := .int .u64 ((1 : Nat) : Int)) (Run.asg rfl) rfl ?_
  refine jO (jN (jv1 2 ?_))
  refine jT ?_
  refine thenQ_r (end1 rfl ?_)
  subst hc1
  exact ⟨rfl, rfl⟩
 ·
  refine jQ (jN ?_)
  refine VC.sub [] .nil ?_
  refine jS (jR ?_)
  refine Ops.r (v := .int .u64 ((0 : Nat) : Int)) (Run.asg rfl) rfl ?_
  refine jO (jN (jT ?_))
  refine end1 rfl ?_
  rw [show b = false from by simpa using hc1]
  exact ⟨rfl, rfl⟩
set_option maxRecDepth 100000 in
theorem stor_spec (A : Option Addr) (c : Nat) (bs : List Nat) (w : World) (hl : bs.length ≤ 1000000) (hc : bs.length ≤ c) (hB : ∀ b ∈ bs, b < 256) (hr : Rd w 1 A bs.length (NB bs)) :
  Calls Try.prog 15 #[.slice A bs.length c] w fun e w' => ∃ B d, e = .returned (.slice B (storO bs).length d) ∧ Own w' 5 1 B (storO bs).length d (NB (storO bs)) ∧ Frm [] w w' ∧ ∀ x ∈ ob B, w.heap.size ≤ x := by
 refine VC.calls (nt := 47) (res := #[.tmp 2]) Try.func15 rfl Try.ntmps15 Try.results15 rfl ?_
 refine jS (jR (jA ?_))
 refine jO (jN (jv1 0 ?_))
 refine jS (jR ?_)
 refine Ops.cl (Enters.fn evs.nil Try.call18) (new_spec _) rfl ?_
 rintro e w2 ⟨rfl, hW, hf2, _⟩
 refine ⟨_, rfl, ?_⟩
 obtain ⟨g, hgl, hgv⟩ : ∃ g, w.heap.size ≤ g ∧ g = w.heap.size := ⟨_, Nat.le_refl _, rfl⟩
 rw [← hgv] at hW
 refine jA ?_
 refine jO (jN (jv2 0 3 ?_))
 refine jS (jS (jR (jA ?_)))
 refine jO (jN (jB ?_))
 refine VC.loop (σ := Option Addr × Nat × List Nat × Bool × Option Addr × List Nat) (fun s => [(0, .slice s.1 s.2.2.1.length s.2.1), (3, .pointer (some ⟨g, 0, none⟩)), (4, .bool s.2.2.2.1)]) (fun s wr => IsW wr g s.2.2.2.2.1 (ofB s.2.2.2.2.2) ∧ Rd w 1 s.1 s.2.2.1.length (NB s.2.2.1) ∧ s.2.2.1.length ≤ s.2.1 ∧ (∀ b ∈ s.2.2.1, b < 256) ∧ Frm [] w wr ∧ (∀ x ∈ ob s.2.2.2.2.1, w.heap.size ≤ x) ∧ (s.2.2.2.1 = true → s.2.2.2.2.2 ++ storO s.2.2.1 = storO bs ∧ s.2.2.2.2.2.length + 2 * s.2.2.1.length ≤ 2 * bs.length) ∧ (s.2.2.2.1 = false → s.2.2.2.2.2 = storO bs) ∧ s.2.2.1.length ≤ bs.length) (fun s => s.2.2.1.length + s.2.2.2.1.toNat) (A, c, bs, true, none, []) (js3 rfl (by rw [hgv]; rfl) rfl) ⟨hW, hr, hc, hB, hf2, by simp [ob], fun _ => ⟨rfl, by simp⟩, (by simp), Nat.le_refl _⟩ ?_
 rintro ⟨B, c1, rest, more, A1, pre⟩ wr ⟨hW, hr1, hcr, hB1, K, hA1, hm, hf, hlr⟩
 dsimp only at hW hr1 hcr hB1 hA1 hm hf hlr ⊢
 refine jS (jS (jR (jM ?_)))
 refine jO (jN (jv3 0 3 7 ?_))
 refine VC.condB rfl (fun hc1 => ?_) (fun hc1 => ?_)
 ·
  obtain ⟨hm1, hm2⟩ := hm hc1
  refine jQ (jN (jv2 0 3 ?_))
  refine jB (jS (jR (jM ?_)))
  refine Ops.r (Run.lenS rfl Try.underlying22) rfl ?_
  refine Ops.r (Run.minI rfl rfl) rfl ?_
  have em : (if (65535 : Int) < ((rest.length : Nat) : Int) then (65535 : Int) else ((rest.length : Nat) : Int)) = ((min rest.length 65535 : Nat) : Int) := by split <;> omega
  rw [em]
  have hnle : min rest.length 65535 ≤ 65535 := Nat.min_le_right _ _
  have hnl : min rest.length 65535 ≤ rest.length := Nat.min_le_left _ _
  have hnlt : ¬ min rest.length 65535 < rest.length → min rest.length 65535 = rest.length := by omega
  have hnlt2 : min rest.length 65535 < rest.length → min rest.length 65535 = 65535 := by omega
  generalize min rest.length 65535 = n at hnle hnl hnlt hnlt2 ⊢
  refine jA ?_
  refine jO (jN (jv3 0 3 5 ?_))
  refine jS (jR (jM ?_))
  refine jM ?_
  refine Ops.r (Run.lenS rfl Try.underlying22) rfl ?_
  refine Ops.r (Run.bin rfl rfl (Bin.lssN _ _)) rfl ?_
  refine jA ?_
  refine jO (jN (jv4 0 3 4 5 ?_))
  refine jS (jR (jM ?_))
  refine jM ?_
  refine Ops.r (Run.not rfl) rfl ?_
  refine Ops.cl (Enters.fn (evs.cons rfl evs.nil) Try.call46) (flag_spec _ _) rfl ?_
  rintro e _ ⟨rfl, rfl⟩
  refine ⟨_, rfl, ?_⟩
  have hh2 : (!decide (n < rest.length)).toNat < 2 := Bool.toNat_lt _
  generalize hhv : (!decide (n < rest.length)).toNat = hh at hh2 ⊢
  refine Ops.cl (Enters.fn (evs.cons rfl (evs.cons rfl (evs.cons rfl evs.nil))) Try.call19) (put_ok g hh 1 A1 (ofB pre) wr (by omega) (by omega) (by rw [ofB_len]; omega) hW) rfl ?_
  rintro e w3 ⟨rfl, A2, hW2, hf3, hA2⟩
  refine ⟨_, rfl, ?_⟩
  have hgA : ∀ x ∈ g :: ob A1, w.heap.size ≤ x := fun x hx => by rcases List.mem_cons.1 hx with rfl | hx; exact hgl; exact hA1 x hx
  have K3 := K.own hf3 hgA
  have hA2 : ∀ x ∈ ob A2, w.heap.size ≤ x := fun x hx => by rcases hA2 x hx with h | h; exact hA1 x h; have := K.size; omega
  refine jO (jN (jv4 0 3 4 5 ?_))
  refine jS (jR (jM ?_))
  refine Ops.cl (Enters.fn (evs.cons rfl (evs.cons rfl (evs.cons rfl evs.nil))) Try.call19) (put_ok g 0 2 A2 _ w3 (by decide) (by omega) (by rw [List.length_append, ofB_len, bitsL_len]; omega) hW2) rfl ?_
  rintro e w4 ⟨rfl, A3, hW3, hf4, hA3⟩
  refine ⟨_, rfl, ?_⟩
  have hgA : ∀ x ∈ g :: ob A2, w.heap.size ≤ x := fun x hx => by rcases List.mem_cons.1 hx with rfl | hx; exact hgl; exact hA2 x hx
  have K4 := K3.own hf4 hgA
  have hA3 : ∀ x ∈ ob A3, w.heap.size ≤ x := fun x hx => by rcases hA3 x hx with h | h; exact hA2 x h; have := K3.size; omega
  refine jO (jN (jv4 0 3 4 5 ?_))
  refine jS (jR (jM ?_))
  refine jM ?_
  refine Ops.r (Run.conv8 _ rfl Try.underlying3 Try.underlying5) rfl ?_
  refine jM ?_
  refine Ops.r (Run.bin rfl rfl (Bin.shr_i64 _ 8 (by omega))) rfl ?_
  refine Ops.r (Run.conv8 _ rfl Try.underlying3 Try.underlying5) rfl ?_
  refine jM ?_
  refine Ops.r (Run.compl _ rfl (by omega)) rfl ?_
  refine Ops.r (Run.conv rfl Try.underlying3 Try.underlying5 _ (wrap_compl n hnle)) rfl ?_
  refine jM ?_
  refine Ops.r (Run.compl _ rfl (by omega)) rfl ?_
  refine Ops.r (Run.bin rfl rfl (Bin.shr_neg8 n)) rfl ?_
  refine Ops.r (Run.conv rfl Try.underlying3 Try.underlying5 _ (wrap_compl8 n hnle)) rfl ?_
  refine Ops.m (Does.buildN (cells := (NB [n % 256, n / 2 ^ 8 % 256, (65535 - n) % 256, (65535 - n) / 256]).toArray) (evs.cons rfl (evs.cons rfl (evs.cons rfl (evs.cons rfl evs.nil)))) Try.underlying22 Try.sizeOf5 zero5 rfl rfl jK) rfl ?_
  rintro _ w5 ⟨rfl, hF5⟩
  have hrd : Rd w5 1 (some ⟨w4.heap.size, 0, none⟩) 4 (NB [n % 256, n / 2 ^ 8 % 256, (65535 - n) % 256, (65535 - n) / 256]) := Rd.of_blk (n := 4) (size := 1) hF5.blk rfl
  have hW3 := hW3.frm hF5.frm (by simp)
  have K5 := K4.trans hF5.frm (by simp)
  refine Ops.cl (Enters.fn (evs.cons rfl (evs.cons rfl evs.nil)) Try.call47) (woctets_n g 4 4 A3 _ _ [n % 256, n / 2 ^ 8 % 256, (65535 - n) % 256, (65535 - n) / 256] w5 rfl (by simp only [List.length_append, ofB_len, bitsL_len]; omega) (by simp) (by intro b hb; simp only [List.mem_cons, List.not_mem_nil, or_false] at hb; rcases hb with rfl | rfl | rfl | rfl <;> omega) hW3 hrd) rfl ?_
  rintro e w6 ⟨rfl, A4, hW4, hf6, hA4⟩
  refine ⟨_, rfl, ?_⟩
  have hgA : ∀ x ∈ g :: ob A3, w.heap.size ≤ x := fun x hx => by rcases List.mem_cons.1 hx with rfl | hx; exact hgl; exact hA3 x hx
  have K6 := K5.own hf6 hgA
  have hA4 : ∀ x ∈ ob A4, w.heap.size ≤ x := fun x hx => by rcases hA4 x hx with h | h; exact hA3 x h; have := K5.size; omega
  rw [whole_head hh2, ← ofB_append] at hW4
  refine jO (jN (jv4 0 3 4 5 ?_))
  refine jS (jR (jM ?_))
  refine jM ?_
  refine jM ?_
  refine Ops.r (Run.sliceS 0 n rfl Try.underlying22 Try.sizeOf5 evB.none_ (evB.some_ rfl) (by omega) (by omega)) rfl ?_
  rw [cutA_0, Nat.sub_zero, Nat.sub_zero]
  have hr6 : Rd w6 1 B rest.length (NB rest) := hr1.frm K6 (by simp)
  have hr7 := NB_cut rest 0 n (by omega) hr6 hcr
  rw [cutA_0, List.drop_zero] at hr7
  have hln : (rest.take n).length = n := by rw [List.length_take]; omega
  refine Ops.cl (Enters.fn (evs.cons rfl (evs.cons rfl evs.nil)) Try.call47) (woctets_n g _ n A4 B _ (rest.take n) w6 hln (by simp only [List.length_append, ofB_len, List.length_cons, List.length_nil]; omega) (by omega) (fun b hb => hB1 b (List.mem_of_mem_take hb)) hW4 hr7) rfl ?_
  rintro e w7 ⟨rfl, A5, hW5, hf7, hA5⟩
  refine ⟨_, rfl, ?_⟩
  have hgA : ∀ x ∈ g :: ob A4, w.heap.size ≤ x := fun x hx => by rcases List.mem_cons.1 hx with rfl | hx; exact hgl; exact hA4 x hx
  have K7 := K6.own hf7 hgA
  have hA5 : ∀ x ∈ ob A5, w.heap.size ≤ x := fun x hx => by rcases hA5 x hx with h | h; exact hA4 x h; have := K6.size; omega
  rw [whole_ofB, ← ofB_append] at hW5
  refine jO (jN (jv4 0 3 4 5 ?_))
  refine jR (jM ?_)
  refine jM ?_
  refine Ops.r (Run.sliceS n _ rfl Try.underlying22 Try.sizeOf5 (evB.some_ rfl) evB.none_ (by omega) (by omega)) rfl ?_
  refine jA ?_
  refine jO ?_
  refine blockQ_n (jN ⟨(cutA B c1 n 1, c1 - n, rest.drop n, decide (n < rest.length), A5, pre ++ encB hh (rest.take n)), (js3 (by rw [List.length_drop]; rfl) rfl rfl), ?_, ?_⟩)
  ·
   have heq : pre ++ [hh] ++ [n % 256, n / 2 ^ 8 % 256, (65535 - n) % 256, (65535 - n) / 256] ++ rest.take n = pre ++ encB hh (rest.take n) := by
    have e1 : n / 2 ^ 8 % 256 = n / 256 := by omega
    have e2 : (65535 - n) % 256 = 255 - n % 256 := by omega
    have e3 : (65535 - n) / 256 = 255 - n / 256 := by omega
    unfold encB
    rw [hln, e1, e2, e3]
    simp only [List.append_assoc, List.cons_append, List.nil_append]
   rw [heq] at hW5
   refine ⟨hW5, ?_, by dsimp only; rw [List.length_drop]; omega, fun b hb => hB1 b (List.mem_of_mem_drop hb), K7, hA5, fun h => ?_, fun h => ?_, by dsimp only; rw [List.length_drop]; omega⟩
   ·
    have h9 := NB_cut rest n (rest.length - n) (by omega) hr1 hcr
    rw [List.take_of_length_le (by rw [List.length_drop]; omega)] at h9
    exact h9
   ·
    have h9 : n < rest.length := of_decide_eq_true h
    have h8 := hnlt2 h9
    subst h8
    have h7 : hh = 0 := by rw [← hhv, decide_eq_true h9]; rfl
    rw [storO_eq, if_pos h9] at hm1
    rw [h7, List.append_assoc]
    refine ⟨hm1, ?_⟩
    rw [List.length_append, encB_len, hln, List.length_drop]
    omega
   ·
    have h9 : ¬ n < rest.length := of_decide_eq_false h
    have h8 := hnlt h9
    have h7 : hh = 1 := by rw [← hhv, decide_eq_false h9]; rfl
    rw [storO_eq, if_neg (by omega)] at hm1
    rw [h7, List.take_of_length_le (by omega)]
    exact hm1
  ·
   dsimp only
   rw [List.length_drop]
   have hdn : n < rest.length ∨ (decide (n < rest.length)).toNat = 0 := by
    by_cases h : n < rest.length
    ·
     exact .inl h
    ·
     exact .inr (by rw [decide_eq_false h]; rfl)
   have hd1 : (decide (n < rest.length)).toNat < 2 := Bool.toNat_lt _
   have hd2 : more.toNat = 1 := by rw [hc1]; rfl
   omega
 ·
  refine jX ?_
  refine thenQ_x (thenQ_x (blockQ_x ?_))
  refine jN (jv1 3 ?_)
  refine jS (jR (jM ?_))
  refine Ops.cl (Enters.fn (evs.cons rfl evs.nil) Try.call22) (bytes_spec g A1 (ofB pre) wr (by rw [ofB_len]; have := hf (by simpa using hc1); rw [this]; have := storO_len _ bs (Nat.le_refl _); omega) hW) rfl ?_
  rintro e w9 ⟨Bz, dz, rfl, hBz, hfz, huz⟩
  refine ⟨_, rfl, ?_⟩
  refine jA ?_
  refine jO (jN (jv1 2 ?_))
  refine jT ?_
  refine end1 rfl ?_
  have he := hf (by simpa using hc1)
  subst he
  rw [pack_ofB _ (storO_lt _ bs (Nat.le_refl _) hB)] at hBz ⊢
  exact ⟨Bz, dz, rfl, hBz, K.trans hfz (by simp), fun x hx => Nat.le_trans K.size (huz x hx)⟩
end Go.Proofs.Ytnmieihcjjiccaa
namespace Go.Proofs.Ytnmieihcjjiccaa
open Go.RowKit
theorem SyC_rdL {w : World} {g : Nat} {t : TypeId} {a b : List Nat} {n : Nat} (h : Blk w g t (SyC a b)) (hn : a.length = n) : Rd w 1 (some ⟨g, 0, none⟩) n (NI a) := by
 subst hn
 refine ⟨by simp [NI], fun _ => ⟨_, rfl, h.lt, fun j u hu => ?_⟩⟩
 rw [add_mk, h.cell, SyC]
 have hj : j < (NI a).length := (List.getElem?_eq_some_iff.1 hu).1
 rw [List.getElem?_toArray, List.getElem?_append_left hj]
 exact hu
theorem SyC_rdW {w : World} {g : Nat} {t : TypeId} {a b : List Nat} {n m : Nat} (h : Blk w g t (SyC a b)) (hm : a.length = m) (hn : b.length = n) : Rd w 1 (some ⟨g, m, none⟩) n (NI b) := by
 subst hn hm
 refine ⟨by simp [NI], fun _ => ⟨_, rfl, h.lt, fun j u hu => ?_⟩⟩
 have e : ((⟨g, a.length, none⟩ : Addr).add j) = ⟨g, a.length + j, none⟩ := by simp [Addr.add]
 rw [e, h.cell, SyC, List.getElem?_toArray, List.getElem?_append_right (by simp [NI]), show a.length + j - (NI a).length = j by simp [NI]]
 exact hu
theorem count_n (Bt : Option Addr) (n ct : Nat) (lt : List Tk) (w : World) (hn : lt.length = n) (hlt : ∀ t ∈ lt, TkOk t) (hll : n ≤ 1000000) (hot : Own w 73 3 Bt n ct (TC lt)) :
  Calls Try.prog 23 #[.slice Bt n ct] w fun e w' => e = .returned (.agg (SyC (litC lt) (wayC lt))) ∧ Frm [] w w' := by
 subst hn
 exact count_sp Bt ct lt w hlt hll hot
theorem lens_n (A : Option Addr) (n c0 : Nat) (cs : List Nat) (m : Nat) (w : World) (hn : cs.length = n) (hl : n ≤ 320) (hb : ∀ x ∈ cs, x ≤ 2147483647) (hm1 : 1 ≤ m) (hm2 : m ≤ 15) (hf : n ≤ 2 ^ m) (hr : Rd w 1 A n (NI cs)) :
  Calls Try.prog 25 #[.slice A n c0, .int .i64 ((m : Nat) : Int)] w fun e w' => ∃ B c, e = .returned (.tuple #[.slice B n c, .int .i64 ((0 : Nat) : Int)]) ∧ Own w' 3 1 B n c (NI (lenM cs m)) ∧ Frm [] w w' ∧ (∀ x ∈ ob B, w.heap.size ≤ x) ∧ LenOk cs (lenM cs m) m := by
 subst hn
 exact lens_ok A c0 cs m w hl hb hm1 hm2 hf hr
theorem cut_n (A : Option Addr) (n c least : Nat) (l : List Nat) (w : World) (hn : l.length = n) (hl : n ≤ 1000000) (hc : n ≤ c) (hr : Rd w 1 A n (NI l)) :
  Calls Try.prog 26 #[.slice A n c, .int .i64 ((least : Nat) : Int)] w fun e w' => (∃ B d, e = .returned (.slice B (cutL l least).length d) ∧ Rd w 1 B (cutL l least).length (NI (cutL l least)) ∧ (cutL l least).length ≤ d) ∧ w = w' := by
 subst hn
 exact cut_sp A c least l w hl hc hr
theorem say_n (A : Option Addr) (n c : Nat) (l : List Nat) (w : World) (hn : l.length = n) (hl : n ≤ 100000) (hr : Rd w 1 A n (NI l)) :
  Calls Try.prog 27 #[.slice A n c] w fun e w' => ∃ B d, e = .returned (.slice B (sayM l 0).length d) ∧ Own w' 56 3 B (sayM l 0).length d (SDC (sayM l 0)) ∧ Frm [] w w' ∧ ∀ x ∈ ob B, w.heap.size ≤ x := by
 subst hn
 exact say_sp A c l w hl hr
theorem order_n (A : Option Addr) (c : Nat) (l : List Nat) (w : World) (hl : l.length = 19) (hr : Rd w 1 A 19 (NI l)) :
  Calls Try.prog 28 #[.slice A 19 c] w fun e w' => ∃ B d, e = .returned (.slice B (ordL l).length d) ∧ Own w' 3 1 B (ordL l).length d (NI (ordL l)) ∧ Frm [] w w' ∧ ∀ x ∈ ob B, w.heap.size ≤ x := by
 have h := order_sp A c l w hl (by rw [hl]; exact hr)
 rw [hl] at h
 exact h
theorem codes_n (A : Option Addr) (n c0 : Nat) (l : List Nat) (w : World) (hn : l.length = n) (h : LOk (toZ l)) (hr : Rd w 1 A n (NI l)) :
  Calls Try.prog 31 #[.slice A n c0] w fun e w' => Frm [] w w' ∧ ∃ B c, e = .returned (.tuple #[.slice B n c, .int .i64 ((0 : Nat) : Int)]) ∧ Own w' 116 2 B n c ((codesL (toZ l)).flatMap CB) := by
 subst hn
 have h1 := codes_ok A c0 (toZ l) w h (by rw [toZ_len, ← toZ_IB]; exact hr)
 rw [toZ_len] at h1
 exact h1
theorem more1_n (n0 g g2 g3 s n v c : Nat) (A B : Option Addr) (l : List Bool) (ls : List Int) (w : World) (hn0 : ls.length = n0) (hg : good ls) (hk : KC (cn ls) 16 ≤ 32768) (hs : s < n0) (hv : v < 2 ^ n) (hn : n ≤ 32) (hl : l.length ≤ 900000000) (hW : IsW w g A l) (ho : Own w 116 2 B n0 c ((codesL ls).flatMap CB))
  (hb2 : Blk w g2 34 #[.pointer (some ⟨g, 0, none⟩)]) (hb3 : Blk w g3 60 #[.slice B n0 c]) :
  Calls Try.prog 59 #[.int .i64 ((s : Nat) : Int), .int .i64 ((n : Nat) : Int), .int .i64 ((v : Nat) : Int), .pointer (some ⟨g2, 0, none⟩), .pointer (some ⟨g3, 0, none⟩)] w fun e w' => e = .returned (.tuple #[]) ∧ WR w w' g A (l ++ cbits ls s ++ bitsL v n) := by
 subst hn0
 exact more1_spec g g2 g3 s n v c A B l ls w hg hk hs hv hn hl hW ho hb2 hb3
theorem tokens_n (g ct c1 c2 na nb nt : Nat) (A Bt La Lb : Option Addr) (l : List Bool) (lt : List Tk) (a b : List Nat) (w : World) (hna : a.length = na) (hnb : b.length = nb) (hnt : lt.length = nt) (ha : LOk (toZ a)) (hb : LOk (toZ b)) (ha2 : 286 ≤ na) (hb2 : 30 ≤ nb) (hlt : ∀ t ∈ lt, TkOk t) (hll : nt ≤ 1000000) (hl : l.length ≤ 100000000) (hW : IsW w g A l) (hot : Own w 73 3 Bt nt ct (TC lt)) (hra : Rd w 1 La na (NI a)) (hrb : Rd w 1 Lb nb (NI b)) :
  Calls Try.prog 21 #[.pointer (some ⟨g, 0, none⟩), .slice Bt nt ct, .slice La na c1, .slice Lb nb c2] w fun e w' => e = .returned (.tuple #[]) ∧ WR w w' g A (l ++ toksB (toZ a) (toZ b) lt) := by
 subst hna hnb hnt
 have h := tokens_spec g ct c1 c2 A Bt La Lb l lt (toZ a) (toZ b) w ha hb (by rw [toZ_len]; exact ha2) (by rw [toZ_len]; exact hb2) hlt hll hl hW hot (by rw [toZ_len, ← toZ_IB]; exact hra) (by rw [toZ_len, ← toZ_IB]; exact hrb)
 rw [toZ_len, toZ_len] at h
 exact h
theorem flat3s : ∀ (L : List Sd) (s : Nat) (_ : s < L.length), ((SDC L).drop (s * 3)).take 3 = sdC (L.getD s (0, 0, 0))
 | a :: L, 0, _ => rfl
 | a :: L, s + 1, h => by
  have := flat3s L s (by simpa using h)
  rw [show SDC (a :: L) = sdC a ++ SDC L from rfl, show (s + 1) * 3 = (sdC a).length + s * 3 by simp [sdC]; omega, List.drop_length_add_append, List.getD_cons_succ]
  exact this
theorem sd_snoc {L : List Sd} {i : Nat} (h : i < L.length) : L.take (i + 1) = L.take i ++ [L.getD i (0, 0, 0)] := tok_snoc h
theorem nat_snoc {L : List Nat} {i : Nat} (h : i < L.length) : L.take (i + 1) = L.take i ++ [L.getD i 0] := by
 rw [List.take_add_one, List.getElem?_eq_getElem h, List.getD_eq_getElem?_getD, List.getElem?_eq_getElem h]
 rfl
theorem NIa_set (a : List Nat) (i x : Nat) : (NI a).toArray.setIfInBounds i (.int .i64 ((x : Nat) : Int)) = (NI (a.set i x)).toArray := by rw [NI_set]; simp
theorem NIa_get (a : List Nat) (i : Nat) (h : i < a.length) : (NI a).toArray[i]? = some (.int .i64 ((a.getD i 0 : Nat) : Int)) := by rw [List.getElem?_toArray]; exact NI_get a i h
theorem dyn_bounds (bs : List Nat) (hb : LenOk (litC (toks bs 0)) (litsM bs) 15) (hw : LenOk (wayC (toks bs 0)) (waysM bs) 15) :
  (litsM bs).length = 286 ∧ (waysM bs).length = 30 ∧ 257 ≤ (manyM bs).length ∧ (manyM bs).length ≤ 286 ∧ 1 ≤ (farM bs).length ∧ (farM bs).length ≤ 30 ∧ (∀ t ∈ listM bs, SdOk t) ∧ (listM bs).length ≤ 316 := by
 have h1 : (litsM bs).length = 286 := hb.len.trans (litC_len _)
 have h2 : (waysM bs).length = 30 := hw.len.trans (wayC_len _)
 have h3 := cutL_bound (litsM bs) 257 (by omega)
 have h4 := cutL_bound (waysM bs) 1 (by omega)
 have h5 := sayM_len (manyM bs ++ farM bs)
 rw [List.length_append] at h5
 refine ⟨h1, h2, h3.1, by unfold manyM; omega, h4.1, by unfold farM; omega, sayM_ok (append_getD _ _ _ (cutL_getD _ _ _ hb.most) (cutL_getD _ _ _ hw.most)), ?_⟩
 have e1 : (manyM bs).length = (cutL (litsM bs) 257).length := rfl
 have e2 : (farM bs).length = (cutL (waysM bs) 1).length := rfl
 unfold listM
 omega
set_option maxRecDepth 100000 in
theorem ddyn_spec (A : Option Addr) (c : Nat) (bs : List Nat) (w : World) (hl : bs.length ≤ 32768) (hc : bs.length ≤ c) (hB : ∀ b ∈ bs, b < 256) (hr : Rd w 1 A bs.length (NB bs)) :
  Calls Try.prog 8 #[.slice A bs.length c] w fun e w' => ∃ B d, e = .returned (.tuple #[.slice B (pack (dynB bs)).length d, .int .i64 ((0 : Nat) : Int)]) ∧ Own w' 5 1 B (pack (dynB bs)).length d (NB (pack (dynB bs))) ∧ Frm [] w w' ∧ ∀ x ∈ ob B, w.heap.size ≤ x := by
 have htl := toks_len0 bs
 have hok := toks_ok bs 0 hl hB
 refine VC.calls (nt := 138) (res := #[.tmp 2, .tmp 3]) Try.func8 rfl Try.ntmps8 Try.results8 rfl ?_
 refine jS (jR (jA ?_))
 refine Ops.r (v := .int .i64 ((0 : Nat) : Int)) (Run.asg rfl) rfl ?_
 refine jO (jN (jv1 0 ?_))
 refine jS (jR (jM ?_))
 refine Ops.cl (Enters.fn (evs.cons rfl evs.nil) Try.call17) (find_small A c bs w hl hc hB hr) rfl ?_
 rintro e w1 ⟨Bt, dt, rfl, hot, K, _⟩
 refine ⟨_, rfl, ?_⟩
 have hnt : (toks bs 0).length = (toks bs 0).length := rfl
 generalize hntv : (toks bs 0).length = nt at *
 refine jM ?_
 refine Ops.r (Run.extract rfl rfl) rfl ?_
 refine Ops.r (Run.extract rfl rfl) rfl ?_
 refine jA ?_
 refine jA ?_
 refine jO (jN (jv2 4 5 ?_))
 refine jS (jS (jR (jM ?_)))
 refine Ops.r (Run.bin rfl rfl (Bin.neqN _ 0)) rfl ?_
 refine jO (jN (jv3 4 5 29 ?_))
 refine VC.condF rfl (by decide) ?_
 refine jQ (jN (jv1 4 ?_))
 refine jS (jR (jM ?_))
 refine Ops.cl (Enters.fn (evs.cons rfl evs.nil) Try.call23) (count_n Bt nt dt (toks bs 0) w1 hntv hok (by omega) hot) rfl ?_
 rintro e w2 ⟨rfl, hf2⟩
 refine ⟨_, rfl, ?_⟩
 have hot := hot.frm hf2 (by simp)
 have K := K.trans hf2 (by simp)
 refine Ops.m (Does.alloc zeroSy) rfl ?_
 rintro _ w3 ⟨rfl, hF3⟩
 have hg6 := K.size
 have hot := hot.frm hF3.frm (by simp)
 have K := K.trans hF3.frm (by simp)
 have hb3 : Blk w3 w2.heap.size 46 (SyC (rep 286) (rep 30)) := hF3.blk
 generalize w2.heap.size = g6 at hb3 hg6 ⊢
 refine Ops.st (Acts.storeA rfl rfl (fun w => by rw [SyC_size, litC_len, wayC_len]; exact Try.sizeOf46 w) hb3 (by rw [SyC_size, SyC_size, litC_len, wayC_len]; simp [rep]) (SyC_one _ _)) ?_
 rintro w4 ⟨hb4, hf4, hs4⟩
 have hot := hot.frm hf4 (fun x hx hx2 => by rw [List.mem_singleton] at hx2; subst hx2; exact hot.ne_blk hb3 (by decide) hx)
 have K := K.own hf4 (by simp; omega)
 refine jO (jN (jv2 4 6 ?_))
 refine jS ?_
 refine VC.held (fun v => Blk v g6 46 (SyC (litC (toks bs 0)) (wayC (toks bs 0)))) jK ?_
 have hS : (fun v => Blk v g6 46 (SyC (litC (toks bs 0)) (wayC (toks bs 0)))) w4.drew := hb4.drawn (Drawn.drew _)
 have hot := hot.drawn (Drawn.drew w4)
 have K := K.drawn (Drawn.drew w4)
 refine jH 0 rfl hS (fun w0 hw0 => Run.fieldAddr rfl Try.underlying46 rfl Try.sizeOf43 (by decide)) ?_
 refine HOps.take (v := .slice (some ⟨g6, 0, none⟩) 286 286) 1 rfl jK jK jK hS (fun w0 hw0 => Run.sliceA 0 286 rfl Try.underlying43 Try.sizeOf3 evB.none_ evB.none_ (by omega) (by omega)) trivial rfl rfl ?_
 refine jH 6 rfl hS (fun w0 hw0 => Run.fieldAddr rfl Try.underlying46 rfl Try.sizeOf44 (by decide)) ?_
 refine HOps.take (v := .slice (some ⟨g6, 286, none⟩) 30 30) 7 rfl jK jK jK hS (fun w0 hw0 => Run.sliceA 0 30 rfl Try.underlying44 Try.sizeOf3 evB.none_ evB.none_ (by omega) (by omega)) trivial rfl rfl ?_
 refine HOps.cl 2 rfl jK (Enters.fn (evs.cons rfl (evs.cons rfl evs.nil)) Try.call25) (lens_n (some ⟨g6, 0, none⟩) 286 286 (litC (toks bs 0)) 15 _ (litC_len _) (by omega) (fun x hx => by have := litC_le _ x hx; omega) (by omega) (by omega) (by decide) (SyC_rdL hS (litC_len _))) trivial rfl rfl ?_
 rintro e w5 ⟨Ba, ca, rfl, hoa, hf5, hna, hlo⟩
 refine ⟨_, rfl, hS.frm hf5 (by simp), ?_⟩
 have hS := hS.frm hf5 (by simp)
 have hot := hot.frm hf5 (by simp)
 have K := K.trans hf5 (by simp)
 refine jH 3 rfl hS (fun w0 hw0 => Run.extract rfl rfl) ?_
 refine jH 4 rfl hS (fun w0 hw0 => Run.extract rfl rfl) ?_
 refine HOps.cl 5 rfl jK (Enters.fn (evs.cons rfl (evs.cons rfl evs.nil)) Try.call24) (mustI_spec _ _ _) trivial rfl rfl ?_
 rintro e _ ⟨rfl, rfl⟩
 refine ⟨_, rfl, hS, ?_⟩
 refine HOps.cl 8 rfl jK (Enters.fn (evs.cons rfl (evs.cons rfl evs.nil)) Try.call25) (lens_n (some ⟨g6, 286, none⟩) 30 30 (wayC (toks bs 0)) 15 _ (wayC_len _) (by omega) (fun x hx => by have := wayC_le _ x hx; omega) (by omega) (by omega) (by decide) (SyC_rdW hS (litC_len _) (wayC_len _))) trivial rfl rfl ?_
 rintro e w6 ⟨Bb, cb, rfl, hob, hf6, hnb, hwo⟩
 refine ⟨_, rfl, hS.frm hf6 (by simp), ?_⟩
 have hS := hS.frm hf6 (by simp)
 have hot := hot.frm hf6 (by simp)
 have hoa := hoa.frm hf6 (by simp)
 have K := K.trans hf6 (by simp)
 have hlo : LenOk (litC (toks bs 0)) (litsM bs) 15 := hlo
 have hwo : LenOk (wayC (toks bs 0)) (waysM bs) 15 := hwo
 have hoa : Own w6 3 1 Ba 286 ca (NI (litsM bs)) := hoa
 have hob : Own w6 3 1 Bb 30 cb (NI (waysM bs)) := hob
 obtain ⟨hL1, hL2, hM1, hM2, hF1, hF2, hLok, hLl⟩ := dyn_bounds bs hlo hwo
 refine jH 9 rfl hS (fun w0 hw0 => Run.extract rfl rfl) ?_
 refine jH 10 rfl hS (fun w0 hw0 => Run.extract rfl rfl) ?_
 refine HOps.cl 11 rfl jK (Enters.fn (evs.cons rfl (evs.cons rfl evs.nil)) Try.call24) (mustI_spec _ _ _) trivial rfl rfl ?_
 rintro e _ ⟨rfl, rfl⟩
 refine ⟨_, rfl, hS, ?_⟩
 refine jH 12 rfl hS (fun w0 hw0 => Run.asg rfl) ?_
 refine jH 13 rfl hS (fun w0 hw0 => Run.asg rfl) ?_
 refine HOps.done jK ?_
 refine jN (jv3 4 7 8 ?_)
 refine jS (jR (jM ?_))
 refine Ops.cl (Enters.fn (evs.cons rfl (evs.cons rfl evs.nil)) Try.call26) (cut_n Ba 286 ca 257 (litsM bs) w6 hL1 (by omega) hoa.le hoa.rd) rfl ?_
 rintro e _ ⟨⟨Bm, dm, rfl, hrm, hcm⟩, rfl⟩
 refine ⟨_, rfl, ?_⟩
 have hrm : Rd w6 1 Bm (manyM bs).length (NI (manyM bs)) := hrm
 have em : (cutL (litsM bs) 257).length = (manyM bs).length := rfl
 rw [em]
 refine jM ?_
 refine Ops.cl (Enters.fn (evs.cons rfl (evs.cons rfl evs.nil)) Try.call26) (cut_n Bb 30 cb 1 (waysM bs) w6 hL2 (by omega) hob.le hob.rd) rfl ?_
 rintro e _ ⟨⟨Bf, df, rfl, hrf, hcf⟩, rfl⟩
 refine ⟨_, rfl, ?_⟩
 have hrf : Rd w6 1 Bf (farM bs).length (NI (farM bs)) := hrf
 have ef : (cutL (waysM bs) 1).length = (farM bs).length := rfl
 rw [ef]
 clear hcm hcf
 generalize hvm : (manyM bs).length = vm at *
 generalize hvf : (farM bs).length = vf at *
 refine jA ?_
 refine jA ?_
 refine jO (jN (jv5 4 7 8 9 10 ?_))
 refine jS (jR (jM ?_))
 refine Ops.m (Does.app rfl rfl Try.underlying38 (info3) rfl (by decide) (Own.nil _ _ _) hrm (NI_one _) (by omega) (by omega)) rfl ?_
 rintro _ w7 ⟨A7, c7, rfl, ho7, hf7, hob7⟩
 have hf7 : Frm [] w6 w7 := hf7
 rw [List.nil_append] at ho7
 have hrf := hrf.frm hf7 (by simp)
 refine jM ?_
 refine Ops.m (Does.app rfl rfl Try.underlying38 (info3) rfl (by decide) ho7 hrf (NI_one _) (by omega) (by omega)) rfl ?_
 rintro _ w8 ⟨A8, c8, rfl, ho8, hf8, hob8⟩
 have hu7 : ∀ x ∈ ob A7, w6.heap.size ≤ x := fun x hx => by
  rcases hob7 with h | h
  ·
   rw [h] at hx; cases hx
  ·
   rw [h, List.mem_singleton] at hx; omega
 have hf8 : Frm [] w6 w8 := hf7.own hf8 hu7
 rw [show NI (manyM bs) ++ NI (farM bs) = NI (manyM bs ++ farM bs) by simp [NI]] at ho8
 refine Ops.cl (Enters.fn (evs.cons rfl evs.nil) Try.call27) (say_n A8 (0 + vm + vf) c8 (manyM bs ++ farM bs) w8 (by rw [List.length_append]; omega) (by omega) ho8.rd) rfl ?_
 rintro e w9 ⟨Bl, dl, rfl, hol, hf9, _⟩
 refine ⟨_, rfl, ?_⟩
 have hf9 := hf8.trans hf9 (by simp)
 have hot := hot.frm hf9 (by simp)
 have hoa := hoa.frm hf9 (by simp)
 have hob := hob.frm hf9 (by simp)
 have K := K.trans hf9 (by simp)
 have hol : Own w9 56 3 Bl (listM bs).length dl (SDC (listM bs)) := hol
 have el : (sayM (manyM bs ++ farM bs) 0).length = (listM bs).length := rfl
 rw [el]
 clear ho8 ho7 hrm hrf hf8 hf7 hb4 hb3
 refine jA ?_
 refine jO (jN (jv6 4 7 8 9 10 11 ?_))
 refine jS (jR ?_)
 refine Ops.m (Does.alloc zero54) rfl ?_
 rintro _ w10 ⟨rfl, hF10⟩
 have hb12 : Blk w10 w9.heap.size 54 (NI (timesC ((listM bs).take 0))).toArray := hF10.blk
 have hg12 : w9.heap.size ≤ w9.heap.size := Nat.le_refl _
 have K10 : Frm [] w9 w10 := hF10.frm
 generalize hgv : w9.heap.size = g12 at hb12 hg12 ⊢
 have hgl : w9.heap.size ≤ g12 := by omega
 refine jO (jN (jS (jS (jR (jM ?_)))))
 refine Ops.r (Run.lenS rfl Try.underlying52) rfl ?_
 refine Ops.r (v := .int .i64 ((0 : Nat) : Int)) (Run.mv rfl) rfl ?_
 refine jO (jN (jB ?_))
 refine VC.loop (σ := Nat) (fun s => [(4, _), (7, _), (8, _), (9, _), (10, _), (11, _), (12, _), (54, .slice Bl (listM bs).length dl), (55, .int .i64 (((listM bs).length : Nat) : Int)), (56, .int .i64 ((s : Nat) : Int))]) (fun s wr => s ≤ (listM bs).length ∧ Blk wr g12 54 (NI (timesC ((listM bs).take s))).toArray ∧ Frm [] w9 wr) (fun s => (listM bs).length - s) 0 (js10 rfl rfl rfl rfl rfl rfl rfl rfl rfl rfl) ⟨Nat.zero_le _, hb12, K10⟩ ?_
 rintro i wr ⟨hi, hb12, K10⟩
 refine jS (jR ?_)
 refine Ops.r (Run.bin rfl rfl (Bin.lssN _ _)) rfl ?_
 refine jO (jN (jS ?_))
 refine VC.condD rfl (fun hc2 => ?_) (fun hc2 => ?_)
 ·
  have hol1 := hol.frm K10 (by simp)
  obtain ⟨ad, rfl, hel⟩ := hol1.rd.elem hc2
  rw [flat3s (listM bs) i hc2] at hel
  have hsn := sd_snoc hc2
  have hqok := hLok ((listM bs).getD i (0, 0, 0)) (by rw [List.getD_eq_getElem?_getD, List.getElem?_eq_getElem hc2]; exact List.getElem_mem hc2)
  generalize (listM bs).getD i (0, 0, 0) = q at hel hsn hqok
  have hq19 := hqok.1
  have hts := timesC_snoc ((listM bs).take i) q
  rw [← hsn] at hts
  have htl1 := timesC_len ((listM bs).take i)
  have hle1 := timesC_le ((listM bs).take i)
  rw [List.length_take, Nat.min_eq_left hi] at hle1
  generalize timesC ((listM bs).take i) = ct at *
  have hv1 := getD_le hle1 q.1
  refine jQ (jN (jv10 4 7 8 9 10 11 12 54 55 56 ?_))
  refine jS (jB (jS (jR ?_)))
  refine Ops.r (Run.indexS _ rfl rfl Try.underlying52 Try.sizeOf56 (by omega)) rfl ?_
  refine Ops.r (Run.loadA rfl Try.isAgg56 Try.sizeOf56 hel (by first | rfl | (simp; done))) rfl ?_
  refine Ops.m (Does.alloc zero56) rfl ?_
  rintro _ w11 ⟨rfl, hF11⟩
  refine Ops.st (Acts.storeA rfl rfl Try.sizeOf56 hF11.blk rfl (by intro v hv; exact SDC_one [q] v (by simpa [SDC] using hv))) ?_
  rintro w12 ⟨hb14, hf12, hs12⟩
  have hf12 : Frm [] wr w12 := hF11.frm.own hf12 (by simp)
  have hb12 := hb12.frm hf12 (by simp)
  have K10 := K10.trans hf12 (by simp)
  refine jO (jN (jv11 4 7 8 9 10 11 12 14 54 55 56 ?_))
  refine jR ?_
  refine Ops.r (Run.fieldAddr rfl Try.underlying56 rfl Try.sizeOf3 (by decide)) rfl ?_
  refine Ops.r (Run.load rfl Try.isAgg3 (hb14.cell 0)) rfl ?_
  refine Ops.r (Run.indexA1 _ rfl rfl Try.underlying54 Try.sizeOf3 (by omega)) rfl ?_
  refine Ops.r (Run.load rfl Try.isAgg3 ((hb12.cell _).trans (by rw [Nat.zero_add]; exact NIa_get _ _ (by omega)))) rfl ?_
  refine Ops.r (Run.bin rfl rfl (Bin.add_i64 _ 1 (by omega))) rfl ?_
  refine Ops.r (Run.indexA1 _ rfl rfl Try.underlying54 Try.sizeOf3 (by omega)) rfl ?_
  refine Ops.st (Acts.store rfl rfl Try.sizeOf3 hb12 (by rw [Nat.blt_eq]; simp [NI]; omega) rfl) ?_
  rintro w13 ⟨hb13, hf13, hs13⟩
  rw [Nat.zero_add, NIa_set] at hb13
  unfold timeStep at hts
  rw [← hts] at hb13
  refine jO ?_
  refine blockQ_n (jN ?_)
  refine jv10 4 7 8 9 10 11 12 54 55 56 ?_
  refine jR ?_
  refine Ops.r (Run.bin rfl rfl (Bin.add_i64 _ 1 (by omega))) rfl ?_
  refine jM ?_
  refine jO ?_
  refine jN ⟨i + 1, (js10 rfl rfl rfl rfl rfl rfl rfl rfl rfl rfl), ?_, ?_⟩
  ·
   exact ⟨hc2, hb13, K10.own hf13 (by simp; omega)⟩
  ·
   first | omega | (dsimp only; omega)
 ·
  refine jX ?_
  refine thenQ_x (thenQ_x (blockQ_x ?_))
  refine jN (jv7 4 7 8 9 10 11 12 ?_)
  refine jS (jR ?_)
  have ei : i = (listM bs).length := by omega
  subst ei
  rw [List.take_length] at hb12
  refine Ops.r (v := .slice (some ⟨g12, 0, none⟩) 19 19) (Run.sliceA 0 19 rfl Try.underlying54 Try.sizeOf3 evB.none_ evB.none_ (by omega) (by omega)) rfl ?_
  refine Ops.cl (Enters.fn (evs.cons rfl (evs.cons rfl evs.nil)) Try.call25) (lens_n (some ⟨g12, 0, none⟩) 19 19 (timesC (listM bs)) 7 wr (timesC_len _) (by omega) (fun x hx => by have := timesC_le _ x hx; omega) (by omega) (by omega) (by decide) (Rd.of_blk (n := 19) (size := 1) hb12 (by simp [NI, timesC_len]))) rfl ?_
  rintro e w14 ⟨B3, c3, rfl, ho3, hf14, _, h3o⟩
  refine ⟨_, rfl, ?_⟩
  have K10 := K10.trans hf14 (by simp)
  have ho3 : Own w14 3 1 B3 19 c3 (NI (thirdM bs)) := ho3
  have h3o : LenOk (timesC (listM bs)) (thirdM bs) 7 := h3o
  have h3l : (thirdM bs).length = 19 := h3o.len.trans (timesC_len _)
  refine Ops.r (Run.extract rfl rfl) rfl ?_
  refine Ops.r (Run.extract rfl rfl) rfl ?_
  refine Ops.cl (Enters.fn (evs.cons rfl (evs.cons rfl evs.nil)) Try.call24) (mustI_spec _ _ _) rfl ?_
  rintro e _ ⟨rfl, rfl⟩
  refine ⟨_, rfl, ?_⟩
  refine jA ?_
  refine jO (jN (jv7 4 7 8 9 10 11 15 ?_))
  refine jS (jR (jM ?_))
  refine Ops.cl (Enters.fn (evs.cons rfl evs.nil) Try.call28) (order_n B3 c3 (thirdM bs) w14 h3l ho3.rd) rfl ?_
  rintro e w15 ⟨Bo, co, rfl, hoo, hf15, _⟩
  refine ⟨_, rfl, ?_⟩
  have K10 := K10.trans hf15 (by simp)
  have ho3 := ho3.frm hf15 (by simp)
  refine Ops.cl (Enters.fn (evs.cons rfl (evs.cons rfl evs.nil)) Try.call26) (cut_sp Bo co 4 (ordL (thirdM bs)) w15 (by rw [ordL_len]; omega) hoo.le hoo.rd) rfl ?_
  rintro e _ ⟨⟨Bw, dw, rfl, hrw, hcw⟩, rfl⟩
  refine ⟨_, rfl, ?_⟩
  have hrw : Rd w15 1 Bw (writM bs).length (NI (writM bs)) := hrw
  have ew : (cutL (ordL (thirdM bs)) 4).length = (writM bs).length := rfl
  rw [ew]
  have hwb : 4 ≤ (writM bs).length ∧ (writM bs).length ≤ 19 := by
   have := cutL_bound (ordL (thirdM bs)) 4 (by rw [ordL_len]; omega)
   rw [ordL_len] at this
   exact this
  have hw7 : ∀ i, (writM bs).getD i 0 ≤ 7 := cutL_getD _ _ _ (ordL_getD _ _ h3o.most)
  generalize hvw : (writM bs).length = vw at *
  have hot := hot.frm K10 (by simp)
  have hoa := hoa.frm K10 (by simp)
  have hob := hob.frm K10 (by simp)
  have hol := hol.frm K10 (by simp)
  have K := K.trans K10 (by simp)
  clear hoo hcw
  refine jA ?_
  refine jO (jN (jv8 4 7 8 9 10 11 15 16 ?_))
  refine jS (jR ?_)
  refine Ops.cl (Enters.fn evs.nil Try.call18) (new_spec _) rfl ?_
  rintro e w16 ⟨rfl, hW, hf16, _⟩
  refine ⟨_, rfl, ?_⟩
  have K11 := hf16
  obtain ⟨g, hgl, hgv⟩ : ∃ g, w15.heap.size ≤ g ∧ g = w15.heap.size := ⟨_, Nat.le_refl _, rfl⟩
  rw [← hgv] at hW
  rw [← hgv]
  have hA0 : ∀ x ∈ ob (none : Option Addr), w15.heap.size ≤ x := by simp [ob]
  refine jA ?_
  refine jO (jN (jv9 4 7 8 9 10 11 15 16 17 ?_))
  refine jS (jR (jM ?_))
  refine Ops.cl (Enters.fn (evs.cons rfl (evs.cons rfl (evs.cons rfl evs.nil))) Try.call19) (put_ok g 1 1 none _ w16 (by decide) (by omega) (by simp [bitsL_len]) hW) rfl ?_
  rintro e w17 ⟨rfl, A1, hW1, hfp, hAp⟩
  refine ⟨_, rfl, ?_⟩
  have K11n := K11.own hfp (fun x hx => by rcases List.mem_cons.1 hx with rfl | hx; exact hgl; exact hA0 x hx)
  have hA0 : ∀ x ∈ ob A1, w15.heap.size ≤ x := fun x hx => by rcases hAp x hx with h | h; exact hA0 x h; have := K11.size; omega
  have K11 := K11n
  clear K11n hfp hAp
  refine jO (jN (jv9 4 7 8 9 10 11 15 16 17 ?_))
  refine jS (jR (jM ?_))
  refine Ops.cl (Enters.fn (evs.cons rfl (evs.cons rfl (evs.cons rfl evs.nil))) Try.call19) (put_ok g 2 2 A1 _ w17 (by decide) (by omega) (by simp [bitsL_len]) hW1) rfl ?_
  rintro e w18 ⟨rfl, A2, hW2, hfp, hAp⟩
  refine ⟨_, rfl, ?_⟩
  have K11n := K11.own hfp (fun x hx => by rcases List.mem_cons.1 hx with rfl | hx; exact hgl; exact hA0 x hx)
  have hA0 : ∀ x ∈ ob A2, w15.heap.size ≤ x := fun x hx => by rcases hAp x hx with h | h; exact hA0 x h; have := K11.size; omega
  have K11 := K11n
  clear K11n hfp hAp
  refine jO (jN (jv9 4 7 8 9 10 11 15 16 17 ?_))
  refine jS (jR (jM ?_))
  refine jM ?_
  refine Ops.r (Run.lenS rfl Try.underlying38) rfl ?_
  refine Ops.r (Run.bin rfl rfl (Bin.sub_i64 _ 257 (by omega) (by omega))) rfl ?_
  refine Ops.r (Run.convN _ rfl Try.underlying3 Try.underlying37 (by simp only [bmax]; omega)) rfl ?_
  refine Ops.cl (Enters.fn (evs.cons rfl (evs.cons rfl (evs.cons rfl evs.nil))) Try.call19) (put_ok g (vm - 257) 5 A2 _ w18 (by omega) (by omega) (by simp [bitsL_len]) hW2) rfl ?_
  rintro e w19 ⟨rfl, A3, hW3, hfp, hAp⟩
  refine ⟨_, rfl, ?_⟩
  have K11n := K11.own hfp (fun x hx => by rcases List.mem_cons.1 hx with rfl | hx; exact hgl; exact hA0 x hx)
  have hA0 : ∀ x ∈ ob A3, w15.heap.size ≤ x := fun x hx => by rcases hAp x hx with h | h; exact hA0 x h; have := K11.size; omega
  have K11 := K11n
  clear K11n hfp hAp
  refine jO (jN (jv8 4 7 8 10 11 15 16 17 ?_))
  refine jS (jR (jM ?_))
  refine jM ?_
  refine Ops.r (Run.lenS rfl Try.underlying38) rfl ?_
  refine Ops.r (Run.bin rfl rfl (Bin.sub_i64 _ 1 (by omega) (by omega))) rfl ?_
  refine Ops.r (Run.convN _ rfl Try.underlying3 Try.underlying37 (by simp only [bmax]; omega)) rfl ?_
  refine Ops.cl (Enters.fn (evs.cons rfl (evs.cons rfl (evs.cons rfl evs.nil))) Try.call19) (put_ok g (vf - 1) 5 A3 _ w19 (by omega) (by omega) (by simp [bitsL_len]) hW3) rfl ?_
  rintro e w20 ⟨rfl, A4, hW4, hfp, hAp⟩
  refine ⟨_, rfl, ?_⟩
  have K11n := K11.own hfp (fun x hx => by rcases List.mem_cons.1 hx with rfl | hx; exact hgl; exact hA0 x hx)
  have hA0 : ∀ x ∈ ob A4, w15.heap.size ≤ x := fun x hx => by rcases hAp x hx with h | h; exact hA0 x h; have := K11.size; omega
  have K11 := K11n
  clear K11n hfp hAp
  refine jO (jN (jv7 4 7 8 11 15 16 17 ?_))
  refine jS (jR (jM ?_))
  refine jM ?_
  refine Ops.r (Run.lenS rfl Try.underlying38) rfl ?_
  refine Ops.r (Run.bin rfl rfl (Bin.sub_i64 _ 4 (by omega) (by omega))) rfl ?_
  refine Ops.r (Run.convN _ rfl Try.underlying3 Try.underlying37 (by simp only [bmax]; omega)) rfl ?_
  refine Ops.cl (Enters.fn (evs.cons rfl (evs.cons rfl (evs.cons rfl evs.nil))) Try.call19) (put_ok g (vw - 4) 4 A4 _ w20 (by omega) (by omega) (by simp [bitsL_len]) hW4) rfl ?_
  rintro e w21 ⟨rfl, A5, hW5, hfp, hAp⟩
  refine ⟨_, rfl, ?_⟩
  have K11n := K11.own hfp (fun x hx => by rcases List.mem_cons.1 hx with rfl | hx; exact hgl; exact hA0 x hx)
  have hA0 : ∀ x ∈ ob A5, w15.heap.size ≤ x := fun x hx => by rcases hAp x hx with h | h; exact hA0 x h; have := K11.size; omega
  have K11 := K11n
  clear K11n hfp hAp
  refine jO (jN (jv7 4 7 8 11 15 16 17 ?_))
  refine jS (jS (jR (jM ?_)))
  refine Ops.r (Run.lenS rfl Try.underlying38) rfl ?_
  refine Ops.r (v := .int .i64 ((0 : Nat) : Int)) (Run.mv rfl) rfl ?_
  refine jO (jN (jv9 4 7 8 11 15 17 98 99 100 ?_))
  refine jB ?_
  obtain ⟨PRE, hPRE⟩ : ∃ P, P = (([] : List Bool) ++ bitsL 1 1 ++ bitsL 2 2 ++ bitsL (vm - 257) 5 ++ bitsL (vf - 1) 5 ++ bitsL (vw - 4) 4) := ⟨_, rfl⟩
  rw [← hPRE] at hW5
  have hPl : PRE.length = 17 := by rw [hPRE]; simp [bitsL_len]
  refine VC.loop (σ := Nat × Option Addr) (fun s => [(4, _), (7, _), (8, _), (11, _), (15, _), (17, .pointer (some ⟨g, 0, none⟩)), (98, .slice Bw vw dw), (99, .int .i64 ((vw : Nat) : Int)), (100, .int .i64 ((s.1 : Nat) : Int))]) (fun s wr => s.1 ≤ vw ∧ IsW wr g s.2 (PRE ++ ((writM bs).take s.1).flatMap (fun n => bitsL n 3)) ∧ Frm [] w15 wr ∧ ∀ x ∈ ob s.2, w15.heap.size ≤ x) (fun s => vw - s.1) (0, A5) (js9 rfl rfl rfl rfl rfl rfl rfl rfl rfl) ⟨Nat.zero_le _, by simpa using hW5, K11, hA0⟩ ?_
  rintro ⟨i, A6⟩ wr ⟨hi, hW6, K11, hA0⟩
  dsimp only at hi hW6 hA0 ⊢
  have hfl := flat_three ((writM bs).take i)
  have hti := List.length_take_le i (writM bs)
  refine jS (jR ?_)
  refine Ops.r (Run.bin rfl rfl (Bin.lssN _ _)) rfl ?_
  refine jO (jN (jS ?_))
  refine VC.condD rfl (fun hc3 => ?_) (fun hc3 => ?_)
  ·
   obtain ⟨ad, rfl, _, hadc⟩ := (hrw.frm K11 (by simp)).2 (by omega)
   have hcell := hadc i _ (NI_get (writM bs) i (by omega))
   have hsn := nat_snoc (show i < (writM bs).length by omega)
   have hq7 := hw7 i
   generalize (writM bs).getD i 0 = q at hcell hsn hq7
   refine jQ (jN (jv9 4 7 8 11 15 17 98 99 100 ?_))
   refine jS (jB (jS (jR ?_)))
   refine Ops.r (Run.index1 _ rfl rfl Try.underlying38 Try.sizeOf3 (by omega)) rfl ?_
   refine Ops.r (Run.load rfl Try.isAgg3 hcell) rfl ?_
   refine jA ?_
   refine jO (jN (jv10 4 7 8 11 15 17 19 98 99 100 ?_))
   refine jR (jM ?_)
   refine jM ?_
   refine Ops.r (Run.convN _ rfl Try.underlying3 Try.underlying37 (by simp only [bmax]; omega)) rfl ?_
   refine Ops.cl (Enters.fn (evs.cons rfl (evs.cons rfl (evs.cons rfl evs.nil))) Try.call19) (put_ok g q 3 A6 _ wr (by omega) (by omega) (by rw [List.length_append]; omega) hW6) rfl ?_
   rintro e w22 ⟨rfl, A7, hW7, hfp, hAp⟩
   refine ⟨_, rfl, ?_⟩
   have K11n := K11.own hfp (fun x hx => by rcases List.mem_cons.1 hx with rfl | hx; exact hgl; exact hA0 x hx)
   have hA0 : ∀ x ∈ ob A7, w15.heap.size ≤ x := fun x hx => by rcases hAp x hx with h | h; exact hA0 x h; have := K11.size; omega
   refine jO ?_
   refine blockQ_n (jN ?_)
   refine jv9 4 7 8 11 15 17 98 99 100 ?_
   refine jR ?_
   refine Ops.r (Run.bin rfl rfl (Bin.add_i64 _ 1 (by omega))) rfl ?_
   refine jM ?_
   refine jO ?_
   refine jN ⟨(i + 1, A7), (js9 rfl rfl rfl rfl rfl rfl rfl rfl rfl), ?_, ?_⟩
   ·
    exact ⟨hc3, by rw [hsn, List.flatMap_append, List.flatMap_singleton, ← List.append_assoc]; exact hW7, K11n, hA0⟩
   ·
    first | omega | (dsimp only; omega)
  ·
   refine jX ?_
   refine thenQ_x (thenQ_x (blockQ_x ?_))
   refine jN (jv6 4 7 8 11 15 17 ?_)
   refine jS (jR (jM ?_))
   refine jM ?_
   refine Ops.cl (Enters.fn (evs.cons rfl evs.nil) Try.call31) (codes_n B3 19 c3 (thirdM bs) wr h3l h3o.ok (ho3.frm K11 (by simp)).rd) rfl ?_
   rintro e w23 ⟨hf23, Bc, cc, rfl, hoc⟩
   refine ⟨_, rfl, ?_⟩
   have hW6 := hW6.new hf23
   have K11 := K11.trans hf23 (by simp)
   refine Ops.r (Run.extract rfl rfl) rfl ?_
   refine Ops.r (Run.extract rfl rfl) rfl ?_
   refine Ops.cl (Enters.fn (evs.cons rfl (evs.cons rfl evs.nil)) Try.call30) (mustC_spec _ _ _) rfl ?_
   rintro e _ ⟨rfl, rfl⟩
   refine ⟨_, rfl, ?_⟩
   refine Ops.cl (Enters.fn (evs.cons rfl (evs.cons rfl evs.nil)) Try.call29) (more_spec (.pointer (some ⟨g, 0, none⟩)) (.slice Bc 19 cc) rfl rfl _) rfl ?_
   rintro e w24 ⟨g2, g3, rfl, hg2, hg3, hf24⟩
   refine ⟨_, rfl, ?_⟩
   have hW6 := hW6.new hf24
   have hoc := hoc.frm hf24 (by simp)
   have K11 := K11.trans hf24 (by simp)
   have ei : i = vw := by omega
   subst ei
   rw [← hvw, List.take_length] at hW6
   refine jA ?_
   refine jO (jN (jv6 4 7 8 11 17 20 ?_))
   refine jS (jS (jR (jM ?_)))
   refine Ops.r (Run.lenS rfl Try.underlying52) rfl ?_
   refine Ops.r (v := .int .i64 ((0 : Nat) : Int)) (Run.mv rfl) rfl ?_
   refine jO (jN (jv8 4 7 8 17 20 116 117 118 ?_))
   refine jB ?_
   refine VC.loop (σ := Nat × Option Addr) (fun s => [(4, _), (7, _), (8, _), (17, .pointer (some ⟨g, 0, none⟩)), (20, .func (.func 59) #[] #[.pointer (some ⟨g2, 0, none⟩), .pointer (some ⟨g3, 0, none⟩)]), (116, .slice Bl (listM bs).length dl), (117, .int .i64 (((listM bs).length : Nat) : Int)), (118, .int .i64 ((s.1 : Nat) : Int))]) (fun s wr => s.1 ≤ (listM bs).length ∧ IsW wr g s.2 (PRE ++ (writM bs).flatMap (fun n => bitsL n 3) ++ ((listM bs).take s.1).flatMap (sayB (toZ (thirdM bs)))) ∧ Frm [] w15 wr ∧ (∀ x ∈ ob s.2, w15.heap.size ≤ x) ∧ Blk wr g2 34 #[.pointer (some ⟨g, 0, none⟩)] ∧ Blk wr g3 60 #[.slice Bc 19 cc] ∧ Own wr 116 2 Bc 19 cc ((codesL (toZ (thirdM bs))).flatMap CB)) (fun s => (listM bs).length - s.1) (0, A6) (js8 rfl rfl rfl rfl rfl rfl rfl rfl) ⟨Nat.zero_le _, by simpa using hW6, K11, hA0, hg2, hg3, hoc⟩ ?_
   rintro ⟨i, A8⟩ wr ⟨hi, hW8, K11, hA0, hg2, hg3, hoc⟩
   dsimp only at hi hW8 hA0 ⊢
   have hfl2 := say_flat h3o.ok (by rw [toZ_len, h3l]; omega) ((listM bs).take i) (fun t ht => hLok t (List.mem_of_mem_take ht))
   have hti2 : ((listM bs).take i).length = i := by rw [List.length_take, Nat.min_eq_left hi]
   have hfl3 := flat_three (writM bs)
   have hbl : (PRE ++ (writM bs).flatMap (fun n => bitsL n 3) ++ ((listM bs).take i).flatMap (sayB (toZ (thirdM bs)))).length ≤ 100000 := by
    rw [List.length_append, List.length_append, hPl, hfl3, hvw]
    omega
   refine jS (jR ?_)
   refine Ops.r (Run.bin rfl rfl (Bin.lssN _ _)) rfl ?_
   refine jO (jN (jS ?_))
   refine VC.condD rfl (fun hc4 => ?_) (fun hc4 => ?_)
   ·
    have hol1 := hol.frm K11 (by simp)
    obtain ⟨ad, rfl, hel⟩ := hol1.rd.elem hc4
    rw [flat3s (listM bs) i hc4] at hel
    have hsn := sd_snoc hc4
    have hqok := hLok ((listM bs).getD i (0, 0, 0)) (by rw [List.getD_eq_getElem?_getD, List.getElem?_eq_getElem hc4]; exact List.getElem_mem hc4)
    generalize (listM bs).getD i (0, 0, 0) = q at hel hsn hqok
    refine jQ (jN (jv8 4 7 8 17 20 116 117 118 ?_))
    refine jS (jB (jS (jR ?_)))
    refine Ops.r (Run.indexS _ rfl rfl Try.underlying52 Try.sizeOf56 (by omega)) rfl ?_
    refine Ops.r (Run.loadA rfl Try.isAgg56 Try.sizeOf56 hel (by first | rfl | (simp; done))) rfl ?_
    refine Ops.m (Does.alloc zero56) rfl ?_
    rintro _ w25 ⟨rfl, hF25⟩
    refine Ops.st (Acts.storeA rfl rfl Try.sizeOf56 hF25.blk rfl (by intro v hv; exact SDC_one [q] v (by simpa [SDC] using hv))) ?_
    rintro w26 ⟨hb22, hf26, hs26⟩
    have hf26 : Frm [] wr w26 := hF25.frm.own hf26 (by simp)
    have hW8 := hW8.new hf26
    have hg2 := hg2.frm hf26 (by simp)
    have hg3 := hg3.frm hf26 (by simp)
    have hoc := hoc.frm hf26 (by simp)
    have K11 := K11.trans hf26 (by simp)
    refine jO (jN (jv9 4 7 8 17 20 22 116 117 118 ?_))
    refine jR (jM ?_)
    refine Ops.r (Run.fieldAddr rfl Try.underlying56 rfl Try.sizeOf3 (by decide)) rfl ?_
    refine Ops.r (Run.load rfl Try.isAgg3 (hb22.cell 0)) rfl ?_
    refine Ops.r (Run.fieldAddr rfl Try.underlying56 rfl Try.sizeOf3 (by decide)) rfl ?_
    refine Ops.r (Run.load rfl Try.isAgg3 (hb22.cell 1)) rfl ?_
    refine Ops.r (Run.fieldAddr rfl Try.underlying56 rfl Try.sizeOf3 (by decide)) rfl ?_
    refine Ops.r (Run.load rfl Try.isAgg3 (hb22.cell 2)) rfl ?_
    refine Ops.cl (Enters.dyn rfl (evs.cons rfl (evs.cons rfl (evs.cons rfl evs.nil))) Try.call59) (more1_n 19 g g2 g3 q.1 q.2.1 q.2.2 cc A8 Bc _ (toZ (thirdM bs)) w26 (by rw [toZ_len, h3l]) h3o.ok.1 h3o.ok.2 hqok.1 hqok.2.2 (by have := hqok.2.1; omega) (by omega) hW8 hoc hg2 hg3) rfl ?_
    rintro e w27 ⟨rfl, A9, hW9, hf27, hA9⟩
    refine ⟨_, rfl, ?_⟩
    have hg2 := hW8.keepB hf27 hg2 (by decide) (by decide)
    have hg3 := hW8.keepB hf27 hg3 (by decide) (by decide)
    have hoc := hW8.keepO hf27 hoc (by decide) (by decide)
    have hA0n : ∀ x ∈ ob A9, w15.heap.size ≤ x := fun x hx => by rcases hA9 x hx with h | h; exact hA0 x h; have := K11.size; omega
    have K11 := K11.own hf27 (fun x hx => by rcases List.mem_cons.1 hx with rfl | hx; exact hgl; exact hA0 x hx)
    refine jO ?_
    refine blockQ_n (jN ?_)
    refine jv8 4 7 8 17 20 116 117 118 ?_
    refine jR ?_
    refine Ops.r (Run.bin rfl rfl (Bin.add_i64 _ 1 (by omega))) rfl ?_
    refine jM ?_
    refine jO ?_
    refine jN ⟨(i + 1, A9), (js8 rfl rfl rfl rfl rfl rfl rfl rfl), ?_, ?_⟩
    ·
     exact ⟨hc4, by rw [hsn, List.flatMap_append, List.flatMap_singleton]; unfold sayB at hW9 ⊢; simpa [List.append_assoc] using hW9, K11, hA0n, hg2, hg3, hoc⟩
    ·
     first | omega | (dsimp only; omega)
   ·
    refine jX ?_
    refine thenQ_x (thenQ_x (blockQ_x ?_))
    refine jN (jv4 4 7 8 17 ?_)
    refine jS (jR (jM ?_))
    refine jM ?_
    refine jM ?_
    refine jM ?_
    refine Ops.cl (Enters.fn (evs.cons rfl (evs.cons rfl (evs.cons rfl (evs.cons rfl evs.nil)))) Try.call21) (tokens_n g dt ca cb 286 30 nt A8 Bt Ba Bb _ (toks bs 0) (litsM bs) (waysM bs) wr hL1 hL2 hntv hlo.ok hwo.ok (by omega) (by omega) hok (by omega) (by omega) hW8 (hot.frm K11 (by simp)) (hoa.frm K11 (by simp)).rd (hob.frm K11 (by simp)).rd) rfl ?_
    rintro e w28 ⟨rfl, A9, hW9, hf28, hA9⟩
    refine ⟨_, rfl, ?_⟩
    have K11 := K11.own hf28 (fun x hx => by rcases List.mem_cons.1 hx with rfl | hx; exact hgl; exact hA0 x hx)
    have ei : i = (listM bs).length := by omega
    subst ei
    have hfin : PRE ++ (writM bs).flatMap (fun n => bitsL n 3) ++ ((listM bs).take (listM bs).length).flatMap (sayB (toZ (thirdM bs))) ++ toksB (toZ (litsM bs)) (toZ (waysM bs)) (toks bs 0) = dynB bs := by
     rw [List.take_length, hPRE]
     unfold dynB
     rw [hvm, hvf, hvw, List.nil_append]
    rw [hfin] at hW9
    refine jO (jN (jv1 17 ?_))
    refine jS (jR (jM ?_))
    refine Ops.cl (Enters.fn (evs.cons rfl evs.nil) Try.call22) (bytes_spec g A9 (dynB bs) w28 (by have h1 := toks_flat hlo.ok hwo.ok (by rw [toZ_len]; omega) (by rw [toZ_len]; omega) _ hok; have h3 := cbits_len hlo.ok.1 hlo.ok.2 (show 256 < (toZ (litsM bs)).length by rw [toZ_len]; omega); rw [← hfin]; unfold toksB; simp only [List.length_append] at hbl ⊢; omega) hW9) rfl ?_
    rintro e w29 ⟨B, d, rfl, hB7, hf29, hu7⟩
    refine ⟨_, rfl, ?_⟩
    refine jA ?_
    refine Ops.r (v := .int .i64 ((0 : Nat) : Int)) (Run.asg rfl) rfl ?_
    refine jO (jN (jv2 2 3 ?_))
    refine jT ?_
    refine end2 rfl rfl ?_
    exact ⟨B, d, rfl, hB7, (K.trans K11 (by simp)).trans hf29 (by simp), fun x hx => by have := hu7 x hx; have := K.size; have := K11.size; omega⟩
set_option maxRecDepth 100000 in
theorem ddyn_big (A : Option Addr) (n c : Nat) (w : World) (hn : 65536 < n) :
  Calls Try.prog 8 #[.slice A n c] w fun e w' => e = .returned (.tuple #[.slice none 0 0, .int .i64 ((5 : Nat) : Int)]) ∧ w = w' := by
 refine VC.calls (nt := 138) (res := #[.tmp 2, .tmp 3]) Try.func8 rfl Try.ntmps8 Try.results8 rfl ?_
 refine jS (jR (jA ?_))
 refine Ops.r (v := .int .i64 ((0 : Nat) : Int)) (Run.asg rfl) rfl ?_
 refine jO (jN (jv1 0 ?_))
 refine jS (jR (jM ?_))
 refine Ops.cl (Enters.fn (evs.cons rfl evs.nil) Try.call17) (find_big A n c w hn) rfl ?_
 rintro e _ ⟨rfl, rfl⟩
 refine ⟨_, rfl, ?_⟩
 refine jM ?_
 refine Ops.r (Run.extract rfl rfl) rfl ?_
 refine Ops.r (Run.extract rfl rfl) rfl ?_
 refine jA ?_
 refine jA ?_
 refine jO (jN (jv2 4 5 ?_))
 refine jS (jS (jR (jM ?_)))
 refine Ops.r (Run.bin rfl rfl (Bin.neqN _ 0)) rfl ?_
 refine jO (jN (jv3 4 5 29 ?_))
 refine VC.condT rfl (by decide) ?_
 refine jS (jR (jM ?_))
 refine jA ?_
 refine jA ?_
 refine jO (jN (jv2 2 3 ?_))
 refine jT ?_
 refine thenQ_r (end2 rfl rfl ?_)
 exact ⟨rfl, rfl⟩
end Go.Proofs.Ytnmieihcjjiccaa
namespace Go.Proofs.Ytnmieihcjjiccaa
open Go.RowKit
set_option maxRecDepth 100000 in
theorem rsay_spec (A : Option Addr) (c : Nat) (l : List Nat) (w : World) (hl : l.length ≤ 100000) (hr : Rd w 1 A l.length (NI l)) :
  Calls Try.prog 42 #[.slice A l.length c] w fun e w' => ∃ B d, e = .returned (.slice B (sayM l 0).length d) ∧ Own w' 81 3 B (sayM l 0).length d (SDC (sayM l 0)) ∧ Frm [] w w' ∧ ∀ x ∈ ob B, w.heap.size ≤ x := by
 refine VC.calls (nt := 109) (res := #[.tmp 2]) Try.func42 rfl Try.ntmps42 Try.results42 rfl ?_
 refine jS (jR (jA ?_))
 refine jO (jN (jv1 0 ?_))
 refine jS (jR (jA ?_))
 refine jO (jN (jS (jR ?_)))
 refine Ops.r (v := .int .i64 ((0 : Nat) : Int)) (Run.asg rfl) rfl ?_
 refine jO (jN (jS (jB ?_)))
 refine VC.loop (σ := Nat × List Sd × Option Addr × Nat) (fun s => [(0, .slice A l.length c), (3, .slice s.2.2.1 s.2.1.length s.2.2.2), (4, .int .i64 ((s.1 : Nat) : Int))]) (fun s wr => s.1 ≤ l.length ∧ sayM l 0 = s.2.1 ++ sayM l s.1 ∧ s.2.1.length ≤ s.1 ∧ Own wr 81 3 s.2.2.1 s.2.1.length s.2.2.2 (SDC s.2.1) ∧ Frm [] w wr ∧ ∀ x ∈ ob s.2.2.1, w.heap.size ≤ x) (fun s => l.length - s.1) (0, [], none, 0) (js3 rfl rfl rfl) ⟨Nat.zero_le _, rfl, Nat.le_refl _, Own.nil _ _ _, Frm.refl _ _, by simp [ob]⟩ ?_
 rintro ⟨a, pre, B, d⟩ wo ⟨ha, hsp, hpl, hO, K, hup⟩
 dsimp only at ha hsp hpl hO hup ⊢
 refine jS (jS (jR (jM ?_)))
 refine jM ?_
 refine Ops.r (Run.lenS rfl Try.underlying38) rfl ?_
 refine Ops.r (Run.bin rfl rfl (Bin.lssN _ _)) rfl ?_
 refine jO (jN (jv4 0 3 4 9 ?_))
 refine VC.condD rfl (fun hc1 => ?_) (fun hc1 => ?_)
 ·
  obtain ⟨ad, hA, _, hadc⟩ := (hr.frm K (by simp)).2 (by omega)
  subst hA
  have hcell0 : ∀ j, j < l.length → wo.cell? (ad.add j) = some (.int .i64 ((l.getD j 0 : Nat) : Int)) := fun j hj => hadc j _ (NI_get l j hj)
  refine jQ (jN (jv3 0 3 4 ?_))
  refine jB (jS (jR ?_))
  refine Ops.r (v := .int .i64 ((1 : Nat) : Int)) (Run.asg rfl) rfl ?_
  refine jO (jN (jS (jB ?_)))
  refine VC.loop (σ := Nat) (fun s => [(0, .slice (some ad) l.length c), (3, .slice B pre.length d), (4, .int .i64 ((a : Nat) : Int)), (5, .int .i64 ((s : Nat) : Int))]) (fun s wr => 1 ≤ s ∧ a + s ≤ l.length ∧ runN l a = s + runF l (l.getD a 0) (l.length - (a + s)) (a + s) ∧ Drawn wo wr) (fun s => l.length - (a + s)) 1 (js4 rfl rfl rfl rfl) ⟨Nat.le_refl _, by omega, by unfold runN; rw [runF_go hc1 rfl (by omega), show l.length - a - 1 = l.length - (a + 1) by omega]; omega, Drawn.refl wo⟩ ?_
  rintro n wR ⟨hn1, hn, hcn, hd⟩
  have hcell : ∀ j, j < l.length → wR.cell? (ad.add j) = some (.int .i64 ((l.getD j 0 : Nat) : Int)) := fun j hj => by
   obtain ⟨m, rfl⟩ := hd
   exact hcell0 j hj
  refine jS (jS ?_)
  refine VC.splitR [(0, .slice (some ad) l.length c), (3, .slice B pre.length d), (4, .int .i64 ((a : Nat) : Int)), (5, .int .i64 ((n : Nat) : Int))] (Drawn wo) 28 (.bool (decide (a + n < l.length ∧ l.getD (a + n) 0 = l.getD a 0))) ?_ ?_
  ·
   refine VC.still jK jK ?_
   refine SOps.r (Run.mv rfl) rfl ?_
   refine SOps.r (Run.mv rfl) rfl ?_
   refine SOps.r (Run.bin rfl rfl (Bin.add_i64 _ _ (by omega))) rfl ?_
   refine SOps.r (Run.mv rfl) rfl ?_
   refine SOps.r (Run.lenS rfl Try.underlying38) rfl ?_
   refine SOps.r (Run.bin rfl rfl (Bin.lssN _ _)) rfl ?_
   by_cases hs15 : a + n < l.length
   ·
    refine SOps.r (Run.mv rfl) rfl ?_
    refine SOps.rg rfl au (Run.mv rfl) rfl ?_
    refine SOps.rg rfl au (Run.mv rfl) rfl ?_
    refine SOps.rg rfl au (Run.mv rfl) rfl ?_
    refine SOps.rg rfl au (Run.bin rfl rfl (Bin.add_i64 _ _ (by omega))) rfl ?_
    refine SOps.rg rfl au (Run.index1 _ rfl rfl Try.underlying38 Try.sizeOf3 (by omega)) rfl ?_
    refine SOps.rg rfl au (Run.load rfl Try.isAgg3 (hcell _ (by omega))) rfl ?_
    refine SOps.rg rfl au (Run.mv rfl) rfl ?_
    refine SOps.rg rfl au (Run.mv rfl) rfl ?_
    refine SOps.rg rfl au (Run.index1 _ rfl rfl Try.underlying38 Try.sizeOf3 (by omega)) rfl ?_
    refine SOps.rg rfl au (Run.load rfl Try.isAgg3 (hcell _ (by omega))) rfl ?_
    refine SOps.rg rfl au (Run.bin rfl rfl (Bin.eqlN _ _)) rfl ?_
    by_cases hs27 : l.getD (a + n) 0 = l.getD a 0
    ·
     refine SOps.r (Run.pickT rfl rfl au) rfl ?_
     refine SOps.nil ?_
     refine jN ⟨(js5 (jC (by simp [*])) rfl rfl rfl rfl), (hd.trans (Drawn.drew _))⟩
    ·
     refine SOps.r (Run.pickT rfl rfl au) rfl ?_
     refine SOps.nil ?_
     refine jN ⟨(js5 (jC (by simp [*])) rfl rfl rfl rfl), (hd.trans (Drawn.drew _))⟩
   ·
    refine SOps.r (Run.mv rfl) rfl ?_
    refine SOps.sk rfl au rfl ?_
    refine SOps.sk rfl au rfl ?_
    refine SOps.sk rfl au rfl ?_
    refine SOps.sk rfl au rfl ?_
    refine SOps.sk rfl au rfl ?_
    refine SOps.sk rfl au rfl ?_
    refine SOps.sk rfl au rfl ?_
    refine SOps.sk rfl au rfl ?_
    refine SOps.sk rfl au rfl ?_
    refine SOps.sk rfl au rfl ?_
    refine SOps.sk rfl au rfl ?_
    refine SOps.r (Run.pickF rfl rfl au) rfl ?_
    refine SOps.nil ?_
    refine jN ⟨(js5 (jC (by simp [*])) rfl rfl rfl rfl), (hd.trans (Drawn.drew _))⟩
  ·
   intro Γ wr2 hΓ hd2
   refine jN (VC.sub _ hΓ ?_)
   refine VC.condD rfl (fun hc2 => ?_) (fun hc2 => ?_)
   ·
    refine jQ (jN (jv4 0 3 4 5 ?_))
    refine jB (jR (jM ?_))
    refine Ops.r (Run.bin rfl rfl (Bin.add_i64 _ 1 (by omega))) rfl ?_
    refine jA ?_
    refine jO ?_
    refine blockQ_n (jN ⟨n + 1, (js4 rfl rfl rfl rfl), ?_, ?_⟩)
    ·
     refine ⟨by omega, by omega, ?_, hd2⟩
     rw [hcn, runF_go hc2.1 hc2.2 (by omega), show l.length - (a + (n + 1)) = l.length - (a + n) - 1 by omega, Nat.add_assoc a n 1]
     omega
    ·
     first | omega | (dsimp only; omega)
   ·
    have hrv : runN l a = n := by rw [hcn, runF_stop hc2]; rfl
    have hO := hO.drawn hd2
    have K := K.drawn hd2
    have hrn := runN_le (l := l) (a := a)
    have hrp := runN_pos hc1
    have hat := sayAt_eq hrv
    have hcell2 : ∀ j, j < l.length → wr2.cell? (ad.add j) = some (.int .i64 ((l.getD j 0 : Nat) : Int)) := fun j hj => by
     obtain ⟨m, rfl⟩ := hd2
     exact hcell0 j hj
    refine jX ?_
    refine thenQ_x (thenQ_x (blockQ_x ?_))
    refine jN (jv4 0 3 4 5 ?_)
    refine jS ?_
    refine VC.split1 [(0, _), (3, _), (4, _), (5, _)] (js4 rfl rfl rfl rfl) 39 (.bool (decide (l.getD a 0 = 0 ∧ 10 < n))) ?_ ?_
    ·
     refine jR ?_
     refine jM ?_
     refine jM ?_
     refine Ops.r (Run.index1 _ rfl rfl Try.underlying38 Try.sizeOf3 (by omega)) rfl ?_
     refine Ops.r (Run.load rfl Try.isAgg3 (hcell2 _ hc1)) rfl ?_
     refine Ops.r (Run.bin rfl rfl (Bin.eqlN _ 0)) rfl ?_
     by_cases hs35 : l.getD a 0 = 0
     ·
      refine jM ?_
      refine jG ?_
      refine Ops.rg rfl au (Run.bin rfl rfl (Bin.gtrN _ 10)) rfl ?_
      by_cases hs38 : 10 < n
      ·
       refine Ops.r (Run.pickT rfl rfl au) rfl ?_
       refine jO ?_
       refine jN ⟨(js5 (jC (by first | exact decide_eq_decide.2 ⟨fun h => ⟨by assumption, h⟩, fun h => h.2⟩ | exact (decide_eq_false (fun h => absurd h.1 (by assumption))).symm)) rfl rfl rfl rfl), rfl⟩
      ·
       refine Ops.r (Run.pickT rfl rfl au) rfl ?_
       refine jO ?_
       refine jN ⟨(js5 (jC (by first | exact decide_eq_decide.2 ⟨fun h => ⟨by assumption, h⟩, fun h => h.2⟩ | exact (decide_eq_false (fun h => absurd h.1 (by assumption))).symm)) rfl rfl rfl rfl), rfl⟩
     ·
      refine jM ?_
      refine jU ?_
      refine jU ?_
      refine Ops.r (Run.pickF rfl rfl au) rfl ?_
      refine jO ?_
      refine jN ⟨(js5 (jC (by first | exact decide_eq_decide.2 ⟨fun h => ⟨by assumption, h⟩, fun h => h.2⟩ | exact (decide_eq_false (fun h => absurd h.1 (by assumption))).symm)) rfl rfl rfl rfl), rfl⟩
    ·
     intro Γ hΓ
     refine jN (VC.sub _ hΓ ?_)
     refine VC.condD rfl (fun hc3 => ?_) (fun hc3 => ?_)
     ·
      have hs : sayAt l a = ((18, 7, min n 138 - 11), min n 138) := by rw [hat, if_pos (show l.getD a 0 = 0 ∧ 11 ≤ n from hc3)]
      refine jS (jS (jR (jM ?_)))
      refine Ops.r (Run.bin rfl rfl (Bin.gtrN _ 138)) rfl ?_
      refine jO (jN (jv5 0 3 4 5 41 ?_))
      refine VC.meet (σ := Unit) (fun s => [(0, .slice (some ad) l.length c), (3, .slice B pre.length d), (4, .int .i64 ((a : Nat) : Int)), (5, .int .i64 ((min n 138 : Nat) : Int))]) (fun s wz => wr2 = wz) ?_ ?_
      ·
       refine VC.condD rfl (fun hc4 => ?_) (fun hc4 => ?_)
       ·
        refine jR ?_
        refine Ops.r (v := .int .i64 ((138 : Nat) : Int)) (Run.asg rfl) rfl ?_
        refine jO ?_
        refine jN ⟨(), (js4 rfl rfl rfl (by rw [show min n 138 = 138 by omega]; rfl)), ?_⟩
        rfl
       ·
        refine jQ ?_
        refine jN ⟨(), (js4 rfl rfl rfl (by rw [show min n 138 = n by omega]; rfl)), ?_⟩
        rfl
      ·
       rintro s _ rfl Γ hΓ
       refine jN (VC.sub _ hΓ ?_)
       refine jS (jR (jM ?_))
       refine jM ?_
       refine Ops.r (Run.bin rfl rfl (Bin.sub_i64 _ 11 (by omega) (by omega))) rfl ?_
       refine Ops.r (Run.build (evs.cons rfl (evs.cons rfl (evs.cons rfl evs.nil))) zero81 (places81).choose_spec.1 (places81).choose_spec.2 rfl) rfl ?_
       refine Ops.m (Does.buildS1 rfl Try.underlying78 Try.sizeOf81 zero81 (by decide) (by decide) rfl rfl) rfl ?_
       rintro _ w2 ⟨rfl, hF2⟩
       have hO2 := hO.frm hF2.frm (by simp)
       have hrd2 : Rd w2 3 (some ⟨_, 0, none⟩) 1 (SDC [(18, 7, min n 138 - 11)]) := Rd.of_blk (n := 1) (size := 3) hF2.blk rfl
       refine Ops.m (Does.app rfl rfl Try.underlying78 (info81) rfl (by decide) hO2 hrd2 (SDC_one _) (by omega) (by omega)) rfl ?_
       rintro _ w3 ⟨B3, d3, rfl, hO3, hf3, hob3⟩
       rw [← SDC_append] at hO3
       have K3 := (K.trans hF2.frm (by simp)).own hf3 hup
       have hup3 := up_app hup hob3 (by have := K.size; have := hF2.size; omega)
       refine jA ?_
       refine jO (jN (jv4 0 3 4 5 ?_))
       refine jR (jM ?_)
       refine jM ?_
       refine Ops.r (Run.bin rfl rfl (Bin.add_i64 _ _ (by omega))) rfl ?_
       refine jA ?_
       refine jO ?_
       refine blockQ_n (jN ⟨(a + min n 138, pre ++ [(18, 7, min n 138 - 11)], B3, d3), (js3 rfl (by rw [List.length_append]; rfl) rfl), ?_, ?_⟩)
       ·
        refine ⟨by dsimp only; omega, ?_, by rw [List.length_append]; simp only [List.length_cons, List.length_nil]; omega, by rw [List.length_append]; exact hO3, K3, hup3⟩
        rw [hsp, sayM_step hc1, hs]
        simp
       ·
        first | omega | (dsimp only; omega)
     ·
      refine jS ?_
      refine VC.split1 [(0, _), (3, _), (4, _), (5, _)] (js4 rfl rfl rfl rfl) 59 (.bool (decide (l.getD a 0 = 0 ∧ 2 < n))) ?_ ?_
      ·
       refine jR ?_
       refine jM ?_
       refine jM ?_
       refine Ops.r (Run.index1 _ rfl rfl Try.underlying38 Try.sizeOf3 (by omega)) rfl ?_
       refine Ops.r (Run.load rfl Try.isAgg3 (hcell2 _ hc1)) rfl ?_
       refine Ops.r (Run.bin rfl rfl (Bin.eqlN _ 0)) rfl ?_
       by_cases hs55 : l.getD a 0 = 0
       ·
        refine jM ?_
        refine jG ?_
        refine Ops.rg rfl au (Run.bin rfl rfl (Bin.gtrN _ 2)) rfl ?_
        by_cases hs58 : 2 < n
        ·
         refine Ops.r (Run.pickT rfl rfl au) rfl ?_
         refine jO ?_
         refine jN ⟨(js5 (jC (by first | exact decide_eq_decide.2 ⟨fun h => ⟨by assumption, h⟩, fun h => h.2⟩ | exact (decide_eq_false (fun h => absurd h.1 (by assumption))).symm)) rfl rfl rfl rfl), rfl⟩
        ·
         refine Ops.r (Run.pickT rfl rfl au) rfl ?_
         refine jO ?_
         refine jN ⟨(js5 (jC (by first | exact decide_eq_decide.2 ⟨fun h => ⟨by assumption, h⟩, fun h => h.2⟩ | exact (decide_eq_false (fun h => absurd h.1 (by assumption))).symm)) rfl rfl rfl rfl), rfl⟩
       ·
        refine jM ?_
        refine jU ?_
        refine jU ?_
        refine Ops.r (Run.pickF rfl rfl au) rfl ?_
        refine jO ?_
        refine jN ⟨(js5 (jC (by first | exact decide_eq_decide.2 ⟨fun h => ⟨by assumption, h⟩, fun h => h.2⟩ | exact (decide_eq_false (fun h => absurd h.1 (by assumption))).symm)) rfl rfl rfl rfl), rfl⟩
      ·
       intro Γ hΓ
       refine jN (VC.sub _ hΓ ?_)
       refine VC.condD rfl (fun hc5 => ?_) (fun hc5 => ?_)
       ·
        have hs : sayAt l a = ((17, 3, n - 3), n) := by rw [hat, if_neg (show ¬ (l.getD a 0 = 0 ∧ 11 ≤ n) from hc3), if_pos (show l.getD a 0 = 0 ∧ 3 ≤ n from hc5), show min n 10 = n from Nat.min_eq_left (by have := hc5.1; by_cases h : 11 ≤ n; exact absurd ⟨this, h⟩ hc3; omega)]
        refine jS (jR (jM ?_))
        refine jM ?_
        refine Ops.r (Run.bin rfl rfl (Bin.sub_i64 _ 3 (by omega) (by omega))) rfl ?_
        refine Ops.r (Run.build (evs.cons rfl (evs.cons rfl (evs.cons rfl evs.nil))) zero81 (places81).choose_spec.1 (places81).choose_spec.2 rfl) rfl ?_
        refine Ops.m (Does.buildS1 rfl Try.underlying78 Try.sizeOf81 zero81 (by decide) (by decide) rfl rfl) rfl ?_
        rintro _ w2 ⟨rfl, hF2⟩
        have hO2 := hO.frm hF2.frm (by simp)
        have hrd2 : Rd w2 3 (some ⟨_, 0, none⟩) 1 (SDC [(17, 3, n - 3)]) := Rd.of_blk (n := 1) (size := 3) hF2.blk rfl
        refine Ops.m (Does.app rfl rfl Try.underlying78 (info81) rfl (by decide) hO2 hrd2 (SDC_one _) (by omega) (by omega)) rfl ?_
        rintro _ w3 ⟨B3, d3, rfl, hO3, hf3, hob3⟩
        rw [← SDC_append] at hO3
        have K3 := (K.trans hF2.frm (by simp)).own hf3 hup
        have hup3 := up_app hup hob3 (by have := K.size; have := hF2.size; omega)
        refine jA ?_
        refine jO (jN (jv4 0 3 4 5 ?_))
        refine jR (jM ?_)
        refine jM ?_
        refine Ops.r (Run.bin rfl rfl (Bin.add_i64 _ _ (by omega))) rfl ?_
        refine jA ?_
        refine jO ?_
        refine blockQ_n (jN ⟨(a + n, pre ++ [(17, 3, n - 3)], B3, d3), (js3 rfl (by rw [List.length_append]; rfl) rfl), ?_, ?_⟩)
        ·
         refine ⟨by dsimp only; omega, ?_, by rw [List.length_append]; simp only [List.length_cons, List.length_nil]; omega, by rw [List.length_append]; exact hO3, K3, hup3⟩
         rw [hsp, sayM_step hc1, hs]
         simp
        ·
         first | omega | (dsimp only; omega)
       ·
        refine jS ?_
        refine VC.splitR [(0, .slice (some ad) l.length c), (3, .slice B pre.length d), (4, .int .i64 ((a : Nat) : Int)), (5, .int .i64 ((n : Nat) : Int))] (Drawn wr2) 86 (.bool (decide (0 < a ∧ l.getD (a - 1) 0 = l.getD a 0 ∧ 2 < n))) ?_ ?_
        ·
         refine VC.still jK jK ?_
         refine SOps.r (Run.mv rfl) rfl ?_
         refine SOps.r (Run.bin rfl rfl (Bin.gtrN _ 0)) rfl ?_
         by_cases hs70 : 0 < a
         ·
          refine SOps.r (Run.mv rfl) rfl ?_
          refine SOps.rg rfl au (Run.mv rfl) rfl ?_
          refine SOps.rg rfl au (Run.mv rfl) rfl ?_
          refine SOps.rg rfl au (Run.bin rfl rfl (Bin.sub_i64 _ 1 (by omega) (by omega))) rfl ?_
          refine SOps.rg rfl au (Run.index1 _ rfl rfl Try.underlying38 Try.sizeOf3 (by omega)) rfl ?_
          refine SOps.rg rfl au (Run.load rfl Try.isAgg3 (hcell2 _ (by omega))) rfl ?_
          refine SOps.rg rfl au (Run.mv rfl) rfl ?_
          refine SOps.rg rfl au (Run.mv rfl) rfl ?_
          refine SOps.rg rfl au (Run.index1 _ rfl rfl Try.underlying38 Try.sizeOf3 (by omega)) rfl ?_
          refine SOps.rg rfl au (Run.load rfl Try.isAgg3 (hcell2 _ hc1)) rfl ?_
          refine SOps.rg rfl au (Run.bin rfl rfl (Bin.eqlN _ _)) rfl ?_
          by_cases hs81 : l.getD (a - 1) 0 = l.getD a 0
          ·
           refine SOps.r (Run.pickT rfl rfl au) rfl ?_
           refine SOps.r (Run.mv rfl) rfl ?_
           refine SOps.rg rfl au (Run.mv rfl) rfl ?_
           refine SOps.rg rfl au (Run.bin rfl rfl (Bin.gtrN _ 2)) rfl ?_
           by_cases hs85 : 2 < n
           ·
            refine SOps.r (Run.pickT rfl rfl au) rfl ?_
            refine SOps.nil ?_
            refine jN ⟨(js5 (jC (by first | exact decide_eq_decide.2 ⟨fun h => ⟨by assumption, by assumption, h⟩, fun h => h.2.2⟩ | exact (decide_eq_false (fun h => absurd h.1 (by assumption))).symm | exact (decide_eq_false (fun h => absurd h.2.1 (by assumption))).symm)) rfl rfl rfl rfl), (Drawn.drew _)⟩
           ·
            refine SOps.r (Run.pickT rfl rfl au) rfl ?_
            refine SOps.nil ?_
            refine jN ⟨(js5 (jC (by first | exact decide_eq_decide.2 ⟨fun h => ⟨by assumption, by assumption, h⟩, fun h => h.2.2⟩ | exact (decide_eq_false (fun h => absurd h.1 (by assumption))).symm | exact (decide_eq_false (fun h => absurd h.2.1 (by assumption))).symm)) rfl rfl rfl rfl), (Drawn.drew _)⟩
          ·
           refine SOps.r (Run.pickT rfl rfl au) rfl ?_
           refine SOps.r (Run.mv rfl) rfl ?_
           refine SOps.sk rfl au rfl ?_
           refine SOps.sk rfl au rfl ?_
           refine SOps.r (Run.pickF rfl rfl au) rfl ?_
           refine SOps.nil ?_
           refine jN ⟨(js5 (jC (by first | exact decide_eq_decide.2 ⟨fun h => ⟨by assumption, by assumption, h⟩, fun h => h.2.2⟩ | exact (decide_eq_false (fun h => absurd h.1 (by assumption))).symm | exact (decide_eq_false (fun h => absurd h.2.1 (by assumption))).symm)) rfl rfl rfl rfl), (Drawn.drew _)⟩
         ·
          refine SOps.r (Run.mv rfl) rfl ?_
          refine SOps.sk rfl au rfl ?_
          refine SOps.sk rfl au rfl ?_
          refine SOps.sk rfl au rfl ?_
          refine SOps.sk rfl au rfl ?_
          refine SOps.sk rfl au rfl ?_
          refine SOps.sk rfl au rfl ?_
          refine SOps.sk rfl au rfl ?_
          refine SOps.sk rfl au rfl ?_
          refine SOps.sk rfl au rfl ?_
          refine SOps.sk rfl au rfl ?_
          refine SOps.r (Run.pickF rfl rfl au) rfl ?_
          refine SOps.r (Run.mv rfl) rfl ?_
          refine SOps.sk rfl au rfl ?_
          refine SOps.sk rfl au rfl ?_
          refine SOps.r (Run.pickF rfl rfl au) rfl ?_
          refine SOps.nil ?_
          refine jN ⟨(js5 (jC (by first | exact decide_eq_decide.2 ⟨fun h => ⟨by assumption, by assumption, h⟩, fun h => h.2.2⟩ | exact (decide_eq_false (fun h => absurd h.1 (by assumption))).symm | exact (decide_eq_false (fun h => absurd h.2.1 (by assumption))).symm)) rfl rfl rfl rfl), (Drawn.drew _)⟩
        ·
         intro Γ w9 hΓ hd9
         refine jN (VC.sub _ hΓ ?_)
         refine VC.condD rfl (fun hc6 => ?_) (fun hc6 => ?_)
         ·
          have hs : sayAt l a = ((16, 2, min n 6 - 3), min n 6) := by rw [hat, if_neg (show ¬ (l.getD a 0 = 0 ∧ 11 ≤ n) from hc3), if_neg (show ¬ (l.getD a 0 = 0 ∧ 3 ≤ n) from hc5), if_pos (show 0 < a ∧ l.getD (a - 1) 0 = l.getD a 0 ∧ 3 ≤ n from hc6)]
          have hO := hO.drawn hd9
          have K := K.drawn hd9
          refine jS (jS (jR (jM ?_)))
          refine Ops.r (Run.bin rfl rfl (Bin.gtrN _ 6)) rfl ?_
          refine jO (jN (jv5 0 3 4 5 88 ?_))
          refine VC.meet (σ := Unit) (fun s => [(0, .slice (some ad) l.length c), (3, .slice B pre.length d), (4, .int .i64 ((a : Nat) : Int)), (5, .int .i64 ((min n 6 : Nat) : Int))]) (fun s wz => w9 = wz) ?_ ?_
          ·
           refine VC.condD rfl (fun hc7 => ?_) (fun hc7 => ?_)
           ·
            refine jR ?_
            refine Ops.r (v := .int .i64 ((6 : Nat) : Int)) (Run.asg rfl) rfl ?_
            refine jO ?_
            refine jN ⟨(), (js4 rfl rfl rfl (by rw [show min n 6 = 6 by omega]; rfl)), ?_⟩
            rfl
           ·
            refine jQ ?_
            refine jN ⟨(), (js4 rfl rfl rfl (by rw [show min n 6 = n by omega]; rfl)), ?_⟩
            rfl
          ·
           rintro s _ rfl Γ hΓ
           refine jN (VC.sub _ hΓ ?_)
           refine jS (jR (jM ?_))
           refine jM ?_
           refine Ops.r (Run.bin rfl rfl (Bin.sub_i64 _ 3 (by omega) (by omega))) rfl ?_
           refine Ops.r (Run.build (evs.cons rfl (evs.cons rfl (evs.cons rfl evs.nil))) zero81 (places81).choose_spec.1 (places81).choose_spec.2 rfl) rfl ?_
           refine Ops.m (Does.buildS1 rfl Try.underlying78 Try.sizeOf81 zero81 (by decide) (by decide) rfl rfl) rfl ?_
           rintro _ w2 ⟨rfl, hF2⟩
           have hO2 := hO.frm hF2.frm (by simp)
           have hrd2 : Rd w2 3 (some ⟨_, 0, none⟩) 1 (SDC [(16, 2, min n 6 - 3)]) := Rd.of_blk (n := 1) (size := 3) hF2.blk rfl
           refine Ops.m (Does.app rfl rfl Try.underlying78 (info81) rfl (by decide) hO2 hrd2 (SDC_one _) (by omega) (by omega)) rfl ?_
           rintro _ w3 ⟨B3, d3, rfl, hO3, hf3, hob3⟩
           rw [← SDC_append] at hO3
           have K3 := (K.trans hF2.frm (by simp)).own hf3 hup
           have hup3 := up_app hup hob3 (by have := K.size; have := hF2.size; omega)
           refine jA ?_
           refine jO (jN (jv4 0 3 4 5 ?_))
           refine jR (jM ?_)
           refine jM ?_
           refine Ops.r (Run.bin rfl rfl (Bin.add_i64 _ _ (by omega))) rfl ?_
           refine jA ?_
           refine jO ?_
           refine blockQ_n (jN ⟨(a + min n 6, pre ++ [(16, 2, min n 6 - 3)], B3, d3), (js3 rfl (by rw [List.length_append]; rfl) rfl), ?_, ?_⟩)
           ·
            refine ⟨by dsimp only; omega, ?_, by rw [List.length_append]; simp only [List.length_cons, List.length_nil]; omega, by rw [List.length_append]; exact hO3, K3, hup3⟩
            rw [hsp, sayM_step hc1, hs]
            simp
           ·
            first | omega | (dsimp only; omega)
         ·
          have hs : sayAt l a = ((l.getD a 0, 0, 0), 1) := by rw [hat, if_neg (show ¬ (l.getD a 0 = 0 ∧ 11 ≤ n) from hc3), if_neg (show ¬ (l.getD a 0 = 0 ∧ 3 ≤ n) from hc5), if_neg (show ¬ (0 < a ∧ l.getD (a - 1) 0 = l.getD a 0 ∧ 3 ≤ n) from hc6)]
          have hO := hO.drawn hd9
          have K := K.drawn hd9
          have hcell9 : ∀ j, j < l.length → w9.cell? (ad.add j) = some (.int .i64 ((l.getD j 0 : Nat) : Int)) := fun j hj => by
           obtain ⟨m, rfl⟩ := hd9
           exact hcell2 j hj
          refine jS (jR (jM ?_))
          refine jM ?_
          refine jM ?_
          refine Ops.r (Run.index1 _ rfl rfl Try.underlying38 Try.sizeOf3 (by omega)) rfl ?_
          refine Ops.r (Run.load rfl Try.isAgg3 (hcell9 _ hc1)) rfl ?_
          refine Ops.r (Run.build (evs.cons rfl (evs.cons rfl (evs.cons rfl evs.nil))) zero81 (places81).choose_spec.1 (places81).choose_spec.2 rfl) rfl ?_
          refine Ops.m (Does.buildS1 rfl Try.underlying78 Try.sizeOf81 zero81 (by decide) (by decide) rfl rfl) rfl ?_
          rintro _ w2 ⟨rfl, hF2⟩
          have hO2 := hO.frm hF2.frm (by simp)
          have hrd2 : Rd w2 3 (some ⟨_, 0, none⟩) 1 (SDC [(l.getD a 0, 0, 0)]) := Rd.of_blk (n := 1) (size := 3) hF2.blk rfl
          refine Ops.m (Does.app rfl rfl Try.underlying78 (info81) rfl (by decide) hO2 hrd2 (SDC_one _) (by omega) (by omega)) rfl ?_
          rintro _ w3 ⟨B3, d3, rfl, hO3, hf3, hob3⟩
          rw [← SDC_append] at hO3
          have K3 := (K.trans hF2.frm (by simp)).own hf3 hup
          have hup3 := up_app hup hob3 (by have := K.size; have := hF2.size; omega)
          refine jA ?_
          refine jO (jN (jv3 0 3 4 ?_))
          refine jR (jM ?_)
          refine Ops.r (Run.bin rfl rfl (Bin.add_i64 _ 1 (by omega))) rfl ?_
          refine jA ?_
          refine jO ?_
          refine blockQ_n (jN ⟨(a + 1, pre ++ [(l.getD a 0, 0, 0)], B3, d3), (js3 rfl (by rw [List.length_append]; rfl) rfl), ?_, ?_⟩)
          ·
           refine ⟨by dsimp only; omega, ?_, by rw [List.length_append]; simp only [List.length_cons, List.length_nil]; omega, by rw [List.length_append]; exact hO3, K3, hup3⟩
           rw [hsp, sayM_step hc1, hs]
           simp
          ·
           first | omega | (dsimp only; omega)
 ·
  refine jX ?_
  refine thenQ_x (thenQ_x (blockQ_x ?_))
  refine jN (jv1 3 ?_)
  refine jS (jR (jM ?_))
  refine jA ?_
  refine jO (jN (jv1 2 ?_))
  refine jT ?_
  refine end1 rfl ?_
  have ea : a = l.length := by omega
  have et : sayM l 0 = pre := by rw [hsp, sayM_end (by omega), List.append_nil]
  rw [et]
  exact ⟨B, d, rfl, hO, K, hup⟩
end Go.Proofs.Ytnmieihcjjiccaa
namespace Go.Proofs.Ytnmieihcjjiccaa
open Go.RowKit
theorem bits16 {n : Nat} (h : n < 65536) : bitsL n 16 = ofB [n % 256, n / 256] := by
 have e : ofB [n % 256, n / 256] = bitsL (n % 256) 8 ++ bitsL (n / 256) 8 := by simp [ofB]
 rw [e]
 refine num_inj (by simp [bitsL_len]) ?_
 rw [num16 (by omega) (by omega), num_bitsL 16 n (by omega)]
 omega
theorem block_bits {pre : List Nat} {h n : Nat} {x : List Nat} (hn : x.length = n) (hn2 : n ≤ 65535) : ofB (pre ++ [h]) ++ bitsL n 16 ++ bitsL (65535 - n) 16 ++ ofB x = ofB (pre ++ encB h x) := by
 rw [bits16 (by omega), bits16 (by omega), ← ofB_append, ← ofB_append, ← ofB_append]
 congr 1
 have e2 : (65535 - n) % 256 = 255 - n % 256 := by omega
 have e3 : (65535 - n) / 256 = 255 - n / 256 := by omega
 unfold encB
 rw [hn, e2, e3]
 simp only [List.append_assoc, List.cons_append, List.nil_append]
theorem len_more {α : Type} {X Y : List α} {k : Nat} (h : Y.length = k) : X.length + k = (X ++ Y).length := by subst h; rw [List.length_append]
theorem of_n (B : Option Addr) (n c0 : Nat) (bs : List Nat) (w : World) (hn : bs.length = n) (hl : n ≤ 1000000) (hb : ∀ b ∈ bs, b < 256) (hr : Rd w 1 B bs.length (NB bs)) :
  Calls Try.prog 74 #[.slice B n c0] w fun e w' => ∃ A c, e = .returned (.slice A (8 * n) c) ∧ Own w' 4 1 A (8 * n) c (BL (ofB bs)) ∧ Frm [] w w' ∧ ∀ x ∈ ob A, w.heap.size ≤ x := by
 subst hn
 exact of_spec B c0 bs w hl hb hr
theorem otokens_n (g ct c1 c2 na nb nt : Nat) (A Bt La Lb : Option Addr) (l : List Bool) (lt : List Tk) (a b : List Int) (w : World) (hna : a.length = na) (hnb : b.length = nb) (hnt : lt.length = nt) (ha : LOk a) (hb : LOk b) (ha2 : 286 ≤ na) (hb2 : 30 ≤ nb) (hlt : ∀ t ∈ lt, TkOk t) (hll : nt ≤ 1000000) (hl : l.length ≤ 100000000) (hU : IsU w g A l) (hot : Own w 73 3 Bt nt ct (TC lt)) (hra : Rd w 1 La na (IB a)) (hrb : Rd w 1 Lb nb (IB b)) :
  Calls Try.prog 34 #[.pointer (some ⟨g, 0, none⟩), .slice Bt nt ct, .slice La na c1, .slice Lb nb c2] w fun e w' => e = .returned (.tuple #[]) ∧ UR w w' g A (l ++ toksB a b lt) := by
 subst hna hnb hnt
 exact otokens_spec g ct c1 c2 A Bt La Lb l lt a b w ha hb ha2 hb2 hlt hll hl hU hot hra hrb
set_option maxRecDepth 100000 in
theorem rstor_spec (A0 : Option Addr) (c : Nat) (bs : List Nat) (w : World) (hl : bs.length ≤ 1000000) (hc : bs.length ≤ c) (hB : ∀ b ∈ bs, b < 256) (hr : Rd w 1 A0 bs.length (NB bs)) :
  Calls Try.prog 45 #[.slice A0 bs.length c] w fun e w' => e = .returned (.string (strB (storO bs))) ∧ Frm [] w w' := by
 refine VC.calls (nt := 60) (res := #[.tmp 2]) Try.func45 rfl Try.ntmps45 Try.results45 rfl ?_
 refine jS (jR (jA ?_))
 refine jO (jN (jv1 0 ?_))
 refine jS (jR ?_)
 refine Ops.r (Run.build evs.nil zero67 (places67).choose_spec.1 (places67).choose_spec.2 rfl) rfl ?_
 refine Ops.m (Does.box rfl) rfl ?_
 rintro _ w1 ⟨rfl, hF1⟩
 have hU0 : IsU w1 w.heap.size none [] := ⟨0, hF1.blk, Own.nil _ _ _⟩
 have K := hF1.frm
 obtain ⟨g, hgl, hgv⟩ : ∃ g, w.heap.size ≤ g ∧ g = w.heap.size := ⟨_, Nat.le_refl _, rfl⟩
 rw [← hgv] at hU0
 refine jA ?_
 refine jO (jN (jv2 0 3 ?_))
 refine jS (jR ?_)
 refine Ops.r (v := .int .i64 ((0 : Nat) : Int)) (Run.asg rfl) rfl ?_
 refine jO (jN (jB ?_))
 refine VC.loop (σ := Nat × Option Addr × List Nat) (fun s => [(0, .slice A0 bs.length c), (3, .pointer (some ⟨g, 0, none⟩)), (4, .int .i64 ((s.1 : Nat) : Int))]) (fun s wr => s.1 ≤ bs.length ∧ IsU wr g s.2.1 (ofB s.2.2) ∧ Frm [] w wr ∧ (∀ x ∈ ob s.2.1, w.heap.size ≤ x) ∧ s.2.2 ++ storO (bs.drop s.1) = storO bs ∧ s.2.2.length + 2 * (bs.length - s.1) ≤ 2 * bs.length ∧ ∀ b ∈ s.2.2, b < 256) (fun s => bs.length - s.1) (0, none, []) (js3 rfl (by rw [hgv]; rfl) rfl) ⟨Nat.zero_le _, hU0, K, by simp [ob], rfl, by simp, by simp⟩ ?_
 rintro ⟨a, A, pre⟩ wr ⟨ha, hU, K, hA, hm, hlen, hpb⟩
 dsimp only at ha hU hA hm hlen hpb ⊢
 refine jB (jS (jR (jM ?_)))
 refine Ops.r (Run.lenS rfl Try.underlying22) rfl ?_
 refine jM ?_
 refine Ops.r (Run.bin rfl rfl (Bin.sub_i64 _ _ (by omega) (by omega))) rfl ?_
 refine jA ?_
 refine jO (jN (jv4 0 3 4 5 ?_))
 refine jS (jR ?_)
 refine Ops.r (v := .int .i64 ((1 : Nat) : Int)) (Run.asg rfl) rfl ?_
 refine jO (jN (jS (jS (jR (jM ?_)))))
 refine Ops.r (Run.bin rfl rfl (Bin.gtrN _ 65535)) rfl ?_
 refine jO (jN (jv6 0 3 4 5 6 14 ?_))
 refine VC.meet (σ := Nat × Nat) (fun s => [(0, .slice A0 bs.length c), (3, .pointer (some ⟨g, 0, none⟩)), (4, .int .i64 ((a : Nat) : Int)), (5, .int .i64 ((s.1 : Nat) : Int)), (6, .int .i64 ((s.2 : Nat) : Int))]) (fun s wz => wr = wz ∧ s.1 ≤ 65535 ∧ a + s.1 ≤ bs.length ∧ s.2 < 2 ∧ (s.2 = 0 → s.1 = 65535 ∧ 65535 < bs.length - a) ∧ (s.2 = 1 → s.1 = bs.length - a)) ?_ ?_
 ·
  refine VC.condD rfl (fun hc1 => ?_) (fun hc1 => ?_)
  ·
   refine jS (jR ?_)
   refine Ops.r (v := .int .i64 ((65535 : Nat) : Int)) (Run.asg rfl) rfl ?_
   refine jO (jN (jv4 0 3 4 5 ?_))
   refine jR ?_
   refine Ops.r (v := .int .i64 ((0 : Nat) : Int)) (Run.asg rfl) rfl ?_
   refine jO ?_
   refine jN ⟨(65535, 0), (js5 rfl rfl rfl rfl rfl), ?_⟩
   exact ⟨rfl, by dsimp only; omega, by dsimp only; omega, by dsimp only; omega, fun _ => ⟨rfl, hc1⟩, fun h => absurd h (by simp)⟩
  ·
   refine jQ ?_
   refine jN ⟨(bs.length - a, 1), (js5 rfl rfl rfl rfl rfl), ?_⟩
   exact ⟨rfl, by dsimp only; omega, by dsimp only; omega, by dsimp only; omega, (fun h => absurd h (by simp)), fun _ => rfl⟩
 ·
  rintro ⟨n, h⟩ _ ⟨rfl, hn1, hn2, hh, hh0, hh1⟩ Γ hΓ
  dsimp only at hn1 hn2 hh hh0 hh1 hΓ ⊢
  refine jN (VC.sub _ hΓ ?_)
  refine jS (jR (jM ?_))
  refine jM ?_
  refine Ops.cl (Enters.fn (evs.cons rfl (evs.cons rfl (evs.cons rfl evs.nil))) Try.call32) (oput_spec g h 1 A (ofB pre) wr (by omega) (by omega) (by simp only [List.length_append, ofB_len, bitsL_len]; omega) hU) rfl ?_
  rintro e w2 ⟨rfl, A2, hU2, hfp, hAp⟩
  refine ⟨_, rfl, ?_⟩
  have Kn := K.own hfp (fun x hx => by rcases List.mem_cons.1 hx with rfl | hx; exact hgl; exact hA x hx)
  have hA : ∀ x ∈ ob A2, w.heap.size ≤ x := fun x hx => by rcases hAp x hx with h | h; exact hA x h; have := K.size; omega
  have K := Kn
  clear Kn hfp hAp
  refine jO (jN (jv5 0 3 4 5 6 ?_))
  refine jS (jR (jM ?_))
  refine Ops.cl (Enters.fn (evs.cons rfl (evs.cons rfl (evs.cons rfl evs.nil))) Try.call32) (oput_spec g 0 2 A2 _ w2 (by omega) (by omega) (by simp only [List.length_append, ofB_len, bitsL_len]; omega) hU2) rfl ?_
  rintro e w3 ⟨rfl, A3, hU3, hfp, hAp⟩
  refine ⟨_, rfl, ?_⟩
  have Kn := K.own hfp (fun x hx => by rcases List.mem_cons.1 hx with rfl | hx; exact hgl; exact hA x hx)
  have hA : ∀ x ∈ ob A3, w.heap.size ≤ x := fun x hx => by rcases hAp x hx with h | h; exact hA x h; have := K.size; omega
  have K := Kn
  clear Kn hfp hAp
  obtain ⟨c3, hb3, ho3⟩ := hU3
  refine jO (jN (jv5 0 3 4 5 6 ?_))
  refine jS (jR (jM ?_))
  refine jM ?_
  refine Ops.r (Run.nilck rfl) rfl ?_
  refine Ops.r (Run.fieldAddr rfl Try.underlying67 rfl Try.sizeOf65 (by decide)) rfl ?_
  refine Ops.r (Run.load rfl Try.isAgg65 (hb3.cell 0)) rfl ?_
  refine Ops.cl (Enters.fn (evs.cons rfl evs.nil) Try.call67) (whole_spec A3 c3 _ w3 (by simp only [List.length_append, ofB_len, bitsL_len]; omega) ho3.rd) rfl ?_
  rintro e w4 ⟨A4, c4, rfl, ho4, hf4, hA4⟩
  refine ⟨_, rfl, ?_⟩
  have hb4 := hb3.frm hf4 (by simp)
  have hA : ∀ x ∈ ob A4, w.heap.size ≤ x := fun x hx => Nat.le_trans K.size (hA4 x hx)
  have K := K.trans hf4 (by simp)
  refine Ops.r (Run.nilck rfl) rfl ?_
  refine Ops.r (Run.fieldAddr rfl Try.underlying67 rfl Try.sizeOf65 (by decide)) rfl ?_
  refine Ops.st (Acts.store rfl rfl Try.sizeOf65 hb4 rfl rfl) ?_
  rintro w5 ⟨hb5, hf5, hs5⟩
  have hgA := ho4.ne_blk hb4 (by decide)
  have hU5 : IsU w5 g A4 (whole (ofB pre ++ bitsL h 1 ++ bitsL 0 2)) := ⟨c4, hb5, ho4.frm hf5 (fun x hx hx2 => by rw [List.mem_singleton] at hx2; subst hx2; exact hgA hx)⟩
  rw [whole_head hh] at hU5
  have K := K.own hf5 (by simp; omega)
  clear hb3 ho3 hb4 ho4 hA4 hb5 hgA
  refine jO (jN (jv5 0 3 4 5 6 ?_))
  refine jS (jR (jM ?_))
  refine jM ?_
  refine Ops.cl (Enters.fn (evs.cons rfl (evs.cons rfl (evs.cons rfl evs.nil))) Try.call32) (oput_spec g n 16 A4 _ w5 (by omega) (by omega) (by simp only [List.length_append, ofB_len, bitsL_len, List.length_cons, List.length_nil]; omega) hU5) rfl ?_
  rintro e w6 ⟨rfl, A6, hU6, hfp, hAp⟩
  refine ⟨_, rfl, ?_⟩
  have Kn := K.own hfp (fun x hx => by rcases List.mem_cons.1 hx with rfl | hx; exact hgl; exact hA x hx)
  have hA : ∀ x ∈ ob A6, w.heap.size ≤ x := fun x hx => by rcases hAp x hx with h | h; exact hA x h; have := K.size; omega
  have K := Kn
  clear Kn hfp hAp
  refine jO (jN (jv5 0 3 4 5 6 ?_))
  refine jS (jR (jM ?_))
  refine jM ?_
  refine Ops.r (Run.bin rfl rfl (Bin.sub_i64 65535 _ (by omega) (by omega))) rfl ?_
  refine Ops.cl (Enters.fn (evs.cons rfl (evs.cons rfl (evs.cons rfl evs.nil))) Try.call32) (oput_spec g (65535 - n) 16 A6 _ w6 (by omega) (by omega) (by simp only [List.length_append, ofB_len, bitsL_len, List.length_cons, List.length_nil]; omega) hU6) rfl ?_
  rintro e w7 ⟨rfl, A7, hU7, hfp, hAp⟩
  refine ⟨_, rfl, ?_⟩
  have Kn := K.own hfp (fun x hx => by rcases List.mem_cons.1 hx with rfl | hx; exact hgl; exact hA x hx)
  have hA : ∀ x ∈ ob A7, w.heap.size ≤ x := fun x hx => by rcases hAp x hx with h | h; exact hA x h; have := K.size; omega
  have K := Kn
  clear Kn hfp hAp
  obtain ⟨c7, hb7, ho7⟩ := hU7
  refine jO (jN (jv5 0 3 4 5 6 ?_))
  refine jS ?_
  refine VC.heldL 15 (fun v => Blk v g 67 #[.slice A7 (ofB (pre ++ [h]) ++ bitsL n 16 ++ bitsL (65535 - n) 16).length c7]) jK ?_
  have hS : (fun v => Blk v g 67 #[.slice A7 (ofB (pre ++ [h]) ++ bitsL n 16 ++ bitsL (65535 - n) 16).length c7]) w7.drew := hb7.drawn (Drawn.drew _)
  have ho7 := ho7.drawn (Drawn.drew w7)
  have K := K.drawn (Drawn.drew w7)
  have hln : ((bs.drop a).take n).length = n := by rw [List.length_take, List.length_drop]; omega
  have hlb : (ofB (pre ++ [h]) ++ bitsL n 16 ++ bitsL (65535 - n) 16).length = 8 * pre.length + 40 := by simp only [List.length_append, ofB_len, bitsL_len, List.length_cons, List.length_nil]; omega
  refine jH 0 rfl hS (fun w0 hw0 => Run.mv rfl) ?_
  refine jH 1 rfl hS (fun w0 hw0 => Run.mv rfl) ?_
  refine jH 2 rfl hS (fun w0 hw0 => Run.nilck rfl) ?_
  refine jH 3 rfl hS (fun w0 hw0 => Run.fieldAddr rfl Try.underlying67 rfl Try.sizeOf65 (by decide)) ?_
  refine jH 4 rfl hS (fun w0 hw0 => Run.load rfl Try.isAgg65 (hw0.cell 0)) ?_
  refine jH 5 rfl hS (fun w0 hw0 => Run.mv rfl) ?_
  refine jH 6 rfl hS (fun w0 hw0 => Run.mv rfl) ?_
  refine jH 7 rfl hS (fun w0 hw0 => Run.mv rfl) ?_
  refine HOps.r1 8 rfl jK hS (Run.mv rfl) trivial rfl rfl ?_
  refine HOps.r1 9 rfl jK hS (Run.bin rfl rfl (Bin.add_i64 _ _ (by omega))) trivial rfl rfl ?_
  refine HOps.r1 10 rfl jK hS (Run.sliceS _ _ rfl Try.underlying22 Try.sizeOf5 (evB.some_ rfl) (evB.some_ rfl) (by omega) (by omega)) trivial rfl rfl ?_
  have eN : a + n - a = n := by omega
  rw [eN]
  refine HOps.cl 11 rfl jK (Enters.fn (evs.cons rfl evs.nil) Try.call74) (of_n (cutA A0 c a 1) n _ ((bs.drop a).take n) _ hln (by omega) (fun b hb => hB b (List.mem_of_mem_drop (List.mem_of_mem_take hb))) (NB_cut bs a n (by omega) (hr.frm K (by simp)) hc)) trivial rfl rfl ?_
  rintro e w8 ⟨A8, c8, rfl, ho8, hf8, _⟩
  have hS := hS.frm hf8 (by simp)
  have ho7 := ho7.frm hf8 (by simp)
  have K := K.trans hf8 (by simp)
  refine ⟨_, rfl, hS, ?_⟩
  refine HOps.m 12 rfl jK (Does.app rfl rfl Try.underlying65 (info4) rfl (by decide) ho7 ho8.rd (BL_one _) (by omega) (by omega)) trivial rfl rfl ?_
  rintro _ w9 ⟨A9, c9, rfl, ho9, hf9, hob9⟩
  have hgA := ho7.ne_blk hS (by decide)
  have hS := hS.frm hf9 hgA
  have hK8 := K.size
  have K := K.own hf9 hA
  have hA9 : ∀ x ∈ ob A9, w.heap.size ≤ x := fun x hx => by rcases hob9 with h | h; rw [h] at hx; exact hA x hx; rw [h, List.mem_singleton] at hx; omega
  refine ⟨hS, ?_⟩
  refine HOps.r1 13 rfl jK hS (Run.nilck rfl) trivial rfl rfl ?_
  refine HOps.r1 14 rfl jK hS (Run.fieldAddr rfl Try.underlying67 rfl Try.sizeOf65 (by decide)) trivial rfl rfl ?_
  refine HOps.stL rfl jK (Acts.store rfl rfl Try.sizeOf65 hS rfl rfl) trivial rfl ?_
  rintro w10 ⟨hb10, hf10, hs10⟩
  have hgA9 := ho9.ne_blk hS (by decide)
  rw [← BL_append] at ho9
  have hl9 : (ofB (pre ++ [h]) ++ bitsL n 16 ++ bitsL (65535 - n) 16).length + 8 * n = (ofB (pre ++ [h]) ++ bitsL n 16 ++ bitsL (65535 - n) 16 ++ ofB ((bs.drop a).take n)).length := len_more (by rw [ofB_len, hln])
  rw [hl9, block_bits hln hn1] at ho9 hb10
  have hU10 : IsU w10 g A9 (ofB (pre ++ encB h ((bs.drop a).take n))) := ⟨c9, hb10, ho9.frm hf10 (fun x hx hx2 => by rw [List.mem_singleton] at hx2; subst hx2; exact hgA9 hx)⟩
  have K := K.own hf10 (by simp; omega)
  have hpb2 : ∀ b ∈ pre ++ encB h ((bs.drop a).take n), b < 256 := fun b hb => by
   rcases List.mem_append.1 hb with hb | hb
   ·
    exact hpb b hb
   ·
    exact encB_lt hh (fun b hb => hB b (List.mem_of_mem_drop (List.mem_of_mem_take hb))) (by omega) b hb
  obtain ⟨c10, hb10, ho10⟩ := hU10
  refine HOps.done jK ?_
  refine jN (jv5 0 3 4 5 6 ?_)
  refine jS (jR (jM ?_))
  refine jM ?_
  refine Ops.r (Run.bin rfl rfl (Bin.add_i64 _ _ (by omega))) rfl ?_
  refine jA ?_
  refine jO (jN (jv4 0 3 4 6 ?_))
  refine jS (jR (jM ?_))
  refine Ops.r (Run.bin rfl rfl (Bin.eqlN _ 1)) rfl ?_
  refine jO (jN (jv4 0 3 4 54 ?_))
  refine VC.condD rfl (fun hc2 => ?_) (fun hc2 => ?_)
  ·
   have hh1n := hh1 hc2
   subst hc2
   have hm2 : pre ++ encB 1 ((bs.drop a).take n) = storO bs := by
    rw [storO_eq, if_neg (by rw [List.length_drop]; omega)] at hm
    rw [List.take_of_length_le (by rw [List.length_drop]; omega)]
    exact hm
   rw [hm2] at hpb2 hb10 ho10
   refine jS (jR (jM ?_))
   refine Ops.r (Run.nilck rfl) rfl ?_
   refine Ops.r (Run.fieldAddr rfl Try.underlying67 rfl Try.sizeOf65 (by decide)) rfl ?_
   refine Ops.r (Run.load rfl Try.isAgg65 (hb10.cell 0)) rfl ?_
   refine Ops.cl (Enters.fn (evs.cons rfl evs.nil) Try.call36) (refBytes_spec A9 c10 (ofB (storO bs)) w10 (by rw [ofB_len]; have := storO_len _ bs (Nat.le_refl _); omega) ho10.rd) rfl ?_
   rintro e w11 ⟨rfl, hf11⟩
   refine ⟨_, rfl, ?_⟩
   rw [pack_ofB _ hpb2]
   refine jA ?_
   refine jO (jN (jv1 2 ?_))
   refine jT ?_
   refine blockQ_r (thenQ_r (blockQ_r (end1 rfl ?_)))
   exact ⟨rfl, K.trans hf11 (by simp)⟩
  ·
   refine jQ ?_
   refine blockQ_n (jN ⟨(a + n, A9, pre ++ encB h ((bs.drop a).take n)), (js3 rfl rfl rfl), ?_, ?_⟩)
   ·
    have h0 : h = 0 := by omega
    obtain ⟨h65, h66⟩ := hh0 h0
    subst h0 h65
    rw [storO_eq, if_pos (by rw [List.length_drop]; exact h66), ← List.append_assoc, List.drop_drop] at hm
    exact ⟨by dsimp only; omega, ⟨c10, hb10, ho10⟩, K, hA9, hm, by dsimp only; rw [List.length_append, encB_len, hln]; omega, hpb2⟩
   ·
    dsimp only; have := hh0 (show h = 0 by omega); omega
set_option maxRecDepth 100000 in
theorem rfix_spec (A0 : Option Addr) (c : Nat) (bs : List Nat) (w : World) (hl : bs.length ≤ 32768) (hB : ∀ b ∈ bs, b < 256) (hr : Rd w 1 A0 bs.length (NB bs)) :
  Calls Try.prog 10 #[.slice A0 bs.length c] w fun e w' => e = .returned (.string (strB (pack (fixM bs)))) ∧ Frm [] w w' := by
 have htl := toks_len0 bs
 have hok := toks_ok bs 0 hl hB
 have hfl := fixM_len bs hl hB
 refine VC.calls (nt := 27) (res := #[.tmp 2]) Try.func10 rfl Try.ntmps10 Try.results10 rfl ?_
 refine jS (jR (jA ?_))
 refine jO (jN (jv1 0 ?_))
 refine jS (jR ?_)
 refine Ops.r (Run.build evs.nil zero67 (places67).choose_spec.1 (places67).choose_spec.2 rfl) rfl ?_
 refine Ops.m (Does.box rfl) rfl ?_
 rintro _ w1 ⟨rfl, hF1⟩
 have hU0 : IsU w1 w.heap.size none [] := ⟨0, hF1.blk, Own.nil _ _ _⟩
 have K := hF1.frm
 have hA : ∀ x ∈ ob (none : Option Addr), w.heap.size ≤ x := by simp [ob]
 obtain ⟨g, hgl, hgv⟩ : ∃ g, w.heap.size ≤ g ∧ g = w.heap.size := ⟨_, Nat.le_refl _, rfl⟩
 rw [← hgv] at hU0
 rw [← hgv]
 refine jA ?_
 refine jO (jN (jv2 0 3 ?_))
 refine jS (jR (jM ?_))
 refine Ops.cl (Enters.fn (evs.cons rfl (evs.cons rfl (evs.cons rfl evs.nil))) Try.call32) (oput_spec g 1 1 none _ w1 (by omega) (by omega) (by simp) hU0) rfl ?_
 rintro e w2 ⟨rfl, A2, hU2, hfp, hAp⟩
 refine ⟨_, rfl, ?_⟩
 have Kn := K.own hfp (fun x hx => by rcases List.mem_cons.1 hx with rfl | hx; exact hgl; exact hA x hx)
 have hA : ∀ x ∈ ob A2, w.heap.size ≤ x := fun x hx => by rcases hAp x hx with h | h; exact hA x h; have := K.size; omega
 have K := Kn
 clear Kn hfp hAp
 refine jO (jN (jv2 0 3 ?_))
 refine jS (jR (jM ?_))
 refine Ops.cl (Enters.fn (evs.cons rfl (evs.cons rfl (evs.cons rfl evs.nil))) Try.call32) (oput_spec g 1 2 A2 _ w2 (by omega) (by omega) (by simp [bitsL_len]) hU2) rfl ?_
 rintro e w3 ⟨rfl, A3, hU3, hfp, hAp⟩
 refine ⟨_, rfl, ?_⟩
 have Kn := K.own hfp (fun x hx => by rcases List.mem_cons.1 hx with rfl | hx; exact hgl; exact hA x hx)
 have hA : ∀ x ∈ ob A3, w.heap.size ≤ x := fun x hx => by rcases hAp x hx with h | h; exact hA x h; have := K.size; omega
 have K := Kn
 clear Kn hfp hAp
 refine jO (jN (jv2 0 3 ?_))
 refine jS (jR ?_)
 refine Ops.cl (Enters.fn evs.nil Try.call33) (rfixed_spec _) rfl ?_
 rintro e w5 ⟨La, c1, Lb, c2, rfl, hoa, hob, hf5⟩
 refine ⟨_, rfl, ?_⟩
 have hU3 := hU3.new hf5
 have K := K.trans hf5 (by simp)
 refine jM ?_
 refine Ops.r (Run.extract rfl rfl) rfl ?_
 refine Ops.r (Run.extract rfl rfl) rfl ?_
 refine jA ?_
 refine jA ?_
 refine jO (jN (jv4 0 3 4 5 ?_))
 refine jS (jR (jM ?_))
 refine jM ?_
 refine Ops.cl (Enters.fn (evs.cons rfl evs.nil) Try.call35) (rfind_spec A0 c bs w5 hl (hr.frm K (by simp))) rfl ?_
 rintro e w6 ⟨Bt, dt, rfl, hot, hf6, _⟩
 refine ⟨_, rfl, ?_⟩
 have hU3 := hU3.new hf6
 have hoa := hoa.frm hf6 (by simp)
 have hob := hob.frm hf6 (by simp)
 have K := K.trans hf6 (by simp)
 refine jM ?_
 refine jM ?_
 refine Ops.cl (Enters.fn (evs.cons rfl (evs.cons rfl (evs.cons rfl (evs.cons rfl evs.nil)))) Try.call34) (otokens_n g dt c1 c2 288 32 _ A3 Bt La Lb _ (toks bs 0) fixedL fixedW w6 fixedL_len fixedW_len rfl fixedL_ok fixedW_ok (by omega) (by omega) hok (by omega) (by simp [bitsL_len]) hU3 hot hoa.rd hob.rd) rfl ?_
 rintro e w7 ⟨rfl, A4, hU4, hf7, hA4⟩
 refine ⟨_, rfl, ?_⟩
 have K := K.own hf7 (fun x hx => by rcases List.mem_cons.1 hx with rfl | hx; exact hgl; exact hA x hx)
 obtain ⟨c4, hb4, ho4⟩ := hU4
 have hfx : [] ++ bitsL 1 1 ++ bitsL 1 2 ++ toksB fixedL fixedW (toks bs 0) = fixM bs := rfl
 rw [hfx] at hb4 ho4
 refine jO (jN (jv1 3 ?_))
 refine jS (jR (jM ?_))
 refine Ops.r (Run.nilck rfl) rfl ?_
 refine Ops.r (Run.fieldAddr rfl Try.underlying67 rfl Try.sizeOf65 (by decide)) rfl ?_
 refine Ops.r (Run.load rfl Try.isAgg65 (hb4.cell 0)) rfl ?_
 refine Ops.cl (Enters.fn (evs.cons rfl evs.nil) Try.call36) (refBytes_spec A4 c4 (fixM bs) w7 (by omega) ho4.rd) rfl ?_
 rintro e w8 ⟨rfl, hf8⟩
 refine ⟨_, rfl, ?_⟩
 refine jA ?_
 refine jO (jN (jv1 2 ?_))
 refine jT ?_
 refine end1 rfl ?_
 exact ⟨rfl, K.trans hf8 (by simp)⟩
end Go.Proofs.Ytnmieihcjjiccaa
namespace Go.Proofs.Ytnmieihcjjiccaa
open Go.RowKit
theorem rlens_n (A : Option Addr) (n c0 : Nat) (cs : List Nat) (m : Nat) (w : World) (hn : cs.length = n) (hl : n ≤ 320) (hb : ∀ x ∈ cs, x ≤ 2147483647) (hm1 : 1 ≤ m) (hm2 : m ≤ 15) (hf : n ≤ 2 ^ m) (hr : Rd w 1 A n (NI cs)) :
  Calls Try.prog 40 #[.slice A n c0, .int .i64 ((m : Nat) : Int)] w fun e w' => ∃ B c, e = .returned (.tuple #[.slice B n c, .int .i64 ((0 : Nat) : Int)]) ∧ Own w' 3 1 B n c (NI (lenM cs m)) ∧ Frm [] w w' ∧ LenOk cs (lenM cs m) m := by
 subst hn
 exact rlens_ok A c0 cs m w hl hb hm1 hm2 hf hr
theorem rlast_n (A : Option Addr) (n c least : Nat) (l : List Nat) (w : World) (hn : l.length = n) (hl : n ≤ 1000000) (hle : least ≤ n) (hr : Rd w 1 A n (NI l)) :
  Calls Try.prog 41 #[.slice A n c, .int .i64 ((least : Nat) : Int)] w fun e w' => e = .returned (.int .i64 (((cutL l least).length : Nat) : Int)) ∧ w = w' := by
 subst hn
 have h := rlast_spec A c least l w hl (by omega) hr
 rw [lastU_cut l least _ hle, ← cutL_len] at h
 exact h
theorem rsay_n (A : Option Addr) (n c : Nat) (l : List Nat) (w : World) (hn : l.length = n) (hl : n ≤ 100000) (hr : Rd w 1 A n (NI l)) :
  Calls Try.prog 42 #[.slice A n c] w fun e w' => ∃ B d, e = .returned (.slice B (sayM l 0).length d) ∧ Own w' 81 3 B (sayM l 0).length d (SDC (sayM l 0)) ∧ Frm [] w w' ∧ ∀ x ∈ ob B, w.heap.size ≤ x := by
 subst hn
 exact rsay_spec A c l w hl hr
theorem rcodes_n (A : Option Addr) (n c0 : Nat) (l : List Nat) (w : World) (hn : l.length = n) (h : LOk (toZ l)) (hr : Rd w 1 A n (NI l)) :
  Calls Try.prog 43 #[.slice A n c0] w fun e w' => ∃ B c, e = .returned (.slice B n c) ∧ Own w' 116 2 B n c ((codesL (toZ l)).flatMap CB) ∧ Frm [] w w' := by
 subst hn
 have h1 := rcodes_ok A c0 (toZ l) w h (by rw [toZ_len, ← toZ_IB]; exact hr)
 rw [toZ_len] at h1
 exact h1
theorem ocode_n (n g s c1 : Nat) (A B : Option Addr) (l : List Bool) (ls : List Int) (w : World) (hn : ls.length = n) (hg : good ls) (hk : KC (cn ls) 16 ≤ 32768) (hs : s < n) (hl : l.length ≤ 1000000000) (hU : IsU w g A l) (hc : Own w 116 2 B n c1 ((codesL ls).flatMap CB)) :
  Calls Try.prog 44 #[.pointer (some ⟨g, 0, none⟩), .slice B n c1, .int .i64 ((s : Nat) : Int)] w fun e w' => e = .returned (.tuple #[]) ∧ UR w w' g A (l ++ cbits ls s) := by
 subst hn
 exact ocode_spec g s c1 A B l ls w hg hk hs hl hU hc
theorem own_blk {w : World} {e g n : Nat} {xs : List Value} (h : Own w e 1 (some ⟨g, 0, none⟩) n n xs) (hn : 0 < n) : Blk w g e xs.toArray := by
 rcases h.cases with ⟨h1, _⟩ | ⟨g', cur, h1, hb, _, _, hs, ht⟩
 ·
  cases h1
 ·
  cases h1
  rw [List.take_of_length_le (by simp [hs])] at ht
  rw [← ht]
  exact hb
theorem own_sd {w : World} {e n c : Nat} {ad : Addr} {L : List Sd} (h : Own w e 3 (some ad) n c (SDC L)) (hn : L.length = n) {i : Nat} (hi : i < n) (j : Nat) (v : Value) (hj : (sdC (L.getD i (0, 0, 0)))[j]? = some v) : w.cell? ((ad.add (i * 3)).add j) = some v := by
 obtain ⟨ad', h1, hel⟩ := h.rd.elem hi
 cases h1
 rw [flat3s L i (by omega)] at hel
 exact hel j v hj
theorem own_tk {w : World} {e n c : Nat} {ad : Addr} {L : List Tk} (h : Own w e 3 (some ad) n c (TC L)) (hn : L.length = n) {i : Nat} (hi : i < n) (j : Nat) (v : Value) (hj : (tokC (L.getD i (0, 0, 0)))[j]? = some v) : w.cell? ((ad.add (i * 3)).add j) = some v := by
 obtain ⟨ad', h1, hel⟩ := h.rd.elem hi
 cases h1
 rw [flat3 L i (by omega)] at hel
 exact hel j v hj
theorem own_some {w : World} {e size n c : Nat} {A : Option Addr} {xs : List Value} (h : Own w e size A n c xs) (hn : 0 < n) : ∃ ad, A = some ad := by
 obtain ⟨ad, h1, _⟩ := h.rd.2 hn
 exact ⟨ad, h1⟩
theorem orderT_len : orderT.length = 19 := rfl
theorem ordT_lt {i : Nat} (h : i < 19) : orderT.getD i 0 < 19 := by
 have : ∀ i, i < 19 → orderT.getD i 0 < 19 := by decide
 exact this i h
theorem ord_snoc (l : List Nat) {i : Nat} (h : i < 19) : (ordL l).take (i + 1) = (ordL l).take i ++ [l.getD (orderT.getD i 0) 0] := by
 rw [nat_snoc (L := ordL l) (by rw [ordL_len]; exact h)]
 congr 2
 unfold ordL
 rw [List.getD_eq_getElem?_getD, List.getElem?_map, List.getElem?_eq_getElem (show i < orderT.length by rw [orderT_len]; exact h)]
 rw [List.getD_eq_getElem?_getD (l := orderT), List.getElem?_eq_getElem (show i < orderT.length by rw [orderT_len]; exact h)]
 rfl
set_option maxRecDepth 100000 in
theorem rdyn_spec (A0 : Option Addr) (c : Nat) (bs : List Nat) (w : World) (hl : bs.length ≤ 32768) (hB : ∀ b ∈ bs, b < 256) (hr : Rd w 1 A0 bs.length (NB bs)) :
  Calls Try.prog 11 #[.slice A0 bs.length c] w fun e w' => e = .returned (.string (strB (pack (dynB bs)))) ∧ Frm [] w w' := by
 have htl := toks_len0 bs
 have hok := toks_ok bs 0 hl hB
 refine VC.calls (nt := 203) (res := #[.tmp 2]) Try.func11 rfl Try.ntmps11 Try.results11 rfl ?_
 refine jS (jR (jA ?_))
 refine jO (jN (jv1 0 ?_))
 refine jS (jR (jM ?_))
 refine Ops.cl (Enters.fn (evs.cons rfl evs.nil) Try.call35) (rfind_spec A0 c bs w hl hr) rfl ?_
 rintro e w1 ⟨Bt, dt, rfl, hot, K, _⟩
 refine ⟨_, rfl, ?_⟩
 have hnt : (toks bs 0).length = (toks bs 0).length := rfl
 generalize hntv : (toks bs 0).length = nt at *
 refine jA ?_
 refine jO (jN (jv1 3 ?_))
 refine jS ?_
 refine VC.held (fun W => Frm [] w1 W) jK ?_
 have hS : Frm [] w1 w1.drew := (Frm.refl _ _).drew
 refine HOps.par (target := #[true, true, true, false]) [⟨0, 22, [], false, fun _ u lo hi W => (u = .slice (some ⟨lo, 0, none⟩) 286 286 ∧ lo < hi) ∧ Blk W lo 3 (NI (rep 286)).toArray⟩, ⟨1, 23, [], false, fun _ u lo hi W => (u = .slice (some ⟨lo, 0, none⟩) 30 30 ∧ lo < hi) ∧ Blk W lo 3 (NI (rep 30)).toArray⟩, PT.mv 2 4 22 []] 3 rfl jK (show List.Nodup ([22, 23, 4] : List Nat) by decide) (show List.Nodup ([0, 1, 2] : List Nat) by decide) (fun t ht => ?_) (fun t ht => ?_) (fun W hW => ?_) (fun t ht => ?_) (fun t ht => ?_) (fun t ht W g hW hD hE => ?_) (fun g W hW hA => ?_)
 ·
  simp only [List.mem_cons, List.not_mem_nil, or_false] at ht
  rcases ht with rfl | rfl | rfl
  ·
   rfl
  ·
   rfl
  ·
   rfl
 ·
  simp only [List.mem_cons, List.not_mem_nil, or_false] at ht
  rcases ht with rfl | rfl | rfl
  ·
   exact fun x hx => absurd hx (by simp)
  ·
   exact fun x hx => absurd hx (by simp)
  ·
   intro x hx
   simp only [List.mem_cons, List.not_mem_nil, or_false] at hx
   rcases hx with rfl
   ·
    exact ⟨_, (.head _), rfl⟩
 ·
  exact hS.trans hW (by simp)
 ·
  simp only [List.mem_cons, List.not_mem_nil, or_false] at ht
  rcases ht with rfl | rfl | rfl
  ·
   exact fun _ v lo hi W W' hf h => ⟨h.1, h.2.frm hf (by simp)⟩
  ·
   exact fun _ v lo hi W W' hf h => ⟨h.1, h.2.frm hf (by simp)⟩
  ·
   exact fun _ _ _ _ _ _ _ h => h
 ·
  simp only [List.mem_cons, List.not_mem_nil, or_false] at ht
  rcases ht with rfl | rfl | rfl
  ·
   exact fun _ _ _ _ _ _ _ h => h
  ·
   exact fun _ _ _ _ _ _ _ h => h
  ·
   exact fun ρ ρ' v lo hi W h e => e.trans (h _ (.head _))
 ·
  simp only [List.mem_cons, List.not_mem_nil, or_false] at ht
  rcases ht with rfl | rfl | rfl
  ·
   refine PStep.m rfl rfl rfl rfl rfl (Does.makeS (n := 286) rfl rfl Try.underlying38 (info3) rfl (by omega) (by omega)) ?_
   rintro _ W' ⟨rfl, hO, hF, hsz⟩
   exact ⟨hF, ⟨rfl, by rw [hsz]; omega⟩, own_blk (xs := NI (rep 286)) hO (by omega)⟩
  ·
   refine PStep.m rfl rfl rfl rfl rfl (Does.makeS (n := 30) rfl rfl Try.underlying38 (info3) rfl (by omega) (by omega)) ?_
   rintro _ W' ⟨rfl, hO, hF, hsz⟩
   exact ⟨hF, ⟨rfl, by rw [hsz]; omega⟩, own_blk (xs := NI (rep 30)) hO (by omega)⟩
  ·
   exact PStep.r rfl rfl rfl rfl (fun _ => Run.asg rfl) rfl
 have hA22 := hA.1 _ (.head _)
 have hA23 := hA.1 _ (.tail _ (.head _))
 have hA4 := hA.1 _ (.tail _ (.tail _ (.head _)))
 have hA22_23 := hA.2 _ (.head _) _ (.tail _ (.head _)) (show (22 : Nat) ≠ 23 by decide)
 clear hA
 simp only [List.map_cons, List.map_nil, List.cons_append, List.nil_append]
 dsimp only at hA22 hA23 hA4 hA22_23
 generalize g 22 = q22 at *
 obtain ⟨u22, lo22, hi22⟩ := q22
 generalize g 23 = q23 at *
 obtain ⟨u23, lo23, hi23⟩ := q23
 generalize g 4 = q4 at *
 obtain ⟨u4, lo4, hi4⟩ := q4
 dsimp only at hA22 hA23 hA4 hA22_23 ⊢
 obtain ⟨⟨⟨rfl, hlt22⟩, hbl⟩, hA22⟩ := hA22
 obtain ⟨⟨⟨rfl, hlt23⟩, hbw⟩, hA23⟩ := hA23
 change w1.heap.size ≤ _ ∧ _ at hA22
 change w1.heap.size ≤ _ ∧ _ at hA23
 have hne : lo22 ≠ lo23 := by omega
 have hgl := hA22.1
 have hgw := hA23.1
 have hS := hS.trans hW (by simp)
 clear hA22 hA23 hA22_23
 obtain rfl := hA4.1
 refine jH 3 rfl hS (fun w0 hw0 => Run.asg rfl) ?_
 refine HOps.done jK ?_
 refine jN (jv3 3 4 5 ?_)
 refine jS (jR (jM ?_))
 refine Ops.r (Run.index1 256 rfl rfl Try.underlying38 Try.sizeOf3 (by omega)) rfl ?_
 refine Ops.st (Acts.store rfl rfl Try.sizeOf3 hbl (by rw [Nat.blt_eq]; simp [NI, rep]) rfl) ?_
 rintro w3 ⟨hbl3, hf3, hs3⟩
 have hbl : Blk w3 lo22 3 (NI (litC ((toks bs 0).take 0))).toArray := by
  have e : (NI (rep 286)).toArray.setIfInBounds 256 (.int .i64 ((1 : Nat) : Int)) = (NI (litC ((toks bs 0).take 0))).toArray := NIa_set (rep 286) 256 1
  rw [← e]
  exact hbl3
 have hbw : Blk w3 lo23 3 (NI (wayC ((toks bs 0).take 0))).toArray := hbw.frm hf3 (by simp; omega)
 have hS := hS.own hf3 (by simp; omega)
 clear hbl3
 refine jO (jN (jv3 3 4 5 ?_))
 refine jS (jS (jR ?_))
 refine Ops.r (v := .int .i64 ((0 : Nat) : Int)) (Run.asg rfl) rfl ?_
 refine jO (jN (jB ?_))
 refine VC.loop (σ := Nat) (fun s => [(3, .slice Bt nt dt), (4, .slice (some ⟨lo22, 0, none⟩) 286 286), (5, .slice (some ⟨lo23, 0, none⟩) 30 30), (6, .int .i64 ((s : Nat) : Int))]) (fun s wr => s ≤ nt ∧ Blk wr lo22 3 (NI (litC ((toks bs 0).take s))).toArray ∧ Blk wr lo23 3 (NI (wayC ((toks bs 0).take s))).toArray ∧ Frm [] w1 wr) (fun s => nt - s) 0 (js4 rfl rfl rfl rfl) ⟨Nat.zero_le _, hbl, hbw, hS⟩ ?_
 rintro i wr ⟨hi, hbl, hbw, hS⟩
 refine jS (jS (jR (jM ?_)))
 refine jM ?_
 refine Ops.r (Run.lenS rfl Try.underlying31) rfl ?_
 refine Ops.r (Run.bin rfl rfl (Bin.lssN _ _)) rfl ?_
 refine jO (jN (jv5 3 4 5 6 29 ?_))
 refine VC.condD rfl (fun hc1 => ?_) (fun hc1 => ?_)
 ·
  have hotr := hot.frm hS (by simp)
  obtain ⟨ad, hAd⟩ := own_some hotr (by omega)
  subst hAd
  have hsn := tok_snoc (show i < (toks bs 0).length by omega)
  have hqok := hok ((toks bs 0).getD i (0, 0, 0)) (by rw [List.getD_eq_getElem?_getD, List.getElem?_eq_getElem (show i < (toks bs 0).length by omega)]; exact List.getElem_mem _)
  have hll1 := litC_len ((toks bs 0).take i)
  have hwl1 := wayC_len ((toks bs 0).take i)
  have hle1 := litC_le ((toks bs 0).take i)
  have hle2 := wayC_le ((toks bs 0).take i)
  rw [List.length_take, Nat.min_eq_left (show i ≤ (toks bs 0).length by omega)] at hle1 hle2
  have hl1 := litC_snoc ((toks bs 0).take i) ((toks bs 0).getD i (0, 0, 0))
  have hl2 := wayC_snoc ((toks bs 0).take i) ((toks bs 0).getD i (0, 0, 0))
  rw [← hsn] at hl1 hl2
  generalize litC ((toks bs 0).take i) = cl at *
  generalize wayC ((toks bs 0).take i) = cw at *
  clear hsn
  refine jQ (jN (jv4 3 4 5 6 ?_))
  refine jS (jB (jS (jR (jM ?_))))
  refine jM ?_
  refine Ops.r (Run.indexS _ rfl rfl Try.underlying31 Try.sizeOf73 (by omega)) rfl ?_
  refine Ops.r (Run.fieldAddr rfl Try.underlying73 rfl Try.sizeOf3 (by decide)) rfl ?_
  refine Ops.r (Run.load rfl Try.isAgg3 (own_tk hotr hntv hc1 1 _ rfl)) rfl ?_
  refine Ops.r (Run.bin rfl rfl (Bin.eqlN _ 0)) rfl ?_
  refine jO (jN (jv5 3 4 5 6 37 ?_))
  refine VC.condD rfl (fun hc2 => ?_) (fun hc2 => ?_)
  ·
   have hq8 : ((toks bs 0).getD i (0, 0, 0)).1 < 256 := by rcases hqok with ⟨_, _, h⟩ | ⟨_, h, _⟩ <;> omega
   have hv1 := getD_le hle1 ((toks bs 0).getD i (0, 0, 0)).1
   unfold litStep at hl1
   rw [if_pos hc2] at hl1
   unfold wayStep at hl2
   rw [if_pos hc2] at hl2
   refine jR (jM ?_)
   refine jM ?_
   refine jM ?_
   refine Ops.r (Run.indexS _ rfl rfl Try.underlying31 Try.sizeOf73 (by omega)) rfl ?_
   refine Ops.r (Run.fieldAddr rfl Try.underlying73 rfl Try.sizeOf5 (by decide)) rfl ?_
   refine Ops.r (Run.load rfl Try.isAgg5 (own_tk hotr hntv hc1 0 _ rfl)) rfl ?_
   refine Ops.r (Run.index1 _ rfl rfl Try.underlying38 Try.sizeOf3 (by omega)) rfl ?_
   refine Ops.r (Run.load rfl Try.isAgg3 (by rw [add_mk, hbl.cell]; exact NIa_get _ _ (by omega))) rfl ?_
   refine Ops.r (Run.bin rfl rfl (Bin.add_i64 _ 1 (by omega))) rfl ?_
   refine Ops.r (Run.index1 _ rfl rfl Try.underlying38 Try.sizeOf3 (by omega)) rfl ?_
   refine Ops.st (Acts.store0 rfl rfl Try.sizeOf3 hbl (by simp only [List.size_toArray, NI, List.length_map]; omega) rfl) ?_
   rintro w6 ⟨hbl, hf6, hs6⟩
   rw [NIa_set, ← hl1] at hbl
   refine jO ?_
   refine blockQ_n (jN ?_)
   refine jv4 3 4 5 6 ?_
   refine jR (jM ?_)
   refine Ops.r (Run.bin rfl rfl (Bin.add_i64 _ 1 (by omega))) rfl ?_
   refine jA ?_
   refine jO ?_
   refine jN ⟨i + 1, (js4 rfl rfl rfl rfl), ?_, ?_⟩
   ·
    rw [← hl2] at hbw
    exact ⟨hc1, hbl, hbw.frm hf6 (by simp; omega), hS.own hf6 (by simp; omega)⟩
   ·
    first | omega | (dsimp only; omega)
  ·
   obtain ⟨q1, q3, q4, q5, q6⟩ : ((toks bs 0).getD i (0, 0, 0)).1 = 0 ∧ 3 ≤ ((toks bs 0).getD i (0, 0, 0)).2.1 ∧ ((toks bs 0).getD i (0, 0, 0)).2.1 ≤ 258 ∧ 1 ≤ ((toks bs 0).getD i (0, 0, 0)).2.2 ∧ ((toks bs 0).getD i (0, 0, 0)).2.2 ≤ 32768 := by
    rcases hqok with ⟨h, _⟩ | h
    ·
     exact absurd h hc2
    ·
     exact h
   have hlf := lenS_facts q3 q4
   have hwf := wayS_facts q5 q6
   have hv1 := getD_le hle1 (257 + lenS ((toks bs 0).getD i (0, 0, 0)).2.1)
   have hv2 := getD_le hle2 (wayS ((toks bs 0).getD i (0, 0, 0)).2.2)
   unfold litStep at hl1
   rw [if_neg hc2] at hl1
   unfold wayStep at hl2
   rw [if_neg hc2] at hl2
   refine jS ?_
   refine VC.heldL 13 (fun v => Own v 73 3 (some ad) nt dt (TC (toks bs 0)) ∧ Blk v lo22 3 (NI cl).toArray) jK ?_
   have hb0 := hbw.drawn (Drawn.drew wr)
   have hSS : (fun v => Own v 73 3 (some ad) nt dt (TC (toks bs 0)) ∧ Blk v lo22 3 (NI cl).toArray) wr.drew := ⟨hotr.drawn (Drawn.drew wr), hbl.drawn (Drawn.drew wr)⟩
   have hK9 := hS.drawn (Drawn.drew wr)
   have hS := hSS
   refine jH 0 rfl hS (fun w0 hw0 => Run.mv rfl) ?_
   refine jH 2 rfl hS (fun w0 hw0 => Run.mv rfl) ?_
   refine jH 3 rfl hS (fun w0 hw0 => Run.mv rfl) ?_
   refine jH 4 rfl hS (fun w0 hw0 => Run.indexS _ rfl rfl Try.underlying31 Try.sizeOf73 (by omega)) ?_
   refine jH 5 rfl hS (fun w0 hw0 => Run.fieldAddr rfl Try.underlying73 rfl Try.sizeOf3 (by decide)) ?_
   refine jH 6 rfl hS (fun w0 hw0 => Run.load rfl Try.isAgg3 (own_tk hw0.1 hntv hc1 1 _ rfl)) ?_
   refine HOps.cl 1 rfl jK (Enters.fn evs.nil Try.call38) (rlengths_spec _) trivial rfl rfl ?_
   rintro e w5 ⟨AL, cL, rfl, hL, hf5, _⟩
   have hS := And.intro (hS.1.frm hf5 (by simp)) (hS.2.frm hf5 (by simp))
   have hb0 := hb0.frm hf5 (by simp)
   have hK9 := hK9.trans hf5 (by simp)
   refine ⟨_, rfl, hS, ?_⟩
   refine HOps.cl 7 rfl jK (Enters.fn (evs.cons rfl (evs.cons rfl evs.nil)) Try.call37) (rsym_len AL cL _ w5 hL.rd) trivial rfl rfl ?_
   rintro e _ ⟨rfl, rfl⟩
   refine ⟨_, rfl, hS, ?_⟩
   refine HOps.r1 8 rfl jK hS (Run.bin rfl rfl (Bin.add_i64 257 _ (by omega))) trivial rfl rfl ?_
   refine HOps.r1 9 rfl jK hS (Run.index1 _ rfl rfl Try.underlying38 Try.sizeOf3 (by omega)) trivial rfl rfl ?_
   refine HOps.r1 10 rfl jK hS (Run.load rfl Try.isAgg3 (by rw [add_mk, hS.2.cell]; exact NIa_get _ _ (by omega))) trivial rfl rfl ?_
   refine HOps.r1 11 rfl jK hS (Run.bin rfl rfl (Bin.add_i64 _ 1 (by omega))) trivial rfl rfl ?_
   refine HOps.r1 12 rfl jK hS (Run.index1 _ rfl rfl Try.underlying38 Try.sizeOf3 (by omega)) trivial rfl rfl ?_
   refine HOps.stL rfl jK (Acts.store0 rfl rfl Try.sizeOf3 hS.2 (by simp only [List.size_toArray, NI, List.length_map]; omega) rfl) trivial rfl ?_
   rintro w6 ⟨hbl, hf6, hs6⟩
   rw [NIa_set, ← hl1] at hbl
   have hot6 := hS.1.frm hf6 (fun x hx hx2 => by rw [List.mem_singleton] at hx2; subst hx2; exact hS.1.ne_blk hS.2 (by decide) hx)
   have hb0 := hb0.frm hf6 (by simp; omega)
   have hK9 := hK9.own hf6 (by simp; omega)
   refine HOps.done jK ?_
   refine jN (jv4 3 4 5 6 ?_)
   refine VC.heldL 12 (fun v => Own v 73 3 (some ad) nt dt (TC (toks bs 0)) ∧ Blk v lo23 3 (NI cw).toArray) jK ?_
   have hbl := hbl.drawn (Drawn.drew w6)
   have hS : (fun v => Own v 73 3 (some ad) nt dt (TC (toks bs 0)) ∧ Blk v lo23 3 (NI cw).toArray) w6.drew := ⟨hot6.drawn (Drawn.drew w6), hb0.drawn (Drawn.drew w6)⟩
   have hK9 := hK9.drawn (Drawn.drew w6)
   refine jH 0 rfl hS (fun w0 hw0 => Run.mv rfl) ?_
   refine jH 2 rfl hS (fun w0 hw0 => Run.mv rfl) ?_
   refine jH 3 rfl hS (fun w0 hw0 => Run.mv rfl) ?_
   refine jH 4 rfl hS (fun w0 hw0 => Run.indexS _ rfl rfl Try.underlying31 Try.sizeOf73 (by omega)) ?_
   refine jH 5 rfl hS (fun w0 hw0 => Run.fieldAddr rfl Try.underlying73 rfl Try.sizeOf3 (by decide)) ?_
   refine jH 6 rfl hS (fun w0 hw0 => Run.load rfl Try.isAgg3 (own_tk hw0.1 hntv hc1 2 _ rfl)) ?_
   refine HOps.cl 1 rfl jK (Enters.fn evs.nil Try.call39) (rways_spec _) trivial rfl rfl ?_
   rintro e w7 ⟨AL2, cL2, rfl, hL2, hf7, _⟩
   have hS := And.intro (hS.1.frm hf7 (by simp)) (hS.2.frm hf7 (by simp))
   have hbl := hbl.frm hf7 (by simp)
   have hK9 := hK9.trans hf7 (by simp)
   refine ⟨_, rfl, hS, ?_⟩
   refine HOps.cl 7 rfl jK (Enters.fn (evs.cons rfl (evs.cons rfl evs.nil)) Try.call37) (rsym_way AL2 cL2 _ w7 hL2.rd) trivial rfl rfl ?_
   rintro e _ ⟨rfl, rfl⟩
   refine ⟨_, rfl, hS, ?_⟩
   refine HOps.r1 8 rfl jK hS (Run.index1 _ rfl rfl Try.underlying38 Try.sizeOf3 (by omega)) trivial rfl rfl ?_
   refine HOps.r1 9 rfl jK hS (Run.load rfl Try.isAgg3 (by rw [add_mk, hS.2.cell]; exact NIa_get _ _ (by omega))) trivial rfl rfl ?_
   refine HOps.r1 10 rfl jK hS (Run.bin rfl rfl (Bin.add_i64 _ 1 (by omega))) trivial rfl rfl ?_
   refine HOps.r1 11 rfl jK hS (Run.index1 _ rfl rfl Try.underlying38 Try.sizeOf3 (by omega)) trivial rfl rfl ?_
   refine HOps.stL rfl jK (Acts.store0 rfl rfl Try.sizeOf3 hS.2 (by simp only [List.size_toArray, NI, List.length_map]; omega) rfl) trivial rfl ?_
   rintro w8 ⟨hbw, hf8, hs8⟩
   rw [NIa_set, ← hl2] at hbw
   have hbl := hbl.frm hf8 (by simp; omega)
   have hK9 := hK9.own hf8 (by simp; omega)
   refine HOps.done jK ?_
   refine blockQ_n (jN ?_)
   refine jv4 3 4 5 6 ?_
   refine jR (jM ?_)
   refine Ops.r (Run.bin rfl rfl (Bin.add_i64 _ 1 (by omega))) rfl ?_
   refine jA ?_
   refine jO ?_
   refine jN ⟨i + 1, (js4 rfl rfl rfl rfl), ?_, ?_⟩
   ·
    exact ⟨hc1, hbl, hbw, hK9⟩
   ·
    first | omega | (dsimp only; omega)
 ·
  refine jX ?_
  refine thenQ_x (thenQ_x (blockQ_x ?_))
  refine jN (jv3 3 4 5 ?_)
  refine jS (jR (jM ?_))
  have ei : nt = i := by omega
  subst ei
  rw [← hntv, List.take_length] at hbl hbw
  refine Ops.cl (Enters.fn (evs.cons rfl (evs.cons rfl evs.nil)) Try.call40) (rlens_n (some ⟨lo22, 0, none⟩) 286 286 (litC (toks bs 0)) 15 wr (litC_len _) (by omega) (fun x hx => by have := litC_le _ x hx; omega) (by omega) (by omega) (by decide) (Rd.of_blk (n := 286) (size := 1) hbl (by simp [NI, litC_len]))) rfl ?_
  rintro e w10 ⟨Ba, ca, rfl, hoa, hf10, hlo⟩
  refine ⟨_, rfl, ?_⟩
  have hbw := hbw.frm hf10 (by simp)
  have hS := hS.trans hf10 (by simp)
  refine jM ?_
  refine Ops.r (Run.extract rfl rfl) rfl ?_
  refine Ops.r (Run.extract rfl rfl) rfl ?_
  refine jA ?_
  refine jO (jN (jv3 3 4 5 ?_))
  refine jS (jR (jM ?_))
  refine Ops.cl (Enters.fn (evs.cons rfl (evs.cons rfl evs.nil)) Try.call40) (rlens_n (some ⟨lo23, 0, none⟩) 30 30 (wayC (toks bs 0)) 15 w10 (wayC_len _) (by omega) (fun x hx => by have := wayC_le _ x hx; omega) (by omega) (by omega) (by decide) (Rd.of_blk (n := 30) (size := 1) hbw (by simp [NI, wayC_len]))) rfl ?_
  rintro e w11 ⟨Bb, cb, rfl, hob, hf11, hwo⟩
  refine ⟨_, rfl, ?_⟩
  have hoa := hoa.frm hf11 (by simp)
  have hS := hS.trans hf11 (by simp)
  have hlo : LenOk (litC (toks bs 0)) (litsM bs) 15 := hlo
  have hwo : LenOk (wayC (toks bs 0)) (waysM bs) 15 := hwo
  have hoa : Own w11 3 1 Ba 286 ca (NI (litsM bs)) := hoa
  have hob : Own w11 3 1 Bb 30 cb (NI (waysM bs)) := hob
  obtain ⟨hL1, hL2, hM1, hM2, hF1, hF2, hLok, hLl⟩ := dyn_bounds bs hlo hwo
  have hot := hot.frm hS (by simp)
  have K := K.trans hS (by simp)
  refine jM ?_
  refine Ops.r (Run.extract rfl rfl) rfl ?_
  refine Ops.r (Run.extract rfl rfl) rfl ?_
  refine jA ?_
  refine jO (jN (jv3 3 4 5 ?_))
  refine jS (jR (jM ?_))
  refine Ops.cl (Enters.fn (evs.cons rfl (evs.cons rfl evs.nil)) Try.call41) (rlast_n Ba 286 ca 257 (litsM bs) w11 hL1 (by omega) (by omega) hoa.rd) rfl ?_
  rintro e _ ⟨rfl, rfl⟩
  refine ⟨_, rfl, ?_⟩
  have em : (cutL (litsM bs) 257).length = (manyM bs).length := rfl
  rw [em]
  refine jM ?_
  refine Ops.cl (Enters.fn (evs.cons rfl (evs.cons rfl evs.nil)) Try.call41) (rlast_n Bb 30 cb 1 (waysM bs) w11 hL2 (by omega) (by omega) hob.rd) rfl ?_
  rintro e _ ⟨rfl, rfl⟩
  refine ⟨_, rfl, ?_⟩
  have ef : (cutL (waysM bs) 1).length = (farM bs).length := rfl
  rw [ef]
  generalize hvm : (manyM bs).length = vm at *
  generalize hvf : (farM bs).length = vf at *
  have hmt : manyM bs = (litsM bs).take vm := by rw [← hvm]; unfold manyM cutL; rw [List.length_take, Nat.min_eq_left (cutN_le _ _ _)]
  have hft : farM bs = (waysM bs).take vf := by rw [← hvf]; unfold farM cutL; rw [List.length_take, Nat.min_eq_left (cutN_le _ _ _)]
  refine jA ?_
  refine jA ?_
  refine jO (jN (jv5 3 4 5 7 8 ?_))
  refine jS ?_
  refine VC.held (fun v => Frm [] w11 v) jK ?_
  have hS : Frm [] w11 w11.drew := (Frm.refl _ _).drew
  have hcaL := hoa.le
  have hcbL := hob.le
  refine jH 1 rfl hS (fun w0 hw0 => Run.mv rfl) ?_
  refine jH 2 rfl hS (fun w0 hw0 => Run.mv rfl) ?_
  refine jH 3 rfl hS (fun w0 hw0 => Run.sliceS 0 _ rfl Try.underlying38 Try.sizeOf3 evB.none_ (evB.some_ rfl) (by omega) (by omega)) ?_
  rw [cutA_0, Nat.sub_zero, Nat.sub_zero]
  refine jH 5 rfl hS (fun w0 hw0 => Run.mv rfl) ?_
  refine jH 6 rfl hS (fun w0 hw0 => Run.mv rfl) ?_
  refine jH 7 rfl hS (fun w0 hw0 => Run.sliceS 0 _ rfl Try.underlying38 Try.sizeOf3 evB.none_ (evB.some_ rfl) (by omega) (by omega)) ?_
  rw [cutA_0, Nat.sub_zero, Nat.sub_zero]
  refine HOps.m 0 rfl jK (Does.buildS0 Try.underlying38 Try.sizeOf3) trivial rfl rfl ?_
  rintro _ w12 ⟨rfl, hF12⟩
  have hS := hS.trans hF12.frm (by simp)
  refine ⟨hS, ?_⟩
  have ho12 : Own w12 3 1 (some ⟨w11.heap.size, 0, none⟩) 0 0 (NI []) := Own.of_blk hF12.blk rfl (by simp [maxLen])
  have hsz12 := hF12.size
  have hgx : w11.heap.size ≤ w11.drew.heap.size := Nat.le_refl _
  have hrm12 : Rd w12 1 Ba vm (NI (manyM bs)) := by
   have h := (hoa.frm hS (by simp)).rd.cut (l := 0) (r := vm) (cap := ca) (by omega) (by omega) hoa.le
   rw [cutA_0] at h
   rw [hmt]
   simpa [NI, List.map_take] using h
  refine HOps.m 4 rfl jK (Does.app rfl rfl Try.underlying38 (info3) rfl (by decide) ho12 hrm12 (NI_one _) (by omega) (by omega)) trivial rfl rfl ?_
  rintro _ w13 ⟨A13, c13, rfl, ho13, hf13, hob13⟩
  have hS := hS.own hf13 (by simp [ob])
  refine ⟨hS, ?_⟩
  have hu13 : ∀ x ∈ ob A13, w11.heap.size ≤ x := fun x hx => by
   rcases hob13 with h | h
   ·
    rw [h] at hx; simp [ob] at hx; omega
   ·
    rw [h, List.mem_singleton] at hx; have := hF12.frm.size; have := hgx; omega
  have hrf13 : Rd w13 1 Bb vf (NI (farM bs)) := by
   have h := (hob.frm hS (by simp)).rd.cut (l := 0) (r := vf) (cap := cb) (by omega) (by omega) hob.le
   rw [cutA_0] at h
   rw [hft]
   simpa [NI, List.map_take] using h
  refine HOps.m 8 rfl jK (Does.app rfl rfl Try.underlying38 (info3) rfl (by decide) ho13 hrf13 (NI_one _) (by omega) (by omega)) trivial rfl rfl ?_
  rintro _ w14 ⟨A14, c14, rfl, ho14, hf14, hob14⟩
  have hS := hS.own hf14 hu13
  refine ⟨hS, ?_⟩
  rw [show NI [] ++ NI (manyM bs) ++ NI (farM bs) = NI (manyM bs ++ farM bs) by simp [NI]] at ho14
  refine HOps.cl 9 rfl jK (Enters.fn (evs.cons rfl evs.nil) Try.call42) (rsay_n A14 (0 + vm + vf) c14 (manyM bs ++ farM bs) w14 (by rw [List.length_append]; omega) (by omega) ho14.rd) trivial rfl rfl ?_
  rintro e w15 ⟨Bl, dl, rfl, hol, hf15, _⟩
  have hS := hS.trans hf15 (by simp)
  refine ⟨_, rfl, hS, ?_⟩
  have hot := hot.frm hS (by simp)
  have hoa := hoa.frm hS (by simp)
  have hob := hob.frm hS (by simp)
  have K := K.trans hS (by simp)
  have hol : Own w15 81 3 Bl (listM bs).length dl (SDC (listM bs)) := hol
  have el : (sayM (manyM bs ++ farM bs) 0).length = (listM bs).length := rfl
  rw [el]
  generalize hlv : (listM bs).length = ln at *
  clear ho12 ho13 ho14 hrm12 hrf13 hob13 hob14 hu13 hf13 hf14
  refine jH 10 rfl hS (fun w0 hw0 => Run.asg rfl) ?_
  refine HOps.done jK ?_
  refine jN (jv6 3 4 5 7 8 9 ?_)
  refine jS (jR ?_)
  refine Ops.m (Does.makeS (n := 19) rfl rfl Try.underlying38 (info3) rfl (by omega) (by omega)) rfl ?_
  rintro _ w16 ⟨rfl, hO16, hF16, hsz16⟩
  have hb3 : Blk w16 w15.heap.size 3 (NI (timesC ((listM bs).take 0))).toArray := own_blk (xs := NI (rep 19)) hO16 (by omega)
  have hg3 : w15.heap.size ≤ w15.heap.size := Nat.le_refl _
  have KS : Frm [] w15 w16 := hF16
  generalize hgv : w15.heap.size = g3 at hb3 hg3 ⊢
  have hg3 : w15.heap.size ≤ g3 := by omega
  refine jA ?_
  refine jO (jN (jv7 3 4 5 7 8 9 10 ?_))
  refine jS (jS (jR ?_))
  refine Ops.r (v := .int .i64 ((0 : Nat) : Int)) (Run.asg rfl) rfl ?_
  refine jO (jN (jB ?_))
  refine VC.loop (σ := Nat) (fun s => [(3, _), (4, _), (5, _), (7, _), (8, _), (9, .slice Bl ln dl), (10, .slice (some ⟨g3, 0, none⟩) 19 19), (11, .int .i64 ((s : Nat) : Int))]) (fun s wr => s ≤ ln ∧ Blk wr g3 3 (NI (timesC ((listM bs).take s))).toArray ∧ Frm [] w15 wr) (fun s => ln - s) 0 (js8 rfl rfl rfl rfl rfl rfl rfl rfl) ⟨Nat.zero_le _, hb3, KS⟩ ?_
  rintro i wr ⟨hi, hb3, KS⟩
  refine jS (jS (jR (jM ?_)))
  refine jM ?_
  refine Ops.r (Run.lenS rfl Try.underlying78) rfl ?_
  refine Ops.r (Run.bin rfl rfl (Bin.lssN _ _)) rfl ?_
  refine jO (jN (jv9 3 4 5 7 8 9 10 11 101 ?_))
  refine VC.condD rfl (fun hc3 => ?_) (fun hc3 => ?_)
  ·
   have holr := hol.frm KS (by simp)
   obtain ⟨ad, hAd⟩ := own_some holr (by omega)
   subst hAd
   have hsn := sd_snoc (show i < (listM bs).length by omega)
   have hqok := hLok ((listM bs).getD i (0, 0, 0)) (by rw [List.getD_eq_getElem?_getD, List.getElem?_eq_getElem (show i < (listM bs).length by omega)]; exact List.getElem_mem _)
   have hq19 := hqok.1
   have hts := timesC_snoc ((listM bs).take i) ((listM bs).getD i (0, 0, 0))
   rw [← hsn] at hts
   have htl1 := timesC_len ((listM bs).take i)
   have hle1 := timesC_le ((listM bs).take i)
   rw [List.length_take, Nat.min_eq_left (show i ≤ (listM bs).length by omega)] at hle1
   generalize timesC ((listM bs).take i) = ct at *
   have hv1 := getD_le hle1 ((listM bs).getD i (0, 0, 0)).1
   refine jQ (jN (jv8 3 4 5 7 8 9 10 11 ?_))
   refine jS (jB (jR (jM ?_)))
   refine jM ?_
   refine jM ?_
   refine Ops.r (Run.indexS _ rfl rfl Try.underlying78 Try.sizeOf81 (by omega)) rfl ?_
   refine Ops.r (Run.fieldAddr rfl Try.underlying81 rfl Try.sizeOf3 (by decide)) rfl ?_
   refine Ops.r (Run.load rfl Try.isAgg3 (own_sd holr hlv hc3 0 _ rfl)) rfl ?_
   refine Ops.r (Run.index1 _ rfl rfl Try.underlying38 Try.sizeOf3 (by omega)) rfl ?_
   refine Ops.r (Run.load rfl Try.isAgg3 (by rw [add_mk, hb3.cell]; exact NIa_get _ _ (by omega))) rfl ?_
   refine Ops.r (Run.bin rfl rfl (Bin.add_i64 _ 1 (by omega))) rfl ?_
   refine Ops.r (Run.index1 _ rfl rfl Try.underlying38 Try.sizeOf3 (by omega)) rfl ?_
   refine Ops.st (Acts.store0 rfl rfl Try.sizeOf3 hb3 (by simp only [List.size_toArray, NI, List.length_map]; omega) rfl) ?_
   rintro w17 ⟨hb13, hf13, hs13⟩
   rw [NIa_set] at hb13
   unfold timeStep at hts
   rw [← hts] at hb13
   refine jO ?_
   refine blockQ_n (jN ?_)
   refine jv8 3 4 5 7 8 9 10 11 ?_
   refine jR (jM ?_)
   refine Ops.r (Run.bin rfl rfl (Bin.add_i64 _ 1 (by omega))) rfl ?_
   refine jA ?_
   refine jO ?_
   refine jN ⟨i + 1, (js8 rfl rfl rfl rfl rfl rfl rfl rfl), ?_, ?_⟩
   ·
    exact ⟨hc3, hb13, KS.own hf13 (by simp; omega)⟩
   ·
    first | omega | (dsimp only; omega)
  ·
   refine jX ?_
   refine thenQ_x (thenQ_x (blockQ_x ?_))
   refine jN (jv7 3 4 5 7 8 9 10 ?_)
   refine jS (jR (jM ?_))
   have ei : ln = i := by omega
   subst ei
   rw [← hlv, List.take_length] at hb3
   refine Ops.cl (Enters.fn (evs.cons rfl (evs.cons rfl evs.nil)) Try.call40) (rlens_n (some ⟨g3, 0, none⟩) 19 19 (timesC (listM bs)) 7 wr (timesC_len _) (by omega) (fun x hx => by have := timesC_le _ x hx; omega) (by omega) (by omega) (by decide) (Rd.of_blk (n := 19) (size := 1) hb3 (by simp [NI, timesC_len]))) rfl ?_
   rintro e w18 ⟨B3, c3, rfl, ho3, hf18, h3o⟩
   refine ⟨_, rfl, ?_⟩
   have KS := KS.trans hf18 (by simp)
   have ho3 : Own w18 3 1 B3 19 c3 (NI (thirdM bs)) := ho3
   have h3o : LenOk (timesC (listM bs)) (thirdM bs) 7 := h3o
   have h3l : (thirdM bs).length = 19 := h3o.len.trans (timesC_len _)
   refine jM ?_
   refine Ops.r (Run.extract rfl rfl) rfl ?_
   refine Ops.r (Run.extract rfl rfl) rfl ?_
   refine jA ?_
   refine jO (jN (jv7 3 4 5 7 8 9 10 ?_))
   refine jS (jR ?_)
   refine Ops.m (Does.buildN (cells := (NI orderT).toArray) (evs.cons rfl (evs.cons rfl (evs.cons rfl (evs.cons rfl (evs.cons rfl (evs.cons rfl (evs.cons rfl (evs.cons rfl (evs.cons rfl (evs.cons rfl (evs.cons rfl (evs.cons rfl (evs.cons rfl (evs.cons rfl (evs.cons rfl (evs.cons rfl (evs.cons rfl (evs.cons rfl (evs.cons rfl evs.nil))))))))))))))))))) Try.underlying38 Try.sizeOf3 zero3 rfl rfl jK) rfl ?_
   rintro _ w19 ⟨rfl, hF19⟩
   have hbo : Blk w19 w18.heap.size 3 (NI orderT).toArray := hF19.blk
   have ho3 := ho3.frm hF19.frm (by simp)
   have KS := KS.trans hF19.frm (by simp)
   have hot := hot.frm KS (by simp)
   have hoa := hoa.frm KS (by simp)
   have hob := hob.frm KS (by simp)
   have hol := hol.frm KS (by simp)
   have K := K.trans KS (by simp)
   generalize w18.heap.size = go at hbo ⊢
   clear hb3
   refine jA ?_
   refine jO (jN (jv8 3 4 5 7 8 9 10 12 ?_))
   refine jS (jR (jA ?_))
   refine jO (jN (jS (jS (jR ?_))))
   refine Ops.r (v := .int .i64 ((0 : Nat) : Int)) (Run.asg rfl) rfl ?_
   refine jO (jN (jB ?_))
   refine VC.loop (σ := Nat × Option Addr × Nat) (fun s => [(3, _), (4, _), (5, _), (7, _), (8, _), (9, _), (10, .slice B3 19 c3), (12, .slice (some ⟨go, 0, none⟩) 19 19), (13, .slice s.2.1 s.1 s.2.2), (14, .int .i64 ((s.1 : Nat) : Int))]) (fun s wr => s.1 ≤ 19 ∧ Own wr 3 1 s.2.1 s.1 s.2.2 (NI ((ordL (thirdM bs)).take s.1)) ∧ Frm [] w19 wr ∧ ∀ x ∈ ob s.2.1, w19.heap.size ≤ x) (fun s => 19 - s.1) (0, none, 0) (js10 rfl rfl rfl rfl rfl rfl rfl rfl rfl rfl) ⟨Nat.zero_le _, Own.nil _ _ _, Frm.refl _ _, by simp [ob]⟩ ?_
   rintro ⟨i, Bw, dw⟩ wr ⟨hi, how, KS, huw⟩
   dsimp only at hi how huw ⊢
   refine jS (jS (jR (jM ?_)))
   refine Ops.r (Run.bin rfl rfl (Bin.lssN _ 19)) rfl ?_
   refine jO (jN (jv11 3 4 5 7 8 9 10 12 13 14 121 ?_))
   refine VC.condD rfl (fun hc4 => ?_) (fun hc4 => ?_)
   ·
    have ho19 : orderT.getD i 0 < 19 := ordT_lt hc4
    obtain ⟨ad3, hA3, _, hadc3⟩ := (ho3.frm KS (by simp)).rd.2 (by omega)
    subst hA3
    have hcell3 := hadc3 (orderT.getD i 0) _ (NI_get (thirdM bs) _ (by rw [h3l]; exact ho19))
    refine jQ (jN (jv10 3 4 5 7 8 9 10 12 13 14 ?_))
    refine jS (jB (jR (jM ?_)))
    refine jM ?_
    refine jM ?_
    refine jM ?_
    refine Ops.r (Run.index1 _ rfl rfl Try.underlying38 Try.sizeOf3 (by omega)) rfl ?_
    refine Ops.r (Run.load rfl Try.isAgg3 (by rw [add_mk, (hbo.frm KS (by simp)).cell]; exact NIa_get _ _ (by rw [orderT_len]; omega))) rfl ?_
    refine Ops.r (Run.index1 _ rfl rfl Try.underlying38 Try.sizeOf3 (by omega)) rfl ?_
    refine Ops.r (Run.load rfl Try.isAgg3 hcell3) rfl ?_
    refine Ops.m (Does.buildS1 rfl Try.underlying38 Try.sizeOf3 zero3 (by decide) (by decide) rfl rfl) rfl ?_
    rintro _ w20 ⟨rfl, hF20⟩
    have how2 := how.frm hF20.frm (by simp)
    have hrd20 : Rd w20 1 (some ⟨_, 0, none⟩) 1 (NI [(thirdM bs).getD (orderT.getD i 0) 0]) := Rd.of_blk (n := 1) (size := 1) hF20.blk rfl
    refine Ops.m (Does.app rfl rfl Try.underlying38 (info3) rfl (by decide) how2 hrd20 (NI_one _) (by omega) (by omega)) rfl ?_
    rintro _ w21 ⟨B21, d21, rfl, ho21, hf21, hob21⟩
    rw [show NI ((ordL (thirdM bs)).take i) ++ NI [(thirdM bs).getD (orderT.getD i 0) 0] = NI ((ordL (thirdM bs)).take (i + 1)) by rw [ord_snoc (thirdM bs) hc4]; simp [NI]] at ho21
    have KS3 := (KS.trans hF20.frm (by simp)).own hf21 huw
    have hup3 := up_app huw hob21 (by have := KS.size; have := hF20.size; omega)
    refine jA ?_
    refine jO ?_
    refine blockQ_n (jN ?_)
    refine jv10 3 4 5 7 8 9 10 12 13 14 ?_
    refine jR (jM ?_)
    refine Ops.r (Run.bin rfl rfl (Bin.add_i64 _ 1 (by omega))) rfl ?_
    refine jA ?_
    refine jO ?_
    refine jN ⟨(i + 1, B21, d21), (js10 rfl rfl rfl rfl rfl rfl rfl rfl rfl rfl), ?_, ?_⟩
    ·
     exact ⟨hc4, ho21, KS3, hup3⟩
    ·
     first | omega | (dsimp only; omega)
   ·
    refine jX ?_
    refine thenQ_x (thenQ_x (blockQ_x ?_))
    refine jN (jv8 3 4 5 7 8 9 10 13 ?_)
    refine jS (jR (jM ?_))
    have ei : i = 19 := by omega
    subst ei
    rw [List.take_of_length_le (by rw [ordL_len]; omega)] at how
    refine Ops.cl (Enters.fn (evs.cons rfl (evs.cons rfl evs.nil)) Try.call41) (rlast_n Bw 19 dw 4 (ordL (thirdM bs)) wr (ordL_len _) (by omega) (by omega) how.rd) rfl ?_
    rintro e _ ⟨rfl, rfl⟩
    refine ⟨_, rfl, ?_⟩
    have ew : (cutL (ordL (thirdM bs)) 4).length = (writM bs).length := rfl
    rw [ew]
    have hwb : 4 ≤ (writM bs).length ∧ (writM bs).length ≤ 19 := by
     have := cutL_bound (ordL (thirdM bs)) 4 (by rw [ordL_len]; omega)
     rw [ordL_len] at this
     exact this
    have hw7 : ∀ i, (writM bs).getD i 0 ≤ 7 := cutL_getD _ _ _ (ordL_getD _ _ h3o.most)
    generalize hvw : (writM bs).length = vw at *
    have hwt : writM bs = (ordL (thirdM bs)).take vw := by rw [← hvw]; unfold writM cutL; rw [List.length_take, Nat.min_eq_left (cutN_le _ _ _)]
    have hot := hot.frm KS (by simp)
    have hoa := hoa.frm KS (by simp)
    have hob := hob.frm KS (by simp)
    have hol := hol.frm KS (by simp)
    have ho3 := ho3.frm KS (by simp)
    have K := K.trans KS (by simp)
    refine jA ?_
    refine jO (jN (jv9 3 4 5 7 8 9 10 13 15 ?_))
    refine jS (jR ?_)
    refine Ops.r (Run.build evs.nil zero67 (places67).choose_spec.1 (places67).choose_spec.2 rfl) rfl ?_
    refine Ops.m (Does.box rfl) rfl ?_
    rintro _ w22 ⟨rfl, hF22⟩
    have hU0 : IsU w22 wr.heap.size none [] := ⟨0, hF22.blk, Own.nil _ _ _⟩
    have KU := hF22.frm
    have hA : ∀ x ∈ ob (none : Option Addr), wr.heap.size ≤ x := by simp [ob]
    obtain ⟨g, hgl, hgv⟩ : ∃ g, wr.heap.size ≤ g ∧ g = wr.heap.size := ⟨_, Nat.le_refl _, rfl⟩
    rw [← hgv] at hU0
    rw [← hgv]
    obtain ⟨wb, hwb0⟩ : ∃ x, x = wr := ⟨_, rfl⟩
    rw [← hwb0] at hgl hA KU how hot hoa hob hol ho3 K
    refine jA ?_
    refine jO (jN (jv10 3 4 5 7 8 9 10 13 15 16 ?_))
    refine jS (jR (jM ?_))
    refine Ops.cl (Enters.fn (evs.cons rfl (evs.cons rfl (evs.cons rfl evs.nil))) Try.call32) (oput_spec g 1 1 none _ w22 (by omega) (by omega) (by simp) hU0) rfl ?_
    rintro e w23 ⟨rfl, A1, hU1, hfp, hAp⟩
    refine ⟨_, rfl, ?_⟩
    have KUn := KU.own hfp (fun x hx => by rcases List.mem_cons.1 hx with rfl | hx; exact hgl; exact hA x hx)
    have hA : ∀ x ∈ ob A1, wb.heap.size ≤ x := fun x hx => by rcases hAp x hx with h | h; exact hA x h; have := KU.size; omega
    have KU := KUn
    clear KUn hfp hAp
    refine jO (jN (jv10 3 4 5 7 8 9 10 13 15 16 ?_))
    refine jS (jR (jM ?_))
    refine Ops.cl (Enters.fn (evs.cons rfl (evs.cons rfl (evs.cons rfl evs.nil))) Try.call32) (oput_spec g 2 2 A1 _ w23 (by omega) (by omega) (by simp [bitsL_len]) hU1) rfl ?_
    rintro e w24 ⟨rfl, A2, hU2, hfp, hAp⟩
    refine ⟨_, rfl, ?_⟩
    have KUn := KU.own hfp (fun x hx => by rcases List.mem_cons.1 hx with rfl | hx; exact hgl; exact hA x hx)
    have hA : ∀ x ∈ ob A2, wb.heap.size ≤ x := fun x hx => by rcases hAp x hx with h | h; exact hA x h; have := KU.size; omega
    have KU := KUn
    clear KUn hfp hAp
    refine jO (jN (jv10 3 4 5 7 8 9 10 13 15 16 ?_))
    refine jS (jR (jM ?_))
    refine jM ?_
    refine Ops.r (Run.bin rfl rfl (Bin.sub_i64 _ 257 (by omega) (by omega))) rfl ?_
    refine Ops.cl (Enters.fn (evs.cons rfl (evs.cons rfl (evs.cons rfl evs.nil))) Try.call32) (oput_spec g (vm - 257) 5 A2 _ w24 (by omega) (by omega) (by simp [bitsL_len]) hU2) rfl ?_
    rintro e w25 ⟨rfl, A3, hU3, hfp, hAp⟩
    refine ⟨_, rfl, ?_⟩
    have KUn := KU.own hfp (fun x hx => by rcases List.mem_cons.1 hx with rfl | hx; exact hgl; exact hA x hx)
    have hA : ∀ x ∈ ob A3, wb.heap.size ≤ x := fun x hx => by rcases hAp x hx with h | h; exact hA x h; have := KU.size; omega
    have KU := KUn
    clear KUn hfp hAp
    refine jO (jN (jv9 3 4 5 8 9 10 13 15 16 ?_))
    refine jS (jR (jM ?_))
    refine jM ?_
    refine Ops.r (Run.bin rfl rfl (Bin.sub_i64 _ 1 (by omega) (by omega))) rfl ?_
    refine Ops.cl (Enters.fn (evs.cons rfl (evs.cons rfl (evs.cons rfl evs.nil))) Try.call32) (oput_spec g (vf - 1) 5 A3 _ w25 (by omega) (by omega) (by simp [bitsL_len]) hU3) rfl ?_
    rintro e w26 ⟨rfl, A4, hU4, hfp, hAp⟩
    refine ⟨_, rfl, ?_⟩
    have KUn := KU.own hfp (fun x hx => by rcases List.mem_cons.1 hx with rfl | hx; exact hgl; exact hA x hx)
    have hA : ∀ x ∈ ob A4, wb.heap.size ≤ x := fun x hx => by rcases hAp x hx with h | h; exact hA x h; have := KU.size; omega
    have KU := KUn
    clear KUn hfp hAp
    refine jO (jN (jv8 3 4 5 9 10 13 15 16 ?_))
    refine jS (jR (jM ?_))
    refine jM ?_
    refine Ops.r (Run.bin rfl rfl (Bin.sub_i64 _ 4 (by omega) (by omega))) rfl ?_
    refine Ops.cl (Enters.fn (evs.cons rfl (evs.cons rfl (evs.cons rfl evs.nil))) Try.call32) (oput_spec g (vw - 4) 4 A4 _ w26 (by omega) (by omega) (by simp [bitsL_len]) hU4) rfl ?_
    rintro e w27 ⟨rfl, A5, hU5, hfp, hAp⟩
    refine ⟨_, rfl, ?_⟩
    have KUn := KU.own hfp (fun x hx => by rcases List.mem_cons.1 hx with rfl | hx; exact hgl; exact hA x hx)
    have hA : ∀ x ∈ ob A5, wb.heap.size ≤ x := fun x hx => by rcases hAp x hx with h | h; exact hA x h; have := KU.size; omega
    have KU := KUn
    clear KUn hfp hAp
    refine jO (jN (jv8 3 4 5 9 10 13 15 16 ?_))
    refine jS (jS (jR ?_))
    refine Ops.r (v := .int .i64 ((0 : Nat) : Int)) (Run.asg rfl) rfl ?_
    refine jO (jN (jB ?_))
    obtain ⟨PRE, hPRE⟩ : ∃ P, P = (([] : List Bool) ++ bitsL 1 1 ++ bitsL 2 2 ++ bitsL (vm - 257) 5 ++ bitsL (vf - 1) 5 ++ bitsL (vw - 4) 4) := ⟨_, rfl⟩
    rw [← hPRE] at hU5
    have hPl : PRE.length = 17 := by rw [hPRE]; simp [bitsL_len]
    refine VC.loop (σ := Nat × Option Addr) (fun s => [(3, _), (4, _), (5, _), (9, _), (10, _), (13, .slice Bw 19 dw), (15, .int .i64 ((vw : Nat) : Int)), (16, .pointer (some ⟨g, 0, none⟩)), (17, .int .i64 ((s.1 : Nat) : Int))]) (fun s wr => s.1 ≤ vw ∧ IsU wr g s.2 (PRE ++ ((writM bs).take s.1).flatMap (fun n => bitsL n 3)) ∧ Frm [] wb wr ∧ ∀ x ∈ ob s.2, wb.heap.size ≤ x) (fun s => vw - s.1) (0, A5) (js9 rfl rfl rfl rfl rfl rfl rfl rfl rfl) ⟨Nat.zero_le _, by simpa using hU5, KU, hA⟩ ?_
    rintro ⟨i, A6⟩ wr ⟨hi, hU6, KU, hA⟩
    dsimp only at hi hU6 hA ⊢
    have hfl := flat_three ((writM bs).take i)
    have hti := List.length_take_le i (writM bs)
    refine jS (jS (jR (jM ?_)))
    refine jM ?_
    refine Ops.r (Run.bin rfl rfl (Bin.lssN _ _)) rfl ?_
    refine jO (jN (jv10 3 4 5 9 10 13 15 16 17 156 ?_))
    refine VC.condD rfl (fun hc5 => ?_) (fun hc5 => ?_)
    ·
     obtain ⟨ad, hAd, _, hadc⟩ := (how.frm KU (by simp)).rd.2 (by omega)
     subst hAd
     have hcell := hadc i _ (NI_get (ordL (thirdM bs)) i (by rw [ordL_len]; omega))
     have hsn := nat_snoc (show i < (writM bs).length by omega)
     have hq7 := hw7 i
     have hqe : (writM bs).getD i 0 = (ordL (thirdM bs)).getD i 0 := by rw [hwt, List.getD_eq_getElem?_getD, List.getElem?_take_of_lt (by omega), ← List.getD_eq_getElem?_getD]
     rw [← hqe] at hcell
     generalize (writM bs).getD i 0 = q at hcell hsn hq7
     refine jQ (jN (jv9 3 4 5 9 10 13 15 16 17 ?_))
     refine jS (jB (jR (jM ?_)))
     refine jM ?_
     refine jM ?_
     refine Ops.r (Run.index1 _ rfl rfl Try.underlying38 Try.sizeOf3 (by omega)) rfl ?_
     refine Ops.r (Run.load rfl Try.isAgg3 hcell) rfl ?_
     refine Ops.cl (Enters.fn (evs.cons rfl (evs.cons rfl (evs.cons rfl evs.nil))) Try.call32) (oput_spec g q 3 A6 _ wr (by omega) (by omega) (by rw [List.length_append]; omega) hU6) rfl ?_
     rintro e w28 ⟨rfl, A7, hU7, hfp, hAp⟩
     refine ⟨_, rfl, ?_⟩
     have KUn := KU.own hfp (fun x hx => by rcases List.mem_cons.1 hx with rfl | hx; exact hgl; exact hA x hx)
     have hA : ∀ x ∈ ob A7, wb.heap.size ≤ x := fun x hx => by rcases hAp x hx with h | h; exact hA x h; have := KU.size; omega
     refine jO ?_
     refine blockQ_n (jN ?_)
     refine jv9 3 4 5 9 10 13 15 16 17 ?_
     refine jR (jM ?_)
     refine Ops.r (Run.bin rfl rfl (Bin.add_i64 _ 1 (by omega))) rfl ?_
     refine jA ?_
     refine jO ?_
     refine jN ⟨(i + 1, A7), (js9 rfl rfl rfl rfl rfl rfl rfl rfl rfl), ?_, ?_⟩
     ·
      exact ⟨hc5, by rw [hsn, List.flatMap_append, List.flatMap_singleton, ← List.append_assoc]; exact hU7, KUn, hA⟩
     ·
      first | omega | (dsimp only; omega)
    ·
     refine jX ?_
     refine thenQ_x (thenQ_x (blockQ_x ?_))
     refine jN (jv6 3 4 5 9 10 16 ?_)
     refine jS (jR (jM ?_))
     refine Ops.cl (Enters.fn (evs.cons rfl evs.nil) Try.call43) (rcodes_n B3 19 c3 (thirdM bs) wr h3l h3o.ok (ho3.frm KU (by simp)).rd) rfl ?_
     rintro e w29 ⟨Bc, cc, rfl, hoc, hf29⟩
     refine ⟨_, rfl, ?_⟩
     have hU6 := hU6.new hf29
     have KU := KU.trans hf29 (by simp)
     have ei : vw = i := by omega
     subst ei
     rw [← hvw, List.take_length] at hU6
     refine jA ?_
     refine jO (jN (jv6 3 4 5 9 16 18 ?_))
     refine jS (jS (jR ?_))
     refine Ops.r (v := .int .i64 ((0 : Nat) : Int)) (Run.asg rfl) rfl ?_
     refine jO (jN (jB ?_))
     refine VC.loop (σ := Nat × Option Addr) (fun s => [(3, _), (4, _), (5, _), (9, .slice Bl ln dl), (16, .pointer (some ⟨g, 0, none⟩)), (18, .slice Bc 19 cc), (19, .int .i64 ((s.1 : Nat) : Int))]) (fun s wr => s.1 ≤ ln ∧ IsU wr g s.2 (PRE ++ (writM bs).flatMap (fun n => bitsL n 3) ++ ((listM bs).take s.1).flatMap (sayB (toZ (thirdM bs)))) ∧ Frm [] wb wr ∧ (∀ x ∈ ob s.2, wb.heap.size ≤ x) ∧ Own wr 116 2 Bc 19 cc ((codesL (toZ (thirdM bs))).flatMap CB)) (fun s => ln - s.1) (0, A6) (js7 rfl rfl rfl rfl rfl rfl rfl) ⟨Nat.zero_le _, by simpa using hU6, KU, hA, hoc⟩ ?_
     rintro ⟨i, A8⟩ wr ⟨hi, hU8, KU, hA, hoc⟩
     dsimp only at hi hU8 hA ⊢
     have hfl2 := say_flat h3o.ok (by rw [toZ_len, h3l]; omega) ((listM bs).take i) (fun t ht => hLok t (List.mem_of_mem_take ht))
     have hti2 : ((listM bs).take i).length = i := by rw [List.length_take, Nat.min_eq_left (by omega)]
     have hfl3 := flat_three (writM bs)
     have hbl : (PRE ++ (writM bs).flatMap (fun n => bitsL n 3) ++ ((listM bs).take i).flatMap (sayB (toZ (thirdM bs)))).length ≤ 100000 := by
      rw [List.length_append, List.length_append, hPl, hfl3, hvw]
      omega
     refine jS (jS (jR (jM ?_)))
     refine jM ?_
     refine Ops.r (Run.lenS rfl Try.underlying78) rfl ?_
     refine Ops.r (Run.bin rfl rfl (Bin.lssN _ _)) rfl ?_
     refine jO (jN (jv8 3 4 5 9 16 18 19 170 ?_))
     refine VC.condD rfl (fun hc6 => ?_) (fun hc6 => ?_)
     ·
      have holr := hol.frm KU (by simp)
      obtain ⟨ad, hAd⟩ := own_some holr (by omega)
      subst hAd
      have hsn := sd_snoc (show i < (listM bs).length by omega)
      obtain ⟨q, hq⟩ : ∃ q, (listM bs).getD i (0, 0, 0) = q := ⟨_, rfl⟩
      have hqok := hLok ((listM bs).getD i (0, 0, 0)) (by rw [List.getD_eq_getElem?_getD, List.getElem?_eq_getElem (show i < (listM bs).length by omega)]; exact List.getElem_mem _)
      rw [hq] at hqok hsn
      refine jQ (jN (jv7 3 4 5 9 16 18 19 ?_))
      refine jS (jB (jS (jR (jM ?_))))
      refine jM ?_
      refine jM ?_
      refine jM ?_
      refine Ops.r (Run.indexS _ rfl rfl Try.underlying78 Try.sizeOf81 (by omega)) rfl ?_
      refine Ops.r (Run.fieldAddr rfl Try.underlying81 rfl Try.sizeOf3 (by decide)) rfl ?_
      refine Ops.r (Run.load rfl Try.isAgg3 (own_sd holr hlv hc6 0 _ (by rw [hq]; rfl))) rfl ?_
      refine Ops.cl (Enters.fn (evs.cons rfl (evs.cons rfl (evs.cons rfl evs.nil))) Try.call44) (ocode_n 19 g q.1 cc A8 Bc _ (toZ (thirdM bs)) wr (by rw [toZ_len, h3l]) h3o.ok.1 h3o.ok.2 hqok.1 (by omega) hU8 hoc) rfl ?_
      rintro e w30 ⟨rfl, A9, hU9, hf30, hA9⟩
      refine ⟨_, rfl, ?_⟩
      have hoc := hU8.keepO hf30 hoc (by decide) (by decide)
      have hA0n : ∀ x ∈ ob A9, wb.heap.size ≤ x := fun x hx => by rcases hA9 x hx with h | h; exact hA x h; have := KU.size; omega
      have KU := KU.own hf30 (fun x hx => by rcases List.mem_cons.1 hx with rfl | hx; exact hgl; exact hA x hx)
      refine jO (jN (jv7 3 4 5 9 16 18 19 ?_))
      refine VC.held (fun v => Own v 81 3 (some ad) ln dl (SDC (listM bs))) jK ?_
      have hS : (fun v => Own v 81 3 (some ad) ln dl (SDC (listM bs))) w30.drew := (hol.frm KU (by simp)).drawn (Drawn.drew _)
      have hU9 := hU9.new (Drawn.drew w30).frm
      have hoc := hoc.drawn (Drawn.drew w30)
      have KU := KU.drawn (Drawn.drew w30)
      refine jH 0 rfl hS (fun w0 hw0 => Run.mv rfl) ?_
      refine jH 1 rfl hS (fun w0 hw0 => Run.mv rfl) ?_
      refine jH 2 rfl hS (fun w0 hw0 => Run.mv rfl) ?_
      refine jH 3 rfl hS (fun w0 hw0 => Run.indexS _ rfl rfl Try.underlying78 Try.sizeOf81 (by omega)) ?_
      refine jH 4 rfl hS (fun w0 hw0 => Run.fieldAddr rfl Try.underlying81 rfl Try.sizeOf3 (by decide)) ?_
      refine jH 5 rfl hS (fun w0 hw0 => Run.load rfl Try.isAgg3 (own_sd hw0 hlv hc6 2 _ (by rw [hq]; rfl))) ?_
      refine jH 6 rfl hS (fun w0 hw0 => Run.mv rfl) ?_
      refine jH 7 rfl hS (fun w0 hw0 => Run.mv rfl) ?_
      refine jH 8 rfl hS (fun w0 hw0 => Run.indexS _ rfl rfl Try.underlying78 Try.sizeOf81 (by omega)) ?_
      refine jH 9 rfl hS (fun w0 hw0 => Run.fieldAddr rfl Try.underlying81 rfl Try.sizeOf3 (by decide)) ?_
      refine jH 10 rfl hS (fun w0 hw0 => Run.load rfl Try.isAgg3 (own_sd hw0 hlv hc6 1 _ (by rw [hq]; rfl))) ?_
      refine HOps.cl 11 rfl jK (Enters.fn (evs.cons rfl (evs.cons rfl (evs.cons rfl evs.nil))) Try.call32) (oput_spec g q.2.2 q.2.1 A9 _ _ (by have := hqok.2.2; have h7 := hqok.2.1; have : 2 ^ q.2.1 ≤ 2 ^ 7 := Nat.pow_le_pow_right (by omega) h7; omega) (by have h7 := hqok.2.1; omega) (by have := cbits_len h3o.ok.1 h3o.ok.2 (show q.1 < (toZ (thirdM bs)).length by rw [toZ_len, h3l]; exact hqok.1); rw [List.length_append]; omega) hU9) trivial rfl rfl ?_
      rintro e w31 ⟨rfl, A10, hU10, hf31, hA10⟩
      have hS := hU9.keepO hf31 hS (by decide) (by decide)
      refine ⟨_, rfl, hS, ?_⟩
      have hoc := hU9.keepO hf31 hoc (by decide) (by decide)
      have hA1n : ∀ x ∈ ob A10, wb.heap.size ≤ x := fun x hx => by rcases hA10 x hx with h | h; exact hA0n x h; have h2 := KU.size; omega
      have KU := KU.own hf31 (fun x hx => by rcases List.mem_cons.1 hx with rfl | hx; exact hgl; exact hA0n x hx)
      refine HOps.done jK ?_
      refine blockQ_n (jN ?_)
      refine jv7 3 4 5 9 16 18 19 ?_
      refine jR (jM ?_)
      refine Ops.r (Run.bin rfl rfl (Bin.add_i64 _ 1 (by omega))) rfl ?_
      refine jA ?_
      refine jO ?_
      refine jN ⟨(i + 1, A10), (js7 rfl rfl rfl rfl rfl rfl rfl), ?_, ?_⟩
      ·
       exact ⟨hc6, by rw [hsn, List.flatMap_append, List.flatMap_singleton]; unfold sayB at hU10 ⊢; simpa [List.append_assoc] using hU10, KU, hA1n, hoc⟩
      ·
       first | omega | (dsimp only; omega)
     ·
      refine jX ?_
      refine thenQ_x (thenQ_x (blockQ_x ?_))
      refine jN (jv4 3 4 5 16 ?_)
      refine jS (jR (jM ?_))
      refine jM ?_
      refine jM ?_
      refine jM ?_
      refine Ops.cl (Enters.fn (evs.cons rfl (evs.cons rfl (evs.cons rfl (evs.cons rfl evs.nil)))) Try.call34) (otokens_n g dt ca cb 286 30 nt A8 Bt Ba Bb _ (toks bs 0) (toZ (litsM bs)) (toZ (waysM bs)) wr (by rw [toZ_len, hL1]) (by rw [toZ_len, hL2]) hntv hlo.ok hwo.ok (by omega) (by omega) hok (by omega) (by omega) hU8 (hot.frm KU (by simp)) (by rw [← toZ_IB]; exact (hoa.frm KU (by simp)).rd) (by rw [← toZ_IB]; exact (hob.frm KU (by simp)).rd)) rfl ?_
      rintro e w32 ⟨rfl, A11, hU11, hf32, hA11⟩
      refine ⟨_, rfl, ?_⟩
      have KU := KU.own hf32 (fun x hx => by rcases List.mem_cons.1 hx with rfl | hx; exact hgl; exact hA x hx)
      have ei : ln = i := by omega
      subst ei
      have hfin : PRE ++ (writM bs).flatMap (fun n => bitsL n 3) ++ ((listM bs).take ln).flatMap (sayB (toZ (thirdM bs))) ++ toksB (toZ (litsM bs)) (toZ (waysM bs)) (toks bs 0) = dynB bs := by
       rw [List.take_of_length_le (by omega), hPRE]
       unfold dynB
       rw [hvm, hvf, hvw, List.nil_append]
      have hdl : (dynB bs).length ≤ 1000000000 := by
       have h1 := toks_flat hlo.ok hwo.ok (by rw [toZ_len]; omega) (by rw [toZ_len]; omega) _ hok
       have h3 := cbits_len hlo.ok.1 hlo.ok.2 (show 256 < (toZ (litsM bs)).length by rw [toZ_len]; omega)
       rw [← hfin]
       unfold toksB
       simp only [List.length_append] at hbl ⊢
       omega
      rw [hfin] at hU11
      obtain ⟨c11, hb11, ho11⟩ := hU11
      refine jO (jN (jv1 16 ?_))
      refine jS (jR (jM ?_))
      refine Ops.r (Run.nilck rfl) rfl ?_
      refine Ops.r (Run.fieldAddr rfl Try.underlying67 rfl Try.sizeOf65 (by decide)) rfl ?_
      refine Ops.r (Run.load rfl Try.isAgg65 (hb11.cell 0)) rfl ?_
      refine Ops.cl (Enters.fn (evs.cons rfl evs.nil) Try.call36) (refBytes_spec A11 c11 (dynB bs) w32 hdl ho11.rd) rfl ?_
      rintro e w33 ⟨rfl, hf33⟩
      refine ⟨_, rfl, ?_⟩
      refine jA ?_
      refine jO (jN (jv1 2 ?_))
      refine jT ?_
      refine end1 rfl ?_
      exact ⟨rfl, (K.trans KU (by simp)).trans hf33 (by simp)⟩
end Go.Proofs.Ytnmieihcjjiccaa
namespace Go.Proofs.Ytnmieihcjjiccaa
open Go.RowKit
def kindF (i : Nat) : FuncId := if i = 0 then 7 else 8
noncomputable section
def kindX (bs : List Nat) (i : Nat) : List Nat := if i = 0 then pack (fixM bs) else pack (dynB bs)
def bestK (bs : List Nat) : Nat → List Nat
 | 0 => storO bs
 | i + 1 => if (kindX bs i).length < (bestK bs i).length then kindX bs i else bestK bs i
end
theorem kind_call (i : Nat) (args : Array Value) (w : World) : (callFunc (kindF i) args).run Try.prog w = .ok (.enter (kindF i) args) w := by
 unfold kindF
 split
 ·
  exact Try.call7 args w
 ·
  exact Try.call8 args w
theorem kind_spec (i : Nat) (A : Option Addr) (c : Nat) (bs : List Nat) (w : World) (hl : bs.length ≤ 32768) (hc : bs.length ≤ c) (hB : ∀ b ∈ bs, b < 256) (hr : Rd w 1 A bs.length (NB bs)) :
  Calls Try.prog (kindF i) #[.slice A bs.length c] w fun e w' => ∃ B d, e = .returned (.tuple #[.slice B (kindX bs i).length d, .int .i64 ((0 : Nat) : Int)]) ∧ Own w' 5 1 B (kindX bs i).length d (NB (kindX bs i)) ∧ Frm [] w w' ∧ ∀ x ∈ ob B, w.heap.size ≤ x := by
 unfold kindF kindX
 split
 ·
  exact dfix_spec A c bs w hl hc hB hr
 ·
  exact ddyn_spec A c bs w hl hc hB hr
theorem kind_big (i : Nat) (A : Option Addr) (n c : Nat) (w : World) (hn : 65536 < n) :
  Calls Try.prog (kindF i) #[.slice A n c] w fun e w' => e = .returned (.tuple #[.slice none 0 0, .int .i64 ((5 : Nat) : Int)]) ∧ w = w' := by
 unfold kindF
 split
 ·
  exact dfix_big A n c w hn
 ·
  exact ddyn_big A n c w hn
def kindC : Array Value := #[.func (.func 7) #[] #[], .func (.func 8) #[] #[]]
theorem kindC_at (i : Nat) (h : i < 2) : kindC[i]? = some (.func (.func (kindF i)) #[] #[]) := by
 rcases (by omega : i = 0 ∨ i = 1) with rfl | rfl <;> rfl
theorem zeroFn (w : World) : (zeroValue 26).run Try.prog w = .ok .nilFunc w := by
 simp only [zeroValue, Sem.run_bind, Try.typeInfo26, Result.andThen_ok]; rfl
set_option maxRecDepth 100000 in
theorem defl_spec (A : Option Addr) (c : Nat) (bs : List Nat) (w : World) (hl : bs.length ≤ 32768) (hc : bs.length ≤ c) (hB : ∀ b ∈ bs, b < 256) (hr : Rd w 1 A bs.length (NB bs)) :
  Calls Try.prog 12 #[.slice A bs.length c] w fun e w' => ∃ B d, e = .returned (.tuple #[.slice B (bestK bs 2).length d, .int .i64 ((0 : Nat) : Int)]) ∧ Own w' 5 1 B (bestK bs 2).length d (NB (bestK bs 2)) ∧ Frm [] w w' ∧ ∀ x ∈ ob B, w.heap.size ≤ x := by
 refine VC.calls (nt := 34) (res := #[.tmp 2, .tmp 3]) Try.func12 rfl Try.ntmps12 Try.results12 rfl ?_
 refine jS (jR (jA ?_))
 refine Ops.r (v := .int .i64 ((0 : Nat) : Int)) (Run.asg rfl) rfl ?_
 refine jO (jN (jv1 0 ?_))
 refine jS (jR (jM ?_))
 refine Ops.cl (Enters.fn (evs.cons rfl evs.nil) Try.call15) (stor_spec A c bs w (by omega) hc hB hr) rfl ?_
 rintro e w1 ⟨B0, c0, rfl, ho0, K, hu0⟩
 refine ⟨_, rfl, ?_⟩
 refine jA ?_
 refine jO (jN (jv2 0 4 ?_))
 refine jS (jS (jR ?_))
 refine Ops.m (Does.buildN (cells := kindC) (evs.cons rfl (evs.cons rfl evs.nil)) Try.underlying84 Try.sizeOf26 zeroFn rfl rfl jK) rfl ?_
 rintro _ w2 ⟨rfl, hF2⟩
 have hb2 := hF2.blk
 have ho0 := ho0.frm hF2.frm (by simp)
 have K2 : Frm [] w w2 := K.trans hF2.frm (by simp)
 have hgl : w.heap.size ≤ w1.heap.size := K.size
 generalize w1.heap.size = gk at hb2 hgl ⊢
 refine Ops.r (Run.lenS rfl Try.underlying84) rfl ?_
 refine Ops.r (v := .int .i64 ((0 : Nat) : Int)) (Run.mv rfl) rfl ?_
 refine jO (jN (jB ?_))
 refine VC.loop (σ := Nat × Option Addr × Nat) (fun s => [(0, .slice A bs.length c), (4, .slice s.2.1 (bestK bs s.1).length s.2.2), (11, .slice (some ⟨gk, 0, none⟩) 2 2), (12, .int .i64 ((2 : Nat) : Int)), (13, .int .i64 ((s.1 : Nat) : Int))]) (fun s wr => s.1 ≤ 2 ∧ Own wr 5 1 s.2.1 (bestK bs s.1).length s.2.2 (NB (bestK bs s.1)) ∧ Blk wr gk 26 kindC ∧ Frm [] w wr ∧ ∀ x ∈ ob s.2.1, w.heap.size ≤ x) (fun s => 2 - s.1) (0, B0, c0) (js5 rfl rfl rfl rfl rfl) ⟨Nat.zero_le _, ho0, hb2, K2, hu0⟩ ?_
 rintro ⟨i, B, d⟩ wr ⟨hi, hO, hb2, K, hu⟩
 dsimp only at hi hO hu ⊢
 refine jS (jR ?_)
 refine Ops.r (Run.bin rfl rfl (Bin.lssN _ _)) rfl ?_
 refine jO (jN (jS ?_))
 refine VC.condD rfl (fun hc1 => ?_) (fun hc1 => ?_)
 ·
  refine jQ (jN (jv5 0 4 11 12 13 ?_))
  refine jS (jB (jS (jR ?_)))
  refine Ops.r (Run.index1 _ rfl rfl Try.underlying84 Try.sizeOf26 (by omega)) rfl ?_
  refine Ops.r (Run.load rfl Try.isAgg26 (by rw [add_mk, hb2.cell]; exact kindC_at i hc1)) rfl ?_
  refine jA ?_
  refine jO (jN (jv6 0 4 6 11 12 13 ?_))
  refine jS (jR (jM ?_))
  refine jM ?_
  refine Ops.cl (Enters.dyn rfl (evs.cons rfl evs.nil) (kind_call i)) (kind_spec i A c bs wr hl hc hB (hr.frm K (by simp))) rfl ?_
  rintro e w3 ⟨B3, d3, rfl, hO3, hf3, hu3⟩
  refine ⟨_, rfl, ?_⟩
  have hO := hO.frm hf3 (by simp)
  have hb2 := hb2.frm hf3 (by simp)
  have hu3 : ∀ x ∈ ob B3, w.heap.size ≤ x := fun x hx => Nat.le_trans K.size (hu3 x hx)
  have K := K.trans hf3 (by simp)
  refine jM ?_
  refine Ops.r (Run.extract rfl rfl) rfl ?_
  refine Ops.r (Run.extract rfl rfl) rfl ?_
  refine jA ?_
  refine jA ?_
  refine jO (jN (jv7 0 4 7 8 11 12 13 ?_))
  refine jS (jS (jR (jM ?_)))
  refine Ops.r (Run.bin rfl rfl (Bin.neqN _ 0)) rfl ?_
  refine jO (jN (jv8 0 4 7 8 11 12 13 24 ?_))
  refine VC.condF rfl (by decide) ?_
  refine jQ (jN (jv6 0 4 7 11 12 13 ?_))
  refine jS (jR (jM ?_))
  refine Ops.r (Run.lenS rfl Try.underlying22) rfl ?_
  refine jM ?_
  refine Ops.r (Run.lenS rfl Try.underlying22) rfl ?_
  refine Ops.r (Run.bin rfl rfl (Bin.lssN _ _)) rfl ?_
  refine jO (jN (jv7 0 4 7 11 12 13 30 ?_))
  refine VC.condD rfl (fun hc3 => ?_) (fun hc3 => ?_)
  ·
   refine jR (jM ?_)
   refine jA ?_
   refine jO ?_
   refine blockQ_n (jN ?_)
   refine jv5 0 4 11 12 13 ?_
   refine jR ?_
   refine Ops.r (Run.bin rfl rfl (Bin.add_i64 _ 1 (by omega))) rfl ?_
   refine jM ?_
   refine jO ?_
   refine jN ⟨(i + 1, B3, d3), (js5 rfl (by rw [bestK, if_pos hc3]; rfl) rfl rfl rfl), ?_, ?_⟩
   ·
    have e : bestK bs (i + 1) = kindX bs i := by rw [bestK, if_pos hc3]
    exact ⟨hc1, by rw [e]; exact hO3, hb2, K, hu3⟩
   ·
    first | omega | (dsimp only; omega)
  ·
   refine jQ ?_
   refine blockQ_n (jN ?_)
   refine jv5 0 4 11 12 13 ?_
   refine jR ?_
   refine Ops.r (Run.bin rfl rfl (Bin.add_i64 _ 1 (by omega))) rfl ?_
   refine jM ?_
   refine jO ?_
   refine jN ⟨(i + 1, B, d), (js5 rfl (by rw [bestK, if_neg hc3]; rfl) rfl rfl rfl), ?_, ?_⟩
   ·
    have e : bestK bs (i + 1) = bestK bs i := by rw [bestK, if_neg hc3]
    exact ⟨hc1, by rw [e]; exact hO, hb2, K, hu⟩
   ·
    first | omega | (dsimp only; omega)
 ·
  refine jX ?_
  refine thenQ_x (thenQ_x (blockQ_x ?_))
  refine jN (jv1 4 ?_)
  refine jS (jR (jM ?_))
  refine jA ?_
  refine Ops.r (v := .int .i64 ((0 : Nat) : Int)) (Run.asg rfl) rfl ?_
  refine jO (jN (jv2 2 3 ?_))
  refine jT ?_
  refine end2 rfl rfl ?_
  have ei : i = 2 := by omega
  subst ei
  exact ⟨B, d, rfl, hO, K, hu⟩
set_option maxRecDepth 100000 in
theorem defl_big (A : Option Addr) (c : Nat) (bs : List Nat) (w : World) (hl : bs.length ≤ 1000000) (hn : 65536 < bs.length) (hc : bs.length ≤ c) (hB : ∀ b ∈ bs, b < 256) (hr : Rd w 1 A bs.length (NB bs)) :
  Calls Try.prog 12 #[.slice A bs.length c] w fun e w' => e = .returned (.tuple #[.slice none 0 0, .int .i64 ((5 : Nat) : Int)]) ∧ Frm [] w w' := by
 refine VC.calls (nt := 34) (res := #[.tmp 2, .tmp 3]) Try.func12 rfl Try.ntmps12 Try.results12 rfl ?_
 refine jS (jR (jA ?_))
 refine Ops.r (v := .int .i64 ((0 : Nat) : Int)) (Run.asg rfl) rfl ?_
 refine jO (jN (jv1 0 ?_))
 refine jS (jR (jM ?_))
 refine Ops.cl (Enters.fn (evs.cons rfl evs.nil) Try.call15) (stor_spec A c bs w (by omega) hc hB hr) rfl ?_
 rintro e w1 ⟨B0, c0, rfl, ho0, K, hu0⟩
 refine ⟨_, rfl, ?_⟩
 refine jA ?_
 refine jO (jN (jv2 0 4 ?_))
 refine jS (jS (jR ?_))
 refine Ops.m (Does.buildN (cells := kindC) (evs.cons rfl (evs.cons rfl evs.nil)) Try.underlying84 Try.sizeOf26 zeroFn rfl rfl jK) rfl ?_
 rintro _ w2 ⟨rfl, hF2⟩
 have hb2 := hF2.blk
 have K2 : Frm [] w w2 := K.trans hF2.frm (by simp)
 have hgl : w.heap.size ≤ w1.heap.size := K.size
 generalize w1.heap.size = gk at hb2 hgl ⊢
 refine Ops.r (Run.lenS rfl Try.underlying84) rfl ?_
 refine Ops.r (v := .int .i64 ((0 : Nat) : Int)) (Run.mv rfl) rfl ?_
 refine jO (jN (jB ?_))
 refine VC.loop (σ := Nat) (fun s => [(0, .slice A bs.length c), (4, _), (11, .slice (some ⟨gk, 0, none⟩) 2 2), (12, .int .i64 ((2 : Nat) : Int)), (13, .int .i64 ((s : Nat) : Int))]) (fun s wr => s = 0 ∧ Blk wr gk 26 kindC ∧ Frm [] w wr) (fun s => 2 - s) 0 (js5 rfl rfl rfl rfl rfl) ⟨rfl, hb2, K2⟩ ?_
 rintro i wr ⟨hi, hb2, K⟩
 refine jS (jR ?_)
 refine Ops.r (Run.bin rfl rfl (Bin.lssN _ _)) rfl ?_
 refine jO (jN (jS ?_))
 refine VC.condD rfl (fun hc1 => ?_) (fun hc1 => ?_)
 ·
  refine jQ (jN (jv5 0 4 11 12 13 ?_))
  refine jS (jB (jS (jR ?_)))
  refine Ops.r (Run.index1 _ rfl rfl Try.underlying84 Try.sizeOf26 (by omega)) rfl ?_
  refine Ops.r (Run.load rfl Try.isAgg26 (by rw [add_mk, hb2.cell]; exact kindC_at i hc1)) rfl ?_
  refine jA ?_
  refine jO (jN (jv6 0 4 6 11 12 13 ?_))
  refine jS (jR (jM ?_))
  refine jM ?_
  refine Ops.cl (Enters.dyn rfl (evs.cons rfl evs.nil) (kind_call i)) (kind_big i A bs.length c wr hn) rfl ?_
  rintro e _ ⟨rfl, rfl⟩
  refine ⟨_, rfl, ?_⟩
  refine jM ?_
  refine Ops.r (Run.extract rfl rfl) rfl ?_
  refine Ops.r (Run.extract rfl rfl) rfl ?_
  refine jA ?_
  refine jA ?_
  refine jO (jN (jv7 0 4 7 8 11 12 13 ?_))
  refine jS (jS (jR (jM ?_)))
  refine Ops.r (Run.bin rfl rfl (Bin.neqN _ 0)) rfl ?_
  refine jO (jN (jv8 0 4 7 8 11 12 13 24 ?_))
  refine VC.condT rfl (by decide) ?_
  refine jS (jR (jM ?_))
  refine jA ?_
  refine jA ?_
  refine jO (jN (jv2 2 3 ?_))
  refine jT ?_
  refine thenQ_r (blockQ_r (thenQ_r (thenQ_r (blockQ_r (thenQ_r (end2 rfl rfl ?_))))))
  exact ⟨rfl, K⟩
 ·
  refine jX ?_
  refine thenQ_x (thenQ_x (blockQ_x ?_))
  refine jN (jv1 4 ?_)
  refine jS (jR (jM ?_))
  refine jA ?_
  refine Ops.r (v := .int .i64 ((0 : Nat) : Int)) (Run.asg rfl) rfl ?_
  refine jO (jN (jv2 2 3 ?_))
  refine jT ?_
  refine end2 rfl rfl ?_
  omega
end Go.Proofs.Ytnmieihcjjiccaa
namespace Go.Proofs.Ytnmieihcjjiccaa
open Go.RowKit
theorem best2 (bs : List Nat) : bestK bs 2 = if (pack (dynB bs)).length < (if (pack (fixM bs)).length < (storO bs).length then pack (fixM bs) else storO bs).length then pack (dynB bs) else (if (pack (fixM bs)).length < (storO bs).length then pack (fixM bs) else storO bs) := rfl
set_option maxRecDepth 100000 in
theorem rdefl_spec (A0 : Option Addr) (c : Nat) (bs : List Nat) (w : World) (hl : bs.length ≤ 32768) (hc : bs.length ≤ c) (hB : ∀ b ∈ bs, b < 256) (hr : Rd w 1 A0 bs.length (NB bs)) :
  Calls Try.prog 13 #[.slice A0 bs.length c] w fun e w' => e = .returned (.string (strB (bestK bs 2))) ∧ Frm [] w w' := by
 refine VC.calls (nt := 25) (res := #[.tmp 2]) Try.func13 rfl Try.ntmps13 Try.results13 rfl ?_
 refine jS (jR (jA ?_))
 refine jO (jN (jv1 0 ?_))
 refine jS (jR (jM ?_))
 refine Ops.cl (Enters.fn (evs.cons rfl evs.nil) Try.call45) (rstor_spec A0 c bs w (by omega) hc hB hr) rfl ?_
 rintro e w1 ⟨rfl, hfw1⟩
 refine ⟨_, rfl, ?_⟩
 refine jA ?_
 refine jO (jN (jv2 0 3 ?_))
 refine jS (jS (jR (jM ?_)))
 refine Ops.cl (Enters.fn (evs.cons rfl evs.nil) Try.call10) (rfix_spec A0 c bs w1 hl hB (hr.frm hfw1 (by simp))) rfl ?_
 rintro e w2 ⟨rfl, hfw2⟩
 refine ⟨_, rfl, ?_⟩
 refine jA ?_
 refine jO (jN (jv3 0 3 4 ?_))
 refine jS (jR (jM ?_))
 refine Ops.r (Run.lenStr rfl Try.underlying9) rfl ?_
 refine jM ?_
 refine Ops.r (Run.lenStr rfl Try.underlying9) rfl ?_
 refine Ops.r (Run.bin rfl rfl (Bin.lssN _ _)) rfl ?_
 refine jO (jN (jv4 0 3 4 14 ?_))
 refine VC.condD rfl (fun hc1 => ?_) (fun hc1 => ?_)
 ·
  refine jR (jM ?_)
  refine jA ?_
  refine jO (jN (jv2 0 3 ?_))
  refine jS (jS (jR (jM ?_)))
  refine Ops.cl (Enters.fn (evs.cons rfl evs.nil) Try.call11) (rdyn_spec A0 c bs w2 hl hB (hr.frm (hfw1.trans hfw2 (by simp)) (by simp))) rfl ?_
  rintro e w3 ⟨rfl, hfw3⟩
  refine ⟨_, rfl, ?_⟩
  refine jA ?_
  refine jO (jN (jv2 3 5 ?_))
  refine jS (jR (jM ?_))
  refine Ops.r (Run.lenStr rfl Try.underlying9) rfl ?_
  refine jM ?_
  refine Ops.r (Run.lenStr rfl Try.underlying9) rfl ?_
  refine Ops.r (Run.bin rfl rfl (Bin.lssN _ _)) rfl ?_
  refine jO (jN (jv3 3 5 22 ?_))
  refine VC.condD rfl (fun hc2 => ?_) (fun hc2 => ?_)
  ·
   refine jR (jM ?_)
   refine jA ?_
   refine jO (jN (jv1 3 ?_))
   refine jS (jR (jM ?_))
   refine jA ?_
   refine jO (jN (jv1 2 ?_))
   refine jT ?_
   refine end1 rfl ?_
   rw [strB_size, strB_size] at hc1 hc2
   have hc1 :  (pack (fixM bs)).length < (storO bs).length := hc1
   have hc2 :  (pack (dynB bs)).length < (pack (fixM bs)).length := hc2
   have e : bestK bs 2 = pack (dynB bs) := by
    rw [best2, if_pos hc1, if_pos hc2]
   rw [e]
   exact ⟨rfl, (hfw1.trans hfw2 (by simp)).trans hfw3 (by simp)⟩
  ·
   refine jQ (jN (jv1 3 ?_))
   refine jS (jR (jM ?_))
   refine jA ?_
   refine jO (jN (jv1 2 ?_))
   refine jT ?_
   refine end1 rfl ?_
   rw [strB_size, strB_size] at hc1 hc2
   have hc1 :  (pack (fixM bs)).length < (storO bs).length := hc1
   have hc2 : ¬ (pack (dynB bs)).length < (pack (fixM bs)).length := hc2
   have e : bestK bs 2 = pack (fixM bs) := by
    rw [best2, if_pos hc1, if_neg hc2]
   rw [e]
   exact ⟨rfl, (hfw1.trans hfw2 (by simp)).trans hfw3 (by simp)⟩
 ·
  refine jQ (jN (jv2 0 3 ?_))
  refine jS (jS (jR (jM ?_)))
  refine Ops.cl (Enters.fn (evs.cons rfl evs.nil) Try.call11) (rdyn_spec A0 c bs w2 hl hB (hr.frm (hfw1.trans hfw2 (by simp)) (by simp))) rfl ?_
  rintro e w3 ⟨rfl, hfw3⟩
  refine ⟨_, rfl, ?_⟩
  refine jA ?_
  refine jO (jN (jv2 3 5 ?_))
  refine jS (jR (jM ?_))
  refine Ops.r (Run.lenStr rfl Try.underlying9) rfl ?_
  refine jM ?_
  refine Ops.r (Run.lenStr rfl Try.underlying9) rfl ?_
  refine Ops.r (Run.bin rfl rfl (Bin.lssN _ _)) rfl ?_
  refine jO (jN (jv3 3 5 22 ?_))
  refine VC.condD rfl (fun hc2 => ?_) (fun hc2 => ?_)
  ·
   refine jR (jM ?_)
   refine jA ?_
   refine jO (jN (jv1 3 ?_))
   refine jS (jR (jM ?_))
   refine jA ?_
   refine jO (jN (jv1 2 ?_))
   refine jT ?_
   refine end1 rfl ?_
   rw [strB_size, strB_size] at hc1 hc2
   have hc1 : ¬ (pack (fixM bs)).length < (storO bs).length := hc1
   have hc2 :  (pack (dynB bs)).length < (storO bs).length := hc2
   have e : bestK bs 2 = pack (dynB bs) := by
    rw [best2, if_neg hc1, if_pos hc2]
   rw [e]
   exact ⟨rfl, (hfw1.trans hfw2 (by simp)).trans hfw3 (by simp)⟩
  ·
   refine jQ (jN (jv1 3 ?_))
   refine jS (jR (jM ?_))
   refine jA ?_
   refine jO (jN (jv1 2 ?_))
   refine jT ?_
   refine end1 rfl ?_
   rw [strB_size, strB_size] at hc1 hc2
   have hc1 : ¬ (pack (fixM bs)).length < (storO bs).length := hc1
   have hc2 : ¬ (pack (dynB bs)).length < (storO bs).length := hc2
   have e : bestK bs 2 = storO bs := by
    rw [best2, if_neg hc1, if_neg hc2]
   rw [e]
   exact ⟨rfl, (hfw1.trans hfw2 (by simp)).trans hfw3 (by simp)⟩
end Go.Proofs.Ytnmieihcjjiccaa
namespace Go.Proofs.Ytnmieihcjjiccaa
open Go.RowKit
section
variable {P : Program} {Γ : Env} {w : World} {dst : Option Tmp} {pos : String} {after : Array Edge} {g : Option (Nat × Bool)} {T : TypeId}
theorem Does.mark {t e : TypeId} {x : Operand} {gb n c : Nat} {cs : Array Value} (hx : ev? Γ x = some (.slice (some ⟨gb, 0, none⟩) n c)) (ht : P.underlying t = some (.slice e)) (he : P.underlying e = some (.int .u8)) (hb : Blk w gb e cs) :
  Does P ⟨dst, .convert t t x, T, pos, after, g⟩ Γ w (fun r w' => r = .slice (some ⟨gb, 0, none⟩) n c ∧ Fro w' gb e cs ∧ Frm [gb] w w') := fun ρ hρ => by
 have hsh : w.shape? gb = some (e, cs.size) := by
  unfold Blk at hb
  unfold World.shape?
  rw [hb]
 refine ⟨.slice (some ⟨gb, 0, none⟩) n c, w.freeze ⟨gb, cs.size, none⟩ 1, ?_, rfl, ?_, ?_⟩
 ·
  simp [execOp, hρ _ _ hx, convert, run_underlying ht, run_underlying he, markStringish, hsh]
 ·
  unfold Blk at hb
  unfold Fro World.freeze
  rw [if_neg (by decide)]
  show (w.heap.modify gb _)[gb]? = _
  rw [Array.getElem?_modify, if_pos rfl, hb]
  rfl
 ·
  refine ⟨?_, ?_, ?_, ?_, ?_⟩
  ·
   unfold World.freeze; rw [if_neg (by decide)]
  ·
   unfold World.freeze; rw [if_neg (by decide)]
  ·
   unfold World.freeze; rw [if_neg (by decide)]
  ·
   unfold World.freeze; rw [if_neg (by decide)]; simp
  ·
   intro i hi hni
   unfold World.freeze
   rw [if_neg (by decide)]
   show (w.heap.modify gb _)[i]? = _
   rw [Array.getElem?_modify, if_neg (fun h => hni (by simp [h]))]
def OwnF (w : World) (e : TypeId) (A : Option Addr) (n c : Nat) (xs : List Value) : Prop := Own w e 1 A n c xs ∨ ∃ (gb : Nat) (cs : Array Value), A = some ⟨gb, 0, none⟩ ∧ c = n ∧ cs.toList = xs ∧ xs.length = n ∧ Fro w gb e cs
theorem OwnF.frm {w w' : World} {S : List Nat} {e n c : Nat} {A : Option Addr} {xs : List Value} (h : OwnF w e A n c xs) (k : Frm S w w') (hS : ∀ x ∈ ob A, x ∉ S) : OwnF w' e A n c xs := by
 rcases h with h | ⟨gb, cs, rfl, h1, h2, h3, h4⟩
 ·
  exact .inl (h.frm k hS)
 ·
  exact .inr ⟨gb, cs, rfl, h1, h2, h3, h4.frm k (hS gb (by simp [ob]))⟩
theorem OwnF.lt {w : World} {e n c : Nat} {A : Option Addr} {xs : List Value} (h : OwnF w e A n c xs) : ∀ x ∈ ob A, x < w.heap.size := by
 rcases h with h | ⟨gb, cs, rfl, h1, h2, h3, h4⟩
 ·
  exact h.lt
 ·
  simpa [ob] using h4.lt
theorem OwnF.cells {w : World} {e n c gb : Nat} {cs : Array Value} {xs : List Value} (h2 : cs.toList = xs) (h4 : Fro w gb e cs) : ∀ j u, xs[j]? = some u → w.cell? ((⟨gb, 0, none⟩ : Addr).add j) = some u := by
 intro j u hu
 have e1 : (⟨gb, 0, none⟩ : Addr).add j = ⟨gb, j, none⟩ := by unfold Addr.add; split <;> simp_all
 rw [e1, h4.cell, ← hu, ← h2, Array.getElem?_toList]
theorem OwnF.rd {w : World} {e n c : Nat} {A : Option Addr} {xs : List Value} (h : OwnF w e A n c xs) : Rd w 1 A n xs := by
 rcases h with h | ⟨gb, cs, rfl, h1, h2, h3, h4⟩
 ·
  exact h.rd
 ·
  exact ⟨by omega, fun hn => ⟨_, rfl, h4.lt, OwnF.cells (n := n) (c := c) h2 h4⟩⟩
theorem OwnF.le {w : World} {e n c : Nat} {A : Option Addr} {xs : List Value} (h : OwnF w e A n c xs) : n ≤ c := by
 rcases h with h | ⟨gb, cs, rfl, h1, h2, h3, h4⟩
 ·
  exact h.le
 ·
  omega
theorem OwnF.ne_blk {w : World} {e t n c gb : Nat} {A : Option Addr} {xs : List Value} {cs : Array Value} (h : OwnF w e A n c xs) (hb : Blk w gb t cs) (hne : e ≠ t) : gb ∉ ob A := by
 rcases h with h | ⟨g2, cs2, rfl, h1, h2, h3, h4⟩
 ·
  exact h.ne_blk hb hne
 ·
  intro hm
  simp only [ob, List.mem_singleton] at hm
  subst hm
  unfold Fro at h4
  unfold Blk at hb
  rw [h4] at hb
  injection hb with hb
  injection hb with _ hb _
  exact hne hb
end
end Go.Proofs.Ytnmieihcjjiccaa
namespace Go.Proofs.Ytnmieihcjjiccaa
open Go.RowKit
theorem rd_take {w : World} {B : Option Addr} {c : Nat} {l : List Nat} (m : Nat) (h : Rd w 1 B l.length (NB l)) (hc : l.length ≤ c) (hm : m ≤ l.length) : Rd w 1 (cutA B c 0 1) (l.take m).length (NB (l.take m)) := by
 have e := NB_cut l 0 m (by omega) h hc
 rw [List.drop_zero] at e
 exact e
set_option maxRecDepth 100000 in
theorem few11_spec (A : Option Addr) (c : Nat) (l : List Nat) (w : World) (hc : l.length ≤ c) (hB : ∀ b ∈ l, b < 256) (hr : Rd w 1 A l.length (NB l)) :
  Calls Try.prog 14 #[.slice A l.length c] w fun e w' => (∃ B d l', e = .returned (.slice B l'.length d) ∧ l'.length ≤ d ∧ Rd w 1 B l'.length (NB l') ∧ (∀ b ∈ l', b < 256) ∧ (l'.length ≤ 700 ∨ (65536 < l'.length ∧ l'.length ≤ 65537))) ∧ w = w' := by
 refine VC.calls (nt := 19) (res := #[.tmp 2]) Try.func14 rfl Try.ntmps14 Try.results14 rfl ?_
 refine jS (jR (jA ?_))
 refine jO (jN (jv1 0 ?_))
 refine jS (jS (jR (jM ?_)))
 refine Ops.r (Run.lenS rfl Try.underlying22) rfl ?_
 refine Ops.r (Run.bin rfl rfl (Bin.gtrN _ 65537)) rfl ?_
 refine jO (jN (jv2 0 5 ?_))
 refine VC.meet (σ := Option Addr × Nat × List Nat) (fun s => [(0, .slice s.1 s.2.2.length s.2.1)]) (fun s wz => w = wz ∧ s.2.2.length ≤ s.2.1 ∧ Rd w 1 s.1 s.2.2.length (NB s.2.2) ∧ (∀ b ∈ s.2.2, b < 256) ∧ s.2.2.length ≤ 65537) ?_ ?_
 ·
  refine VC.condD rfl (fun hc1 => ?_) (fun hc1 => ?_)
  ·
   refine jR (jM ?_)
   refine Ops.r (Run.sliceS 0 65537 rfl Try.underlying22 Try.sizeOf5 evB.none_ (evB.some_ rfl) (by omega) (by omega)) rfl ?_
   refine jA ?_
   refine jO ?_
   refine jN ⟨(cutA A c 0 1, c - 0, l.take 65537), (js1 (by rw [List.length_take, Nat.min_eq_left (by omega)]; rfl)), ?_⟩
   exact ⟨rfl, by dsimp only; rw [List.length_take]; omega, rd_take 65537 hr hc (by omega), fun b hb => hB b (List.mem_of_mem_take hb), by dsimp only; rw [List.length_take]; omega⟩
  ·
   refine jQ ?_
   refine jN ⟨(A, c, l), (js1 rfl), ?_⟩
   exact ⟨rfl, hc, hr, hB, by dsimp only; omega⟩
 ·
  rintro ⟨B, d, l1⟩ _ ⟨rfl, hd, hr1, hB1, hl1⟩ Γ hΓ
  dsimp only at hd hr1 hB1 hl1 hΓ ⊢
  refine jN (VC.sub _ hΓ ?_)
  refine jS (jS ?_)
  refine VC.split1 [(0, _)] (js1 rfl) 15 (.bool (decide (700 < l1.length ∧ l1.length ≤ 65536))) ?_ ?_
  ·
   refine jR ?_
   refine jM ?_
   refine Ops.r (Run.lenS rfl Try.underlying22) rfl ?_
   refine Ops.r (Run.bin rfl rfl (Bin.gtrN _ 700)) rfl ?_
   by_cases hs10 : 700 < l1.length
   ·
    refine jM ?_
    refine jG ?_
    refine Ops.rg rfl au (Run.lenS rfl Try.underlying22) rfl ?_
    refine Ops.rg rfl au (Run.bin rfl rfl (Bin.leqN _ 65536)) rfl ?_
    by_cases hs14 : l1.length ≤ 65536
    ·
     refine Ops.r (Run.pickT rfl rfl au) rfl ?_
     refine jO ?_
     refine jN ⟨(js2 (jC (by first | exact decide_eq_decide.2 ⟨fun h => ⟨by assumption, h⟩, fun h => h.2⟩ | exact (decide_eq_false (fun h => absurd h.1 (by assumption))).symm)) rfl), rfl⟩
    ·
     refine Ops.r (Run.pickT rfl rfl au) rfl ?_
     refine jO ?_
     refine jN ⟨(js2 (jC (by first | exact decide_eq_decide.2 ⟨fun h => ⟨by assumption, h⟩, fun h => h.2⟩ | exact (decide_eq_false (fun h => absurd h.1 (by assumption))).symm)) rfl), rfl⟩
   ·
    refine jM ?_
    refine jU ?_
    refine jU ?_
    refine jU ?_
    refine Ops.r (Run.pickF rfl rfl au) rfl ?_
    refine jO ?_
    refine jN ⟨(js2 (jC (by first | exact decide_eq_decide.2 ⟨fun h => ⟨by assumption, h⟩, fun h => h.2⟩ | exact (decide_eq_false (fun h => absurd h.1 (by assumption))).symm)) rfl), rfl⟩
  ·
   intro Γ hΓ
   refine jN (VC.sub _ hΓ ?_)
   refine VC.condD rfl (fun hc2 => ?_) (fun hc2 => ?_)
   ·
    refine jR (jM ?_)
    refine Ops.r (Run.sliceS 0 700 rfl Try.underlying22 Try.sizeOf5 evB.none_ (evB.some_ rfl) (by omega) (by omega)) rfl ?_
    refine jA ?_
    refine jO (jN (jv1 0 ?_))
    refine jS (jR (jM ?_))
    refine jA ?_
    refine jO (jN (jv1 2 ?_))
    refine jT ?_
    refine end1 rfl ?_
    refine ⟨⟨cutA B d 0 1, d - 0, l1.take 700, ?_, ?_, rd_take 700 hr1 hd (by omega), fun b hb => hB1 b (List.mem_of_mem_take hb), ?_⟩, rfl⟩
    ·
     rw [List.length_take, Nat.min_eq_left (by omega)]
    ·
     rw [List.length_take]; omega
    ·
     rw [List.length_take]; omega
   ·
    refine jQ (jN (jv1 0 ?_))
    refine jS (jR (jM ?_))
    refine jA ?_
    refine jO (jN (jv1 2 ?_))
    refine jT ?_
    refine end1 rfl ?_
    exact ⟨⟨B, d, l1, rfl, hd, hr1, hB1, by omega⟩, rfl⟩
set_option maxRecDepth 100000 in
theorem few13_spec (A : Option Addr) (c : Nat) (l : List Nat) (w : World) (hc : l.length ≤ c) (hB : ∀ b ∈ l, b < 256) (hr : Rd w 1 A l.length (NB l)) :
  Calls Try.prog 6 #[.slice A l.length c] w fun e w' => (∃ B d l', e = .returned (.slice B l'.length d) ∧ l'.length ≤ d ∧ Rd w 1 B l'.length (NB l') ∧ (∀ b ∈ l', b < 256) ∧ (l'.length ≤ 700 ∨ (65536 < l'.length ∧ l'.length ≤ 65537))) ∧ w = w' := by
 refine VC.calls (nt := 16) (res := #[.tmp 2]) Try.func6 rfl Try.ntmps6 Try.results6 rfl ?_
 refine jS (jR (jA ?_))
 refine jO (jN (jv1 0 ?_))
 refine jS (jR (jM ?_))
 refine Ops.cl (Enters.fn (evs.cons rfl evs.nil) Try.call14) (few11_spec A c l w hc hB hr) rfl ?_
 rintro e _ ⟨⟨B, d, l1, rfl, hd, hr1, hB1, hl1⟩, rfl⟩
 refine ⟨_, rfl, ?_⟩
 refine jA ?_
 refine jO (jN (jv1 0 ?_))
 refine jS (jS ?_)
 refine VC.split1 [(0, _)] (js1 rfl) 12 (.bool (decide (300 < l1.length ∧ l1.length ≤ 65536))) ?_ ?_
 ·
  refine jR ?_
  refine jM ?_
  refine Ops.r (Run.lenS rfl Try.underlying22) rfl ?_
  refine Ops.r (Run.bin rfl rfl (Bin.gtrN _ 300)) rfl ?_
  by_cases hs7 : 300 < l1.length
  ·
   refine jM ?_
   refine jG ?_
   refine Ops.rg rfl au (Run.lenS rfl Try.underlying22) rfl ?_
   refine Ops.rg rfl au (Run.bin rfl rfl (Bin.leqN _ 65536)) rfl ?_
   by_cases hs11 : l1.length ≤ 65536
   ·
    refine Ops.r (Run.pickT rfl rfl au) rfl ?_
    refine jO ?_
    refine jN ⟨(js2 (jC (by first | exact decide_eq_decide.2 ⟨fun h => ⟨by assumption, h⟩, fun h => h.2⟩ | exact (decide_eq_false (fun h => absurd h.1 (by assumption))).symm)) rfl), rfl⟩
   ·
    refine Ops.r (Run.pickT rfl rfl au) rfl ?_
    refine jO ?_
    refine jN ⟨(js2 (jC (by first | exact decide_eq_decide.2 ⟨fun h => ⟨by assumption, h⟩, fun h => h.2⟩ | exact (decide_eq_false (fun h => absurd h.1 (by assumption))).symm)) rfl), rfl⟩
  ·
   refine jM ?_
   refine jU ?_
   refine jU ?_
   refine jU ?_
   refine Ops.r (Run.pickF rfl rfl au) rfl ?_
   refine jO ?_
   refine jN ⟨(js2 (jC (by first | exact decide_eq_decide.2 ⟨fun h => ⟨by assumption, h⟩, fun h => h.2⟩ | exact (decide_eq_false (fun h => absurd h.1 (by assumption))).symm)) rfl), rfl⟩
 ·
  intro Γ hΓ
  refine jN (VC.sub _ hΓ ?_)
  refine VC.condD rfl (fun hc1 => ?_) (fun hc1 => ?_)
  ·
   refine jR (jM ?_)
   refine Ops.r (Run.sliceS 0 300 rfl Try.underlying22 Try.sizeOf5 evB.none_ (evB.some_ rfl) (by omega) (by omega)) rfl ?_
   refine jA ?_
   refine jO (jN (jv1 0 ?_))
   refine jS (jR (jM ?_))
   refine jA ?_
   refine jO (jN (jv1 2 ?_))
   refine jT ?_
   refine end1 rfl ?_
   refine ⟨⟨cutA B d 0 1, d - 0, l1.take 300, ?_, ?_, rd_take 300 hr1 hd (by omega), fun b hb => hB1 b (List.mem_of_mem_take hb), ?_⟩, rfl⟩
   ·
    rw [List.length_take, Nat.min_eq_left (by omega)]
   ·
    rw [List.length_take]; omega
   ·
    rw [List.length_take]; omega
  ·
   refine jQ (jN (jv1 0 ?_))
   refine jS (jR (jM ?_))
   refine jA ?_
   refine jO (jN (jv1 2 ?_))
   refine jT ?_
   refine end1 rfl ?_
   exact ⟨⟨B, d, l1, rfl, hd, hr1, hB1, by omega⟩, rfl⟩
theorem Fro.rd1 {w : World} {g e : Nat} {cs : Array Value} {l : List Value} (h : Fro w g e cs) (hc : cs = l.toArray) : Rd w 1 (some ⟨g, 0, none⟩) l.length l := by
 subst hc
 refine ⟨by omega, fun _ => ⟨_, rfl, h.lt, fun j u hu => ?_⟩⟩
 rw [add_mk, h.cell, List.getElem?_toArray]
 exact hu
theorem fix97 : pack (fixM [97]) = [75, 4, 0] := by decide +kernel
theorem stor0 : storO [] = [1, 0, 0, 255, 255] := by rw [storO_eq]; decide +kernel
theorem stor97 : storO [97] = [1, 1, 0, 254, 255, 97] := by rw [storO_eq]; decide +kernel
theorem dyn_long (bs : List Nat) : 4 ≤ (pack (dynB bs)).length := by
 have h1 : 4 ≤ (writM bs).length := (cutL_bound (ordL (thirdM bs)) 4 (by rw [ordL_len]; omega)).1
 have h2 := flat_three (writM bs)
 rw [pack_len]
 unfold dynB
 simp only [List.length_append, bitsL_len]
 omega
theorem best97 : bestK [97] 2 = [75, 4, 0] := by
 have h := dyn_long [97]
 rw [best2, fix97, stor97, if_pos (show ([75, 4, 0] : List Nat).length < ([1, 1, 0, 254, 255, 97] : List Nat).length by decide), if_neg]
 show ¬ (pack (dynB [97])).length < 3
 omega
set_option maxRecDepth 100000 in
theorem awake13_spec (w : World) : Calls Try.prog 9 #[] w fun e w' => e = .returned (.bool true) ∧ Frm [] w w' := by
 refine VC.calls (nt := 38) (res := #[.tmp 0]) Try.func9 rfl Try.ntmps9 Try.results9 rfl ?_
 refine jS (jR (jA ?_))
 refine jO (jN ?_)
 refine VC.sub [] .nil ?_
 refine jS (jR ?_)
 refine Ops.m (Does.buildS1 rfl Try.underlying22 Try.sizeOf5 zero5 (by decide) (by decide) rfl rfl) rfl ?_
 rintro _ w1 ⟨rfl, hF1⟩
 have hb1 := hF1.blk
 have K := hF1.frm
 refine Ops.m (Does.mark rfl Try.underlying22 Try.underlying5 hb1) rfl ?_
 rintro _ w2 ⟨rfl, hfr2, hf2⟩
 have K := K.own hf2 (by simp)
 have hr2 : Rd w2 1 (some ⟨w.heap.size, 0, none⟩) ([97] : List Nat).length (NB [97]) := hfr2.rd1 (l := NB [97]) rfl
 refine Ops.cl (Enters.fn (evs.cons rfl evs.nil) Try.call7) (dfix_spec _ 1 [97] w2 (by decide) (by decide) (by decide) hr2) rfl ?_
 rintro e w3 ⟨A1, d1, rfl, ho1, hf3, _⟩
 refine ⟨_, rfl, ?_⟩
 have K := K.trans hf3 (by simp)
 rw [fix97] at ho1 ⊢
 have ho1 : Own w3 5 1 A1 3 d1 (NB [75, 4, 0]) := ho1
 refine jM ?_
 refine Ops.r (Run.extract rfl rfl) rfl ?_
 refine Ops.r (Run.extract rfl rfl) rfl ?_
 refine jA ?_
 refine jA ?_
 refine jO (jN (jv2 1 2 ?_))
 refine jS (jR ?_)
 refine Ops.m (Does.buildS1 rfl Try.underlying22 Try.sizeOf5 zero5 (by decide) (by decide) rfl rfl) rfl ?_
 rintro _ w4 ⟨rfl, hF4⟩
 have hb4 := hF4.blk
 have hlt3 := ho1.lt
 have hk3 := K.size
 have ho1 := ho1.frm hF4.frm (by simp)
 have K := K.trans hF4.frm (by simp)
 have hsz := ho1.lt
 refine Ops.m (Does.mark rfl Try.underlying22 Try.underlying5 hb4) rfl ?_
 rintro _ w5 ⟨rfl, hfr5, hf5⟩
 have hne : ∀ x ∈ ob A1, x ∉ [w3.heap.size] := by
  intro x hx hx2
  rw [List.mem_singleton] at hx2
  subst hx2
  exact absurd (hlt3 _ hx) (by omega)
 have ho1 := ho1.frm hf5 hne
 have K := K.own hf5 (by simp; omega)
 have hr5 : Rd w5 1 (some ⟨w3.heap.size, 0, none⟩) ([97] : List Nat).length (NB [97]) := hfr5.rd1 (l := NB [97]) rfl
 refine Ops.cl (Enters.fn (evs.cons rfl evs.nil) Try.call12) (defl_spec _ 1 [97] w5 (by decide) (by decide) (by decide) hr5) rfl ?_
 rintro e w6 ⟨A2, d2, rfl, ho2, hf6, _⟩
 refine ⟨_, rfl, ?_⟩
 have K := K.trans hf6 (by simp)
 have ho1 := ho1.frm hf6 (by simp)
 rw [best97] at ho2 ⊢
 have ho2 : Own w6 5 1 A2 3 d2 (NB [75, 4, 0]) := ho2
 refine jM ?_
 refine Ops.r (Run.extract rfl rfl) rfl ?_
 refine Ops.r (Run.extract rfl rfl) rfl ?_
 refine jA ?_
 refine jA ?_
 refine jO (jN (jv4 1 2 3 4 ?_))
 refine jS (jR ?_)
 refine Ops.cl (Enters.fn (evs.cons rfl evs.nil) Try.call15) (stor_spec none 0 [] w6 (by decide) (by decide) (by decide) (Own.nil w6 5 1).rd) rfl ?_
 rintro e w8 ⟨A3, d3, rfl, ho3, hf8, _⟩
 refine ⟨_, rfl, ?_⟩
 have K := K.trans hf8 (by simp)
 have ho1 := ho1.frm hf8 (by simp)
 have ho2 := ho2.frm hf8 (by simp)
 rw [stor0] at ho3 ⊢
 have hst1 : Rd w8 1 A1 3 (U8 ([75, 4, 0].map UInt8.ofNat)) := by rw [← NB_U8 [75, 4, 0] (by decide)]; exact ho1.rd
 have hst2 : Rd w8 1 A2 3 (U8 ([75, 4, 0].map UInt8.ofNat)) := by rw [← NB_U8 [75, 4, 0] (by decide)]; exact ho2.rd
 have hst3 : Rd w8 1 A3 5 (U8 ([1, 0, 0, 255, 255].map UInt8.ofNat)) := by rw [← NB_U8 [1, 0, 0, 255, 255] (by decide)]; exact ho3.rd
 refine Ops.r (Run.strOf rfl Try.underlying22 Try.underlying5 Try.underlying9 hst3) rfl ?_
 refine Ops.r (Run.eqlStr rfl rfl) rfl ?_
 refine jM ?_
 refine jG ?_
 refine Ops.rg rfl au (Run.strOf rfl Try.underlying22 Try.underlying5 Try.underlying9 hst1) rfl ?_
 refine Ops.rg rfl au (Run.eqlStr rfl rfl) rfl ?_
 refine Ops.r (Run.pickT rfl rfl au) rfl ?_
 refine jM ?_
 refine jG ?_
 refine Ops.rg rfl au (Run.bin rfl rfl (Bin.eqlN _ 0)) rfl ?_
 refine Ops.r (Run.pickT rfl rfl au) rfl ?_
 refine jM ?_
 refine jG ?_
 refine Ops.rg rfl au (Run.strOf rfl Try.underlying22 Try.underlying5 Try.underlying9 hst2) rfl ?_
 refine Ops.rg rfl au (Run.eqlStr rfl rfl) rfl ?_
 refine Ops.r (Run.pickT rfl rfl au) rfl ?_
 refine jM ?_
 refine jG ?_
 refine Ops.rg rfl au (Run.bin rfl rfl (Bin.eqlN _ 0)) rfl ?_
 refine Ops.r (Run.pickT rfl rfl au) rfl ?_
 refine jA ?_
 refine jO (jN (jv1 0 ?_))
 refine jT ?_
 refine end1 rfl ?_
 exact ⟨rfl, K⟩
end Go.Proofs.Ytnmieihcjjiccaa
namespace Go.Proofs.Ytnmieihcjjiccaa
open Go.RowKit
def Kinds (bs x : List Nat) (k : Nat) (y : List Nat) : Prop := (bs.length ≤ 700 ∧ x = y ∧ k = 0) ∨ (65536 < bs.length ∧ x = [] ∧ k = 5)
theorem pack_b (l : List Bool) : ∀ b ∈ pack l, b < 256 := pack_lt l
theorem bestK_lt {bs : List Nat} (hB : ∀ b ∈ bs, b < 256) : ∀ b ∈ bestK bs 2, b < 256 := by
 rw [best2]
 by_cases h1 : (pack (dynB bs)).length < (if (pack (fixM bs)).length < (storO bs).length then pack (fixM bs) else storO bs).length
 ·
  rw [if_pos h1]
  exact pack_b _
 ·
  rw [if_neg h1]
  by_cases h2 : (pack (fixM bs)).length < (storO bs).length
  ·
   rw [if_pos h2]
   exact pack_b _
  ·
   rw [if_neg h2]
   exact storO_lt _ bs (Nat.le_refl _) hB
theorem defl_any (A : Option Addr) (c : Nat) (bs : List Nat) (w : World) (hl : bs.length ≤ 700 ∨ (65536 < bs.length ∧ bs.length ≤ 65537)) (hc : bs.length ≤ c) (hB : ∀ b ∈ bs, b < 256) (hr : Rd w 1 A bs.length (NB bs)) :
  Calls Try.prog 12 #[.slice A bs.length c] w fun e w' => ∃ B d x k, e = .returned (.tuple #[.slice B (x : List Nat).length d, .int .i64 ((k : Nat) : Int)]) ∧ Rd w' 1 B x.length (NB x) ∧ x.length ≤ d ∧ (∀ b ∈ x, b < 256) ∧ Frm [] w w' ∧ Kinds bs x k (bestK bs 2) := by
 rcases hl with h | ⟨h, h0⟩
 ·
  refine (defl_spec A c bs w (by omega) hc hB hr).mono ?_
  rintro e w' ⟨B, d, h1, h2, h3, _⟩
  exact ⟨B, d, _, 0, h1, h2.rd, h2.le, bestK_lt hB, h3, .inl ⟨h, rfl, rfl⟩⟩
 ·
  refine (defl_big A c bs w (by omega) h hc hB hr).mono ?_
  rintro e w' ⟨h1, h2⟩
  exact ⟨none, 0, [], 5, h1, (Own.nil w' 5 1).rd, Nat.le_refl _, by simp, h2, .inr ⟨h, rfl, rfl⟩⟩
theorem rd_str {w : World} {A : Option Addr} {l : List Nat} (h : Rd w 1 A l.length (NB l)) (hB : ∀ b ∈ l, b < 256) : Rd w 1 A l.length (U8 (l.map UInt8.ofNat)) := by rw [← NB_U8 l hB]; exact h
end Go.Proofs.Ytnmieihcjjiccaa
