/-
  Lemmas on the way, joined: RfG, RfH, RgA, RgB, RgC, RgD, RgE, RgF.
-/
import Derived.Test.YtenbjndldenkfaaGreatDoorPk4
namespace Go.Proofs.YtenbjndldenkfaaGreatDoor
open Go.RowKit Go.Sort
theorem fS_snoc (x : UInt8) : ∀ (l : List Sg) (y : Sg) (k : Nat), fS x (l ++ [y]) k = if 0 ≤ fS x l k then fS x l k else if y.Pl ∧ y.c = x then ((k + l.length : Nat) : Int) else -1
 | [], y, k => by
  show fS x [y] k = _
  simp [fS]
 | z :: l, y, k => by
  show fS x (z :: (l ++ [y])) k = _
  rw [fS, fS, fS_snoc x l y (k + 1)]
  by_cases h : z.Pl ∧ z.c = x
  ·
   rw [if_pos h, if_pos h, if_pos (by omega)]
  ·
   rw [if_neg h, if_neg h, List.length_cons, show k + 1 + l.length = k + (l.length + 1) by omega]
theorem fS_res (x : UInt8) : ∀ (l : List Sg) (k : Nat), fS x l k = -1 ∨ ∃ i : Nat, i < l.length ∧ fS x l k = ((k + i : Nat) : Int)
 | [], _ => .inl rfl
 | y :: r, k => by
  unfold fS
  split
  ·
   exact .inr ⟨0, by simp, by simp⟩
  ·
   rcases fS_res x r (k + 1) with h | ⟨i, h1, h2⟩
   ·
    exact .inl h
   ·
    exact .inr ⟨i + 1, by simp; omega, by rw [h2]; congr 1; omega⟩
def toK (p : List Sg) (k : Nat) : Nat :=
 if fS 60 (p.take k) 0 < 0 then p.length else if fS 62 ((p.take k).drop ((fS 60 (p.take k) 0).toNat + 1)) ((fS 60 (p.take k) 0).toNat + 1) < 0 then p.length
 else (fS 62 ((p.take k).drop ((fS 60 (p.take k) 0).toNat + 1)) ((fS 60 (p.take k) 0).toNat + 1)).toNat
theorem toK_f {p : List Sg} {k i : Nat} (h : fS 60 (p.take k) 0 = (i : Int)) : toK p k = if fS 62 ((p.take k).drop (i + 1)) (i + 1) < 0 then p.length else (fS 62 ((p.take k).drop (i + 1)) (i + 1)).toNat := by
 unfold toK
 rw [h, if_neg (by omega), Int.toNat_natCast]
theorem toK_all (p : List Sg) (h : 0 ≤ fS 60 p 0) : toK p p.length = toS p (fS 60 p 0).toNat := by
 unfold toK toS
 rw [List.take_length, if_neg (by omega)]
theorem toS_in (p : List Sg) (h : 0 ≤ fS 60 p 0) : (fS 60 p 0).toNat + 1 ≤ toS p (fS 60 p 0).toNat ∧ toS p (fS 60 p 0).toNat ≤ p.length := by
 rcases fS_res 60 p 0 with h1 | ⟨i, h1, h2⟩
 ·
  omega
 ·
  rw [h2, Nat.zero_add, Int.toNat_natCast]
  unfold toS
  rcases fS_res 62 (p.drop (i + 1)) (i + 1) with g1 | ⟨j, g1, g2⟩
  ·
   rw [g1, if_pos (by omega)]; omega
  ·
   rw [g2, if_neg (by omega), Int.toNat_natCast]
   rw [List.length_drop] at g1
   omega
theorem step_f {p : List Sg} {k : Nat} {y : Sg} (hy : p[k]? = some y) : fS 60 (p.take (k + 1)) 0 = if (y.Pl ∧ y.c = 60) ∧ fS 60 (p.take k) 0 < 0 then (k : Int) else fS 60 (p.take k) 0 := by
 have hk := (List.getElem?_eq_some_iff.1 hy).1
 rw [List.take_add_one, hy, Option.toList_some, fS_snoc, List.length_take, Nat.zero_add, Nat.min_eq_left (by omega)]
 rcases fS_res 60 (p.take k) 0 with h | ⟨i, _, h⟩
 ·
  rw [h, if_neg (by omega)]
  by_cases hc : y.Pl ∧ y.c = 60
  ·
   rw [if_pos hc, if_pos ⟨hc, by omega⟩]
  ·
   rw [if_neg hc, if_neg (fun hh => hc hh.1)]
 ·
  rw [h, if_pos (by omega), if_neg (fun hh => by have := hh.2; omega)]
theorem step_t {p : List Sg} {k : Nat} {y : Sg} (hy : p[k]? = some y) : toK p (k + 1) = if ((y.Pl ∧ y.c = 62) ∧ 0 ≤ fS 60 (p.take (k + 1)) 0) ∧ toK p k = p.length then k else toK p k := by
 have hk := (List.getElem?_eq_some_iff.1 hy).1
 have hf := step_f hy
 have htk : p.take (k + 1) = p.take k ++ [y] := by rw [List.take_add_one, hy, Option.toList_some]
 have hlk : (p.take k).length = k := by rw [List.length_take]; omega
 rcases fS_res 60 (p.take k) 0 with h | ⟨i, hi, h⟩
 ·
  have h0 : toK p k = p.length := by unfold toK; rw [h, if_pos (by omega)]
  rw [h0]
  by_cases hc : y.Pl ∧ y.c = 60
  ·
   rw [if_pos ⟨hc, by omega⟩] at hf
   rw [if_neg (fun hh => absurd (hh.1.1.2.symm.trans hc.2) (by decide))]
   unfold toK
   rw [hf, if_neg (by omega), Int.toNat_natCast, List.drop_of_length_le (by rw [htk, List.length_append, hlk]; exact Nat.le_refl _)]
   exact if_pos (by show (-1 : Int) < 0; omega)
  ·
   rw [if_neg (fun hh => hc hh.1), h] at hf
   rw [if_neg (fun hh => by have := hh.1.2; omega)]
   unfold toK
   rw [hf, if_pos (by omega)]
 ·
  rw [if_neg (fun hh => by have := hh.2; omega), h] at hf
  rw [Nat.zero_add] at h hf
  rw [hlk] at hi
  have hd : (p.take (k + 1)).drop (i + 1) = (p.take k).drop (i + 1) ++ [y] := by rw [htk, List.drop_append_of_le_length (by omega)]
  have hdl : ((p.take k).drop (i + 1)).length = k - (i + 1) := by rw [List.length_drop, hlk]
  rw [toK_f hf, toK_f h, hd, fS_snoc, hdl, hf]
  rcases fS_res 62 ((p.take k).drop (i + 1)) (i + 1) with g | ⟨j, g1, g⟩
  ·
   rw [g, if_neg (show ¬ (0 : Int) ≤ -1 by omega), if_pos (show (-1 : Int) < 0 by omega)]
   by_cases hc : y.Pl ∧ y.c = 62
   ·
    rw [if_pos hc, if_neg (show ¬ ((i + 1 + (k - (i + 1)) : Nat) : Int) < 0 by omega), if_pos (show ((y.Pl ∧ y.c = 62) ∧ 0 ≤ ((i : Nat) : Int)) ∧ p.length = p.length from ⟨⟨hc, by omega⟩, rfl⟩), Int.toNat_natCast]
    omega
   ·
    rw [if_neg hc, if_pos (show (-1 : Int) < 0 by omega), if_neg (show ¬ (((y.Pl ∧ y.c = 62) ∧ 0 ≤ ((i : Nat) : Int)) ∧ p.length = p.length) from fun hh => hc hh.1.1)]
  ·
   rw [hdl] at g1
   rw [g, if_pos (show 0 ≤ ((i + 1 + j : Nat) : Int) by omega), if_neg (show ¬ ((i + 1 + j : Nat) : Int) < 0 by omega), Int.toNat_natCast, if_neg (show ¬ (((y.Pl ∧ y.c = 62) ∧ 0 ≤ ((i : Nat) : Int)) ∧ i + 1 + j = p.length) from fun hh => by have := hh.2; omega)]
theorem lastAt_of {x : UInt8} : ∀ {a b : Tx}, x ∉ b → lastAt x (a ++ x :: b) = some (a, b)
 | [], b, h => by
  show lastAt x (x :: b) = _
  unfold lastAt
  cases hb : lastAt x b with
  | some q => exact absurd (by have := (lastAt_some (a := q.1) (b := q.2) hb).1; rw [this]; simp) h
  | none => simp
 | c :: a, b, h => by
  show lastAt x (c :: (a ++ x :: b)) = _
  unfold lastAt
  rw [lastAt_of h]
theorem boxHost_at {t : Tx} {m : Nat} (h : t[m]? = some 64) (hb : (64 : UInt8) ∉ t.drop (m + 1)) : boxHost t = (t.take m, t.drop (m + 1)) := by
 have hm := (List.getElem?_eq_some_iff.1 h).1
 have e : t = t.take m ++ 64 :: t.drop (m + 1) := by
  conv => lhs; rw [← List.take_append_drop m t, List.drop_eq_getElem_cons hm]
  rw [List.getElem?_eq_getElem hm] at h
  rw [Option.some.inj h]
 have := lastAt_of (x := 64) (a := t.take m) hb
 rw [← e] at this
 unfold boxHost
 rw [this]
theorem boxHost_no {t : Tx} (h : (64 : UInt8) ∉ t) : boxHost t = (t, []) := by
 unfold boxHost
 cases hl : lastAt 64 t with
 | none => rfl
 | some q => exact absurd (by have := (lastAt_some (a := q.1) (b := q.2) hl).1; rw [this]; simp) h
set_option maxRecDepth 100000 in
set_option maxHeartbeats 6400000 in
theorem rlist_spec (q : Tx) (w : World) (hq : q.length ≤ 400000) : Calls Tryz.prog 63 #[encStr q] w fun e w' => Frm [] w w' ∧ ∃ A c, e = .returned (.slice A (listA q).length c) ∧ Own w' 91 3 A (listA q).length c (AC (listA q)) ∧ ∀ x ∈ ob A, w.heap.size ≤ x := by
 have K := Frm.refl [] w
 have hsl := signsF_len q.length q false 0 (Nat.le_refl _)
 refine VC.calls (nt := 134) (res := #[.tmp 2]) Tryz.func63 rfl Tryz.ntmps63 Tryz.results63 rfl ?_
 refine js (jr (ja ?_))
 refine jo (jn (jv1 0 ?_))
 refine js (jr (ja ?_))
 refine jo (jn (js (jr (jm ?_))))
 refine Ops.cl (Enters.fn (evs.cons rfl evs.nil) Tryz.call99) ((rsigns_spec q _ (by omega))) rfl ?_
 rintro e w1 ⟨f1, A0, c0, rfl, hS, hubS⟩
 refine ⟨_, rfl, ?_⟩
 have K := K.trans f1 (by simp)
 rw [← list_eq]
 have hlr : listR q = ((cutS false [] (signsF false 0 q)).map oneR).filter (fun a => decide (a ≠ ⟨[], [], []⟩)) := rfl
 rw [hlr]
 have hcc := cutS_count (signsF false 0 q) false []
 generalize signsF false 0 q = l at *
 refine Ops.cl (Enters.fn (evs.cons rfl evs.nil) Tryz.call98) ((rcut18_spec A0 c0 l _ hS.rd (by omega))) rfl ?_
 rintro e w2 ⟨f2, ps, OA, oc, hmap, rfl, hOA, hP⟩
 refine ⟨_, rfl, ?_⟩
 have K := K.trans f2 (by simp)
 obtain ⟨hcc1, hcc2⟩ := hcc
 generalize cutS false [] l = C at *
 have hCl : C.length = ps.length := by rw [← hmap, List.length_map]
 simp only [List.length_nil, Nat.zero_add] at hcc2
 refine ja ?_
 refine jo (jn (jv2 3 4 ?_))
 refine js (js (jr ?_))
 refine Ops.r (v := .int .i64 ((0 : Nat) : Int)) (Run.asg rfl) rfl ?_
 refine jo (jn (jb ?_))
 refine VC.loop (σ := Nat × Option Addr × Nat) (fun s => [(3, .slice s.2.1 (((C.take s.1).map oneR).filter (fun a => decide (a ≠ ⟨[], [], []⟩))).length s.2.2), (4, .slice OA ps.length oc), (5, .int .i64 ((s.1 : Nat) : Int))]) (fun s wr => s.1 ≤ C.length ∧ Own wr 91 3 s.2.1 (((C.take s.1).map oneR).filter (fun a => decide (a ≠ ⟨[], [], []⟩))).length s.2.2 (AC (((C.take s.1).map oneR).filter (fun a => decide (a ≠ ⟨[], [], []⟩)))) ∧ Own wr 127 1 OA ps.length oc (RW ps) ∧ PWo wr ps ∧ Frm [] w wr ∧ ∀ y ∈ ob s.2.1, w.heap.size ≤ y) (fun s => C.length - s.1) (0, none, 0) (js3 rfl rfl rfl) ⟨Nat.zero_le _, Own.nil _ _ _, hOA, hP, K, by simp [ob]⟩ ?_
 rintro ⟨i, A, c⟩ wr ⟨hi, hO, hOA, hP, K, hub⟩
 dsimp only at hi hO hub ⊢
 have hol : (((C.take i).map oneR).filter (fun a => decide (a ≠ ⟨[], [], []⟩))).length ≤ i := by
  refine Nat.le_trans (List.length_filter_le _ _) ?_
  rw [List.length_map, List.length_take]
  omega
 refine js (js (jr (jm ?_)))
 refine jm ?_
 refine Ops.r (Run.lenS rfl Tryz.underlying125) rfl ?_
 refine Ops.r (Run.bin rfl rfl (Bin.lssN _ _)) rfl ?_
 refine jo (jn (jv4 3 4 5 19 ?_))
 refine VC.condD rfl (fun hc1 => ?_) (fun hc1 => ?_)
 ·
  have hic : i < C.length := by omega
  obtain ⟨adA, hAe0, hcrow⟩ := RW_at hOA.rd hc1
  have hPp := hP _ (List.getElem_mem hc1)
  have hpe : C[i]? = some ps[i].1 := by rw [← hmap, List.getElem?_map, List.getElem?_eq_getElem hc1]; rfl
  have hplen := hcc2 _ (List.mem_of_getElem? hpe)
  have htkC : C.take (i + 1) = C.take i ++ [ps[i].1] := by rw [List.take_add_one, hpe]; rfl
  have hpmem := List.getElem_mem hc1
  generalize ps[i] = pw at *
  obtain ⟨p, PA, pc⟩ := pw
  dsimp only at hcrow hPp hpe hplen htkC
  have hsn : (((C.take (i + 1)).map oneR).filter (fun a => decide (a ≠ ⟨[], [], []⟩))) = (((C.take i).map oneR).filter (fun a => decide (a ≠ ⟨[], [], []⟩))) ++ (if oneR p ≠ ⟨[], [], []⟩ then [oneR p] else []) := by
   rw [htkC, List.map_append, List.filter_append]
   congr 1
   by_cases h : oneR p ≠ ⟨[], [], []⟩
   ·
    rw [if_pos h]; simp [h]
   ·
    rw [if_neg h]; simp at h; simp [h]
  refine jk (jn (jv3 3 4 5 ?_))
  refine js (jb (js (jr (jm ?_))))
  refine jm ?_
  refine Ops.r (Run.indexS i (by rw [← hAe0]; rfl) rfl Tryz.underlying125 Tryz.sizeOf127 hc1) rfl ?_
  refine Ops.r (Run.load rfl Tryz.isAgg127 hcrow) rfl ?_
  refine ja ?_
  refine jo (jn (jv4 3 4 5 6 ?_))
  refine js (jr (jm ?_))
  refine Ops.r (Run.lenS rfl Tryz.underlying127) rfl ?_
  refine Ops.r (v := .int .i64 (-1)) (Run.asg rfl) rfl ?_
  refine ja ?_
  refine jo (jn (jv6 3 4 5 6 7 8 ?_))
  refine js (js (jr ?_))
  refine Ops.r (v := .int .i64 ((0 : Nat) : Int)) (Run.asg rfl) rfl ?_
  refine jo (jn (jb ?_))
  refine VC.loop (σ := Nat) (fun s => [(3, .slice A (((C.take i).map oneR).filter (fun a => decide (a ≠ ⟨[], [], []⟩))).length c), (4, .slice OA ps.length oc), (5, .int .i64 ((i : Nat) : Int)), (6, .slice PA p.length pc), (7, .int .i64 (fS 60 (p.take s) 0)), (8, .int .i64 (((toK p s) : Nat) : Int)), (9, .int .i64 ((s : Nat) : Int))]) (fun s wr => s ≤ p.length ∧ Own wr 91 3 A (((C.take i).map oneR).filter (fun a => decide (a ≠ ⟨[], [], []⟩))).length c (AC (((C.take i).map oneR).filter (fun a => decide (a ≠ ⟨[], [], []⟩)))) ∧ Own wr 127 1 OA ps.length oc (RW ps) ∧ PWo wr ps ∧ Frm [] w wr ∧ ∀ y ∈ ob A, w.heap.size ≤ y) (fun s => p.length - s) 0 (js7 rfl rfl rfl rfl rfl rfl rfl) ⟨Nat.zero_le _, hO, hOA, hP, K, hub⟩ ?_
  rintro k wr2 ⟨hk, hO, hOA, hP, K, hub⟩
  refine js (js (jr (jm ?_)))
  refine jm ?_
  refine Ops.r (Run.lenS rfl Tryz.underlying127) rfl ?_
  refine Ops.r (Run.bin rfl rfl (Bin.lssN _ _)) rfl ?_
  refine jo (jn (jv8 3 4 5 6 7 8 9 31 ?_))
  refine VC.condD rfl (fun hc2 => ?_) (fun hc2 => ?_)
  ·
   have hPp := hP _ hpmem
   obtain ⟨adp, hAe, hcell⟩ := SG_at hPp.rd hc2
   have hcw : ∀ W, Frm [] wr2 W → ∀ j v, (SG1 p[k])[j]? = some v → W.cell? ((adp.add (k * 5)).add j) = some v := fun W hW => by
    obtain ⟨ad2, h2, hc2_⟩ := SG_at (hPp.rd.frm hW (by simp)) hc2
    cases hAe.symm.trans h2
    exact hc2_
   have hgy : p[k]? = some p[k] := List.getElem?_eq_getElem hc2
   generalize p[k] = x at *
   have hsf := step_f hgy
   have hst := step_t hgy
   have e60 : x.c.toNat = 60 ↔ x.c = 60 := u8n rfl
   have e62 : x.c.toNat = 62 ↔ x.c = 62 := u8n rfl
   generalize hfe : fS 60 (p.take k) 0 = f at *
   generalize hte : toK p k = t at *
   have hfr : f = -1 ∨ 0 ≤ f := by
    rcases fS_res 60 (p.take k) 0 with h | ⟨j, _, h⟩
    ·
     omega
    ·
     omega
   refine jk (jn (jv7 3 4 5 6 7 8 9 ?_))
   refine js (jb (js (js ?_)))
   refine VC.splitR [(3, .slice A (((C.take i).map oneR).filter (fun a => decide (a ≠ ⟨[], [], []⟩))).length c), (4, .slice OA ps.length oc), (5, .int .i64 ((i : Nat) : Int)), (6, .slice PA p.length pc), (7, .int .i64 f), (8, .int .i64 ((t : Nat) : Int)), (9, .int .i64 ((k : Nat) : Int))] (Frm [] wr2) 50 (.bool (decide ((x.Pl ∧ x.c.toNat = 60) ∧ f < 0))) ?_ ?_
   ·
    refine jr ?_
    refine jm ?_
    refine jm ?_
    refine Ops.r (Run.indexS k (by rw [← hAe]; rfl) rfl Tryz.underlying127 Tryz.sizeOf130 hc2) rfl ?_
    refine Ops.r (Run.loadA rfl Tryz.isAgg130 Tryz.sizeOf130 hcell (by first | rfl | (simp; done))) rfl ?_
    refine Ops.cl (Enters.fn (evs.cons rfl evs.nil) Tryz.call100) ((rplain_spec x _)) rfl ?_
    rintro e w5 ⟨rfl, fw5⟩
    refine ⟨_, rfl, ?_⟩
    have hcell := hcw _ (fw5)
    by_cases hs38 : x.Pl
    ·
     refine jm ?_
     refine jg ?_
     refine jg ?_
     refine Ops.rg rfl au (Run.indexS k (by rw [← hAe]; rfl) rfl Tryz.underlying127 Tryz.sizeOf130 hc2) rfl ?_
     refine Ops.rg rfl au (Run.fieldAddr rfl Tryz.underlying130 rfl Tryz.sizeOf5 (by decide)) rfl ?_
     refine Ops.rg rfl au (Run.load rfl Tryz.isAgg5 (hcell 0 _ rfl)) rfl ?_
     refine Ops.rg rfl au (Run.bin rfl rfl (Bin.eqlN _ 60)) rfl ?_
     by_cases hs45 : x.c.toNat = 60
     ·
      refine Ops.r (Run.pickT rfl rfl au) rfl ?_
      refine jm ?_
      refine jg ?_
      refine Ops.rg rfl au (Run.bin rfl rfl (Bin.lss _ 0)) rfl ?_
      by_cases hs49 : f < 0
      ·
       refine Ops.r (Run.pickT rfl rfl au) rfl ?_
       refine jo ?_
       refine jn ⟨(js8 (jc (by first | (simp [hs38]; done) | (simp [hs38, hs45]; done) | simp [hs38, hs45, hs49])) rfl rfl rfl rfl rfl rfl rfl), ((by first | exact Frm.refl _ _ | exact fw5))⟩
      ·
       refine Ops.r (Run.pickT rfl rfl au) rfl ?_
       refine jo ?_
       refine jn ⟨(js8 (jc (by first | (simp [hs38]; done) | (simp [hs38, hs45]; done) | simp [hs38, hs45, hs49])) rfl rfl rfl rfl rfl rfl rfl), ((by first | exact Frm.refl _ _ | exact fw5))⟩
     ·
      refine Ops.r (Run.pickT rfl rfl au) rfl ?_
      refine jm ?_
      refine ju ?_
      refine ju ?_
      refine Ops.r (Run.pickF rfl rfl au) rfl ?_
      refine jo ?_
      refine jn ⟨(js8 (jc (by first | (simp [hs38]; done) | (simp [hs38, hs45]; done) | simp [hs38, hs45, hs49])) rfl rfl rfl rfl rfl rfl rfl), ((by first | exact Frm.refl _ _ | exact fw5))⟩
    ·
     refine jm ?_
     refine ju ?_
     refine ju ?_
     refine ju ?_
     refine ju ?_
     refine ju ?_
     refine ju ?_
     refine Ops.r (Run.pickF rfl rfl au) rfl ?_
     refine jm ?_
     refine ju ?_
     refine ju ?_
     refine Ops.r (Run.pickF rfl rfl au) rfl ?_
     refine jo ?_
     refine jn ⟨(js8 (jc (by first | (simp [hs38]; done) | (simp [hs38, hs45]; done) | simp [hs38, hs45, hs49])) rfl rfl rfl rfl rfl rfl rfl), ((by first | exact Frm.refl _ _ | exact fw5))⟩
   ·
    intro Γ wR hΓ hR
    refine jn (VC.sub _ hΓ ?_)
    refine VC.meet (σ := Unit) (fun s => [(3, .slice A (((C.take i).map oneR).filter (fun a => decide (a ≠ ⟨[], [], []⟩))).length c), (4, .slice OA ps.length oc), (5, .int .i64 ((i : Nat) : Int)), (6, .slice PA p.length pc), (7, .int .i64 (fS 60 (p.take (k + 1)) 0)), (8, .int .i64 ((t : Nat) : Int)), (9, .int .i64 ((k : Nat) : Int))]) (fun s wz => Frm [] wr2 wz) ?_ ?_
    ·
     refine VC.condD rfl (fun hc3 => ?_) (fun hc3 => ?_)
     ·
      rw [if_pos ⟨⟨hc3.1.1, e60.1 hc3.1.2⟩, hc3.2⟩] at hsf
      refine jr (jm ?_)
      refine ja ?_
      refine jo ?_
      refine jn ⟨(), (js7 rfl rfl rfl rfl (by rw [hsf]; rfl) rfl rfl), ?_⟩
      exact hR
     ·
      rw [if_neg (fun h => hc3 ⟨⟨h.1.1, e60.2 h.1.2⟩, h.2⟩)] at hsf
      refine jk ?_
      refine jn ⟨(), (js7 rfl rfl rfl rfl (by rw [hsf]; rfl) rfl rfl), ?_⟩
      exact hR
    ·
     rintro _ wz f8 Γ hΓ
     have hcell := hcw _ f8
     have hf2r : fS 60 (p.take (k + 1)) 0 = -1 ∨ 0 ≤ fS 60 (p.take (k + 1)) 0 := by rw [hsf]; split <;> omega
     refine jn (VC.sub _ hΓ ?_)
     refine js ?_
     refine VC.splitR [(3, .slice A (((C.take i).map oneR).filter (fun a => decide (a ≠ ⟨[], [], []⟩))).length c), (4, .slice OA ps.length oc), (5, .int .i64 ((i : Nat) : Int)), (6, .slice PA p.length pc), (7, .int .i64 (fS 60 (p.take (k + 1)) 0)), (8, .int .i64 ((t : Nat) : Int)), (9, .int .i64 ((k : Nat) : Int))] (Frm [] wz) 74 (.bool (decide (((x.Pl ∧ x.c.toNat = 62) ∧ 0 ≤ fS 60 (p.take (k + 1)) 0) ∧ t = p.length))) ?_ ?_
     ·
      refine jr ?_
      refine jm ?_
      refine jm ?_
      refine Ops.r (Run.indexS k (by rw [← hAe]; rfl) rfl Tryz.underlying127 Tryz.sizeOf130 hc2) rfl ?_
      refine Ops.r (Run.loadA rfl Tryz.isAgg130 Tryz.sizeOf130 hcell (by first | rfl | (simp; done))) rfl ?_
      refine Ops.cl (Enters.fn (evs.cons rfl evs.nil) Tryz.call100) ((rplain_spec x _)) rfl ?_
      rintro e w6 ⟨rfl, fw6⟩
      refine ⟨_, rfl, ?_⟩
      have hcell := hcw _ (f8.trans fw6 (by simp))
      by_cases hs56 : x.Pl
      ·
       refine jm ?_
       refine jg ?_
       refine jg ?_
       refine Ops.rg rfl au (Run.indexS k (by rw [← hAe]; rfl) rfl Tryz.underlying127 Tryz.sizeOf130 hc2) rfl ?_
       refine Ops.rg rfl au (Run.fieldAddr rfl Tryz.underlying130 rfl Tryz.sizeOf5 (by decide)) rfl ?_
       refine Ops.rg rfl au (Run.load rfl Tryz.isAgg5 (hcell 0 _ rfl)) rfl ?_
       refine Ops.rg rfl au (Run.bin rfl rfl (Bin.eqlN _ 62)) rfl ?_
       by_cases hs63 : x.c.toNat = 62
       ·
        refine Ops.r (Run.pickT rfl rfl au) rfl ?_
        refine jm ?_
        refine jg ?_
        refine Ops.rg rfl au (Run.bin rfl rfl (Bin.geq _ 0)) rfl ?_
        by_cases hs67 : 0 ≤ fS 60 (p.take (k + 1)) 0
        ·
         refine Ops.r (Run.pickT rfl rfl au) rfl ?_
         refine jm ?_
         refine jg ?_
         refine jg ?_
         refine Ops.rg rfl au (Run.lenS rfl Tryz.underlying127) rfl ?_
         refine Ops.rg rfl au (Run.bin rfl rfl (Bin.eqlN _ _)) rfl ?_
         by_cases hs73 : t = p.length
         ·
          refine Ops.r (Run.pickT rfl rfl au) rfl ?_
          refine jo ?_
          refine jn ⟨(js8 (jc (by first | (simp [hs56]; done) | (simp [hs56, hs63]; done) | (simp only [hs56, hs63, hs67, hs73]; simp; done) | (simp only [hs56, hs63, hs67]; simp; done) | simp [hs56, hs63, hs67, hs73])) rfl rfl rfl rfl rfl rfl rfl), ((by first | exact Frm.refl _ _ | exact fw6))⟩
         ·
          refine Ops.r (Run.pickT rfl rfl au) rfl ?_
          refine jo ?_
          refine jn ⟨(js8 (jc (by first | (simp [hs56]; done) | (simp [hs56, hs63]; done) | (simp only [hs56, hs63, hs67, hs73]; simp; done) | (simp only [hs56, hs63, hs67]; simp; done) | simp [hs56, hs63, hs67, hs73])) rfl rfl rfl rfl rfl rfl rfl), ((by first | exact Frm.refl _ _ | exact fw6))⟩
        ·
         refine Ops.r (Run.pickT rfl rfl au) rfl ?_
         refine jm ?_
         refine ju ?_
         refine ju ?_
         refine ju ?_
         refine ju ?_
         refine Ops.r (Run.pickF rfl rfl au) rfl ?_
         refine jo ?_
         refine jn ⟨(js8 (jc (by first | (simp [hs56]; done) | (simp [hs56, hs63]; done) | (simp only [hs56, hs63, hs67, hs73]; simp; done) | (simp only [hs56, hs63, hs67]; simp; done) | simp [hs56, hs63, hs67, hs73])) rfl rfl rfl rfl rfl rfl rfl), ((by first | exact Frm.refl _ _ | exact fw6))⟩
       ·
        refine Ops.r (Run.pickT rfl rfl au) rfl ?_
        refine jm ?_
        refine ju ?_
        refine ju ?_
        refine Ops.r (Run.pickF rfl rfl au) rfl ?_
        refine jm ?_
        refine ju ?_
        refine ju ?_
        refine ju ?_
        refine ju ?_
        refine Ops.r (Run.pickF rfl rfl au) rfl ?_
        refine jo ?_
        refine jn ⟨(js8 (jc (by first | (simp [hs56]; done) | (simp [hs56, hs63]; done) | (simp only [hs56, hs63, hs67, hs73]; simp; done) | (simp only [hs56, hs63, hs67]; simp; done) | simp [hs56, hs63, hs67, hs73])) rfl rfl rfl rfl rfl rfl rfl), ((by first | exact Frm.refl _ _ | exact fw6))⟩
      ·
       refine jm ?_
       refine ju ?_
       refine ju ?_
       refine ju ?_
       refine ju ?_
       refine ju ?_
       refine ju ?_
       refine Ops.r (Run.pickF rfl rfl au) rfl ?_
       refine jm ?_
       refine ju ?_
       refine ju ?_
       refine Ops.r (Run.pickF rfl rfl au) rfl ?_
       refine jm ?_
       refine ju ?_
       refine ju ?_
       refine ju ?_
       refine ju ?_
       refine Ops.r (Run.pickF rfl rfl au) rfl ?_
       refine jo ?_
       refine jn ⟨(js8 (jc (by first | (simp [hs56]; done) | (simp [hs56, hs63]; done) | (simp only [hs56, hs63, hs67, hs73]; simp; done) | (simp only [hs56, hs63, hs67]; simp; done) | simp [hs56, hs63, hs67, hs73])) rfl rfl rfl rfl rfl rfl rfl), ((by first | exact Frm.refl _ _ | exact fw6))⟩
     ·
      intro Γ wR hΓ hR
      refine jn (VC.sub _ hΓ ?_)
      refine VC.meet (σ := Unit) (fun s => [(3, .slice A (((C.take i).map oneR).filter (fun a => decide (a ≠ ⟨[], [], []⟩))).length c), (4, .slice OA ps.length oc), (5, .int .i64 ((i : Nat) : Int)), (6, .slice PA p.length pc), (7, .int .i64 (fS 60 (p.take (k + 1)) 0)), (8, .int .i64 (((toK p (k + 1)) : Nat) : Int)), (9, .int .i64 ((k : Nat) : Int))]) (fun s wy => Frm [] wz wy) ?_ ?_
      ·
       refine VC.condD rfl (fun hc4 => ?_) (fun hc4 => ?_)
       ·
        rw [if_pos ⟨⟨⟨hc4.1.1.1, e62.1 hc4.1.1.2⟩, hc4.1.2⟩, hc4.2⟩] at hst
        refine jr (jm ?_)
        refine ja ?_
        refine jo ?_
        refine jn ⟨(), (js7 rfl rfl rfl rfl rfl (by rw [hst]; rfl) rfl), ?_⟩
        exact hR
       ·
        rw [if_neg (fun h => hc4 ⟨⟨⟨h.1.1.1, e62.2 h.1.1.2⟩, h.1.2⟩, h.2⟩)] at hst
        refine jk ?_
        refine jn ⟨(), (js7 rfl rfl rfl rfl rfl (by rw [hst]; rfl) rfl), ?_⟩
        exact hR
      ·
       rintro _ wy f9 Γ hΓ
       have f89 := f8.trans f9 (by simp)
       have hO := hO.frm f89 (by simp)
       have hOA := hOA.frm f89 (by simp)
       have hP := hP.frm0 f89
       have K := K.trans f89 (by simp)
       refine blockQ_n (jn (VC.sub _ hΓ ?_))
       refine jr (jm ?_)
       refine Ops.r (Run.bin rfl rfl (Bin.add_i64 _ 1 (by omega))) rfl ?_
       refine ja ?_
       refine jo ?_
       refine jn ⟨(k + 1), (js7 rfl rfl rfl rfl rfl rfl rfl), ?_, ?_⟩
       ·
        exact ⟨hc2, hO, hOA, hP, K, hub⟩
       ·
        first | omega | (dsimp only; omega)
  ·
   have hkl : k = p.length := by omega
   subst hkl
   rw [List.take_length]
   refine jx ?_
   refine thenQ_x (thenQ_x (blockQ_x ?_))
   refine jn (jv6 3 4 5 6 7 8 ?_)
   refine js (jr (jm ?_))
   refine Ops.cl (Enters.fn (evs.cons rfl evs.nil) Tryz.call101) ((rremark_spec PA pc p _ (hP _ hpmem).rd (by omega))) rfl ?_
   rintro e w11 ⟨rfl, f11⟩
   refine ⟨_, rfl, ?_⟩
   have hO := hO.frm f11 (by simp)
   have hOA := hOA.frm f11 (by simp)
   have hP := hP.frm0 f11
   have K := K.trans f11 (by simp)
   refine Ops.r (Run.build (evs.cons rfl evs.nil) zero91 (places91).choose_spec.1 (places91).choose_spec.2 rfl) rfl ?_
   refine Ops.m (Does.alloc zero91) rfl ?_
   rintro _ w12 ⟨rfl, hF12⟩
   have hb10 := hF12.blk
   have s10 := K.size
   have nO : ∀ y ∈ ob A, y < w11.heap.size := hO.lt
   have nOA : ∀ y ∈ ob OA, y < w11.heap.size := hOA.lt
   have nP : ∀ z ∈ ps, ∀ y ∈ ob z.2.1, y < w11.heap.size := fun z hz => (hP z hz).lt
   have hO := hO.frm hF12.frm (by simp)
   have hOA := hOA.frm hF12.frm (by simp)
   have hP := hP.frm0 hF12.frm
   have K := K.trans hF12.frm (by simp)
   generalize hg10 : w11.heap.size = g10 at hb10 s10 nO nOA nP ⊢
   have nO : g10 ∉ ob A := fun h => by have := nO _ h; omega
   have nOA : g10 ∉ ob OA := fun h => by have := nOA _ h; omega
   have nP : ∀ z ∈ ps, g10 ∉ ob z.2.1 := fun z hz h => by have := nP z hz _ h; omega
   refine Ops.st (Acts.storeA rfl rfl Tryz.sizeOf91 hb10 rfl (AC1_one ⟨trimQ (remS false [] p), [], []⟩)) ?_
   rintro w13 ⟨hb10n, f13, _⟩
   have hb10 : Blk w13 g10 91 (AC1 ⟨trimQ (remS false [] p), [], []⟩).toArray := hb10n
   have hO := hO.frm f13 (fun y hy h => by simp at h; subst h; exact nO hy)
   have hOA := hOA.frm f13 (fun y hy h => by simp at h; subst h; exact nOA hy)
   have hP := hP.frm f13 (fun z hz y hy h => by simp at h; subst h; exact nP z hz hy)
   have K := Frm.own K f13 (fun y hy => by simp at hy; omega)
   refine jo (jn (jv7 3 4 5 6 7 8 10 ?_))
   refine js (jr (jm ?_))
   refine Ops.cl (Enters.fn (evs.cons rfl evs.nil) Tryz.call102) ((rsay_spec PA pc p _ (hP _ hpmem).rd (by omega))) rfl ?_
   rintro e w14 ⟨rfl, f14⟩
   refine ⟨_, rfl, ?_⟩
   have hO := hO.frm f14 (by simp)
   have hOA := hOA.frm f14 (by simp)
   have hP := hP.frm0 f14
   have K := K.trans f14 (by simp)
   have hb10 := hb10.frm f14 (by simp)
   refine ja ?_
   refine jo (jn (jv8 3 4 5 6 7 8 10 11 ?_))
   refine js (js (jr (jm ?_)))
   refine Ops.r (Run.bin rfl rfl (Bin.geq _ 0)) rfl ?_
   refine jo (jn (jv9 3 4 5 6 7 8 10 11 82 ?_))
   refine VC.meet (σ := Unit) (fun s => [(3, .slice A (((C.take i).map oneR).filter (fun a => decide (a ≠ ⟨[], [], []⟩))).length c), (4, .slice OA ps.length oc), (5, .int .i64 ((i : Nat) : Int)), (10, .pointer (some ⟨g10, 0, none⟩)), (11, encStr (allS p))]) (fun s wv => Blk wv g10 91 (AC1 ⟨nmS p, [], []⟩).toArray ∧ Own wv 91 3 A (((C.take i).map oneR).filter (fun a => decide (a ≠ ⟨[], [], []⟩))).length c (AC (((C.take i).map oneR).filter (fun a => decide (a ≠ ⟨[], [], []⟩)))) ∧ Own wv 127 1 OA ps.length oc (RW ps) ∧ PWo wv ps ∧ Frm [] w wv ∧ ∀ y ∈ ob A, w.heap.size ≤ y) ?_ ?_
   ·
    refine VC.condD rfl (fun hc5 => ?_) (fun hc5 => ?_)
    ·
     obtain ⟨f0, hf0⟩ : ∃ f0 : Nat, fS 60 p 0 = (f0 : Int) := ⟨(fS 60 p 0).toNat, by omega⟩
     have hti := toS_in p hc5
     rw [toK_all p hc5]
     have hnm : nmS p = sayS false [] (p.take f0) := by unfold nmS; rw [hf0, if_neg (by omega), Int.toNat_natCast]
     have hall : allS p = sayS false [] ((p.drop (f0 + 1)).take (toS p f0 - (f0 + 1))) := by unfold allS; rw [hf0, if_neg (by omega), Int.toNat_natCast]
     rw [hf0, Int.toNat_natCast] at hti ⊢
     rw [hnm, hall]
     generalize toS p f0 = t0 at *
     refine js (jr (jm ?_))
     refine jm ?_
     have hpcl : p.length ≤ pc := (hP _ hpmem).le
     refine Ops.r (Run.sliceS 0 f0 rfl Tryz.underlying127 Tryz.sizeOf130 evB.none_ (evB.some_ rfl) (by omega) (by omega)) rfl ?_
     have hr85 := SG_cut (hP _ hpmem).rd (show 0 ≤ f0 by omega) (show f0 ≤ p.length by omega) hpcl
     rw [List.drop_zero, Nat.sub_zero] at hr85
     rw [show f0 - 0 = (p.take f0).length by rw [List.length_take]; omega]
     refine Ops.cl (Enters.fn (evs.cons rfl evs.nil) Tryz.call102) ((rsay_spec _ _ (p.take f0) _ hr85 (by simp; omega))) rfl ?_
     rintro e w15 ⟨rfl, f15⟩
     refine ⟨_, rfl, ?_⟩
     have hO := hO.frm f15 (by simp)
     have hOA := hOA.frm f15 (by simp)
     have hP := hP.frm0 f15
     have K := K.trans f15 (by simp)
     have hb10 := hb10.frm f15 (by simp)
     refine Ops.r (Run.fieldAddr rfl Tryz.underlying91 rfl Tryz.sizeOf9 (by decide)) rfl ?_
     refine Ops.st (Acts.store rfl rfl Tryz.sizeOf9 hb10 rfl rfl) ?_
     rintro w16 ⟨hb10n, fw16, _⟩
     have hb10 : Blk w16 g10 91 (AC1 ⟨sayS false [] (p.take f0), [], []⟩).toArray := hb10n
     have hO := hO.frm fw16 (fun y hy h => by simp at h; subst h; exact nO hy)
     have hOA := hOA.frm fw16 (fun y hy h => by simp at h; subst h; exact nOA hy)
     have hP := hP.frm fw16 (fun z hz y hy h => by simp at h; subst h; exact nP z hz hy)
     have K := Frm.own K fw16 (fun y hy => by simp at hy; omega)
     refine jo (jn (jv7 3 4 5 6 7 8 10 ?_))
     refine jr (jm ?_)
     refine jm ?_
     refine Ops.r (Run.bin rfl rfl (Bin.add_i64 f0 1 (by omega))) rfl ?_
     refine jm ?_
     refine Ops.r (Run.sliceS (f0 + 1) t0 rfl Tryz.underlying127 Tryz.sizeOf130 (evB.some_ rfl) (evB.some_ rfl) (by omega) (by omega)) rfl ?_
     have hr92 := SG_cut (hP _ hpmem).rd hti.1 hti.2 hpcl
     have hl92 : ((p.drop (f0 + 1)).take (t0 - (f0 + 1))).length = t0 - (f0 + 1) := by simp; omega
     refine Ops.cl (Enters.fn (evs.cons rfl evs.nil) Tryz.call102) ((by have h := rsay_spec (cutA PA pc (f0 + 1) 5) (pc - (f0 + 1)) ((p.drop (f0 + 1)).take (t0 - (f0 + 1))) _ hr92 (by simp; omega); rw [hl92] at h; exact h)) rfl ?_
     rintro e w17 ⟨rfl, f17⟩
     refine ⟨_, rfl, ?_⟩
     have hO := hO.frm f17 (by simp)
     have hOA := hOA.frm f17 (by simp)
     have hP := hP.frm0 f17
     have K := K.trans f17 (by simp)
     have hb10 := hb10.frm f17 (by simp)
     refine ja ?_
     refine jo ?_
     refine jn ⟨(), (js5 rfl rfl rfl rfl rfl), ?_⟩
     exact ⟨hb10, hO, hOA, hP, K, hub⟩
    ·
     have hnm : nmS p = trimQ (remS false [] p) := by unfold nmS; rw [if_pos (by omega)]
     have hall : allS p = sayS false [] p := by unfold allS; rw [if_pos (by omega)]
     refine jk ?_
     refine jn ⟨(), (js5 rfl rfl rfl rfl (by rw [hall]; rfl)), ?_⟩
     exact ⟨by rw [hnm]; exact hb10, hO, hOA, hP, K, hub⟩
   ·
    rintro _ wv ⟨hb10, hO, hOA, hP, K, hub⟩ Γ hΓ
    have h1r : oneR p = ⟨nmS p, (boxHost (allS p)).1, (boxHost (allS p)).2⟩ := rfl
    have hal : (allS p).length ≤ 2 * p.length := by
     unfold allS
     split
     ·
      have := sayS_len p false []; simpa using this
     ·
      have := sayS_len ((p.drop ((fS 60 p 0).toNat + 1)).take (toS p (fS 60 p 0).toNat - ((fS 60 p 0).toNat + 1))) false []
      simp only [List.length_nil, Nat.zero_add, List.length_take, List.length_drop] at this
      omega
    generalize nmS p = nm at *
    generalize allS p = al at *
    refine jn (VC.sub _ hΓ ?_)
    refine js (jr (jm ?_))
    refine Ops.r (Run.fieldAddr rfl Tryz.underlying91 rfl Tryz.sizeOf9 (by decide)) rfl ?_
    refine Ops.st (Acts.store rfl rfl Tryz.sizeOf9 hb10 rfl rfl) ?_
    rintro w18 ⟨hb10n, fw18, _⟩
    have hb10 : Blk w18 g10 91 (AC1 ⟨nm, al, []⟩).toArray := hb10n
    have hO := hO.frm fw18 (fun y hy h => by simp at h; subst h; exact nO hy)
    have hOA := hOA.frm fw18 (fun y hy h => by simp at h; subst h; exact nOA hy)
    have hP := hP.frm fw18 (fun z hz y hy h => by simp at h; subst h; exact nP z hz hy)
    have K := Frm.own K fw18 (fun y hy => by simp at hy; omega)
    refine jo (jn (jv5 3 4 5 10 11 ?_))
    refine js (js (jr (jm ?_)))
    refine Ops.r (Run.lenT rfl Tryz.underlying9) rfl ?_
    refine Ops.r (Run.bin rfl rfl (Bin.sub _ _ (by simp only [bmin]; omega) (by simp only [bmax]; omega))) rfl ?_
    refine ja ?_
    refine jo (jn (jv6 3 4 5 10 11 12 ?_))
    refine VC.meet (σ := Unit) (fun s => [(3, .slice A (((C.take i).map oneR).filter (fun a => decide (a ≠ ⟨[], [], []⟩))).length c), (4, .slice OA ps.length oc), (5, .int .i64 ((i : Nat) : Int)), (10, .pointer (some ⟨g10, 0, none⟩))]) (fun s wv => Blk wv g10 91 (AC1 ⟨nm, (boxHost al).1, (boxHost al).2⟩).toArray ∧ Own wv 91 3 A (((C.take i).map oneR).filter (fun a => decide (a ≠ ⟨[], [], []⟩))).length c (AC (((C.take i).map oneR).filter (fun a => decide (a ≠ ⟨[], [], []⟩)))) ∧ Own wv 127 1 OA ps.length oc (RW ps) ∧ PWo wv ps ∧ Frm [] w wv ∧ ∀ y ∈ ob A, w.heap.size ≤ y) ?_ ?_
    ·
     refine jb ?_
     refine VC.loop (σ := Nat) (fun s => [(3, .slice A (((C.take i).map oneR).filter (fun a => decide (a ≠ ⟨[], [], []⟩))).length c), (4, .slice OA ps.length oc), (5, .int .i64 ((i : Nat) : Int)), (10, .pointer (some ⟨g10, 0, none⟩)), (11, encStr al), (12, .int .i64 (((s : Nat) : Int) - 1))]) (fun s wr => w18 = wr ∧ s ≤ al.length ∧ (64 : UInt8) ∉ al.drop s) (fun s => s) al.length (js6 rfl rfl rfl rfl rfl rfl) ⟨rfl, Nat.le_refl _, by simp⟩ ?_
     rintro j _ ⟨rfl, hj, hno⟩
     refine js (js (jr (jm ?_)))
     refine Ops.r (Run.bin rfl rfl (Bin.geq _ 0)) rfl ?_
     refine jo (jn (jv7 3 4 5 10 11 12 100 ?_))
     refine VC.condD rfl (fun hc6 => ?_) (fun hc6 => ?_)
     ·
      obtain ⟨m, rfl⟩ : ∃ m, j = m + 1 := ⟨j - 1, by omega⟩
      rw [show (((m + 1 : Nat) : Int) - 1) = ((m : Nat) : Int) by omega]
      have hgm := hdA_at (show m < al.length by omega)
      have hdm := hdA_drop (show m < al.length by omega)
      have e64 : (hdA al m).toNat = 64 ↔ hdA al m = 64 := u8n rfl
      refine jk (jn (jv6 3 4 5 10 11 12 ?_))
      refine js (jb (js (jr (jm ?_))))
      refine jm ?_
      refine Ops.r (Run.indexT _ rfl rfl Tryz.underlying9 hgm) rfl ?_
      refine Ops.r (Run.bin rfl rfl (Bin.eqlN _ 64)) rfl ?_
      refine jo (jn (jv7 3 4 5 10 11 12 106 ?_))
      refine VC.condD rfl (fun hc7 => ?_) (fun hc7 => ?_)
      ·
       have hbh := boxHost_at (by rw [hgm, e64.1 hc7]) hno
       refine js (jr (jm ?_))
       refine jm ?_
       refine Ops.r (Run.sliceT 0 m rfl Tryz.underlying9 evB.none_ (evB.some_ rfl) (by omega) (by omega)) rfl ?_
       rw [show (al.drop 0).take (m - 0) = al.take m by simp]
       refine Ops.r (Run.fieldAddr rfl Tryz.underlying91 rfl Tryz.sizeOf9 (by decide)) rfl ?_
       refine Ops.st (Acts.store rfl rfl Tryz.sizeOf9 hb10 rfl rfl) ?_
       rintro w19 ⟨hb10n, fw19, _⟩
       have hb10 : Blk w19 g10 91 (AC1 ⟨nm, al.take m, []⟩).toArray := hb10n
       have hO := hO.frm fw19 (fun y hy h => by simp at h; subst h; exact nO hy)
       have hOA := hOA.frm fw19 (fun y hy h => by simp at h; subst h; exact nOA hy)
       have hP := hP.frm fw19 (fun z hz y hy h => by simp at h; subst h; exact nP z hz hy)
       have K := Frm.own K fw19 (fun y hy => by simp at hy; omega)
       refine jo (jn (jv6 3 4 5 10 11 12 ?_))
       refine js (jr (jm ?_))
       refine jm ?_
       refine Ops.r (Run.bin rfl rfl (Bin.add_i64 m 1 (by omega))) rfl ?_
       refine Ops.r (Run.sliceT (m + 1) al.length rfl Tryz.underlying9 (evB.some_ rfl) evB.none_ (by omega) (by omega)) rfl ?_
       rw [show (al.drop (m + 1)).take (al.length - (m + 1)) = al.drop (m + 1) from List.take_of_length_le (by simp)]
       refine Ops.r (Run.fieldAddr rfl Tryz.underlying91 rfl Tryz.sizeOf9 (by decide)) rfl ?_
       refine Ops.st (Acts.store rfl rfl Tryz.sizeOf9 hb10 rfl rfl) ?_
       rintro w20 ⟨hb10n, fw20, _⟩
       have hb10 : Blk w20 g10 91 (AC1 ⟨nm, al.take m, al.drop (m + 1)⟩).toArray := hb10n
       have hO := hO.frm fw20 (fun y hy h => by simp at h; subst h; exact nO hy)
       have hOA := hOA.frm fw20 (fun y hy h => by simp at h; subst h; exact nOA hy)
       have hP := hP.frm fw20 (fun z hz y hy h => by simp at h; subst h; exact nP z hz hy)
       have K := Frm.own K fw20 (fun y hy => by simp at hy; omega)
       refine jo (jn (jv4 3 4 5 10 ?_))
       refine jx ?_
       refine blockQ_o rfl (thenQ_x (thenQ_x (blockQ_x ?_)))
       refine jn ⟨(), (js4 rfl rfl rfl rfl), ?_⟩
       exact ⟨by rw [hbh]; exact hb10, hO, hOA, hP, K, hub⟩
      ·
       refine jk ?_
       refine blockQ_n (jn ?_)
       refine jv6 3 4 5 10 11 12 ?_
       refine jr (jm ?_)
       refine Ops.r (Run.bin rfl rfl (Bin.subZ _ 1 (by omega) (by omega))) rfl ?_
       refine ja ?_
       refine jo ?_
       refine jn ⟨m, (js6 rfl rfl rfl rfl rfl rfl), ?_, ?_⟩
       ·
        refine ⟨rfl, by omega, ?_⟩
        rw [hdm]
        simp only [List.mem_cons, not_or]
        exact ⟨fun e => hc7 (e64.2 e.symm), hno⟩
       ·
        first | omega | (dsimp only; omega)
     ·
      have hj0 : j = 0 := by omega
      rw [hj0, List.drop_zero] at hno
      have hbh := boxHost_no hno
      refine jx ?_
      refine thenQ_x (thenQ_x (blockQ_x ?_))
      refine jn ⟨(), (js4 rfl rfl rfl rfl), ?_⟩
      exact ⟨by rw [hbh]; exact hb10, hO, hOA, hP, K, hub⟩
    ·
     rintro _ wv ⟨hb10, hO, hOA, hP, K, hub⟩ Γ hΓ
     rw [h1r] at hsn
     generalize boxHost al = bh at *
     obtain ⟨bx, hs⟩ := bh
     dsimp only at hb10 hsn h1r
     refine jn (VC.sub _ hΓ ?_)
     refine js ?_
     refine VC.split1 [(3, _), (4, _), (5, _), (10, _)] (js4 rfl rfl rfl rfl) 128 (.bool (decide ((nm ≠ [] ∨ bx ≠ []) ∨ hs ≠ []))) ?_ ?_
     ·
      refine jr ?_
      refine Ops.r (Run.fieldAddr rfl Tryz.underlying91 rfl Tryz.sizeOf9 (by decide)) rfl ?_
      refine Ops.r (Run.load rfl Tryz.isAgg9 (hb10.cell 0)) rfl ?_
      refine Ops.r (Run.neqT rfl rfl) rfl ?_
      by_cases hs118 : nm ≠ []
      ·
       refine jm ?_
       refine ju ?_
       refine ju ?_
       refine ju ?_
       refine Ops.r (Run.pickT rfl rfl au) rfl ?_
       refine jm ?_
       refine ju ?_
       refine ju ?_
       refine ju ?_
       refine Ops.r (Run.pickT rfl rfl au) rfl ?_
       refine jo ?_
       refine jn ⟨(js5 (jc (by simp [*])) rfl rfl rfl rfl), rfl⟩
      ·
       refine jm ?_
       refine Ops.rg rfl au (Run.fieldAddr rfl Tryz.underlying91 rfl Tryz.sizeOf9 (by decide)) rfl ?_
       refine Ops.rg rfl au (Run.load rfl Tryz.isAgg9 (hb10.cell 1)) rfl ?_
       refine Ops.rg rfl au (Run.neqT rfl rfl) rfl ?_
       by_cases hs122 : bx ≠ []
       ·
        refine Ops.r (Run.pickF rfl rfl au) rfl ?_
        refine jm ?_
        refine ju ?_
        refine ju ?_
        refine ju ?_
        refine Ops.r (Run.pickT rfl rfl au) rfl ?_
        refine jo ?_
        refine jn ⟨(js5 (jc (by simp [*])) rfl rfl rfl rfl), rfl⟩
       ·
        refine Ops.r (Run.pickF rfl rfl au) rfl ?_
        refine jm ?_
        refine Ops.rg rfl au (Run.fieldAddr rfl Tryz.underlying91 rfl Tryz.sizeOf9 (by decide)) rfl ?_
        refine Ops.rg rfl au (Run.load rfl Tryz.isAgg9 (hb10.cell 2)) rfl ?_
        refine Ops.rg rfl au (Run.neqT rfl rfl) rfl ?_
        by_cases hs127 : hs ≠ []
        ·
         refine Ops.r (Run.pickF rfl rfl au) rfl ?_
         refine jo ?_
         refine jn ⟨(js5 (jc (by simp [*])) rfl rfl rfl rfl), rfl⟩
        ·
         refine Ops.r (Run.pickF rfl rfl au) rfl ?_
         refine jo ?_
         refine jn ⟨(js5 (jc (by simp [*])) rfl rfl rfl rfl), rfl⟩
     ·
      intro Γ hΓ
      refine jn (VC.sub _ hΓ ?_)
      refine VC.meet (σ := Option Addr × Nat) (fun s => [(3, .slice s.1 (((C.take (i + 1)).map oneR).filter (fun a => decide (a ≠ ⟨[], [], []⟩))).length s.2), (4, .slice OA ps.length oc), (5, .int .i64 ((i : Nat) : Int))]) (fun s wu => Own wu 91 3 s.1 (((C.take (i + 1)).map oneR).filter (fun a => decide (a ≠ ⟨[], [], []⟩))).length s.2 (AC (((C.take (i + 1)).map oneR).filter (fun a => decide (a ≠ ⟨[], [], []⟩)))) ∧ Own wu 127 1 OA ps.length oc (RW ps) ∧ PWo wu ps ∧ Frm [] w wu ∧ ∀ y ∈ ob s.1, w.heap.size ≤ y) ?_ ?_
      ·
       refine VC.condD rfl (fun hc8 => ?_) (fun hc8 => ?_)
       ·
        have hne : (⟨nm, bx, hs⟩ : Adr) ≠ ⟨[], [], []⟩ := fun e => by
         injection e with e1 e2 e3
         rcases hc8 with (h | h) | h
         ·
          exact h e1
         ·
          exact h e2
         ·
          exact h e3
        rw [if_pos hne] at hsn
        refine jr (jm ?_)
        refine Ops.r (Run.loadA rfl Tryz.isAgg91 Tryz.sizeOf91 (fun j v hj => hb10.cells j v hj) (by first | rfl | (simp; done))) rfl ?_
        refine Ops.m (Does.buildS1 rfl Tryz.underlying88 Tryz.sizeOf91 zero91 (by decide) (by decide) rfl rfl) rfl ?_
        rintro _ w21 ⟨rfl, hF21⟩
        have hrd21 := hrdA (x := ⟨nm, bx, hs⟩) hF21
        have hO := hO.frm hF21.frm (by simp)
        have hOA := hOA.frm hF21.frm (by simp)
        have hP := hP.frm0 hF21.frm
        have K := K.trans hF21.frm (by simp)
        refine Ops.m (Does.app rfl rfl Tryz.underlying88 (info91) rfl (by decide) hO hrd21 (AC_one _) (by omega) (by omega)) rfl ?_
        rintro _ w22 ⟨A22, c22, rfl, hO22, f22, hob22⟩
        have sK := K.size
        have hOA := hOA.frm f22 (fun y hy h => hOA.ne_own hO (by decide) y hy h)
        have hP := hP.own f22 hO (by decide)
        have K := Frm.own K f22 hub
        have hO22 : Own w22 91 3 A22 (((C.take (i + 1)).map oneR).filter (fun a => decide (a ≠ ⟨[], [], []⟩))).length c22 (AC (((C.take (i + 1)).map oneR).filter (fun a => decide (a ≠ ⟨[], [], []⟩)))) := by rw [hsn, AC_append, List.length_append]; exact hO22
        refine ja ?_
        refine jo ?_
        refine jn ⟨(A22, c22), (js3 (by rw [hsn, List.length_append]; rfl) rfl rfl), ?_⟩
        exact ⟨hO22, hOA, hP, K, up_app hub hob22 sK⟩
       ·
        have hne : ¬ (⟨nm, bx, hs⟩ : Adr) ≠ ⟨[], [], []⟩ := fun e => e (by
         have h1 : nm = [] := Classical.not_not.1 (fun h => hc8 (.inl (.inl h)))
         have h2 : bx = [] := Classical.not_not.1 (fun h => hc8 (.inl (.inr h)))
         have h3 : hs = [] := Classical.not_not.1 (fun h => hc8 (.inr h))
         rw [h1, h2, h3])
        rw [if_neg hne, List.append_nil] at hsn
        refine jk ?_
        refine jn ⟨(A, c), (js3 (by rw [hsn]; rfl) rfl rfl), ?_⟩
        exact ⟨by rw [hsn]; exact hO, hOA, hP, K, hub⟩
      ·
       rintro ⟨A3, c3⟩ wu ⟨hO3, hOA3, hP3, K3, hub3⟩ Γ hΓ
       dsimp only at hO3 hub3
       refine blockQ_n (jn (VC.sub _ hΓ ?_))
       refine jr (jm ?_)
       refine Ops.r (Run.bin rfl rfl (Bin.add_i64 _ 1 (by omega))) rfl ?_
       refine ja ?_
       refine jo ?_
       refine jn ⟨(i + 1, A3, c3), (js3 rfl rfl rfl), ?_, ?_⟩
       ·
        exact ⟨by show i + 1 ≤ C.length; omega, hO3, hOA3, hP3, K3, hub3⟩
       ·
        dsimp only; omega
 ·
  have hil : i = C.length := by omega
  subst hil
  rw [List.take_length] at hO ⊢
  refine jx ?_
  refine thenQ_x (thenQ_x (blockQ_x ?_))
  refine jn (jv1 3 ?_)
  refine js (jr (jm ?_))
  refine ja ?_
  refine jo (jn (jv1 2 ?_))
  refine jt ?_
  refine end1 rfl ?_
  exact ⟨K, A, c, rfl, hO, hub⟩
end Go.Proofs.YtenbjndldenkfaaGreatDoor
namespace Go.Proofs.YtenbjndldenkfaaGreatDoor
open Go.RowKit Go.Sort
theorem dig_one : ∀ n : Nat, n < 10 → (([48, 49, 50, 51, 52, 53, 54, 55, 56, 57] : Tx).drop n).take (n + 1 - n) = Lib.decDigits n := by decide +kernel
theorem dec_more {n : Nat} (h : ¬ n < 10) : Lib.decDigits n = Lib.decDigits (n / 10) ++ Lib.decDigits (n % 10) := by
 conv => lhs; unfold Lib.decDigits
 rw [dif_neg h]
 congr 1
 conv => rhs; unfold Lib.decDigits
 rw [dif_pos (by omega)]
set_option maxRecDepth 100000 in
theorem rdig_step (n : Nat) (hn : n ≤ 4611686018427387904) (ih : ∀ m, m < n → ∀ w, Calls Tryz.prog 29 #[.int .i64 ((m : Nat) : Int)] w fun e w' => e = .returned (encStr (Lib.decDigits m)) ∧ w = w') (w : World) :
  Calls Tryz.prog 29 #[.int .i64 ((n : Nat) : Int)] w fun e w' => e = .returned (encStr (Lib.decDigits n)) ∧ w = w' := by
 refine VC.calls (nt := 16) (res := #[.tmp 2]) Tryz.func29 rfl Tryz.ntmps29 Tryz.results29 rfl ?_
 refine js (jr (ja ?_))
 refine jo (jn (jv1 0 ?_))
 refine js (js (jr (jm ?_)))
 refine Ops.r (Run.bin rfl rfl (Bin.lssN _ 10)) rfl ?_
 refine jo (jn (jv2 0 4 ?_))
 refine VC.condD rfl (fun hc1 => ?_) (fun hc1 => ?_)
 ·
  refine js (jr (jm ?_))
  refine jm ?_
  refine Ops.r (Run.bin rfl rfl (Bin.add_i64 _ 1 (by omega))) rfl ?_
  refine Ops.r (Run.sliceT (s := [48, 49, 50, 51, 52, 53, 54, 55, 56, 57]) n (n + 1) rfl Tryz.underlying9 (evB.some_ rfl) (evB.some_ rfl) (by omega) (by simp; omega)) rfl ?_
  rw [dig_one n hc1]
  refine ja ?_
  refine jo (jn (jv1 2 ?_))
  refine jt ?_
  refine thenQ_r (end1 rfl ?_)
  exact ⟨rfl, rfl⟩
 ·
  refine jk (jn (jv1 0 ?_))
  refine js (jr (jm ?_))
  refine Ops.r (Run.bin rfl rfl (Bin.quo_i64 n 10 (by omega) (by omega))) rfl ?_
  refine Ops.cl (Enters.fn (evs.cons rfl evs.nil) Tryz.call29) ((ih (n / 10) (by omega) _)) rfl ?_
  rintro e _ ⟨rfl, rfl⟩
  refine ⟨_, rfl, ?_⟩
  refine jm ?_
  refine Ops.r (Run.bin rfl rfl (Bin.remN _ 10 (by omega))) rfl ?_
  refine Ops.cl (Enters.fn (evs.cons rfl evs.nil) Tryz.call29) ((ih (n % 10) (by omega) _)) rfl ?_
  rintro e _ ⟨rfl, rfl⟩
  refine ⟨_, rfl, ?_⟩
  refine Ops.r (Run.addT rfl rfl (by have h1 := decL (n / 10); have h2 := decL (n % 10); omega)) rfl ?_
  refine ja ?_
  refine jo (jn (jv1 2 ?_))
  refine jt ?_
  refine end1 rfl ?_
  exact ⟨by rw [dec_more hc1], rfl⟩
theorem rdigits_spec (n : Nat) : n ≤ 4611686018427387904 → ∀ w : World, Calls Tryz.prog 29 #[.int .i64 ((n : Nat) : Int)] w fun e w' => e = .returned (encStr (Lib.decDigits n)) ∧ w = w' := by
 induction n using Nat.strongRecOn with
 | ind n ih => exact fun hn w => rdig_step n hn (fun m hm w => ih m hm (by omega) w) w
theorem slice_onE {s : Tx} {i : Nat} {x : UInt8} (h : s[i]? = some x) : (s.drop i).take (i + 1 - i) = [x] := by
 have hl := (List.getElem?_eq_some_iff.1 h).1
 rw [List.drop_eq_getElem_cons hl, show i + 1 - i = 1 by omega]
 rw [List.getElem?_eq_getElem hl] at h
 rw [Option.some.inj h]
 rfl
theorem take_hdE {a : Tx} {j : Nat} (h : j < a.length) : a.take (j + 1) = a.take j ++ [hdA a j] := by
 rw [take_snoc h]
 have e := hdA_at h
 rw [List.getElem?_eq_getElem h] at e
 rw [Option.some.inj e]
set_option maxRecDepth 100000 in
set_option maxHeartbeats 800000 in
theorem rstring_spec (q : Tx) (w : World) (hq : q.length ≤ 400000) : Calls Tryz.prog 11 #[encStr q] w fun e w' => e = .returned (encStr (strQ q)) ∧ w = w' := by
 refine VC.calls (nt := 54) (res := #[.tmp 2]) Tryz.func11 rfl Tryz.ntmps11 Tryz.results11 rfl ?_
 refine js (jr (ja ?_))
 refine jo (jn (jv1 0 ?_))
 refine js (jr (ja ?_))
 refine jo (jn (js (js (jr ?_))))
 refine Ops.r (v := .int .i64 ((0 : Nat) : Int)) (Run.asg rfl) rfl ?_
 refine jo (jn (jb ?_))
 refine VC.loop (σ := Nat) (fun s => [(0, encStr q), (3, encStr (34 :: escQ (q.take s))), (4, .int .i64 ((s : Nat) : Int))]) (fun s wr => w = wr ∧ s ≤ q.length ∧ (∀ c ∈ q.take s, 32 ≤ c.toNat ∧ c.toNat ≤ 126) ∧ (0 < s → q.length ≤ 200)) (fun s => q.length - s) 0 (js3 rfl rfl rfl) ⟨rfl, Nat.zero_le _, by simp, fun h => absurd h (by omega)⟩ ?_
 rintro k _ ⟨rfl, hk, hall, h200⟩
 have hel := escQ_len (q.take k)
 rw [List.length_take] at hel
 refine js (js (jr (jm ?_)))
 refine jm ?_
 refine Ops.r (Run.lenT rfl Tryz.underlying9) rfl ?_
 refine Ops.r (Run.bin rfl rfl (Bin.lssN _ _)) rfl ?_
 refine jo (jn (jv4 0 3 4 8 ?_))
 refine VC.condD rfl (fun hc1 => ?_) (fun hc1 => ?_)
 ·
  have hgx := hdA_at hc1
  have hts := take_hdE hc1
  have hmem : hdA q k ∈ q := List.mem_of_getElem? hgx
  generalize hdA q k = x at *
  have e34 : x.toNat = 34 ↔ x = 34 := u8n rfl
  have e92 : x.toNat = 92 ↔ x = 92 := u8n rfl
  refine jk (jn (jv3 0 3 4 ?_))
  refine js (jb (js (js ?_)))
  refine VC.split1 [(0, _), (3, _), (4, _)] (js3 rfl rfl rfl) 25 (.bool (decide ((200 < q.length ∨ x.toNat < 32) ∨ 127 ≤ x.toNat))) ?_ ?_
  ·
   refine jr ?_
   refine jm ?_
   refine Ops.r (Run.lenT rfl Tryz.underlying9) rfl ?_
   refine Ops.r (Run.bin rfl rfl (Bin.gtrN _ 200)) rfl ?_
   by_cases hs13 : 200 < q.length
   ·
    refine jm ?_
    refine ju ?_
    refine ju ?_
    refine ju ?_
    refine ju ?_
    refine Ops.r (Run.pickT rfl rfl au) rfl ?_
    refine jm ?_
    refine ju ?_
    refine ju ?_
    refine ju ?_
    refine ju ?_
    refine Ops.r (Run.pickT rfl rfl au) rfl ?_
    refine jo ?_
    refine jn ⟨(js4 (jc (by simp [*])) rfl rfl rfl), rfl⟩
   ·
    refine jm ?_
    refine jg ?_
    refine jg ?_
    refine Ops.rg rfl au (Run.indexT _ rfl rfl Tryz.underlying9 hgx) rfl ?_
    refine Ops.rg rfl au (Run.bin rfl rfl (Bin.lssN _ 32)) rfl ?_
    by_cases hs18 : x.toNat < 32
    ·
     refine Ops.r (Run.pickF rfl rfl au) rfl ?_
     refine jm ?_
     refine ju ?_
     refine ju ?_
     refine ju ?_
     refine ju ?_
     refine Ops.r (Run.pickT rfl rfl au) rfl ?_
     refine jo ?_
     refine jn ⟨(js4 (jc (by simp [*])) rfl rfl rfl), rfl⟩
    ·
     refine Ops.r (Run.pickF rfl rfl au) rfl ?_
     refine jm ?_
     refine jg ?_
     refine jg ?_
     refine Ops.rg rfl au (Run.indexT _ rfl rfl Tryz.underlying9 hgx) rfl ?_
     refine Ops.rg rfl au (Run.bin rfl rfl (Bin.geqN _ 127)) rfl ?_
     by_cases hs24 : 127 ≤ x.toNat
     ·
      refine Ops.r (Run.pickF rfl rfl au) rfl ?_
      refine jo ?_
      refine jn ⟨(js4 (jc (by simp [*])) rfl rfl rfl), rfl⟩
     ·
      refine Ops.r (Run.pickF rfl rfl au) rfl ?_
      refine jo ?_
      refine jn ⟨(js4 (jc (by simp [*])) rfl rfl rfl), rfl⟩
  ·
   intro Γ hΓ
   refine jn (VC.sub _ hΓ ?_)
   refine VC.condD rfl (fun hc2 => ?_) (fun hc2 => ?_)
   ·
    have hnp : ¬ PlainT q := fun h => by have := h.2; have := h.1 x hmem; omega
    have hdl := decL q.length
    refine js (jr (jm ?_))
    refine Ops.r (Run.lenT rfl Tryz.underlying9) rfl ?_
    refine Ops.cl (Enters.fn (evs.cons rfl evs.nil) Tryz.call29) ((rdigits_spec q.length (by omega) _)) rfl ?_
    rintro e _ ⟨rfl, rfl⟩
    refine ⟨_, rfl, ?_⟩
    refine Ops.r (Run.addT (a := [123]) rfl rfl (by simp; omega)) rfl ?_
    refine Ops.r (Run.addT (b := [125, 13, 10]) rfl rfl (by simp; omega)) rfl ?_
    refine jm ?_
    refine Ops.r (Run.addT rfl rfl (by simp; omega)) rfl ?_
    refine ja ?_
    refine jo (jn (jv1 2 ?_))
    refine jt ?_
    refine thenQ_r (blockQ_r (thenQ_r (thenQ_r (blockQ_r (thenQ_r (end1 rfl ?_))))))
    exact ⟨by unfold strQ; rw [if_neg hnp]; simp, rfl⟩
   ·
    refine jk (jn (jv3 0 3 4 ?_))
    refine js (js ?_)
    refine VC.split1 [(0, _), (3, _), (4, _)] (js3 rfl rfl rfl) 42 (.bool (decide ((x.toNat = 34) ∨ (x.toNat = 92)))) ?_ ?_
    ·
     by_cases hs0 : x.toNat = 34
     ·
      refine jr (jm ?_)
      refine jm ?_
      refine Ops.r (Run.indexT _ rfl rfl Tryz.underlying9 hgx) rfl ?_
      refine Ops.r (Run.bin rfl rfl (Bin.eqlN _ 34)) rfl ?_
      refine jm ?_
      refine ju ?_
      refine ju ?_
      refine ju ?_
      refine ju ?_
      refine Ops.r (Run.pickT rfl rfl au) rfl ?_
      refine jo ?_
      refine jn ⟨(js4 (by rw [dor1 hs0]; rfl) rfl rfl rfl), rfl⟩
     ·
      refine jr (jm ?_)
      refine jm ?_
      refine Ops.r (Run.indexT _ rfl rfl Tryz.underlying9 hgx) rfl ?_
      refine Ops.r (Run.bin rfl rfl (Bin.eqlN _ 34)) rfl ?_
      refine jm ?_
      refine jg ?_
      refine jg ?_
      refine Ops.rg rfl au (Run.indexT _ rfl rfl Tryz.underlying9 hgx) rfl ?_
      refine Ops.rg rfl au (Run.bin rfl rfl (Bin.eqlN _ 92)) rfl ?_
      refine Ops.r (Run.pickF rfl rfl au) rfl ?_
      refine jo ?_
      refine jn ⟨(js4 (by rw [dor0 hs0]; rfl) rfl rfl rfl), rfl⟩
    ·
     intro Γ hΓ
     refine jn (VC.sub _ hΓ ?_)
     refine VC.meet (σ := Unit) (fun s => [(0, encStr q), (3, encStr ((34 :: escQ (q.take k)) ++ (if x = 34 ∨ x = 92 then [92] else []))), (4, .int .i64 ((k : Nat) : Int))]) (fun s wr => w = wr) ?_ ?_
     ·
      refine VC.condD rfl (fun hc3 => ?_) (fun hc3 => ?_)
      ·
       refine jr (jm ?_)
       refine Ops.r (Run.addT (b := [92]) rfl rfl (by simp; omega)) rfl ?_
       refine ja ?_
       refine jo ?_
       refine jn ⟨(), (js3 rfl (by rw [if_pos (hc3.imp e34.1 e92.1)]; rfl) rfl), ?_⟩
       exact rfl
      ·
       refine jk ?_
       refine jn ⟨(), (js3 rfl (by rw [if_neg (fun h => hc3 (h.imp e34.2 e92.2)), List.append_nil]; rfl) rfl), ?_⟩
       exact rfl
     ·
      rintro _ _ rfl Γ hΓ
      have hsn : ((34 :: escQ (q.take k)) ++ (if x = 34 ∨ x = 92 then [92] else [])) ++ [x] = 34 :: escQ (q.take (k + 1)) := by
       rw [hts, escQ_app]
       by_cases h : x = 34 ∨ x = 92 <;> simp [escQ, h]
      have hs2 : ((34 :: escQ (q.take k)) ++ (if x = 34 ∨ x = 92 then [92] else []) : Tx).length ≤ 2 * k + 2 := by
       rw [List.length_append, List.length_cons]
       split
       ·
        simp; omega
       ·
        simp; omega
      generalize ((34 :: escQ (q.take k)) ++ (if x = 34 ∨ x = 92 then [92] else []) : Tx) = sn at *
      refine jn (VC.sub _ hΓ ?_)
      refine jr (jm ?_)
      refine jm ?_
      refine jm ?_
      refine jm ?_
      refine Ops.r (Run.bin rfl rfl (Bin.add_i64 _ 1 (by omega))) rfl ?_
      refine Ops.r (Run.sliceT k (k + 1) rfl Tryz.underlying9 (evB.some_ rfl) (evB.some_ rfl) (by omega) (by omega)) rfl ?_
      rw [slice_onE hgx]
      refine Ops.r (Run.addT rfl rfl (by simp; omega)) rfl ?_
      refine ja ?_
      refine jo ?_
      refine blockQ_n (jn ?_)
      refine jv3 0 3 4 ?_
      refine jr (jm ?_)
      refine Ops.r (Run.bin rfl rfl (Bin.add_i64 _ 1 (by omega))) rfl ?_
      refine ja ?_
      refine jo ?_
      refine jn ⟨(k + 1), (js3 rfl (by rw [← hsn]; rfl) rfl), ?_, ?_⟩
      ·
       refine ⟨rfl, hc1, fun y hy => ?_, fun _ => by omega⟩
       rw [hts] at hy
       rcases List.mem_append.1 hy with h | h
       ·
        exact hall y h
       ·
        simp only [List.mem_singleton] at h; subst h; omega
      ·
       first | omega | (dsimp only; omega)
 ·
  have hkl : k = q.length := by omega
  subst hkl
  rw [List.take_length] at hall hel ⊢
  have hpl : PlainT q := ⟨hall, by by_cases h0 : 0 < q.length; exact h200 h0; omega⟩
  refine jx ?_
  refine thenQ_x (thenQ_x (blockQ_x ?_))
  refine jn (jv1 3 ?_)
  refine js (jr (jm ?_))
  refine Ops.r (Run.addT (b := [34]) rfl rfl (by simp; omega)) rfl ?_
  refine ja ?_
  refine jo (jn (jv1 2 ?_))
  refine jt ?_
  refine end1 rfl ?_
  exact ⟨by unfold strQ; rw [if_pos hpl]; rfl, rfl⟩
set_option maxRecDepth 100000 in
theorem rnil_spec (q : Tx) (w : World) (hq : q.length ≤ 400000) : Calls Tryz.prog 64 #[encStr q] w fun e w' => e = .returned (encStr (nstrQ q)) ∧ w = w' := by
 refine VC.calls (nt := 7) (res := #[.tmp 2]) Tryz.func64 rfl Tryz.ntmps64 Tryz.results64 rfl ?_
 refine js (jr (ja ?_))
 refine jo (jn (jv1 0 ?_))
 refine js (js (jr (jm ?_)))
 refine Ops.r (Run.eqlT rfl rfl) rfl ?_
 refine jo (jn (jv2 0 4 ?_))
 refine VC.condD rfl (fun hc1 => ?_) (fun hc1 => ?_)
 ·
  refine js (jr (ja ?_))
  refine jo (jn (jv1 2 ?_))
  refine jt ?_
  refine thenQ_r (end1 rfl ?_)
  exact ⟨by unfold nstrQ; rw [if_pos hc1]; rfl, rfl⟩
 ·
  refine jk (jn (jv1 0 ?_))
  refine js (jr (jm ?_))
  refine Ops.cl (Enters.fn (evs.cons rfl evs.nil) Tryz.call11) ((rstring_spec q _ (by omega))) rfl ?_
  rintro e _ ⟨rfl, rfl⟩
  refine ⟨_, rfl, ?_⟩
  refine ja ?_
  refine jo (jn (jv1 2 ?_))
  refine jt ?_
  refine end1 rfl ?_
  exact ⟨by unfold nstrQ; rw [if_neg hc1], rfl⟩
set_option maxRecDepth 100000 in
theorem rfield_spec (q nm non : Tx) (w : World) (hq : q.length ≤ 400000) (hnl : nm.length ≤ 1000000) : Calls Tryz.prog 36 #[encStr q, encStr nm, encStr non] w fun e w' => e = .returned (encStr (fieldS q nm non)) ∧ Frm [] w w' := by
 have K := Frm.refl [] w
 have hfl := findH_len q nm
 refine VC.calls (nt := 19) (res := #[.tmp 6]) Tryz.func36 rfl Tryz.ntmps36 Tryz.results36 rfl ?_
 refine js (jr (ja ?_))
 refine jo (jn (jv3 0 1 2 ?_))
 refine js (jr (jm ?_))
 refine jm ?_
 refine Ops.cl (Enters.fn (evs.cons rfl (evs.cons rfl evs.nil)) Tryz.call62) ((rfind17_spec q nm _ (by omega) hnl)) rfl ?_
 rintro e w1 ⟨rfl, f1⟩
 refine ⟨_, rfl, ?_⟩
 have K := K.trans f1 (by simp)
 refine jm ?_
 refine Ops.r (Run.extract rfl rfl) rfl ?_
 refine Ops.r (Run.extract rfl rfl) rfl ?_
 refine ja ?_
 refine ja ?_
 refine jo (jn (jv3 2 7 8 ?_))
 refine js (js (jr (jm ?_)))
 refine jo (jn (jv3 2 7 15 ?_))
 refine VC.condB rfl (fun hc1 => ?_) (fun hc1 => ?_)
 ·
  refine js (jr (jm ?_))
  refine Ops.cl (Enters.fn (evs.cons rfl evs.nil) Tryz.call11) ((rstring_spec (findH q nm).1 _ (by omega))) rfl ?_
  rintro e _ ⟨rfl, rfl⟩
  refine ⟨_, rfl, ?_⟩
  refine ja ?_
  refine jo (jn (jv1 6 ?_))
  refine jt ?_
  refine thenQ_r (end1 rfl ?_)
  exact ⟨by unfold fieldS; rw [if_pos hc1], K⟩
 ·
  refine jk (jn (jv1 2 ?_))
  refine js (jr (jm ?_))
  refine ja ?_
  refine jo (jn (jv1 6 ?_))
  refine jt ?_
  refine end1 rfl ?_
  exact ⟨by unfold fieldS; rw [if_neg (by simp [hc1])], K⟩
set_option maxRecDepth 100000 in
set_option maxHeartbeats 1600000 in
theorem rpeople_spec (q nm non : Tx) (w : World) (hq : q.length ≤ 2000) (hnl : nm.length ≤ 1000000) : Calls Tryz.prog 35 #[encStr q, encStr nm, encStr non] w fun e w' => e = .returned (encStr (peopleS q nm non)) ∧ Frm [] w w' := by
 have K := Frm.refl [] w
 have hfl := findH_len q nm
 refine VC.calls (nt := 58) (res := #[.tmp 6]) Tryz.func35 rfl Tryz.ntmps35 Tryz.results35 rfl ?_
 refine js (jr (ja ?_))
 refine jo (jn (jv3 0 1 2 ?_))
 refine js (jr (jm ?_))
 refine jm ?_
 refine Ops.cl (Enters.fn (evs.cons rfl (evs.cons rfl evs.nil)) Tryz.call62) ((rfind17_spec q nm _ (by omega) hnl)) rfl ?_
 rintro e w1 ⟨rfl, f1⟩
 refine ⟨_, rfl, ?_⟩
 have K := K.trans f1 (by simp)
 have hpf := people_flat (t := (findH q nm).1) (by omega)
 have hcnt := listA_count (findH q nm).1
 have hmem : ∀ a ∈ listA (findH q nm).1, a.name.length ≤ 4000 ∧ a.box.length ≤ 4000 ∧ a.host.length ≤ 4000 := fun a ha => by have := listA_mem a ha; omega
 have hpS : peopleS q nm non = if listA (findH q nm).1 = [] then non else 40 :: (((listA (findH q nm).1).map adrS).flatten ++ [41]) := rfl
 have hal : ∀ a ∈ listA (findH q nm).1, (adrS a).length ≤ 12 * (findH q nm).1.length + 27 := fun a ha => adrS_len ha
 refine jm ?_
 refine Ops.r (Run.extract rfl rfl) rfl ?_
 refine Ops.r (Run.extract rfl rfl) rfl ?_
 refine ja ?_
 refine ja ?_
 refine jo (jn (jv2 2 7 ?_))
 refine js (jr (jm ?_))
 refine Ops.cl (Enters.fn (evs.cons rfl evs.nil) Tryz.call63) ((rlist_spec (findH q nm).1 _ (by omega))) rfl ?_
 rintro e w2 ⟨f2, L, lc, rfl, hL, hubL⟩
 refine ⟨_, rfl, ?_⟩
 have K := K.trans f2 (by simp)
 generalize listA (findH q nm).1 = l at *
 refine ja ?_
 refine jo (jn (jv2 2 9 ?_))
 refine js (jr (ja ?_))
 refine jo (jn (js (js (jr ?_))))
 refine Ops.r (v := .int .i64 ((0 : Nat) : Int)) (Run.asg rfl) rfl ?_
 refine jo (jn (jb ?_))
 refine VC.loop (σ := Nat) (fun s => [(2, encStr non), (9, .slice L l.length lc), (10, encStr (((l.take s).map adrS).flatten)), (11, .int .i64 ((s : Nat) : Int))]) (fun s wr => s ≤ l.length ∧ Drawn w2 wr) (fun s => l.length - s) 0 (js4 rfl rfl rfl rfl) ⟨Nat.zero_le _, Drawn.refl _⟩ ?_
 rintro k wr ⟨hk, hd⟩
 have hpre : (((l.take k).map adrS).flatten).length ≤ ((l.map adrS).flatten).length := by
  conv => rhs; rw [← List.take_append_drop k l, List.map_append, List.flatten_append, List.length_append]
  omega
 refine js (js (jr (jm ?_)))
 refine jm ?_
 refine Ops.r (Run.lenS rfl Tryz.underlying88) rfl ?_
 refine Ops.r (Run.bin rfl rfl (Bin.lssN _ _)) rfl ?_
 refine jo (jn (jv5 2 9 10 11 23 ?_))
 refine VC.condD rfl (fun hc1 => ?_) (fun hc1 => ?_)
 ·
  obtain ⟨adL, hLe, hcell⟩ := AC_at (hL.rd.drawn hd) hc1
  have hcw : ∀ W, Drawn wr W → ∀ j v, (AC1 l[k])[j]? = some v → W.cell? ((adL.add (k * 3)).add j) = some v := fun W hW => by
   obtain ⟨ad2, h2, hc2_⟩ := AC_at (hL.rd.drawn (hd.trans hW)) hc1
   cases hLe.symm.trans h2
   exact hc2_
  have hts := take_snoc hc1
  have hm := hmem _ (List.getElem_mem hc1)
  have hal1 := hal _ (List.getElem_mem hc1)
  have hsn : ((l.take (k + 1)).map adrS).flatten = ((l.take k).map adrS).flatten ++ adrS l[k] := by rw [hts, List.map_append, List.flatten_append]; simp
  have hpre2 : (((l.take (k + 1)).map adrS).flatten).length ≤ ((l.map adrS).flatten).length := by
   conv => rhs; rw [← List.take_append_drop (k + 1) l, List.map_append, List.flatten_append, List.length_append]
   omega
  rw [hsn, List.length_append] at hpre2
  generalize l[k] = a at *
  have g1 := nstrQ_len a.name
  have g2 := nstrQ_len a.box
  have g3 := nstrQ_len a.host
  have had : adrS a = ((((([40] ++ nstrQ a.name) ++ [32, 78, 73, 76, 32]) ++ nstrQ a.box) ++ [32]) ++ nstrQ a.host) ++ [41] := by simp [adrS, listQ, jnQ, nilT]
  refine jk (jn (jv4 2 9 10 11 ?_))
  refine js (jb ?_)
  refine VC.held (fun W => Drawn wr W) jK ?_
  have hS : Drawn wr wr.drew := Drawn.drew _
  refine jh 0 rfl hS (fun w0 hw0 => Run.mv rfl) ?_
  refine jh 1 rfl hS (fun w0 hw0 => Run.mv rfl) ?_
  refine jh 2 rfl hS (fun w0 hw0 => Run.mv rfl) ?_
  refine jh 3 rfl hS (fun w0 hw0 => Run.indexS k (by rw [← hLe]; rfl) rfl Tryz.underlying88 Tryz.sizeOf91 hc1) ?_
  refine jh 4 rfl hS (fun w0 hw0 => Run.fieldAddr rfl Tryz.underlying91 rfl Tryz.sizeOf9 (by decide)) ?_
  refine jh 5 rfl hS (fun w0 hw0 => Run.load rfl Tryz.isAgg9 (hcw _ hw0 0 _ rfl)) ?_
  refine jh 9 rfl hS (fun w0 hw0 => Run.mv rfl) ?_
  refine jh 10 rfl hS (fun w0 hw0 => Run.mv rfl) ?_
  refine jh 11 rfl hS (fun w0 hw0 => Run.indexS k (by rw [← hLe]; rfl) rfl Tryz.underlying88 Tryz.sizeOf91 hc1) ?_
  refine jh 12 rfl hS (fun w0 hw0 => Run.fieldAddr rfl Tryz.underlying91 rfl Tryz.sizeOf9 (by decide)) ?_
  refine jh 13 rfl hS (fun w0 hw0 => Run.load rfl Tryz.isAgg9 (hcw _ hw0 1 _ rfl)) ?_
  refine jh 17 rfl hS (fun w0 hw0 => Run.mv rfl) ?_
  refine jh 18 rfl hS (fun w0 hw0 => Run.mv rfl) ?_
  refine jh 19 rfl hS (fun w0 hw0 => Run.indexS k (by rw [← hLe]; rfl) rfl Tryz.underlying88 Tryz.sizeOf91 hc1) ?_
  refine jh 20 rfl hS (fun w0 hw0 => Run.fieldAddr rfl Tryz.underlying91 rfl Tryz.sizeOf9 (by decide)) ?_
  refine jh 21 rfl hS (fun w0 hw0 => Run.load rfl Tryz.isAgg9 (hcw _ hw0 2 _ rfl)) ?_
  refine HOps.cl 6 rfl jK (Enters.fn (evs.cons rfl evs.nil) Tryz.call64) ((rnil_spec a.name _ (by omega))) trivial rfl rfl ?_
  rintro e _ ⟨rfl, rfl⟩
  refine ⟨_, rfl, hS, ?_⟩
  refine jh 7 rfl hS (fun w0 hw0 => Run.addT (a := [40]) rfl rfl (by simp only [List.length_cons, List.length_append, List.length_nil]; omega)) ?_
  refine jh 8 rfl hS (fun w0 hw0 => Run.addT (b := [32, 78, 73, 76, 32]) rfl rfl (by simp only [List.length_cons, List.length_append, List.length_nil]; omega)) ?_
  refine HOps.cl 14 rfl jK (Enters.fn (evs.cons rfl evs.nil) Tryz.call64) ((rnil_spec a.box _ (by omega))) trivial rfl rfl ?_
  rintro e _ ⟨rfl, rfl⟩
  refine ⟨_, rfl, hS, ?_⟩
  refine jh 15 rfl hS (fun w0 hw0 => Run.addT rfl rfl (by simp only [List.length_cons, List.length_append, List.length_nil]; omega)) ?_
  refine jh 16 rfl hS (fun w0 hw0 => Run.addT (b := [32]) rfl rfl (by simp only [List.length_cons, List.length_append, List.length_nil]; omega)) ?_
  refine HOps.cl 22 rfl jK (Enters.fn (evs.cons rfl evs.nil) Tryz.call64) ((rnil_spec a.host _ (by omega))) trivial rfl rfl ?_
  rintro e _ ⟨rfl, rfl⟩
  refine ⟨_, rfl, hS, ?_⟩
  refine jh 23 rfl hS (fun w0 hw0 => Run.addT rfl rfl (by simp only [List.length_cons, List.length_append, List.length_nil]; omega)) ?_
  refine jh 24 rfl hS (fun w0 hw0 => Run.addT (b := [41]) rfl rfl (by simp only [List.length_cons, List.length_append, List.length_nil]; omega)) ?_
  refine jh 25 rfl hS (fun w0 hw0 => Run.addT rfl rfl (by simp only [List.length_cons, List.length_append, List.length_nil]; omega)) ?_
  refine jh 26 rfl hS (fun w0 hw0 => Run.asg rfl) ?_
  refine HOps.done jK ?_
  refine blockQ_n (jn ?_)
  refine jv4 2 9 10 11 ?_
  refine jr (jm ?_)
  refine Ops.r (Run.bin rfl rfl (Bin.add_i64 _ 1 (by omega))) rfl ?_
  refine ja ?_
  refine jo ?_
  refine jn ⟨(k + 1), (js4 rfl rfl (by rw [hsn, had]; rfl) rfl), ?_, ?_⟩
  ·
   exact ⟨hc1, hd.trans hS⟩
  ·
   first | omega | (dsimp only; omega)
 ·
  have hkl : k = l.length := by omega
  subst hkl
  rw [List.take_length]
  refine jx ?_
  refine thenQ_x (thenQ_x (blockQ_x ?_))
  refine jn (jv2 2 10 ?_)
  refine js (js (jr (jm ?_)))
  refine Ops.r (Run.eqlT rfl rfl) rfl ?_
  refine jo (jn (jv3 2 10 53 ?_))
  refine VC.condD rfl (fun hc2 => ?_) (fun hc2 => ?_)
  ·
   have hl0 : l = [] := by
    cases l with
    | nil => rfl
    | cons a r =>
     exfalso
     have h := congrArg List.length hc2
     simp [adrS, listQ] at h
   refine js (jr (jm ?_))
   refine ja ?_
   refine jo (jn (jv1 6 ?_))
   refine jt ?_
   refine thenQ_r (end1 rfl ?_)
   exact ⟨by rw [hpS, if_pos hl0], K.drawn hd⟩
  ·
   have hl0 : l ≠ [] := fun h => hc2 (by rw [h]; rfl)
   refine jk (jn (jv1 10 ?_))
   refine js (jr (jm ?_))
   refine Ops.r (Run.addT (a := [40]) rfl rfl (by simp only [List.length_cons, List.length_append, List.length_nil]; omega)) rfl ?_
   refine Ops.r (Run.addT (b := [41]) rfl rfl (by simp only [List.length_cons, List.length_append, List.length_nil]; omega)) rfl ?_
   refine ja ?_
   refine jo (jn (jv1 6 ?_))
   refine jt ?_
   refine end1 rfl ?_
   exact ⟨by rw [hpS, if_neg hl0]; simp, K.drawn hd⟩
set_option maxRecDepth 100000 in
set_option maxHeartbeats 1600000 in
theorem renv_spec (q : Tx) (w : World) (hq : q.length ≤ 2000) : Calls Tryz.prog 13 #[encStr q] w fun e w' => e = .returned (encStr (envS q)) ∧ Frm [] w w' := by
 have K := Frm.refl [] w
 have hn3 : nilT.length = 3 := rfl
 have hf := fun n => fieldS_len q n nilT 4006 (by omega) (by omega)
 have hp := fun n => peopleS_len (q := q) (name := n) (non := nilT) hq (by omega)
 have hp2 := fun n => peopleS_len (q := q) (name := n) (non := peopleS q fromT nilT) hq (hp fromT)
 have l1 := hf datT
 have l2 := hf subjT
 have l3 := hf inrT
 have l4 := hf midT
 have p1 := hp fromT
 have p2 := hp toT
 have p3 := hp ccT
 have p4 := hp bccT
 have p5 := hp2 sendT
 have p6 := hp2 replT
 refine VC.calls (nt := 50) (res := #[.tmp 2]) Tryz.func13 rfl Tryz.ntmps13 Tryz.results13 rfl ?_
 refine js (jr (ja ?_))
 refine jo (jn (jv1 0 ?_))
 refine js (jr (jm ?_))
 refine Ops.cl (Enters.fn (evs.cons rfl (evs.cons rfl (evs.cons rfl evs.nil))) Tryz.call35) ((rpeople_spec q fromT nilT _ (by omega) (by decide))) rfl ?_
 rintro e w1 ⟨rfl, fw1⟩
 refine ⟨_, rfl, ?_⟩
 have K := K.trans fw1 (by simp)
 refine ja ?_
 refine jo (jn (jv2 0 3 ?_))
 refine js (jr (jm ?_))
 refine Ops.cl (Enters.fn (evs.cons rfl (evs.cons rfl (evs.cons rfl evs.nil))) Tryz.call36) ((rfield_spec q datT nilT _ (by omega) (by decide))) rfl ?_
 rintro e w2 ⟨rfl, fw2⟩
 refine ⟨_, rfl, ?_⟩
 have K := K.trans fw2 (by simp)
 refine Ops.r (Run.addT (a := [40]) rfl rfl (by simp only [List.length_cons, List.length_append, List.length_nil]; omega)) rfl ?_
 refine Ops.r (Run.addT (b := [32]) rfl rfl (by simp only [List.length_cons, List.length_append, List.length_nil]; omega)) rfl ?_
 refine jm ?_
 refine Ops.cl (Enters.fn (evs.cons rfl (evs.cons rfl (evs.cons rfl evs.nil))) Tryz.call36) ((rfield_spec q subjT nilT _ (by omega) (by decide))) rfl ?_
 rintro e w3 ⟨rfl, fw3⟩
 refine ⟨_, rfl, ?_⟩
 have K := K.trans fw3 (by simp)
 refine Ops.r (Run.addT rfl rfl (by simp only [List.length_cons, List.length_append, List.length_nil]; omega)) rfl ?_
 refine Ops.r (Run.addT (b := [32]) rfl rfl (by simp only [List.length_cons, List.length_append, List.length_nil]; omega)) rfl ?_
 refine jm ?_
 refine Ops.r (Run.addT rfl rfl (by simp only [List.length_cons, List.length_append, List.length_nil]; omega)) rfl ?_
 refine Ops.r (Run.addT (b := [32]) rfl rfl (by simp only [List.length_cons, List.length_append, List.length_nil]; omega)) rfl ?_
 refine jm ?_
 refine jm ?_
 refine Ops.cl (Enters.fn (evs.cons rfl (evs.cons rfl (evs.cons rfl evs.nil))) Tryz.call35) ((rpeople_spec q sendT (peopleS q fromT nilT) _ (by omega) (by decide))) rfl ?_
 rintro e w4 ⟨rfl, fw4⟩
 refine ⟨_, rfl, ?_⟩
 have K := K.trans fw4 (by simp)
 refine Ops.r (Run.addT rfl rfl (by simp only [List.length_cons, List.length_append, List.length_nil]; omega)) rfl ?_
 refine Ops.r (Run.addT (b := [32]) rfl rfl (by simp only [List.length_cons, List.length_append, List.length_nil]; omega)) rfl ?_
 refine jm ?_
 refine jm ?_
 refine Ops.cl (Enters.fn (evs.cons rfl (evs.cons rfl (evs.cons rfl evs.nil))) Tryz.call35) ((rpeople_spec q replT (peopleS q fromT nilT) _ (by omega) (by decide))) rfl ?_
 rintro e w5 ⟨rfl, fw5⟩
 refine ⟨_, rfl, ?_⟩
 have K := K.trans fw5 (by simp)
 refine Ops.r (Run.addT rfl rfl (by simp only [List.length_cons, List.length_append, List.length_nil]; omega)) rfl ?_
 refine ja ?_
 refine jo (jn (jv2 0 4 ?_))
 refine js (jr (jm ?_))
 refine jm ?_
 refine Ops.cl (Enters.fn (evs.cons rfl (evs.cons rfl (evs.cons rfl evs.nil))) Tryz.call35) ((rpeople_spec q toT nilT _ (by omega) (by decide))) rfl ?_
 rintro e w6 ⟨rfl, fw6⟩
 refine ⟨_, rfl, ?_⟩
 have K := K.trans fw6 (by simp)
 refine Ops.r (Run.addT (a := [32]) rfl rfl (by simp only [List.length_cons, List.length_append, List.length_nil]; omega)) rfl ?_
 refine Ops.r (Run.addT (b := [32]) rfl rfl (by simp only [List.length_cons, List.length_append, List.length_nil]; omega)) rfl ?_
 refine jm ?_
 refine Ops.cl (Enters.fn (evs.cons rfl (evs.cons rfl (evs.cons rfl evs.nil))) Tryz.call35) ((rpeople_spec q ccT nilT _ (by omega) (by decide))) rfl ?_
 rintro e w7 ⟨rfl, fw7⟩
 refine ⟨_, rfl, ?_⟩
 have K := K.trans fw7 (by simp)
 refine Ops.r (Run.addT rfl rfl (by simp only [List.length_cons, List.length_append, List.length_nil]; omega)) rfl ?_
 refine Ops.r (Run.addT (b := [32]) rfl rfl (by simp only [List.length_cons, List.length_append, List.length_nil]; omega)) rfl ?_
 refine jm ?_
 refine Ops.cl (Enters.fn (evs.cons rfl (evs.cons rfl (evs.cons rfl evs.nil))) Tryz.call35) ((rpeople_spec q bccT nilT _ (by omega) (by decide))) rfl ?_
 rintro e w8 ⟨rfl, fw8⟩
 refine ⟨_, rfl, ?_⟩
 have K := K.trans fw8 (by simp)
 refine Ops.r (Run.addT rfl rfl (by simp only [List.length_cons, List.length_append, List.length_nil]; omega)) rfl ?_
 refine Ops.r (Run.addT rfl rfl (by simp only [List.length_cons, List.length_append, List.length_nil]; omega)) rfl ?_
 refine ja ?_
 refine jo (jn (jv2 0 4 ?_))
 refine js (jr (jm ?_))
 refine Ops.r (Run.addT (b := [32]) rfl rfl (by simp only [List.length_cons, List.length_append, List.length_nil]; omega)) rfl ?_
 refine jm ?_
 refine Ops.cl (Enters.fn (evs.cons rfl (evs.cons rfl (evs.cons rfl evs.nil))) Tryz.call36) ((rfield_spec q inrT nilT _ (by omega) (by decide))) rfl ?_
 rintro e w9 ⟨rfl, fw9⟩
 refine ⟨_, rfl, ?_⟩
 have K := K.trans fw9 (by simp)
 refine Ops.r (Run.addT rfl rfl (by simp only [List.length_cons, List.length_append, List.length_nil]; omega)) rfl ?_
 refine Ops.r (Run.addT (b := [32]) rfl rfl (by simp only [List.length_cons, List.length_append, List.length_nil]; omega)) rfl ?_
 refine jm ?_
 refine Ops.cl (Enters.fn (evs.cons rfl (evs.cons rfl (evs.cons rfl evs.nil))) Tryz.call36) ((rfield_spec q midT nilT _ (by omega) (by decide))) rfl ?_
 rintro e w10 ⟨rfl, fw10⟩
 refine ⟨_, rfl, ?_⟩
 have K := K.trans fw10 (by simp)
 refine Ops.r (Run.addT rfl rfl (by simp only [List.length_cons, List.length_append, List.length_nil]; omega)) rfl ?_
 refine Ops.r (Run.addT (b := [41]) rfl rfl (by simp only [List.length_cons, List.length_append, List.length_nil]; omega)) rfl ?_
 refine ja ?_
 refine jo (jn (jv1 2 ?_))
 refine jt ?_
 refine end1 rfl ?_
 exact ⟨by simp [envS, listQ, jnQ], K⟩
end Go.Proofs.YtenbjndldenkfaaGreatDoor
namespace Go.Proofs.YtenbjndldenkfaaGreatDoor
open Go.RowKit Go.Sort
set_option maxRecDepth 100000 in
theorem rsplit_spec (q : Tx) (w : World) (hq : q.length ≤ 500000) : Calls Tryz.prog 107 #[encStr q] w fun e w' => e = .returned (.int .i64 (((splitQ q) : Nat) : Int)) ∧ Frm [] w w' := by
 have K := Frm.refl [] w
 have hlc := linesF_count q
 have hlf := linesF_flat q
 have hsq : splitQ q = splitL (linesF q) := rfl
 refine VC.calls (nt := 28) (res := #[.tmp 2]) Tryz.func107 rfl Tryz.ntmps107 Tryz.results107 rfl ?_
 refine js (jr ?_)
 refine Ops.r (v := .int .i64 ((0 : Nat) : Int)) (Run.asg rfl) rfl ?_
 refine jo (jn (jv1 0 ?_))
 refine js (jr ?_)
 refine Ops.r (v := .int .i64 ((0 : Nat) : Int)) (Run.asg rfl) rfl ?_
 refine jo (jn (js (jr (jm ?_))))
 refine Ops.cl (Enters.fn (evs.cons rfl evs.nil) Tryz.call132) ((rcut_spec q _ (by omega))) rfl ?_
 rintro e w1 ⟨f1, B, bc, rfl, hL, hubL⟩
 refine ⟨_, rfl, ?_⟩
 have K := K.trans f1 (by simp)
 rw [hsq]
 generalize linesF q = L at *
 refine ja ?_
 refine jo (jn (jv2 3 4 ?_))
 refine js (js (jr ?_))
 refine Ops.r (v := .int .i64 ((0 : Nat) : Int)) (Run.asg rfl) rfl ?_
 refine jo (jn (jb ?_))
 refine VC.loop (σ := Nat) (fun s => [(3, .int .i64 (((L.take s).flatten.length : Nat) : Int)), (4, .slice B L.length bc), (5, .int .i64 ((s : Nat) : Int))]) (fun s wr => s ≤ L.length ∧ (∀ x ∈ L.take s, ¬ EmptyL x) ∧ w1 = wr) (fun s => L.length - s) 0 (js3 rfl rfl rfl) ⟨Nat.zero_le _, by simp, rfl⟩ ?_
 rintro i _ ⟨hi, hno, rfl⟩
 refine js (js (jr (jm ?_)))
 refine jm ?_
 refine Ops.r (Run.lenS rfl Tryz.underlying36) rfl ?_
 refine Ops.r (Run.bin rfl rfl (Bin.lssN _ _)) rfl ?_
 refine jo (jn (jv4 3 4 5 11 ?_))
 refine VC.condD rfl (fun hc1 => ?_) (fun hc1 => ?_)
 ·
  obtain ⟨adL, hLe, hcell⟩ := SB_at1 hL.rd hc1
  have hts : (L.take (i + 1)).flatten.length = (L.take i).flatten.length + L[i].length := by rw [take_snoc hc1, List.flatten_append, List.length_append]; simp
  have hts2 := take_snoc hc1
  have hsp : EmptyL L[i] → splitL L = (L.take i).flatten.length + L[i].length := fun he => by
   have h := splitL_at (b := L.drop (i + 1)) hno he
   rwa [← List.drop_eq_getElem_cons hc1, List.take_append_drop] at h
  have htot : (L.take (i + 1)).flatten.length ≤ q.length := by
   rw [← hlf]
   conv => rhs; rw [← List.take_append_drop (i + 1) L, List.flatten_append, List.length_append]
   omega
  generalize L[i] = l at *
  refine jk (jn (jv3 3 4 5 ?_))
  refine js (jb (js (jr (jm ?_))))
  refine jm ?_
  refine jm ?_
  refine Ops.r (Run.indexS i (by rw [← hLe]; rfl) rfl Tryz.underlying36 Tryz.sizeOf9 hc1) rfl ?_
  refine Ops.r (Run.load rfl Tryz.isAgg9 hcell) rfl ?_
  refine Ops.r (Run.lenT rfl Tryz.underlying9) rfl ?_
  refine Ops.r (Run.bin rfl rfl (Bin.add_i64 (L.take i).flatten.length l.length (by omega))) rfl ?_
  rw [← hts]
  refine ja ?_
  refine jo (jn (jv3 3 4 5 ?_))
  refine js (jr (jm ?_))
  refine jm ?_
  refine Ops.r (Run.indexS i (by rw [← hLe]; rfl) rfl Tryz.underlying36 Tryz.sizeOf9 hc1) rfl ?_
  refine Ops.r (Run.load rfl Tryz.isAgg9 hcell) rfl ?_
  refine Ops.cl (Enters.fn (evs.cons rfl evs.nil) Tryz.call133) ((rempty_spec l _)) rfl ?_
  rintro e _ ⟨rfl, rfl⟩
  refine ⟨_, rfl, ?_⟩
  refine jo (jn (jv4 3 4 5 25 ?_))
  refine VC.condB rfl (fun hc2 => ?_) (fun hc2 => ?_)
  ·
   have he := hsp (of_decide_eq_true hc2)
   refine js (jr (jm ?_))
   refine ja ?_
   refine jo (jn (jv1 2 ?_))
   refine jt ?_
   refine blockQ_r (thenQ_r (thenQ_r (blockQ_r (thenQ_r (end1 rfl ?_)))))
   exact ⟨by rw [he, hts], K⟩
  ·
   have he := of_decide_eq_false hc2
   refine jk ?_
   refine blockQ_n (jn ?_)
   refine jv3 3 4 5 ?_
   refine jr (jm ?_)
   refine Ops.r (Run.bin rfl rfl (Bin.add_i64 _ 1 (by omega))) rfl ?_
   refine ja ?_
   refine jo ?_
   refine jn ⟨(i + 1), (js3 rfl rfl rfl), ?_, ?_⟩
   ·
    refine ⟨hc1, fun y hy => ?_, rfl⟩
    rw [hts2] at hy
    rcases List.mem_append.1 hy with h | h
    ·
     exact hno y h
    ·
     simp only [List.mem_singleton] at h; subst h; exact he
   ·
    first | omega | (dsimp only; omega)
 ·
  have hil : i = L.length := by omega
  subst hil
  rw [List.take_length] at hno ⊢
  have hsp := splitL_none hno
  refine jx ?_
  refine thenQ_x (thenQ_x (blockQ_x ?_))
  refine jn (jv1 3 ?_)
  refine js (jr (jm ?_))
  refine ja ?_
  refine jo (jn (jv1 2 ?_))
  refine jt ?_
  refine end1 rfl ?_
  exact ⟨by rw [hsp], K⟩
theorem bareL_pre (q : Tx) : bareL q = q.take (bareL q).length := by
 have h : ∃ k, bareL q = q.take k := by
  unfold bareL
  split
  ·
   split
   ·
    exact ⟨q.length - 1 - 1, by rw [List.dropLast_eq_take, List.dropLast_eq_take, List.take_take, List.length_take]; congr 1; omega⟩
   ·
    exact ⟨q.length - 1, List.dropLast_eq_take⟩
  ·
   exact ⟨q.length, by simp⟩
 obtain ⟨k, hk⟩ := h
 conv => rhs; rw [hk, List.length_take]
 rw [hk]
 rcases Nat.le_total k q.length with h | h
 ·
  rw [Nat.min_eq_left h]
 ·
  rw [Nat.min_eq_right h, List.take_length, List.take_of_length_le h]
set_option maxRecDepth 100000 in
theorem rbare_spec (q : Tx) (w : World) (hq : q.length ≤ 1000000) : Calls Tryz.prog 151 #[encStr q] w fun e w' => e = .returned (encStr (bareL q)) ∧ w = w' := by
 have hbl := bareL_le q
 have hpre := bareL_pre q
 refine VC.calls (nt := 31) (res := #[.tmp 2]) Tryz.func151 rfl Tryz.ntmps151 Tryz.results151 rfl ?_
 refine js (jr (ja ?_))
 refine jo (jn (jv1 0 ?_))
 refine js (jr (jm ?_))
 refine Ops.r (Run.lenT rfl Tryz.underlying9) rfl ?_
 refine ja ?_
 refine jo (jn (jv2 0 3 ?_))
 refine js (js ?_)
 refine VC.split1 [(0, _), (3, _)] (js2 rfl rfl) 14 (.bool (decide ((0 < q.length) ∧ ((hdA q (q.length - 1)).toNat = 10)))) ?_ ?_
 ·
  by_cases hs0 : 0 < q.length
  ·
   refine jr (jm ?_)
   refine Ops.r (Run.bin rfl rfl (Bin.gtrN _ 0)) rfl ?_
   refine jm ?_
   refine jg ?_
   refine jg ?_
   refine Ops.rg rfl au (Run.bin rfl rfl (Bin.sub_i64 _ 1 (by omega) (by omega))) rfl ?_
   refine Ops.rg rfl au (Run.indexT _ rfl rfl Tryz.underlying9 (hdA_at (show q.length - 1 < q.length by omega))) rfl ?_
   refine Ops.rg rfl au (Run.bin rfl rfl (Bin.eqlN _ 10)) rfl ?_
   refine Ops.r (Run.pickT rfl rfl au) rfl ?_
   refine jo ?_
   refine jn ⟨(js3 (by rw [dand1 hs0]; rfl) rfl rfl), rfl⟩
  ·
   refine jr (jm ?_)
   refine Ops.r (Run.bin rfl rfl (Bin.gtrN _ 0)) rfl ?_
   refine jm ?_
   refine ju ?_
   refine ju ?_
   refine ju ?_
   refine ju ?_
   refine ju ?_
   refine Ops.r (Run.pickF rfl rfl au) rfl ?_
   refine jo ?_
   refine jn ⟨(js3 (by rw [dand0 hs0]; rfl) rfl rfl), rfl⟩
 ·
  intro Γ hΓ
  refine jn (VC.sub _ hΓ ?_)
  refine VC.meet (σ := Unit) (fun s => [(0, encStr q), (3, .int .i64 (((bareL q).length : Nat) : Int))]) (fun s wr => w = wr) ?_ ?_
  ·
   refine VC.condD rfl (fun hc1 => ?_) (fun hc1 => ?_)
   ·
    obtain ⟨h0, h10⟩ := hc1
    obtain ⟨t, x, hqx, hlast, htt⟩ := last_at h0
    have hx : x = 10 := by
     have h := hdA_at (show q.length - 1 < q.length by omega)
     rw [hlast] at h
     rw [Option.some.inj h]
     exact (u8n (x := 10) rfl).1 h10
    subst hx
    have hbe := bareL_nl t
    rw [← hqx] at hbe
    have hql : q.length = t.length + 1 := by rw [hqx]; simp
    refine js (jr (jm ?_))
    refine Ops.r (Run.bin rfl rfl (Bin.sub_i64 _ 1 (by omega) (by omega))) rfl ?_
    refine ja ?_
    refine jo (jn (jv2 0 3 ?_))
    refine js ?_
    refine VC.split1 [(0, _), (3, _)] (js2 rfl rfl) 25 (.bool (decide ((0 < q.length - 1) ∧ ((hdA q (q.length - 1 - 1)).toNat = 13)))) ?_ ?_
    ·
     by_cases hs0 : 0 < q.length - 1
     ·
      refine jr (jm ?_)
      refine Ops.r (Run.bin rfl rfl (Bin.gtrN _ 0)) rfl ?_
      refine jm ?_
      refine jg ?_
      refine jg ?_
      refine Ops.rg rfl au (Run.bin rfl rfl (Bin.sub_i64 _ 1 (by omega) (by omega))) rfl ?_
      refine Ops.rg rfl au (Run.indexT _ rfl rfl Tryz.underlying9 (hdA_at (show q.length - 1 - 1 < q.length by omega))) rfl ?_
      refine Ops.rg rfl au (Run.bin rfl rfl (Bin.eqlN _ 13)) rfl ?_
      refine Ops.r (Run.pickT rfl rfl au) rfl ?_
      refine jo ?_
      refine jn ⟨(js3 (by rw [dand1 hs0]; rfl) rfl rfl), rfl⟩
     ·
      refine jr (jm ?_)
      refine Ops.r (Run.bin rfl rfl (Bin.gtrN _ 0)) rfl ?_
      refine jm ?_
      refine ju ?_
      refine ju ?_
      refine ju ?_
      refine ju ?_
      refine ju ?_
      refine Ops.r (Run.pickF rfl rfl au) rfl ?_
      refine jo ?_
      refine jn ⟨(js3 (by rw [dand0 hs0]; rfl) rfl rfl), rfl⟩
    ·
     intro Γ hΓ
     refine jn (VC.sub _ hΓ ?_)
     refine VC.condD rfl (fun hc2 => ?_) (fun hc2 => ?_)
     ·
      obtain ⟨h1l, h13⟩ := hc2
      have hg13 : t.getLast? = some 13 := by
       have h := hdA_at (show q.length - 1 - 1 < q.length by omega)
       rw [List.getLast?_eq_getElem?, htt, List.getElem?_take_of_lt (by simp; omega)]
       rw [show (q.take (q.length - 1)).length - 1 = q.length - 1 - 1 by simp, h, (u8n (x := 13) rfl).1 h13]
      rw [if_pos hg13] at hbe
      have hle : (bareL q).length = q.length - 1 - 1 := by rw [hbe, List.length_dropLast]; omega
      refine jr (jm ?_)
      refine Ops.r (Run.bin rfl rfl (Bin.sub_i64 _ 1 (by omega) (by omega))) rfl ?_
      refine ja ?_
      refine jo ?_
      refine jn ⟨(), (js2 rfl (by rw [hle]; rfl)), ?_⟩
      exact rfl
     ·
      have hg13 : ¬ t.getLast? = some 13 := fun hg => by
       rw [List.getLast?_eq_getElem?] at hg
       have h1 := (List.getElem?_eq_some_iff.1 hg).1
       refine hc2 ⟨by omega, ?_⟩
       have h := hdA_at (show q.length - 1 - 1 < q.length by omega)
       have h2 : q[t.length - 1]? = some 13 := by rw [hqx, List.getElem?_append_left h1, hg]
       rw [show q.length - 1 - 1 = t.length - 1 by omega] at h ⊢
       rw [h2] at h
       rw [← Option.some.inj h]
       rfl
      rw [if_neg hg13] at hbe
      have hle : (bareL q).length = q.length - 1 := by rw [hbe]; omega
      refine jk ?_
      refine jn ⟨(), (js2 rfl (by rw [hle]; rfl)), ?_⟩
      exact rfl
   ·
    have hbe : bareL q = q := by
     unfold bareL
     rw [if_neg (fun hg => by
      rw [List.getLast?_eq_getElem?] at hg
      have h1 := (List.getElem?_eq_some_iff.1 hg).1
      refine hc1 ⟨by omega, ?_⟩
      rw [hdA_at h1] at hg
      rw [Option.some.inj hg]
      rfl)]
    refine jk ?_
    refine jn ⟨(), (js2 rfl (by rw [hbe]; rfl)), ?_⟩
    exact rfl
  ·
   rintro _ _ rfl Γ hΓ
   refine jn (VC.sub _ hΓ ?_)
   refine js (jr (jm ?_))
   refine jm ?_
   refine Ops.r (Run.sliceT 0 (bareL q).length rfl Tryz.underlying9 evB.none_ (evB.some_ rfl) (by omega) (by omega)) rfl ?_
   rw [show (q.drop 0).take ((bareL q).length - 0) = bareL q by rw [List.drop_zero, Nat.sub_zero]; exact hpre.symm]
   refine ja ?_
   refine jo (jn (jv1 2 ?_))
   refine jt ?_
   refine end1 rfl ?_
   exact ⟨rfl, rfl⟩
theorem leftB_nil : ∀ {s : Tx}, leftB s = [] ↔ ∀ c ∈ s, Bl c
 | [] => by simp [leftB]
 | x :: r => by
  by_cases h : Bl x
  ·
   rw [leftB_on h, leftB_nil (s := r)]
   refine ⟨fun g c hc => ?_, fun g c hc => g c (by simp [hc])⟩
   rcases List.mem_cons.1 hc with rfl | hc
   ·
    exact h
   ·
    exact g c hc
  ·
   rw [leftB_off h]
   exact ⟨fun g => (by cases g), fun g => absurd (g x (by simp)) h⟩
theorem trim_nil {s : Tx} : trimQ s = [] ↔ ∀ c ∈ s, Bl c := by
 unfold trimQ
 rw [← trim_comm]
 constructor
 ·
  intro h
  have h2 : leftB s = [] := by
   apply Classical.byContradiction
   intro hn
   cases hl : leftB s with
   | nil => exact hn hl
   | cons x r =>
    rw [hl] at h
    have hx : ¬ Bl x := by
     intro hb
     have h3 : leftB (leftB s) = leftB s := by
      have key : ∀ t : Tx, leftB (leftB t) = leftB t := by
       intro t
       induction t with
       | nil => rfl
       | cons y u ihu =>
        by_cases hy : Bl y
        ·
         rw [leftB_on hy, ihu]
        ·
         rw [leftB_off hy, leftB_off hy]
      exact key s
     rw [hl, leftB_on hb] at h3
     have := congrArg List.length h3
     have := leftB_le r
     simp at *
     omega
    rw [rightB_cons] at h
    by_cases hr : rightB r = []
    ·
     rw [if_pos hr, if_neg hx] at h
     cases h
    ·
     rw [if_neg hr] at h
     cases h
  exact leftB_nil.1 h2
 ·
  intro h
  rw [leftB_nil.2 h]
  rfl
def partN (bd l : Tx) : Nat := if (partsL bd l).1 = false then 0 else if (partsL bd l).2 = true then 2 else 1
theorem pre_iff {p s : Tx} : p.isPrefixOf s = true ↔ p.length ≤ s.length ∧ s.take p.length = p := by
 rw [List.isPrefixOf_iff_prefix]
 constructor
 ·
  rintro ⟨t, rfl⟩
  exact ⟨by simp, by simp⟩
 ·
  rintro ⟨h1, h2⟩
  exact ⟨s.drop p.length, by conv => rhs; rw [← List.take_append_drop p.length s, h2]⟩
theorem partN_no {bd l : Tx} (h : ¬ ((dash2 ++ bd).length ≤ (bareL l).length ∧ (bareL l).take (dash2 ++ bd).length = dash2 ++ bd)) : partN bd l = 0 := by
 unfold partN partsL cutPre
 rw [if_neg (fun hh => h (pre_iff.1 hh))]
 rfl
theorem partN_yes {bd l s : Tx} (h : (dash2 ++ bd).length ≤ (bareL l).length ∧ (bareL l).take (dash2 ++ bd).length = dash2 ++ bd) (hs : (bareL l).drop (dash2 ++ bd).length = s) :
  partN bd l = if 2 ≤ s.length ∧ s.take 2 = [45, 45] then (if ∀ c ∈ s.drop 2, Bl c then 2 else 0) else (if ∀ c ∈ s, Bl c then 1 else 0) := by
 have e1 : cutPre (dash2 ++ bd) (bareL l) = some s := by unfold cutPre; rw [if_pos (pre_iff.2 h), hs]
 by_cases h2 : 2 ≤ s.length ∧ s.take 2 = [45, 45]
 ·
  have e2 : cutPre dash2 s = some (s.drop 2) := by unfold cutPre; rw [if_pos (pre_iff.2 (show dash2.length ≤ s.length ∧ s.take dash2.length = dash2 from h2))]; rfl
  have e3 : partsL bd l = (decide (trimQ (s.drop 2) = []), true) := by unfold partsL; rw [e1]; dsimp only; rw [e2]
  unfold partN
  rw [e3, if_pos h2]
  by_cases hb : ∀ c ∈ s.drop 2, Bl c
  ·
   rw [if_pos hb, decide_eq_true (trim_nil.2 hb)]; rfl
  ·
   rw [if_neg hb, decide_eq_false (fun hh => hb (trim_nil.1 hh))]; rfl
 ·
  have e2 : cutPre dash2 s = none := by unfold cutPre; rw [if_neg (fun hh => h2 (show dash2.length ≤ s.length ∧ s.take dash2.length = dash2 from pre_iff.1 hh))]
  have e3 : partsL bd l = (decide (trimQ s = []), false) := by unfold partsL; rw [e1]; dsimp only; rw [e2]
  unfold partN
  rw [e3, if_neg h2]
  by_cases hb : ∀ c ∈ s, Bl c
  ·
   rw [if_pos hb, decide_eq_true (trim_nil.2 hb)]; rfl
  ·
   rw [if_neg hb, decide_eq_false (fun hh => hb (trim_nil.1 hh))]; rfl
set_option maxRecDepth 100000 in
set_option maxHeartbeats 800000 in
theorem rparts_spec (l bd : Tx) (w : World) (hl : l.length ≤ 1000000) (hb : bd.length ≤ 1000000) : Calls Tryz.prog 150 #[encStr l, encStr bd] w fun e w' => e = .returned (.int .i64 (((partN bd l) : Nat) : Int)) ∧ w = w' := by
 have hbl := bareL_le l
 have hsl : (dash2 ++ bd).length = bd.length + 2 := by simp [dash2]
 refine VC.calls (nt := 52) (res := #[.tmp 4]) Tryz.func150 rfl Tryz.ntmps150 Tryz.results150 rfl ?_
 refine js (jr ?_)
 refine Ops.r (v := .int .i64 ((0 : Nat) : Int)) (Run.asg rfl) rfl ?_
 refine jo (jn (jv2 0 1 ?_))
 refine js (jr (jm ?_))
 refine Ops.cl (Enters.fn (evs.cons rfl evs.nil) Tryz.call151) ((rbare_spec l _ (by omega))) rfl ?_
 rintro e _ ⟨rfl, rfl⟩
 refine ⟨_, rfl, ?_⟩
 have hpn := @partN_no bd l
 have hpy := fun s => @partN_yes bd l s
 generalize bareL l = s at *
 refine ja ?_
 refine jo (jn (jv2 1 5 ?_))
 refine js (jr (jm ?_))
 refine Ops.r (Run.addT (a := dash2) rfl rfl (by simp [dash2]; omega)) rfl ?_
 refine ja ?_
 refine jo (jn (jv2 5 6 ?_))
 refine js (js ?_)
 refine VC.split1 [(5, _), (6, _)] (js2 rfl rfl) 25 (.bool (decide (s.length < (dash2 ++ bd).length ∨ s.take (dash2 ++ bd).length ≠ dash2 ++ bd))) ?_ ?_
 ·
  refine jr ?_
  refine jm ?_
  refine Ops.r (Run.lenT rfl Tryz.underlying9) rfl ?_
  refine jm ?_
  refine Ops.r (Run.lenT rfl Tryz.underlying9) rfl ?_
  refine Ops.r (Run.bin rfl rfl (Bin.lssN _ _)) rfl ?_
  by_cases hs17 : s.length < (dash2 ++ bd).length
  ·
   refine jm ?_
   refine ju ?_
   refine ju ?_
   refine ju ?_
   refine ju ?_
   refine ju ?_
   refine ju ?_
   refine Ops.r (Run.pickT rfl rfl au) rfl ?_
   refine jo ?_
   refine jn ⟨(js3 (jc (by first | (rw [decide_eq_true (Or.inl hs17)]; done) | exact (decide_eq_true (Or.inl hs17)).symm | exact (decide_eq_true hs24).trans (decide_eq_true (Or.inr hs24)).symm | exact (decide_eq_false hs24).trans (decide_eq_false (fun hh => hh.elim hs17 hs24)).symm)) rfl rfl), rfl⟩
  ·
   refine jm ?_
   refine jg ?_
   refine jg ?_
   refine Ops.rg rfl au (Run.lenT rfl Tryz.underlying9) rfl ?_
   refine Ops.rg rfl au (Run.sliceT 0 (dash2 ++ bd).length rfl Tryz.underlying9 evB.none_ (evB.some_ rfl) (by omega) (by omega)) rfl ?_
   rw [show (s.drop 0).take ((dash2 ++ bd).length - 0) = s.take (dash2 ++ bd).length by simp]
   refine jg ?_
   refine Ops.rg rfl au (Run.neqT rfl rfl) rfl ?_
   by_cases hs24 : s.take (dash2 ++ bd).length ≠ dash2 ++ bd
   ·
    refine Ops.r (Run.pickF rfl rfl au) rfl ?_
    refine jo ?_
    refine jn ⟨(js3 (jc (by first | (rw [decide_eq_true (Or.inl hs17)]; done) | exact (decide_eq_true (Or.inl hs17)).symm | exact (decide_eq_true hs24).trans (decide_eq_true (Or.inr hs24)).symm | exact (decide_eq_false hs24).trans (decide_eq_false (fun hh => hh.elim hs17 hs24)).symm)) rfl rfl), rfl⟩
   ·
    refine Ops.r (Run.pickF rfl rfl au) rfl ?_
    refine jo ?_
    refine jn ⟨(js3 (jc (by first | (rw [decide_eq_true (Or.inl hs17)]; done) | exact (decide_eq_true (Or.inl hs17)).symm | exact (decide_eq_true hs24).trans (decide_eq_true (Or.inr hs24)).symm | exact (decide_eq_false hs24).trans (decide_eq_false (fun hh => hh.elim hs17 hs24)).symm)) rfl rfl), rfl⟩
 ·
  intro Γ hΓ
  refine jn (VC.sub _ hΓ ?_)
  refine VC.condD rfl (fun hc1 => ?_) (fun hc1 => ?_)
  ·
   have hp := hpn (fun hh => hc1.elim (fun g => by omega) (fun g => g hh.2))
   refine js (jr ?_)
   refine Ops.r (v := .int .i64 ((0 : Nat) : Int)) (Run.asg rfl) rfl ?_
   refine jo (jn (jv1 4 ?_))
   refine jt ?_
   refine thenQ_r (end1 rfl ?_)
   exact ⟨by rw [hp], rfl⟩
  ·
   have hyes : (dash2 ++ bd).length ≤ s.length ∧ s.take (dash2 ++ bd).length = dash2 ++ bd := ⟨by have := fun g => hc1 (.inl g); omega, Classical.not_not.1 (fun g => hc1 (.inr g))⟩
   have hp := hpy _ hyes rfl
   refine jk (jn (jv2 5 6 ?_))
   refine js (jr (jm ?_))
   refine jm ?_
   refine Ops.r (Run.lenT rfl Tryz.underlying9) rfl ?_
   refine Ops.r (Run.sliceT (dash2 ++ bd).length s.length rfl Tryz.underlying9 (evB.some_ rfl) evB.none_ (by omega) (by omega)) rfl ?_
   rw [show (s.drop (dash2 ++ bd).length).take (s.length - (dash2 ++ bd).length) = s.drop (dash2 ++ bd).length from List.take_of_length_le (by simp)]
   have hdl : (s.drop (dash2 ++ bd).length).length ≤ s.length := by simp
   generalize s.drop (dash2 ++ bd).length = t at *
   refine ja ?_
   refine jo (jn (jv1 5 ?_))
   refine js (jr ?_)
   refine Ops.r (v := .int .i64 ((1 : Nat) : Int)) (Run.asg rfl) rfl ?_
   refine jo (jn (js (js ?_)))
   refine VC.split1 [(5, _), (7, _)] (js2 rfl rfl) 37 (.bool (decide (2 ≤ t.length ∧ t.take 2 = [45, 45]))) ?_ ?_
   ·
    refine jr ?_
    refine jm ?_
    refine Ops.r (Run.lenT rfl Tryz.underlying9) rfl ?_
    refine Ops.r (Run.bin rfl rfl (Bin.geqN _ 2)) rfl ?_
    by_cases hs32 : 2 ≤ t.length
    ·
     refine jm ?_
     refine jg ?_
     refine Ops.rg rfl au (Run.sliceT 0 2 rfl Tryz.underlying9 evB.none_ (evB.some_ rfl) (by omega) (by omega)) rfl ?_
     rw [show (t.drop 0).take (2 - 0) = t.take 2 by simp]
     refine Ops.rg rfl au (Run.eqlT rfl rfl) rfl ?_
     by_cases hs36 : t.take 2 = [45, 45]
     ·
      refine Ops.r (Run.pickT rfl rfl au) rfl ?_
      refine jo ?_
      refine jn ⟨(js3 (jc (by first | exact (decide_eq_false (fun hh => hs32 hh.1)).symm | exact (decide_eq_false hs32).trans (decide_eq_false (fun hh => hs32 hh.1)).symm | exact (decide_eq_true hs36).trans (decide_eq_true ⟨hs32, hs36⟩).symm | exact (decide_eq_false hs36).trans (decide_eq_false (fun hh => hs36 hh.2)).symm)) rfl rfl), rfl⟩
     ·
      refine Ops.r (Run.pickT rfl rfl au) rfl ?_
      refine jo ?_
      refine jn ⟨(js3 (jc (by first | exact (decide_eq_false (fun hh => hs32 hh.1)).symm | exact (decide_eq_false hs32).trans (decide_eq_false (fun hh => hs32 hh.1)).symm | exact (decide_eq_true hs36).trans (decide_eq_true ⟨hs32, hs36⟩).symm | exact (decide_eq_false hs36).trans (decide_eq_false (fun hh => hs36 hh.2)).symm)) rfl rfl), rfl⟩
    ·
     refine jm ?_
     refine ju ?_
     refine ju ?_
     refine ju ?_
     refine Ops.r (Run.pickF rfl rfl au) rfl ?_
     refine jo ?_
     refine jn ⟨(js3 (jc (by first | exact (decide_eq_false (fun hh => hs32 hh.1)).symm | exact (decide_eq_false hs32).trans (decide_eq_false (fun hh => hs32 hh.1)).symm | exact (decide_eq_true hs36).trans (decide_eq_true ⟨hs32, hs36⟩).symm | exact (decide_eq_false hs36).trans (decide_eq_false (fun hh => hs36 hh.2)).symm)) rfl rfl), rfl⟩
   ·
    intro Γ hΓ
    refine jn (VC.sub _ hΓ ?_)
    refine VC.meet (σ := Nat × Tx) (fun s => [(5, encStr s.2), (7, .int .i64 ((s.1 : Nat) : Int))]) (fun s wr => w = wr ∧ s.2.length ≤ t.length ∧ partN bd l = if ∀ c ∈ s.2, Bl c then s.1 else 0) ?_ ?_
    ·
     refine VC.condD rfl (fun hc2 => ?_) (fun hc2 => ?_)
     ·
      rw [if_pos hc2] at hp
      refine js (jr ?_)
      refine Ops.r (v := .int .i64 ((2 : Nat) : Int)) (Run.asg rfl) rfl ?_
      refine jo (jn (jv2 5 7 ?_))
      refine jr (jm ?_)
      refine Ops.r (Run.sliceT 2 t.length rfl Tryz.underlying9 (evB.some_ rfl) evB.none_ (by omega) (by omega)) rfl ?_
      rw [show (t.drop 2).take (t.length - 2) = t.drop 2 from List.take_of_length_le (by simp)]
      refine ja ?_
      refine jo ?_
      refine jn ⟨(2, t.drop 2), (js2 rfl rfl), ?_⟩
      exact ⟨rfl, by simp, hp⟩
     ·
      rw [if_neg hc2] at hp
      refine jk ?_
      refine jn ⟨(1, t), (js2 rfl rfl), ?_⟩
      exact ⟨rfl, Nat.le_refl _, hp⟩
    ·
     rintro ⟨kd, u⟩ _ ⟨rfl, hul, hp⟩ Γ hΓ
     dsimp only at hul hp
     refine jn (VC.sub _ hΓ ?_)
     refine js (js (jr ?_))
     refine Ops.r (v := .int .i64 ((0 : Nat) : Int)) (Run.asg rfl) rfl ?_
     refine jo (jn (jb ?_))
     refine VC.loop (σ := Nat) (fun s => [(5, encStr u), (7, .int .i64 ((kd : Nat) : Int)), (8, .int .i64 ((s : Nat) : Int))]) (fun s wr => w = wr ∧ s ≤ u.length ∧ ∀ c ∈ u.take s, Bl c) (fun s => u.length - s) 0 (js3 rfl rfl rfl) ⟨rfl, Nat.zero_le _, by simp⟩ ?_
     rintro k _ ⟨rfl, hk, hall⟩
     refine js (js (jr (jm ?_)))
     refine jm ?_
     refine Ops.r (Run.lenT rfl Tryz.underlying9) rfl ?_
     refine Ops.r (Run.bin rfl rfl (Bin.lssN _ _)) rfl ?_
     refine jo (jn (jv4 5 7 8 43 ?_))
     refine VC.condD rfl (fun hc3 => ?_) (fun hc3 => ?_)
     ·
      have hgx := hdA_at hc3
      have hmem : hdA u k ∈ u := List.mem_of_getElem? hgx
      have htk := take_hdE hc3
      refine jk (jn (jv3 5 7 8 ?_))
      refine js (jb (js (jr (jm ?_))))
      refine jm ?_
      refine Ops.r (Run.indexT _ rfl rfl Tryz.underlying9 hgx) rfl ?_
      refine Ops.cl (Enters.fn (evs.cons rfl evs.nil) Tryz.call134) ((rblank_spec (hdA u k) _)) rfl ?_
      rintro e _ ⟨rfl, rfl⟩
      refine ⟨_, rfl, ?_⟩
      refine Ops.r (Run.not rfl) rfl ?_
      rw [not_dec]
      refine jo (jn (jv4 5 7 8 50 ?_))
      refine VC.condB rfl (fun hc4 => ?_) (fun hc4 => ?_)
      ·
       rw [if_neg (fun g => of_decide_eq_true hc4 (g _ hmem))] at hp
       refine js (jr ?_)
       refine Ops.r (v := .int .i64 ((0 : Nat) : Int)) (Run.asg rfl) rfl ?_
       refine jo (jn (jv1 4 ?_))
       refine jt ?_
       refine blockQ_r (thenQ_r (thenQ_r (blockQ_r (thenQ_r (end1 rfl ?_)))))
       exact ⟨by rw [hp], rfl⟩
      ·
       have hbx := Classical.not_not.1 (of_decide_eq_false hc4)
       refine jk ?_
       refine blockQ_n (jn ?_)
       refine jv3 5 7 8 ?_
       refine jr (jm ?_)
       refine Ops.r (Run.bin rfl rfl (Bin.add_i64 _ 1 (by omega))) rfl ?_
       refine ja ?_
       refine jo ?_
       refine jn ⟨(k + 1), (js3 rfl rfl rfl), ?_, ?_⟩
       ·
        refine ⟨rfl, hc3, fun y hy => ?_⟩
        rw [htk] at hy
        rcases List.mem_append.1 hy with h | h
        ·
         exact hall y h
        ·
         simp only [List.mem_singleton] at h; subst h; exact hbx
       ·
        first | omega | (dsimp only; omega)
     ·
      have hkl : k = u.length := by omega
      subst hkl
      rw [List.take_length] at hall
      rw [if_pos hall] at hp
      refine jx ?_
      refine thenQ_x (thenQ_x (blockQ_x ?_))
      refine jn (jv1 7 ?_)
      refine js (jr (jm ?_))
      refine ja ?_
      refine jo (jn (jv1 4 ?_))
      refine jt ?_
      refine end1 rfl ?_
      exact ⟨by rw [hp], rfl⟩
end Go.Proofs.YtenbjndldenkfaaGreatDoor
namespace Go.Proofs.YtenbjndldenkfaaGreatDoor
open Go.RowKit Go.Sort
def bgI (b : Option Nat) : Int := match b with
 | none => -1
 | some b => (b : Int)
theorem hrdPn {w w' : World} {t : TypeId} {x : Nat × Nat} (h : Fresh w w' t (PN1 x).toArray) : Rd w' 2 (some ⟨w.heap.size, 0, none⟩) 1 (PN [x]) := Rd.of_blk (n := 1) (size := 2) h.blk rfl
theorem lines_nl : ∀ {a : List Tx} {s l m : Tx} {b : List Tx}, linesF s = a ++ l :: m :: b → ∃ t, l = t ++ [10] ∧ (10 : UInt8) ∉ t
 | a, s, l, m, b, h => by
  by_cases h10 : (10 : UInt8) ∈ s
  ·
   obtain ⟨x, y, rfl, hx⟩ := cut10 h10
   rw [linesF_cut _ hx] at h
   cases a with
   | nil =>
    obtain ⟨h1, _⟩ := List.cons.inj h
    exact ⟨x, h1.symm, hx⟩
   | cons c a =>
    obtain ⟨_, h2⟩ := List.cons.inj h
    exact lines_nl h2
  ·
   exfalso
   cases s with
   | nil => cases a <;> cases h
   | cons c s =>
    rw [linesF_last (by simp) h10] at h
    have := congrArg List.length h
    simp at this
    omega
def flN (L : List Tx) (k : Nat) : Nat := (L.take k).flatten.length
theorem flN_succ {L : List Tx} {k : Nat} (h : k < L.length) : flN L (k + 1) = flN L k + L[k].length := by
 unfold flN
 rw [take_snoc h, List.flatten_append, List.length_append]
 simp
theorem flN_mono {L : List Tx} {j k : Nat} (h : j ≤ k) : flN L j ≤ flN L k := by
 unfold flN
 have e : L.take k = L.take j ++ (L.take k).drop j := by
  conv => lhs; rw [← List.take_append_drop j (L.take k)]
  rw [List.take_take, Nat.min_eq_left h]
 rw [e, List.flatten_append, List.length_append]
 omega
theorem flN_le {L : List Tx} {k : Nat} : flN L k ≤ L.flatten.length := by
 unfold flN
 conv => rhs; rw [← List.take_append_drop k L, List.flatten_append, List.length_append]
 omega
theorem line_at {L : List Tx} {k : Nat} (h : k < L.length) (x : Nat) (hx : x < L[k].length) : L.flatten[flN L k + x]? = L[k][x]? := by
 have e : L.flatten = (L.take k).flatten ++ (L[k] ++ (L.drop (k + 1)).flatten) := by
  conv => lhs; rw [← List.take_append_drop k L, List.flatten_append, List.drop_eq_getElem_cons h, List.flatten_cons]
 rw [e]
 unfold flN
 rw [List.getElem?_append_right (by omega), Nat.add_sub_cancel_left, List.getElem?_append_left hx]
theorem sl_at {s : Tx} {frm tu x : Nat} (h : x < (sliceQ s frm tu).length) : (sliceQ s frm tu)[x]? = s[frm + x]? := by
 unfold sliceQ at h ⊢
 rw [List.length_take] at h
 rw [List.getElem?_take_of_lt (by omega), List.getElem?_drop]
theorem ahead_eq {s : Tx} {frm tu b i j : Nat} {L : List Tx} (hL : linesF (sliceQ s frm tu) = L) (hi : i < L.length) (hj : j ≤ i) (hb : b = frm + flN L j) (hlt : b < frm + flN L i) :
  ∃ h0 : i - 1 < L.length, 0 < i ∧ aheadQ s b (frm + flN L i) = frm + flN L i - (L[i - 1]'h0).length + (bareL (L[i - 1]'h0)).length ∧ (L[i - 1]'h0).length ≤ flN L i := by
 have hi0 : 0 < i := by
  rcases Nat.eq_zero_or_pos i with h | h
  ·
   subst h
   have : j = 0 := by omega
   subst this
   omega
  ·
   exact h
 refine ⟨by omega, hi0, ?_⟩
 have hflat : L.flatten = sliceQ s frm tu := by rw [← hL, linesF_flat]
 have hnl : ∀ k, (hk : k + 1 < L.length) → ∃ t, L[k]'(by omega) = t ++ [10] ∧ (10 : UInt8) ∉ t := by
  intro k hk
  have e : L = L.take k ++ L[k]'(by omega) :: L[k + 1] :: L.drop (k + 2) := by
   conv => lhs; rw [← List.take_append_drop k L, List.drop_eq_getElem_cons (show k < L.length by omega), List.drop_eq_getElem_cons hk]
  exact lines_nl (hL.trans e)
 have hat : ∀ k, (hk : k + 1 < L.length) → ∀ x, x < (L[k]'(by omega)).length → s[frm + (flN L k + x)]? = (L[k]'(by omega))[x]? := by
  intro k hk x hx
  have h1 := line_at (show k < L.length by omega) x hx
  rw [hflat] at h1
  rw [← h1, sl_at]
  rw [← hflat]
  have := flN_succ (show k < L.length by omega)
  have := flN_le (L := L) (k := k + 1)
  omega
 obtain ⟨m, rfl⟩ : ∃ m, i = m + 1 := ⟨i - 1, by omega⟩
 have hji : j ≤ m := by
  rcases Nat.lt_or_ge m j with h | h
  ·
   have : j = m + 1 := by omega
   subst this
   omega
  ·
   exact h
 have hmono := flN_mono (L := L) hji
 have hsu := flN_succ (L := L) (k := m) (by omega)
 obtain ⟨t, ht, _⟩ := hnl m (by omega)
 have hatm := hat m (by omega)
 simp only [Nat.add_sub_cancel]
 have ht' : L[m]'(by omega) = t ++ [10] := ht
 generalize L[m]'(by omega) = l at *
 subst ht'
 rw [List.length_append, List.length_singleton] at hsu
 have hlast : s[frm + flN L (m + 1) - 1]? = some 10 := by
  have := hatm t.length (by simp)
  rw [show frm + flN L (m + 1) - 1 = frm + (flN L m + t.length) by omega, this]
  simp
 refine ⟨?_, by rw [List.length_append, List.length_singleton]; omega⟩
 rw [bareL_nl, List.length_append, List.length_singleton]
 unfold aheadQ
 rw [if_pos ⟨hlt, hlast⟩]
 by_cases h13 : t.getLast? = some 13
 ·
  have ht0 : 0 < t.length := by cases t with
   | nil => cases h13
   | cons a r => simp
  have h2 : s[frm + flN L (m + 1) - 2]? = some 13 := by
   have := hatm (t.length - 1) (by simp; omega)
   rw [show frm + flN L (m + 1) - 2 = frm + (flN L m + (t.length - 1)) by omega, this, List.getElem?_append_left (by omega), ← List.getLast?_eq_getElem?]
   exact h13
  rw [if_pos ⟨by omega, h2⟩, if_pos h13, List.length_dropLast]
  omega
 ·
  rw [if_neg h13, if_neg ?_]
  ·
   omega
  ·
   rintro ⟨g1, g2⟩
   by_cases ht0 : 0 < t.length
   ·
    have := hatm (t.length - 1) (by simp; omega)
    rw [show frm + flN L (m + 1) - 2 = frm + (flN L m + (t.length - 1)) by omega, this, List.getElem?_append_left (by omega), ← List.getLast?_eq_getElem?] at g2
    exact h13 g2
   ·
    have htl : t.length = 0 := by omega
    have hjm : j < m := by
     rcases Nat.lt_or_ge j m with h | h
     ·
      exact h
     ·
      have : j = m := by omega
      subst this
      omega
    obtain ⟨k, rfl⟩ : ∃ k, m = k + 1 := ⟨m - 1, by omega⟩
    obtain ⟨t2, ht2, _⟩ := hnl k (by omega)
    have hs2 := flN_succ (L := L) (k := k) (by omega)
    have := hat k (by omega) t2.length (by rw [ht2]; simp)
    rw [ht2] at this hs2
    rw [List.length_append, List.length_singleton] at hs2
    rw [show frm + flN L (k + 1 + 1) - 2 = frm + (flN L k + t2.length) by omega, this] at g2
    simp at g2
theorem spx_no {s bd : Tx} {tu o : Nat} {bg : Option Nat} {out : List (Nat × Nat)} {l : Tx} {r : List Tx} (h : partN bd l = 0) : spnL s bd tu o bg out (l :: r) = spnL s bd tu (o + l.length) bg out r := by
 unfold partN at h
 rw [spnL]
 by_cases h1 : (partsL bd l).1 = false
 ·
  rw [if_pos h1]
 ·
  rw [if_neg h1] at h; split at h <;> cases h
theorem spx_last {s bd : Tx} {tu o : Nat} {bg : Option Nat} {out : List (Nat × Nat)} {l : Tx} {r : List Tx} (h : partN bd l = 2) : spnL s bd tu o bg out (l :: r) = addB s o bg out := by
 unfold partN at h
 rw [spnL]
 by_cases h1 : (partsL bd l).1 = false
 ·
  rw [if_pos h1] at h; cases h
 ·
  rw [if_neg h1] at h
  rw [if_neg h1]
  by_cases h2 : (partsL bd l).2 = true
  ·
   rw [if_pos h2]
  ·
   rw [if_neg h2] at h; cases h
theorem spx_one {s bd : Tx} {tu o : Nat} {bg : Option Nat} {out : List (Nat × Nat)} {l : Tx} {r : List Tx} (h : partN bd l = 1) : spnL s bd tu o bg out (l :: r) = spnL s bd tu (o + l.length) (some (o + l.length)) (addB s o bg out) r := by
 unfold partN at h
 rw [spnL]
 by_cases h1 : (partsL bd l).1 = false
 ·
  rw [if_pos h1] at h; cases h
 ·
  rw [if_neg h1] at h
  rw [if_neg h1]
  by_cases h2 : (partsL bd l).2 = true
  ·
   rw [if_pos h2] at h; cases h
  ·
   rw [if_neg h2]
theorem partN_le (bd l : Tx) : partN bd l ≤ 2 := by unfold partN; split <;> (try split) <;> omega
set_option maxRecDepth 100000 in
set_option maxHeartbeats 3200000 in
theorem rspans_spec (q bd : Tx) (frm tu : Nat) (w : World) (hq : q.length ≤ 500000) (hb : bd.length ≤ 1000000) (hft : frm ≤ tu) (htl : tu ≤ q.length) :
  Calls Tryz.prog 110 #[encStr q, .int .i64 ((frm : Nat) : Int), .int .i64 ((tu : Nat) : Int), encStr bd] w fun e w' => Frm [] w w' ∧ ∃ A c, e = .returned (.slice A (spansQ q bd frm tu).length c) ∧ Own w' 141 2 A (spansQ q bd frm tu).length c (PN (spansQ q bd frm tu)) ∧ ∀ x ∈ ob A, w.heap.size ≤ x := by
 have K := Frm.refl [] w
 have hsq : spansQ q bd frm tu = spnL q bd tu frm none [] (linesF (sliceQ q frm tu)) := rfl
 have hsl := sliceQ_ln (q := q) (a := frm) htl
 have hlf := linesF_flat (sliceQ q frm tu)
 have hlc := linesF_count (sliceQ q frm tu)
 refine VC.calls (nt := 88) (res := #[.tmp 8]) Tryz.func110 rfl Tryz.ntmps110 Tryz.results110 rfl ?_
 refine js (jr (ja ?_))
 refine jo (jn (jv4 0 1 2 3 ?_))
 refine js (jr (ja ?_))
 refine jo (jn (js (jr (jm ?_))))
 refine jm ?_
 refine jm ?_
 refine Ops.r (Run.sliceT frm tu rfl Tryz.underlying9 (evB.some_ rfl) (evB.some_ rfl) hft htl) rfl ?_
 rw [show (q.drop frm).take (tu - frm) = sliceQ q frm tu from rfl]
 refine Ops.cl (Enters.fn (evs.cons rfl evs.nil) Tryz.call132) ((rcut_spec (sliceQ q frm tu) _ (by omega))) rfl ?_
 rintro e w1 ⟨f1, B, bc, rfl, hL, hubL⟩
 refine ⟨_, rfl, ?_⟩
 have K := K.trans f1 (by simp)
 rw [hsq]
 obtain ⟨L, hLe⟩ : ∃ L, linesF (sliceQ q frm tu) = L := ⟨_, rfl⟩
 rw [hLe] at hL hlf hlc ⊢
 have hLl : ∀ k, flN L k ≤ tu - frm := fun k => by have := flN_le (L := L) (k := k); rw [hlf, hsl] at this; exact this
 refine ja ?_
 refine jo (jn (jv5 1 2 3 9 10 ?_))
 refine js (jr ?_)
 refine Ops.r (v := .int .i64 (-1)) (Run.asg rfl) rfl ?_
 refine jo (jn (js (jr (jm ?_))))
 refine ja ?_
 refine jo (jn (jv6 2 3 9 10 11 12 ?_))
 refine js (js (jr ?_))
 refine Ops.r (v := .int .i64 ((0 : Nat) : Int)) (Run.asg rfl) rfl ?_
 refine jo (jn (jb ?_))
 refine VC.loop (σ := Nat × Option Nat × List (Nat × Nat) × Option Addr × Nat) (fun s => [(2, .int .i64 ((tu : Nat) : Int)), (3, encStr bd), (9, .slice s.2.2.2.1 s.2.2.1.length s.2.2.2.2), (10, .slice B L.length bc), (11, .int .i64 (bgI s.2.1)), (12, .int .i64 (((frm + flN L s.1) : Nat) : Int)), (13, .int .i64 ((s.1 : Nat) : Int))]) (fun s wr => s.1 ≤ L.length ∧ spnL q bd tu (frm + flN L s.1) s.2.1 s.2.2.1 (L.drop s.1) = spnL q bd tu frm none [] L ∧ (∀ b, s.2.1 = some b → ∃ j, j ≤ s.1 ∧ b = frm + flN L j) ∧ s.2.2.1.length ≤ s.1 ∧ Own wr 141 2 s.2.2.2.1 s.2.2.1.length s.2.2.2.2 (PN s.2.2.1) ∧ Own wr 9 1 B L.length bc (SB L) ∧ Frm [] w wr ∧ ∀ y ∈ ob s.2.2.2.1, w.heap.size ≤ y ∧ y ∉ ob B) (fun s => L.length - s.1) (0, none, [], none, 0) (js7 rfl rfl rfl rfl rfl (by rw [show flN L 0 = 0 from rfl]; rfl) rfl) ⟨Nat.zero_le _, rfl, by simp, Nat.le_refl _, Own.nil _ _ _, hL, K, by simp [ob]⟩ ?_
 rintro ⟨i, bg, out, A, c⟩ wr ⟨hi, hs, hbg, hol, hO, hL, K, hub⟩
 dsimp only at hi hs hbg hol hO hub ⊢
 have hLi := hLl i
 have hbr : bgI bg = -1 ∨ 0 ≤ bgI bg := by
  cases bg with
  | none => exact .inl rfl
  | some b => exact .inr (by show 0 ≤ ((b : Nat) : Int); omega)
 have hbgr : 0 ≤ bgI bg → Unit → ∃ b, bg = some b ∧ b ≤ tu := fun h0 _ => by
  cases bg with
  | none => exact absurd h0 (by decide)
  | some b =>
   obtain ⟨j, hj, hbj⟩ := hbg b rfl
   have := hLl j
   exact ⟨b, rfl, by omega⟩
 refine js (js (jr (jm ?_)))
 refine jm ?_
 refine Ops.r (Run.lenS rfl Tryz.underlying36) rfl ?_
 refine Ops.r (Run.bin rfl rfl (Bin.lssN _ _)) rfl ?_
 refine jo (jn (jv8 2 3 9 10 11 12 13 25 ?_))
 refine VC.condD rfl (fun hc1 => ?_) (fun hc1 => ?_)
 ·
  obtain ⟨adL, hLa, hcell⟩ := SB_at1 hL.rd hc1
  have hcw : ∀ W, Frm [] wr W → W.cell? (adL.add (i * 1)) = some (encStr L[i]) := fun W hW => by
   obtain ⟨ad2, h2, hc2_⟩ := SB_at1 (hL.rd.frm hW (by simp)) hc1
   cases hLa.symm.trans h2
   exact hc2_
  have hsu := flN_succ hc1
  have hLi1 := hLl (i + 1)
  have hae := fun b j => @ahead_eq q frm tu b i j L hLe hc1
  have hlen : L[i].length ≤ 500000 := by omega
  rw [List.drop_eq_getElem_cons hc1] at hs
  have hpl := partN_le bd L[i]
  have hcw1 : ∀ h0 : i - 1 < L.length, ∀ W, Frm [] wr W → W.cell? (adL.add ((i - 1) * 1)) = some (encStr (L[i - 1]'h0)) := fun h0 W hW => by
   obtain ⟨ad2, h2, hc2_⟩ := SB_at1 (hL.rd.frm hW (by simp)) h0
   cases hLa.symm.trans h2
   exact hc2_
  generalize hle : L[i] = l at *
  refine jk (jn (jv7 2 3 9 10 11 12 13 ?_))
  refine js (jb (js (jr (jm ?_))))
  refine jm ?_
  refine Ops.r (Run.indexS i (by rw [← hLa]; rfl) rfl Tryz.underlying36 Tryz.sizeOf9 hc1) rfl ?_
  refine Ops.r (Run.load rfl Tryz.isAgg9 hcell) rfl ?_
  refine jm ?_
  refine Ops.cl (Enters.fn (evs.cons rfl (evs.cons rfl evs.nil)) Tryz.call150) ((rparts_spec l bd _ (by omega) (by omega))) rfl ?_
  rintro e _ ⟨rfl, rfl⟩
  refine ⟨_, rfl, ?_⟩
  have hsn := @spx_no q bd tu (frm + flN L i) bg out l (L.drop (i + 1))
  have hs1 := @spx_one q bd tu (frm + flN L i) bg out l (L.drop (i + 1))
  have hs2 := @spx_last q bd tu (frm + flN L i) bg out l (L.drop (i + 1))
  generalize partN bd l = kd at *
  refine ja ?_
  refine jo (jn (jv8 2 3 9 10 11 12 13 14 ?_))
  refine js (js ?_)
  refine VC.split1 [(2, _), (3, _), (9, _), (10, _), (11, _), (12, _), (13, _), (14, _)] (js8 rfl rfl rfl rfl rfl rfl rfl rfl) 39 (.bool (decide ((0 < kd) ∧ (0 ≤ bgI bg)))) ?_ ?_
  ·
   by_cases hs0 : 0 < kd
   ·
    refine jr (jm ?_)
    refine Ops.r (Run.bin rfl rfl (Bin.gtrN _ 0)) rfl ?_
    refine jm ?_
    refine jg ?_
    refine Ops.rg rfl au (Run.bin rfl rfl (Bin.geq _ 0)) rfl ?_
    refine Ops.r (Run.pickT rfl rfl au) rfl ?_
    refine jo ?_
    refine jn ⟨(js9 (by rw [dand1 hs0]; rfl) rfl rfl rfl rfl rfl rfl rfl rfl), rfl⟩
   ·
    refine jr (jm ?_)
    refine Ops.r (Run.bin rfl rfl (Bin.gtrN _ 0)) rfl ?_
    refine jm ?_
    refine ju ?_
    refine ju ?_
    refine Ops.r (Run.pickF rfl rfl au) rfl ?_
    refine jo ?_
    refine jn ⟨(js9 (by rw [dand0 hs0]; rfl) rfl rfl rfl rfl rfl rfl rfl rfl), rfl⟩
  ·
   intro Γ hΓ
   refine jn (VC.sub _ hΓ ?_)
   refine VC.meet (σ := List (Nat × Nat) × Option Addr × Nat) (fun s => [(2, .int .i64 ((tu : Nat) : Int)), (3, encStr bd), (9, .slice s.2.1 s.1.length s.2.2), (10, .slice B L.length bc), (11, .int .i64 (bgI bg)), (12, .int .i64 (((frm + flN L i) : Nat) : Int)), (13, .int .i64 ((i : Nat) : Int)), (14, .int .i64 ((kd : Nat) : Int))]) (fun s wz => s.1 = (if 0 < kd then addB q (frm + flN L i) bg out else out) ∧ s.1.length ≤ i + 1 ∧ Own wz 141 2 s.2.1 s.1.length s.2.2 (PN s.1) ∧ Own wz 9 1 B L.length bc (SB L) ∧ Frm [] w wz ∧ ∀ y ∈ ob s.2.1, w.heap.size ≤ y ∧ y ∉ ob B) ?_ ?_
   ·
    refine VC.condD rfl (fun hc2 => ?_) (fun hc2 => ?_)
    ·
     obtain ⟨b, rfl, hbt⟩ := hbgr hc2.2 ()
     obtain ⟨j, hj, hbj⟩ := hbg b rfl
     have hmn := flN_mono (L := L) hj
     have hadd : (if 0 < kd then addB q (frm + flN L i) (some b) out else out) = out ++ [(b, aheadQ q b (frm + flN L i))] := by rw [if_pos hc2.1]; rfl
     have hal := aheadQ_le (s := q) (frm := b) (line := (frm + flN L i)) (by omega)
     rw [show bgI (some b) = ((b : Nat) : Int) from rfl]
     refine js (jr (jm ?_))
     refine ja ?_
     refine jo (jn (jv9 2 3 9 10 11 12 13 14 15 ?_))
     refine js (js (jr (jm ?_)))
     refine jm ?_
     refine Ops.r (Run.bin rfl rfl (Bin.gtr _ _)) rfl ?_
     refine jo (jn (jv10 2 3 9 10 11 12 13 14 15 43 ?_))
     refine VC.meet (σ := Unit) (fun s => [(2, .int .i64 ((tu : Nat) : Int)), (3, encStr bd), (9, .slice A out.length c), (10, .slice B L.length bc), (11, .int .i64 ((b : Nat) : Int)), (12, .int .i64 (((frm + flN L i) : Nat) : Int)), (13, .int .i64 ((i : Nat) : Int)), (14, .int .i64 ((kd : Nat) : Int)), (15, .int .i64 (((aheadQ q b (frm + flN L i)) : Nat) : Int))]) (fun s wz => Drawn wr wz) ?_ ?_
     ·
      refine VC.condD rfl (fun hc3 => ?_) (fun hc3 => ?_)
      ·
       obtain ⟨h0, hi0, hah, hll⟩ := hae b j hj hbj (by omega)
       have hb1 := bareL_le (L[i - 1]'h0)
       have hcw1 := hcw1 h0
       refine VC.held (fun W => Drawn wr W) jK ?_
       have hS : Drawn wr wr.drew := Drawn.drew _
       refine jh 0 rfl hS (fun w0 hw0 => Run.mv rfl) ?_
       refine jh 1 rfl hS (fun w0 hw0 => Run.mv rfl) ?_
       refine jh 2 rfl hS (fun w0 hw0 => Run.mv rfl) ?_
       refine jh 3 rfl hS (fun w0 hw0 => Run.bin rfl rfl (Bin.sub_i64 i 1 (by omega) (by omega))) ?_
       refine jh 4 rfl hS (fun w0 hw0 => Run.indexS (i - 1) (by rw [← hLa]; rfl) rfl Tryz.underlying36 Tryz.sizeOf9 h0) ?_
       refine jh 5 rfl hS (fun w0 hw0 => Run.load rfl Tryz.isAgg9 (hcw1 _ hw0.frm)) ?_
       refine jh 6 rfl hS (fun w0 hw0 => Run.lenT rfl Tryz.underlying9) ?_
       refine jh 7 rfl hS (fun w0 hw0 => Run.bin rfl rfl (Bin.sub_i64 (frm + flN L i) (L[i - 1]'h0).length (by omega) (by omega))) ?_
       refine jh 8 rfl hS (fun w0 hw0 => Run.mv rfl) ?_
       refine jh 9 rfl hS (fun w0 hw0 => Run.mv rfl) ?_
       refine jh 10 rfl hS (fun w0 hw0 => Run.bin rfl rfl (Bin.sub_i64 i 1 (by omega) (by omega))) ?_
       refine jh 11 rfl hS (fun w0 hw0 => Run.indexS (i - 1) (by rw [← hLa]; rfl) rfl Tryz.underlying36 Tryz.sizeOf9 h0) ?_
       refine jh 12 rfl hS (fun w0 hw0 => Run.load rfl Tryz.isAgg9 (hcw1 _ hw0.frm)) ?_
       refine HOps.cl 13 rfl jK (Enters.fn (evs.cons rfl evs.nil) Tryz.call151) ((rbare_spec (L[i - 1]'h0) _ (by omega))) trivial rfl rfl ?_
       rintro e _ ⟨rfl, rfl⟩
       refine ⟨_, rfl, hS, ?_⟩
       refine jh 14 rfl hS (fun w0 hw0 => Run.lenT rfl Tryz.underlying9) ?_
       refine jh 15 rfl hS (fun w0 hw0 => Run.bin rfl rfl (Bin.add_i64 ((frm + flN L i) - (L[i - 1]'h0).length) (bareL (L[i - 1]'h0)).length (by omega))) ?_
       rw [← hah]
       refine jh 16 rfl hS (fun w0 hw0 => Run.asg rfl) ?_
       refine HOps.done jK ?_
       refine jn ⟨(), (js9 rfl rfl rfl rfl rfl rfl rfl rfl rfl), ?_⟩
       exact hS
      ·
       have hah : aheadQ q b (frm + flN L i) = b := by
        unfold aheadQ
        rw [if_neg (fun hh => by have := hh.1; omega)]
        omega
       refine jk ?_
       refine jn ⟨(), (js9 rfl rfl rfl rfl rfl rfl rfl rfl (by rw [hah]; rfl)), ?_⟩
       exact Drawn.refl _
     ·
      rintro _ wz hdz Γ hΓ
      have hO := hO.drawn hdz
      have hL := hL.drawn hdz
      have K := K.drawn hdz
      refine jn (VC.sub _ hΓ ?_)
      refine jr (jm ?_)
      refine jm ?_
      refine jm ?_
      refine Ops.r (Run.build (evs.cons rfl (evs.cons rfl evs.nil)) zero141 (places141).choose_spec.1 (places141).choose_spec.2 rfl) rfl ?_
      refine Ops.m (Does.buildS1 rfl Tryz.underlying138 Tryz.sizeOf141 zero141 (by decide) (by decide) rfl rfl) rfl ?_
      rintro _ x2 ⟨rfl, hFx2⟩
      have hrdx2 := hrdPn (x := (b, aheadQ q b (frm + flN L i))) hFx2
      have hO := hO.frm hFx2.frm (by simp)
      have hL := hL.frm hFx2.frm (by simp)
      have K := K.trans hFx2.frm (by simp)
      refine Ops.m (Does.app rfl rfl Tryz.underlying138 (info141) rfl (by decide) hO hrdx2 (PN_one _) (by omega) (by omega)) rfl ?_
      rintro _ vx2 ⟨Ax2, cx2, rfl, hOx2, fx2, hobx2⟩
      have sK := K.size
      have lL := hL.lt
      have hL := hL.frm fx2 (fun y hy h => (hub y h).2 hy)
      have K := Frm.own K fx2 (fun y hy => (hub y hy).1)
      have hOx2 : Own vx2 141 2 Ax2 (out ++ [(b, aheadQ q b (frm + flN L i))]).length cx2 (PN (out ++ [(b, aheadQ q b (frm + flN L i))])) := by rw [PN_append, List.length_append]; exact hOx2
      have hubx2 : ∀ y ∈ ob Ax2, w.heap.size ≤ y ∧ y ∉ ob B := fun y hy => by
       rcases hobx2 with h | h
       ·
        rw [h] at hy; exact hub y hy
       ·
        rw [h] at hy
        simp only [List.mem_singleton] at hy
        subst hy
        exact ⟨by omega, fun h => by have := lL _ h; omega⟩
      refine ja ?_
      refine jo ?_
      refine jn ⟨(out ++ [(b, aheadQ q b (frm + flN L i))], Ax2, cx2), (js8 rfl rfl (by rw [List.length_append]; rfl) rfl rfl rfl rfl rfl), ?_⟩
      exact ⟨hadd.symm, by simp; omega, hOx2, hL, K, hubx2⟩
    ·
     have hadd : (if 0 < kd then addB q (frm + flN L i) bg out else out) = out := by
      by_cases hk : 0 < kd
      ·
       rw [if_pos hk]
       cases bg with
       | none => rfl
       | some b => exact absurd ⟨hk, by show 0 ≤ ((b : Nat) : Int); omega⟩ hc2
      ·
       rw [if_neg hk]
     refine jk ?_
     refine jn ⟨(out, A, c), (js8 rfl rfl rfl rfl rfl rfl rfl rfl), ?_⟩
     exact ⟨hadd.symm, by dsimp only; omega, hO, hL, K, hub⟩
   ·
    rintro ⟨out2, A2, c2⟩ wz ⟨ho2, hol2, hO2, hL2, K2, hub2⟩ Γ hΓ
    dsimp only at ho2 hol2 hO2 hub2
    obtain ⟨ad2, he2, hcell2⟩ := SB_at1 hL2.rd hc1
    cases hLa.symm.trans he2
    rw [hle] at hcell2
    refine jn (VC.sub _ hΓ ?_)
    refine js (jr (jm ?_))
    refine jm ?_
    refine jm ?_
    refine Ops.r (Run.indexS i (by rw [← hLa]; rfl) rfl Tryz.underlying36 Tryz.sizeOf9 hc1) rfl ?_
    refine Ops.r (Run.load rfl Tryz.isAgg9 hcell2) rfl ?_
    refine Ops.r (Run.lenT rfl Tryz.underlying9) rfl ?_
    refine Ops.r (Run.bin rfl rfl (Bin.add_i64 (frm + flN L i) l.length (by omega))) rfl ?_
    rw [show (frm + flN L i) + l.length = (frm + flN L (i + 1)) by omega]
    refine ja ?_
    refine jo (jn (jv8 2 3 9 10 11 12 13 14 ?_))
    refine js (js (jr (jm ?_)))
    refine Ops.r (Run.bin rfl rfl (Bin.eqlN _ 2)) rfl ?_
    refine jo (jn (jv9 2 3 9 10 11 12 13 14 74 ?_))
    refine VC.condD rfl (fun hc4 => ?_) (fun hc4 => ?_)
    ·
     have hfin : spnL q bd tu frm none [] L = out2 := by rw [← hs, hs2 hc4, ho2, if_pos (by omega)]
     refine js (jr (jm ?_))
     refine ja ?_
     refine jo (jn (jv1 8 ?_))
     refine jt ?_
     refine thenQ_r (blockQ_r (thenQ_r (thenQ_r (blockQ_r (thenQ_r (end1 rfl ?_))))))
     exact ⟨K2, A2, c2, by rw [hfin], by rw [hfin]; exact hO2, fun y hy => (hub2 y hy).1⟩
    ·
     refine jk (jn (jv8 2 3 9 10 11 12 13 14 ?_))
     refine js (jr (jm ?_))
     refine Ops.r (Run.bin rfl rfl (Bin.eqlN _ 1)) rfl ?_
     refine jo (jn (jv8 2 3 9 10 11 12 13 77 ?_))
     refine VC.meet (σ := Unit) (fun s => [(2, .int .i64 ((tu : Nat) : Int)), (3, encStr bd), (9, .slice A2 out2.length c2), (10, .slice B L.length bc), (11, .int .i64 (bgI (if kd = 1 then some (frm + flN L (i + 1)) else bg))), (12, .int .i64 (((frm + flN L (i + 1)) : Nat) : Int)), (13, .int .i64 ((i : Nat) : Int))]) (fun s wy => wz = wy) ?_ ?_
     ·
      refine VC.condD rfl (fun hc5 => ?_) (fun hc5 => ?_)
      ·
       refine jr (jm ?_)
       refine ja ?_
       refine jo ?_
       refine jn ⟨(), (js7 rfl rfl rfl rfl (by rw [if_pos hc5]; rfl) rfl rfl), ?_⟩
       exact rfl
      ·
       refine jk ?_
       refine jn ⟨(), (js7 rfl rfl rfl rfl (by rw [if_neg hc5]; rfl) rfl rfl), ?_⟩
       exact rfl
     ·
      rintro _ _ rfl Γ hΓ
      have hs3 : spnL q bd tu (frm + flN L (i + 1)) (if kd = 1 then some (frm + flN L (i + 1)) else bg) out2 (L.drop (i + 1)) = spnL q bd tu frm none [] L := by
       rw [← hs, ho2]
       by_cases h1 : kd = 1
       ·
        rw [if_pos h1, hs1 h1, if_pos (by omega), show (frm + flN L i) + l.length = (frm + flN L (i + 1)) by omega]
       ·
        have h0 : kd = 0 := by omega
        rw [if_neg h1, hsn h0, if_neg (by omega), show (frm + flN L i) + l.length = (frm + flN L (i + 1)) by omega]
      have hbg3 : ∀ b, (if kd = 1 then some (frm + flN L (i + 1)) else bg) = some b → ∃ j, j ≤ i + 1 ∧ b = frm + flN L j := by
       intro b hb
       by_cases h1 : kd = 1
       ·
        rw [if_pos h1] at hb
        exact ⟨i + 1, Nat.le_refl _, (Option.some.inj hb).symm⟩
       ·
        rw [if_neg h1] at hb
        obtain ⟨j, hj, hbj⟩ := hbg b hb
        exact ⟨j, by omega, hbj⟩
      refine blockQ_n (jn (VC.sub _ hΓ ?_))
      refine jr (jm ?_)
      refine Ops.r (Run.bin rfl rfl (Bin.add_i64 _ 1 (by omega))) rfl ?_
      refine ja ?_
      refine jo ?_
      refine jn ⟨(i + 1, (if kd = 1 then some (frm + flN L (i + 1)) else bg), out2, A2, c2), (js7 rfl rfl rfl rfl rfl rfl rfl), ?_, ?_⟩
      ·
       exact ⟨hc1, hs3, hbg3, hol2, hO2, hL2, K2, hub2⟩
      ·
       first | omega | (dsimp only; omega)
 ·
  have hil : i = L.length := by omega
  rw [List.drop_of_length_le (by omega)] at hs
  refine jx ?_
  refine thenQ_x (thenQ_x (blockQ_x ?_))
  refine jn (jv3 2 9 11 ?_)
  refine js (js (jr (jm ?_)))
  refine Ops.r (Run.bin rfl rfl (Bin.geq _ 0)) rfl ?_
  refine jo (jn (jv4 2 9 11 80 ?_))
  refine VC.meet (σ := Option Addr × Nat) (fun s => [(9, .slice s.1 (spnL q bd tu frm none [] L).length s.2)]) (fun s wz => Own wz 141 2 s.1 (spnL q bd tu frm none [] L).length s.2 (PN (spnL q bd tu frm none [] L)) ∧ Frm [] w wz ∧ ∀ y ∈ ob s.1, w.heap.size ≤ y) ?_ ?_
  ·
   refine VC.condD rfl (fun hc6 => ?_) (fun hc6 => ?_)
   ·
    obtain ⟨b, rfl, hbt⟩ := hbgr hc6 ()
    rw [show bgI (some b) = ((b : Nat) : Int) from rfl]
    have hs : out ++ [(b, tu)] = spnL q bd tu frm none [] L := hs
    refine jr (jm ?_)
    refine jm ?_
    refine jm ?_
    refine Ops.r (Run.build (evs.cons rfl (evs.cons rfl evs.nil)) zero141 (places141).choose_spec.1 (places141).choose_spec.2 rfl) rfl ?_
    refine Ops.m (Does.buildS1 rfl Tryz.underlying138 Tryz.sizeOf141 zero141 (by decide) (by decide) rfl rfl) rfl ?_
    rintro _ x3 ⟨rfl, hFx3⟩
    have hrdx3 := hrdPn (x := (b, tu)) hFx3
    have hO := hO.frm hFx3.frm (by simp)
    have hL := hL.frm hFx3.frm (by simp)
    have K := K.trans hFx3.frm (by simp)
    refine Ops.m (Does.app rfl rfl Tryz.underlying138 (info141) rfl (by decide) hO hrdx3 (PN_one _) (by omega) (by omega)) rfl ?_
    rintro _ vx3 ⟨Ax3, cx3, rfl, hOx3, fx3, hobx3⟩
    have sK := K.size
    have lL := hL.lt
    have hL := hL.frm fx3 (fun y hy h => (hub y h).2 hy)
    have K := Frm.own K fx3 (fun y hy => (hub y hy).1)
    have hOx3 : Own vx3 141 2 Ax3 (out ++ [(b, tu)]).length cx3 (PN (out ++ [(b, tu)])) := by rw [PN_append, List.length_append]; exact hOx3
    have hubx3 : ∀ y ∈ ob Ax3, w.heap.size ≤ y ∧ y ∉ ob B := fun y hy => by
     rcases hobx3 with h | h
     ·
      rw [h] at hy; exact hub y hy
     ·
      rw [h] at hy
      simp only [List.mem_singleton] at hy
      subst hy
      exact ⟨by omega, fun h => by have := lL _ h; omega⟩
    refine ja ?_
    refine jo ?_
    refine jn ⟨(Ax3, cx3), (js1 (by rw [← hs, List.length_append]; rfl)), ?_⟩
    exact ⟨by rw [← hs]; exact hOx3, K, fun y hy => (hubx3 y hy).1⟩
   ·
    have hs : out = spnL q bd tu frm none [] L := by
     rw [← hs]
     cases bg with
     | none => rfl
     | some b => exact absurd (show 0 ≤ bgI (some b) by show 0 ≤ ((b : Nat) : Int); omega) hc6
    refine jk ?_
    refine jn ⟨(A, c), (js1 (by rw [← hs]; rfl)), ?_⟩
    exact ⟨by rw [← hs]; exact hO, K, fun y hy => (hub y hy).1⟩
  ·
   rintro ⟨A9, c9⟩ wz ⟨hO9, K9, hub9⟩ Γ hΓ
   dsimp only at hO9 hub9
   refine jn (VC.sub _ hΓ ?_)
   refine js (jr (jm ?_))
   refine ja ?_
   refine jo (jn (jv1 8 ?_))
   refine jt ?_
   refine end1 rfl ?_
   exact ⟨K9, A9, c9, rfl, hO9, hub9⟩
end Go.Proofs.YtenbjndldenkfaaGreatDoor
namespace Go.Proofs.YtenbjndldenkfaaGreatDoor
open Go.RowKit Go.Sort
section
variable {P : Program} {Γ : Env} {w : World} {dst : Option Tmp} {T : TypeId} {pos : String} {after : Array Edge} {g : Option (Nat × Bool)}
theorem Acts.storeAt {t e : TypeId} {x y : Operand} {gb i : Nat} {cs vs : Array Value} (hx : ev? Γ x = some (.pointer (some ⟨gb, i, none⟩))) (hy : ev? Γ y = some (.agg vs))
  (hz : ∀ w, (sizeOf t).run P w = .ok vs.size w) (hb : Blk w gb e cs) (hs : i + vs.size ≤ cs.size) (h1 : ∀ v ∈ vs.toList, v.oneCell' = true) :
  Acts P ⟨dst, .store t x y, T, pos, after, g⟩ Γ w (fun w' => Blk w' gb e (cs.toList.take i ++ vs.toList ++ cs.toList.drop (i + vs.toList.length)).toArray ∧ Frm [gb] w w' ∧ w'.heap.size = w.heap.size) := fun ρ hρ => by
 have hr := run_storeCells_at (P := P) gb i e vs.toList 0 cs w hb (by simp; omega) h1
 simp only [Nat.add_zero] at hr
 refine ⟨w.setRow gb (cs.toList.take i ++ vs.toList ++ cs.toList.drop (i + vs.toList.length)).toArray, ?_, setRow_heap w gb cs _ e (0, 0) hb, ⟨rfl, rfl, rfl, by simp [World.setRow], fun k _ hS => setRow_other w gb k _ (by simpa using hS)⟩, by simp [World.setRow]⟩
 simp only [execOp, Instr.storeAt, Instr.sureAddr, storeVar, hρ _ _ hx, hρ _ _ hy, Value.cells, Sem.run_bind, Sem.run_pure, Result.andThen_ok, hz, ne_eq, not_true_eq_false, if_false, Sem.run_ite, hr]
end
theorem fillP2 (a b c u : Int) (k : Value) : Instr.fill (fun i => (#[(0, 1), (1, 1), (2, 1), (3, 1), (4, 3), (7, 1), (8, 1)] : Array (Nat × Nat))[i]?) #[k, .int .i64 0, .int .i64 0, .int .i64 0, .string ⟨#[]⟩, .string ⟨#[]⟩, .slice none 0 0, .int .i64 0, .int .i64 0] [(1, .int .i64 a), (2, .int .i64 b), (3, .int .i64 c), (5, .int .i64 u)] = some #[k, .int .i64 a, .int .i64 b, .int .i64 c, .string ⟨#[]⟩, .string ⟨#[]⟩, .slice none 0 0, .int .i64 u, .int .i64 0] := by
 simp [Instr.fill, Value.cells]
def RFindAt (n : Nat) : Prop := ∀ (nest : Nat), nest + n = 6 → ∀ (q : Tx) (l : List Pc) (LA : Option Addr) (lc frm tu : Nat) (up : Int) (dg : Bool) (w : World), q.length ≤ 400000 → frm ≤ tu → tu ≤ q.length → l.length ≤ 64 → -1 ≤ up → up < (l.length : Int) → KidsOk (l.map (·.1)) →
 Own w 69 9 LA l.length lc (PP l) → OwnPs w l →
 Calls Tryz.prog 70 #[.slice LA l.length lc, encStr q, .int .i64 ((frm : Nat) : Int), .int .i64 ((tu : Nat) : Int), .int .i64 up, .int .i64 ((nest : Nat) : Int), .bool dg] w fun e w' =>
  ∃ (l2 : List Pc) (LA2 : Option Addr) (lc2 : Nat), e = .returned (.slice LA2 l2.length lc2) ∧ l2.map (·.1) = fndQ q n (l.map (·.1)) frm tu up dg ∧ Own w' 69 9 LA2 l2.length lc2 (PP l2) ∧ OwnPs w' l2 ∧ Frm (ob LA) w w' ∧ ∀ x ∈ ob LA2, x ∈ ob LA ∨ w.heap.size ≤ x
set_option maxRecDepth 100000 in
set_option maxHeartbeats 6400000 in
theorem rparts_step (n : Nat) (ih : ∀ m, m < n → RFindAt m) : RFindAt n := by
 intro nest hnn q l LA lc frm tu up dg w hq hft htl hl64 hup1 hup2 hkid hO hPs
 have hml : (l.map (·.1)).length = l.length := by simp
 have hmok := mediaQ_ok (sliceQ q frm tu) dg
 have hlO := hO.lt
 refine VC.calls (nt := 148) (res := #[.tmp 14]) Tryz.func70 rfl Tryz.ntmps70 Tryz.results70 rfl ?_
 refine js (jr (ja ?_))
 refine jo (jn (jv7 0 1 2 3 4 5 6 ?_))
 refine js (js (jr (jm ?_)))
 refine Ops.r (Run.lenS rfl Tryz.underlying60) rfl ?_
 refine Ops.r (Run.bin rfl rfl (Bin.geqN _ 64)) rfl ?_
 refine jo (jn (jv8 0 1 2 3 4 5 6 26 ?_))
 refine VC.condD rfl (fun hc1 => ?_) (fun hc1 => ?_)
 ·
  have hl : l.length = 64 := by omega
  have hfull := fnd_full (s := q) (n := n) (frm := frm) (tu := tu) (up := up) (dg := dg) (l := l.map (·.1)) (by rw [hml]; exact hl)
  refine js (jr (jm ?_))
  refine ja ?_
  refine jo (jn (jv1 14 ?_))
  refine jt ?_
  refine thenQ_r (end1 rfl ?_)
  exact ⟨l, LA, lc, rfl, hfull.symm, hO, hPs, Frm.refl _ _, fun x hx => .inl hx⟩
 ·
  have hl63 : l.length ≤ 63 := by omega
  have hml64 : (l.map (·.1)).length ≠ 64 := by rw [hml]; omega
  have hsl := sliceQ_ln (q := q) (a := frm) htl
  have hspl := splitQ_le (sliceQ q frm tu)
  have hkl := kid1_len (l.map (·.1) ++ [newP q frm tu up dg]) up
  refine jk (jn (jv7 0 1 2 3 4 5 6 ?_))
  refine js (jr (jm ?_))
  refine jm ?_
  refine jm ?_
  refine Ops.r (Run.sliceT frm tu rfl Tryz.underlying9 (evB.some_ rfl) (evB.some_ rfl) hft htl) rfl ?_
  rw [show (q.drop frm).take (tu - frm) = sliceQ q frm tu from rfl]
  refine ja ?_
  refine jo (jn (jv8 0 1 2 3 4 5 6 15 ?_))
  refine js (jr (jm ?_))
  refine jm ?_
  refine jm ?_
  refine Ops.cl (Enters.fn (evs.cons rfl evs.nil) Tryz.call107) ((rsplit_spec (sliceQ q frm tu) _ (by omega))) rfl ?_
  rintro e w1 ⟨rfl, K⟩
  refine ⟨_, rfl, ?_⟩
  have hO := hO.frm K (by simp)
  have hPs := hPs.frm0 K
  obtain ⟨p, hp⟩ : ∃ p, newP q frm tu up dg = p := ⟨_, rfl⟩
  have hpm : mediaQ (sliceQ q frm tu) dg = p.m := by rw [← hp]; rfl
  have hpb : frm + splitQ (sliceQ q frm tu) = p.body := by rw [← hp]; rfl
  have hpbt : p.body ≤ tu := by omega
  have hpc : ∀ MA mc, (PP1 (p, MA, mc)) = [.int .i64 ((0 : Nat) : Int), .int .i64 ((frm : Nat) : Int), .int .i64 ((p.body : Nat) : Int), .int .i64 ((tu : Nat) : Int), encStr p.m.ty, encStr p.m.sub, .slice MA p.m.ps.length mc, .int .i64 up, .int .i64 ((0 : Nat) : Int)] := fun MA mc => by rw [← hp]; rfl
  rw [hp] at hkl
  rw [hpm] at hmok
  have hkid1 : KidsOk (kid1 (l.map (·.1) ++ [p]) up) := kid1_kids hkid (by rw [← hp]; rfl)
  have hpk : p.kids = 0 := by rw [← hp]; rfl
  have hO0 := hO
  refine Ops.r (Run.bin rfl rfl (Bin.add_i64 frm (splitQ (sliceQ q frm tu)) (by omega))) rfl ?_
  rw [hpb]
  refine jm ?_
  refine jm ?_
  refine Ops.r (Run.build (evs.cons rfl (evs.cons rfl (evs.cons rfl (evs.cons rfl evs.nil)))) zero69 (places69).choose_spec.1 (places69).choose_spec.2 (cells := #[.int .i64 ((0 : Nat) : Int), .int .i64 ((frm : Nat) : Int), .int .i64 ((p.body : Nat) : Int), .int .i64 ((tu : Nat) : Int), .string ⟨#[]⟩, .string ⟨#[]⟩, .slice none 0 0, .int .i64 up, .int .i64 ((0 : Nat) : Int)]) (fillP2 _ _ _ _ _)) rfl ?_
  refine Ops.m (Does.alloc zero69) rfl ?_
  rintro _ w3 ⟨rfl, hF3⟩
  have hbp := hF3.blk
  have sK := K.size
  have hgO : ∀ y ∈ ob LA, y < w1.heap.size := fun y hy => hO0.lt y hy
  have hgP : ∀ x ∈ l, ∀ y ∈ ob x.2.1, y < w1.heap.size := fun x hx y hy => (hPs x hx).lt y hy
  have hO := hO.frm hF3.frm (by simp)
  have hPs := hPs.frm0 hF3.frm
  have K := K.trans hF3.frm (by simp)
  generalize hgp : w1.heap.size = gp at hbp sK hgO hgP ⊢
  refine Ops.st (Acts.storeA rfl rfl Tryz.sizeOf69 hbp rfl (by intro v hv; simp only [List.mem_cons, List.not_mem_nil, or_false] at hv; rcases hv with rfl | rfl | rfl | rfl | rfl | rfl | rfl | rfl | rfl <;> rfl)) ?_
  rintro w4 ⟨hbpn, f4, _⟩
  have hbp : Blk w4 gp 69 #[.int .i64 ((0 : Nat) : Int), .int .i64 ((frm : Nat) : Int), .int .i64 ((p.body : Nat) : Int), .int .i64 ((tu : Nat) : Int), .string ⟨#[]⟩, .string ⟨#[]⟩, .slice none 0 0, .int .i64 up, .int .i64 ((0 : Nat) : Int)] := hbpn
  have hO := hO.frm f4 (fun y hy h => by have := hgO y hy; simp at h; omega)
  have hPs : OwnPs w4 l := fun x hx => (hPs x hx).frm f4 (fun y hy h => by have := hgP x hx y hy; simp at h; omega)
  have K := Frm.own K f4 (fun y hy => by simp at hy; omega)
  refine jo (jn (jv8 0 1 3 4 5 6 15 16 ?_))
  refine js (jr (jm ?_))
  refine Ops.cl (Enters.fn (evs.cons rfl (evs.cons rfl evs.nil)) Tryz.call62) ((rfind17_spec (sliceQ q frm tu) ctype _ (by omega) (by decide))) rfl ?_
  rintro e w5 ⟨rfl, f5⟩
  refine ⟨_, rfl, ?_⟩
  have hfl := findH_len (sliceQ q frm tu) ctype
  have hO := hO.frm f5 (by simp)
  have hPs := hPs.frm0 f5
  have hbp := hbp.frm f5 (by simp)
  have K := K.trans f5 (by simp)
  have hmed : mediaQ (sliceQ q frm tu) dg = if (findH (sliceQ q frm tu) ctype).2 = false ∧ dg = true then ⟨msgT, rfcT, []⟩ else medQ (findH (sliceQ q frm tu) ctype).1 := rfl
  rw [hpm] at hmed
  generalize findH (sliceQ q frm tu) ctype = fh at *
  obtain ⟨ft, fi⟩ := fh
  dsimp only at hfl hmed ⊢
  refine jm ?_
  refine Ops.r (Run.extract rfl rfl) rfl ?_
  refine Ops.r (Run.extract rfl rfl) rfl ?_
  refine ja ?_
  refine ja ?_
  refine jo (jn (jv9 0 1 3 4 5 6 16 17 18 ?_))
  refine js (jr (jm ?_))
  refine Ops.cl (Enters.fn (evs.cons rfl evs.nil) Tryz.call108) ((rread_spec ft _ (by omega))) rfl ?_
  rintro e w6 ⟨f6, MA, mc, rfl, hMO, hMub⟩
  refine ⟨_, rfl, ?_⟩
  have hgM : ∀ y ∈ ob MA, gp < y := fun y hy => by have := hMub y hy; have := hbp.lt; omega
  have hO := hO.frm f6 (by simp)
  have hPs := hPs.frm0 f6
  have hbp := hbp.frm f6 (by simp)
  have K := K.trans f6 (by simp)
  refine Ops.r (Run.fieldAddr rfl Tryz.underlying69 rfl Tryz.sizeOf67 (by decide)) rfl ?_
  refine Ops.st (Acts.storeAt (i := 4) (vs := MdC (medQ ft) MA mc) rfl rfl Tryz.sizeOf67 hbp (by show 7 ≤ 9; omega) (by intro v hv; simp only [MdC, List.mem_cons, List.not_mem_nil, or_false] at hv; rcases hv with rfl | rfl | rfl <;> rfl)) ?_
  rintro w7 ⟨hbpn, fw7, _⟩
  have hbp : Blk w7 gp 69 #[.int .i64 ((0 : Nat) : Int), .int .i64 ((frm : Nat) : Int), .int .i64 ((p.body : Nat) : Int), .int .i64 ((tu : Nat) : Int), encStr (medQ ft).ty, encStr (medQ ft).sub, .slice MA (medQ ft).ps.length mc, .int .i64 up, .int .i64 ((0 : Nat) : Int)] := hbpn
  have hO := hO.frm fw7 (fun y hy h => by have := hgO y hy; simp at h; omega)
  have hPs : OwnPs w7 l := fun x hx => (hPs x hx).frm fw7 (fun y hy h => by have := hgP x hx y hy; simp at h; omega)
  have hMO := hMO.frm fw7 (fun y hy h => by have := hgM y hy; simp at h; omega)
  have K := Frm.own K fw7 (fun y hy => by simp at hy; omega)
  refine jo (jn (jv8 0 1 3 4 5 6 16 18 ?_))
  refine js (js ?_)
  refine VC.split1 [(0, _), (1, _), (3, _), (4, _), (5, _), (16, _)] (js6 rfl rfl rfl rfl rfl rfl) 52 (.bool (decide (fi = false ∧ dg = true))) ?_ ?_
  ·
   refine jr ?_
   refine jm ?_
   refine Ops.r (Run.not rfl) rfl ?_
   rw [show (!fi) = decide (fi = false) by cases fi <;> rfl]
   by_cases hs49 : fi = false
   ·
    refine jm ?_
    refine jg ?_
    by_cases hs51 : dg = true
    ·
     refine Ops.r (Run.pickT rfl rfl au) rfl ?_
     refine jo ?_
     refine jn ⟨(js7 (jc (by simp [*])) rfl rfl rfl rfl rfl rfl), rfl⟩
    ·
     refine Ops.r (Run.pickT rfl rfl au) rfl ?_
     refine jo ?_
     refine jn ⟨(js7 (jc (by simp [*])) rfl rfl rfl rfl rfl rfl), rfl⟩
   ·
    refine jm ?_
    refine ju ?_
    refine Ops.r (Run.pickF rfl rfl au) rfl ?_
    refine jo ?_
    refine jn ⟨(js7 (jc (by simp [*])) rfl rfl rfl rfl rfl rfl), rfl⟩
  ·
   intro Γ hΓ
   refine jn (VC.sub _ hΓ ?_)
   refine VC.meet (σ := Option Addr × Nat) (fun s => [(0, .slice LA l.length lc), (1, encStr q), (3, .int .i64 ((tu : Nat) : Int)), (4, .int .i64 up), (5, .int .i64 ((nest : Nat) : Int)), (16, .pointer (some ⟨gp, 0, none⟩))]) (fun s wr => Blk wr gp 69 (PP1 (p, s.1, s.2)).toArray ∧ Own wr 69 9 LA l.length lc (PP l) ∧ OwnPs wr l ∧ Own wr 102 2 s.1 p.m.ps.length s.2 (PC p.m.ps) ∧ Frm [] w wr ∧ ∀ y ∈ ob s.1, gp < y) ?_ ?_
   ·
    refine VC.condD rfl (fun hc2 => ?_) (fun hc2 => ?_)
    ·
     rw [if_pos hc2] at hmed
     refine jr ?_
     refine Ops.r (Run.build (evs.cons rfl (evs.cons rfl evs.nil)) zero67 (places67).choose_spec.1 (places67).choose_spec.2 (cells := MdC ⟨msgT, rfcT, []⟩ none 0) rfl) rfl ?_
     refine Ops.r (Run.fieldAddr rfl Tryz.underlying69 rfl Tryz.sizeOf67 (by decide)) rfl ?_
     refine Ops.st (Acts.storeAt (i := 4) (vs := MdC (⟨msgT, rfcT, []⟩ : Med) none 0) rfl rfl Tryz.sizeOf67 hbp (by show 7 ≤ 9; omega) (by intro v hv; simp only [MdC, List.mem_cons, List.not_mem_nil, or_false] at hv; rcases hv with rfl | rfl | rfl <;> rfl)) ?_
     rintro w9 ⟨hbpn, fw9, _⟩
     have hbp : Blk w9 gp 69 #[.int .i64 ((0 : Nat) : Int), .int .i64 ((frm : Nat) : Int), .int .i64 ((p.body : Nat) : Int), .int .i64 ((tu : Nat) : Int), encStr (⟨msgT, rfcT, []⟩ : Med).ty, encStr (⟨msgT, rfcT, []⟩ : Med).sub, .slice none (⟨msgT, rfcT, []⟩ : Med).ps.length 0, .int .i64 up, .int .i64 ((0 : Nat) : Int)] := hbpn
     have hO := hO.frm fw9 (fun y hy h => by have := hgO y hy; simp at h; omega)
     have hPs : OwnPs w9 l := fun x hx => (hPs x hx).frm fw9 (fun y hy h => by have := hgP x hx y hy; simp at h; omega)
     have hMO := hMO.frm fw9 (fun y hy h => by have := hgM y hy; simp at h; omega)
     have K := Frm.own K fw9 (fun y hy => by simp at hy; omega)
     refine jo ?_
     refine jn ⟨(none, 0), (js6 rfl rfl rfl rfl rfl rfl), ?_⟩
     refine ⟨?_, hO, hPs, ?_, K, by simp [ob]⟩
     ·
      rw [hpc, hmed]; exact hbp
     ·
      rw [hmed]; exact Own.nil _ _ _
    ·
     rw [if_neg hc2] at hmed
     refine jk ?_
     refine jn ⟨(MA, mc), (js6 rfl rfl rfl rfl rfl rfl), ?_⟩
     refine ⟨?_, hO, hPs, ?_, K, hgM⟩
     ·
      rw [hpc, hmed]; exact hbp
     ·
      rw [hmed]; exact hMO
   ·
    rintro ⟨MA, mc⟩ w8 ⟨hbp, hO, hPs, hMO, K, hgM⟩ Γ hΓ
    dsimp only at hbp hMO hgM
    refine jn (VC.sub _ hΓ ?_)
    refine js (jr (jm ?_))
    refine Ops.r (Run.lenS rfl Tryz.underlying60) rfl ?_
    refine ja ?_
    refine jo (jn (jv7 0 1 3 4 5 16 19 ?_))
    refine js (jr (jm ?_))
    refine Ops.r (Run.loadA rfl Tryz.isAgg69 Tryz.sizeOf69 (fun j v hj => hbp.cells j v hj) (by first | rfl | (simp; done))) rfl ?_
    refine Ops.m (Does.buildS1 rfl Tryz.underlying60 Tryz.sizeOf69 zero69 (by decide) (by decide) rfl rfl) rfl ?_
    rintro _ w10 ⟨rfl, hF10⟩
    have hrdp := hrdQ (x := (p, MA, mc)) hF10
    have hO := hO.frm hF10.frm (by simp)
    have hPs := hPs.frm0 hF10.frm
    have hMO := hMO.frm hF10.frm (by simp)
    have hbp := hbp.frm hF10.frm (by simp)
    have K := K.trans hF10.frm (by simp)
    refine Ops.m (Does.app rfl rfl Tryz.underlying60 (info69) rfl (by decide) hO hrdp (PP_one _) (by omega) (by omega)) rfl ?_
    rintro _ w11 ⟨LA6, lc6, rfl, hO6, f11, hob6⟩
    rw [← PP_append] at hO6
    have sK10 := K.size
    have hbpl := hbp.lt
    have hbp := hbp.frm f11 (fun h => by have := hgO _ h; omega)
    have hPs := hPs.own f11 hO (by decide)
    have hMO := hMO.own' f11 hO (by decide)
    have K := (K.mono (T := ob LA) (by simp)).trans f11 (fun y hy => .inl hy)
    obtain ⟨L, hL⟩ : ∃ L : List Pc, l ++ [((p, MA, mc) : Pc)] = L := ⟨_, rfl⟩
    have hl1 : L.length = l.length + 1 := by rw [← hL]; simp
    have hO : Own w11 69 9 LA6 L.length lc6 (PP L) := by rw [hl1, ← hL]; exact hO6
    have hPs2 : OwnPs w11 L := by
     intro x hx
     rw [← hL] at hx
     rcases List.mem_append.1 hx with hx | hx
     ·
      exact hPs x hx
     ·
      simp only [List.mem_singleton] at hx
      subst hx
      exact hMO
    have hgp6 : gp ∉ ob LA6 := fun hm => by
     rcases hob6 with h | h
     ·
      rw [h] at hm; have := hgO _ hm; omega
     ·
      rw [h] at hm; simp only [List.mem_singleton] at hm; omega
    have hub6 : ∀ x ∈ ob LA6, x ∈ ob LA ∨ w.heap.size ≤ x := fun x hx => by
     rcases hob6 with h | h
     ·
      rw [h] at hx; exact .inl hx
     ·
      rw [h] at hx; simp only [List.mem_singleton] at hx; exact .inr (by omega)
    have hm1 : L.map (·.1) = l.map (·.1) ++ [p] := by rw [← hL]; simp
    have hkL : ∀ (i : Nat) (hi : i < L.length), L[i].1.kids ≤ 64 := by
     intro i hi
     have hm : L[i].1 ∈ l.map (·.1) ++ [p] := by rw [← hm1]; exact List.mem_map_of_mem (List.getElem_mem hi)
     rcases List.mem_append.1 hm with hm | hm
     ·
      obtain ⟨j, hj⟩ := List.getElem?_of_mem hm
      have := hkid j _ hj
      omega
     ·
      simp only [List.mem_singleton] at hm
      rw [hm]
      omega
    clear hPs hO6
    rw [show Value.slice LA6 (l.length + 1) lc6 = Value.slice LA6 L.length lc6 by rw [hl1]]
    refine ja ?_
    refine jo (jn (jv7 0 1 3 4 5 16 19 ?_))
    refine js (js (jr (jm ?_)))
    refine Ops.r (Run.bin rfl rfl (Bin.geq _ 0)) rfl ?_
    refine jo (jn (jv8 0 1 3 4 5 16 19 62 ?_))
    refine VC.meet (σ := List Pc) (fun s => [(0, .slice LA6 s.length lc6), (1, encStr q), (3, .int .i64 ((tu : Nat) : Int)), (5, .int .i64 ((nest : Nat) : Int)), (16, .pointer (some ⟨gp, 0, none⟩)), (19, .int .i64 ((l.length : Nat) : Int))]) (fun s wr => s.map (·.1) = kid1 (l.map (·.1) ++ [p]) up ∧ Own wr 69 9 LA6 s.length lc6 (PP s) ∧ OwnPs wr s ∧ Blk wr gp 69 (PP1 (p, MA, mc)).toArray ∧ Own wr 102 2 MA p.m.ps.length mc (PC p.m.ps) ∧ Frm (ob LA) w wr) ?_ ?_
    ·
     refine VC.condD rfl (fun hc3 => ?_) (fun hc3 => ?_)
     ·
      obtain ⟨u, hu⟩ : ∃ u : Nat, up = (u : Int) := ⟨up.toNat, by omega⟩
      have hul : u < L.length := by omega
      rw [hu]
      obtain ⟨ad6, rfl, hcell⟩ := PP_at hO.rd hul
      have hku := hkL u hul
      have hset := PP_set L u 8 hul (by omega) (.int .i64 ((L[u].1.kids + 1 : Nat) : Int)) ({ L[u].1 with kids := L[u].1.kids + 1 }, L[u].2) rfl
      refine jr (jm ?_)
      refine jm ?_
      refine Ops.r (Run.indexS u rfl rfl Tryz.underlying60 Tryz.sizeOf69 hul) rfl ?_
      refine Ops.r (Run.fieldAddr rfl Tryz.underlying69 rfl Tryz.sizeOf3 (by decide)) rfl ?_
      refine Ops.r (Run.load rfl Tryz.isAgg3 (hcell 8 (.int .i64 ((L[u].1.kids : Nat) : Int)) rfl)) rfl ?_
      refine Ops.r (Run.bin rfl rfl (Bin.add_i64 L[u].1.kids 1 (by omega))) rfl ?_
      refine Ops.r (Run.indexS u rfl rfl Tryz.underlying60 Tryz.sizeOf69 hul) rfl ?_
      refine Ops.r (Run.fieldAddr rfl Tryz.underlying69 rfl Tryz.sizeOf3 (by decide)) rfl ?_
      refine Ops.st (Acts.storeOwn (u * 9 + 8) (congrArg (fun a => some (Value.pointer (some a))) (add_add ad6 _ 8)) rfl Tryz.sizeOf3 hO rfl (by omega) rfl) ?_
      rintro w12 ⟨hO8, hf8, _⟩
      rw [hset] at hO8
      refine jo ?_
      refine jn ⟨(L.set u ({ L[u].1 with kids := L[u].1.kids + 1 }, L[u].2)), (js6 (by rw [List.length_set]; rfl) rfl rfl rfl rfl rfl), ?_⟩
      refine ⟨by rw [kid1_map, hm1], by rw [List.length_set]; exact hO8, ?_, hbp.frm hf8 hgp6, hMO.own' hf8 hO (by decide), K.trans hf8 (fun y hy => by rcases hub6 y hy with h | h; exact .inl h; exact .inr h)⟩
      exact OwnPs.set (hPs2.own hf8 hO (by decide)) hul rfl rfl
     ·
      refine jk ?_
      refine jn ⟨L, (js6 rfl rfl rfl rfl rfl rfl), ?_⟩
      refine ⟨?_, hO, hPs2, hbp, hMO, K⟩
      rw [hm1]
      unfold kid1
      rw [if_neg hc3]
    ·
     rintro l1 w12 ⟨hm1, hO, hPs, hbp, hMO, K⟩ Γ hΓ
     have hl1 : l1.length = l.length + 1 := by
      have := congrArg List.length hm1
      rw [List.length_map, hkl] at this
      simpa using this
     have hl1i : l.length < l1.length := by omega
     have hk1 : KidsOk (l1.map (·.1)) := by rw [hm1]; exact hkid1
     refine jn (VC.sub _ hΓ ?_)
     refine js (js (jr (jm ?_)))
     refine Ops.r (Run.bin rfl rfl (Bin.gtrN _ 5)) rfl ?_
     refine jo (jn (jv7 0 1 3 5 16 19 72 ?_))
     refine VC.condD rfl (fun hc4 => ?_) (fun hc4 => ?_)
     ·
      have hn0 : n = 0 := by omega
      subst hn0
      have hz := fnd_zero (s := q) (frm := frm) (tu := tu) (up := up) (dg := dg) hml64
      rw [hp, ← hm1] at hz
      refine js (jr (jm ?_))
      refine ja ?_
      refine jo (jn (jv1 14 ?_))
      refine jt ?_
      refine thenQ_r (end1 rfl ?_)
      exact ⟨l1, LA6, lc6, rfl, hz.symm, hO, hPs, K, hub6⟩
     ·
      obtain ⟨n', rfl⟩ : ∃ n', n = n' + 1 := ⟨n - 1, by omega⟩
      have hnm : ¬ IsLet p.m → ¬ (p.m.ty ≠ multT ∨ (findQ p.m.ps bndT).1 = []) → fndQ q (n' + 1) (l.map (·.1)) frm tu up dg = (spansQ q (findQ p.m.ps bndT).1 p.body tu).foldl (fun acc x => fndQ q n' (setK acc l.length 1) x.1 x.2 (l.length : Int) (decide (p.m.sub = digT))) (l1.map (·.1)) := by
       intro h2 h3
       have h := fnd_mult (s := q) (n := n') (frm := frm) (tu := tu) (up := up) (dg := dg) hml64 (by rw [hp]; exact h2) (by rw [hp]; exact h3)
       rw [hp, hml, ← hm1] at h
       exact h
      have hnp : ¬ IsLet p.m → (p.m.ty ≠ multT ∨ (findQ p.m.ps bndT).1 = []) → fndQ q (n' + 1) (l.map (·.1)) frm tu up dg = l1.map (·.1) := by
       intro h2 h3
       have h := fnd_plain (s := q) (n := n') (frm := frm) (tu := tu) (up := up) (dg := dg) hml64 (by rw [hp]; exact h2) (by rw [hp]; exact h3)
       rw [hp, ← hm1] at h
       exact h
      have hnl : IsLet p.m → fndQ q (n' + 1) (l.map (·.1)) frm tu up dg = fndQ q n' (setK (l1.map (·.1)) l.length 2) p.body tu (l.length : Int) false := by
       intro h2
       have h := fnd_let (s := q) (n := n') (frm := frm) (tu := tu) (up := up) (dg := dg) hml64 (by rw [hp]; exact h2)
       rw [hp, hml, ← hm1] at h
       exact h
      refine jk (jn (jv6 0 1 3 5 16 19 ?_))
      refine js (js ?_)
      refine VC.split1 [(0, _), (1, _), (3, _), (5, _), (16, _), (19, _)] (js6 rfl rfl rfl rfl rfl rfl) 83 (.bool (decide (IsLet p.m))) ?_ ?_
      ·
       refine jr ?_
       refine Ops.r (Run.fieldAddr rfl Tryz.underlying69 rfl Tryz.sizeOf67 (by decide)) rfl ?_
       refine Ops.r (Run.fieldAddr rfl Tryz.underlying67 rfl Tryz.sizeOf9 (by decide)) rfl ?_
       refine Ops.r (Run.load rfl Tryz.isAgg9 (loadM hbp 0 _ rfl)) rfl ?_
       refine Ops.r (Run.eqlT rfl rfl) rfl ?_
       by_cases hs77 : p.m.ty = msgT
       ·
        refine jm ?_
        refine Ops.rg rfl au (Run.fieldAddr rfl Tryz.underlying69 rfl Tryz.sizeOf67 (by decide)) rfl ?_
        refine Ops.rg rfl au (Run.fieldAddr rfl Tryz.underlying67 rfl Tryz.sizeOf9 (by decide)) rfl ?_
        refine Ops.rg rfl au (Run.load rfl Tryz.isAgg9 (loadM hbp 1 _ rfl)) rfl ?_
        refine Ops.rg rfl au (Run.eqlT rfl rfl) rfl ?_
        by_cases hs82 : p.m.sub = rfcT
        ·
         refine Ops.r (Run.pickT rfl rfl au) rfl ?_
         refine jo ?_
         refine jn ⟨(js7 (jc (by first | exact (decide_eq_true hs82).trans (decide_eq_true ⟨hs77, hs82⟩).symm | exact (decide_eq_false hs82).trans (decide_eq_false (show ¬ IsLet p.m from fun h => hs82 h.2)).symm | exact (decide_eq_false (show ¬ IsLet p.m from fun h => hs77 h.1)).symm | exact (decide_eq_false hs77).trans (decide_eq_false (show ¬ IsLet p.m from fun h => hs77 h.1)).symm)) rfl rfl rfl rfl rfl rfl), rfl⟩
        ·
         refine Ops.r (Run.pickT rfl rfl au) rfl ?_
         refine jo ?_
         refine jn ⟨(js7 (jc (by first | exact (decide_eq_true hs82).trans (decide_eq_true ⟨hs77, hs82⟩).symm | exact (decide_eq_false hs82).trans (decide_eq_false (show ¬ IsLet p.m from fun h => hs82 h.2)).symm | exact (decide_eq_false (show ¬ IsLet p.m from fun h => hs77 h.1)).symm | exact (decide_eq_false hs77).trans (decide_eq_false (show ¬ IsLet p.m from fun h => hs77 h.1)).symm)) rfl rfl rfl rfl rfl rfl), rfl⟩
       ·
        refine jm ?_
        refine ju ?_
        refine ju ?_
        refine ju ?_
        refine ju ?_
        refine Ops.r (Run.pickF rfl rfl au) rfl ?_
        refine jo ?_
        refine jn ⟨(js7 (jc (by first | exact (decide_eq_true hs82).trans (decide_eq_true ⟨hs77, hs82⟩).symm | exact (decide_eq_false hs82).trans (decide_eq_false (show ¬ IsLet p.m from fun h => hs82 h.2)).symm | exact (decide_eq_false (show ¬ IsLet p.m from fun h => hs77 h.1)).symm | exact (decide_eq_false hs77).trans (decide_eq_false (show ¬ IsLet p.m from fun h => hs77 h.1)).symm)) rfl rfl rfl rfl rfl rfl), rfl⟩
      ·
       intro Γ hΓ
       refine jn (VC.sub _ hΓ ?_)
       refine VC.condD rfl (fun hc5 => ?_) (fun hc5 => ?_)
       ·
        obtain ⟨ad6, rfl, hcell⟩ := PP_at hO.rd hl1i
        have hset := PP_set l1 l.length 0 hl1i (by omega) (.int .i64 2) ({ l1[l.length].1 with kind := 2 }, l1[l.length].2) rfl
        refine js (jr (jm ?_))
        refine jm ?_
        refine Ops.r (Run.indexS l.length rfl rfl Tryz.underlying60 Tryz.sizeOf69 hl1i) rfl ?_
        refine Ops.r (Run.fieldAddr rfl Tryz.underlying69 rfl Tryz.sizeOf3 (by decide)) rfl ?_
        refine Ops.st (Acts.storeOwn (l.length * 9 + 0) (congrArg (fun a => some (Value.pointer (some a))) (add_add ad6 _ 0)) rfl Tryz.sizeOf3 hO rfl (by omega) rfl) ?_
        rintro w13 ⟨hO9, hf9, _⟩
        rw [hset] at hO9
        have hPs9 := OwnPs.set (x := ({ l1[l.length].1 with kind := 2 }, l1[l.length].2)) (hPs.own hf9 hO (by decide)) hl1i rfl rfl
        have hbp := hbp.frm hf9 hgp6
        have hm9 := setK_map l1 l.length 2 hl1i
        have K := K.trans hf9 (fun y hy => by rcases hub6 y hy with h | h; exact .inl h; exact .inr h)
        have hl2l : (l1.set l.length ({ l1[l.length].1 with kind := 2 }, l1[l.length].2)).length = l1.length := List.length_set
        obtain ⟨l2, hl2⟩ : ∃ l2 : List Pc, l1.set l.length ({ l1[l.length].1 with kind := 2 }, l1[l.length].2) = l2 := ⟨_, rfl⟩
        rw [hl2] at hO9 hPs9 hm9 hl2l
        have hk2 : KidsOk (l2.map (·.1)) := by rw [hm9]; exact setK_kids hk1
        rw [← hl2l] at hO9
        rw [show Value.slice (some ad6) l1.length lc6 = Value.slice (some ad6) l2.length lc6 by rw [hl2l]]
        refine jo (jn (jv6 0 1 3 5 16 19 ?_))
        refine js (jr (jm ?_))
        refine jm ?_
        refine Ops.r (Run.fieldAddr rfl Tryz.underlying69 rfl Tryz.sizeOf3 (by decide)) rfl ?_
        refine Ops.r (Run.load rfl Tryz.isAgg3 (hbp.cell 2)) rfl ?_
        refine jm ?_
        refine jm ?_
        refine jm ?_
        refine Ops.r (Run.bin rfl rfl (Bin.add_i64 nest 1 (by omega))) rfl ?_
        refine Ops.cl (Enters.fn (evs.cons rfl (evs.cons rfl (evs.cons rfl (evs.cons rfl (evs.cons rfl (evs.cons rfl (evs.cons rfl evs.nil))))))) Tryz.call70) ((ih n' (by omega) (nest + 1) (by omega) q l2 (some ad6) lc6 p.body tu (l.length : Int) false _ hq hpbt htl (by omega) (by omega) (by omega) hk2 hO9 hPs9)) rfl ?_
        rintro e w14 ⟨l3, LA3, lc3, rfl, hm3, hO3, hPs3, hf3, hub3⟩
        refine ⟨_, rfl, ?_⟩
        have hKs := K.size
        have K3 := K.trans hf3 (fun y hy => by rcases hub6 y hy with h | h; exact .inl h; exact .inr h)
        have hub3' : ∀ x ∈ ob LA3, x ∈ ob LA ∨ w.heap.size ≤ x := fun x hx => by
         rcases hub3 x hx with h | h
         ·
          exact hub6 x h
         ·
          exact .inr (by omega)
        refine ja ?_
        refine jo (jn (jv1 14 ?_))
        refine jt ?_
        refine thenQ_r (end1 rfl ?_)
        exact ⟨l3, LA3, lc3, rfl, by rw [hm3, hm9, hnl hc5], hO3, hPs3, K3, hub3'⟩
       ·
        refine jk (jn (jv6 0 1 3 5 16 19 ?_))
        refine js (jr ?_)
        refine Ops.r (Run.fieldAddr rfl Tryz.underlying69 rfl Tryz.sizeOf67 (by decide)) rfl ?_
        refine Ops.r (Run.loadA rfl Tryz.isAgg67 Tryz.sizeOf67 (loadM hbp) (by first | rfl | (simp; done))) rfl ?_
        refine Ops.cl (Enters.fn (evs.cons rfl (evs.cons rfl evs.nil)) Tryz.call109) ((rfind_spec p.m MA mc bndT _ hMO.rd (by omega))) rfl ?_
        rintro e w13 ⟨hf9, rfl⟩
        refine ⟨_, rfl, ?_⟩
        have hO := hO.frm hf9 (by simp)
        have hPs := hPs.frm0 hf9
        have hbp := hbp.frm hf9 (by simp)
        have K := K.trans hf9 (by simp)
        refine jm ?_
        refine Ops.r (Run.extract rfl rfl) rfl ?_
        refine Ops.r (Run.extract rfl rfl) rfl ?_
        refine ja ?_
        refine ja ?_
        refine jo (jn (jv7 0 1 3 5 16 19 20 ?_))
        refine js (js ?_)
        refine VC.split1 [(0, _), (1, _), (3, _), (5, _), (16, _), (19, _), (20, _)] (js7 rfl rfl rfl rfl rfl rfl rfl) 110 (.bool (decide (p.m.ty = multT ∧ (findQ p.m.ps bndT).1 ≠ []))) ?_ ?_
        ·
         refine jr ?_
         refine Ops.r (Run.fieldAddr rfl Tryz.underlying69 rfl Tryz.sizeOf67 (by decide)) rfl ?_
         refine Ops.r (Run.fieldAddr rfl Tryz.underlying67 rfl Tryz.sizeOf9 (by decide)) rfl ?_
         refine Ops.r (Run.load rfl Tryz.isAgg9 (loadM hbp 0 _ rfl)) rfl ?_
         refine Ops.r (Run.eqlT rfl rfl) rfl ?_
         by_cases hs106 : p.m.ty = multT
         ·
          refine jm ?_
          refine jg ?_
          refine Ops.rg rfl au (Run.neqT rfl rfl) rfl ?_
          by_cases hs109 : (findQ p.m.ps bndT).1 ≠ []
          ·
           refine Ops.r (Run.pickT rfl rfl au) rfl ?_
           refine jo ?_
           refine jn ⟨(js8 (jc (by first | (simp [hs106, hs109]; done) | (simp [hs106]; done))) rfl rfl rfl rfl rfl rfl rfl), rfl⟩
          ·
           refine Ops.r (Run.pickT rfl rfl au) rfl ?_
           refine jo ?_
           refine jn ⟨(js8 (jc (by first | (simp [hs106, hs109]; done) | (simp [hs106]; done))) rfl rfl rfl rfl rfl rfl rfl), rfl⟩
         ·
          refine jm ?_
          refine ju ?_
          refine ju ?_
          refine Ops.r (Run.pickF rfl rfl au) rfl ?_
          refine jo ?_
          refine jn ⟨(js8 (jc (by first | (simp [hs106, hs109]; done) | (simp [hs106]; done))) rfl rfl rfl rfl rfl rfl rfl), rfl⟩
        ·
         intro Γ hΓ
         refine jn (VC.sub _ hΓ ?_)
         refine VC.meet (σ := List Pc × Option Addr × Nat) (fun s => [(0, .slice s.2.1 s.1.length s.2.2)]) (fun s wr => s.1.map (·.1) = fndQ q (n' + 1) (l.map (·.1)) frm tu up dg ∧ Own wr 69 9 s.2.1 s.1.length s.2.2 (PP s.1) ∧ OwnPs wr s.1 ∧ Frm (ob LA) w wr ∧ ∀ x ∈ ob s.2.1, x ∈ ob LA ∨ w.heap.size ≤ x) ?_ ?_
         ·
          refine VC.condD rfl (fun hc6 => ?_) (fun hc6 => ?_)
          ·
           refine js (jr (jm ?_))
           refine Ops.r (Run.fieldAddr rfl Tryz.underlying69 rfl Tryz.sizeOf3 (by decide)) rfl ?_
           refine Ops.r (Run.load rfl Tryz.isAgg3 (hbp.cell 2)) rfl ?_
           refine jm ?_
           refine jm ?_
           refine Ops.cl (Enters.fn (evs.cons rfl (evs.cons rfl (evs.cons rfl (evs.cons rfl evs.nil)))) Tryz.call110) ((rspans_spec q (findQ p.m.ps bndT).1 p.body tu _ (by omega) (by omega) hpbt htl)) rfl ?_
           rintro e w14 ⟨hf10, SA, sc, rfl, hSO, hSub⟩
           refine ⟨_, rfl, ?_⟩
           have hO := hO.frm hf10 (by simp)
           have hPs := hPs.frm0 hf10
           have hbp := hbp.frm hf10 (by simp)
           have K := K.trans hf10 (by simp)
           have hspo := spansQ_ok (s := q) (bd := (findQ p.m.ps bndT).1) hpbt htl
           have hspc := spansQ_count q (findQ p.m.ps bndT).1 p.body tu
           have hnm := hnm hc5 (fun h => h.elim (fun g => g hc6.1) (fun g => hc6.2 g))
           generalize spansQ q (findQ p.m.ps bndT).1 p.body tu = sp at *
           refine ja ?_
           refine jo (jn (jv6 0 1 5 16 19 22 ?_))
           refine js (jr ?_)
           refine Ops.r (v := .int .i64 ((0 : Nat) : Int)) (Run.asg rfl) rfl ?_
           refine jo (jn (jb ?_))
           refine VC.loop (σ := Nat × List Pc × Option Addr × Nat) (fun s => [(0, .slice s.2.2.1 s.2.1.length s.2.2.2), (1, encStr q), (5, .int .i64 ((nest : Nat) : Int)), (16, .pointer (some ⟨gp, 0, none⟩)), (19, .int .i64 ((l.length : Nat) : Int)), (22, .slice SA sp.length sc), (23, .int .i64 ((s.1 : Nat) : Int))]) (fun s wr => s.1 ≤ sp.length ∧ s.2.1.map (·.1) = (sp.take s.1).foldl (fun acc x => fndQ q n' (setK acc l.length 1) x.1 x.2 (l.length : Int) (decide (p.m.sub = digT))) (l1.map (·.1)) ∧ l.length < s.2.1.length ∧ s.2.1.length ≤ 64 ∧ KidsOk (s.2.1.map (·.1)) ∧ Own wr 69 9 s.2.2.1 s.2.1.length s.2.2.2 (PP s.2.1) ∧ OwnPs wr s.2.1 ∧ Blk wr gp 69 (PP1 (p, MA, mc)).toArray ∧ Own wr 141 2 SA sp.length sc (PN sp) ∧ Frm (ob LA) w wr ∧ (∀ x ∈ ob s.2.2.1, x ∈ ob LA ∨ w.heap.size ≤ x) ∧ gp ∉ ob s.2.2.1) (fun s => sp.length - s.1) (0, l1, LA6, lc6) (js7 rfl rfl rfl rfl rfl rfl rfl) ⟨by omega, rfl, hl1i, by show l1.length ≤ 64; omega, hk1, hO, hPs, hbp, hSO, K, hub6, hgp6⟩ ?_
           rintro ⟨j, l2, LA2, lc2⟩ wr ⟨hj, hm2, hl2a, hl2b, hk2, hO, hPs, hbp, hSO, K, hub2, hgp2⟩
           dsimp only at hj hm2 hl2a hl2b hk2 hO hPs hbp hSO K hub2 hgp2 ⊢
           refine js (js (jr (jm ?_)))
           refine jm ?_
           refine Ops.r (Run.lenS rfl Tryz.underlying138) rfl ?_
           refine Ops.r (Run.bin rfl rfl (Bin.lssN _ _)) rfl ?_
           refine jo (jn (jv8 0 1 5 16 19 22 23 120 ?_))
           refine VC.condD rfl (fun hc7 => ?_) (fun hc7 => ?_)
           ·
            obtain ⟨adS, hSe, hcS⟩ := PN_at hSO.rd hc7
            have hfs := foldl_snoc' (fun acc x => fndQ q n' (setK acc l.length 1) x.1 x.2 (l.length : Int) (decide (p.m.sub = digT))) (l1.map (·.1)) sp j hc7
            rw [← hm2] at hfs
            have hxo := hspo sp[j] (List.getElem_mem hc7)
            have hcSw : ∀ W, Rd W 2 SA sp.length (PN sp) → ∀ k v, (PN1 sp[j])[k]? = some v → W.cell? ((adS.add (j * 2)).add k) = some v := fun W hW => by
             obtain ⟨ad2, h2, hc2_⟩ := PN_at hW hc7
             cases hSe.symm.trans h2
             exact hc2_
            generalize hx : sp[j] = x at *
            obtain ⟨ad2, rfl, hcell⟩ := PP_at hO.rd hl2a
            have hset := PP_set l2 l.length 0 hl2a (by omega) (.int .i64 1) ({ l2[l.length].1 with kind := 1 }, l2[l.length].2) rfl
            refine jk (jn (jv7 0 1 5 16 19 22 23 ?_))
            refine js (jb (js (jr (jm ?_))))
            refine jm ?_
            refine Ops.r (Run.indexS l.length rfl rfl Tryz.underlying60 Tryz.sizeOf69 hl2a) rfl ?_
            refine Ops.r (Run.fieldAddr rfl Tryz.underlying69 rfl Tryz.sizeOf3 (by decide)) rfl ?_
            refine Ops.st (Acts.storeOwn (l.length * 9 + 0) (congrArg (fun a => some (Value.pointer (some a))) (add_add ad2 _ 0)) rfl Tryz.sizeOf3 hO rfl (by omega) rfl) ?_
            rintro V3 ⟨hO3, hf3, _⟩
            rw [hset] at hO3
            have hPs3 := OwnPs.set (x := ({ l2[l.length].1 with kind := 1 }, l2[l.length].2)) (hPs.own hf3 hO (by decide)) hl2a rfl rfl
            have hbp := hbp.frm hf3 hgp2
            have hSO := hSO.own' hf3 hO (by decide)
            have hm9 := setK_map l2 l.length 1 hl2a
            have K := K.trans hf3 (fun y hy => hub2 y hy)
            have hl2l : (l2.set l.length ({ l2[l.length].1 with kind := 1 }, l2[l.length].2)).length = l2.length := List.length_set
            obtain ⟨l4, hl4⟩ : ∃ l4 : List Pc, l2.set l.length ({ l2[l.length].1 with kind := 1 }, l2[l.length].2) = l4 := ⟨_, rfl⟩
            rw [hl4] at hO3 hPs3 hm9 hl2l
            have hk4 : KidsOk (l4.map (·.1)) := by rw [hm9]; exact setK_kids hk2
            rw [← hl2l] at hO3
            rw [show Value.slice (some ad2) l2.length lc2 = Value.slice (some ad2) l4.length lc2 by rw [hl2l]]
            refine jo (jn (jv7 0 1 5 16 19 22 23 ?_))
            refine VC.held (fun W => Frm (ob (some ad2)) V3 W) jK ?_
            have hS : Frm (ob (some ad2)) V3 V3.drew := (Frm.refl _ _).drew
            refine jh 0 rfl hS (fun w0 hw0 => Run.mv rfl) ?_
            refine jh 1 rfl hS (fun w0 hw0 => Run.mv rfl) ?_
            refine jh 2 rfl hS (fun w0 hw0 => Run.mv rfl) ?_
            refine jh 3 rfl hS (fun w0 hw0 => Run.mv rfl) ?_
            refine jh 4 rfl hS (fun w0 hw0 => Run.indexS j (by rw [← hSe]; rfl) rfl Tryz.underlying138 Tryz.sizeOf141 hc7) ?_
            refine jh 5 rfl hS (fun w0 hw0 => Run.fieldAddr rfl Tryz.underlying141 rfl Tryz.sizeOf3 (by decide)) ?_
            refine jh 6 rfl hS (fun w0 hw0 => Run.load rfl Tryz.isAgg3 (hcSw _ (hSO.rd.frm hw0 (fun _ y hy h => hSO.ne_own hO3 (by decide) y hy h)) 0 _ rfl)) ?_
            refine jh 7 rfl hS (fun w0 hw0 => Run.mv rfl) ?_
            refine jh 8 rfl hS (fun w0 hw0 => Run.mv rfl) ?_
            refine jh 9 rfl hS (fun w0 hw0 => Run.indexS j (by rw [← hSe]; rfl) rfl Tryz.underlying138 Tryz.sizeOf141 hc7) ?_
            refine jh 10 rfl hS (fun w0 hw0 => Run.fieldAddr rfl Tryz.underlying141 rfl Tryz.sizeOf3 (by decide)) ?_
            refine jh 11 rfl hS (fun w0 hw0 => Run.load rfl Tryz.isAgg3 (hcSw _ (hSO.rd.frm hw0 (fun _ y hy h => hSO.ne_own hO3 (by decide) y hy h)) 1 _ rfl)) ?_
            refine jh 12 rfl hS (fun w0 hw0 => Run.mv rfl) ?_
            refine jh 13 rfl hS (fun w0 hw0 => Run.mv rfl) ?_
            refine jh 14 rfl hS (fun w0 hw0 => Run.bin rfl rfl (Bin.add_i64 nest 1 (by omega))) ?_
            refine jh 15 rfl hS (fun w0 hw0 => Run.fieldAddr rfl Tryz.underlying69 rfl Tryz.sizeOf67 (by decide)) ?_
            refine jh 16 rfl hS (fun w0 hw0 => Run.fieldAddr rfl Tryz.underlying67 rfl Tryz.sizeOf9 (by decide)) ?_
            refine jh 17 rfl hS (fun w0 hw0 => Run.load rfl Tryz.isAgg9 (loadM (hbp.frm hw0 hgp2) 1 _ rfl)) ?_
            refine jh 18 rfl hS (fun w0 hw0 => Run.eqlT rfl rfl) ?_
            refine HOps.cl 19 rfl jK (Enters.fn (evs.cons rfl (evs.cons rfl (evs.cons rfl (evs.cons rfl (evs.cons rfl (evs.cons rfl (evs.cons rfl evs.nil))))))) Tryz.call70) ((ih n' (by omega) (nest + 1) (by omega) q l4 (some ad2) lc2 x.1 x.2 (l.length : Int) (decide (p.m.sub = digT)) _ hq (by omega) (by omega) (by omega) (by omega) (by omega) hk4 (hO3.drawn (Drawn.drew _)) (hPs3.frm0 (Drawn.drew _).frm))) trivial rfl rfl ?_
            rintro e V6 ⟨l5, LA5, lc5, rfl, hm5, hO5, hPs5, hf5, hub5⟩
            have hl5 := fnd_len q n' (l4.map (·.1)) x.1 x.2 (l.length : Int) (decide (p.m.sub = digT)) (by simp; omega)
            have hk5 := fnd_kids q n' (l4.map (·.1)) x.1 x.2 (l.length : Int) (decide (p.m.sub = digT)) hk4
            rw [← hm5] at hl5 hk5
            simp only [List.length_map] at hl5
            have sKr := K.size
            have hbpl := hbp.lt
            have hSl := hSO.lt
            have hbp := (hbp.drawn (Drawn.drew _)).frm hf5 hgp2
            have hSO := (hSO.drawn (Drawn.drew _)).frm hf5 (fun y hy h => hSO.ne_own hO3 (by decide) y hy h)
            have K5 := K.drew.trans hf5 (fun y hy => hub2 y hy)
            have hub5' : ∀ y ∈ ob LA5, y ∈ ob LA ∨ w.heap.size ≤ y := fun y hy => by
             rcases hub5 y hy with h | h
             ·
              exact hub2 y h
             ·
              exact .inr (by have : V3.drew.heap.size = V3.heap.size := rfl; omega)
            have hgp5 : gp ∉ ob LA5 := fun hm => by
             rcases hub5 gp hm with h | h
             ·
              exact hgp2 h
             ·
              have : V3.drew.heap.size = V3.heap.size := rfl
              omega
            have hS := hS.trans hf5 (fun y hy => .inl hy)
            refine ⟨_, rfl, hS, ?_⟩
            refine jh 20 rfl hS (fun w0 hw0 => Run.asg rfl) ?_
            refine HOps.done jK ?_
            refine blockQ_n (jn ?_)
            refine jv7 0 1 5 16 19 22 23 ?_
            refine jr (jm ?_)
            refine Ops.r (Run.bin rfl rfl (Bin.add_i64 _ 1 (by omega))) rfl ?_
            refine ja ?_
            refine jo ?_
            refine jn ⟨(j + 1, l5, LA5, lc5), (js7 rfl rfl rfl rfl rfl rfl rfl), ?_, ?_⟩
            ·
             exact ⟨hc7, by rw [hfs, hm5, hm9], by show l.length < l5.length; omega, by show l5.length ≤ 64; omega, hk5, hO5, hPs5, hbp, hSO, K5, hub5', hgp5⟩
            ·
             first | omega | (dsimp only; omega)
           ·
            have hje : j = sp.length := by omega
            subst hje
            rw [List.take_length, ← hnm] at hm2
            refine jx ?_
            refine thenQ_x (thenQ_x (blockQ_x ?_))
            refine jn ⟨(l2, LA2, lc2), (js1 rfl), ?_⟩
            exact ⟨hm2, hO, hPs, K, hub2⟩
          ·
           refine jk ?_
           refine jn ⟨(l1, LA6, lc6), (js1 rfl), ?_⟩
           exact ⟨(hnp hc5 (by
            by_cases g : p.m.ty = multT
            ·
             exact .inr (Classical.not_not.1 (fun k => hc6 ⟨g, k⟩))
            ·
             exact .inl g)).symm, hO, hPs, K, hub6⟩
         ·
          rintro ⟨l9, LA9, lc9⟩ w19 ⟨hm9, hO9, hPs9, K9, hub9⟩ Γ hΓ
          dsimp only at hm9 hO9 hPs9 hub9
          refine jn (VC.sub _ hΓ ?_)
          refine js (jr (jm ?_))
          refine ja ?_
          refine jo (jn (jv1 14 ?_))
          refine jt ?_
          refine end1 rfl ?_
          exact ⟨l9, LA9, lc9, rfl, hm9, hO9, hPs9, K9, hub9⟩
theorem rparts_all (n : Nat) : RFindAt n := by
 induction n using Nat.strongRecOn with
 | ind n ih => exact rparts_step n ih
set_option maxRecDepth 100000 in
theorem rof_spec (q : Tx) (w : World) (hq : q.length ≤ 400000) : Calls Tryz.prog 40 #[encStr q] w fun e w' => Frm [] w w' ∧ ∃ (l : List Pc) (LA : Option Addr) (lc : Nat), l.map (·.1) = partsQ q ∧ e = .returned (.slice LA l.length lc) ∧ Own w' 69 9 LA l.length lc (PP l) ∧ OwnPs w' l := by
 refine VC.calls (nt := 7) (res := #[.tmp 2]) Tryz.func40 rfl Tryz.ntmps40 Tryz.results40 rfl ?_
 refine js (jr (ja ?_))
 refine jo (jn (jv1 0 ?_))
 refine js (jr (jm ?_))
 refine jm ?_
 refine Ops.r (Run.lenT rfl Tryz.underlying9) rfl ?_
 refine Ops.cl (Enters.fn (evs.cons rfl (evs.cons rfl (evs.cons rfl (evs.cons rfl (evs.cons rfl (evs.cons rfl (evs.cons rfl evs.nil))))))) Tryz.call70) ((rparts_all 6 0 rfl q [] none 0 0 q.length (-1) false _ hq (Nat.zero_le _) (Nat.le_refl _) (by simp) (by omega) (by simp) (fun i x h => by simp at h) (Own.nil _ _ _) (fun x hx => by simp at hx))) rfl ?_
 rintro e w1 ⟨l, LA, lc, rfl, hm, hO, hPs, K, _⟩
 refine ⟨_, rfl, ?_⟩
 refine ja ?_
 refine jo (jn (jv1 2 ?_))
 refine jt ?_
 refine end1 rfl ?_
 exact ⟨K, l, LA, lc, hm, rfl, hO, hPs⟩
end Go.Proofs.YtenbjndldenkfaaGreatDoor
namespace Go.Proofs.YtenbjndldenkfaaGreatDoor
open Go.RowKit Go.Sort
def kidsP (i : Int) : List Prt → Nat → List Nat
 | [], _ => []
 | p :: r, k => if p.up = i then k :: kidsP i r (k + 1) else kidsP i r (k + 1)
theorem kidL_low (i : Int) : ∀ (l : List Prt) (k : Nat) (n : Int), n < 1 → kidL i l k n = -1
 | [], _, _, _ => rfl
 | p :: r, k, n, h => by
  unfold kidL
  split
  ·
   rw [if_neg (by omega)]; exact kidL_low i r (k + 1) (n - 1) (by omega)
  ·
   exact kidL_low i r (k + 1) n h
theorem kidL_high (i : Int) : ∀ (l : List Prt) (k : Nat) (n : Int), ((kidsP i l k).length : Int) < n → kidL i l k n = -1
 | [], _, _, _ => rfl
 | p :: r, k, n, h => by
  unfold kidsP at h
  unfold kidL
  by_cases hp : p.up = i
  ·
   rw [if_pos hp] at h ⊢
   rw [List.length_cons] at h
   rw [if_neg (by omega)]
   exact kidL_high i r (k + 1) (n - 1) (by omega)
  ·
   rw [if_neg hp] at h ⊢
   exact kidL_high i r (k + 1) n h
theorem kidL_at (i : Int) : ∀ (l : List Prt) (k m : Nat) (x : Nat), (kidsP i l k)[m]? = some x → kidL i l k ((m : Int) + 1) = (x : Int)
 | [], _, _, _, h => by simp [kidsP] at h
 | p :: r, k, m, x, h => by
  unfold kidsP at h
  unfold kidL
  by_cases hp : p.up = i
  ·
   rw [if_pos hp] at h ⊢
   cases m with
   | zero =>
    simp only [List.getElem?_cons_zero, Option.some.injEq] at h
    rw [if_pos (by omega), h]
   | succ m =>
    rw [if_neg (by omega), show ((m + 1 : Nat) : Int) + 1 - 1 = (m : Int) + 1 by omega]
    exact kidL_at i r (k + 1) m x (by simpa using h)
  ·
   rw [if_neg hp] at h ⊢
   exact kidL_at i r (k + 1) m x h
theorem kidsP_len (i : Int) : ∀ (l : List Prt) (k : Nat), (kidsP i l k).length ≤ l.length
 | [], _ => Nat.le_refl _
 | p :: r, k => by
  have := kidsP_len i r (k + 1)
  unfold kidsP
  split <;> simp <;> omega
def NIk (l : List Nat) : List Value := l.map fun n => .int .i64 ((n : Nat) : Int)
theorem NIk_one (l : List Nat) : ∀ u ∈ NIk l, u.oneCell' = true := by
 intro u hu
 obtain ⟨n, _, rfl⟩ := List.mem_map.1 hu
 rfl
theorem NIk_append (a b : List Nat) : NIk (a ++ b) = NIk a ++ NIk b := by simp [NIk]
theorem NIk_at {w : World} {A : Option Addr} {l : List Nat} {k : Nat} (h : Rd w 1 A l.length (NIk l)) (hk : k < l.length) : ∃ ad, A = some ad ∧ w.cell? (ad.add (k * 1)) = some (.int .i64 ((l[k] : Nat) : Int)) := by
 obtain ⟨ad, rfl, hlt, hc⟩ := h.2 (by omega)
 refine ⟨ad, rfl, ?_⟩
 rw [Nat.mul_one]
 exact hc k _ (by simp [NIk, List.getElem?_eq_getElem hk])
set_option maxRecDepth 100000 in
theorem rkid_spec (A : Option Addr) (c : Nat) (l : List Pc) (i n : Int) (w : World) (hrd : Rd w 9 A l.length (PP l)) (hl : l.length ≤ 1000) (hn1 : -9223372036854775808 ≤ n) (hn2 : n ≤ 9223372036854775807) :
  Calls Tryz.prog 69 #[.slice A l.length c, .int .i64 i, .int .i64 n] w fun e w' => e = .returned (.int .i64 (kidQ (l.map (·.1)) i n)) ∧ Frm [] w w' := by
 have K := Frm.refl [] w
 have hkq : kidQ (l.map (·.1)) i n = kidL i (l.map (·.1)) 0 n := rfl
 have hkn := kidsP_len i (l.map (·.1)) 0
 rw [List.length_map] at hkn
 refine VC.calls (nt := 39) (res := #[.tmp 6]) Tryz.func69 rfl Tryz.ntmps69 Tryz.results69 rfl ?_
 refine js (jr ?_)
 refine Ops.r (v := .int .i64 ((0 : Nat) : Int)) (Run.asg rfl) rfl ?_
 refine jo (jn (jv3 0 1 2 ?_))
 refine js (jr (ja ?_))
 refine jo (jn (js (js (jr ?_))))
 refine Ops.r (v := .int .i64 ((0 : Nat) : Int)) (Run.asg rfl) rfl ?_
 refine jo (jn (jb ?_))
 refine VC.loop (σ := Nat × List Nat × Option Addr × Nat) (fun s => [(0, .slice A l.length c), (1, .int .i64 i), (2, .int .i64 n), (7, .slice s.2.2.1 s.2.1.length s.2.2.2), (8, .int .i64 ((s.1 : Nat) : Int))]) (fun s wr => s.1 ≤ l.length ∧ s.2.1 ++ kidsP i ((l.map (·.1)).drop s.1) s.1 = kidsP i (l.map (·.1)) 0 ∧ s.2.1.length ≤ s.1 ∧ Own wr 3 1 s.2.2.1 s.2.1.length s.2.2.2 (NIk s.2.1) ∧ Frm [] w wr ∧ ∀ y ∈ ob s.2.2.1, w.heap.size ≤ y) (fun s => l.length - s.1) (0, [], none, 0) (js5 rfl rfl rfl rfl rfl) ⟨Nat.zero_le _, rfl, Nat.le_refl _, Own.nil _ _ _, K, by simp [ob]⟩ ?_
 rintro ⟨k, out, B, bc⟩ wr ⟨hk, ho, hol, hO, K, hub⟩
 dsimp only at hk ho hol hO hub ⊢
 refine js (js (jr (jm ?_)))
 refine jm ?_
 refine Ops.r (Run.lenS rfl Tryz.underlying60) rfl ?_
 refine Ops.r (Run.bin rfl rfl (Bin.lssN _ _)) rfl ?_
 refine jo (jn (jv6 0 1 2 7 8 12 ?_))
 refine VC.condD rfl (fun hc1 => ?_) (fun hc1 => ?_)
 ·
  obtain ⟨ad, hAe, hcell⟩ := PP_at (hrd.frm K (by simp)) hc1
  have hdr : (l.map (·.1)).drop k = l[k].1 :: (l.map (·.1)).drop (k + 1) := by rw [List.drop_eq_getElem_cons (by simpa using hc1), List.getElem_map]
  rw [hdr] at ho
  generalize l[k] = x at *
  have ho' : out ++ (if x.1.up = i then k :: kidsP i ((l.map (·.1)).drop (k + 1)) (k + 1) else kidsP i ((l.map (·.1)).drop (k + 1)) (k + 1)) = kidsP i (l.map (·.1)) 0 := ho
  refine jk (jn (jv5 0 1 2 7 8 ?_))
  refine js (jb (js (jr (jm ?_))))
  refine jm ?_
  refine Ops.r (Run.indexS k (by rw [← hAe]; rfl) rfl Tryz.underlying60 Tryz.sizeOf69 hc1) rfl ?_
  refine Ops.r (Run.fieldAddr rfl Tryz.underlying69 rfl Tryz.sizeOf3 (by decide)) rfl ?_
  refine Ops.r (Run.load rfl Tryz.isAgg3 (hcell 7 _ rfl)) rfl ?_
  refine jm ?_
  refine Ops.r (Run.bin rfl rfl (Bin.eql _ _)) rfl ?_
  refine jo (jn (jv6 0 1 2 7 8 21 ?_))
  refine VC.meet (σ := List Nat × Option Addr × Nat) (fun s => [(0, .slice A l.length c), (1, .int .i64 i), (2, .int .i64 n), (7, .slice s.2.1 s.1.length s.2.2), (8, .int .i64 ((k : Nat) : Int))]) (fun s wz => s.1 ++ kidsP i ((l.map (·.1)).drop (k + 1)) (k + 1) = kidsP i (l.map (·.1)) 0 ∧ s.1.length ≤ k + 1 ∧ Own wz 3 1 s.2.1 s.1.length s.2.2 (NIk s.1) ∧ Frm [] w wz ∧ ∀ y ∈ ob s.2.1, w.heap.size ≤ y) ?_ ?_
  ·
   refine VC.condD rfl (fun hc2 => ?_) (fun hc2 => ?_)
   ·
    rw [if_pos hc2] at ho'
    refine jr (jm ?_)
    refine jm ?_
    refine Ops.m (Does.buildS1 rfl Tryz.underlying33 Tryz.sizeOf3 zero3 (by decide) (by decide) rfl rfl) rfl ?_
    rintro _ w3 ⟨rfl, hF3⟩
    have hr3 : Rd w3 1 (some ⟨_, 0, none⟩) 1 (NIk [k]) := Rd.of_blk (n := 1) (size := 1) hF3.blk rfl
    have hO := hO.frm hF3.frm (by simp)
    have K := K.trans hF3.frm (by simp)
    refine Ops.m (Does.app rfl rfl Tryz.underlying33 (info3) rfl (by decide) hO hr3 (NIk_one _) (by omega) (by omega)) rfl ?_
    rintro _ w4 ⟨B4, c4, rfl, hO4, f4, hob4⟩
    have sK := K.size
    have K := Frm.own K f4 hub
    have hO4 : Own w4 3 1 B4 (out ++ [k]).length c4 (NIk (out ++ [k])) := by rw [NIk_append, List.length_append]; exact hO4
    refine ja ?_
    refine jo ?_
    refine jn ⟨(out ++ [k], B4, c4), (js5 rfl rfl rfl (by rw [List.length_append]; rfl) rfl), ?_⟩
    exact ⟨by rw [← ho', List.append_assoc]; rfl, by simp; omega, hO4, K, up_app hub hob4 sK⟩
   ·
    rw [if_neg hc2] at ho'
    refine jk ?_
    refine jn ⟨(out, B, bc), (js5 rfl rfl rfl rfl rfl), ?_⟩
    exact ⟨ho', by dsimp only; omega, hO, K, hub⟩
  ·
   rintro ⟨out2, B2, bc2⟩ wz ⟨ho2, hol2, hO2, K2, hub2⟩ Γ hΓ
   dsimp only at ho2 hol2 hO2 hub2
   refine blockQ_n (jn (VC.sub _ hΓ ?_))
   refine jr (jm ?_)
   refine Ops.r (Run.bin rfl rfl (Bin.add_i64 _ 1 (by omega))) rfl ?_
   refine ja ?_
   refine jo ?_
   refine jn ⟨(k + 1, out2, B2, bc2), (js5 rfl rfl rfl rfl rfl), ?_, ?_⟩
   ·
    exact ⟨hc1, ho2, hol2, hO2, K2, hub2⟩
   ·
    first | omega | (dsimp only; omega)
 ·
  rw [List.drop_of_length_le (by simp; omega)] at ho
  have ho : out ++ [] = kidsP i (l.map (·.1)) 0 := ho
  rw [List.append_nil] at ho
  have hlow := kidL_low i (l.map (·.1)) 0 n
  have hhigh := kidL_high i (l.map (·.1)) 0 n
  have hat := kidL_at i (l.map (·.1)) 0
  rw [← ho] at hhigh hat hkn
  refine jx ?_
  refine thenQ_x (thenQ_x (blockQ_x ?_))
  refine jn (jv2 2 7 ?_)
  refine js (js ?_)
  refine VC.split1 [(2, _), (7, _)] (js2 rfl rfl) 33 (.bool (decide ((n < 1) ∨ (((out.length : Nat) : Int) < n)))) ?_ ?_
  ·
   by_cases hs0 : n < 1
   ·
    refine jr (jm ?_)
    refine Ops.r (Run.bin rfl rfl (Bin.lss _ 1)) rfl ?_
    refine jm ?_
    refine ju ?_
    refine ju ?_
    refine ju ?_
    refine ju ?_
    refine Ops.r (Run.pickT rfl rfl au) rfl ?_
    refine jo ?_
    refine jn ⟨(js3 (by rw [dor1 hs0]; rfl) rfl rfl), rfl⟩
   ·
    refine jr (jm ?_)
    refine Ops.r (Run.bin rfl rfl (Bin.lss _ 1)) rfl ?_
    refine jm ?_
    refine jg ?_
    refine jg ?_
    refine Ops.rg rfl au (Run.lenS rfl Tryz.underlying33) rfl ?_
    refine Ops.rg rfl au (Run.bin rfl rfl (Bin.gtr _ _)) rfl ?_
    refine Ops.r (Run.pickF rfl rfl au) rfl ?_
    refine jo ?_
    refine jn ⟨(js3 (by rw [dor0 hs0]; rfl) rfl rfl), rfl⟩
  ·
   intro Γ hΓ
   refine jn (VC.sub _ hΓ ?_)
   refine VC.condD rfl (fun hc3 => ?_) (fun hc3 => ?_)
   ·
    have hres : kidL i (l.map (·.1)) 0 n = -1 := hc3.elim hlow hhigh
    refine js (jr ?_)
    refine Ops.r (v := .int .i64 (-1)) (Run.asg rfl) rfl ?_
    refine jo (jn (jv1 6 ?_))
    refine jt ?_
    refine thenQ_r (end1 rfl ?_)
    exact ⟨by rw [hkq, hres], K⟩
   ·
    obtain ⟨m, hm⟩ : ∃ m : Nat, n = (m : Int) + 1 := ⟨(n - 1).toNat, by have := fun g => hc3 (.inl g); omega⟩
    have hml : m < out.length := by have := fun g => hc3 (.inr g); omega
    obtain ⟨adB, hBe, hcB⟩ := NIk_at hO.rd hml
    have hres := hat m _ (List.getElem?_eq_getElem hml)
    rw [← hm] at hres
    refine jk (jn (jv2 2 7 ?_))
    refine js (jr (jm ?_))
    refine jm ?_
    refine Ops.r (Run.bin rfl rfl (Bin.sub _ _ (by simp only [bmin]; omega) (by simp only [bmax]; omega))) rfl ?_
    rw [show n - 1 = ((m : Nat) : Int) by omega]
    refine Ops.r (Run.indexS m (by rw [← hBe]; rfl) rfl Tryz.underlying33 Tryz.sizeOf3 hml) rfl ?_
    refine Ops.r (Run.load rfl Tryz.isAgg3 hcB) rfl ?_
    refine ja ?_
    refine jo (jn (jv1 6 ?_))
    refine jt ?_
    refine end1 rfl ?_
    exact ⟨by rw [hkq, hres], K⟩
end Go.Proofs.YtenbjndldenkfaaGreatDoor
namespace Go.Proofs.YtenbjndldenkfaaGreatDoor
open Go.RowKit Go.Sort
theorem jn_two : ∀ (a : List Tx) (x y : Tx), jnQ (a ++ [x, y]) = if a = [] then x ++ 32 :: y else jnQ a ++ 32 :: (x ++ 32 :: y)
 | [], x, y => rfl
 | [z], x, y => by simp [jnQ]
 | z :: u :: r, x, y => by
  have ih := jn_two (u :: r) x y
  rw [if_neg (by simp)] at ih
  show jnQ (z :: u :: (r ++ [x, y])) = _
  rw [jnQ_cons, show u :: (r ++ [x, y]) = (u :: r) ++ [x, y] from rfl, ih, if_neg (by simp), jnQ_cons]
  simp
def parR (ps : List Par) : Tx := if ps = [] then [] else 40 :: jnQ (parsL ps)
theorem parR_snoc (ps : List Par) (p : Par) : parR (ps ++ [p]) = (parR ps ++ (if ps = [] then [40] else [32])) ++ ((strQ p.1 ++ [32]) ++ strQ p.2) := by
 unfold parR
 rw [if_neg (by simp), parsL_snoc, jn_two]
 by_cases h : ps = []
 ·
  subst h
  rw [if_pos (show parsL [] = [] from rfl), if_pos rfl, if_pos rfl]
  simp
 ·
  have h2 : parsL ps ≠ [] := fun e => h (by have := congrArg List.length e; rw [parsL_count, List.length_nil] at this; exact List.length_eq_zero_iff.1 (by omega))
  rw [if_neg h2, if_neg h, if_neg h]
  simp
theorem parR_all (ps : List Par) : parsS ps = if ps = [] then nilT else parR ps ++ [41] := by
 unfold parsS parR
 by_cases h : ps = []
 ·
  rw [if_pos h, if_pos h]
 ·
  rw [if_neg h, if_neg h, if_neg h]
  rfl
theorem parR_len {N : Nat} {ps : List Par} (h : ∀ p ∈ ps, p.1.length ≤ N ∧ p.2.length ≤ N) : (parR ps).length ≤ ps.length * (4 * N + 12) + 2 * ps.length + 1 := by
 obtain ⟨h1, h2⟩ := parsL_len h
 have h3 := jnQ_len (parsL ps)
 unfold parR
 split
 ·
  simp
 ·
  rw [List.length_cons]; omega
theorem kidL_none (i : Int) : ∀ (r : List Prt) (k : Nat) (n : Int), cntK i r = 0 → kidL i r k n = -1
 | [], _, _, _ => rfl
 | p :: r, k, n, h => by
  have h : (if p.up = i then 1 else 0) + cntK i r = 0 := h
  unfold kidL
  by_cases hp : p.up = i
  ·
   rw [if_pos hp] at h; omega
  ·
   rw [if_neg hp] at h ⊢
   exact kidL_none i r (k + 1) n (by omega)
theorem kid_some {P : List Prt} {i : Int} : 0 ≤ kidQ P i 1 ↔ 0 < cntK i P := by
 constructor
 ·
  intro h
  apply Classical.byContradiction
  intro hn
  have := kidL_none i P 0 1 (by omega)
  unfold kidQ at h
  omega
 ·
  intro h
  obtain ⟨k, p, _, _, _, hk, _, _⟩ := kid_next (fun _ => []) (i := i) (l := P) (pos := 0) (j := 0) (Nat.zero_le _) rfl h
  rw [show ((0 + 1 : Nat) : Int) = 1 from rfl] at hk
  omega
theorem sliceQ_snoc {q : Tx} {a k : Nat} (h1 : a ≤ k) (h2 : k < q.length) : sliceQ q a (k + 1) = sliceQ q a k ++ [hdA q k] := (take_more h1 h2).1
set_option maxRecDepth 100000 in
set_option maxHeartbeats 6400000 in
theorem rshape_step (q : Tx) (L : Option Addr) (lc : Nat) (l : List Pc) (P : List Prt) (hl : l.map (·.1) = P) (hq : q.length ≤ 2000) (h64 : P.length ≤ 64)
  (hup : ∀ (k : Nat) (p : Prt), P[k]? = some p → p.up < (k : Int)) (hok : ∀ (k : Nat) (p : Prt), P[k]? = some p → p.frm ≤ p.body ∧ p.body ≤ p.tu ∧ p.tu ≤ q.length ∧ True) (hmed : ∀ p ∈ P, MedOk q.length p.m) (hkids : KidsQk P) (hlen : ∀ i, i < P.length → (oneS 64 q P i).length ≤ 32000000000)
  (i : Nat) (hi : i < l.length)
  (ih : ∀ k, i < k → k < l.length → ∀ w, Rd w 9 L l.length (PP l) → OwnPs w l → Calls Tryz.prog 39 #[encStr q, .slice L l.length lc, .int .i64 ((k : Nat) : Int)] w fun e w' => e = .returned (encStr (oneS 64 q P k)) ∧ Frm [] w w') :
  ∀ w, Rd w 9 L l.length (PP l) → OwnPs w l → Calls Tryz.prog 39 #[encStr q, .slice L l.length lc, .int .i64 ((i : Nat) : Int)] w fun e w' => e = .returned (encStr (oneS 64 q P i)) ∧ Frm [] w w' := by
 intro w hrL hps
 have K := Frm.refl [] w
 obtain ⟨ad, hLe, hcell⟩ := PP_at hrL hi
 have hPi : P[i]? = some l[i].1 := by rw [← hl, List.getElem?_map, List.getElem?_eq_getElem hi]; rfl
 have hPl : P.length = l.length := by rw [← hl, List.length_map]
 have hpm := hps _ (List.getElem_mem hi)
 have hone := oneS_P (q := q) hup h64 hPi
 have hbig := hlen i (by omega)
 obtain ⟨hfb, hbt, htl, _⟩ := hok i _ hPi
 have hmd := hmed _ (List.mem_of_getElem? hPi)
 have hkc := (hkids i _ hPi).1
 have hkb := cntK_le ((i : Nat) : Int) P
 have hLlt : ∀ y ∈ ob L, y < w.heap.size := fun y hy => hrL.lt (by omega) y hy
 have hiq : ((i : Nat) : Int) ≤ 9223372036854775807 := by omega
 generalize hxe : l[i] = x at *
 rw [hone] at hbig ⊢
 have n1 := strQ_len x.1.m.ty
 have n2 := strQ_len x.1.m.sub
 have n3 := hmd.1
 have n4 := hmd.2.1
 refine VC.calls (nt := 190) (res := #[.tmp 6]) Tryz.func39 rfl Tryz.ntmps39 Tryz.results39 rfl ?_
 refine js (jr (ja ?_))
 refine jo (jn (jv3 0 1 2 ?_))
 refine js (jr (jm ?_))
 refine jm ?_
 refine Ops.r (Run.indexS i (by rw [← hLe]; rfl) rfl Tryz.underlying60 Tryz.sizeOf69 hi) rfl ?_
 refine Ops.r (Run.loadA rfl Tryz.isAgg69 Tryz.sizeOf69 hcell (by first | rfl | (simp; done))) rfl ?_
 refine Ops.m (Does.alloc zero69) rfl ?_
 rintro _ w2 ⟨rfl, hF2⟩
 have hb7 := hF2.blk
 have sK := K.size
 have K := K.trans hF2.frm (by simp)
 generalize hg7 : w.heap.size = g7 at hb7 sK ⊢
 refine Ops.st (Acts.storeA rfl rfl Tryz.sizeOf69 hb7 rfl (PP1_one x)) ?_
 rintro w3 ⟨hb7n, f3, _⟩
 have hb7 : Blk w3 g7 69 (PP1 x).toArray := hb7n
 have K := Frm.own K f3 (fun y hy => by simp at hy; omega)
 refine jo (jn (jv4 0 1 2 7 ?_))
 refine js (js (jr ?_))
 refine Ops.r (Run.fieldAddr rfl Tryz.underlying69 rfl Tryz.sizeOf3 (by decide)) rfl ?_
 refine Ops.r (Run.load rfl Tryz.isAgg3 (hb7.cell 0)) rfl ?_
 refine Ops.r (Run.bin rfl rfl (Bin.eqlN _ 1)) rfl ?_
 refine jo (jn (jv5 0 1 2 7 22 ?_))
 refine VC.condD rfl (fun hc1 => ?_) (fun hc1 => ?_)
 ·
  have hone1 : oneP (oneS 64 q P) q P i x.1 = 40 :: (kidsC (oneS 64 q P) i P 0 ++ (32 :: (strQ x.1.m.sub ++ [41]))) := by unfold oneP; rw [if_pos hc1]
  rw [hone1] at hbig ⊢
  simp only [List.length_cons, List.length_append, List.length_nil] at hbig
  refine js (jr (ja ?_))
  refine jo (jn (jv5 0 1 2 7 8 ?_))
  refine js (js (jr ?_))
  refine Ops.r (v := .int .i64 ((1 : Nat) : Int)) (Run.asg rfl) rfl ?_
  refine jo (jn (jb ?_))
  refine VC.loop (σ := Nat × Nat × Tx) (fun s => [(0, encStr q), (1, .slice L l.length lc), (2, .int .i64 ((i : Nat) : Int)), (7, .pointer (some ⟨g7, 0, none⟩)), (8, encStr (40 :: s.2.2)), (9, .int .i64 (((s.1 + 1) : Nat) : Int))]) (fun s wr => s.1 ≤ x.1.kids ∧ s.2.1 ≤ P.length ∧ cntK i (P.take s.2.1) = s.1 ∧ s.2.2 ++ kidsC (oneS 64 q P) i (P.drop s.2.1) s.2.1 = kidsC (oneS 64 q P) i P 0 ∧ Frm [] w wr ∧ Blk wr g7 69 (PP1 x).toArray) (fun s => x.1.kids - s.1) (0, 0, []) (js6 rfl rfl rfl rfl rfl rfl) ⟨Nat.zero_le _, Nat.zero_le _, by rw [List.take_zero]; rfl, rfl, K, hb7⟩ ?_
  rintro ⟨j, ps, al⟩ wr ⟨hj, hpos, hcn, hsum, K, hb7⟩
  dsimp only at hj hpos hcn hsum ⊢
  have hsl := congrArg List.length hsum
  rw [List.length_append] at hsl
  refine js (js (jr (jm ?_)))
  refine Ops.r (Run.fieldAddr rfl Tryz.underlying69 rfl Tryz.sizeOf3 (by decide)) rfl ?_
  refine Ops.r (Run.load rfl Tryz.isAgg3 (hb7.cell 8)) rfl ?_
  refine Ops.r (Run.bin rfl rfl (Bin.leqN _ _)) rfl ?_
  refine jo (jn (jv7 0 1 2 7 8 9 26 ?_))
  refine VC.condD rfl (fun hc2 => ?_) (fun hc2 => ?_)
  ·
   have hjk : j < cntK i P := by omega
   obtain ⟨k, y, hk1, hky, hyu, hkq, hkc2, hkd⟩ := kid_next (oneS 64 q P) hpos hcn hjk
   have hik : i < k := by have := hup k y hky; omega
   have hkl : k < l.length := by have := (List.getElem?_eq_some_iff.1 hky).1; omega
   rw [hkd, List.length_append] at hsl
   refine jk (jn (jv6 0 1 2 7 8 9 ?_))
   refine js (jb (jr (jm ?_)))
   refine jm ?_
   refine jm ?_
   refine jm ?_
   refine jm ?_
   refine jm ?_
   refine Ops.cl (Enters.fn (evs.cons rfl (evs.cons rfl (evs.cons rfl evs.nil))) Tryz.call69) ((rkid_spec L lc l ((i : Nat) : Int) ((j + 1 : Nat) : Int) _ (hrL.frm K (by simp)) (by omega) (by omega) (by omega))) rfl ?_
   rintro e w4 ⟨rfl, f4⟩
   refine ⟨_, rfl, ?_⟩
   have K := K.trans f4 (by simp)
   have hb7 := hb7.frm f4 (by simp)
   rw [hl, hkq]
   refine Ops.cl (Enters.fn (evs.cons rfl (evs.cons rfl (evs.cons rfl evs.nil))) Tryz.call39) ((ih k (by omega) (by omega) _ (hrL.frm K (by simp)) (hps.frm0 K))) rfl ?_
   rintro e w5 ⟨rfl, f5⟩
   refine ⟨_, rfl, ?_⟩
   have K := K.trans f5 (by simp)
   have hb7 := hb7.frm f5 (by simp)
   refine Ops.r (Run.addT rfl rfl (by simp only [List.length_cons, List.length_append, List.length_nil]; omega)) rfl ?_
   refine ja ?_
   refine jo ?_
   refine blockQ_n (jn ?_)
   refine jv6 0 1 2 7 8 9 ?_
   refine jr (jm ?_)
   refine Ops.r (Run.bin rfl rfl (Bin.add_i64 _ 1 (by omega))) rfl ?_
   refine ja ?_
   refine jo ?_
   refine jn ⟨(j + 1, k + 1, al ++ (oneS 64 q P) k), (js6 rfl rfl rfl rfl rfl rfl), ?_, ?_⟩
   ·
    exact ⟨by omega, (List.getElem?_eq_some_iff.1 hky).1, hkc2, by rw [← hsum, hkd, List.append_assoc], K, hb7⟩
   ·
    first | omega | (dsimp only; omega)
  ·
   have hje : j = x.1.kids := by omega
   have hrest : cntK i (P.drop ps) = 0 := by
    have := cntK_app i (P.take ps) (P.drop ps)
    rw [List.take_append_drop] at this
    omega
   rw [kidsC_none _ _ hrest, List.append_nil] at hsum
   rw [← hsum] at hbig ⊢
   refine jx ?_
   refine thenQ_x (thenQ_x (blockQ_x ?_))
   refine jn (jv2 7 8 ?_)
   refine js (jr (jm ?_))
   refine Ops.r (Run.addT (b := [32]) rfl rfl (by simp only [List.length_cons, List.length_append, List.length_nil]; omega)) rfl ?_
   refine Ops.r (Run.fieldAddr rfl Tryz.underlying69 rfl Tryz.sizeOf67 (by decide)) rfl ?_
   refine Ops.r (Run.fieldAddr rfl Tryz.underlying67 rfl Tryz.sizeOf9 (by decide)) rfl ?_
   refine Ops.r (Run.load rfl Tryz.isAgg9 (hb7.cell 5)) rfl ?_
   refine Ops.cl (Enters.fn (evs.cons rfl evs.nil) Tryz.call11) ((rstring_spec x.1.m.sub _ (by omega))) rfl ?_
   rintro e _ ⟨rfl, rfl⟩
   refine ⟨_, rfl, ?_⟩
   refine Ops.r (Run.addT rfl rfl (by simp only [List.length_cons, List.length_append, List.length_nil]; omega)) rfl ?_
   refine Ops.r (Run.addT (b := [41]) rfl rfl (by simp only [List.length_cons, List.length_append, List.length_nil]; omega)) rfl ?_
   refine ja ?_
   refine jo (jn (jv1 6 ?_))
   refine jt ?_
   refine thenQ_r (end1 rfl ?_)
   exact ⟨by simp, K⟩
 ·
  have hone1 : oneP (oneS 64 q P) q P i x.1 = listQ (leafL q x.1 (midL (oneS 64 q P) q P i x.1)) := by unfold oneP; rw [if_neg hc1]
  rw [hone1]
  refine jk (jn (jv4 0 1 2 7 ?_))
  refine js ?_
  refine VC.held (fun W => Drawn w3 W) jK ?_
  have hS : Drawn w3 w3.drew := Drawn.drew _
  refine jh 0 rfl hS (fun w0 hw0 => Run.fieldAddr rfl Tryz.underlying69 rfl Tryz.sizeOf67 (by decide)) ?_
  refine jh 1 rfl hS (fun w0 hw0 => Run.fieldAddr rfl Tryz.underlying67 rfl Tryz.sizeOf9 (by decide)) ?_
  refine jh 2 rfl hS (fun w0 hw0 => Run.load rfl Tryz.isAgg9 ((hb7.drawn hw0).cell 4)) ?_
  refine jh 6 rfl hS (fun w0 hw0 => Run.fieldAddr rfl Tryz.underlying69 rfl Tryz.sizeOf67 (by decide)) ?_
  refine jh 7 rfl hS (fun w0 hw0 => Run.fieldAddr rfl Tryz.underlying67 rfl Tryz.sizeOf9 (by decide)) ?_
  refine jh 8 rfl hS (fun w0 hw0 => Run.load rfl Tryz.isAgg9 ((hb7.drawn hw0).cell 5)) ?_
  refine HOps.cl 3 rfl jK (Enters.fn (evs.cons rfl evs.nil) Tryz.call11) ((rstring_spec x.1.m.ty _ (by omega))) trivial rfl rfl ?_
  rintro e _ ⟨rfl, rfl⟩
  refine ⟨_, rfl, hS, ?_⟩
  refine jh 4 rfl hS (fun w0 hw0 => Run.addT (a := [40]) rfl rfl (by simp only [List.length_cons, List.length_append, List.length_nil]; omega)) ?_
  refine jh 5 rfl hS (fun w0 hw0 => Run.addT (b := [32]) rfl rfl (by simp only [List.length_cons, List.length_append, List.length_nil]; omega)) ?_
  refine HOps.cl 9 rfl jK (Enters.fn (evs.cons rfl evs.nil) Tryz.call11) ((rstring_spec x.1.m.sub _ (by omega))) trivial rfl rfl ?_
  rintro e _ ⟨rfl, rfl⟩
  refine ⟨_, rfl, hS, ?_⟩
  refine jh 10 rfl hS (fun w0 hw0 => Run.addT rfl rfl (by simp only [List.length_cons, List.length_append, List.length_nil]; omega)) ?_
  refine jh 11 rfl hS (fun w0 hw0 => Run.addT (b := [32]) rfl rfl (by simp only [List.length_cons, List.length_append, List.length_nil]; omega)) ?_
  obtain ⟨o1, ho1⟩ : ∃ o1 : Tx, (([40] ++ strQ x.1.m.ty) ++ [32] ++ strQ x.1.m.sub) ++ [32] = o1 := ⟨_, rfl⟩
  rw [ho1]
  have no1 : o1.length ≤ 20000 := by rw [← ho1]; simp only [List.length_cons, List.length_append, List.length_nil]; omega
  have K9 := K
  have hpo := MedOk.ps hmd hq
  have hPN : ∀ p ∈ x.1.m.ps, p.1.length ≤ 2000 ∧ p.2.length ≤ 2000 := fun p hp => by have := hmd.2.2.2 p hp; omega
  have hPl2 : x.1.m.ps.length ≤ 2001 := by have := hmd.2.2.1; omega
  have hPR : ∀ k, (parR (x.1.m.ps.take k)).length ≤ 16100000 := fun k => by
   have h1 := parR_len (N := 2000) (ps := x.1.m.ps.take k) (fun p hp => hPN p (List.mem_of_mem_take hp))
   have h2 : (x.1.m.ps.take k).length ≤ 2001 := by rw [List.length_take]; omega
   have h3 : (x.1.m.ps.take k).length * (4 * 2000 + 12) ≤ 2001 * 8012 := Nat.mul_le_mul_right _ h2
   omega
  refine jh 12 rfl hS (fun w0 hw0 => Run.asg rfl) ?_
  refine HOps.done jK ?_
  refine jn (jv5 0 1 2 7 10 ?_)
  refine js (js (jr ?_))
  refine Ops.r (v := .int .i64 ((0 : Nat) : Int)) (Run.asg rfl) rfl ?_
  refine jo (jn (jb ?_))
  refine VC.loop (σ := Nat) (fun s => [(0, encStr q), (1, .slice L l.length lc), (2, .int .i64 ((i : Nat) : Int)), (7, .pointer (some ⟨g7, 0, none⟩)), (10, encStr (o1 ++ parR (x.1.m.ps.take s))), (11, .int .i64 ((s : Nat) : Int))]) (fun s wr => s ≤ x.1.m.ps.length ∧ Drawn w3 wr) (fun s => x.1.m.ps.length - s) 0 (js6 rfl rfl rfl rfl (by rw [List.take_zero, show parR [] = [] from rfl, List.append_nil]; rfl) rfl) ⟨Nat.zero_le _, hS⟩ ?_
  rintro k wr ⟨hk, hd⟩
  have hpr := hPR k
  refine js (js (jr (jm ?_)))
  refine Ops.r (Run.fieldAddr rfl Tryz.underlying69 rfl Tryz.sizeOf67 (by decide)) rfl ?_
  refine Ops.r (Run.fieldAddr rfl Tryz.underlying67 rfl Tryz.sizeOf65 (by decide)) rfl ?_
  refine Ops.r (Run.load rfl Tryz.isAgg65 ((hb7.drawn hd).cell 6)) rfl ?_
  refine Ops.r (Run.lenS rfl Tryz.underlying65) rfl ?_
  refine Ops.r (Run.bin rfl rfl (Bin.lssN _ _)) rfl ?_
  refine jo (jn (jv7 0 1 2 7 10 11 63 ?_))
  refine VC.condD rfl (fun hc3 => ?_) (fun hc3 => ?_)
  ·
   obtain ⟨adp, hpe, hcp⟩ := PC_at (hpm.rd.frm (K.drawn hd) (by simp)) hc3
   have hcpw : ∀ W, Drawn wr W → ∀ j v, (PC1 x.1.m.ps[k])[j]? = some v → W.cell? ((adp.add (k * 2)).add j) = some v := fun W hW => by
    obtain ⟨ad2, h2, hc2_⟩ := PC_at (hpm.rd.frm (K.drawn (hd.trans hW)) (by simp)) hc3
    cases hpe.symm.trans h2
    exact hc2_
   have hts := parR_snoc (x.1.m.ps.take k) x.1.m.ps[k]
   rw [← take_snoc hc3] at hts
   have hpb := hPN _ (List.getElem_mem hc3)
   have hke : x.1.m.ps.take k = [] ↔ k = 0 := by
    rw [← List.length_eq_zero_iff, List.length_take]
    omega
   generalize hpk : x.1.m.ps[k] = pr at *
   have g1 := strQ_len pr.1
   have g2 := strQ_len pr.2
   refine jk (jn (jv6 0 1 2 7 10 11 ?_))
   refine js (jb (js (js (jr (jm ?_)))))
   refine Ops.r (Run.bin rfl rfl (Bin.eqlN _ 0)) rfl ?_
   refine jo (jn (jv7 0 1 2 7 10 11 67 ?_))
   refine VC.meet (σ := Unit) (fun s => [(0, encStr q), (1, .slice L l.length lc), (2, .int .i64 ((i : Nat) : Int)), (7, .pointer (some ⟨g7, 0, none⟩)), (10, encStr ((o1 ++ parR (x.1.m.ps.take k)) ++ (if x.1.m.ps.take k = [] then [40] else [32]))), (11, .int .i64 ((k : Nat) : Int))]) (fun s wz => wr = wz) ?_ ?_
   ·
    refine VC.condD rfl (fun hc4 => ?_) (fun hc4 => ?_)
    ·
     refine jr (jm ?_)
     refine Ops.r (Run.addT (b := [40]) rfl rfl (by simp only [List.length_cons, List.length_append, List.length_nil]; omega)) rfl ?_
     refine ja ?_
     refine jo ?_
     refine jn ⟨(), (js6 rfl rfl rfl rfl (by rw [if_pos (hke.2 hc4)]; rfl) rfl), ?_⟩
     exact rfl
    ·
     refine jr (jm ?_)
     refine Ops.r (Run.addT (b := [32]) rfl rfl (by simp only [List.length_cons, List.length_append, List.length_nil]; omega)) rfl ?_
     refine ja ?_
     refine jo ?_
     refine jn ⟨(), (js6 rfl rfl rfl rfl (by rw [if_neg (fun g => hc4 (hke.1 g))]; rfl) rfl), ?_⟩
     exact rfl
   ·
    rintro _ _ rfl Γ hΓ
    have hsl2 : ((if x.1.m.ps.take k = [] then [40] else [32]) : Tx).length = 1 := by split <;> rfl
    generalize ((if x.1.m.ps.take k = [] then [40] else [32]) : Tx) = sep at *
    refine jn (VC.sub _ hΓ ?_)
    refine VC.held (fun W => Drawn wr W) jK ?_
    have hS : Drawn wr wr.drew := Drawn.drew _
    refine jh 0 rfl hS (fun w0 hw0 => Run.mv rfl) ?_
    refine jh 1 rfl hS (fun w0 hw0 => Run.fieldAddr rfl Tryz.underlying69 rfl Tryz.sizeOf67 (by decide)) ?_
    refine jh 2 rfl hS (fun w0 hw0 => Run.fieldAddr rfl Tryz.underlying67 rfl Tryz.sizeOf65 (by decide)) ?_
    refine jh 3 rfl hS (fun w0 hw0 => Run.load rfl Tryz.isAgg65 ((hb7.drawn (hd.trans hw0)).cell 6)) ?_
    refine jh 4 rfl hS (fun w0 hw0 => Run.mv rfl) ?_
    refine jh 5 rfl hS (fun w0 hw0 => Run.indexS k (by rw [← hpe]; rfl) rfl Tryz.underlying65 Tryz.sizeOf102 hc3) ?_
    refine jh 6 rfl hS (fun w0 hw0 => Run.fieldAddr rfl Tryz.underlying102 rfl Tryz.sizeOf9 (by decide)) ?_
    refine jh 7 rfl hS (fun w0 hw0 => Run.load rfl Tryz.isAgg9 (hcpw _ hw0 0 _ rfl)) ?_
    refine jh 10 rfl hS (fun w0 hw0 => Run.fieldAddr rfl Tryz.underlying69 rfl Tryz.sizeOf67 (by decide)) ?_
    refine jh 11 rfl hS (fun w0 hw0 => Run.fieldAddr rfl Tryz.underlying67 rfl Tryz.sizeOf65 (by decide)) ?_
    refine jh 12 rfl hS (fun w0 hw0 => Run.load rfl Tryz.isAgg65 ((hb7.drawn (hd.trans hw0)).cell 6)) ?_
    refine jh 13 rfl hS (fun w0 hw0 => Run.mv rfl) ?_
    refine jh 14 rfl hS (fun w0 hw0 => Run.indexS k (by rw [← hpe]; rfl) rfl Tryz.underlying65 Tryz.sizeOf102 hc3) ?_
    refine jh 15 rfl hS (fun w0 hw0 => Run.fieldAddr rfl Tryz.underlying102 rfl Tryz.sizeOf9 (by decide)) ?_
    refine jh 16 rfl hS (fun w0 hw0 => Run.load rfl Tryz.isAgg9 (hcpw _ hw0 1 _ rfl)) ?_
    refine HOps.cl 8 rfl jK (Enters.fn (evs.cons rfl evs.nil) Tryz.call11) ((rstring_spec pr.1 _ (by omega))) trivial rfl rfl ?_
    rintro e _ ⟨rfl, rfl⟩
    refine ⟨_, rfl, hS, ?_⟩
    refine jh 9 rfl hS (fun w0 hw0 => Run.addT (b := [32]) rfl rfl (by simp only [List.length_cons, List.length_append, List.length_nil]; omega)) ?_
    refine HOps.cl 17 rfl jK (Enters.fn (evs.cons rfl evs.nil) Tryz.call11) ((rstring_spec pr.2 _ (by omega))) trivial rfl rfl ?_
    rintro e _ ⟨rfl, rfl⟩
    refine ⟨_, rfl, hS, ?_⟩
    refine jh 18 rfl hS (fun w0 hw0 => Run.addT rfl rfl (by simp only [List.length_cons, List.length_append, List.length_nil]; omega)) ?_
    refine jh 19 rfl hS (fun w0 hw0 => Run.addT rfl rfl (by simp only [List.length_cons, List.length_append, List.length_nil]; omega)) ?_
    refine jh 20 rfl hS (fun w0 hw0 => Run.asg rfl) ?_
    refine HOps.done jK ?_
    refine blockQ_n (jn ?_)
    refine jv6 0 1 2 7 10 11 ?_
    refine jr (jm ?_)
    refine Ops.r (Run.bin rfl rfl (Bin.add_i64 _ 1 (by omega))) rfl ?_
    refine ja ?_
    refine jo ?_
    refine jn ⟨(k + 1), (js6 rfl rfl rfl rfl (by rw [hts]; simp only [List.append_assoc]; rfl) rfl), ?_, ?_⟩
    ·
     exact ⟨hc3, hd.trans hS⟩
    ·
     first | omega | (dsimp only; omega)
  ·
   have hkl : k = x.1.m.ps.length := by omega
   subst hkl
   rw [List.take_length] at hpr ⊢
   have hpa := parR_all x.1.m.ps
   refine jx ?_
   refine thenQ_x (thenQ_x (blockQ_x ?_))
   refine jn (jv5 0 1 2 7 10 ?_)
   refine js (js (jr ?_))
   refine Ops.r (Run.fieldAddr rfl Tryz.underlying69 rfl Tryz.sizeOf67 (by decide)) rfl ?_
   refine Ops.r (Run.fieldAddr rfl Tryz.underlying67 rfl Tryz.sizeOf65 (by decide)) rfl ?_
   refine Ops.r (Run.load rfl Tryz.isAgg65 ((hb7.drawn hd).cell 6)) rfl ?_
   refine Ops.r (Run.lenS rfl Tryz.underlying65) rfl ?_
   refine Ops.r (Run.bin rfl rfl (Bin.gtrN _ 0)) rfl ?_
   refine jo (jn (jv6 0 1 2 7 10 96 ?_))
   refine VC.meet (σ := Unit) (fun s => [(0, encStr q), (1, .slice L l.length lc), (2, .int .i64 ((i : Nat) : Int)), (7, .pointer (some ⟨g7, 0, none⟩)), (10, encStr (o1 ++ parsS x.1.m.ps))]) (fun s wz => wr = wz) ?_ ?_
   ·
    refine VC.condD rfl (fun hc5 => ?_) (fun hc5 => ?_)
    ·
     have hpa2 : x.1.m.ps ≠ [] := fun g => by rw [g] at hc5; exact absurd hc5 (by decide)
     rw [if_neg hpa2] at hpa
     refine jr (jm ?_)
     refine Ops.r (Run.addT (b := [41]) rfl rfl (by simp only [List.length_cons, List.length_append, List.length_nil]; omega)) rfl ?_
     refine ja ?_
     refine jo ?_
     refine jn ⟨(), (js5 rfl rfl rfl rfl (by rw [hpa, ← List.append_assoc]; rfl)), ?_⟩
     exact rfl
    ·
     have hpa2 : x.1.m.ps = [] := List.length_eq_zero_iff.1 (by omega)
     rw [if_pos hpa2] at hpa
     have hpr0 : parR x.1.m.ps = [] := by rw [hpa2]; rfl
     rw [hpr0, List.append_nil]
     refine jr (jm ?_)
     refine Ops.r (Run.addT (b := nilT) rfl rfl (by simp only [nilT, List.length_cons, List.length_nil]; omega)) rfl ?_
     refine ja ?_
     refine jo ?_
     refine jn ⟨(), (js5 rfl rfl rfl rfl (by rw [hpa]; rfl)), ?_⟩
     exact rfl
   ·
    rintro _ _ rfl Γ hΓ
    have hps1 := parsS_len (q := q) hq hmd
    have hb7 := hb7.drawn hd
    have K := K.drawn hd
    refine jn (VC.sub _ hΓ ?_)
    refine js (jr (jm ?_))
    refine Ops.r (Run.fieldAddr rfl Tryz.underlying69 rfl Tryz.sizeOf3 (by decide)) rfl ?_
    refine Ops.r (Run.load rfl Tryz.isAgg3 (hb7.cell 1)) rfl ?_
    refine Ops.r (Run.fieldAddr rfl Tryz.underlying69 rfl Tryz.sizeOf3 (by decide)) rfl ?_
    refine Ops.r (Run.load rfl Tryz.isAgg3 (hb7.cell 2)) rfl ?_
    refine Ops.r (Run.sliceT x.1.frm x.1.body rfl Tryz.underlying9 (evB.some_ rfl) (evB.some_ rfl) hfb (by omega)) rfl ?_
    rw [show (q.drop x.1.frm).take (x.1.body - x.1.frm) = sliceQ q x.1.frm x.1.body from rfl]
    have hHl : (sliceQ q x.1.frm x.1.body).length = x.1.body - x.1.frm := sliceQ_ln (by omega)
    have hn3 : nilT.length = 3 := rfl
    have f1 := fieldS_len (sliceQ q x.1.frm x.1.body) cidT nilT 4006 (by omega) (by omega)
    have f2 := fieldS_len (sliceQ q x.1.frm x.1.body) cdsT nilT 4006 (by omega) (by omega)
    have f3 := fieldS_len (sliceQ q x.1.frm x.1.body) cteT (strQ bitT) 4006 (by omega) (by have := strQ_len bitT; have e : bitT.length = 4 := rfl; omega)
    have f4 := decL (x.1.tu - x.1.body)
    have hbit : strQ bitT = [34, 55, 98, 105, 116, 34] := by decide +kernel
    refine ja ?_
    refine jo (jn (jv6 0 1 2 7 10 12 ?_))
    refine js ?_
    refine VC.held (fun W => Frm [] wr W) jK ?_
    have hS : Frm [] wr wr.drew := (Frm.refl _ _).drew
    refine jh 0 rfl hS (fun w0 hw0 => Run.mv rfl) ?_
    refine jh 1 rfl hS (fun w0 hw0 => Run.mv rfl) ?_
    refine jh 5 rfl hS (fun w0 hw0 => Run.mv rfl) ?_
    refine jh 9 rfl hS (fun w0 hw0 => Run.mv rfl) ?_
    refine jh 13 rfl hS (fun w0 hw0 => Run.fieldAddr rfl Tryz.underlying69 rfl Tryz.sizeOf3 (by decide)) ?_
    refine jh 14 rfl hS (fun w0 hw0 => Run.load rfl Tryz.isAgg3 ((hb7.frm hw0 (by simp)).cell 3)) ?_
    refine jh 15 rfl hS (fun w0 hw0 => Run.fieldAddr rfl Tryz.underlying69 rfl Tryz.sizeOf3 (by decide)) ?_
    refine jh 16 rfl hS (fun w0 hw0 => Run.load rfl Tryz.isAgg3 ((hb7.frm hw0 (by simp)).cell 2)) ?_
    refine jh 17 rfl hS (fun w0 hw0 => Run.bin rfl rfl (Bin.sub_i64 x.1.tu x.1.body hbt (by omega))) ?_
    refine HOps.cl 2 rfl jK (Enters.fn (evs.cons rfl (evs.cons rfl (evs.cons rfl evs.nil))) Tryz.call36) ((rfield_spec (sliceQ q x.1.frm x.1.body) cidT nilT _ (by omega) (by decide))) trivial rfl rfl ?_
    rintro e wa ⟨rfl, fwa⟩
    have hS := hS.trans fwa (by simp)
    refine ⟨_, rfl, hS, ?_⟩
    refine jh 3 rfl hS (fun w0 hw0 => Run.addT (a := [32]) rfl rfl (by simp only [List.length_cons, List.length_append, List.length_nil]; omega)) ?_
    refine jh 4 rfl hS (fun w0 hw0 => Run.addT (b := [32]) rfl rfl (by simp only [List.length_cons, List.length_append, List.length_nil]; omega)) ?_
    refine HOps.cl 6 rfl jK (Enters.fn (evs.cons rfl (evs.cons rfl (evs.cons rfl evs.nil))) Tryz.call36) ((rfield_spec (sliceQ q x.1.frm x.1.body) cdsT nilT _ (by omega) (by decide))) trivial rfl rfl ?_
    rintro e wb ⟨rfl, fwb⟩
    have hS := hS.trans fwb (by simp)
    refine ⟨_, rfl, hS, ?_⟩
    refine jh 7 rfl hS (fun w0 hw0 => Run.addT rfl rfl (by simp only [List.length_cons, List.length_append, List.length_nil]; omega)) ?_
    refine jh 8 rfl hS (fun w0 hw0 => Run.addT (b := [32]) rfl rfl (by simp only [List.length_cons, List.length_append, List.length_nil]; omega)) ?_
    refine HOps.cl 10 rfl jK (Enters.fn (evs.cons rfl (evs.cons rfl (evs.cons rfl evs.nil))) Tryz.call36) ((rfield_spec (sliceQ q x.1.frm x.1.body) cteT (strQ bitT) _ (by omega) (by decide))) trivial rfl rfl ?_
    rintro e wc ⟨rfl, fwc⟩
    have hS := hS.trans fwc (by simp)
    refine ⟨_, rfl, hS, ?_⟩
    refine jh 11 rfl hS (fun w0 hw0 => Run.addT rfl rfl (by simp only [List.length_cons, List.length_append, List.length_nil]; omega)) ?_
    refine jh 12 rfl hS (fun w0 hw0 => Run.addT (b := [32]) rfl rfl (by simp only [List.length_cons, List.length_append, List.length_nil]; omega)) ?_
    refine HOps.cl 18 rfl jK (Enters.fn (evs.cons rfl evs.nil) Tryz.call29) ((rdigits_spec (x.1.tu - x.1.body) (by omega) _)) trivial rfl rfl ?_
    rintro e _ ⟨rfl, rfl⟩
    refine ⟨_, rfl, hS, ?_⟩
    refine jh 19 rfl hS (fun w0 hw0 => Run.addT rfl rfl (by simp only [List.length_cons, List.length_append, List.length_nil]; omega)) ?_
    refine jh 20 rfl hS (fun w0 hw0 => Run.addT rfl rfl (by simp only [List.length_cons, List.length_append, List.length_nil]; omega)) ?_
    obtain ⟨o2, ho2⟩ : ∃ o2 : Tx, (o1 ++ parsS x.1.m.ps) ++ (((((([32] ++ fieldS (sliceQ q x.1.frm x.1.body) cidT nilT) ++ [32]) ++ fieldS (sliceQ q x.1.frm x.1.body) cdsT nilT) ++ [32]) ++ fieldS (sliceQ q x.1.frm x.1.body) cteT (strQ bitT)) ++ [32] ++ Lib.decDigits (x.1.tu - x.1.body)) = o2 := ⟨_, rfl⟩
    rw [ho2]
    have no2 : o2.length ≤ 17100000 := by rw [← ho2]; simp only [List.length_cons, List.length_append, List.length_nil]; omega
    refine jh 21 rfl hS (fun w0 hw0 => Run.asg rfl) ?_
    refine HOps.done jK ?_
    refine jn (jv5 0 1 2 7 10 ?_)
    refine js (jr ?_)
    refine Ops.r (v := .int .i64 ((0 : Nat) : Int)) (Run.asg rfl) rfl ?_
    refine jo (jn (js (js (jr ?_))))
    refine Ops.r (Run.fieldAddr rfl Tryz.underlying69 rfl Tryz.sizeOf3 (by decide)) rfl ?_
    refine Ops.r (Run.load rfl Tryz.isAgg3 ((hb7.frm hS (by simp)).cell 2)) rfl ?_
    refine ja ?_
    refine jo (jn (jv7 0 1 2 7 10 13 14 ?_))
    refine jb ?_
    have K := K.trans hS (by simp)
    have hb7 := hb7.frm hS (by simp)
    refine VC.loop (σ := Nat) (fun s => [(0, encStr q), (1, .slice L l.length lc), (2, .int .i64 ((i : Nat) : Int)), (7, .pointer (some ⟨g7, 0, none⟩)), (10, encStr o2), (13, .int .i64 ((((sliceQ q x.1.body s).count 10) : Nat) : Int)), (14, .int .i64 ((s : Nat) : Int))]) (fun s wr => x.1.body ≤ s ∧ s ≤ x.1.tu ∧ wc = wr) (fun s => x.1.tu - s) x.1.body (js7 rfl rfl rfl rfl rfl (by rw [show sliceQ q x.1.body x.1.body = [] by unfold sliceQ; simp]; rfl) rfl) ⟨Nat.le_refl _, hbt, rfl⟩ ?_
    rintro k _ ⟨hk1, hk2, rfl⟩
    refine js (js (jr (jm ?_)))
    refine Ops.r (Run.fieldAddr rfl Tryz.underlying69 rfl Tryz.sizeOf3 (by decide)) rfl ?_
    refine Ops.r (Run.load rfl Tryz.isAgg3 (hb7.cell 3)) rfl ?_
    refine Ops.r (Run.bin rfl rfl (Bin.lssN _ _)) rfl ?_
    refine jo (jn (jv8 0 1 2 7 10 13 14 133 ?_))
    refine VC.condD rfl (fun hc6 => ?_) (fun hc6 => ?_)
    ·
     have hkq : k < q.length := by omega
     have hgx := hdA_at hkq
     have hsn := sliceQ_snoc hk1 hkq
     have hct : (sliceQ q x.1.body (k + 1)).count 10 = (sliceQ q x.1.body k).count 10 + (if hdA q k = 10 then 1 else 0) := by
      rw [hsn, List.count_append, List.count_singleton]
      by_cases h : hdA q k = 10 <;> simp [h]
     have hcl := List.count_le_length (a := (10 : UInt8)) (l := sliceQ q x.1.body k)
     rw [sliceQ_ln (by omega)] at hcl
     have e10 : (hdA q k).toNat = 10 ↔ hdA q k = 10 := u8n rfl
     refine jk (jn (jv7 0 1 2 7 10 13 14 ?_))
     refine js (jb (js (jr (jm ?_))))
     refine jm ?_
     refine Ops.r (Run.indexT _ rfl rfl Tryz.underlying9 hgx) rfl ?_
     refine Ops.r (Run.bin rfl rfl (Bin.eqlN _ 10)) rfl ?_
     refine jo (jn (jv8 0 1 2 7 10 13 14 139 ?_))
     refine VC.meet (σ := Unit) (fun s => [(0, encStr q), (1, .slice L l.length lc), (2, .int .i64 ((i : Nat) : Int)), (7, .pointer (some ⟨g7, 0, none⟩)), (10, encStr o2), (13, .int .i64 ((((sliceQ q x.1.body (k + 1)).count 10) : Nat) : Int)), (14, .int .i64 ((k : Nat) : Int))]) (fun s wz => wc = wz) ?_ ?_
     ·
      refine VC.condD rfl (fun hc7 => ?_) (fun hc7 => ?_)
      ·
       refine jr (jm ?_)
       refine Ops.r (Run.bin rfl rfl (Bin.add_i64 _ 1 (by omega))) rfl ?_
       refine ja ?_
       refine jo ?_
       refine jn ⟨(), (js7 rfl rfl rfl rfl rfl (by rw [hct, if_pos (e10.1 hc7)]; rfl) rfl), ?_⟩
       exact rfl
      ·
       refine jk ?_
       refine jn ⟨(), (js7 rfl rfl rfl rfl rfl (by rw [hct, if_neg (fun g => hc7 (e10.2 g)), Nat.add_zero]; rfl) rfl), ?_⟩
       exact rfl
     ·
      rintro _ _ rfl Γ hΓ
      refine blockQ_n (jn (VC.sub _ hΓ ?_))
      refine jr (jm ?_)
      refine Ops.r (Run.bin rfl rfl (Bin.add_i64 _ 1 (by omega))) rfl ?_
      refine ja ?_
      refine jo ?_
      refine jn ⟨(k + 1), (js7 rfl rfl rfl rfl rfl rfl rfl), ?_, ?_⟩
      ·
       exact ⟨by omega, hc6, rfl⟩
      ·
       first | omega | (dsimp only; omega)
    ·
     have hkt : k = x.1.tu := by omega
     subst hkt
     have hlns : linesS q x.1 = Lib.decDigits ((sliceQ q x.1.body x.1.tu).count 10) := rfl
     have hcl := List.count_le_length (a := (10 : UInt8)) (l := sliceQ q x.1.body x.1.tu)
     rw [sliceQ_ln (by omega)] at hcl
     have f5 := decL ((sliceQ q x.1.body x.1.tu).count 10)
     have hmid : (midL (oneS 64 q P) q P i x.1) = [] ∨ ∃ k : Nat, (midL (oneS 64 q P) q P i x.1) = [envS (sliceQ q (P[k]?.getD x.1).frm (P[k]?.getD x.1).tu), (oneS 64 q P) k, linesS q x.1] ∧ (envS (sliceQ q (P[k]?.getD x.1).frm (P[k]?.getD x.1).tu)).length ≤ 400000000 ∧ ((oneS 64 q P) k).length ≤ 32000000000 ∧ (linesS q x.1).length ≤ 3000 := by
      by_cases g : x.1.kind = 2 ∧ 0 ≤ kidQ P i 1
      ·
       rcases kidQ_res P i 1 with h | ⟨k, y, hky, hkq, hyu⟩
       ·
        omega
       ·
        refine .inr ⟨k, ?_, ?_, hlen k (List.getElem?_eq_some_iff.1 hky).1, ?_⟩
        ·
         rw [midL_yes g hkq hky, hky]; rfl
        ·
         rw [hky]
         exact envS_len (by show (sliceQ q y.frm y.tu).length ≤ 2000; unfold sliceQ; simp; omega)
        ·
         rw [hlns]; omega
      ·
       exact .inl (midL_no g)
     refine jx ?_
     refine thenQ_x (thenQ_x (blockQ_x ?_))
     refine jn (jv6 0 1 2 7 10 13 ?_)
     refine js (js ?_)
     refine VC.split1 [(0, _), (1, _), (2, _), (7, _), (10, _), (13, _)] (js6 rfl rfl rfl rfl rfl rfl) 149 (.bool (decide ((x.1.kind = 2) ∧ (0 < x.1.kids)))) ?_ ?_
     ·
      by_cases hs0 : x.1.kind = 2
      ·
       refine jr ?_
       refine Ops.r (Run.fieldAddr rfl Tryz.underlying69 rfl Tryz.sizeOf3 (by decide)) rfl ?_
       refine Ops.r (Run.load rfl Tryz.isAgg3 (hb7.cell 0)) rfl ?_
       refine Ops.r (Run.bin rfl rfl (Bin.eqlN _ 2)) rfl ?_
       refine jm ?_
       refine Ops.rg rfl au (Run.fieldAddr rfl Tryz.underlying69 rfl Tryz.sizeOf3 (by decide)) rfl ?_
       refine Ops.rg rfl au (Run.load rfl Tryz.isAgg3 (hb7.cell 8)) rfl ?_
       refine Ops.rg rfl au (Run.bin rfl rfl (Bin.gtrN _ 0)) rfl ?_
       refine Ops.r (Run.pickT rfl rfl au) rfl ?_
       refine jo ?_
       refine jn ⟨(js7 (by rw [dand1 hs0]; rfl) rfl rfl rfl rfl rfl rfl), rfl⟩
      ·
       refine jr ?_
       refine Ops.r (Run.fieldAddr rfl Tryz.underlying69 rfl Tryz.sizeOf3 (by decide)) rfl ?_
       refine Ops.r (Run.load rfl Tryz.isAgg3 (hb7.cell 0)) rfl ?_
       refine Ops.r (Run.bin rfl rfl (Bin.eqlN _ 2)) rfl ?_
       refine jm ?_
       refine ju ?_
       refine ju ?_
       refine ju ?_
       refine Ops.r (Run.pickF rfl rfl au) rfl ?_
       refine jo ?_
       refine jn ⟨(js7 (by rw [dand0 hs0]; rfl) rfl rfl rfl rfl rfl rfl), rfl⟩
     ·
      intro Γ hΓ
      refine jn (VC.sub _ hΓ ?_)
      refine VC.meet (σ := Unit) (fun s => [(7, .pointer (some ⟨g7, 0, none⟩)), (10, encStr (o2 ++ ((midL (oneS 64 q P) q P i x.1).flatMap (fun t => 32 :: t)))), (13, .int .i64 ((((sliceQ q x.1.body x.1.tu).count 10) : Nat) : Int))]) (fun s wz => Frm [] w wz ∧ Blk wz g7 69 (PP1 x).toArray) ?_ ?_
      ·
       refine VC.condD rfl (fun hc8 => ?_) (fun hc8 => ?_)
       ·
        have hk0 : 0 ≤ kidQ P i 1 := kid_some.2 (by omega)
        obtain ⟨k, y, hky, hkq, hyu⟩ : ∃ (k : Nat) (p : Prt), P[k]? = some p ∧ kidQ P i 1 = (k : Int) ∧ p.up = i := by
         rcases kidQ_res P i 1 with h | h
         ·
          omega
         ·
          exact h
        have hmy := midL_yes (f := (oneS 64 q P)) (q := q) ⟨hc8.1, hk0⟩ hkq hky
        have hik : i < k := by have := hup k y hky; omega
        have hkl : k < l.length := by have := (List.getElem?_eq_some_iff.1 hky).1; omega
        obtain ⟨hyfb, hybt, hytl, _⟩ := hok k _ hky
        have hyl : (sliceQ q y.frm y.tu).length = y.tu - y.frm := sliceQ_ln hytl
        have hlk : l[k].1 = y := by
         have h2 : P[k]? = some l[k].1 := by rw [← hl, List.getElem?_map, List.getElem?_eq_getElem hkl]; rfl
         rw [hky] at h2
         exact (Option.some.inj h2).symm
        have hfk := hlen k (by omega)
        have hey := envS_len (q := sliceQ q y.frm y.tu) (by omega)
        refine js (jr (jm ?_))
        refine jm ?_
        refine Ops.cl (Enters.fn (evs.cons rfl (evs.cons rfl (evs.cons rfl evs.nil))) Tryz.call69) ((rkid_spec L lc l ((i : Nat) : Int) 1 _ (hrL.frm K (by simp)) (by omega) (by omega) (by omega))) rfl ?_
        rintro e w4 ⟨rfl, f4⟩
        refine ⟨_, rfl, ?_⟩
        have K := K.trans f4 (by simp)
        have hb7 := hb7.frm f4 (by simp)
        rw [hl, hkq]
        refine ja ?_
        refine jo (jn (jv6 0 1 7 10 13 15 ?_))
        refine VC.held (fun W => Frm [] w4 W) jK ?_
        have hS : Frm [] w4 w4.drew := (Frm.refl _ _).drew
        have hLw := fun (W : World) (hW : Frm [] w4 W) => PP_at ((hrL.frm K (by simp)).frm hW (by simp)) hkl
        refine jh 0 rfl hS (fun w0 hw0 => Run.mv rfl) ?_
        refine jh 1 rfl hS (fun w0 hw0 => Run.mv rfl) ?_
        refine jh 2 rfl hS (fun w0 hw0 => Run.mv rfl) ?_
        refine jh 3 rfl hS (fun w0 hw0 => Run.mv rfl) ?_
        refine jh 4 rfl hS (fun w0 hw0 => Run.indexS k (by rw [← hLe]; rfl) rfl Tryz.underlying60 Tryz.sizeOf69 hkl) ?_
        refine jh 5 rfl hS (fun w0 hw0 => Run.fieldAddr rfl Tryz.underlying69 rfl Tryz.sizeOf3 (by decide)) ?_
        refine jh 6 rfl hS (fun w0 hw0 => Run.load rfl Tryz.isAgg3 (by obtain ⟨ad2, he2, hc2_⟩ := hLw _ hw0; cases hLe.symm.trans he2; have := hc2_ 1 _ rfl; rw [hlk] at this; exact this)) ?_
        refine jh 7 rfl hS (fun w0 hw0 => Run.mv rfl) ?_
        refine jh 8 rfl hS (fun w0 hw0 => Run.mv rfl) ?_
        refine jh 9 rfl hS (fun w0 hw0 => Run.indexS k (by rw [← hLe]; rfl) rfl Tryz.underlying60 Tryz.sizeOf69 hkl) ?_
        refine jh 10 rfl hS (fun w0 hw0 => Run.fieldAddr rfl Tryz.underlying69 rfl Tryz.sizeOf3 (by decide)) ?_
        refine jh 11 rfl hS (fun w0 hw0 => Run.load rfl Tryz.isAgg3 (by obtain ⟨ad2, he2, hc2_⟩ := hLw _ hw0; cases hLe.symm.trans he2; have := hc2_ 3 _ rfl; rw [hlk] at this; exact this)) ?_
        refine jh 12 rfl hS (fun w0 hw0 => Run.sliceT y.frm y.tu rfl Tryz.underlying9 (evB.some_ rfl) (evB.some_ rfl) (by omega) (by omega)) ?_
        rw [show (q.drop y.frm).take (y.tu - y.frm) = sliceQ q y.frm y.tu from rfl]
        refine jh 16 rfl hS (fun w0 hw0 => Run.mv rfl) ?_
        refine jh 17 rfl hS (fun w0 hw0 => Run.mv rfl) ?_
        refine jh 18 rfl hS (fun w0 hw0 => Run.mv rfl) ?_
        refine jh 22 rfl hS (fun w0 hw0 => Run.mv rfl) ?_
        refine HOps.cl 13 rfl jK (Enters.fn (evs.cons rfl evs.nil) Tryz.call13) ((renv_spec (sliceQ q y.frm y.tu) _ (by omega))) trivial rfl rfl ?_
        rintro e wd ⟨rfl, fwd⟩
        have hS := hS.trans fwd (by simp)
        refine ⟨_, rfl, hS, ?_⟩
        refine jh 14 rfl hS (fun w0 hw0 => Run.addT (a := [32]) rfl rfl (by simp only [List.length_cons, List.length_append, List.length_nil]; omega)) ?_
        refine jh 15 rfl hS (fun w0 hw0 => Run.addT (b := [32]) rfl rfl (by simp only [List.length_cons, List.length_append, List.length_nil]; omega)) ?_
        refine HOps.cl 19 rfl jK (Enters.fn (evs.cons rfl (evs.cons rfl (evs.cons rfl evs.nil))) Tryz.call39) ((ih k (by omega) (by omega) _ (hrL.frm (K.trans hS (by simp)) (by simp)) (hps.frm0 (K.trans hS (by simp))))) trivial rfl rfl ?_
        rintro e we ⟨rfl, fwe⟩
        have hS := hS.trans fwe (by simp)
        refine ⟨_, rfl, hS, ?_⟩
        refine jh 20 rfl hS (fun w0 hw0 => Run.addT rfl rfl (by simp only [List.length_cons, List.length_append, List.length_nil]; omega)) ?_
        refine jh 21 rfl hS (fun w0 hw0 => Run.addT (b := [32]) rfl rfl (by simp only [List.length_cons, List.length_append, List.length_nil]; omega)) ?_
        refine HOps.cl 23 rfl jK (Enters.fn (evs.cons rfl evs.nil) Tryz.call29) ((rdigits_spec ((sliceQ q x.1.body x.1.tu).count 10) (by omega) _)) trivial rfl rfl ?_
        rintro e _ ⟨rfl, rfl⟩
        refine ⟨_, rfl, hS, ?_⟩
        refine jh 24 rfl hS (fun w0 hw0 => Run.addT rfl rfl (by simp only [List.length_cons, List.length_append, List.length_nil]; omega)) ?_
        refine jh 25 rfl hS (fun w0 hw0 => Run.addT rfl rfl (by simp only [List.length_cons, List.length_append, List.length_nil]; omega)) ?_
        refine jh 26 rfl hS (fun w0 hw0 => Run.asg rfl) ?_
        refine HOps.done jK ?_
        refine jn ⟨(), (js3 rfl (by rw [hmy, hlns]; simp only [List.flatMap_cons, List.flatMap_nil, List.append_assoc, List.cons_append, List.nil_append, List.append_nil]; rfl) rfl), ?_⟩
        exact ⟨K.trans hS (by simp), hb7.frm hS (by simp)⟩
       ·
        have hmy := midL_no (f := (oneS 64 q P)) (q := q) (l := P) (i := i) (p := x.1) (fun g => hc8 ⟨g.1, by have := kid_some.1 g.2; omega⟩)
        refine jk ?_
        refine jn ⟨(), (js3 rfl (by rw [hmy, List.flatMap_nil, List.append_nil]; rfl) rfl), ?_⟩
        exact ⟨K, hb7⟩
      ·
       rintro _ wz ⟨K, hb7⟩ Γ hΓ
       have hmt : ((midL (oneS 64 q P) q P i x.1).flatMap (fun t => 32 :: t)).length ≤ 33000000000 := by
        rcases hmid with h | ⟨k, h⟩
        ·
         rw [h]; simp
        ·
         rw [h.1]; simp only [List.flatMap_cons, List.flatMap_nil, List.length_append, List.length_cons, List.length_nil]; omega
       generalize hmte : ((midL (oneS 64 q P) q P i x.1).flatMap (fun t => 32 :: t)) = mt at *
       refine jn (VC.sub _ hΓ ?_)
       refine js (js (jr ?_))
       refine Ops.r (Run.fieldAddr rfl Tryz.underlying69 rfl Tryz.sizeOf67 (by decide)) rfl ?_
       refine Ops.r (Run.fieldAddr rfl Tryz.underlying67 rfl Tryz.sizeOf9 (by decide)) rfl ?_
       refine Ops.r (Run.load rfl Tryz.isAgg9 (hb7.cell 4)) rfl ?_
       refine Ops.r (Run.eqlT rfl rfl) rfl ?_
       refine jo (jn (jv3 10 13 182 ?_))
       refine VC.meet (σ := Unit) (fun s => [(10, encStr ((o2 ++ mt) ++ (if x.1.m.ty = texT then 32 :: linesS q x.1 else [])))]) (fun s wy => Frm [] w wy) ?_ ?_
       ·
        refine VC.condD rfl (fun hc9 => ?_) (fun hc9 => ?_)
        ·
         refine jr (jm ?_)
         refine jm ?_
         refine Ops.cl (Enters.fn (evs.cons rfl evs.nil) Tryz.call29) ((rdigits_spec ((sliceQ q x.1.body x.1.tu).count 10) (by omega) _)) rfl ?_
         rintro e _ ⟨rfl, rfl⟩
         refine ⟨_, rfl, ?_⟩
         refine Ops.r (Run.addT (a := [32]) rfl rfl (by simp only [List.length_cons, List.length_append, List.length_nil]; omega)) rfl ?_
         refine Ops.r (Run.addT rfl rfl (by simp only [List.length_cons, List.length_append, List.length_nil]; omega)) rfl ?_
         refine ja ?_
         refine jo ?_
         refine jn ⟨(), (js1 (by rw [if_pos (show x.1.m.ty = texT from hc9), hlns]; rfl)), ?_⟩
         exact K
        ·
         refine jk ?_
         refine jn ⟨(), (js1 (by rw [if_neg (show ¬ x.1.m.ty = texT from hc9), List.append_nil]; rfl)), ?_⟩
         exact K
       ·
        rintro _ wy K Γ hΓ
        have hfin : ((o2 ++ mt) ++ (if x.1.m.ty = texT then 32 :: linesS q x.1 else [])) ++ [41] = listQ (leafL q x.1 (midL (oneS 64 q P) q P i x.1)) := by
         rw [← ho2, ← hmte, ← ho1]
         unfold leafL leaf7 listQ
         rcases hmid with h | ⟨k, h, _⟩
         ·
          rw [h]; by_cases ht : x.1.m.ty = texT <;> simp [ht, jnQ]
         ·
          rw [h]; by_cases ht : x.1.m.ty = texT <;> simp [ht, jnQ]
        have htl2 : ((if x.1.m.ty = texT then 32 :: linesS q x.1 else []) : Tx).length ≤ 3001 := by
         split
         ·
          rw [hlns, List.length_cons]; omega
         ·
          simp
        generalize ((if x.1.m.ty = texT then 32 :: linesS q x.1 else []) : Tx) = tt at *
        refine jn (VC.sub _ hΓ ?_)
        refine js (jr (jm ?_))
        refine Ops.r (Run.addT (b := [41]) rfl rfl (by simp only [List.length_cons, List.length_append, List.length_nil]; omega)) rfl ?_
        rw [hfin]
        refine ja ?_
        refine jo (jn (jv1 6 ?_))
        refine jt ?_
        refine end1 rfl ?_
        exact ⟨rfl, K⟩
end Go.Proofs.YtenbjndldenkfaaGreatDoor
namespace Go.Proofs.YtenbjndldenkfaaGreatDoor
open Go.RowKit Go.Sort
theorem rshape_spec (q : Tx) (L : Option Addr) (lc : Nat) (l : List Pc) (hl : l.map (·.1) = partsQ q) (hq : q.length ≤ 2000) :
  ∀ (n i : Nat), l.length - i ≤ n → i < l.length → ∀ w, Rd w 9 L l.length (PP l) → OwnPs w l → Calls Tryz.prog 39 #[encStr q, .slice L l.length lc, .int .i64 ((i : Nat) : Int)] w fun e w' => e = .returned (encStr (oneS 64 q (partsQ q) i)) ∧ Frm [] w w' := by
 obtain ⟨hok, h64, _⟩ := parts_ok q
 intro n
 induction n with
 | zero => intro i h hi; omega
 | succ n ihn =>
  intro i h hi
  exact rshape_step q L lc l (partsQ q) hl hq h64 (fun k p h => (parts_kids q k p h).2) (fun k p h => ⟨(hok k p h).1, (hok k p h).2.1, (hok k p h).2.2.1, trivial⟩) (parts_med q) (parts_kids q) (fun i hi => oneS_len hq (by omega) hi) i hi (fun k hk hkl => ihn k (by omega) hkl)
set_option maxRecDepth 100000 in
theorem rbody_spec (q : Tx) (w : World) (hq : q.length ≤ 2000) : Calls Tryz.prog 16 #[encStr q] w fun e w' => e = .returned (encStr (bodyS q)) ∧ Frm [] w w' := by
 have K := Frm.refl [] w
 refine VC.calls (nt := 7) (res := #[.tmp 2]) Tryz.func16 rfl Tryz.ntmps16 Tryz.results16 rfl ?_
 refine js (jr (ja ?_))
 refine jo (jn (jv1 0 ?_))
 refine js (jr (jm ?_))
 refine jm ?_
 refine Ops.cl (Enters.fn (evs.cons rfl evs.nil) Tryz.call40) ((rof_spec q _ (by omega))) rfl ?_
 rintro e w1 ⟨f1, l, LA, lc, hl, rfl, hO, hOP⟩
 refine ⟨_, rfl, ?_⟩
 have K := K.trans f1 (by simp)
 have h0 : 0 < l.length := by
  obtain ⟨_, _, p, hp, _⟩ := parts_ok q
  rw [← hl] at hp
  have := (List.getElem?_eq_some_iff.1 hp).1
  simpa using this
 refine Ops.cl (Enters.fn (evs.cons rfl (evs.cons rfl (evs.cons rfl evs.nil))) Tryz.call39) ((rshape_spec q LA lc l hl hq l.length 0 (by omega) h0 _ hO.rd hOP)) rfl ?_
 rintro e w2 ⟨rfl, f2⟩
 refine ⟨_, rfl, ?_⟩
 have K := K.trans f2 (by simp)
 refine ja ?_
 refine jo (jn (jv1 2 ?_))
 refine jt ?_
 refine end1 rfl ?_
 exact ⟨rfl, K⟩
set_option maxRecDepth 100000 in
set_option maxHeartbeats 800000 in
theorem sbod_walk (A : Option Addr) (c : Nat) (q0 : Tx) (w : World) (ht : Tab w) (hrd : Rd w 1 A q0.length (U8 q0)) (hc : q0.length ≤ c) :
  Calls Tryz.prog 4 #[.slice A q0.length c] w fun e w' => e = .returned (.bool true) ∧ Frm [] w w' := by
 refine VC.calls (nt := 14) (res := #[.tmp 2]) Tryz.func4 rfl Tryz.ntmps4 Tryz.results4 rfl ?_
 refine js (jr (ja ?_))
 refine jo (jn (jv1 0 ?_))
 refine js (jr (jm ?_))
 refine Ops.cl (Enters.fn (evs.cons rfl evs.nil) Tryz.call9) ((few20_spec A c q0 _ hrd hc)) rfl ?_
 rintro e _ ⟨rfl, A1, c1, rfl, hrq, hc1l⟩
 refine ⟨_, rfl, ?_⟩
 have hq1 : (q0.take 1200).length ≤ 1200 := by simp; omega
 generalize q0.take 1200 = q at *
 refine ja ?_
 refine jo (jn (jv1 0 ?_))
 refine js ?_
 refine VC.held (fun W => Frm [] w W) jK ?_
 have hS : Frm [] w w.drew := (Frm.refl _ _).drew
 refine jh 0 rfl hS (fun w0 hw0 => Run.mv rfl) ?_
 refine jh 2 rfl hS (fun w0 hw0 => Run.mv rfl) ?_
 refine jh 3 rfl hS (fun w0 hw0 => Run.strOfT rfl Tryz.underlying22 Tryz.underlying5 Tryz.underlying9 (hrq.frm hw0 (by simp))) ?_
 refine HOps.cl 1 rfl jK (Enters.fn (evs.cons rfl evs.nil) Tryz.call15) ((body_spec A1 c1 q _ (ht.frm hS) (hrq.frm hS (by simp)) (by omega) hc1l)) trivial rfl rfl ?_
 rintro e w1 ⟨rfl, fw1⟩
 have hS := hS.trans fw1 (by simp)
 refine ⟨_, rfl, hS, ?_⟩
 refine HOps.cl 4 rfl jK (Enters.fn (evs.cons rfl evs.nil) Tryz.call16) ((rbody_spec q _ (by omega))) trivial rfl rfl ?_
 rintro e w2 ⟨rfl, fw2⟩
 have hS := hS.trans fw2 (by simp)
 refine ⟨_, rfl, hS, ?_⟩
 refine jh 5 rfl hS (fun w0 hw0 => Run.eqlT rfl rfl) ?_
 refine jh 6 rfl hS (fun w0 hw0 => Run.mv rfl) ?_
 refine HOps.cl 7 rfl jK (Enters.fn evs.nil Tryz.call14) ((awake22_spec _ (ht.frm hS))) (Up.g rfl au) rfl rfl ?_
 rintro e w3 ⟨rfl, fw3⟩
 have hS := hS.trans fw3 (by simp)
 refine ⟨_, rfl, hS, ?_⟩
 refine jh 8 rfl hS (fun w0 hw0 => Run.pickT rfl rfl au) ?_
 refine jh 9 rfl hS (fun w0 hw0 => Run.asg rfl) ?_
 refine HOps.done jK ?_
 refine jn (jv1 2 ?_)
 refine jt ?_
 refine end1 rfl ?_
 exact ⟨by simp, hS⟩
end Go.Proofs.YtenbjndldenkfaaGreatDoor
