/-
  The walk of limit.sorted: the coins of counts, in order.
-/
import Derived.Test.YtebaojedpnnliaaLimW
namespace Go.Proofs.Ytebaojedpnnliaa
open Go.RowKit

/-- What a package is, without places. -/
def PkC.abs (p : PkC) : Nat × List Nat := (p.count, p.sy)
def keyA (x : Nat × List Nat) : Nat := x.1 * 1024 + x.2.headD 0
theorem key_abs (p : PkC) : p.key = keyA p.abs := rfl
def coinsTo (cs : List Nat) (n : Nat) : List (Nat × List Nat) := ((List.range n).filter fun k => 0 < cs.getD k 0).map fun k => (cs.getD k 0, [k])
theorem coinsTo_succ (cs : List Nat) (n : Nat) : coinsTo cs (n + 1) = coinsTo cs n ++ if 0 < cs.getD n 0 then [(cs.getD n 0, [n])] else [] := by
  unfold coinsTo
  rw [List.range_succ, List.filter_append, List.map_append]
  congr 1
  by_cases h : 0 < cs.getD n 0
  · rw [if_pos h, List.filter_cons_of_pos (by simpa using h)]; rfl
  · rw [if_neg h, List.filter_cons_of_neg (by simpa using h)]; rfl
theorem coinsTo_nodup (cs : List Nat) (n : Nat) (hn : n ≤ 1024) : ((coinsTo cs n).map keyA).Nodup := by
  unfold coinsTo
  rw [List.map_map]
  refine List.Pairwise.of_map (S := (· ≠ ·)) (fun x => x % 1024) (fun a b h e => h (by rw [e])) ?_
  rw [List.map_map]
  have e : ((List.range n).filter fun k => decide (0 < cs.getD k 0)).map ((fun x => x % 1024) ∘ (keyA ∘ fun k => (cs.getD k 0, [k]))) = ((List.range n).filter fun k => decide (0 < cs.getD k 0)).map id := by
    apply List.map_congr_left
    intro k hk
    have hk2 := (List.mem_filter.1 hk).1
    simp at hk2
    simp [keyA]
    omega
  rw [e, List.map_id]
  exact List.Pairwise.filter _ List.nodup_range
theorem coinsTo_mem {cs : List Nat} {n : Nat} {x : Nat × List Nat} (h : x ∈ coinsTo cs n) : ∃ k, k < n ∧ 0 < cs.getD k 0 ∧ x = (cs.getD k 0, [k]) := by
  obtain ⟨k, hk, rfl⟩ := List.mem_map.1 h
  obtain ⟨h1, h2⟩ := List.mem_filter.1 hk
  exact ⟨k, by simpa using h1, by simpa using h2, rfl⟩
theorem one_of {cs : List Nat} {n : Nat} {ps : List PkC} (h : (ps.map PkC.abs).Perm (coinsTo cs n)) (hn : n ≤ 1000) : One ps := by
  intro p hp
  have : p.abs ∈ coinsTo cs n := h.mem_iff.1 (List.mem_map_of_mem hp)
  obtain ⟨k, h1, _, h2⟩ := coinsTo_mem this
  have h3 : p.sy = [k] := congrArg Prod.snd h2
  exact ⟨k, h3, by omega⟩
/-- The coins of counts, in order. -/
def IsCoins (cs : List Nat) (l : List (Nat × List Nat)) : Prop := l.Perm (coinsTo cs cs.length) ∧ l.Pairwise fun a b => keyA a < keyA b
def UpP (B : Nat) (A : Option Addr) (ps : List PkC) : Prop := (∀ x ∈ ob A, B ≤ x) ∧ ∀ p ∈ ps, ∀ x ∈ ob p.A, B ≤ x

set_option maxRecDepth 100000 in
theorem sorted_spec (A0 : Option Addr) (c0 : Nat) (cs : List Nat) (w : World) (hl : cs.length ≤ 320) (hcs : ∀ x ∈ cs, x ≤ 2147483647) (hr : Rd w 1 A0 cs.length (NI cs)) :
    Calls Try.prog 58 #[.slice A0 cs.length c0] w fun e w' => ∃ B c ps, e = .returned (.slice B ps.length c) ∧ Pks w' B c ps ∧ IsCoins cs (ps.map PkC.abs) ∧ Frm [] w w' ∧ UpP w.heap.size B ps := by
  refine VC.calls (nt := 41) (res := #[.tmp 2]) Try.func58 rfl Try.ntmps58 Try.results58 rfl ?_
  refine VC.seq ?_
  refine VC.region ?_
  refine Ops.r (Run.asg rfl) rfl ?_
  refine Ops.nil ?_
  refine thenQ_n ?_
  refine VC.sub [(0, _)] (.cons rfl .nil) ?_
  refine VC.seq ?_
  refine VC.region ?_
  refine Ops.m (Does.buildS0 Try.underlying108 Try.sizeOf100) rfl ?_
  rintro _ w1 ⟨rfl, hF1⟩
  have ho1 : Own w1 100 2 (some ⟨w.heap.size, 0, none⟩) 0 0 [] := Own.of_blk hF1.blk rfl (by simp [maxLen])
  have hs1 := hF1.size
  refine Ops.m (Does.box rfl) rfl ?_
  rintro _ w2 ⟨rfl, hF2⟩
  have hb2 : Blk w2 w1.heap.size 108 #[.slice (some ⟨w.heap.size, 0, none⟩) 0 0] := hF2.blk
  have hfr2 := hF1.frm.own hF2.frm (by simp)
  have hC2 : IsC w2 w1.heap.size (some ⟨w.heap.size, 0, none⟩) 0 [] := ⟨hb2, ho1.frm hF2.frm (by simp), by simp⟩
  have hg1 := hF1.frm.size
  generalize hg : w1.heap.size = g at *
  refine Ops.r (Run.asg rfl) rfl ?_
  refine Ops.nil ?_
  refine thenQ_n ?_
  refine VC.sub [(0, _), (3, _)] (.cons rfl (.cons rfl .nil)) ?_
  refine VC.seq ?_
  refine VC.seq ?_
  refine VC.region ?_
  refine Ops.r (Run.mv rfl) rfl ?_
  refine Ops.r (Run.lenS rfl Try.underlying54) rfl ?_
  refine Ops.r (v := .int .i64 ((0 : Nat) : Int)) (Run.mv rfl) rfl ?_
  refine Ops.nil ?_
  refine thenQ_n ?_
  refine VC.sub [(3, _), (10, _), (11, _), (12, _)] (.cons rfl (.cons rfl (.cons rfl (.cons rfl .nil)))) ?_
  refine VC.block ?_
  refine VC.loop (σ := Nat × Option Addr × Nat × List PkC) (fun s => [(3, .pointer (some ⟨g, 0, none⟩)), (10, .slice A0 cs.length c0), (11, .int .i64 ((cs.length : Nat) : Int)), (12, .int .i64 ((s.1 : Nat) : Int))]) (fun s wr => s.1 ≤ cs.length ∧ (s.2.2.2.map PkC.abs).Perm (coinsTo cs s.1) ∧ HeapOk (kk s.2.2.2) s.2.2.2.length ∧ IsC wr g s.2.1 s.2.2.1 s.2.2.2 ∧ Frm [] w wr ∧ UpP w.heap.size s.2.1 s.2.2.2) (fun s => cs.length - s.1) (0, some ⟨w.heap.size, 0, none⟩, 0, []) (.cons (by rw [← hg]; rfl) (.cons rfl (.cons rfl (.cons rfl .nil)))) ⟨by omega, by simp [coinsTo], fun i _ h => by simp at h, hC2, hfr2, by simp [ob], by simp⟩ ?_
  rintro ⟨i, A, c, hs⟩ wr ⟨hi, hpm, hh, hC, hfr, huA, hup⟩
  dsimp only at hi hpm hh hC hfr huA hup ⊢
  have hlen : hs.length ≤ i := by
    have h5 := hpm.length_eq
    rw [List.length_map] at h5
    rw [h5]
    unfold coinsTo
    rw [List.length_map]
    exact Nat.le_trans (List.length_filter_le _ _) (by simp)
  refine VC.seq ?_
  refine VC.region ?_
  refine Ops.r (Run.bin rfl rfl (Bin.lssN _ _)) rfl ?_
  refine Ops.nil ?_
  refine thenQ_n ?_
  refine VC.seq ?_
  refine VC.condD rfl (fun hc1 => ?_) (fun hc1 => ?_)
  · skip
    obtain ⟨ad, rfl, hcell⟩ := NI_at (hr.belowW hfr.below) hc1
    have hgt : cs.getD i 0 = cs[i] := by simp [List.getD, List.getElem?_eq_getElem hc1]
    have hx := hcs _ (List.getElem_mem hc1)
    have hct := coinsTo_succ cs i
    rw [hgt] at hct
    generalize cs[i] = x at *
    refine VC.skip ?_
    refine thenQ_n ?_
    refine VC.sub [(3, _), (10, _), (11, _), (12, _)] (.cons rfl (.cons rfl (.cons rfl (.cons rfl .nil)))) ?_
    refine VC.seq ?_
    refine VC.block ?_
    refine VC.seq ?_
    refine VC.region ?_
    refine Ops.r (Run.mv rfl) rfl ?_
    refine Ops.r (Run.index1 _ rfl rfl Try.underlying54 Try.sizeOf3 (by omega)) rfl ?_
    refine Ops.r (Run.load rfl Try.isAgg3 hcell) rfl ?_
    refine Ops.r (Run.asg rfl) rfl ?_
    refine Ops.r (Run.asg rfl) rfl ?_
    refine Ops.nil ?_
    refine thenQ_n ?_
    refine VC.sub [(3, _), (4, _), (5, _), (10, _), (11, _), (12, _)] (.cons rfl (.cons rfl (.cons rfl (.cons rfl (.cons rfl (.cons rfl .nil)))))) ?_
    refine VC.seq ?_
    refine VC.region ?_
    refine Ops.r (Run.mv rfl) rfl ?_
    refine Ops.r (Run.bin rfl rfl (Bin.gtrN _ 0)) rfl ?_
    refine Ops.nil ?_
    refine thenQ_n ?_
    refine VC.sub [(3, _), (4, _), (5, _), (10, _), (11, _), (12, _), (18, _)] (.cons rfl (.cons rfl (.cons rfl (.cons rfl (.cons rfl (.cons rfl (.cons rfl .nil))))))) ?_
    refine VC.condD rfl (fun hc2 => ?_) (fun hc2 => ?_)
    · skip
      refine VC.region ?_
      refine Ops.r (Run.mv rfl) rfl ?_
      refine Ops.r (Run.mkIface rfl Try.underlying107 rfl) rfl ?_
      refine Ops.r (Run.mv rfl) rfl ?_
      refine Ops.r (Run.mv rfl) rfl ?_
      refine Ops.m (Does.buildS1 rfl Try.underlying54 Try.sizeOf3 zero3 (by decide) (by decide) rfl rfl) rfl ?_
      rintro _ w3 ⟨rfl, hF3⟩
      have hp3 : PkOk w3 ⟨x, some ⟨wr.heap.size, 0, none⟩, 1, [i]⟩ := Own.of_blk hF3.blk rfl (by simp [maxLen])
      have hC3 : IsC w3 g A c hs := ⟨hC.1.frm hF3.frm (by simp), hC.2.frm hF3.frm (by simp) (fun _ _ _ _ => by simp)⟩
      have hfr3 := hfr.own hF3.frm (by simp)
      have hsz := hfr.size
      refine Ops.r (Run.build (evs.cons rfl (evs.cons rfl evs.nil)) zero100 (places100).choose_spec.1 (places100).choose_spec.2 rfl) rfl ?_
      refine Ops.r (Run.mkIface rfl Try.underlying100 rfl) rfl ?_
      refine Ops.cl (Enters.fn (evs.cons rfl (evs.cons rfl evs.nil)) Try.call63) (hPush_spec g c A hs ⟨x, some ⟨wr.heap.size, 0, none⟩, 1, [i]⟩ _ hC3 (by omega) hp3 hh (one_of hpm (by omega)) ⟨i, rfl, by omega⟩) rfl ?_
      rintro e w4 ⟨rfl, A4, c4, qs, hq, hh4, hC4, hf4, hA4⟩
      refine ⟨_, rfl, ?_⟩
      have hfr4 := hfr3.own hf4 (up_cons hg1 huA)
      refine Ops.nil ?_
      refine blockQ_n (thenQ_n ?_)
      refine VC.sub [(3, _), (10, _), (11, _), (12, _)] (.cons rfl (.cons rfl (.cons rfl (.cons rfl .nil)))) ?_
      refine VC.region ?_
      refine Ops.r (Run.bin rfl rfl (Bin.add_i64 _ 1 (by omega))) rfl ?_
      refine Ops.r (Run.mv rfl) rfl ?_
      refine Ops.nil ?_
      refine thenQ_n ⟨(i + 1, A4, c4, qs), (.cons rfl (.cons rfl (.cons rfl (.cons rfl .nil)))), ?_, ?_⟩
      · skip
        refine ⟨by dsimp only; omega, ?_, hh4, hC4, hfr4, up_step huA hA4 hfr3.size, ?_⟩
        · dsimp only
          rw [hct, if_pos (by omega)]
          refine (hq.map PkC.abs).trans ?_
          rw [List.map_cons]
          exact ((List.Perm.cons _ hpm).trans (List.perm_append_singleton _ _).symm)
        · intro p hp y hy
          rcases List.mem_cons.1 (hq.mem_iff.1 hp) with h5 | h5
          · subst h5; simp [ob] at hy; omega
          · exact hup p h5 y hy
      · skip
        first | omega | (dsimp only; omega)
    · skip
      refine VC.skip ?_
      refine blockQ_n (thenQ_n ?_)
      refine VC.sub [(3, _), (10, _), (11, _), (12, _)] (.cons rfl (.cons rfl (.cons rfl (.cons rfl .nil)))) ?_
      refine VC.region ?_
      refine Ops.r (Run.bin rfl rfl (Bin.add_i64 _ 1 (by omega))) rfl ?_
      refine Ops.r (Run.mv rfl) rfl ?_
      refine Ops.nil ?_
      refine thenQ_n ⟨(i + 1, A, c, hs), (.cons rfl (.cons rfl (.cons rfl (.cons rfl .nil)))), ?_, ?_⟩
      · skip
        refine ⟨by dsimp only; omega, ?_, hh, hC, hfr, huA, hup⟩
        dsimp only
        rw [hct, if_neg (by omega), List.append_nil]
        exact hpm
      · skip
        first | omega | (dsimp only; omega)
  · skip
    have hin : i = cs.length := by omega
    subst hin
    refine VC.exit ?_
    refine thenQ_x (thenQ_x (blockQ_x ?_))
    refine thenQ_n ?_
    refine VC.sub [(3, _)] (.cons rfl .nil) ?_
    refine VC.seq ?_
    refine VC.region ?_
    refine Ops.r (Run.asg rfl) rfl ?_
    refine Ops.nil ?_
    refine thenQ_n ?_
    refine VC.seq ?_
    refine VC.seq ?_
    refine VC.region ?_
    refine Ops.r (Run.mv rfl) rfl ?_
    refine Ops.r (Run.mkFunc (evs.cons rfl evs.nil) evs.nil) rfl ?_
    refine Ops.r (Run.asg rfl) rfl ?_
    refine Ops.nil ?_
    refine thenQ_n ?_
    refine VC.sub [(3, _), (6, _), (7, _)] (.cons rfl (.cons rfl (.cons rfl .nil))) ?_
    refine VC.block ?_
    refine VC.loop (σ := List PkC × List PkC × Option Addr × Nat × Option Addr × Nat) (fun s => [(3, .pointer (some ⟨g, 0, none⟩)), (6, .slice s.2.2.1 s.1.length s.2.2.2.1), (7, .func (.func 64) #[.pointer (some ⟨g, 0, none⟩)] #[])]) (fun s wr => ((s.1 ++ s.2.1).map PkC.abs).Perm (coinsTo cs cs.length) ∧ HeapOk (kk s.2.1) s.2.1.length ∧ s.1.Pairwise (fun a b => a.key < b.key) ∧ (∀ p ∈ s.1, ∀ q ∈ s.2.1, p.key < q.key) ∧ IsC wr g s.2.2.2.2.1 s.2.2.2.2.2 s.2.1 ∧ Pks wr s.2.2.1 s.2.2.2.1 s.1 ∧ Frm [] w wr ∧ (∀ x ∈ ob s.2.2.2.2.1, w.heap.size ≤ x) ∧ UpP w.heap.size s.2.2.1 (s.1 ++ s.2.1) ∧ (∀ x ∈ ob s.2.2.1, x ∉ ob s.2.2.2.2.1)) (fun s => s.2.1.length) ([], hs, none, 0, A, c) (.cons rfl (.cons rfl (.cons rfl .nil))) ⟨by simpa using hpm, hh, .nil, by simp, hC, ⟨Own.nil _ _ _, by simp⟩, hfr, huA, ⟨up_nil, by simpa using hup⟩, by simp [ob]⟩ ?_
    clear hpm hh hC hfr huA hup hlen
    rintro ⟨ps, hs, B, cb, A, c⟩ wr ⟨hpm, hh, hpw, hlt, hC, hP, hfr, huA, ⟨huB, hup⟩, hAB⟩
    dsimp only at hpm hh hpw hlt hC hP hfr huA huB hup hAB ⊢
    have hlen : ps.length + hs.length ≤ cs.length := by
      have h5 := hpm.length_eq
      rw [List.length_map, List.length_append] at h5
      rw [h5]
      unfold coinsTo
      rw [List.length_map]
      exact Nat.le_trans (List.length_filter_le _ _) (by simp)
    refine VC.seq ?_
    refine VC.seq ?_
    refine VC.region ?_
    refine Ops.r (Run.mv rfl) rfl ?_
    refine Ops.cl (Enters.dyn rfl evs.nil Try.call64) (cLen_spec g c A _ _ hC) rfl ?_
    rintro e _ ⟨rfl, rfl⟩
    refine ⟨_, rfl, ?_⟩
    refine Ops.r (Run.bin rfl rfl (Bin.gtrN _ 0)) rfl ?_
    refine Ops.nil ?_
    refine thenQ_n ?_
    refine VC.sub [(3, _), (6, _), (7, _), (32, _)] (.cons rfl (.cons rfl (.cons rfl (.cons rfl .nil)))) ?_
    refine VC.condD rfl (fun hc3 => ?_) (fun hc3 => ?_)
    · skip
      refine VC.skip ?_
      refine thenQ_n ?_
      refine VC.sub [(3, _), (6, _), (7, _)] (.cons rfl (.cons rfl (.cons rfl .nil))) ?_
      refine VC.block ?_
      refine VC.region ?_
      refine Ops.r (Run.mv rfl) rfl ?_
      refine Ops.r (Run.mv rfl) rfl ?_
      refine Ops.r (Run.mkIface rfl Try.underlying107 rfl) rfl ?_
      refine Ops.cl (Enters.fn (evs.cons rfl evs.nil) Try.call65) (hPop_spec g c A hs _ hC (by omega) hc3 hh (fun p hp => one_of hpm (by omega) p (by simp [hp]))) rfl ?_
      rintro e w3 ⟨p, qs, rfl, hq, hmin, hh3, hC3, hp3, hf3⟩
      refine ⟨_, rfl, ?_⟩
      have hfr3 := hfr.own hf3 (up_cons hg1 huA)
      have hgB : g ∉ ob B := hP.1.ne_blk hC.1 (by decide)
      have hP3 : Pks w3 B cb ps := hP.frm hf3 (fun x hx hx2 => by
          rcases List.mem_cons.1 hx2 with h5 | h5
          · subst h5; exact hgB hx
          · exact hAB x hx h5) (fun q hq x hx hx2 => by
          rcases List.mem_cons.1 hx2 with h5 | h5
          · subst h5; exact (hP.2 q hq).ne_blk hC.1 (by decide) hx
          · exact (hP.2 q hq).ne_own hC.2.1 (by decide) x hx h5)
      refine Ops.r (Run.assertT rfl Try.underlying100 rfl) rfl ?_
      refine Ops.m (Does.buildS1 rfl Try.underlying97 Try.sizeOf100 zero100 (by decide) (by decide) rfl rfl) rfl ?_
      rintro _ w5 ⟨rfl, hF5⟩
      have hrd5 : Rd w5 2 (some ⟨w3.heap.size, 0, none⟩) 1 p.cells := Rd.of_blk (n := 1) (size := 2) hF5.blk rfl
      have ho5 := hP3.1.frm hF5.frm (by simp)
      have hfr5 := hfr3.own hF5.frm (by simp)
      refine Ops.m (Does.app rfl rfl Try.underlying97 (info100) rfl (by decide) ho5 hrd5 p.one (by omega) (by omega)) rfl ?_
      rintro _ w6 ⟨B6, c6, rfl, ho6, hf6, hob6⟩
      have hfr6 := hfr5.own hf6 huB
      have hf36 : Frm (ob B) w3 w6 := (hF5.frm.mono (T := ob B) (by simp)).trans hf6 (fun x hx => .inl hx)
      refine Ops.r (Run.asg rfl) rfl ?_
      refine Ops.nil ?_
      have hl1 : (ps ++ [p]).length = ps.length + 1 := List.length_append
      refine blockQ_n (thenQ_n ⟨(ps ++ [p], qs, B6, c6, A, c), (.cons rfl (.cons (by rw [hl1]; rfl) (.cons rfl .nil))), ?_, ?_⟩)
      · skip
        have hnd : ((ps ++ hs).map PkC.key).Nodup := by
          have h5 := (hpm.map keyA).nodup_iff.2 (coinsTo_nodup cs cs.length (by omega))
          rw [List.map_map] at h5
          exact h5
        have hpin : p ∈ hs := hq.mem_iff.1 (by simp)
        have hne : ∀ q ∈ qs, p.key ≠ q.key := by
          intro q hqq
          rw [List.map_append] at hnd
          have h5 := (List.nodup_append.1 hnd).2.1
          have h6 := ((hq.map PkC.key).nodup_iff).2 h5
          rw [List.map_append] at h6
          have h7 := (List.nodup_append.1 h6).2.2 q.key (List.mem_map_of_mem hqq) p.key (by simp)
          exact fun e => h7 e.symm
        have hgA := hC3.neA
        have hC6 : IsC w6 g A c qs := ⟨hC3.1.frm hf36 hgB, hC3.2.frm hf36 (fun x hx hx2 => hAB x hx2 hx) (fun q hqq => (hC3.2.2 q hqq).ne_own hP3.1 (by decide))⟩
        have hp6 : PkOk w6 p := hp3.frm hf36 (hp3.ne_own hP3.1 (by decide))
        refine ⟨?_, hh3, ?_, ?_, hC6, ⟨?_, ?_⟩, hfr6, huA, ⟨up_app huB hob6 hfr5.size, ?_⟩, ?_⟩
        · dsimp only
          refine List.Perm.trans (List.Perm.map _ ?_) hpm
          rw [List.append_assoc]
          exact List.Perm.append_left ps ((List.perm_append_comm).trans hq)
        · dsimp only
          rw [List.pairwise_append]
          exact ⟨hpw, by simp, fun a ha b hb => by simp at hb; subst hb; exact hlt a ha _ hpin⟩
        · intro a ha q hqq
          rcases List.mem_append.1 ha with h5 | h5
          · exact hlt a h5 q (hq.mem_iff.1 (by simp [hqq]))
          · simp at h5
            subst h5
            have h6 := hmin q (hq.mem_iff.1 (by simp [hqq]))
            have h7 := hne q hqq
            omega
        · dsimp only
          rw [hl1, List.flatMap_append]
          simpa using ho6
        · intro a ha
          rcases List.mem_append.1 ha with h5 | h5
          · exact (hP3.2 a h5).frm hf36 ((hP3.2 a h5).ne_own hP3.1 (by decide))
          · simp at h5; subst h5; exact hp6
        · intro a ha
          rcases List.mem_append.1 ha with h5 | h5
          · rcases List.mem_append.1 h5 with h6 | h6
            · exact hup a (by simp [h6])
            · simp at h6; subst h6; exact hup _ (by simp [hpin])
          · exact hup a (by simp; exact .inr (hq.mem_iff.1 (by simp [h5])))
        · intro x hx hx2
          rcases hob6 with h5 | h5 <;> rw [h5] at hx
          · exact hAB x hx hx2
          · simp at hx
            have h6 := hC3.2.1.lt x hx2
            have h7 := hF5.frm.size
            omega
      · skip
        have h5 := hq.length_eq
        simp at h5
        dsimp only
        omega
    · skip
      have hnil : hs = [] := List.eq_nil_of_length_eq_zero (by omega)
      subst hnil
      rw [List.append_nil] at hpm hup
      refine VC.exit ?_
      refine thenQ_x (thenQ_x (blockQ_x ?_))
      refine thenQ_n ?_
      refine VC.sub [(6, _)] (.cons rfl .nil) ?_
      refine VC.seq ?_
      refine VC.region ?_
      refine Ops.r (Run.mv rfl) rfl ?_
      refine Ops.r (Run.asg rfl) rfl ?_
      refine Ops.nil ?_
      refine thenQ_n ?_
      refine VC.sub [(2, _)] (.cons rfl .nil) ?_
      refine VC.ret ?_
      refine end1 rfl ?_
      exact ⟨B, cb, ps, rfl, hP, ⟨hpm, by rw [List.pairwise_map]; exact hpw⟩, hfr, huB, hup⟩

end Go.Proofs.Ytebaojedpnnliaa
