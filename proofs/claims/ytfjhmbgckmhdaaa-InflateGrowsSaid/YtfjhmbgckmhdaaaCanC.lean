/-
  The walks of package canon: codes, the decoder, and what it takes.
-/
import Derived.Test.YtfjhmbgckmhdaaaCanW
namespace Go.Proofs.Ytfjhmbgckmhdaaa
open Go.RowKit

def CB (c : Nat × Int) : List Value := [.int .u64 ((c.1 : Nat) : Int), .int .i64 c.2]
theorem CB_len (c : Nat × Int) : (CB c).length = 2 := rfl
theorem CB_one (c : Nat × Int) : ∀ v ∈ CB c, v.oneCell' = true := by
  intro v hv
  simp only [CB, List.mem_cons, List.not_mem_nil, or_false] at hv
  rcases hv with rfl | rfl <;> rfl
def NI (l : List Nat) : List Value := l.map fun n : Nat => .int .i64 (n : Int)
theorem NI_one (l : List Nat) : ∀ u ∈ NI l, u.oneCell' = true := by
  intro u hu
  obtain ⟨b, _, rfl⟩ := List.mem_map.1 hu
  rfl
theorem NI_append (a b : List Nat) : NI (a ++ b) = NI a ++ NI b := by simp [NI]
theorem NI_at {w : World} {A : Option Addr} {l : List Nat} {k : Nat} (h : Rd w 1 A l.length (NI l)) (hk : k < l.length) : ∃ ad, A = some ad ∧ w.cell? (ad.add k) = some (.int .i64 ((l[k] : Nat) : Int)) := by
  obtain ⟨ad, u, hA, hu, hc⟩ := h.at1 hk
  refine ⟨ad, hA, ?_⟩
  rw [hc]
  simp [NI, hk] at hu
  rw [hu]
theorem codesT_zero (l : List Int) : (List.replicate l.length [Value.int .u64 0, Value.int .i64 0]).flatten = (codesT l 0).flatMap CB := by
  have e : codesT l 0 = List.replicate l.length (0, 0) := by
    unfold codesT
    apply List.ext_getElem?
    intro i
    by_cases h : i < l.length <;> simp [h]
  rw [e, List.flatMap_replicate]
  rfl
theorem codesT_len (l : List Int) (i : Nat) : (codesT l i).length = l.length := by simp [codesT]
theorem take_count (l : List Int) (i : Nat) (h : i < l.length) (k : Nat) : (l.take (i + 1)).count (k : Int) = (l.take i).count (k : Int) + if l[i] = (k : Int) then 1 else 0 := by
  rw [List.take_add_one, List.getElem?_eq_getElem h, List.count_append]
  simp [List.count_singleton]
theorem getD_at (l : List Int) (i : Nat) (h : i < l.length) : l.getD i 0 = l[i] := by simp [List.getD, List.getElem?_eq_getElem h]
/-- Where the next code of each length stands, when i symbols have theirs. -/
def nxt (l : List Int) (i n : Nat) : Nat := fst' l n + if n = 0 then 0 else (l.take i).count (n : Int)
theorem chk_good {l : List Int} (h : chk l ≠ 1) : good l := by
  unfold chk at h
  by_cases hg : good l
  · exact hg
  · rw [if_pos hg] at h; exact absurd rfl h

/-- What a decoder consists of. -/
def DC (f F : Nat → Nat) (A : Option Addr) (n c : Nat) (most : Nat) : Array Value := (CI f ++ CU F ++ [Value.slice A n c, Value.int .i64 ((most : Nat) : Int)]).toArray
theorem DC_c (f F : Nat → Nat) (A : Option Addr) (n c most k : Nat) (h : k < 16) : (DC f F A n c most)[k]? = some (.int .i64 ((f k : Nat) : Int)) := by
  unfold DC
  rw [List.getElem?_toArray, List.getElem?_append_left (by simp [CI, CU]; omega), List.getElem?_append_left (by simpa [CI] using h), CI_get f k h]
theorem DC_f (f F : Nat → Nat) (A : Option Addr) (n c most k : Nat) (h : k < 16) : (DC f F A n c most)[16 + k]? = some (.int .u64 ((F k : Nat) : Int)) := by
  unfold DC
  have e : 16 + k - (CI f).length = k := by simp [CI]
  rw [List.getElem?_toArray, List.getElem?_append_left (by simp [CI, CU]; omega), List.getElem?_append_right (by simp [CI]), e, CU_get F k h]
/-- A decoder at a block. -/
def IsD (w : World) (g : Nat) (A : Option Addr) (c : Nat) (f F : Nat → Nat) (sy : List Nat) (most : Nat) : Prop :=
  Blk w g 100 (DC f F A sy.length c most) ∧ Own w 3 1 A sy.length c (NI sy)
theorem IsD.frm {w w' : World} {g : Nat} {A : Option Addr} {c : Nat} {f F : Nat → Nat} {sy : List Nat} {most : Nat} {S : List Nat} (h : IsD w g A c f F sy most) (k : Frm S w w') (hS : ∀ x ∈ g :: ob A, x ∉ S) : IsD w' g A c f F sy most :=
  ⟨h.1.frm k (hS g (by simp)), h.2.frm k (fun x hx => hS x (by simp [hx]))⟩
/-- What New answers. -/
def newE (l : List Int) : Nat := if chk l = 2 ∧ ((order l).length = 0 ∨ (order l).length = 1 ∧ cn l 1 = 1) then 0 else chk l
def mostC (l : List Int) : Nat := if chk l = 2 then (order l).length else 15

set_option maxRecDepth 100000 in
theorem newD_spec (A : Option Addr) (c0 : Nat) (l : List Int) (w : World) (hl : l.length ≤ 1000000) (hr : Rd w 1 A l.length (IB l)) :
    Calls Try.prog 50 #[.slice A l.length c0] w fun e w' => Frm [] w w' ∧
      if newE l = 0 then ∃ g B c, e = .returned (.tuple #[.pointer (some ⟨g, 0, none⟩), .int .i64 ((0 : Nat) : Int)]) ∧ IsD w' g B c (cn l) (fst' l) (order l) (mostC l) ∧ ∀ x ∈ g :: ob B, w.heap.size ≤ x
      else e = .returned (.tuple #[.pointer none, .int .i64 ((newE l : Nat) : Int)]) := by
  refine VC.calls (nt := 87) (res := #[.tmp 2, .tmp 3]) Try.func50 rfl Try.ntmps50 Try.results50 rfl ?_
  refine VC.seq ?_
  refine VC.region ?_
  refine Ops.r (Run.asg rfl) rfl ?_
  refine Ops.r (v := .int .i64 ((0 : Nat) : Int)) (Run.asg rfl) rfl ?_
  refine Ops.nil ?_
  refine thenQ_n ?_
  refine VC.sub [(0, _)] (.cons rfl .nil) ?_
  refine VC.seq ?_
  refine VC.region ?_
  refine Ops.r (Run.mv rfl) rfl ?_
  refine Ops.cl (Enters.fn (evs.cons rfl evs.nil) Try.call58) (check_spec A c0 l _ (by omega) hr) rfl ?_
  rintro e w1 ⟨rfl, hf1⟩
  refine ⟨_, rfl, ?_⟩
  refine Ops.r (Run.asg rfl) rfl ?_
  refine Ops.nil ?_
  refine thenQ_n ?_
  refine VC.sub [(0, _), (4, _)] (.cons rfl (.cons rfl .nil)) ?_
  refine VC.seq ?_
  refine VC.region ?_
  refine Ops.r (Run.mv rfl) rfl ?_
  refine Ops.cl (Enters.fn (evs.cons rfl evs.nil) Try.call59) (count_spec' A c0 l _ (by omega) (hr.belowW hf1.below)) rfl ?_
  rintro e w2 ⟨f, rfl, hf, hgd, hf2⟩
  refine ⟨_, rfl, ?_⟩
  have hfr2 := hf1.own hf2 (by simp)
  refine Ops.r (Run.mv rfl) rfl ?_
  refine Ops.r (Run.extract rfl rfl) rfl ?_
  refine Ops.r (Run.extract rfl rfl) rfl ?_
  refine Ops.m (Does.alloc zero94) rfl ?_
  rintro _ w3 ⟨rfl, hF3⟩
  have hb3 : Blk w3 w2.heap.size 94 (CI fun _ => 0).toArray := hF3.blk
  have hfr3 := hfr2.own hF3.frm (by simp)
  have hg3 := hfr2.size
  refine Ops.st (Acts.storeA rfl rfl Try.sizeOf94 hb3 rfl (CI_one _)) ?_
  rintro w4 ⟨hb4, hf4, hs4⟩
  have hfr4 := hfr3.own hf4 (up_one hg3)
  generalize hgc : w2.heap.size = gc at *
  refine Ops.r (Run.asg rfl) rfl ?_
  refine Ops.nil ?_
  refine thenQ_n ?_
  refine VC.sub [(0, _), (4, _), (5, _)] (.cons rfl (.cons rfl (.cons rfl .nil))) ?_
  refine VC.seq ?_
  refine VC.held (fun v => Blk v gc 94 (CI f).toArray ∧ Frm [] w v) (by kernel_rfl) ?_
  have hS : (fun v => Blk v gc 94 (CI f).toArray ∧ Frm [] w v) w4.drew := ⟨hb4.drawn (Drawn.drew _), hfr4.drawn (Drawn.drew _)⟩
  refine HOps.take 0 rfl (by kernel_rfl) (by kernel_rfl) (by kernel_rfl) hS (fun w0 hw0 => Run.loadB rfl Try.isAgg94 Try.sizeOf94 (hw0.1) rfl) trivial rfl rfl ?_
  refine HOps.take 1 rfl (by kernel_rfl) (by kernel_rfl) (by kernel_rfl) hS (fun w0 hw0 => Run.loadB rfl Try.isAgg94 Try.sizeOf94 (hw0.1) rfl) trivial rfl rfl ?_
  refine HOps.cl 2 rfl (by kernel_rfl) (Enters.fn (evs.cons rfl evs.nil) Try.call60) (firsts_spec f _ hf) trivial rfl rfl ?_
  rintro e w5 ⟨rfl, hf5⟩
  have hS : (fun v => Blk v gc 94 (CI f).toArray ∧ Frm [] w v) w5 := ⟨hS.1.frm hf5 (by simp), hS.2.own hf5 (by simp)⟩
  refine ⟨_, rfl, hS, ?_⟩
  refine HOps.take 3 rfl (by kernel_rfl) (by kernel_rfl) (by kernel_rfl) hS (fun w0 hw0 => Run.build (evs.cons rfl (evs.cons rfl (evs.cons rfl evs.nil))) zero100 (places100).choose_spec.1 (places100).choose_spec.2 (cells := DC f (fstF f) none 0 0 15) (by kernel_rfl)) trivial rfl rfl ?_
  refine HOps.m 4 rfl (by kernel_rfl) (Does.box rfl) trivial rfl rfl ?_
  rintro _ w6 ⟨rfl, hF6⟩
  have hb6 : Blk w6 w5.heap.size 100 (DC f (fstF f) none 0 0 15) := hF6.blk
  have hg6 := hS.2.size
  refine ⟨⟨hS.1.frm hF6.frm (by simp), hS.2.own hF6.frm (by simp)⟩, ?_⟩
  have hbc := hS.1.frm hF6.frm (by simp)
  have hfr6 := hS.2.own hF6.frm (by simp)
  have hne : gc ≠ w5.heap.size := by have := hS.1.lt; omega
  generalize hgd0 : w5.heap.size = gd at *
  have hS : (fun v => Blk v gc 94 (CI f).toArray ∧ Frm [] w v) w6 := ⟨hbc, hfr6⟩
  refine HOps.take 5 rfl (by kernel_rfl) (by kernel_rfl) (by kernel_rfl) hS (fun w0 hw0 => Run.asg rfl) trivial rfl rfl ?_
  refine HOps.done (by kernel_rfl) ?_
  refine thenQ_n ?_
  refine VC.sub [(0, _), (4, _), (5, _), (7, _)] (.cons rfl (.cons rfl (.cons rfl (.cons rfl .nil)))) ?_
  refine VC.seq ?_
  refine VC.seq ?_
  refine VC.region ?_
  refine Ops.r (v := .int .i64 ((0 : Nat) : Int)) (Run.mv rfl) rfl ?_
  refine Ops.nil ?_
  refine thenQ_n ?_
  refine VC.block ?_
  refine VC.loop (σ := Nat × Option Addr × Nat) (fun s => [(0, .slice A l.length c0), (4, .int .i64 ((chk l : Nat) : Int)), (5, .pointer (some ⟨gc, 0, none⟩)), (7, .pointer (some ⟨gd, 0, none⟩)), (23, .int .i64 s.1)]) (fun s wr => s.1 ≤ 16 ∧ Blk wr gc 94 (CI f).toArray ∧ IsD wr gd s.2.1 s.2.2 f (fstF f) (ordTo l s.1) 15 ∧ Frm [] w wr ∧ ∀ x ∈ ob s.2.1, w.heap.size ≤ x) (fun s => 16 - s.1) (0, none, 0) (.cons rfl (.cons rfl (.cons (by rw [← hgc]; rfl) (.cons (by rw [← hgd0]; rfl) (.cons rfl .nil))))) ⟨by omega, hbc, ⟨hb6, Own.nil _ _ _⟩, hfr6, up_nil⟩ ?_
  rintro ⟨n, B, c⟩ wr ⟨hn, hbc, hD, hfr, huB⟩
  dsimp only at hn hbc hD hfr huB ⊢
  refine VC.seq ?_
  refine VC.region ?_
  refine Ops.r (Run.bin rfl rfl (Bin.lssN _ 16)) rfl ?_
  refine Ops.nil ?_
  refine thenQ_n ?_
  refine VC.seq ?_
  refine VC.condD rfl (fun hc1 => ?_) (fun hc1 => ?_)
  · skip
    refine VC.skip ?_
    refine thenQ_n ?_
    refine VC.sub [(0, _), (4, _), (5, _), (7, _), (23, _)] (.cons rfl (.cons rfl (.cons rfl (.cons rfl (.cons rfl .nil))))) ?_
    refine VC.seq ?_
    refine VC.block ?_
    refine VC.seq ?_
    refine VC.region ?_
    refine Ops.r (Run.mv rfl) rfl ?_
    refine Ops.r (Run.asg rfl) rfl ?_
    refine Ops.nil ?_
    refine thenQ_n ?_
    refine VC.sub [(0, _), (4, _), (5, _), (7, _), (8, _), (23, _)] (.cons rfl (.cons rfl (.cons rfl (.cons rfl (.cons rfl (.cons rfl .nil)))))) ?_
    refine VC.seq ?_
    refine VC.region ?_
    refine Ops.r (Run.mv rfl) rfl ?_
    refine Ops.r (Run.lenS rfl Try.underlying37) rfl ?_
    refine Ops.r (v := .int .i64 ((0 : Nat) : Int)) (Run.mv rfl) rfl ?_
    refine Ops.nil ?_
    refine thenQ_n ?_
    refine VC.block ?_
    refine VC.loop (σ := Nat × Option Addr × Nat) (fun s => [(0, .slice A l.length c0), (4, .int .i64 ((chk l : Nat) : Int)), (5, .pointer (some ⟨gc, 0, none⟩)), (7, .pointer (some ⟨gd, 0, none⟩)), (8, .int .i64 n), (23, .int .i64 n), (26, .slice A l.length c0), (27, .int .i64 ((l.length : Nat) : Int)), (28, .int .i64 s.1)]) (fun s wr => s.1 ≤ l.length ∧ Blk wr gc 94 (CI f).toArray ∧ IsD wr gd s.2.1 s.2.2 f (fstF f) (ordTo l n ++ idxsT l n s.1) 15 ∧ Frm [] w wr ∧ ∀ x ∈ ob s.2.1, w.heap.size ≤ x) (fun s => l.length - s.1) (0, B, c) (.cons rfl (.cons rfl (.cons rfl (.cons rfl (.cons rfl (.cons rfl (.cons rfl (.cons rfl (.cons rfl .nil))))))))) ⟨by omega, hbc, by simpa [idxsT] using hD, hfr, huB⟩ ?_
    clear hD hbc hfr huB
    rintro ⟨i, B, c⟩ wr ⟨hi, hbc, hD, hfr, huB⟩
    dsimp only at hi hbc hD hfr huB ⊢
    have hsl : (ordTo l n ++ idxsT l n i).length ≤ l.length := by
      rw [List.length_append, ordTo_len]
      have h1 := atL_le l (n + 1)
      have h2 : atL l (n + 1) = atL l n + cn l n := rfl
      by_cases hn0 : n = 0
      · subst hn0; simp [idxsT, atL]
      · have h3 := idxsT_len l n hn0 i hi
        have h4 : (l.take i).count (n : Int) ≤ l.count (n : Int) := (List.take_sublist i l).count_le _
        have h5 : cn l n = l.count (n : Int) := by unfold cn; rw [if_neg hn0]
        omega
    refine VC.seq ?_
    refine VC.region ?_
    refine Ops.r (Run.bin rfl rfl (Bin.lssN _ _)) rfl ?_
    refine Ops.nil ?_
    refine thenQ_n ?_
    refine VC.seq ?_
    refine VC.condD rfl (fun hc2 => ?_) (fun hc2 => ?_)
    · skip
      obtain ⟨ad, rfl, hcell⟩ := IB_at (hr.belowW hfr.below) hc2
      have hgt := getD_at l i hc2
      generalize hx : l[i] = x at *
      refine VC.skip ?_
      refine thenQ_n ?_
      refine VC.sub [(0, _), (4, _), (5, _), (7, _), (8, _), (23, _), (26, _), (27, _), (28, _)] (.cons rfl (.cons rfl (.cons rfl (.cons rfl (.cons rfl (.cons rfl (.cons rfl (.cons rfl (.cons rfl .nil))))))))) ?_
      refine VC.seq ?_
      refine VC.block ?_
      refine VC.seq ?_
      refine VC.region ?_
      refine Ops.r (Run.mv rfl) rfl ?_
      refine Ops.r (Run.index1 _ rfl rfl Try.underlying37 Try.sizeOf3 (by omega)) rfl ?_
      refine Ops.r (Run.load rfl Try.isAgg3 hcell) rfl ?_
      refine Ops.r (Run.asg rfl) rfl ?_
      refine Ops.r (Run.asg rfl) rfl ?_
      refine Ops.nil ?_
      refine thenQ_n ?_
      refine VC.sub [(0, _), (4, _), (5, _), (7, _), (8, _), (9, _), (10, _), (23, _), (26, _), (27, _), (28, _)] (.cons rfl (.cons rfl (.cons rfl (.cons rfl (.cons rfl (.cons rfl (.cons rfl (.cons rfl (.cons rfl (.cons rfl (.cons rfl .nil))))))))))) ?_
      refine VC.seq ?_
      refine VC.split1 [(0, _), (4, _), (5, _), (7, _), (8, _), (9, _), (23, _), (26, _), (27, _), (28, _)] (.cons rfl (.cons rfl (.cons rfl (.cons rfl (.cons rfl (.cons rfl (.cons rfl (.cons rfl (.cons rfl (.cons rfl .nil)))))))))) 39 (.bool (decide (x = (n : Int) ∧ 0 < n))) ?_ ?_
      · by_cases hs0 : x = (n : Int)
        · skip
          refine VC.region ?_
          refine Ops.r (Run.mv rfl) rfl ?_
          refine Ops.r (Run.mv rfl) rfl ?_
          refine Ops.r (Run.bin rfl rfl (Bin.eql _ _)) rfl ?_
          refine Ops.r (Run.mv rfl) rfl ?_
          refine Ops.rg rfl (by first | rfl | assumption | decide | (simp; done) | (simp; omega) | (simp [*]; done)) (Run.mv rfl) rfl ?_
          refine Ops.rg rfl (by first | rfl | assumption | decide | (simp; done) | (simp; omega) | (simp [*]; done)) (Run.bin rfl rfl (Bin.gtrN _ 0)) rfl ?_
          refine Ops.r (Run.pickT rfl rfl (by first | rfl | assumption | decide | (simp; done) | (simp; omega) | (simp [*]; done))) rfl ?_
          refine Ops.nil ?_
          refine thenQ_n ⟨(.cons (by rw [dand1 hs0]; rfl) (.cons rfl (.cons rfl (.cons rfl (.cons rfl (.cons rfl (.cons rfl (.cons rfl (.cons rfl (.cons rfl (.cons rfl .nil))))))))))), rfl⟩
        · skip
          refine VC.region ?_
          refine Ops.r (Run.mv rfl) rfl ?_
          refine Ops.r (Run.mv rfl) rfl ?_
          refine Ops.r (Run.bin rfl rfl (Bin.eql _ _)) rfl ?_
          refine Ops.r (Run.mv rfl) rfl ?_
          refine Ops.sk rfl (by first | rfl | assumption | decide | (simp; done) | (simp; omega) | (simp [*]; done)) rfl ?_
          refine Ops.sk rfl (by first | rfl | assumption | decide | (simp; done) | (simp; omega) | (simp [*]; done)) rfl ?_
          refine Ops.r (Run.pickF rfl rfl (by first | rfl | assumption | decide | (simp; done) | (simp; omega) | (simp [*]; done))) rfl ?_
          refine Ops.nil ?_
          refine thenQ_n ⟨(.cons (by rw [dand0 hs0]; rfl) (.cons rfl (.cons rfl (.cons rfl (.cons rfl (.cons rfl (.cons rfl (.cons rfl (.cons rfl (.cons rfl (.cons rfl .nil))))))))))), rfl⟩
      · intro Γ hΓ
        refine thenQ_n (VC.sub _ hΓ ?_)
        refine VC.meet (σ := Option Addr × Nat) (fun s => [(0, .slice (some ad) l.length c0), (4, .int .i64 ((chk l : Nat) : Int)), (5, .pointer (some ⟨gc, 0, none⟩)), (7, .pointer (some ⟨gd, 0, none⟩)), (8, .int .i64 n), (23, .int .i64 n), (26, .slice (some ad) l.length c0), (27, .int .i64 ((l.length : Nat) : Int)), (28, .int .i64 i)]) (fun s w9 => Blk w9 gc 94 (CI f).toArray ∧ IsD w9 gd s.1 s.2 f (fstF f) (ordTo l n ++ idxsT l n (i + 1)) 15 ∧ Frm [] w w9 ∧ ∀ x ∈ ob s.1, w.heap.size ≤ x) ?_ ?_
        · skip
          refine VC.condD rfl (fun hc3 => ?_) (fun hc3 => ?_)
          · skip
            refine VC.region ?_
            refine Ops.r (Run.mv rfl) rfl ?_
            refine Ops.r (Run.mv rfl) rfl ?_
            refine Ops.r (Run.nilck rfl) rfl ?_
            refine Ops.r (Run.fieldAddr rfl Try.underlying100 rfl Try.sizeOf37 (by decide)) rfl ?_
            refine Ops.r (Run.load rfl Try.isAgg37 (hD.1.cell 32)) rfl ?_
            refine Ops.r (Run.mv rfl) rfl ?_
            refine Ops.m (Does.buildS1 rfl Try.underlying37 Try.sizeOf3 zero3 (by decide) (by decide) rfl rfl) rfl ?_
            rintro _ w7 ⟨rfl, hF7⟩
            have ho7 := hD.2.frm hF7.frm (by simp)
            have hb7 := hD.1.frm hF7.frm (by simp)
            have hrd7 : Rd w7 1 (some ⟨wr.heap.size, 0, none⟩) 1 (NI [i]) := Rd.of_blk hF7.blk rfl
            refine Ops.m (Does.app rfl rfl Try.underlying37 (info3) rfl (by decide) ho7 hrd7 (NI_one [i]) (by omega) (by omega)) rfl ?_
            rintro _ w8 ⟨A8, c8, rfl, ho8, hf8, hob8⟩
            have hb8 := hb7.frm hf8 (ho7.ne_blk hb7 (by decide))
            have hbc8 := (hbc.frm hF7.frm (by simp)).frm hf8 (ho7.ne_blk (hbc.frm hF7.frm (by simp)) (by decide))
            have hfr7 := hfr.own hF7.frm (by simp)
            have hfr8 := hfr7.own hf8 huB
            have hu8 := up_app huB hob8 hfr7.size
            refine Ops.r (Run.nilck rfl) rfl ?_
            refine Ops.r (Run.fieldAddr rfl Try.underlying100 rfl Try.sizeOf37 (by decide)) rfl ?_
            refine Ops.st (Acts.store rfl rfl Try.sizeOf37 hb8 rfl rfl) ?_
            rintro w9 ⟨hb9, hf9, hs9⟩
            have ho9 := ho8.frm hf9 (fun x hx hx2 => by simp at hx2; subst hx2; exact ho8.ne_blk hb8 (by decide) hx)
            refine Ops.nil ?_
            refine thenQ_n ⟨(A8, c8), (.cons rfl (.cons rfl (.cons rfl (.cons rfl (.cons rfl (.cons rfl (.cons rfl (.cons rfl (.cons rfl .nil))))))))), ?_⟩
            have e : ordTo l n ++ idxsT l n (i + 1) = (ordTo l n ++ idxsT l n i) ++ [i] := by
              unfold idxsT
              rw [if_neg (by omega), if_neg (by omega), List.range_succ, List.filter_append, List.filter_cons_of_pos (by rw [hgt]; simpa using hc3.1), List.append_assoc]
              rfl
            have e2 : (ordTo l n ++ idxsT l n i ++ [i]).length = (ordTo l n ++ idxsT l n i).length + 1 := List.length_append
            refine ⟨hbc8.frm hf9 (by simpa using hne), ?_, hfr8.own hf9 (up_one (by omega)), hu8⟩
            rw [e]
            generalize ordTo l n ++ idxsT l n i = sy at *
            refine ⟨?_, ?_⟩
            · rw [e2]
              exact hb9
            · rw [e2, NI_append]
              exact ho9
          · skip
            refine VC.skip ?_
            refine thenQ_n ⟨(B, c), (.cons rfl (.cons rfl (.cons rfl (.cons rfl (.cons rfl (.cons rfl (.cons rfl (.cons rfl (.cons rfl .nil))))))))), ?_⟩
            have e : idxsT l n (i + 1) = idxsT l n i := by
              unfold idxsT
              split
              · rfl
              · rw [List.range_succ, List.filter_append, List.filter_cons_of_neg (by rw [hgt]; simp; omega)]
                simp
            rw [e]
            exact ⟨hbc, hD, hfr, huB⟩
        · skip
          rintro ⟨B9, c9⟩ w9 ⟨hbc9, hD9, hfr9, hu9⟩ Γ hΓ
          refine blockQ_n (thenQ_n (VC.sub _ hΓ ?_))
          refine VC.region ?_
          refine Ops.r (Run.bin rfl rfl (Bin.add_i64 _ 1 (by omega))) rfl ?_
          refine Ops.r (Run.mv rfl) rfl ?_
          refine Ops.nil ?_
          refine thenQ_n ⟨(i + 1, B9, c9), (.cons rfl (.cons rfl (.cons rfl (.cons rfl (.cons rfl (.cons rfl (.cons rfl (.cons rfl (.cons rfl .nil))))))))), ?_, ?_⟩
          · skip
            exact ⟨hc2, hbc9, hD9, hfr9, hu9⟩
          · skip
            first | omega | (dsimp only; omega)
    · skip
      have hil : i = l.length := by omega
      have hord : ordTo l n ++ idxsT l n i = ordTo l (n + 1) := by rw [ordTo_succ, hil]; rfl
      rw [hord] at hD
      refine VC.exit ?_
      refine thenQ_x (thenQ_x (blockQ_x ?_))
      refine blockQ_n (thenQ_n ?_)
      refine VC.sub [(0, _), (4, _), (5, _), (7, _), (23, _)] (.cons rfl (.cons rfl (.cons rfl (.cons rfl (.cons rfl .nil))))) ?_
      refine VC.region ?_
      refine Ops.r (Run.bin rfl rfl (Bin.add_i64 _ 1 (by omega))) rfl ?_
      refine Ops.r (Run.mv rfl) rfl ?_
      refine Ops.nil ?_
      refine thenQ_n ⟨(n + 1, B, c), (.cons rfl (.cons rfl (.cons rfl (.cons rfl (.cons rfl .nil))))), ?_, ?_⟩
      · skip
        exact ⟨hc1, hbc, hD, hfr, huB⟩
      · skip
        first | omega | (dsimp only; omega)
  · skip
    have hn16 : n = 16 := by omega
    subst hn16
    refine VC.exit ?_
    refine thenQ_x (thenQ_x (blockQ_x ?_))
    refine thenQ_n ?_
    refine VC.sub [(4, _), (5, _), (7, _)] (.cons rfl (.cons rfl (.cons rfl .nil))) ?_
    refine VC.seq ?_
    refine VC.seq ?_
    refine VC.split1 [(4, _), (5, _), (7, _)] (.cons rfl (.cons rfl (.cons rfl .nil))) 61 (.bool (decide (chk l = 2 ∧ (order l).length = 0))) ?_ ?_
    · by_cases hs0 : chk l = 2
      · skip
        refine VC.region ?_
        refine Ops.r (Run.mv rfl) rfl ?_
        refine Ops.r (Run.bin rfl rfl (Bin.eqlN _ 2)) rfl ?_
        refine Ops.r (Run.mv rfl) rfl ?_
        refine Ops.rg rfl (by first | rfl | assumption | decide | (simp; done) | (simp; omega) | (simp [*]; done)) (Run.mv rfl) rfl ?_
        refine Ops.rg rfl (by first | rfl | assumption | decide | (simp; done) | (simp; omega) | (simp [*]; done)) (Run.nilck rfl) rfl ?_
        refine Ops.rg rfl (by first | rfl | assumption | decide | (simp; done) | (simp; omega) | (simp [*]; done)) (Run.fieldAddr rfl Try.underlying100 rfl Try.sizeOf37 (by decide)) rfl ?_
        refine Ops.rg rfl (by first | rfl | assumption | decide | (simp; done) | (simp; omega) | (simp [*]; done)) (Run.load rfl Try.isAgg37 (hD.1.cell 32)) rfl ?_
        refine Ops.rg rfl (by first | rfl | assumption | decide | (simp; done) | (simp; omega) | (simp [*]; done)) (Run.lenS rfl Try.underlying37) rfl ?_
        refine Ops.rg rfl (by first | rfl | assumption | decide | (simp; done) | (simp; omega) | (simp [*]; done)) (Run.bin rfl rfl (Bin.eqlN _ 0)) rfl ?_
        refine Ops.r (Run.pickT rfl rfl (by first | rfl | assumption | decide | (simp; done) | (simp; omega) | (simp [*]; done))) rfl ?_
        refine Ops.nil ?_
        refine thenQ_n ⟨(.cons (by rw [dand1 hs0]; rfl) (.cons rfl (.cons rfl (.cons rfl .nil)))), rfl⟩
      · skip
        refine VC.region ?_
        refine Ops.r (Run.mv rfl) rfl ?_
        refine Ops.r (Run.bin rfl rfl (Bin.eqlN _ 2)) rfl ?_
        refine Ops.r (Run.mv rfl) rfl ?_
        refine Ops.sk rfl (by first | rfl | assumption | decide | (simp; done) | (simp; omega) | (simp [*]; done)) rfl ?_
        refine Ops.sk rfl (by first | rfl | assumption | decide | (simp; done) | (simp; omega) | (simp [*]; done)) rfl ?_
        refine Ops.sk rfl (by first | rfl | assumption | decide | (simp; done) | (simp; omega) | (simp [*]; done)) rfl ?_
        refine Ops.sk rfl (by first | rfl | assumption | decide | (simp; done) | (simp; omega) | (simp [*]; done)) rfl ?_
        refine Ops.sk rfl (by first | rfl | assumption | decide | (simp; done) | (simp; omega) | (simp [*]; done)) rfl ?_
        refine Ops.sk rfl (by first | rfl | assumption | decide | (simp; done) | (simp; omega) | (simp [*]; done)) rfl ?_
        refine Ops.r (Run.pickF rfl rfl (by first | rfl | assumption | decide | (simp; done) | (simp; omega) | (simp [*]; done))) rfl ?_
        refine Ops.nil ?_
        refine thenQ_n ⟨(.cons (by rw [dand0 hs0]; rfl) (.cons rfl (.cons rfl (.cons rfl .nil)))), rfl⟩
    · intro Γ hΓ
      refine thenQ_n (VC.sub _ hΓ ?_)
      refine VC.meet (σ := Unit) (fun s => [(4, .int .i64 (((if chk l = 2 ∧ (order l).length = 0 then 0 else chk l) : Nat) : Int)), (5, .pointer (some ⟨gc, 0, none⟩)), (7, .pointer (some ⟨gd, 0, none⟩))]) (fun s w9 => Blk w9 gc 94 (CI f).toArray ∧ IsD w9 gd B c f (fstF f) (order l) (if chk l = 2 ∧ (order l).length = 0 then 0 else 15) ∧ Frm [] w w9) ?_ ?_
      · skip
        refine VC.condD rfl (fun hc4 => ?_) (fun hc4 => ?_)
        · skip
          refine VC.region ?_
          refine Ops.r (Run.mv rfl) rfl ?_
          refine Ops.r (Run.nilck rfl) rfl ?_
          refine Ops.r (Run.fieldAddr rfl Try.underlying100 rfl Try.sizeOf3 (by decide)) rfl ?_
          refine Ops.st (Acts.store rfl rfl Try.sizeOf3 hD.1 rfl rfl) ?_
          rintro w9 ⟨hb9, hf9, hs9⟩
          have ho9 := hD.2.frm hf9 (fun x hx hx2 => by simp at hx2; subst hx2; exact hD.2.ne_blk hD.1 (by decide) hx)
          refine Ops.r (v := .int .i64 ((0 : Nat) : Int)) (Run.asg rfl) rfl ?_
          refine Ops.nil ?_
          refine thenQ_n ⟨(), (.cons (by rw [if_pos hc4]; rfl) (.cons rfl (.cons rfl .nil))), ?_⟩
          rw [if_pos hc4]
          exact ⟨hbc.frm hf9 (by simpa using hne), ⟨hb9, ho9⟩, hfr.own hf9 (up_one (by omega))⟩
        · skip
          refine VC.skip ?_
          refine thenQ_n ⟨(), (.cons (by rw [if_neg hc4]; rfl) (.cons rfl (.cons rfl .nil))), ?_⟩
          rw [if_neg hc4]
          exact ⟨hbc, hD, hfr⟩
      · skip
        rintro _ w4 ⟨hbc4, hD4, hfr4⟩ Γ hΓ
        generalize he4 : (if chk l = 2 ∧ (order l).length = 0 then 0 else chk l) = e4 at *
        generalize hm4 : (if chk l = 2 ∧ (order l).length = 0 then 0 else 15) = m4 at *
        refine thenQ_n (VC.sub _ hΓ ?_)
        refine VC.seq ?_
        refine VC.seq ?_
        refine VC.split1 [(4, _), (7, _)] (.cons rfl (.cons rfl .nil)) 79 (.bool (decide (e4 = 2 ∧ (order l).length = 1 ∧ f 1 = 1))) ?_ ?_
        · refine VC.region ?_
          refine Ops.r (Run.mv rfl) rfl ?_
          refine Ops.r (Run.bin rfl rfl (Bin.eqlN _ 2)) rfl ?_
          by_cases hs66 : e4 = 2
          · skip
            refine Ops.r (Run.mv rfl) rfl ?_
            refine Ops.rg rfl (by first | rfl | assumption | decide | (simp; done) | (simp; omega) | (simp [*]; done)) (Run.mv rfl) rfl ?_
            refine Ops.rg rfl (by first | rfl | assumption | decide | (simp; done) | (simp; omega) | (simp [*]; done)) (Run.nilck rfl) rfl ?_
            refine Ops.rg rfl (by first | rfl | assumption | decide | (simp; done) | (simp; omega) | (simp [*]; done)) (Run.fieldAddr rfl Try.underlying100 rfl Try.sizeOf37 (by decide)) rfl ?_
            refine Ops.rg rfl (by first | rfl | assumption | decide | (simp; done) | (simp; omega) | (simp [*]; done)) (Run.load rfl Try.isAgg37 (hD4.1.cell 32)) rfl ?_
            refine Ops.rg rfl (by first | rfl | assumption | decide | (simp; done) | (simp; omega) | (simp [*]; done)) (Run.lenS rfl Try.underlying37) rfl ?_
            refine Ops.rg rfl (by first | rfl | assumption | decide | (simp; done) | (simp; omega) | (simp [*]; done)) (Run.bin rfl rfl (Bin.eqlN _ 1)) rfl ?_
            by_cases hs73 : (order l).length = 1
            · skip
              refine Ops.r (Run.pickT rfl rfl (by first | rfl | assumption | decide | (simp; done) | (simp; omega) | (simp [*]; done))) rfl ?_
              refine Ops.r (Run.mv rfl) rfl ?_
              refine Ops.rg rfl (by first | rfl | assumption | decide | (simp; done) | (simp; omega) | (simp [*]; done)) (Run.indexA1 1 rfl rfl Try.underlying94 Try.sizeOf3 (by omega)) rfl ?_
              refine Ops.rg rfl (by first | rfl | assumption | decide | (simp; done) | (simp; omega) | (simp [*]; done)) (Run.load rfl Try.isAgg3 ((hbc4.cell _).trans (by simpa using CI_get f 1 (by omega)))) rfl ?_
              refine Ops.rg rfl (by first | rfl | assumption | decide | (simp; done) | (simp; omega) | (simp [*]; done)) (Run.bin rfl rfl (Bin.eqlN _ 1)) rfl ?_
              by_cases hs78 : f 1 = 1
              · skip
                refine Ops.r (Run.pickT rfl rfl (by first | rfl | assumption | decide | (simp; done) | (simp; omega) | (simp [*]; done))) rfl ?_
                refine Ops.nil ?_
                refine thenQ_n ⟨(.cons (congrArg (fun b => some (Value.bool b)) (by simp [*])) (.cons rfl (.cons rfl .nil))), rfl⟩
              · skip
                refine Ops.r (Run.pickT rfl rfl (by first | rfl | assumption | decide | (simp; done) | (simp; omega) | (simp [*]; done))) rfl ?_
                refine Ops.nil ?_
                refine thenQ_n ⟨(.cons (congrArg (fun b => some (Value.bool b)) (by simp [*])) (.cons rfl (.cons rfl .nil))), rfl⟩
            · skip
              refine Ops.r (Run.pickT rfl rfl (by first | rfl | assumption | decide | (simp; done) | (simp; omega) | (simp [*]; done))) rfl ?_
              refine Ops.r (Run.mv rfl) rfl ?_
              refine Ops.sk rfl (by first | rfl | assumption | decide | (simp; done) | (simp; omega) | (simp [*]; done)) rfl ?_
              refine Ops.sk rfl (by first | rfl | assumption | decide | (simp; done) | (simp; omega) | (simp [*]; done)) rfl ?_
              refine Ops.sk rfl (by first | rfl | assumption | decide | (simp; done) | (simp; omega) | (simp [*]; done)) rfl ?_
              refine Ops.r (Run.pickF rfl rfl (by first | rfl | assumption | decide | (simp; done) | (simp; omega) | (simp [*]; done))) rfl ?_
              refine Ops.nil ?_
              refine thenQ_n ⟨(.cons (congrArg (fun b => some (Value.bool b)) (by simp [*])) (.cons rfl (.cons rfl .nil))), rfl⟩
          · skip
            refine Ops.r (Run.mv rfl) rfl ?_
            refine Ops.sk rfl (by first | rfl | assumption | decide | (simp; done) | (simp; omega) | (simp [*]; done)) rfl ?_
            refine Ops.sk rfl (by first | rfl | assumption | decide | (simp; done) | (simp; omega) | (simp [*]; done)) rfl ?_
            refine Ops.sk rfl (by first | rfl | assumption | decide | (simp; done) | (simp; omega) | (simp [*]; done)) rfl ?_
            refine Ops.sk rfl (by first | rfl | assumption | decide | (simp; done) | (simp; omega) | (simp [*]; done)) rfl ?_
            refine Ops.sk rfl (by first | rfl | assumption | decide | (simp; done) | (simp; omega) | (simp [*]; done)) rfl ?_
            refine Ops.sk rfl (by first | rfl | assumption | decide | (simp; done) | (simp; omega) | (simp [*]; done)) rfl ?_
            refine Ops.r (Run.pickF rfl rfl (by first | rfl | assumption | decide | (simp; done) | (simp; omega) | (simp [*]; done))) rfl ?_
            refine Ops.r (Run.mv rfl) rfl ?_
            refine Ops.sk rfl (by first | rfl | assumption | decide | (simp; done) | (simp; omega) | (simp [*]; done)) rfl ?_
            refine Ops.sk rfl (by first | rfl | assumption | decide | (simp; done) | (simp; omega) | (simp [*]; done)) rfl ?_
            refine Ops.sk rfl (by first | rfl | assumption | decide | (simp; done) | (simp; omega) | (simp [*]; done)) rfl ?_
            refine Ops.r (Run.pickF rfl rfl (by first | rfl | assumption | decide | (simp; done) | (simp; omega) | (simp [*]; done))) rfl ?_
            refine Ops.nil ?_
            refine thenQ_n ⟨(.cons (congrArg (fun b => some (Value.bool b)) (by simp [*])) (.cons rfl (.cons rfl .nil))), rfl⟩
        · intro Γ hΓ
          refine thenQ_n (VC.sub _ hΓ ?_)
          refine VC.condD rfl (fun hc5 => ?_) (fun hc5 => ?_)
          · skip
            obtain ⟨he2, hl1, hf1'⟩ := hc5
            subst he2
            have hch : chk l = 2 := by split at he4 <;> omega
            have hfg := hgd (chk_good (by omega))
            subst hfg
            have hnew : newE l = 0 := by unfold newE; rw [if_pos ⟨hch, .inr ⟨hl1, hf1'⟩⟩]
            refine VC.region ?_
            refine Ops.r (Run.mv rfl) rfl ?_
            refine Ops.r (Run.nilck rfl) rfl ?_
            refine Ops.r (Run.fieldAddr rfl Try.underlying100 rfl Try.sizeOf3 (by decide)) rfl ?_
            refine Ops.st (Acts.store rfl rfl Try.sizeOf3 hD4.1 rfl rfl) ?_
            rintro w9 ⟨hb9, hf9, hs9⟩
            have ho9 := hD4.2.frm hf9 (fun x hx hx2 => by simp at hx2; subst hx2; exact hD4.2.ne_blk hD4.1 (by decide) hx)
            refine Ops.r (v := .int .i64 ((0 : Nat) : Int)) (Run.asg rfl) rfl ?_
            refine Ops.nil ?_
            refine thenQ_n ?_
            refine VC.sub [(4, _), (7, _)] (.cons rfl (.cons rfl .nil)) ?_
            refine VC.seq ?_
            refine VC.seq ?_
            refine VC.region ?_
            refine Ops.r (Run.mv rfl) rfl ?_
            refine Ops.r (Run.bin rfl rfl (Bin.neqN _ 0)) rfl ?_
            refine Ops.nil ?_
            refine thenQ_n ?_
            refine VC.sub [(4, _), (7, _), (84, _)] (.cons rfl (.cons rfl (.cons rfl .nil))) ?_
            refine VC.condF rfl (by simp) ?_
            refine VC.skip ?_
            refine thenQ_n ?_
            refine VC.sub [(7, _)] (.cons rfl .nil) ?_
            refine VC.seq ?_
            refine VC.region ?_
            refine Ops.r (Run.mv rfl) rfl ?_
            refine Ops.r (Run.asg rfl) rfl ?_
            refine Ops.r (v := .int .i64 ((0 : Nat) : Int)) (Run.asg rfl) rfl ?_
            refine Ops.nil ?_
            refine thenQ_n ?_
            refine VC.sub [(2, _), (3, _)] (.cons rfl (.cons rfl .nil)) ?_
            refine VC.ret ?_
            refine end2 rfl rfl ?_
            refine ⟨hfr4.own hf9 (up_one (by omega)), ?_⟩
            rw [if_pos hnew]
            refine ⟨gd, B, c, rfl, ⟨?_, ho9⟩, up_cons (by omega) huB⟩
            have hm : mostC l = 1 := by unfold mostC; rw [if_pos hch]; exact hl1
            rw [hm]
            exact hb9
          · skip
            refine VC.skip ?_
            refine thenQ_n ?_
            refine VC.sub [(4, _), (7, _)] (.cons rfl (.cons rfl .nil)) ?_
            refine VC.seq ?_
            refine VC.seq ?_
            refine VC.region ?_
            refine Ops.r (Run.mv rfl) rfl ?_
            refine Ops.r (Run.bin rfl rfl (Bin.neqN _ 0)) rfl ?_
            refine Ops.nil ?_
            refine thenQ_n ?_
            refine VC.sub [(4, _), (7, _), (84, _)] (.cons rfl (.cons rfl (.cons rfl .nil))) ?_
            refine VC.condD rfl (fun hc6 => ?_) (fun hc6 => ?_)
            · skip
              have hnew : newE l = e4 := by
                unfold newE
                split at he4
                · omega
                · rename_i h
                  rw [if_neg, he4]
                  rintro ⟨h1, h2⟩
                  have hfg := hgd (chk_good (by omega))
                  rcases h2 with h2 | ⟨h2, h3⟩
                  · exact h ⟨h1, h2⟩
                  · exact hc5 ⟨by omega, h2, by rw [hfg]; exact h3⟩
              refine VC.seq ?_
              refine VC.region ?_
              refine Ops.r (Run.mv rfl) rfl ?_
              refine Ops.r (Run.asg rfl) rfl ?_
              refine Ops.r (Run.asg rfl) rfl ?_
              refine Ops.nil ?_
              refine thenQ_n ?_
              refine VC.sub [(2, _), (3, _)] (.cons rfl (.cons rfl .nil)) ?_
              refine VC.ret ?_
              refine thenQ_r (end2 rfl rfl ?_)
              refine ⟨hfr4, ?_⟩
              rw [if_neg (by omega), hnew]
            · skip
              have hnew : newE l = 0 := by
                unfold newE
                split
                · rfl
                · rename_i h
                  split at he4
                  · rename_i h2; exact absurd ⟨h2.1, .inl h2.2⟩ h
                  · omega
              have hch : chk l ≠ 1 := by
                intro h
                unfold newE at hnew
                rw [h, if_neg (by omega)] at hnew
                omega
              have hfg := hgd (chk_good hch)
              subst hfg
              have hmost : m4 = mostC l := by
                unfold mostC
                split at he4
                · rename_i h; rw [if_pos h] at hm4; rw [if_pos h.1]; omega
                · rename_i h; rw [if_neg h] at hm4; rw [if_neg (by omega)]; omega
              refine VC.skip ?_
              refine thenQ_n ?_
              refine VC.sub [(7, _)] (.cons rfl .nil) ?_
              refine VC.seq ?_
              refine VC.region ?_
              refine Ops.r (Run.mv rfl) rfl ?_
              refine Ops.r (Run.asg rfl) rfl ?_
              refine Ops.r (v := .int .i64 ((0 : Nat) : Int)) (Run.asg rfl) rfl ?_
              refine Ops.nil ?_
              refine thenQ_n ?_
              refine VC.sub [(2, _), (3, _)] (.cons rfl (.cons rfl .nil)) ?_
              refine VC.ret ?_
              refine end2 rfl rfl ?_
              refine ⟨hfr4, ?_⟩
              rw [if_pos hnew]
              refine ⟨gd, B, c, rfl, ?_, up_cons (by omega) huB⟩
              rw [← hmost]
              exact hD4

end Go.Proofs.Ytfjhmbgckmhdaaa
