/-
  The walks of package canon: counts, what is wrong with lengths, first codes.
-/
import Derived.Test.YtfjhmbgckmhdaaaTy
import Derived.Test.YtfjhmbgckmhdaaaCanP
import Derived.Test.YtfjhmbgckmhdaaaBitsW
namespace Go.Proofs.Ytfjhmbgckmhdaaa
open Go.RowKit

/-- Sixteen counts in cells. -/
def CI (f : Nat → Nat) : List Value := (List.range 16).map fun k => .int .i64 ((f k : Nat) : Int)
def CU (f : Nat → Nat) : List Value := (List.range 16).map fun k => .int .u64 ((f k : Nat) : Int)
theorem CI_get (f : Nat → Nat) (k : Nat) (h : k < 16) : (CI f)[k]? = some (.int .i64 ((f k : Nat) : Int)) := by simp [CI, h]
theorem CU_get (f : Nat → Nat) (k : Nat) (h : k < 16) : (CU f)[k]? = some (.int .u64 ((f k : Nat) : Int)) := by simp [CU, h]
theorem CI_arr (f : Nat → Nat) (k : Nat) (h : k < 16) : (CI f).toArray[k]? = some (.int .i64 ((f k : Nat) : Int)) := by simp [CI, h]
theorem CU_arr (f : Nat → Nat) (k : Nat) (h : k < 16) : (CU f).toArray[k]? = some (.int .u64 ((f k : Nat) : Int)) := by simp [CU, h]
theorem CI_set (f : Nat → Nat) (m v : Nat) : (CI f).toArray.setIfInBounds m (.int .i64 ((v : Nat) : Int)) = (CI fun k => if k = m then v else f k).toArray := by
  apply Array.toList_inj.1
  rw [Array.toList_setIfInBounds]
  apply List.ext_getElem?
  intro j
  simp only [CI, List.getElem?_set, List.length_map, List.length_range, List.getElem?_map]
  by_cases h : m = j
  · subst h
    by_cases h2 : m < 16 <;> simp [h2]
  · have h3 : ¬ j = m := fun e => h e.symm
    by_cases h2 : j < 16 <;> simp [h2, h, h3]
theorem CU_set (f : Nat → Nat) (m v : Nat) : (CU f).toArray.setIfInBounds m (.int .u64 ((v : Nat) : Int)) = (CU fun k => if k = m then v else f k).toArray := by
  apply Array.toList_inj.1
  rw [Array.toList_setIfInBounds]
  apply List.ext_getElem?
  intro j
  simp only [CU, List.getElem?_set, List.length_map, List.length_range, List.getElem?_map]
  by_cases h : m = j
  · subst h
    by_cases h2 : m < 16 <;> simp [h2]
  · have h3 : ¬ j = m := fun e => h e.symm
    by_cases h2 : j < 16 <;> simp [h2, h, h3]
theorem CI_one (f : Nat → Nat) : ∀ v ∈ (CI f).toArray.toList, v.oneCell' = true := by
  intro v hv
  obtain ⟨b, _, rfl⟩ := List.mem_map.1 (show v ∈ CI f from hv)
  rfl
theorem CU_one (f : Nat → Nat) : ∀ v ∈ (CU f).toArray.toList, v.oneCell' = true := by
  intro v hv
  obtain ⟨b, _, rfl⟩ := List.mem_map.1 (show v ∈ CU f from hv)
  rfl
/-- Lengths that may be. -/
def good (l : List Int) : Prop := l.length ≤ 320 ∧ ∀ x ∈ l, 0 ≤ x ∧ x ≤ 15
instance (l : List Int) : Decidable (good l) := inferInstanceAs (Decidable (_ ∧ _))
def KC (f : Nat → Nat) : Nat → Nat
  | 0 => 0
  | i + 1 => KC f i + f i * 2 ^ (15 - i)
theorem KC_le (f : Nat → Nat) (hf : ∀ k, f k ≤ 320) : ∀ i, i ≤ 16 → KC f i + 320 * 2 ^ (16 - i) ≤ 320 * 65536
  | 0, _ => by simp [KC]
  | i + 1, h => by
    have ih := KC_le f hf i (by omega)
    have h1 : f i * 2 ^ (15 - i) ≤ 320 * 2 ^ (15 - i) := Nat.mul_le_mul_right _ (hf i)
    have h2 : 2 ^ (16 - i) = 2 ^ (15 - i) * 2 := by rw [← Nat.pow_succ]; congr 1; omega
    rw [KC, show 16 - (i + 1) = 15 - i by omega]
    omega
theorem IB_at {w : World} {A : Option Addr} {l : List Int} {k : Nat} (h : Rd w 1 A l.length (IB l)) (hk : k < l.length) : ∃ ad, A = some ad ∧ w.cell? (ad.add k) = some (.int .i64 l[k]) := by
  obtain ⟨ad, u, hA, hu, hc⟩ := h.at1 hk
  refine ⟨ad, hA, ?_⟩
  rw [hc]
  simp [IB, hk] at hu
  rw [hu]

set_option maxRecDepth 100000 in
theorem count_spec' (A : Option Addr) (c0 : Nat) (l : List Int) (w : World) (hl : l.length ≤ 1000000000) (hr : Rd w 1 A l.length (IB l)) :
    Calls Try.prog 59 #[.slice A l.length c0] w fun e w' => ∃ f, e = .returned (.tuple #[.agg (CI f).toArray, .bool (decide (good l))]) ∧ (∀ k, f k ≤ 320) ∧ (good l → f = cn l) ∧ Frm [] w w' := by
  refine VC.calls (nt := 32) (res := #[.cell 2 94, .tmp 3]) Try.func59 rfl Try.ntmps59 Try.results59 rfl ?_
  refine VC.seq ?_
  refine VC.region ?_
  refine Ops.m (Does.alloc zero94) rfl ?_
  rintro _ w1 ⟨rfl, hF1⟩
  have hb1 : Blk w1 w.heap.size 94 (CI fun _ => 0).toArray := hF1.blk
  refine Ops.r (Run.asg rfl) rfl ?_
  refine Ops.nil ?_
  refine thenQ_n ?_
  refine VC.sub [(0, _), (2, _)] (.cons rfl (.cons rfl .nil)) ?_
  refine VC.seq ?_
  refine VC.region ?_
  refine Ops.m (Does.alloc zero94) rfl ?_
  rintro _ w2 ⟨rfl, hF2⟩
  have hb2 : Blk w2 w1.heap.size 94 (CI fun _ => 0).toArray := hF2.blk
  have hb12 := hb1.frm hF2.frm (by simp)
  have hfr2 := hF1.frm.own hF2.frm (by simp)
  have hg1 : w.heap.size < w1.heap.size := hb1.lt
  generalize hg : w.heap.size = g at hb12 hg1
  generalize hgc : w1.heap.size = gc at *
  refine Ops.nil ?_
  refine thenQ_n ?_
  refine VC.seq ?_
  refine VC.seq ?_
  refine VC.region ?_
  refine Ops.r (Run.mv rfl) rfl ?_
  refine Ops.r (Run.lenS rfl Try.underlying37) rfl ?_
  refine Ops.r (Run.bin rfl rfl (Bin.gtrN _ 320)) rfl ?_
  refine Ops.nil ?_
  refine thenQ_n ?_
  refine VC.sub [(0, _), (2, _), (4, _), (9, _)] (.cons rfl (.cons rfl (.cons rfl (.cons rfl .nil)))) ?_
  refine VC.condD rfl (fun hc1 => ?_) (fun hc1 => ?_)
  · skip
    refine VC.seq ?_
    refine VC.region ?_
    refine Ops.r (Run.loadB rfl Try.isAgg94 Try.sizeOf94 (hb2) rfl) rfl ?_
    refine Ops.st (Acts.storeA rfl rfl Try.sizeOf94 hb12 rfl (CI_one _)) ?_
    rintro w3 ⟨hb3, hf3, hs3⟩
    refine Ops.r (Run.asg rfl) rfl ?_
    refine Ops.nil ?_
    refine thenQ_n ?_
    refine VC.sub [(2, _), (3, _)] (.cons rfl (.cons rfl .nil)) ?_
    refine VC.ret ?_
    refine thenQ_r (endR ?_)
    refine res_cellB rfl Try.isAgg94 Try.sizeOf94 (hb3) rfl ?_
    refine res_tmp rfl ?_
    refine res_nil ?_
    refine ⟨fun _ => 0, ?_, fun k => by simp, fun h => absurd h.1 (by omega), hfr2.own hf3 (up_one (by omega))⟩
    rw [decide_eq_false (fun h => absurd h.1 (by omega))]
    rfl
  · skip
    refine VC.skip ?_
    refine thenQ_n ?_
    refine VC.sub [(0, _), (2, _), (4, _)] (.cons rfl (.cons rfl (.cons rfl .nil))) ?_
    refine VC.seq ?_
    refine VC.seq ?_
    refine VC.region ?_
    refine Ops.r (Run.mv rfl) rfl ?_
    refine Ops.r (Run.lenS rfl Try.underlying37) rfl ?_
    refine Ops.r (v := .int .i64 ((0 : Nat) : Int)) (Run.mv rfl) rfl ?_
    refine Ops.nil ?_
    refine thenQ_n ?_
    refine VC.sub [(2, _), (4, _), (11, _), (12, _), (13, _)] (.cons rfl (.cons rfl (.cons rfl (.cons rfl (.cons rfl .nil))))) ?_
    refine VC.block ?_
    refine VC.loop (σ := Nat) (fun s => [(2, .pointer (some ⟨g, 0, none⟩)), (4, .pointer (some ⟨gc, 0, none⟩)), (11, .slice A l.length c0), (12, .int .i64 ((l.length : Nat) : Int)), (13, .int .i64 s)]) (fun s wr => s ≤ l.length ∧ (∀ x ∈ l.take s, 0 ≤ x ∧ x ≤ 15) ∧ Blk wr g 94 (CI fun _ => 0).toArray ∧ Blk wr gc 94 (CI fun k => (l.take s).count (k : Int)).toArray ∧ Frm [] w wr) (fun s => l.length - s) 0 (.cons (by rw [← hg]; rfl) (.cons (by rw [← hgc]; rfl) (.cons rfl (.cons rfl (.cons rfl .nil))))) ⟨by omega, by simp, hb12, by simpa using hb2, hfr2⟩ ?_
    rintro i wr ⟨hi, hpre, hbr, hbc, hfr⟩
    refine VC.seq ?_
    refine VC.region ?_
    refine Ops.r (Run.bin rfl rfl (Bin.lssN _ _)) rfl ?_
    refine Ops.nil ?_
    refine thenQ_n ?_
    refine VC.seq ?_
    refine VC.condD rfl (fun hc2 => ?_) (fun hc2 => ?_)
    · skip
      obtain ⟨ad, rfl, hcell⟩ := IB_at (hr.belowW hfr.below) hc2
      have htk : l.take (i + 1) = l.take i ++ [l[i]] := by rw [List.take_add_one, List.getElem?_eq_getElem hc2]; rfl
      generalize hx : l[i] = x at *
      refine VC.skip ?_
      refine thenQ_n ?_
      refine VC.sub [(2, _), (4, _), (11, _), (12, _), (13, _)] (.cons rfl (.cons rfl (.cons rfl (.cons rfl (.cons rfl .nil))))) ?_
      refine VC.seq ?_
      refine VC.block ?_
      refine VC.seq ?_
      refine VC.region ?_
      refine Ops.r (Run.index1 _ rfl rfl Try.underlying37 Try.sizeOf3 (by omega)) rfl ?_
      refine Ops.r (Run.load rfl Try.isAgg3 hcell) rfl ?_
      refine Ops.r (Run.asg rfl) rfl ?_
      refine Ops.nil ?_
      refine thenQ_n ?_
      refine VC.sub [(2, _), (4, _), (6, _), (11, _), (12, _), (13, _)] (.cons rfl (.cons rfl (.cons rfl (.cons rfl (.cons rfl (.cons rfl .nil)))))) ?_
      refine VC.seq ?_
      refine VC.seq ?_
      refine VC.split1 [(2, _), (4, _), (6, _), (11, _), (12, _), (13, _)] (.cons rfl (.cons rfl (.cons rfl (.cons rfl (.cons rfl (.cons rfl .nil)))))) 22 (.bool (decide (x < 0 ∨ 15 < x))) ?_ ?_
      · by_cases hs0 : x < 0
        · skip
          refine VC.region ?_
          refine Ops.r (Run.mv rfl) rfl ?_
          refine Ops.r (Run.bin rfl rfl (Bin.lss _ 0)) rfl ?_
          refine Ops.r (Run.mv rfl) rfl ?_
          refine Ops.sk rfl (by first | rfl | assumption | decide | (simp; done) | (simp; omega) | (simp [*]; done)) rfl ?_
          refine Ops.sk rfl (by first | rfl | assumption | decide | (simp; done) | (simp; omega) | (simp [*]; done)) rfl ?_
          refine Ops.r (Run.pickT rfl rfl (by first | rfl | assumption | decide | (simp; done) | (simp; omega) | (simp [*]; done))) rfl ?_
          refine Ops.nil ?_
          refine thenQ_n ⟨(.cons (by rw [dor1 hs0]; rfl) (.cons rfl (.cons rfl (.cons rfl (.cons rfl (.cons rfl (.cons rfl .nil))))))), rfl⟩
        · skip
          refine VC.region ?_
          refine Ops.r (Run.mv rfl) rfl ?_
          refine Ops.r (Run.bin rfl rfl (Bin.lss _ 0)) rfl ?_
          refine Ops.r (Run.mv rfl) rfl ?_
          refine Ops.rg rfl (by first | rfl | assumption | decide | (simp; done) | (simp; omega) | (simp [*]; done)) (Run.mv rfl) rfl ?_
          refine Ops.rg rfl (by first | rfl | assumption | decide | (simp; done) | (simp; omega) | (simp [*]; done)) (Run.bin rfl rfl (Bin.gtr _ 15)) rfl ?_
          refine Ops.r (Run.pickF rfl rfl (by first | rfl | assumption | decide | (simp; done) | (simp; omega) | (simp [*]; done))) rfl ?_
          refine Ops.nil ?_
          refine thenQ_n ⟨(.cons (by rw [dor0 hs0]; rfl) (.cons rfl (.cons rfl (.cons rfl (.cons rfl (.cons rfl (.cons rfl .nil))))))), rfl⟩
      · intro Γ hΓ
        refine thenQ_n (VC.sub _ hΓ ?_)
        refine VC.condD rfl (fun hc3 => ?_) (fun hc3 => ?_)
        · skip
          refine VC.seq ?_
          refine VC.region ?_
          refine Ops.r (Run.loadB rfl Try.isAgg94 Try.sizeOf94 (hbc) rfl) rfl ?_
          refine Ops.st (Acts.storeA rfl rfl Try.sizeOf94 hbr rfl (CI_one _)) ?_
          rintro w3 ⟨hb3, hf3, hs3⟩
          refine Ops.r (Run.asg rfl) rfl ?_
          refine Ops.nil ?_
          refine thenQ_n ?_
          refine VC.sub [(2, _), (3, _)] (.cons rfl (.cons rfl .nil)) ?_
          refine VC.ret ?_
          refine thenQ_r (blockQ_r (thenQ_r (thenQ_r (blockQ_r (thenQ_r (endR ?_))))))
          refine res_cellB rfl Try.isAgg94 Try.sizeOf94 (hb3) rfl ?_
          refine res_tmp rfl ?_
          refine res_nil ?_
          have hng : ¬ good l := by
            intro h
            have := h.2 x (by rw [← hx]; exact List.getElem_mem hc2)
            omega
          refine ⟨fun k => (l.take i).count (k : Int), ?_, ?_, fun h => absurd h hng, hfr.own hf3 (up_one (by omega))⟩
          · rw [decide_eq_false hng]
            rfl
          · intro k
            exact Nat.le_trans List.count_le_length (by simp; omega)
        · skip
          obtain ⟨m, rfl⟩ : ∃ m : Nat, x = m := ⟨x.toNat, by omega⟩
          have hcm : (l.take i).count (m : Int) ≤ l.length := Nat.le_trans List.count_le_length (by simp; omega)
          refine VC.skip ?_
          refine thenQ_n ?_
          refine VC.sub [(2, _), (4, _), (6, _), (11, _), (12, _), (13, _)] (.cons rfl (.cons rfl (.cons rfl (.cons rfl (.cons rfl (.cons rfl .nil)))))) ?_
          refine VC.region ?_
          refine Ops.r (Run.mv rfl) rfl ?_
          refine Ops.r (Run.indexA1 _ rfl rfl Try.underlying94 Try.sizeOf3 (by omega)) rfl ?_
          refine Ops.r (Run.load rfl Try.isAgg3 ((hbc.cell _).trans (by simpa using CI_get _ m (by omega)))) rfl ?_
          refine Ops.r (Run.bin rfl rfl (Bin.add_i64 _ 1 (by omega))) rfl ?_
          refine Ops.r (Run.indexA1 _ rfl rfl Try.underlying94 Try.sizeOf3 (by omega)) rfl ?_
          refine Ops.st (Acts.store rfl rfl Try.sizeOf3 hbc (by simp [CI, Nat.blt_eq]; omega) rfl) ?_
          rintro w3 ⟨hb3, hf3, hs3⟩
          refine Ops.nil ?_
          refine blockQ_n (thenQ_n ?_)
          refine VC.sub [(2, _), (4, _), (11, _), (12, _), (13, _)] (.cons rfl (.cons rfl (.cons rfl (.cons rfl (.cons rfl .nil))))) ?_
          refine VC.region ?_
          refine Ops.r (Run.bin rfl rfl (Bin.add_i64 _ 1 (by omega))) rfl ?_
          refine Ops.r (Run.mv rfl) rfl ?_
          refine Ops.nil ?_
          refine thenQ_n ⟨(i + 1), (.cons rfl (.cons rfl (.cons rfl (.cons rfl (.cons rfl .nil))))), ?_, ?_⟩
          · skip
            refine ⟨hc2, ?_, hbr.frm hf3 (by simp; omega), ?_, hfr.own hf3 (up_one (by omega))⟩
            · rw [htk]
              intro y hy
              rcases List.mem_append.1 hy with h | h
              · exact hpre y h
              · simp at h; subst h; omega
            · rw [CI_set] at hb3
              have e : (fun k : Nat => if k = 0 + m then (l.take i).count (m : Int) + 1 else (l.take i).count (k : Int)) = fun k : Nat => (l.take (i + 1)).count (k : Int) := by
                funext k
                rw [htk, List.count_append]
                by_cases hk : k = m
                · subst hk; simp
                · have : (m : Int) ≠ (k : Int) := by omega
                  simp [hk, List.count_cons, this]
              rw [← e]
              simpa using hb3
          · skip
            first | omega | (dsimp only; omega)
    · skip
      have hik : i = l.length := by omega
      refine VC.exit ?_
      refine thenQ_x (thenQ_x (blockQ_x ?_))
      refine thenQ_n ?_
      refine VC.sub [(2, _), (4, _)] (.cons rfl (.cons rfl .nil)) ?_
      refine VC.seq ?_
      refine VC.region ?_
      refine Ops.r (Run.indexA1 0 rfl rfl Try.underlying94 Try.sizeOf3 (by omega)) rfl ?_
      refine Ops.st (Acts.store rfl rfl Try.sizeOf3 hbc rfl rfl) ?_
      rintro w5 ⟨hb5, hf5, hs5⟩
      have hb5 : Blk w5 gc 94 (CI fun k => if k = 0 then 0 else (l.take i).count (k : Int)).toArray := by rw [← CI_set]; exact hb5
      have hbr5 := hbr.frm hf5 (by simp; omega)
      refine Ops.nil ?_
      refine thenQ_n ?_
      refine VC.sub [(2, _), (4, _)] (.cons rfl (.cons rfl .nil)) ?_
      refine VC.seq ?_
      refine VC.region ?_
      refine Ops.r (Run.loadB rfl Try.isAgg94 Try.sizeOf94 (hb5) rfl) rfl ?_
      refine Ops.st (Acts.storeA rfl rfl Try.sizeOf94 hbr5 rfl (CI_one _)) ?_
      rintro w6 ⟨hb6, hf6, hs6⟩
      refine Ops.r (Run.asg rfl) rfl ?_
      refine Ops.nil ?_
      refine thenQ_n ?_
      refine VC.sub [(2, _), (3, _)] (.cons rfl (.cons rfl .nil)) ?_
      refine VC.ret ?_
      refine endR ?_
      refine res_cellB rfl Try.isAgg94 Try.sizeOf94 (hb6) rfl ?_
      refine res_tmp rfl ?_
      refine res_nil ?_
      have hgd : good l := ⟨by omega, by rw [hik, List.take_length] at hpre; exact hpre⟩
      refine ⟨cn l, ?_, ?_, fun _ => rfl, (hfr.own hf5 (up_one (by omega))).own hf6 (up_one (by omega))⟩
      · rw [decide_eq_true hgd, hik, List.take_length]
        rfl
      · intro k
        unfold cn
        split
        · omega
        · exact Nat.le_trans List.count_le_length (by omega)

set_option maxRecDepth 100000 in
theorem left9_spec (f : Nat → Nat) (w : World) (hf : ∀ k, f k ≤ 320) :
    Calls Try.prog 63 #[.agg (CI f).toArray] w fun e w' => e = .returned (.int .i64 (32768 - ((KC f 16 : Nat) : Int))) ∧ Frm [] w w' := by
  refine VC.calls (nt := 18) (res := #[.tmp 2]) Try.func63 rfl Try.ntmps63 Try.results63 rfl ?_
  refine VC.seq ?_
  refine VC.region ?_
  refine Ops.m (Does.box rfl) rfl ?_
  rintro _ w1 ⟨rfl, hF1⟩
  have hb1 : Blk w1 w.heap.size 94 (CI f).toArray := hF1.blk
  have hfr1 := hF1.frm
  generalize hg : w.heap.size = g at hb1
  refine Ops.r (v := .int .i64 ((0 : Nat) : Int)) (Run.asg rfl) rfl ?_
  refine Ops.nil ?_
  refine thenQ_n ?_
  refine VC.sub [(1, _)] (.cons rfl .nil) ?_
  refine VC.seq ?_
  refine VC.region ?_
  refine Ops.r (v := .int .i64 ((32768 : Nat) : Int)) (Run.asg rfl) rfl ?_
  refine Ops.nil ?_
  refine thenQ_n ?_
  refine VC.seq ?_
  refine VC.seq ?_
  refine VC.region ?_
  refine Ops.r (v := .int .i64 ((0 : Nat) : Int)) (Run.mv rfl) rfl ?_
  refine Ops.nil ?_
  refine thenQ_n ?_
  refine VC.block ?_
  refine VC.loop (σ := Nat) (fun s => [(1, .pointer (some ⟨g, 0, none⟩)), (3, .int .i64 (32768 - ((KC f s : Nat) : Int))), (5, .int .i64 s)]) (fun s wr => s ≤ 16 ∧ wr = w1) (fun s => 16 - s) 0 (.cons (by rw [← hg]; rfl) (.cons rfl (.cons rfl .nil))) ⟨by omega, rfl⟩ ?_
  rintro i _ ⟨hi, rfl⟩
  have hk := KC_le f hf i hi
  refine VC.seq ?_
  refine VC.region ?_
  refine Ops.r (Run.bin rfl rfl (Bin.lssN _ 16)) rfl ?_
  refine Ops.nil ?_
  refine thenQ_n ?_
  refine VC.seq ?_
  refine VC.condD rfl (fun hc1 => ?_) (fun hc1 => ?_)
  · skip
    have hk1 := KC_le f hf (i + 1) (by omega)
    have he1 : KC f (i + 1) = KC f i + f i * 2 ^ (15 - i) := rfl
    have hfi := hf i
    refine VC.skip ?_
    refine thenQ_n ?_
    refine VC.sub [(1, _), (3, _), (5, _)] (.cons rfl (.cons rfl (.cons rfl .nil))) ?_
    refine VC.seq ?_
    refine VC.block ?_
    refine VC.seq ?_
    refine VC.region ?_
    refine Ops.r (Run.mv rfl) rfl ?_
    refine Ops.r (Run.asg rfl) rfl ?_
    refine Ops.nil ?_
    refine thenQ_n ?_
    refine VC.sub [(1, _), (3, _), (4, _), (5, _)] (.cons rfl (.cons rfl (.cons rfl (.cons rfl .nil)))) ?_
    refine VC.region ?_
    refine Ops.r (Run.mv rfl) rfl ?_
    refine Ops.r (Run.mv rfl) rfl ?_
    refine Ops.r (Run.indexA1 _ rfl rfl Try.underlying94 Try.sizeOf3 (by omega)) rfl ?_
    refine Ops.r (Run.load rfl Try.isAgg3 ((hb1.cell _).trans (by simpa using CI_get f i (by omega)))) rfl ?_
    refine Ops.r (Run.mv rfl) rfl ?_
    refine Ops.r (Run.bin rfl rfl (Bin.sub_i64 15 _ (by omega) (by omega))) rfl ?_
    refine Ops.r (Run.bin rfl rfl (Bin.shl_i64 _ _ (by omega) (by omega))) rfl ?_
    refine Ops.r (Run.bin rfl rfl (Bin.subZ _ _ (by omega) (by omega))) rfl ?_
    refine Ops.r (Run.asg rfl) rfl ?_
    refine Ops.nil ?_
    refine blockQ_n (thenQ_n ?_)
    refine VC.sub [(1, _), (3, _), (5, _)] (.cons rfl (.cons rfl (.cons rfl .nil))) ?_
    refine VC.region ?_
    refine Ops.r (Run.bin rfl rfl (Bin.add_i64 _ 1 (by omega))) rfl ?_
    refine Ops.r (Run.mv rfl) rfl ?_
    refine Ops.nil ?_
    refine thenQ_n ⟨(i + 1), (.cons rfl (.cons (congrArg (fun z => some (Value.int .i64 z)) (by omega)) (.cons rfl .nil))), ?_, ?_⟩
    · skip
      exact ⟨hc1, rfl⟩
    · skip
      first | omega | (dsimp only; omega)
  · skip
    have h16 : i = 16 := by omega
    subst h16
    refine VC.exit ?_
    refine thenQ_x (thenQ_x (blockQ_x ?_))
    refine thenQ_n ?_
    refine VC.sub [(3, _)] (.cons rfl .nil) ?_
    refine VC.seq ?_
    refine VC.region ?_
    refine Ops.r (Run.mv rfl) rfl ?_
    refine Ops.r (Run.asg rfl) rfl ?_
    refine Ops.nil ?_
    refine thenQ_n ?_
    refine VC.sub [(2, _)] (.cons rfl .nil) ?_
    refine VC.ret ?_
    refine end1 rfl ?_
    exact ⟨rfl, hfr1⟩

/-- What is wrong with lengths. -/
def chk (l : List Int) : Nat := if ¬ good l then 1 else if 32768 < KC (cn l) 16 then 8 else if KC (cn l) 16 < 32768 then 2 else 0

set_option maxRecDepth 100000 in
theorem check_spec (A : Option Addr) (c0 : Nat) (l : List Int) (w : World) (hl : l.length ≤ 1000000000) (hr : Rd w 1 A l.length (IB l)) :
    Calls Try.prog 58 #[.slice A l.length c0] w fun e w' => e = .returned (.int .i64 ((chk l : Nat) : Int)) ∧ Frm [] w w' := by
  refine VC.calls (nt := 22) (res := #[.tmp 2]) Try.func58 rfl Try.ntmps58 Try.results58 rfl ?_
  refine VC.seq ?_
  refine VC.region ?_
  refine Ops.r (v := .int .i64 ((0 : Nat) : Int)) (Run.asg rfl) rfl ?_
  refine Ops.nil ?_
  refine thenQ_n ?_
  refine VC.sub [(0, _)] (.cons rfl .nil) ?_
  refine VC.seq ?_
  refine VC.region ?_
  refine Ops.r (Run.mv rfl) rfl ?_
  refine Ops.cl (Enters.fn (evs.cons rfl evs.nil) Try.call59) (count_spec' A c0 l _ hl hr) rfl ?_
  rintro e w1 ⟨f, rfl, hf, hgd, hf1⟩
  refine ⟨_, rfl, ?_⟩
  refine Ops.r (Run.mv rfl) rfl ?_
  refine Ops.r (Run.extract rfl rfl) rfl ?_
  refine Ops.r (Run.extract rfl rfl) rfl ?_
  refine Ops.m (Does.alloc zero94) rfl ?_
  rintro _ w2 ⟨rfl, hF2⟩
  have hb2 : Blk w2 w1.heap.size 94 (CI fun _ => 0).toArray := hF2.blk
  have hfr2 := hf1.own hF2.frm (by simp)
  have hg1 := hf1.size
  generalize hg : w1.heap.size = g at *
  refine Ops.st (Acts.storeA rfl rfl Try.sizeOf94 hb2 rfl (CI_one _)) ?_
  rintro w3 ⟨hb3, hf3, hs3⟩
  have hfr3 := hfr2.own hf3 (up_one (by omega))
  refine Ops.r (Run.asg rfl) rfl ?_
  refine Ops.nil ?_
  refine thenQ_n ?_
  refine VC.sub [(3, _), (4, _)] (.cons rfl (.cons rfl .nil)) ?_
  refine VC.seq ?_
  refine VC.region ?_
  refine Ops.r (Run.loadB rfl Try.isAgg94 Try.sizeOf94 (hb3) rfl) rfl ?_
  refine Ops.cl (Enters.fn (evs.cons rfl evs.nil) Try.call63) (left9_spec f _ hf) rfl ?_
  rintro e w4 ⟨rfl, hf4⟩
  refine ⟨_, rfl, ?_⟩
  have hfr4 := hfr3.own hf4 (by simp)
  refine Ops.r (Run.asg rfl) rfl ?_
  refine Ops.nil ?_
  refine thenQ_n ?_
  refine VC.sub [(4, _), (5, _)] (.cons rfl (.cons rfl .nil)) ?_
  refine VC.seq ?_
  refine VC.block ?_
  refine VC.seq ?_
  refine VC.region ?_
  refine Ops.r (Run.mv rfl) rfl ?_
  refine Ops.r (Run.not rfl) rfl ?_
  refine Ops.r (Run.asg rfl) rfl ?_
  refine Ops.nil ?_
  refine thenQ_n ?_
  refine VC.sub [(5, _), (13, _)] (.cons rfl (.cons rfl .nil)) ?_
  refine VC.condB rfl (fun hc1 => ?_) (fun hc1 => ?_)
  · skip
    have he : chk l = 1 := by unfold chk; rw [if_pos (by simpa using hc1)]
    refine VC.seq ?_
    refine VC.region ?_
    refine Ops.r (v := .int .i64 ((1 : Nat) : Int)) (Run.asg rfl) rfl ?_
    refine Ops.nil ?_
    refine thenQ_n ?_
    refine VC.sub [(2, _)] (.cons rfl .nil) ?_
    refine VC.ret ?_
    refine blockQ_r (thenQ_r (end1 rfl ?_))
    exact ⟨by rw [he], hfr4⟩
  · skip
    have hgl : good l := by simpa using hc1
    rw [hgd hgl] at *
    refine VC.seq ?_
    refine VC.region ?_
    refine Ops.r (Run.mv rfl) rfl ?_
    refine Ops.r (Run.bin rfl rfl (Bin.lss _ 0)) rfl ?_
    refine Ops.r (Run.asg rfl) rfl ?_
    refine Ops.nil ?_
    refine thenQ_n ?_
    refine VC.sub [(5, _), (16, _)] (.cons rfl (.cons rfl .nil)) ?_
    refine VC.condD rfl (fun hc2 => ?_) (fun hc2 => ?_)
    · skip
      have he : chk l = 8 := by unfold chk; rw [if_neg (by simpa using hgl), if_pos (by omega)]
      refine VC.seq ?_
      refine VC.region ?_
      refine Ops.r (v := .int .i64 ((8 : Nat) : Int)) (Run.asg rfl) rfl ?_
      refine Ops.nil ?_
      refine thenQ_n ?_
      refine VC.sub [(2, _)] (.cons rfl .nil) ?_
      refine VC.ret ?_
      refine blockQ_r (thenQ_r (end1 rfl ?_))
      exact ⟨by rw [he], hfr4⟩
    · skip
      refine VC.seq ?_
      refine VC.region ?_
      refine Ops.r (Run.mv rfl) rfl ?_
      refine Ops.r (Run.bin rfl rfl (Bin.gtr _ 0)) rfl ?_
      refine Ops.r (Run.asg rfl) rfl ?_
      refine Ops.nil ?_
      refine thenQ_n ?_
      refine VC.sub [(19, _)] (.cons rfl .nil) ?_
      refine VC.condD rfl (fun hc3 => ?_) (fun hc3 => ?_)
      · skip
        have he : chk l = 2 := by unfold chk; rw [if_neg (by simpa using hgl), if_neg (by omega), if_pos (by omega)]
        refine VC.seq ?_
        refine VC.region ?_
        refine Ops.r (v := .int .i64 ((2 : Nat) : Int)) (Run.asg rfl) rfl ?_
        refine Ops.nil ?_
        refine thenQ_n ?_
        refine VC.sub [(2, _)] (.cons rfl .nil) ?_
        refine VC.ret ?_
        refine blockQ_r (thenQ_r (end1 rfl ?_))
        exact ⟨by rw [he], hfr4⟩
      · skip
        have he : chk l = 0 := by unfold chk; rw [if_neg (by simpa using hgl), if_neg (by omega), if_neg (by omega)]
        refine VC.skip ?_
        refine blockQ_n (thenQ_n ?_)
        refine VC.sub [] .nil ?_
        refine VC.seq ?_
        refine VC.region ?_
        refine Ops.r (v := .int .i64 ((0 : Nat) : Int)) (Run.asg rfl) rfl ?_
        refine Ops.nil ?_
        refine thenQ_n ?_
        refine VC.ret ?_
        refine end1 rfl ?_
        exact ⟨by rw [he], hfr4⟩

set_option maxRecDepth 100000 in
theorem firsts_spec (f : Nat → Nat) (w : World) (hf : ∀ k, f k ≤ 320) :
    Calls Try.prog 60 #[.agg (CI f).toArray] w fun e w' => e = .returned (.agg (CU (fstF f)).toArray) ∧ Frm [] w w' := by
  refine VC.calls (nt := 22) (res := #[.cell 2 97]) Try.func60 rfl Try.ntmps60 Try.results60 rfl ?_
  refine VC.seq ?_
  refine VC.region ?_
  refine Ops.m (Does.box rfl) rfl ?_
  rintro _ w1 ⟨rfl, hF1⟩
  have hb1 : Blk w1 w.heap.size 94 (CI f).toArray := hF1.blk
  refine Ops.m (Does.alloc zero97) rfl ?_
  rintro _ w2 ⟨rfl, hF2⟩
  have hb2 : Blk w2 w1.heap.size 97 (CU fun _ => 0).toArray := hF2.blk
  have hb12 := hb1.frm hF2.frm (by simp)
  refine Ops.nil ?_
  refine thenQ_n ?_
  refine VC.sub [(1, _), (2, _)] (.cons rfl (.cons rfl .nil)) ?_
  refine VC.seq ?_
  refine VC.region ?_
  refine Ops.m (Does.alloc zero97) rfl ?_
  rintro _ w3 ⟨rfl, hF3⟩
  have hb3 : Blk w3 w2.heap.size 97 (CU fun _ => 0).toArray := hF3.blk
  have hb13 := hb12.frm hF3.frm (by simp)
  have hb23 := hb2.frm hF3.frm (by simp)
  have hfr3 := (hF1.frm.own hF2.frm (by simp)).own hF3.frm (by simp)
  have h1 := hb1.lt
  have h2 := hb2.lt
  generalize hg1 : w.heap.size = g1 at hb13 h1
  generalize hg2 : w1.heap.size = g2 at *
  generalize hg3 : w2.heap.size = g3 at *
  refine Ops.nil ?_
  refine thenQ_n ?_
  refine VC.seq ?_
  refine VC.region ?_
  refine Ops.r (v := .int .u64 ((0 : Nat) : Int)) (Run.asg rfl) rfl ?_
  refine Ops.nil ?_
  refine thenQ_n ?_
  refine VC.seq ?_
  refine VC.seq ?_
  refine VC.region ?_
  refine Ops.r (v := .int .i64 ((1 : Nat) : Int)) (Run.asg rfl) rfl ?_
  refine Ops.nil ?_
  refine thenQ_n ?_
  refine VC.block ?_
  refine VC.loop (σ := Nat) (fun s => [(1, .pointer (some ⟨g1, 0, none⟩)), (2, .pointer (some ⟨g2, 0, none⟩)), (3, .pointer (some ⟨g3, 0, none⟩)), (4, .int .u64 ((fstF f s : Nat) : Int)), (5, .int .i64 ((s + 1 : Nat) : Int))]) (fun s wr => s ≤ 15 ∧ Blk wr g1 94 (CI f).toArray ∧ Blk wr g2 97 (CU fun _ => 0).toArray ∧ Blk wr g3 97 (CU fun k => if k ≤ s then fstF f k else 0).toArray ∧ Frm [] w wr) (fun s => 16 - s) 0 (.cons (by rw [← hg1]; rfl) (.cons (by rw [← hg2]; rfl) (.cons (by rw [← hg3]; rfl) (.cons rfl (.cons rfl .nil))))) ⟨by omega, hb13, hb23, by
      have e : (fun k => if k ≤ 0 then fstF f k else 0) = fun _ => 0 := by
        funext k
        split
        · rename_i h; have : k = 0 := by omega
          subst this; rfl
        · rfl
      rw [e]; exact hb3, hfr3⟩ ?_
  rintro i wr ⟨hi, hbc, hbr, hbf, hfr⟩
  have hfl := fstF_le f 320 hf i
  have hp : 2 ^ i ≤ 2 ^ 15 := Nat.pow_le_pow_right (by omega) hi
  have hfi := hf i
  refine VC.seq ?_
  refine VC.seq ?_
  refine VC.region ?_
  refine Ops.r (Run.mv rfl) rfl ?_
  refine Ops.r (Run.bin rfl rfl (Bin.leqN _ 15)) rfl ?_
  refine Ops.nil ?_
  refine thenQ_n ?_
  refine VC.sub [(1, _), (2, _), (3, _), (4, _), (5, _), (7, _)] (.cons rfl (.cons rfl (.cons rfl (.cons rfl (.cons rfl (.cons rfl .nil)))))) ?_
  refine VC.condD rfl (fun hc1 => ?_) (fun hc1 => ?_)
  · skip
    refine VC.skip ?_
    refine thenQ_n ?_
    refine VC.sub [(1, _), (2, _), (3, _), (4, _), (5, _)] (.cons rfl (.cons rfl (.cons rfl (.cons rfl (.cons rfl .nil))))) ?_
    refine VC.seq ?_
    refine VC.block ?_
    refine VC.seq ?_
    refine VC.region ?_
    refine Ops.r (Run.mv rfl) rfl ?_
    refine Ops.r (Run.mv rfl) rfl ?_
    refine Ops.r (Run.bin rfl rfl (Bin.sub_i64 _ 1 (by omega) (by omega))) rfl ?_
    refine Ops.r (Run.indexA1 _ rfl rfl Try.underlying94 Try.sizeOf3 (by omega)) rfl ?_
    refine Ops.r (Run.load rfl Try.isAgg3 ((hbc.cell _).trans (by simpa using CI_get f i (by omega)))) rfl ?_
    refine Ops.r (Run.convN _ rfl Try.underlying3 Try.underlying74 (by simp only [bmax]; omega)) rfl ?_
    refine Ops.r (Run.bin rfl rfl (Bin.add_u64 _ _ (by omega))) rfl ?_
    refine Ops.r (Run.bin rfl rfl (Bin.shl_u64 _ 1 (by omega) (by omega))) rfl ?_
    refine Ops.r (Run.asg rfl) rfl ?_
    refine Ops.nil ?_
    refine thenQ_n ?_
    refine VC.sub [(1, _), (2, _), (3, _), (4, _), (5, _)] (.cons rfl (.cons rfl (.cons rfl (.cons rfl (.cons rfl .nil))))) ?_
    refine VC.region ?_
    refine Ops.r (Run.mv rfl) rfl ?_
    refine Ops.r (Run.mv rfl) rfl ?_
    refine Ops.r (Run.indexA1 _ rfl rfl Try.underlying97 Try.sizeOf74 (by omega)) rfl ?_
    refine Ops.st (Acts.store rfl rfl Try.sizeOf74 hbf (by simp [CU, Nat.blt_eq]; omega) rfl) ?_
    rintro w5 ⟨hb5, hf5, hs5⟩
    refine Ops.nil ?_
    refine blockQ_n (thenQ_n ?_)
    refine VC.sub [(1, _), (2, _), (3, _), (4, _), (5, _)] (.cons rfl (.cons rfl (.cons rfl (.cons rfl (.cons rfl .nil))))) ?_
    refine VC.region ?_
    refine Ops.r (Run.mv rfl) rfl ?_
    refine Ops.r (Run.bin rfl rfl (Bin.add_i64 _ 1 (by omega))) rfl ?_
    refine Ops.r (Run.asg rfl) rfl ?_
    refine Ops.nil ?_
    refine thenQ_n ⟨(i + 1), (.cons rfl (.cons rfl (.cons rfl (.cons (by rw [fstF]; rfl) (.cons rfl .nil))))), ?_, ?_⟩
    · skip
      refine ⟨by omega, hbc.frm hf5 (by simp; omega), hbr.frm hf5 (by simp; omega), ?_, hfr.own hf5 (up_one (by omega))⟩
      have e : (CU fun k => if k ≤ i + 1 then fstF f k else 0).toArray = (CU fun k => if k = 0 + (i + 1) then (fstF f i + f i) * 2 ^ 1 else if k ≤ i then fstF f k else 0).toArray := by
        congr 2
        funext k
        by_cases hk : k = i + 1
        · subst hk; simp [fstF]
        · by_cases hk2 : k ≤ i
          · simp [hk, hk2, show k ≤ i + 1 by omega]
          · simp [hk, hk2, show ¬ k ≤ i + 1 by omega]
      rw [e, ← CU_set]
      exact hb5
    · skip
      first | omega | (dsimp only; omega)
  · skip
    have h15 : i = 15 := by omega
    subst h15
    have hfull : (CU fun k => if k ≤ 15 then fstF f k else 0).toArray = (CU (fstF f)).toArray := rfl
    rw [hfull] at hbf
    refine VC.exit ?_
    refine thenQ_x (thenQ_x (blockQ_x ?_))
    refine thenQ_n ?_
    refine VC.sub [(2, _), (3, _)] (.cons rfl (.cons rfl .nil)) ?_
    refine VC.seq ?_
    refine VC.region ?_
    refine Ops.r (Run.loadB rfl Try.isAgg97 Try.sizeOf97 (hbf) rfl) rfl ?_
    refine Ops.st (Acts.storeA rfl rfl Try.sizeOf97 hbr rfl (CU_one _)) ?_
    rintro w6 ⟨hb6, hf6, hs6⟩
    refine Ops.nil ?_
    refine thenQ_n ?_
    refine VC.sub [(2, _)] (.cons rfl .nil) ?_
    refine VC.ret ?_
    refine endR ?_
    refine res_cellB rfl Try.isAgg97 Try.sizeOf97 (hb6) rfl ?_
    refine res_nil ?_
    exact ⟨rfl, hfr.own hf6 (up_one (by omega))⟩

end Go.Proofs.Ytfjhmbgckmhdaaa
