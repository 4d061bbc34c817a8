/-
  The walks of seqset: the places that are named; which of some numbers are.
-/
import Derived.Test.YtnllhddbgkeboaaDoorSeqH
import Derived.Test.YtnllhddbgkeboaaDoorSeqS
namespace Go.Proofs.YtnllhddbgkeboaaDoor
open Go.RowKit Go.Sort

theorem SC_at' {w : World} {A : Option Addr} {l : List Sp} {k : Nat} (h : Rd w 2 A l.length (SC l)) (hk : k < l.length) : ∃ ad, A = some ad ∧ ∀ j v, (SC1 l[k])[j]? = some v → w.cell? ((ad.add (k * 2)).add j) = some v := SC_at h hk
theorem take_snoc {α : Type} {l : List α} {i : Nat} (h : i < l.length) : l.take (i + 1) = l.take i ++ [l[i]] := by rw [List.take_add_one, List.getElem?_eq_getElem h]; rfl
theorem hrdI {w w' : World} {t : TypeId} {q : Int} (h : Fresh w w' t #[.int .i64 q]) : Rd w' 1 (some ⟨w.heap.size, 0, none⟩) 1 (IB [q]) := Rd.of_blk (n := 1) (size := 1) h.blk rfl
theorem ends_le (x : Sp) (g : Int) : (endsQ x g).1 ≤ (endsQ x g).2 := by
  unfold endsQ
  dsimp only
  split <;> split <;> omega
theorem fromTo_len (a b : Int) : (fromTo a b).length = (b + 1 - a).toNat := by simp [fromTo]
theorem fromTo_snoc {a b : Int} {k : Nat} (h : k < (fromTo a b).length) : (fromTo a b).take (k + 1) = (fromTo a b).take k ++ [a + (k : Int)] := by
  rw [take_snoc h]
  simp [fromTo]
theorem rawP_snoc (l : List Sp) (m : Int) (x : Sp) : rawP (l ++ [x]) m = rawP l m ++ fromTo (endsQ x m).1 (endsQ x m).2 := by simp [rawP]
def errP (l : List Sp) (many : Int) : Int := if ∃ x ∈ l, BadP many x then 4 else 0
theorem placesQ_bad {l : List Sp} {m : Int} {x : Sp} (h : x ∈ l) (hb : BadP m x) : placesQ l m = [] ∧ errP l m = 4 := by
  have h1 : ∃ x ∈ l, BadP m x := ⟨x, h, hb⟩
  unfold placesQ errP
  rw [if_pos h1, if_pos h1]
  exact ⟨rfl, rfl⟩
theorem placesQ_good {l : List Sp} {m : Int} (h : ∀ x ∈ l, ¬ BadP m x) : placesQ l m = Lib.compact (srtI (rawP l m)) ∧ errP l m = 0 := by
  have h1 : ¬ ∃ x ∈ l, BadP m x := fun ⟨x, hx, hb⟩ => h x hx hb
  unfold placesQ errP
  rw [if_neg h1, if_neg h1]
  exact ⟨rfl, rfl⟩

set_option maxRecDepth 100000 in
theorem places_spec (A : Option Addr) (c : Nat) (l : List Sp) (many : Int) (w : World) (hl : Rd w 2 A l.length (SC l)) (hn : l.length ≤ 1000) (hm : many ≤ 1000) :
    Calls Tryd.prog 27 #[.slice A l.length c, .int .i64 many] w fun e w' => Frm [] w w' ∧ ∃ B d, e = .returned (.tuple #[.slice B (placesQ l many).length d, .int .i64 (errP l many)]) ∧ Own w' 3 1 B (placesQ l many).length d (IB (placesQ l many)) ∧ (∀ x ∈ ob B, w.heap.size ≤ x) := by
  refine VC.calls (nt := 51) (res := #[.tmp 4, .tmp 5]) Tryd.func27 rfl Tryd.ntmps27 Tryd.results27 rfl ?_
  refine VC.seq ?_
  refine VC.region ?_
  refine Ops.r (Run.asg rfl) rfl ?_
  refine Ops.r (v := .int .i64 ((0 : Nat) : Int)) (Run.asg rfl) rfl ?_
  refine Ops.nil ?_
  refine thenQ_n ?_
  refine VC.sub [(0, _), (1, _)] (.cons rfl (.cons rfl .nil)) ?_
  refine VC.seq ?_
  refine VC.region ?_
  refine Ops.r (Run.asg rfl) rfl ?_
  refine Ops.nil ?_
  refine thenQ_n ?_
  refine VC.seq ?_
  refine VC.seq ?_
  refine VC.region ?_
  refine Ops.r (Run.mv rfl) rfl ?_
  refine Ops.r (Run.lenS rfl Tryd.underlying37) rfl ?_
  refine Ops.r (v := .int .i64 ((0 : Nat) : Int)) (Run.mv rfl) rfl ?_
  refine Ops.nil ?_
  refine thenQ_n ?_
  refine VC.sub [(0, _), (1, _), (6, _), (12, _), (13, _)] (.cons rfl (.cons rfl (.cons rfl (.cons rfl (.cons rfl .nil))))) ?_
  refine VC.block ?_
  refine VC.loop (σ := Nat × Option Addr × Nat) (fun s => [(0, .slice A l.length c), (1, .int .i64 many), (6, .slice s.2.1 (rawP (l.take s.1) many).length s.2.2), (12, .int .i64 ((l.length : Nat) : Int)), (13, .int .i64 ((s.1 : Nat) : Int))]) (fun s wr => s.1 ≤ l.length ∧ Own wr 3 1 s.2.1 (rawP (l.take s.1) many).length s.2.2 (IB (rawP (l.take s.1) many)) ∧ (∀ x ∈ ob s.2.1, w.heap.size ≤ x) ∧ Frm [] w wr ∧ (∀ x ∈ l.take s.1, ¬ BadP many x) ∧ (rawP (l.take s.1) many).length ≤ s.1 * 1000) (fun s => l.length - s.1) (0, none, 0) (.cons rfl (.cons rfl (.cons rfl (.cons rfl (.cons rfl .nil))))) ⟨by omega, Own.nil _ _ _, by simp [ob], Frm.refl _ _, by simp, by simp [rawP]⟩ ?_
  rintro ⟨i, B, d⟩ wr ⟨hi, hown, hge, hfr, hng, hrl⟩
  dsimp only at hi hown hge hng hrl ⊢
  refine VC.seq ?_
  refine VC.region ?_
  refine Ops.r (Run.bin rfl rfl (Bin.lssN _ _)) rfl ?_
  refine Ops.nil ?_
  refine thenQ_n ?_
  refine VC.seq ?_
  refine VC.condD rfl (fun hc1 => ?_) (fun hc1 => ?_)
  · skip
    obtain ⟨ad, rfl, hcell⟩ := SC_at (hl.frm hfr (by simp)) hc1
    have hxm := List.getElem_mem hc1
    have htk := take_snoc hc1
    generalize hx : l[i] = x at *
    refine VC.skip ?_
    refine thenQ_n ?_
    refine VC.sub [(0, _), (1, _), (6, _), (12, _), (13, _)] (.cons rfl (.cons rfl (.cons rfl (.cons rfl (.cons rfl .nil))))) ?_
    refine VC.seq ?_
    refine VC.block ?_
    refine VC.seq ?_
    refine VC.region ?_
    refine Ops.r (Run.mv rfl) rfl ?_
    refine Ops.r (Run.asg rfl) rfl ?_
    refine Ops.nil ?_
    refine thenQ_n ?_
    refine VC.sub [(0, _), (1, _), (6, _), (7, _), (12, _), (13, _)] (.cons rfl (.cons rfl (.cons rfl (.cons rfl (.cons rfl (.cons rfl .nil)))))) ?_
    refine VC.seq ?_
    refine VC.region ?_
    refine Ops.r (Run.mv rfl) rfl ?_
    refine Ops.r (Run.mv rfl) rfl ?_
    refine Ops.r (Run.indexS i rfl rfl Tryd.underlying37 Tryd.sizeOf46 hc1) rfl ?_
    refine Ops.r (Run.loadA rfl Tryd.isAgg46 Tryd.sizeOf46 hcell (by first | rfl | (simp; done))) rfl ?_
    refine Ops.r (Run.mv rfl) rfl ?_
    refine Ops.cl (Enters.fn (evs.cons rfl (evs.cons rfl evs.nil)) Tryd.call50) (ends_spec x many _) rfl ?_
    rintro e w1 ⟨rfl, hf1⟩
    have hfr1 := hfr.trans hf1 (by simp)
    have hown1 := hown.frm hf1 (by simp)
    have hab := ends_le x many
    have hbad : BadP many x ↔ (many < 1 ∨ many < (endsQ x many).2 ∨ (endsQ x many).1 < 1) := Iff.rfl
    have hsn := rawP_snoc (l.take i) many x
    rw [← htk] at hsn
    generalize he1 : (endsQ x many).1 = a at *
    generalize he2 : (endsQ x many).2 = b at *
    refine ⟨_, rfl, ?_⟩
    refine Ops.r (Run.mv rfl) rfl ?_
    refine Ops.r (Run.extract rfl rfl) rfl ?_
    refine Ops.r (Run.extract rfl rfl) rfl ?_
    refine Ops.r (Run.asg rfl) rfl ?_
    refine Ops.r (Run.asg rfl) rfl ?_
    refine Ops.nil ?_
    refine thenQ_n ?_
    refine VC.sub [(0, _), (1, _), (6, _), (8, _), (9, _), (12, _), (13, _)] (.cons rfl (.cons rfl (.cons rfl (.cons rfl (.cons rfl (.cons rfl (.cons rfl .nil))))))) ?_
    refine VC.seq ?_
    refine VC.seq ?_
    refine VC.split1 [(0, _), (1, _), (6, _), (8, _), (9, _), (12, _), (13, _)] (.cons rfl (.cons rfl (.cons rfl (.cons rfl (.cons rfl (.cons rfl (.cons rfl .nil))))))) 35 (.bool (decide (BadP many x))) ?_ ?_
    · refine VC.region ?_
      refine Ops.r (Run.mv rfl) rfl ?_
      refine Ops.r (Run.bin rfl rfl (Bin.lss _ 1)) rfl ?_
      by_cases hs26 : many < 1
      · skip
        refine Ops.r (Run.mv rfl) rfl ?_
        refine Ops.sk rfl (by first | rfl | assumption | exact decide_eq_true (by assumption) | exact decide_eq_false (by assumption) | decide | (simp; done) | (simp; omega) | (simp [*]; done)) rfl ?_
        refine Ops.sk rfl (by first | rfl | assumption | exact decide_eq_true (by assumption) | exact decide_eq_false (by assumption) | decide | (simp; done) | (simp; omega) | (simp [*]; done)) rfl ?_
        refine Ops.sk rfl (by first | rfl | assumption | exact decide_eq_true (by assumption) | exact decide_eq_false (by assumption) | decide | (simp; done) | (simp; omega) | (simp [*]; done)) rfl ?_
        refine Ops.r (Run.pickT rfl rfl (by first | rfl | assumption | exact decide_eq_true (by assumption) | exact decide_eq_false (by assumption) | decide | (simp; done) | (simp; omega) | (simp [*]; done))) rfl ?_
        refine Ops.r (Run.mv rfl) rfl ?_
        refine Ops.sk rfl (by first | rfl | assumption | exact decide_eq_true (by assumption) | exact decide_eq_false (by assumption) | decide | (simp; done) | (simp; omega) | (simp [*]; done)) rfl ?_
        refine Ops.sk rfl (by first | rfl | assumption | exact decide_eq_true (by assumption) | exact decide_eq_false (by assumption) | decide | (simp; done) | (simp; omega) | (simp [*]; done)) rfl ?_
        refine Ops.r (Run.pickT rfl rfl (by first | rfl | assumption | exact decide_eq_true (by assumption) | exact decide_eq_false (by assumption) | decide | (simp; done) | (simp; omega) | (simp [*]; done))) rfl ?_
        refine Ops.nil ?_
        refine thenQ_n ⟨(.cons (congrArg (fun b => some (Value.bool b)) (Eq.symm (by first | exact decide_eq_true (hbad.2 (.inl ‹_›)) | exact decide_eq_true (hbad.2 (.inr (.inl ‹_›))) | exact decide_eq_decide.2 (hbad.trans ⟨fun h => by omega, fun h => .inr (.inr h)⟩)))) (.cons rfl (.cons rfl (.cons rfl (.cons rfl (.cons rfl (.cons rfl (.cons rfl .nil)))))))), rfl⟩
      · skip
        refine Ops.r (Run.mv rfl) rfl ?_
        refine Ops.rg rfl (by first | rfl | assumption | exact decide_eq_true (by assumption) | exact decide_eq_false (by assumption) | decide | (simp; done) | (simp; omega) | (simp [*]; done)) (Run.mv rfl) rfl ?_
        refine Ops.rg rfl (by first | rfl | assumption | exact decide_eq_true (by assumption) | exact decide_eq_false (by assumption) | decide | (simp; done) | (simp; omega) | (simp [*]; done)) (Run.mv rfl) rfl ?_
        refine Ops.rg rfl (by first | rfl | assumption | exact decide_eq_true (by assumption) | exact decide_eq_false (by assumption) | decide | (simp; done) | (simp; omega) | (simp [*]; done)) (Run.bin rfl rfl (Bin.gtr _ _)) rfl ?_
        by_cases hs30 : many < b
        · skip
          refine Ops.r (Run.pickF rfl rfl (by first | rfl | assumption | exact decide_eq_true (by assumption) | exact decide_eq_false (by assumption) | decide | (simp; done) | (simp; omega) | (simp [*]; done))) rfl ?_
          refine Ops.r (Run.mv rfl) rfl ?_
          refine Ops.sk rfl (by first | rfl | assumption | exact decide_eq_true (by assumption) | exact decide_eq_false (by assumption) | decide | (simp; done) | (simp; omega) | (simp [*]; done)) rfl ?_
          refine Ops.sk rfl (by first | rfl | assumption | exact decide_eq_true (by assumption) | exact decide_eq_false (by assumption) | decide | (simp; done) | (simp; omega) | (simp [*]; done)) rfl ?_
          refine Ops.r (Run.pickT rfl rfl (by first | rfl | assumption | exact decide_eq_true (by assumption) | exact decide_eq_false (by assumption) | decide | (simp; done) | (simp; omega) | (simp [*]; done))) rfl ?_
          refine Ops.nil ?_
          refine thenQ_n ⟨(.cons (congrArg (fun b => some (Value.bool b)) (Eq.symm (by first | exact decide_eq_true (hbad.2 (.inl ‹_›)) | exact decide_eq_true (hbad.2 (.inr (.inl ‹_›))) | exact decide_eq_decide.2 (hbad.trans ⟨fun h => by omega, fun h => .inr (.inr h)⟩)))) (.cons rfl (.cons rfl (.cons rfl (.cons rfl (.cons rfl (.cons rfl (.cons rfl .nil)))))))), rfl⟩
        · skip
          refine Ops.r (Run.pickF rfl rfl (by first | rfl | assumption | exact decide_eq_true (by assumption) | exact decide_eq_false (by assumption) | decide | (simp; done) | (simp; omega) | (simp [*]; done))) rfl ?_
          refine Ops.r (Run.mv rfl) rfl ?_
          refine Ops.rg rfl (by first | rfl | assumption | exact decide_eq_true (by assumption) | exact decide_eq_false (by assumption) | decide | (simp; done) | (simp; omega) | (simp [*]; done)) (Run.mv rfl) rfl ?_
          refine Ops.rg rfl (by first | rfl | assumption | exact decide_eq_true (by assumption) | exact decide_eq_false (by assumption) | decide | (simp; done) | (simp; omega) | (simp [*]; done)) (Run.bin rfl rfl (Bin.lss _ 1)) rfl ?_
          by_cases hs34 : a < 1
          · skip
            refine Ops.r (Run.pickF rfl rfl (by first | rfl | assumption | exact decide_eq_true (by assumption) | exact decide_eq_false (by assumption) | decide | (simp; done) | (simp; omega) | (simp [*]; done))) rfl ?_
            refine Ops.nil ?_
            refine thenQ_n ⟨(.cons (congrArg (fun b => some (Value.bool b)) (Eq.symm (by first | exact decide_eq_true (hbad.2 (.inl ‹_›)) | exact decide_eq_true (hbad.2 (.inr (.inl ‹_›))) | exact decide_eq_decide.2 (hbad.trans ⟨fun h => by omega, fun h => .inr (.inr h)⟩)))) (.cons rfl (.cons rfl (.cons rfl (.cons rfl (.cons rfl (.cons rfl (.cons rfl .nil)))))))), rfl⟩
          · skip
            refine Ops.r (Run.pickF rfl rfl (by first | rfl | assumption | exact decide_eq_true (by assumption) | exact decide_eq_false (by assumption) | decide | (simp; done) | (simp; omega) | (simp [*]; done))) rfl ?_
            refine Ops.nil ?_
            refine thenQ_n ⟨(.cons (congrArg (fun b => some (Value.bool b)) (Eq.symm (by first | exact decide_eq_true (hbad.2 (.inl ‹_›)) | exact decide_eq_true (hbad.2 (.inr (.inl ‹_›))) | exact decide_eq_decide.2 (hbad.trans ⟨fun h => by omega, fun h => .inr (.inr h)⟩)))) (.cons rfl (.cons rfl (.cons rfl (.cons rfl (.cons rfl (.cons rfl (.cons rfl .nil)))))))), rfl⟩
    · intro Γ hΓ
      refine thenQ_n (VC.sub _ hΓ ?_)
      refine VC.condD rfl (fun hc2 => ?_) (fun hc2 => ?_)
      · skip
        refine VC.seq ?_
        refine VC.region ?_
        refine Ops.r (Run.asg rfl) rfl ?_
        refine Ops.r (v := .int .i64 ((4 : Nat) : Int)) (Run.asg rfl) rfl ?_
        refine Ops.nil ?_
        refine thenQ_n ?_
        refine VC.sub [(4, _), (5, _)] (.cons rfl (.cons rfl .nil)) ?_
        refine VC.ret ?_
        refine thenQ_r (blockQ_r (thenQ_r (thenQ_r (blockQ_r (thenQ_r (end2 rfl rfl ?_))))))
        obtain ⟨hp1, hp2⟩ := placesQ_bad hxm hc2
        rw [hp1, hp2]
        exact ⟨hfr1, none, 0, rfl, Own.nil _ _ _, by simp [ob]⟩
      · skip
        have hgd : ¬ (many < 1 ∨ many < b ∨ a < 1) := fun h => hc2 (hbad.2 h)
        have hgd1 : 1 ≤ a ∧ b ≤ many ∧ 1 ≤ many := by omega
        refine VC.skip ?_
        refine thenQ_n ?_
        refine VC.sub [(0, _), (1, _), (6, _), (8, _), (9, _), (12, _), (13, _)] (.cons rfl (.cons rfl (.cons rfl (.cons rfl (.cons rfl (.cons rfl (.cons rfl .nil))))))) ?_
        refine VC.seq ?_
        refine VC.region ?_
        refine Ops.r (Run.mv rfl) rfl ?_
        refine Ops.r (Run.asg rfl) rfl ?_
        refine Ops.nil ?_
        refine thenQ_n ?_
        refine VC.sub [(0, _), (1, _), (6, _), (9, _), (10, _), (12, _), (13, _)] (.cons rfl (.cons rfl (.cons rfl (.cons rfl (.cons rfl (.cons rfl (.cons rfl .nil))))))) ?_
        refine VC.block ?_
        refine VC.loop (σ := Nat × Option Addr × Nat) (fun s => [(0, .slice (some ad) l.length c), (1, .int .i64 many), (6, .slice s.2.1 (rawP (l.take i) many ++ (fromTo a b).take s.1).length s.2.2), (9, .int .i64 b), (10, .int .i64 (a + (s.1 : Int))), (12, .int .i64 ((l.length : Nat) : Int)), (13, .int .i64 ((i : Nat) : Int))]) (fun s wr => s.1 ≤ (fromTo a b).length ∧ Own wr 3 1 s.2.1 (rawP (l.take i) many ++ (fromTo a b).take s.1).length s.2.2 (IB (rawP (l.take i) many ++ (fromTo a b).take s.1)) ∧ (∀ x ∈ ob s.2.1, w.heap.size ≤ x) ∧ Frm [] w wr) (fun s => (fromTo a b).length - s.1) (0, B, d) (.cons rfl (.cons rfl (.cons (by simp; rfl) (.cons rfl (.cons (by simp; rfl) (.cons rfl (.cons rfl .nil))))))) ⟨by omega, by simpa using hown1, hge, hfr1⟩ ?_
        rintro ⟨k, B2, d2⟩ wr2 ⟨hk, hown2, hge2, hfr2⟩
        dsimp only at hk hown2 hge2 ⊢
        have hfl := fromTo_len a b
        refine VC.seq ?_
        refine VC.seq ?_
        refine VC.region ?_
        refine Ops.r (Run.mv rfl) rfl ?_
        refine Ops.r (Run.mv rfl) rfl ?_
        refine Ops.r (Run.bin rfl rfl (Bin.leq _ _)) rfl ?_
        refine Ops.nil ?_
        refine thenQ_n ?_
        refine VC.sub [(0, _), (1, _), (6, _), (9, _), (10, _), (12, _), (13, _), (39, _)] (.cons rfl (.cons rfl (.cons rfl (.cons rfl (.cons rfl (.cons rfl (.cons rfl (.cons rfl .nil)))))))) ?_
        refine VC.condD rfl (fun hc3 => ?_) (fun hc3 => ?_)
        · skip
          have hkl : k < (fromTo a b).length := by omega
          have hks := fromTo_snoc hkl
          have hal : (rawP (l.take i) many ++ (fromTo a b).take k).length = (rawP (l.take i) many).length + k := by simp; omega
          have hal2 : (rawP (l.take i) many ++ (fromTo a b).take (k + 1)).length = (rawP (l.take i) many ++ (fromTo a b).take k).length + 1 := by rw [hks]; simp; omega
          have hkb : a + (k : Int) + 1 ≤ 1001 := by omega
          refine VC.skip ?_
          refine thenQ_n ?_
          refine VC.sub [(0, _), (1, _), (6, _), (9, _), (10, _), (12, _), (13, _)] (.cons rfl (.cons rfl (.cons rfl (.cons rfl (.cons rfl (.cons rfl (.cons rfl .nil))))))) ?_
          refine VC.seq ?_
          refine VC.block ?_
          refine VC.region ?_
          refine Ops.r (Run.mv rfl) rfl ?_
          refine Ops.r (Run.mv rfl) rfl ?_
          refine Ops.m (Does.buildS1 rfl Tryd.underlying38 Tryd.sizeOf3 zero3 (by decide) (by decide) rfl rfl) rfl ?_
          rintro _ w3 ⟨rfl, hF3⟩
          have hfr3 := hfr2.trans hF3.frm (by simp)
          refine Ops.m (Does.app rfl rfl Tryd.underlying38 (info3) rfl (by decide) (hown2.frm hF3.frm (by simp)) (hrdI hF3) (IB_one _) (by omega) (by omega)) rfl ?_
          rintro _ w4 ⟨A4, c4, rfl, hown4, hfr4, hob4⟩
          rw [← IB_append, List.append_assoc, ← hks] at hown4
          have hge4 := up_app hge2 hob4 hfr3.size
          have hfr4' := hfr3.own hfr4 hge2
          rw [← hal2] at hown4
          refine Ops.r (Run.asg rfl) rfl ?_
          refine Ops.nil ?_
          refine blockQ_n (thenQ_n ?_)
          refine VC.sub [(0, _), (1, _), (6, _), (9, _), (10, _), (12, _), (13, _)] (.cons rfl (.cons rfl (.cons rfl (.cons rfl (.cons rfl (.cons rfl (.cons rfl .nil))))))) ?_
          refine VC.region ?_
          refine Ops.r (Run.mv rfl) rfl ?_
          refine Ops.r (Run.bin rfl rfl (Bin.addZ _ 1 (by omega) (by omega))) rfl ?_
          refine Ops.r (Run.asg rfl) rfl ?_
          refine Ops.nil ?_
          refine thenQ_n ⟨(k + 1, A4, c4), (.cons rfl (.cons rfl (.cons (by rw [hal2]; rfl) (.cons rfl (.cons (by rw [show ((k + 1 : Nat) : Int) = (k : Int) + 1 by omega, ← Int.add_assoc]; rfl) (.cons rfl (.cons rfl .nil))))))), ?_, ?_⟩
          · skip
            exact ⟨hkl, hown4, hge4, hfr4'⟩
          · skip
            first | omega | (dsimp only; omega)
        · skip
          have hkl : k = (fromTo a b).length := by omega
          subst hkl
          have hsl : (rawP (l.take (i + 1)) many).length = (rawP (l.take i) many).length + (fromTo a b).length := by rw [hsn, List.length_append]
          rw [List.take_length, ← hsn] at hown2
          refine VC.exit ?_
          refine thenQ_x (thenQ_x (blockQ_x ?_))
          refine blockQ_n (thenQ_n ?_)
          refine VC.sub [(0, _), (1, _), (6, _), (12, _), (13, _)] (.cons rfl (.cons rfl (.cons rfl (.cons rfl (.cons rfl .nil))))) ?_
          refine VC.region ?_
          refine Ops.r (Run.bin rfl rfl (Bin.add_i64 _ 1 (by omega))) rfl ?_
          refine Ops.r (Run.mv rfl) rfl ?_
          refine Ops.nil ?_
          refine thenQ_n ⟨(i + 1, B2, d2), (.cons rfl (.cons rfl (.cons (by rw [List.take_length, ← hsn]; rfl) (.cons rfl (.cons rfl .nil))))), ?_, ?_⟩
          · skip
            refine ⟨hc1, hown2, hge2, hfr2, fun y hy => ?_, ?_⟩
            · rw [htk] at hy
              rcases List.mem_append.1 hy with h | h
              · exact hng y h
              · simp only [List.mem_singleton] at h; subst h; exact hc2
            · dsimp only; rw [hsl, hfl]; omega
          · skip
            first | omega | (dsimp only; omega)
  · skip
    refine VC.exit ?_
    refine thenQ_x (thenQ_x (blockQ_x ?_))
    refine thenQ_n ?_
    refine VC.sub [(6, _)] (.cons rfl .nil) ?_
    refine VC.seq ?_
    refine VC.region ?_
    refine Ops.r (Run.mv rfl) rfl ?_
    refine Ops.cl (Enters.fn (evs.cons rfl evs.nil) Tryd.call51) (sortI_spec B d _ _ hown (by omega)) rfl ?_
    rintro e w2 ⟨rfl, hown2, hf2⟩
    refine ⟨_, rfl, ?_⟩
    have hfr2 := hfr.own hf2 hge
    have him : i = l.length := by omega
    subst him
    rw [List.take_length] at *
    obtain ⟨hp1, hp2⟩ := placesQ_good hng
    rw [← srtI_len (rawP l many)] at hown2
    refine Ops.nil ?_
    refine thenQ_n ?_
    refine VC.sub [(6, _)] (.cons rfl .nil) ?_
    refine VC.seq ?_
    refine VC.region ?_
    refine Ops.r (Run.mv rfl) rfl ?_
    refine Ops.cl (Enters.fn (evs.cons rfl evs.nil) Tryd.call52) ((show Calls _ _ #[.slice B (rawP l many).length d] _ _ from srtI_len (rawP l many) ▸ compactI_spec B d (srtI (rawP l many)) _ hown2 (by rw [srtI_len]; omega))) rfl ?_
    rintro e w3 ⟨rfl, hown3, hf3⟩
    refine ⟨_, rfl, ?_⟩
    have hfr3 := hfr2.own hf3 hge
    refine Ops.r (Run.asg rfl) rfl ?_
    refine Ops.r (v := .int .i64 ((0 : Nat) : Int)) (Run.asg rfl) rfl ?_
    refine Ops.nil ?_
    refine thenQ_n ?_
    refine VC.sub [(4, _), (5, _)] (.cons rfl (.cons rfl .nil)) ?_
    refine VC.ret ?_
    refine end2 rfl rfl ?_
    rw [hp1, hp2]
    exact ⟨hfr3, B, d, rfl, hown3, hge⟩

end Go.Proofs.YtnllhddbgkeboaaDoor
