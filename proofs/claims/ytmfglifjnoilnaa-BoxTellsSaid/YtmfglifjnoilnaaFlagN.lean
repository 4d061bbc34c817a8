/-
  The walks of flag: sets, and what is done with them.
-/
import Derived.Test.YtmfglifjnoilnaaFlagW
namespace Go.Proofs.Ytmfglifjnoilnaa
open Go.RowKit Go.Sort

theorem told_cases (s : Tx) : (∃ t, toldF s = some t ∧ toldV s = (t, 0)) ∨ (toldF s = none ∧ toldV s = ([], 18)) := by
  unfold toldV
  cases toldF s with
  | none => exact .inr ⟨rfl, rfl⟩
  | some t => exact .inl ⟨t, rfl, rfl⟩
/-- What comes back: a set, or an error. -/
def IsN (w0 w' : World) (e : Ending) (F : Except Nat (List Tx)) (B : Option Addr) (d : Nat) (r : List Tx) (k : Nat) : Prop :=
  e = .returned (.tuple #[.slice B r.length d, .int .i64 ((k : Nat) : Int)]) ∧ Own w' 9 1 B r.length d (SB r) ∧ (∀ x ∈ ob B, w0.heap.size ≤ x) ∧ ((k = 0 ∧ F = .ok r) ∨ (k ≠ 0 ∧ r = [] ∧ F = .error k))
theorem take_snoc {α : Type} {l : List α} {i : Nat} (h : i < l.length) : l.take (i + 1) = l.take i ++ [l[i]] := by rw [List.take_add_one, List.getElem?_eq_getElem h]; rfl
theorem hrd1 {w w' : World} {t : TypeId} {q : Tx} (h : Fresh w w' t #[encStr q]) : Rd w' 1 (some ⟨w.heap.size, 0, none⟩) 1 (SB [q]) := Rd.of_blk (n := 1) (size := 1) h.blk rfl

set_option maxRecDepth 100000 in
theorem fnorm_spec (A : Option Addr) (c0 : Nat) (l : List Tx) (w : World) (hn : l.length ≤ 1000000) (hq : ∀ q ∈ l, q.length ≤ 1000000) (hr : Rd w 1 A l.length (SB l)) :
    Calls Try.prog 58 #[.slice A l.length c0] w fun e w' => Frm [] w w' ∧ ∃ B d r k, IsN w w' e (normF l) B d r k := by
  refine VC.calls (nt := 36) (res := #[.tmp 2, .tmp 3]) Try.func58 rfl Try.ntmps58 Try.results58 rfl ?_
  refine VC.seq ?_
  refine VC.region ?_
  refine Ops.r (Run.asg rfl) rfl ?_
  refine Ops.r (v := .int .i64 ((0 : Nat) : Int)) (Run.asg rfl) rfl ?_
  refine Ops.nil ?_
  refine thenQ_n ?_
  refine VC.sub [(0, _)] (.cons rfl .nil) ?_
  refine VC.seq ?_
  refine VC.region ?_
  refine Ops.r (Run.asg rfl) rfl ?_
  refine Ops.nil ?_
  refine thenQ_n ?_
  refine VC.seq ?_
  refine VC.seq ?_
  refine VC.region ?_
  refine Ops.r (Run.mv rfl) rfl ?_
  refine Ops.r (Run.lenS rfl Try.underlying43) rfl ?_
  refine Ops.r (v := .int .i64 ((0 : Nat) : Int)) (Run.mv rfl) rfl ?_
  refine Ops.nil ?_
  refine thenQ_n ?_
  refine VC.sub [(4, _), (9, _), (10, _), (11, _)] (.cons rfl (.cons rfl (.cons rfl (.cons rfl .nil)))) ?_
  refine VC.block ?_
  refine VC.loop (σ := Nat × Option Addr × Nat × List Tx) (fun s => [(4, .slice s.2.1 s.2.2.2.length s.2.2.1), (9, .slice A l.length c0), (10, .int .i64 ((l.length : Nat) : Int)), (11, .int .i64 ((s.1 : Nat) : Int))]) (fun s wr => s.1 ≤ l.length ∧ Own wr 9 1 s.2.1 s.2.2.2.length s.2.2.1 (SB s.2.2.2) ∧ (∀ x ∈ ob s.2.1, w.heap.size ≤ x) ∧ Frm [] w wr ∧ toldL (l.take s.1) = some s.2.2.2) (fun s => l.length - s.1) (0, none, 0, []) (.cons rfl (.cons rfl (.cons rfl (.cons rfl .nil)))) ⟨by omega, Own.nil _ _ _, by simp [ob], Frm.refl _ _, rfl⟩ ?_
  rintro ⟨i, B, d, ts⟩ wr ⟨hi, hown, hge, hfr, htl⟩
  dsimp only at hi hown hge htl ⊢
  have htsl : ts.length = i := by rw [toldL_len htl]; simp; omega
  refine VC.seq ?_
  refine VC.region ?_
  refine Ops.r (Run.bin rfl rfl (Bin.lssN _ _)) rfl ?_
  refine Ops.nil ?_
  refine thenQ_n ?_
  refine VC.seq ?_
  refine VC.condD rfl (fun hc1 => ?_) (fun hc1 => ?_)
  · skip
    obtain ⟨ad, rfl, hcell⟩ := SB_at (hr.frm hfr (by simp)) hc1
    refine VC.skip ?_
    refine thenQ_n ?_
    refine VC.sub [(4, _), (9, _), (10, _), (11, _)] (.cons rfl (.cons rfl (.cons rfl (.cons rfl .nil)))) ?_
    refine VC.seq ?_
    refine VC.block ?_
    refine VC.seq ?_
    refine VC.region ?_
    refine Ops.r (Run.index1 i rfl rfl Try.underlying43 Try.sizeOf9 hc1) rfl ?_
    refine Ops.r (Run.load rfl Try.isAgg9 hcell) rfl ?_
    refine Ops.r (Run.asg rfl) rfl ?_
    refine Ops.nil ?_
    refine thenQ_n ?_
    refine VC.sub [(4, _), (6, _), (9, _), (10, _), (11, _)] (.cons rfl (.cons rfl (.cons rfl (.cons rfl (.cons rfl .nil))))) ?_
    refine VC.seq ?_
    refine VC.region ?_
    refine Ops.r (Run.mv rfl) rfl ?_
    refine Ops.cl (Enters.fn (evs.cons rfl evs.nil) Try.call54) (told_spec l[i] _ (hq _ (List.getElem_mem hc1))) rfl ?_
    rintro e w1 ⟨rfl, hf1⟩
    refine ⟨_, rfl, ?_⟩
    have hfr1 := hfr.trans hf1 (by simp)
    have hown1 := hown.frm hf1 (by simp)
    have htc := told_cases l[i]
    generalize hq0 : l[i] = q at *
    refine Ops.r (Run.mv rfl) rfl ?_
    refine Ops.r (Run.extract rfl rfl) rfl ?_
    refine Ops.r (Run.extract rfl rfl) rfl ?_
    refine Ops.r (Run.asg rfl) rfl ?_
    refine Ops.r (Run.asg rfl) rfl ?_
    refine Ops.nil ?_
    refine thenQ_n ?_
    refine VC.sub [(4, _), (7, _), (8, _), (9, _), (10, _), (11, _)] (.cons rfl (.cons rfl (.cons rfl (.cons rfl (.cons rfl (.cons rfl .nil)))))) ?_
    refine VC.seq ?_
    refine VC.seq ?_
    refine VC.region ?_
    refine Ops.r (Run.mv rfl) rfl ?_
    refine Ops.r (Run.bin rfl rfl (Bin.neqN _ 0)) rfl ?_
    refine Ops.nil ?_
    refine thenQ_n ?_
    refine VC.sub [(4, _), (7, _), (8, _), (9, _), (10, _), (11, _), (21, _)] (.cons rfl (.cons rfl (.cons rfl (.cons rfl (.cons rfl (.cons rfl (.cons rfl .nil))))))) ?_
    refine VC.condD rfl (fun hc2 => ?_) (fun hc2 => ?_)
    · skip
      have ht0 : toldF q = none ∧ toldV q = ([], 18) := by
        rcases htc with ⟨t, _, h⟩ | h
        · rw [h] at hc2; exact absurd rfl hc2
        · exact h
      have hnf : normF l = .error 18 := by
        unfold normF
        rw [toldL_none (hq0 ▸ List.getElem_mem hc1) ht0.1]
      refine VC.seq ?_
      refine VC.region ?_
      refine Ops.r (Run.mv rfl) rfl ?_
      refine Ops.r (Run.asg rfl) rfl ?_
      refine Ops.r (Run.asg rfl) rfl ?_
      refine Ops.nil ?_
      refine thenQ_n ?_
      refine VC.sub [(2, _), (3, _)] (.cons rfl (.cons rfl .nil)) ?_
      refine VC.ret ?_
      refine thenQ_r (blockQ_r (thenQ_r (thenQ_r (blockQ_r (thenQ_r (end2 rfl rfl ?_))))))
      rw [ht0.2]
      exact ⟨hfr1, none, 0, [], 18, rfl, Own.nil _ _ _, by simp [ob], .inr ⟨by decide, rfl, hnf⟩⟩
    · skip
      obtain ⟨t, ht0, hv0⟩ : ∃ t, toldF q = some t ∧ toldV q = (t, 0) := by
        rcases htc with h | ⟨_, h⟩
        · exact h
        · rw [h] at hc2; exact absurd (by decide) hc2
      rw [hv0]
      refine VC.skip ?_
      refine thenQ_n ?_
      refine VC.sub [(4, _), (7, _), (9, _), (10, _), (11, _)] (.cons rfl (.cons rfl (.cons rfl (.cons rfl (.cons rfl .nil))))) ?_
      refine VC.region ?_
      refine Ops.r (Run.mv rfl) rfl ?_
      refine Ops.r (Run.mv rfl) rfl ?_
      refine Ops.m (Does.buildS1 rfl Try.underlying43 Try.sizeOf9 zero9 (by decide) (by decide) rfl rfl) rfl ?_
      rintro _ w2 ⟨rfl, hF2⟩
      have hfr2 := hfr1.trans hF2.frm (by simp)
      refine Ops.m (Does.app rfl rfl Try.underlying43 (info9) rfl (by decide) (hown1.frm hF2.frm (by simp)) (hrd1 hF2) (SB_one _) (by omega) (by omega)) rfl ?_
      rintro _ w3 ⟨A3, c3, rfl, hown3, hfr3, hob3⟩
      rw [← SB_append] at hown3
      have hge3 := up_app hge hob3 hfr2.size
      have hfr3' := hfr2.own hfr3 hge
      refine Ops.r (Run.asg rfl) rfl ?_
      refine Ops.nil ?_
      refine blockQ_n (thenQ_n ?_)
      refine VC.sub [(4, _), (9, _), (10, _), (11, _)] (.cons rfl (.cons rfl (.cons rfl (.cons rfl .nil)))) ?_
      refine VC.region ?_
      refine Ops.r (Run.bin rfl rfl (Bin.add_i64 _ 1 (by omega))) rfl ?_
      refine Ops.r (Run.mv rfl) rfl ?_
      refine Ops.nil ?_
      refine thenQ_n ⟨(i + 1, A3, c3, ts ++ [t]), (.cons (by rw [List.length_append]; rfl) (.cons rfl (.cons rfl (.cons rfl .nil)))), ?_, ?_⟩
      · skip
        exact ⟨hc1, by simpa using hown3, hge3, hfr3', by rw [take_snoc hc1, toldL_snoc, htl, hq0, ht0]⟩
      · skip
        first | omega | (dsimp only; omega)
  · skip
    refine VC.exit ?_
    refine thenQ_x (thenQ_x (blockQ_x ?_))
    refine thenQ_n ?_
    refine VC.sub [(4, _)] (.cons rfl .nil) ?_
    refine VC.seq ?_
    refine VC.region ?_
    refine Ops.r (Run.mv rfl) rfl ?_
    refine Ops.cl (Enters.fn (evs.cons rfl evs.nil) Try.call77) (sort_spec B d ts _ hown (by omega)) rfl ?_
    rintro e w2 ⟨rfl, hown2, hf2⟩
    refine ⟨_, rfl, ?_⟩
    have hfr2 := hfr.own hf2 hge
    have him : i = l.length := by omega
    subst him
    rw [List.take_length] at htl
    rw [← srt_len ts] at hown2
    refine Ops.nil ?_
    refine thenQ_n ?_
    refine VC.sub [(4, _)] (.cons rfl .nil) ?_
    refine VC.seq ?_
    refine VC.seq ?_
    refine VC.region ?_
    refine Ops.r (Run.mv rfl) rfl ?_
    refine Ops.cl (Enters.fn (evs.cons rfl evs.nil) Try.call78) ((show Calls _ _ #[.slice B ts.length d] _ _ from srt_len ts ▸ compact_spec B d (srt ts) _ hown2 (by rw [srt_len]; omega))) rfl ?_
    rintro e w3 ⟨rfl, hown3, hf3⟩
    refine ⟨_, rfl, ?_⟩
    have hfr3 := hfr2.own hf3 hge
    refine Ops.r (Run.asg rfl) rfl ?_
    refine Ops.nil ?_
    refine thenQ_n ?_
    refine VC.sub [(4, _)] (.cons rfl .nil) ?_
    refine VC.seq ?_
    refine VC.region ?_
    refine Ops.r (Run.mv rfl) rfl ?_
    refine Ops.r (Run.lenS rfl Try.underlying43) rfl ?_
    refine Ops.r (Run.bin rfl rfl (Bin.gtrN _ 16)) rfl ?_
    refine Ops.nil ?_
    refine thenQ_n ?_
    refine VC.sub [(4, _), (34, _)] (.cons rfl (.cons rfl .nil)) ?_
    refine VC.condD rfl (fun hc3 => ?_) (fun hc3 => ?_)
    · skip
      refine VC.seq ?_
      refine VC.region ?_
      refine Ops.r (Run.asg rfl) rfl ?_
      refine Ops.r (v := .int .i64 ((5 : Nat) : Int)) (Run.asg rfl) rfl ?_
      refine Ops.nil ?_
      refine thenQ_n ?_
      refine VC.sub [(2, _), (3, _)] (.cons rfl (.cons rfl .nil)) ?_
      refine VC.ret ?_
      refine thenQ_r (end2 rfl rfl ?_)
      exact ⟨hfr3, none, 0, [], 5, rfl, Own.nil _ _ _, by simp [ob], .inr ⟨by decide, rfl, by unfold normF; rw [htl]; exact if_pos hc3⟩⟩
    · skip
      refine VC.skip ?_
      refine thenQ_n ?_
      refine VC.sub [(4, _)] (.cons rfl .nil) ?_
      refine VC.seq ?_
      refine VC.region ?_
      refine Ops.r (Run.mv rfl) rfl ?_
      refine Ops.r (Run.asg rfl) rfl ?_
      refine Ops.r (v := .int .i64 ((0 : Nat) : Int)) (Run.asg rfl) rfl ?_
      refine Ops.nil ?_
      refine thenQ_n ?_
      refine VC.sub [(2, _), (3, _)] (.cons rfl (.cons rfl .nil)) ?_
      refine VC.ret ?_
      refine end2 rfl rfl ?_
      exact ⟨hfr3, B, d, nub ts, 0, rfl, hown3, hge, .inl ⟨rfl, by unfold normF; rw [htl]; exact if_neg hc3⟩⟩

set_option maxRecDepth 100000 in
theorem fcheck_spec (A : Option Addr) (c0 : Nat) (l : List Tx) (w : World) (hn : l.length ≤ 1000000) (hq : ∀ q ∈ l, q.length ≤ 1000000) (hr : Rd w 1 A l.length (SB l)) :
    Calls Try.prog 52 #[.slice A l.length c0] w fun e w' => e = .returned (.bool (decide (checkF l))) ∧ Frm [] w w' := by
  refine VC.calls (nt := 17) (res := #[.tmp 2]) Try.func52 rfl Try.ntmps52 Try.results52 rfl ?_
  refine VC.seq ?_
  refine VC.region ?_
  refine Ops.r (Run.asg rfl) rfl ?_
  refine Ops.nil ?_
  refine thenQ_n ?_
  refine VC.sub [(0, _)] (.cons rfl .nil) ?_
  refine VC.seq ?_
  refine VC.region ?_
  refine Ops.r (Run.mv rfl) rfl ?_
  refine Ops.cl (Enters.fn (evs.cons rfl evs.nil) Try.call58) (fnorm_spec A c0 l _ hn hq hr) rfl ?_
  rintro e w1 ⟨hf1, B, d, r, k, rfl, ho1, hge1, hN⟩
  refine ⟨_, rfl, ?_⟩
  have hr1 := hr.frm hf1 (by simp)
  have hck : checkF l ↔ (k = 0 ∧ r = l) := by
    unfold checkF
    rcases hN with ⟨h1, h2⟩ | ⟨h1, _, h2⟩
    · rw [h2]; simp [h1]
    · rw [h2]; simp [h1]
  have hrl : r.length ≤ 1000000 := by
    rcases hN with ⟨h1, h2⟩ | ⟨h1, h2, _⟩
    · have := (checkF_facts (normF_check h2)).2.1; omega
    · subst h2; simp
  refine Ops.r (Run.mv rfl) rfl ?_
  refine Ops.r (Run.extract rfl rfl) rfl ?_
  refine Ops.r (Run.extract rfl rfl) rfl ?_
  refine Ops.r (Run.asg rfl) rfl ?_
  refine Ops.r (Run.asg rfl) rfl ?_
  refine Ops.nil ?_
  refine thenQ_n ?_
  refine VC.sub [(0, _), (3, _), (4, _)] (.cons rfl (.cons rfl (.cons rfl .nil))) ?_
  refine VC.seq ?_
  refine VC.splitR [] (Frm [] w) 2 (.bool (decide (checkF l))) ?_ ?_
  · refine VC.region ?_
    refine Ops.r (Run.mv rfl) rfl ?_
    refine Ops.r (Run.bin rfl rfl (Bin.eqlN _ 0)) rfl ?_
    by_cases hs11 : k = 0
    · skip
      refine Ops.r (Run.mv rfl) rfl ?_
      refine Ops.rg rfl (by first | rfl | assumption | exact decide_eq_true (by assumption) | exact decide_eq_false (by assumption) | decide | (simp; done) | (simp; omega) | (simp [*]; done)) (Run.mv rfl) rfl ?_
      refine Ops.rg rfl (by first | rfl | assumption | exact decide_eq_true (by assumption) | exact decide_eq_false (by assumption) | decide | (simp; done) | (simp; omega) | (simp [*]; done)) (Run.mv rfl) rfl ?_
      refine Ops.clg rfl (by first | rfl | assumption | exact decide_eq_true (by assumption) | exact decide_eq_false (by assumption) | decide | (simp; done) | (simp; omega) | (simp [*]; done)) (Enters.fn (evs.cons rfl (evs.cons rfl evs.nil)) Try.call42) (equal_spec B A d c0 r l _ ho1.rd hr1 (by omega) (by omega)) rfl ?_
      rintro e w2 ⟨rfl, hd2⟩
      refine ⟨_, rfl, ?_⟩
      by_cases hs15 : r = l
      · skip
        refine Ops.r (Run.pickT rfl rfl (by first | rfl | assumption | exact decide_eq_true (by assumption) | exact decide_eq_false (by assumption) | decide | (simp; done) | (simp; omega) | (simp [*]; done))) rfl ?_
        refine Ops.r (Run.asg rfl) rfl ?_
        refine Ops.nil ?_
        refine thenQ_n ⟨(.cons (congrArg (fun b => some (Value.bool b)) (Eq.symm (by simp [hck, *]))) .nil), (by first | exact hf1.drawn hd2 | exact hf1)⟩
      · skip
        refine Ops.r (Run.pickT rfl rfl (by first | rfl | assumption | exact decide_eq_true (by assumption) | exact decide_eq_false (by assumption) | decide | (simp; done) | (simp; omega) | (simp [*]; done))) rfl ?_
        refine Ops.r (Run.asg rfl) rfl ?_
        refine Ops.nil ?_
        refine thenQ_n ⟨(.cons (congrArg (fun b => some (Value.bool b)) (Eq.symm (by simp [hck, *]))) .nil), (by first | exact hf1.drawn hd2 | exact hf1)⟩
    · skip
      refine Ops.r (Run.mv rfl) rfl ?_
      refine Ops.sk rfl (by first | rfl | assumption | exact decide_eq_true (by assumption) | exact decide_eq_false (by assumption) | decide | (simp; done) | (simp; omega) | (simp [*]; done)) rfl ?_
      refine Ops.sk rfl (by first | rfl | assumption | exact decide_eq_true (by assumption) | exact decide_eq_false (by assumption) | decide | (simp; done) | (simp; omega) | (simp [*]; done)) rfl ?_
      refine Ops.sk rfl (by first | rfl | assumption | exact decide_eq_true (by assumption) | exact decide_eq_false (by assumption) | decide | (simp; done) | (simp; omega) | (simp [*]; done)) rfl ?_
      refine Ops.r (Run.pickF rfl rfl (by first | rfl | assumption | exact decide_eq_true (by assumption) | exact decide_eq_false (by assumption) | decide | (simp; done) | (simp; omega) | (simp [*]; done))) rfl ?_
      refine Ops.r (Run.asg rfl) rfl ?_
      refine Ops.nil ?_
      refine thenQ_n ⟨(.cons (congrArg (fun b => some (Value.bool b)) (Eq.symm (by simp [hck, *]))) .nil), (by first | exact hf1.drawn hd2 | exact hf1)⟩
  · intro Γ wR hΓ hR
    refine thenQ_n (VC.sub _ hΓ ?_)
    refine VC.ret ?_
    refine end1 rfl ?_
    exact ⟨rfl, hR⟩

/-- Is a flag in a set? -/
def hasF (l : List Tx) (q : Tx) : Prop := ∃ t, toldF q = some t ∧ t ∈ l
theorem hasF_iff (l : List Tx) (q : Tx) : hasF l q ↔ (toldV q).2 = 0 ∧ (toldV q).1 ∈ l := by
  unfold hasF
  rcases told_cases q with ⟨t, h1, h2⟩ | ⟨h1, h2⟩ <;> rw [h1, h2] <;> simp
instance (l : List Tx) (q : Tx) : Decidable (hasF l q) := decidable_of_iff _ (hasF_iff l q).symm

set_option maxRecDepth 100000 in
theorem fhas_spec (A : Option Addr) (c0 : Nat) (l : List Tx) (q : Tx) (w : World) (hn : l.length ≤ 1000000) (hq : q.length ≤ 1000000) (hr : Rd w 1 A l.length (SB l)) :
    Calls Try.prog 45 #[.slice A l.length c0, encStr q] w fun e w' => e = .returned (.bool (decide (hasF l q))) ∧ Frm [] w w' := by
  refine VC.calls (nt := 19) (res := #[.tmp 4]) Try.func45 rfl Try.ntmps45 Try.results45 rfl ?_
  refine VC.seq ?_
  refine VC.region ?_
  refine Ops.r (Run.asg rfl) rfl ?_
  refine Ops.nil ?_
  refine thenQ_n ?_
  refine VC.sub [(0, _), (1, _)] (.cons rfl (.cons rfl .nil)) ?_
  refine VC.seq ?_
  refine VC.region ?_
  refine Ops.r (Run.mv rfl) rfl ?_
  refine Ops.cl (Enters.fn (evs.cons rfl evs.nil) Try.call54) (told_spec q _ hq) rfl ?_
  rintro e w1 ⟨rfl, hf1⟩
  refine ⟨_, rfl, ?_⟩
  have hr1 := hr.frm hf1 (by simp)
  have hit := hasF_iff l q
  refine Ops.r (Run.mv rfl) rfl ?_
  refine Ops.r (Run.extract rfl rfl) rfl ?_
  refine Ops.r (Run.extract rfl rfl) rfl ?_
  refine Ops.r (Run.asg rfl) rfl ?_
  refine Ops.r (Run.asg rfl) rfl ?_
  refine Ops.nil ?_
  refine thenQ_n ?_
  refine VC.sub [(0, _), (5, _), (6, _)] (.cons rfl (.cons rfl (.cons rfl .nil))) ?_
  refine VC.seq ?_
  refine VC.splitR [] (Frm [] w) 4 (.bool (decide (hasF l q))) ?_ ?_
  · refine VC.region ?_
    refine Ops.r (Run.mv rfl) rfl ?_
    refine Ops.r (Run.bin rfl rfl (Bin.eqlN _ 0)) rfl ?_
    by_cases hs13 : (toldV q).2 = 0
    · skip
      refine Ops.r (Run.mv rfl) rfl ?_
      refine Ops.rg rfl (by first | rfl | assumption | exact decide_eq_true (by assumption) | exact decide_eq_false (by assumption) | decide | (simp; done) | (simp; omega) | (simp [*]; done)) (Run.mv rfl) rfl ?_
      refine Ops.rg rfl (by first | rfl | assumption | exact decide_eq_true (by assumption) | exact decide_eq_false (by assumption) | decide | (simp; done) | (simp; omega) | (simp [*]; done)) (Run.mv rfl) rfl ?_
      refine Ops.clg rfl (by first | rfl | assumption | exact decide_eq_true (by assumption) | exact decide_eq_false (by assumption) | decide | (simp; done) | (simp; omega) | (simp [*]; done)) (Enters.fn (evs.cons rfl (evs.cons rfl evs.nil)) Try.call57) (contains_spec A c0 l (toldV q).1 _ hr1 (by omega)) rfl ?_
      rintro e _ ⟨rfl, rfl⟩
      refine ⟨_, rfl, ?_⟩
      by_cases hs17 : (toldV q).1 ∈ l
      · skip
        refine Ops.r (Run.pickT rfl rfl (by first | rfl | assumption | exact decide_eq_true (by assumption) | exact decide_eq_false (by assumption) | decide | (simp; done) | (simp; omega) | (simp [*]; done))) rfl ?_
        refine Ops.r (Run.asg rfl) rfl ?_
        refine Ops.nil ?_
        refine thenQ_n ⟨(.cons (congrArg (fun b => some (Value.bool b)) (Eq.symm (by simp [hit, *]))) .nil), (hf1)⟩
      · skip
        refine Ops.r (Run.pickT rfl rfl (by first | rfl | assumption | exact decide_eq_true (by assumption) | exact decide_eq_false (by assumption) | decide | (simp; done) | (simp; omega) | (simp [*]; done))) rfl ?_
        refine Ops.r (Run.asg rfl) rfl ?_
        refine Ops.nil ?_
        refine thenQ_n ⟨(.cons (congrArg (fun b => some (Value.bool b)) (Eq.symm (by simp [hit, *]))) .nil), (hf1)⟩
    · skip
      refine Ops.r (Run.mv rfl) rfl ?_
      refine Ops.sk rfl (by first | rfl | assumption | exact decide_eq_true (by assumption) | exact decide_eq_false (by assumption) | decide | (simp; done) | (simp; omega) | (simp [*]; done)) rfl ?_
      refine Ops.sk rfl (by first | rfl | assumption | exact decide_eq_true (by assumption) | exact decide_eq_false (by assumption) | decide | (simp; done) | (simp; omega) | (simp [*]; done)) rfl ?_
      refine Ops.sk rfl (by first | rfl | assumption | exact decide_eq_true (by assumption) | exact decide_eq_false (by assumption) | decide | (simp; done) | (simp; omega) | (simp [*]; done)) rfl ?_
      refine Ops.r (Run.pickF rfl rfl (by first | rfl | assumption | exact decide_eq_true (by assumption) | exact decide_eq_false (by assumption) | decide | (simp; done) | (simp; omega) | (simp [*]; done))) rfl ?_
      refine Ops.r (Run.asg rfl) rfl ?_
      refine Ops.nil ?_
      refine thenQ_n ⟨(.cons (congrArg (fun b => some (Value.bool b)) (Eq.symm (by simp [hit, *]))) .nil), (hf1)⟩
  · intro Γ wR hΓ hR
    refine thenQ_n (VC.sub _ hΓ ?_)
    refine VC.ret ?_
    refine end1 rfl ?_
    exact ⟨rfl, hR⟩

set_option maxRecDepth 100000 in
theorem changeC_spec (g c : Nat) (A : Option Addr) (ts : List Tx) (q : Tx) (w : World) (hn : ts.length ≤ 1000000) (hb : Blk w g 43 #[.slice A ts.length c]) (hr : Rd w 1 A ts.length (SB ts)) :
    Calls Try.prog 56 #[encStr q, .pointer (some ⟨g, 0, none⟩)] w fun e w' => e = .returned (.bool (decide (q ∈ ts))) ∧ w = w' := by
  refine VC.calls (nt := 7) (res := #[.tmp 3]) Try.func56 rfl Try.ntmps56 Try.results56 rfl ?_
  refine VC.seq ?_
  refine VC.region ?_
  refine Ops.r (Run.asg rfl) rfl ?_
  refine Ops.nil ?_
  refine thenQ_n ?_
  refine VC.sub [(0, _), (1, _)] (.cons rfl (.cons rfl .nil)) ?_
  refine VC.seq ?_
  refine VC.region ?_
  refine Ops.r (Run.load rfl Try.isAgg43 (hb.cell 0)) rfl ?_
  refine Ops.r (Run.mv rfl) rfl ?_
  refine Ops.cl (Enters.fn (evs.cons rfl (evs.cons rfl evs.nil)) Try.call57) (contains_spec A c ts q _ hr (by omega)) rfl ?_
  rintro e _ ⟨rfl, rfl⟩
  refine ⟨_, rfl, ?_⟩
  refine Ops.r (Run.asg rfl) rfl ?_
  refine Ops.nil ?_
  refine thenQ_n ?_
  refine VC.sub [(3, _)] (.cons rfl .nil) ?_
  refine VC.ret ?_
  refine end1 rfl ?_
  exact ⟨rfl, rfl⟩

end Go.Proofs.Ytmfglifjnoilnaa
