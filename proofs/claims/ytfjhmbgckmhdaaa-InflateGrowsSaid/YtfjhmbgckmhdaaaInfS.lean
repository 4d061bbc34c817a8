/-
  The walks of inflate: the lengths of kind 1; a block as it is.
-/
import Derived.Test.YtfjhmbgckmhdaaaInfT
namespace Go.Proofs.Ytfjhmbgckmhdaaa
open Go.RowKit

theorem fixed_at : ∀ i, i < 288 → fixedL.getD i 0 = if 144 ≤ i ∧ i < 256 then 9 else if 256 ≤ i ∧ i < 280 then 7 else 8 := by decide +kernel
theorem fixed_take (i : Nat) (h : i < 288) : fixedL.take (i + 1) = fixedL.take i ++ [if 144 ≤ i ∧ i < 256 then 9 else if 256 ≤ i ∧ i < 280 then 7 else 8] := by
  have hl : i < fixedL.length := by rw [show fixedL.length = 288 by decide +kernel]; exact h
  rw [List.take_add_one, List.getElem?_eq_getElem hl, ← fixed_at i h]
  simp [List.getD, List.getElem?_eq_getElem hl]
theorem fixedW_take (i : Nat) (h : i < 32) : fixedW.take (i + 1) = fixedW.take i ++ [5] := by
  have : ∀ i, i < 32 → fixedW.take (i + 1) = fixedW.take i ++ [5] := by decide +kernel
  exact this i h
theorem fixed_good : newE fixedL = 0 ∧ newE fixedW = 0 ∧ mostC fixedL = 15 ∧ mostC fixedW = 15 := by decide +kernel
theorem IB_snoc (l : List Int) (x : Int) : IB (l ++ [x]) = IB l ++ [.int .i64 x] := by simp [IB]
theorem NB_app (a b : List Nat) : NB (a ++ b) = NB a ++ NB b := by simp [NB]
theorem IsX.app {w w1 w2 : World} {gx gr : Nat} {Ar A A' : Option Addr} {bs : List Nat} {p c c' m : Nat} {out news : List Nat} {most : Nat} (h : IsX w gx gr Ar bs p A c out most) (ho : Own w1 5 1 A' (out.length + m) c' (NB out ++ NB news)) (hf1 : Frm (ob A) w w1) (hob : ob A' = ob A ∨ ob A' = [w.heap.size])
    (hb : Blk w2 gx 50 #[.pointer (some ⟨gr, 0, none⟩), .slice A' (out.length + m) c', .int .i64 ((most : Nat) : Int)]) (hf2 : Frm [gx] w1 w2) (hm : news.length = m) (hle : out.length + m ≤ most) (hlt : ∀ x ∈ news, x < 256) :
    IsX w2 gx gr Ar bs p A' c' (out ++ news) most ∧ Frm (gx :: ob A) w w2 ∧ ∀ x ∈ ob A', x ∈ ob A ∨ w.heap.size ≤ x := by
  have hl : (out ++ news).length = out.length + m := by rw [List.length_append, hm]
  have hu : ∀ x ∈ ob A', x ∈ ob A ∨ w.heap.size ≤ x := fun x hx => by
    rcases hob with h5 | h5 <;> rw [h5] at hx
    · exact .inl hx
    · simp at hx; exact .inr (by omega)
  have hlw := h.lt
  have hfr : Frm (gx :: ob A) w w2 := (hf1.mono (T := gx :: ob A) (fun x hx => .inl (by simp [hx]))).trans hf2 (fun x hx => .inl (by simp at hx; simp [hx]))
  refine ⟨⟨by rw [hl]; exact hb, ?_, ?_, ?_, h.2.2.2.2.1, by rw [hl]; exact hle, fun x hx => ?_⟩, hfr, hu⟩
  · refine h.2.1.frm hfr (fun x hx h5 => ?_)
    rcases List.mem_cons.1 hx with rfl | hx
    · rcases List.mem_cons.1 h5 with h6 | h6
      · exact h.gxr h6.symm
      · exact h.grA h6
    · rcases List.mem_cons.1 h5 with h6 | h6
      · subst h6; exact h.gxAr hx
      · exact h.2.2.2.1 x h6 hx
  · rw [hl, NB_app]
    refine ho.frm hf2 (fun x hx h5 => ?_)
    simp at h5
    subst h5
    rcases hu x hx with h6 | h6
    · exact h.gxA h6
    · omega
  · intro x hx h5
    rcases hu x hx with h6 | h6
    · exact h.2.2.2.1 x h6 h5
    · have := hlw.2.2.2 x h5; omega
  · rcases List.mem_append.1 hx with h5 | h5
    · exact h.2.2.2.2.2.2 x h5
    · exact hlt x h5

set_option maxRecDepth 100000 in
theorem ifixed_spec (w : World) : Calls Try.prog 13 #[] w fun e w' => ∃ A c B d, e = .returned (.tuple #[.slice A 288 c, .slice B 32 d]) ∧ Own w' 3 1 A 288 c (IB fixedL) ∧ Own w' 3 1 B 32 d (IB fixedW) ∧ Frm [] w w' := by
  refine VC.calls (nt := 36) (res := #[.tmp 0, .tmp 1]) Try.func13 rfl Try.ntmps13 Try.results13 rfl ?_
  refine VC.seq ?_
  refine VC.region ?_
  refine Ops.r (Run.asg rfl) rfl ?_
  refine Ops.r (Run.asg rfl) rfl ?_
  refine Ops.nil ?_
  refine thenQ_n ?_
  refine VC.sub [] .nil ?_
  refine VC.seq ?_
  refine VC.region ?_
  refine Ops.r (Run.asg rfl) rfl ?_
  refine Ops.r (Run.asg rfl) rfl ?_
  refine Ops.nil ?_
  refine thenQ_n ?_
  refine VC.seq ?_
  refine VC.seq ?_
  refine VC.region ?_
  refine Ops.r (v := .int .i64 ((0 : Nat) : Int)) (Run.mv rfl) rfl ?_
  refine Ops.nil ?_
  refine thenQ_n ?_
  refine VC.block ?_
  refine VC.loop (σ := Nat × Option Addr × Nat) (fun s => [(2, .slice s.2.1 s.1 s.2.2), (3, .slice none 0 0), (6, .int .i64 ((s.1 : Nat) : Int))]) (fun s wr => s.1 ≤ 288 ∧ Own wr 3 1 s.2.1 s.1 s.2.2 (IB (fixedL.take s.1)) ∧ Frm [] w wr ∧ ∀ x ∈ ob s.2.1, w.heap.size ≤ x) (fun s => 288 - s.1) (0, none, 0) (.cons rfl (.cons rfl (.cons rfl .nil))) ⟨by omega, Own.nil _ _ _, Frm.refl _ _, up_nil⟩ ?_
  rintro ⟨i, A, c⟩ wr ⟨hi, hor, hfr, hu⟩
  dsimp only at hi hor hfr hu ⊢
  refine VC.seq ?_
  refine VC.region ?_
  refine Ops.r (Run.bin rfl rfl (Bin.lssN _ 288)) rfl ?_
  refine Ops.nil ?_
  refine thenQ_n ?_
  refine VC.seq ?_
  refine VC.condD rfl (fun hc1 => ?_) (fun hc1 => ?_)
  · skip
    refine VC.skip ?_
    refine thenQ_n ?_
    refine VC.sub [(2, _), (3, _), (6, _)] (.cons rfl (.cons rfl (.cons rfl .nil))) ?_
    refine VC.seq ?_
    refine VC.block ?_
    refine VC.seq ?_
    refine VC.region ?_
    refine Ops.r (Run.mv rfl) rfl ?_
    refine Ops.r (Run.asg rfl) rfl ?_
    refine Ops.nil ?_
    refine thenQ_n ?_
    refine VC.sub [(2, _), (3, _), (4, _), (6, _)] (.cons rfl (.cons rfl (.cons rfl (.cons rfl .nil)))) ?_
    refine VC.seq ?_
    refine VC.region ?_
    refine Ops.r (v := .int .i64 ((8 : Nat) : Int)) (Run.asg rfl) rfl ?_
    refine Ops.nil ?_
    refine thenQ_n ?_
    refine VC.seq ?_
    refine VC.block ?_
    refine VC.seq ?_
    refine VC.split1 [(2, _), (3, _), (4, _), (5, _), (6, _)] (.cons rfl (.cons rfl (.cons rfl (.cons rfl (.cons rfl .nil))))) 9 (.bool (decide ((144 ≤ i) ∧ (i < 256)))) ?_ ?_
    · by_cases hs0 : 144 ≤ i
      · skip
        refine VC.region ?_
        refine Ops.r (Run.mv rfl) rfl ?_
        refine Ops.r (Run.bin rfl rfl (Bin.geqN _ 144)) rfl ?_
        refine Ops.r (Run.mv rfl) rfl ?_
        refine Ops.rg rfl (by first | rfl | assumption | exact decide_eq_true (by assumption) | exact decide_eq_false (by assumption) | decide | (simp; done) | (simp; omega) | (simp [*]; done)) (Run.mv rfl) rfl ?_
        refine Ops.rg rfl (by first | rfl | assumption | exact decide_eq_true (by assumption) | exact decide_eq_false (by assumption) | decide | (simp; done) | (simp; omega) | (simp [*]; done)) (Run.bin rfl rfl (Bin.lssN _ 256)) rfl ?_
        refine Ops.r (Run.pickT rfl rfl (by first | rfl | assumption | exact decide_eq_true (by assumption) | exact decide_eq_false (by assumption) | decide | (simp; done) | (simp; omega) | (simp [*]; done))) rfl ?_
        refine Ops.r (Run.asg rfl) rfl ?_
        refine Ops.nil ?_
        refine thenQ_n ⟨(.cons (by rw [dand1 hs0]; rfl) (.cons rfl (.cons rfl (.cons rfl (.cons rfl (.cons rfl .nil)))))), rfl⟩
      · skip
        refine VC.region ?_
        refine Ops.r (Run.mv rfl) rfl ?_
        refine Ops.r (Run.bin rfl rfl (Bin.geqN _ 144)) rfl ?_
        refine Ops.r (Run.mv rfl) rfl ?_
        refine Ops.sk rfl (by first | rfl | assumption | exact decide_eq_true (by assumption) | exact decide_eq_false (by assumption) | decide | (simp; done) | (simp; omega) | (simp [*]; done)) rfl ?_
        refine Ops.sk rfl (by first | rfl | assumption | exact decide_eq_true (by assumption) | exact decide_eq_false (by assumption) | decide | (simp; done) | (simp; omega) | (simp [*]; done)) rfl ?_
        refine Ops.r (Run.pickF rfl rfl (by first | rfl | assumption | exact decide_eq_true (by assumption) | exact decide_eq_false (by assumption) | decide | (simp; done) | (simp; omega) | (simp [*]; done))) rfl ?_
        refine Ops.r (Run.asg rfl) rfl ?_
        refine Ops.nil ?_
        refine thenQ_n ⟨(.cons (by rw [dand0 hs0]; rfl) (.cons rfl (.cons rfl (.cons rfl (.cons rfl (.cons rfl .nil)))))), rfl⟩
    · intro Γ hΓ
      refine thenQ_n (VC.sub _ hΓ ?_)
      refine VC.condD rfl (fun hc2 => ?_) (fun hc2 => ?_)
      · skip
        refine VC.region ?_
        refine Ops.r (v := .int .i64 ((9 : Nat) : Int)) (Run.asg rfl) rfl ?_
        refine Ops.nil ?_
        refine blockQ_n (thenQ_n ?_)
        refine VC.sub [(2, _), (3, _), (5, _), (6, _)] (.cons rfl (.cons rfl (.cons rfl (.cons rfl .nil)))) ?_
        refine VC.region ?_
        refine Ops.r (Run.mv rfl) rfl ?_
        refine Ops.r (Run.mv rfl) rfl ?_
        refine Ops.m (Does.buildS1 rfl Try.underlying37 Try.sizeOf3 zero3 (by decide) (by decide) rfl rfl) rfl ?_
        rintro _ w3 ⟨rfl, hF3⟩
        have hrd3 : Rd w3 1 (some ⟨_, 0, none⟩) 1 [.int .i64 9] := Rd.of_blk (n := 1) (size := 1) hF3.blk rfl
        refine Ops.m (Does.app rfl rfl Try.underlying37 (info3) rfl (by decide) (hor.frm hF3.frm (by simp)) hrd3 (by simp [Value.oneCell']) (by omega) (by omega)) rfl ?_
        rintro _ w4 ⟨B4, c4, rfl, ho4, hf4, hob4⟩
        have hsz := (hfr.own hF3.frm (by simp)).size
        have hfr4 : Frm [] w w4 := (hfr.own hF3.frm (by simp)).own hf4 hu
        refine Ops.r (Run.asg rfl) rfl ?_
        refine Ops.nil ?_
        refine blockQ_n (thenQ_n ?_)
        refine VC.sub [(2, _), (3, _), (6, _)] (.cons rfl (.cons rfl (.cons rfl .nil))) ?_
        refine VC.region ?_
        refine Ops.r (Run.bin rfl rfl (Bin.add_i64 _ 1 (by omega))) rfl ?_
        refine Ops.r (Run.mv rfl) rfl ?_
        refine Ops.nil ?_
        refine thenQ_n ⟨(i + 1, B4, c4), (.cons rfl (.cons rfl (.cons rfl .nil))), ?_, ?_⟩
        · skip
          refine ⟨by dsimp only; omega, ?_, hfr4, up_app hu hob4 hsz⟩
          dsimp only
          rw [fixed_take i hc1, if_pos hc2, IB_snoc]
          exact ho4
        · skip
          first | omega | (dsimp only; omega)
      · skip
        refine VC.seq ?_
        refine VC.split1 [(2, _), (3, _), (5, _), (6, _)] (.cons rfl (.cons rfl (.cons rfl (.cons rfl .nil)))) 16 (.bool (decide ((256 ≤ i) ∧ (i < 280)))) ?_ ?_
        · by_cases hs0 : 256 ≤ i
          · skip
            refine VC.region ?_
            refine Ops.r (Run.mv rfl) rfl ?_
            refine Ops.r (Run.bin rfl rfl (Bin.geqN _ 256)) rfl ?_
            refine Ops.r (Run.mv rfl) rfl ?_
            refine Ops.rg rfl (by first | rfl | assumption | exact decide_eq_true (by assumption) | exact decide_eq_false (by assumption) | decide | (simp; done) | (simp; omega) | (simp [*]; done)) (Run.mv rfl) rfl ?_
            refine Ops.rg rfl (by first | rfl | assumption | exact decide_eq_true (by assumption) | exact decide_eq_false (by assumption) | decide | (simp; done) | (simp; omega) | (simp [*]; done)) (Run.bin rfl rfl (Bin.lssN _ 280)) rfl ?_
            refine Ops.r (Run.pickT rfl rfl (by first | rfl | assumption | exact decide_eq_true (by assumption) | exact decide_eq_false (by assumption) | decide | (simp; done) | (simp; omega) | (simp [*]; done))) rfl ?_
            refine Ops.r (Run.asg rfl) rfl ?_
            refine Ops.nil ?_
            refine thenQ_n ⟨(.cons (by rw [dand1 hs0]; rfl) (.cons rfl (.cons rfl (.cons rfl (.cons rfl .nil))))), rfl⟩
          · skip
            refine VC.region ?_
            refine Ops.r (Run.mv rfl) rfl ?_
            refine Ops.r (Run.bin rfl rfl (Bin.geqN _ 256)) rfl ?_
            refine Ops.r (Run.mv rfl) rfl ?_
            refine Ops.sk rfl (by first | rfl | assumption | exact decide_eq_true (by assumption) | exact decide_eq_false (by assumption) | decide | (simp; done) | (simp; omega) | (simp [*]; done)) rfl ?_
            refine Ops.sk rfl (by first | rfl | assumption | exact decide_eq_true (by assumption) | exact decide_eq_false (by assumption) | decide | (simp; done) | (simp; omega) | (simp [*]; done)) rfl ?_
            refine Ops.r (Run.pickF rfl rfl (by first | rfl | assumption | exact decide_eq_true (by assumption) | exact decide_eq_false (by assumption) | decide | (simp; done) | (simp; omega) | (simp [*]; done))) rfl ?_
            refine Ops.r (Run.asg rfl) rfl ?_
            refine Ops.nil ?_
            refine thenQ_n ⟨(.cons (by rw [dand0 hs0]; rfl) (.cons rfl (.cons rfl (.cons rfl (.cons rfl .nil))))), rfl⟩
        · intro Γ hΓ
          refine thenQ_n (VC.sub _ hΓ ?_)
          refine VC.condD rfl (fun hc3 => ?_) (fun hc3 => ?_)
          · skip
            refine VC.region ?_
            refine Ops.r (v := .int .i64 ((7 : Nat) : Int)) (Run.asg rfl) rfl ?_
            refine Ops.nil ?_
            refine blockQ_n (thenQ_n ?_)
            refine VC.sub [(2, _), (3, _), (5, _), (6, _)] (.cons rfl (.cons rfl (.cons rfl (.cons rfl .nil)))) ?_
            refine VC.region ?_
            refine Ops.r (Run.mv rfl) rfl ?_
            refine Ops.r (Run.mv rfl) rfl ?_
            refine Ops.m (Does.buildS1 rfl Try.underlying37 Try.sizeOf3 zero3 (by decide) (by decide) rfl rfl) rfl ?_
            rintro _ w3 ⟨rfl, hF3⟩
            have hrd3 : Rd w3 1 (some ⟨_, 0, none⟩) 1 [.int .i64 7] := Rd.of_blk (n := 1) (size := 1) hF3.blk rfl
            refine Ops.m (Does.app rfl rfl Try.underlying37 (info3) rfl (by decide) (hor.frm hF3.frm (by simp)) hrd3 (by simp [Value.oneCell']) (by omega) (by omega)) rfl ?_
            rintro _ w4 ⟨B4, c4, rfl, ho4, hf4, hob4⟩
            have hsz := (hfr.own hF3.frm (by simp)).size
            have hfr4 : Frm [] w w4 := (hfr.own hF3.frm (by simp)).own hf4 hu
            refine Ops.r (Run.asg rfl) rfl ?_
            refine Ops.nil ?_
            refine blockQ_n (thenQ_n ?_)
            refine VC.sub [(2, _), (3, _), (6, _)] (.cons rfl (.cons rfl (.cons rfl .nil))) ?_
            refine VC.region ?_
            refine Ops.r (Run.bin rfl rfl (Bin.add_i64 _ 1 (by omega))) rfl ?_
            refine Ops.r (Run.mv rfl) rfl ?_
            refine Ops.nil ?_
            refine thenQ_n ⟨(i + 1, B4, c4), (.cons rfl (.cons rfl (.cons rfl .nil))), ?_, ?_⟩
            · skip
              refine ⟨by dsimp only; omega, ?_, hfr4, up_app hu hob4 hsz⟩
              dsimp only
              rw [fixed_take i hc1, if_neg hc2, if_pos hc3, IB_snoc]
              exact ho4
            · skip
              first | omega | (dsimp only; omega)
          · skip
            refine VC.skip ?_
            refine blockQ_n (thenQ_n ?_)
            refine VC.sub [(2, _), (3, _), (5, _), (6, _)] (.cons rfl (.cons rfl (.cons rfl (.cons rfl .nil)))) ?_
            refine VC.region ?_
            refine Ops.r (Run.mv rfl) rfl ?_
            refine Ops.r (Run.mv rfl) rfl ?_
            refine Ops.m (Does.buildS1 rfl Try.underlying37 Try.sizeOf3 zero3 (by decide) (by decide) rfl rfl) rfl ?_
            rintro _ w3 ⟨rfl, hF3⟩
            have hrd3 : Rd w3 1 (some ⟨_, 0, none⟩) 1 [.int .i64 8] := Rd.of_blk (n := 1) (size := 1) hF3.blk rfl
            refine Ops.m (Does.app rfl rfl Try.underlying37 (info3) rfl (by decide) (hor.frm hF3.frm (by simp)) hrd3 (by simp [Value.oneCell']) (by omega) (by omega)) rfl ?_
            rintro _ w4 ⟨B4, c4, rfl, ho4, hf4, hob4⟩
            have hsz := (hfr.own hF3.frm (by simp)).size
            have hfr4 : Frm [] w w4 := (hfr.own hF3.frm (by simp)).own hf4 hu
            refine Ops.r (Run.asg rfl) rfl ?_
            refine Ops.nil ?_
            refine blockQ_n (thenQ_n ?_)
            refine VC.sub [(2, _), (3, _), (6, _)] (.cons rfl (.cons rfl (.cons rfl .nil))) ?_
            refine VC.region ?_
            refine Ops.r (Run.bin rfl rfl (Bin.add_i64 _ 1 (by omega))) rfl ?_
            refine Ops.r (Run.mv rfl) rfl ?_
            refine Ops.nil ?_
            refine thenQ_n ⟨(i + 1, B4, c4), (.cons rfl (.cons rfl (.cons rfl .nil))), ?_, ?_⟩
            · skip
              refine ⟨by dsimp only; omega, ?_, hfr4, up_app hu hob4 hsz⟩
              dsimp only
              rw [fixed_take i hc1, if_neg hc2, if_neg hc3, IB_snoc]
              exact ho4
            · skip
              first | omega | (dsimp only; omega)
  · skip
    have hin : i = 288 := by omega
    subst hin
    have hb : Own wr 3 1 none 0 0 (IB (fixedW.take 0)) := Own.nil _ _ _
    rw [show fixedL.take 288 = fixedL from rfl] at hor
    refine VC.exit ?_
    refine thenQ_x (thenQ_x (blockQ_x ?_))
    refine thenQ_n ?_
    refine VC.sub [(2, _), (3, _)] (.cons rfl (.cons rfl .nil)) ?_
    refine VC.seq ?_
    refine VC.seq ?_
    refine VC.region ?_
    refine Ops.r (v := .int .i64 ((0 : Nat) : Int)) (Run.mv rfl) rfl ?_
    refine Ops.nil ?_
    refine thenQ_n ?_
    refine VC.block ?_
    refine VC.loop (σ := Nat × Option Addr × Nat) (fun s => [(2, .slice A 288 c), (3, .slice s.2.1 s.1 s.2.2), (28, .int .i64 ((s.1 : Nat) : Int))]) (fun s wr => s.1 ≤ 32 ∧ Own wr 3 1 A 288 c (IB fixedL) ∧ Own wr 3 1 s.2.1 s.1 s.2.2 (IB (fixedW.take s.1)) ∧ Frm [] w wr ∧ (∀ x ∈ ob s.2.1, w.heap.size ≤ x) ∧ ∀ x ∈ ob s.2.1, x ∉ ob A) (fun s => 32 - s.1) (0, none, 0) (.cons rfl (.cons rfl (.cons rfl .nil))) ⟨by omega, hor, hb, hfr, up_nil, by simp [ob]⟩ ?_
    rintro ⟨i, B, d⟩ wr2 ⟨hi, hoa, hor, hfr, hu, hne⟩
    dsimp only at hi hoa hor hfr hu hne ⊢
    have hltA := hoa.lt
    refine VC.seq ?_
    refine VC.region ?_
    refine Ops.r (Run.bin rfl rfl (Bin.lssN _ 32)) rfl ?_
    refine Ops.nil ?_
    refine thenQ_n ?_
    refine VC.seq ?_
    refine VC.condD rfl (fun hc4 => ?_) (fun hc4 => ?_)
    · skip
      refine VC.skip ?_
      refine thenQ_n ?_
      refine VC.sub [(2, _), (3, _), (28, _)] (.cons rfl (.cons rfl (.cons rfl .nil))) ?_
      refine VC.seq ?_
      refine VC.block ?_
      refine VC.region ?_
      refine Ops.r (Run.mv rfl) rfl ?_
      refine Ops.m (Does.buildS1 rfl Try.underlying37 Try.sizeOf3 zero3 (by decide) (by decide) rfl rfl) rfl ?_
      rintro _ w3 ⟨rfl, hF3⟩
      have hrd3 : Rd w3 1 (some ⟨_, 0, none⟩) 1 [.int .i64 5] := Rd.of_blk (n := 1) (size := 1) hF3.blk rfl
      refine Ops.m (Does.app rfl rfl Try.underlying37 (info3) rfl (by decide) (hor.frm hF3.frm (by simp)) hrd3 (by simp [Value.oneCell']) (by omega) (by omega)) rfl ?_
      rintro _ w4 ⟨B4, c4, rfl, ho4, hf4, hob4⟩
      have hsz := (hfr.own hF3.frm (by simp)).size
      have hfr4 : Frm [] w w4 := (hfr.own hF3.frm (by simp)).own hf4 hu
      refine Ops.r (Run.asg rfl) rfl ?_
      refine Ops.nil ?_
      refine blockQ_n (thenQ_n ?_)
      refine VC.sub [(2, _), (3, _), (28, _)] (.cons rfl (.cons rfl (.cons rfl .nil))) ?_
      refine VC.region ?_
      refine Ops.r (Run.bin rfl rfl (Bin.add_i64 _ 1 (by omega))) rfl ?_
      refine Ops.r (Run.mv rfl) rfl ?_
      refine Ops.nil ?_
      refine thenQ_n ⟨(i + 1, B4, c4), (.cons rfl (.cons rfl (.cons rfl .nil))), ?_, ?_⟩
      · skip
        have hs3 := hF3.frm.size
        refine ⟨by dsimp only; omega, (hoa.frm hF3.frm (by simp)).frm hf4 (fun x hx h5 => hne x h5 hx), ?_, hfr4, up_app hu hob4 hsz, fun x hx h5 => ?_⟩
        · dsimp only
          rw [fixedW_take i (by omega), IB_snoc]
          exact ho4
        · rcases hob4 with h6 | h6 <;> rw [h6] at hx
          · exact hne x hx h5
          · simp at hx
            have := hltA x h5
            omega
      · skip
        first | omega | (dsimp only; omega)
    · skip
      have hin : i = 32 := by omega
      subst hin
      rw [show fixedW.take 32 = fixedW from rfl] at hor
      refine VC.exit ?_
      refine thenQ_x (thenQ_x (blockQ_x ?_))
      refine thenQ_n ?_
      refine VC.sub [(2, _), (3, _)] (.cons rfl (.cons rfl .nil)) ?_
      refine VC.seq ?_
      refine VC.region ?_
      refine Ops.r (Run.mv rfl) rfl ?_
      refine Ops.r (Run.mv rfl) rfl ?_
      refine Ops.r (Run.asg rfl) rfl ?_
      refine Ops.r (Run.asg rfl) rfl ?_
      refine Ops.nil ?_
      refine thenQ_n ?_
      refine VC.sub [(0, _), (1, _)] (.cons rfl (.cons rfl .nil)) ?_
      refine VC.ret ?_
      refine end2 rfl rfl ?_
      exact ⟨A, c, B, d, rfl, hoa, hor, hfr⟩

set_option maxRecDepth 100000 in
theorem istored_spec (gx gr p : Nat) (Ar A : Option Addr) (bs : List Nat) (c : Nat) (out : List Nat) (most : Nat) (w : World) (hmo : most ≤ 1000000) (hbs : bs.length ≤ 1000000) (hB : ∀ b ∈ bs, b < 256) (hX : IsX w gx gr Ar bs p A c out most) :
    Calls Try.prog 36 #[.pointer (some ⟨gx, 0, none⟩)] w fun e w' => Frm (gx :: gr :: ob A) w w' ∧ match storedF bs most p out with
      | .error k => e = .panicked (Pan k)
      | .ok x => ∃ A' c', e = .returned (.tuple #[]) ∧ IsX w' gx gr Ar bs x.1 A' c' x.2 most ∧ ∀ y ∈ ob A', y ∈ ob A ∨ w.heap.size ≤ y := by
  generalize hF : storedF bs most p out = F
  unfold storedF at hF
  have hp := hX.2.2.2.2.1
  have hom := hX.2.2.2.2.2.1
  refine VC.calls (nt := 53) (res := #[]) Try.func36 rfl Try.ntmps36 Try.results36 rfl ?_
  refine VC.seq ?_
  refine VC.region ?_
  refine Ops.r (Run.mv rfl) rfl ?_
  refine Ops.r (Run.nilck rfl) rfl ?_
  refine Ops.r (Run.fieldAddr rfl Try.underlying50 rfl Try.sizeOf47 (by decide)) rfl ?_
  refine Ops.r (Run.load rfl Try.isAgg47 (hX.1.cell 0)) rfl ?_
  refine Ops.cl (Enters.fn (evs.cons rfl evs.nil) Try.call47) (align_spec gr p Ar bs _ hp (by omega) hX.2.1) rfl ?_
  rintro e w1 ⟨rfl, hR1, hf1⟩
  refine ⟨_, rfl, ?_⟩
  have hX1 := hX.turn hR1 hf1 (by omega)
  refine Ops.nil ?_
  refine thenQ_n ?_
  refine VC.sub [(0, _)] (.cons rfl .nil) ?_
  refine VC.seq ?_
  refine VC.region ?_
  refine Ops.r (Run.mv rfl) rfl ?_
  refine Ops.clp (Enters.fn (evs.cons rfl (evs.cons rfl evs.nil)) Try.call34) (itake_spec gx gr 16 ((p + 7) / 8 * 8) Ar A bs c out most _ (by omega) hbs hB hX1) rfl ?_
  rintro e w2 ⟨hf2, he⟩
  have hfr2 := hf1.trans hf2 (fun x hx => .inl hx)
  rcases hT2 : takeF (ofB bs) 16 ((p + 7) / 8 * 8) with kk | ⟨v2, p2⟩
  · rw [hT2] at he
    simp only [hT2, bnd_e] at hF
    subst hF
    exact .inr ⟨_, he, thenQ_p (endQ_p ⟨hfr2.mono (by simp), rfl⟩)⟩
  rw [hT2] at he
  simp only [hT2, bnd_k] at hF
  obtain ⟨rfl, hX2⟩ := he
  obtain ⟨hp2, hpl2, hv2, _⟩ := takeF_ok hT2
  refine .inl ⟨_, rfl, ?_⟩
  refine Ops.r (Run.mv rfl) rfl ?_
  refine Ops.clp (Enters.fn (evs.cons rfl (evs.cons rfl evs.nil)) Try.call34) (itake_spec gx gr 16 p2 Ar A bs c out most _ (by omega) hbs hB hX2) rfl ?_
  rintro e w3 ⟨hf3, he⟩
  have hfr3 := hfr2.trans hf3 (fun x hx => .inl hx)
  rcases hT3 : takeF (ofB bs) 16 p2 with kk | ⟨v3, p3⟩
  · rw [hT3] at he
    simp only [hT3, bnd_e] at hF
    subst hF
    exact .inr ⟨_, he, thenQ_p (endQ_p ⟨hfr3.mono (by simp), rfl⟩)⟩
  rw [hT3] at he
  simp only [hT3, bnd_k] at hF
  obtain ⟨rfl, hX3⟩ := he
  obtain ⟨hp3, hpl3, hv3, _⟩ := takeF_ok hT3
  refine .inl ⟨_, rfl, ?_⟩
  rw [ofB_len] at hpl2 hpl3
  refine Ops.r (Run.asg rfl) rfl ?_
  refine Ops.r (Run.asg rfl) rfl ?_
  refine Ops.nil ?_
  refine thenQ_n ?_
  refine VC.sub [(0, _), (2, _), (3, _)] (.cons rfl (.cons rfl (.cons rfl .nil))) ?_
  refine VC.seq ?_
  refine VC.region ?_
  refine Ops.r (Run.mv rfl) rfl ?_
  refine Ops.r (Run.mv rfl) rfl ?_
  refine Ops.r (Run.bin rfl rfl (Bin.xor_i64 _ _ (by omega) (by omega))) rfl ?_
  refine Ops.r (Run.bin rfl rfl (Bin.eqlN _ 65535)) rfl ?_
  refine Ops.clp (Enters.fn (evs.cons rfl (evs.cons rfl evs.nil)) Try.call35) (need_spec (decide (v2 ^^^ v3 = 65535)) 3 _) rfl ?_
  rintro e _ ⟨rfl, rfl⟩
  by_cases hN1 : v2 ^^^ v3 = 65535
  rotate_left
  · refine .inr ⟨_, by rw [if_neg (by simpa using hN1)], thenQ_p (endQ_p ?_)⟩
    rw [if_pos hN1] at hF
    subst hF
    exact ⟨hfr3.mono (by simp), rfl⟩
  refine .inl ⟨_, by rw [if_pos (by simpa using hN1)], ?_⟩
  refine Ops.nil ?_
  refine thenQ_n ?_
  refine VC.sub [(0, _), (2, _)] (.cons rfl (.cons rfl .nil)) ?_
  refine VC.seq ?_
  refine VC.region ?_
  refine Ops.r (Run.mv rfl) rfl ?_
  refine Ops.r (Run.nilck rfl) rfl ?_
  refine Ops.r (Run.fieldAddr rfl Try.underlying50 rfl Try.sizeOf47 (by decide)) rfl ?_
  refine Ops.r (Run.load rfl Try.isAgg47 (hX3.1.cell 0)) rfl ?_
  refine Ops.r (Run.mv rfl) rfl ?_
  refine Ops.cl (Enters.fn (evs.cons rfl (evs.cons rfl evs.nil)) Try.call48) (octets_any gr p3 v2 Ar bs _ (by omega) (by omega) hX3.2.1) rfl ?_
  rintro e w4 ⟨B4, nl, c4, k, p4, rfl, hO, hp4, hR4, hf4⟩
  refine ⟨_, rfl, ?_⟩
  have hX4 := hX3.turn hR4 hf4 hp4
  have hfr4 := hfr3.trans hf4 (fun x hx => .inl hx)
  rw [if_neg (by simpa using hN1)] at hF
  have hO2 : (k = 2 ∧ (8 * bs.length - p3) / 8 < v2) ∨ (k = 0 ∧ nl = v2 ∧ ¬ (8 * bs.length - p3) / 8 < v2 ∧ p4 = p3 + 8 * v2 ∧ Own w4 5 1 B4 v2 c4 (NB ((bs.drop (p3 / 8)).take v2))) := by
    have h8 : (p3 + 7) / 8 * 8 = p3 := by omega
    have h9 : (p3 + 7) / 8 = p3 / 8 := by omega
    rcases hO with ⟨h, _⟩ | ⟨m, hm, h⟩
    · omega
    · obtain rfl : v2 = m := by omega
      rw [h8, h9] at h
      rcases h with ⟨h1, _, h2, _⟩ | ⟨h1, h2, h3, h4, h5⟩
      · exact .inl ⟨h2, h1⟩
      · exact .inr ⟨h3, h2, by omega, h4, h5⟩
  refine Ops.r (Run.mv rfl) rfl ?_
  refine Ops.r (Run.extract rfl rfl) rfl ?_
  refine Ops.r (Run.extract rfl rfl) rfl ?_
  refine Ops.r (Run.asg rfl) rfl ?_
  refine Ops.r (Run.asg rfl) rfl ?_
  refine Ops.nil ?_
  refine thenQ_n ?_
  refine VC.sub [(0, _), (2, _), (4, _), (5, _)] (.cons rfl (.cons rfl (.cons rfl (.cons rfl .nil)))) ?_
  refine VC.seq ?_
  refine VC.region ?_
  refine Ops.r (Run.mv rfl) rfl ?_
  refine Ops.clp (Enters.fn (evs.cons rfl evs.nil) Try.call46) (must_spec k _) rfl ?_
  rintro e _ ⟨rfl, rfl⟩
  rcases hO2 with ⟨rfl, hO3⟩ | ⟨rfl, hnl, hO3, rfl, ho4⟩
  · refine .inr ⟨_, by rw [if_neg (by decide)], thenQ_p (endQ_p ?_)⟩
    rw [if_pos hO3] at hF
    subst hF
    exact ⟨hfr4.mono (by simp), rfl⟩
  obtain rfl : v2 = nl := hnl.symm
  refine .inl ⟨_, by rw [if_pos rfl], ?_⟩
  rw [if_neg hO3] at hF
  have hd5 := Drawn.drew w4
  have hXd := hX4.frm0 hd5.frm
  have hlb : ((bs.drop (p3 / 8)).take v2).length = v2 := by rw [List.length_take, List.length_drop]; omega
  refine Ops.nil ?_
  refine thenQ_n ?_
  refine VC.sub [(0, _), (2, _), (4, _)] (.cons rfl (.cons rfl (.cons rfl .nil))) ?_
  refine VC.seq ?_
  refine VC.tail 12 (by kernel_rfl) (by kernel_rfl) ?_
  simp only [List.take_succ_cons, List.take_zero, List.drop_succ_cons, List.drop_zero]
  refine SOps.r (Run.mv rfl) rfl ?_
  refine SOps.r (Run.mv rfl) rfl ?_
  refine SOps.r (Run.nilck rfl) rfl ?_
  refine SOps.r (Run.fieldAddr rfl Try.underlying50 rfl Try.sizeOf3 (by decide)) rfl ?_
  refine SOps.r (Run.load rfl Try.isAgg3 (hXd.1.cell 2)) rfl ?_
  refine SOps.r (Run.mv rfl) rfl ?_
  refine SOps.r (Run.nilck rfl) rfl ?_
  refine SOps.r (Run.fieldAddr rfl Try.underlying50 rfl Try.sizeOf22 (by decide)) rfl ?_
  refine SOps.r (Run.load rfl Try.isAgg22 (hXd.1.cell 1)) rfl ?_
  refine SOps.r (Run.lenS rfl Try.underlying22) rfl ?_
  refine SOps.r (Run.bin rfl rfl (Bin.sub_i64 _ _ (by omega) (by omega))) rfl ?_
  refine SOps.r (Run.bin rfl rfl (Bin.leqN _ _)) rfl ?_
  refine SOps.nil ?_
  refine Ops.clp (Enters.fn (evs.cons rfl (evs.cons rfl evs.nil)) Try.call35) (need_spec (decide (v2 ≤ most - out.length)) 13 _) rfl ?_
  rintro e _ ⟨rfl, rfl⟩
  by_cases hN2 : v2 ≤ most - out.length
  rotate_left
  · refine .inr ⟨_, by rw [if_neg (by simpa using hN2)], thenQ_p (endQ_p ?_)⟩
    rw [if_pos (by omega)] at hF
    subst hF
    exact ⟨(hfr4.drawn hd5).mono (by simp), rfl⟩
  refine .inl ⟨_, by rw [if_pos (by simpa using hN2)], ?_⟩
  rw [if_neg (by omega)] at hF
  refine Ops.nil ?_
  refine thenQ_n ?_
  refine VC.sub [(0, _), (4, _)] (.cons rfl (.cons rfl .nil)) ?_
  refine VC.region ?_
  refine Ops.r (Run.mv rfl) rfl ?_
  refine Ops.r (Run.mv rfl) rfl ?_
  refine Ops.r (Run.nilck rfl) rfl ?_
  refine Ops.r (Run.fieldAddr rfl Try.underlying50 rfl Try.sizeOf22 (by decide)) rfl ?_
  refine Ops.r (Run.load rfl Try.isAgg22 (hXd.1.cell 1)) rfl ?_
  refine Ops.r (Run.mv rfl) rfl ?_
  refine Ops.m (Does.app rfl rfl Try.underlying22 (info5) rfl (by decide) hXd.2.2.1 (ho4.drawn hd5).rd (NB_one _) (by omega) (by omega)) rfl ?_
  rintro _ w6 ⟨B6, c6, rfl, ho6, hf6, hob6⟩
  have hb6 := hXd.1.frm hf6 hXd.gxA
  refine Ops.r (Run.nilck rfl) rfl ?_
  refine Ops.r (Run.fieldAddr rfl Try.underlying50 rfl Try.sizeOf22 (by decide)) rfl ?_
  refine Ops.st (Acts.store (i := 1) rfl rfl Try.sizeOf22 hb6 rfl rfl) ?_
  rintro w7 ⟨hb7, hf7, hs7⟩
  obtain ⟨hX7, hf67, hu7⟩ := hXd.app ho6 hf6 hob6 hb7 hf7 hlb (by omega) (fun x hx => hB x (List.mem_of_mem_drop (List.mem_of_mem_take hx)))
  have hsz4 := hfr4.size
  have hfr7 : Frm (gx :: gr :: ob A) w w7 := ((hfr4.drawn hd5).mono (T := gx :: gr :: ob A) (by simp)).trans hf67 (fun x hx => .inl (by rcases List.mem_cons.1 hx with rfl | hx <;> simp_all))
  refine Ops.nil ?_
  refine end0n ?_
  subst hF
  refine ⟨hfr7, B6, c6, rfl, hX7, fun y hy => (hu7 y hy).imp id (fun h => Nat.le_trans hsz4 h)⟩

end Go.Proofs.Ytfjhmbgckmhdaaa
