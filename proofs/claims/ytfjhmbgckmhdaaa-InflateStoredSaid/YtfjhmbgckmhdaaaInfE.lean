/-
  The document's inflating: all of it.
-/
import Derived.Test.YtfjhmbgckmhdaaaInfY
namespace Go.Proofs.Ytfjhmbgckmhdaaa
open Go.RowKit

/-- What a block holds, given its kind. -/
def blkB (bs : List Nat) (most : Nat) (out : List Nat) (k : Nat × Nat) : Except Nat (Nat × List Nat) :=
  if k.1 = 0 then storedF bs most k.2 out
  else if k.1 = 1 then tokensF (ofB bs) fixedL fixedW most (8 * bs.length + 1) k.2 out
  else bnd (dynF (ofB bs) k.2) fun c => tokensF (ofB bs) c.2.1 c.2.2 most (8 * bs.length + 1) c.1 out
section
variable {α : Type} {F : Except Nat α} {bs : List Nat} {m f q v e : Nat} {o : List Nat} {K : Nat × List Nat → Except Nat α}
/-- What follows a block. -/
def blkK (bs : List Nat) (m f v : Nat) (K : Nat × List Nat → Except Nat α) (r : Nat × List Nat) : Except Nat α := if v = 0 then bnd (blocksF bs m f r.1 r.2) K else K r
theorem blocks_step : bnd (blocksF bs m (f + 1) q o) K = bnd (takeF (ofB bs) 1 q) fun x => bnd (takeF (ofB bs) 2 x.2) fun k => if ¬ k.1 < 3 then .error 3 else bnd (blkB bs m o k) (blkK bs m f x.1 K) := by
  unfold blocksF
  rw [bnd_assoc]
  unfold blockF
  rw [bnd_assoc]
  congr 1
  funext x
  rw [bnd_assoc]
  congr 1
  funext k
  rw [bnd_if]
  split
  · rfl
  · rw [bnd_assoc]
    show bnd (blkB bs m o k) _ = _
    congr 1
    funext r
    unfold blkK
    by_cases h : x.1 = 0 <;> simp [h]
theorem Stg.dir {G : Except Nat (Nat × List Nat)} {x : Nat × List Nat} (h : Stg F 0 (bnd G K)) (hG : Stg G e (.ok x)) : Stg F e (K x) := by
  have h := h.right
  rcases hG with ⟨he, rfl⟩ | ⟨rfl, rfl⟩
  · exact .inl ⟨he, h⟩
  · exact .mk0 h
theorem Stg.own (G : Except Nat (Nat × List Nat)) : Stg G 0 (bnd G .ok) := .mk0 (by cases G <;> rfl)
theorem Stg.own3 (G : Except Nat (Nat × List Int × List Int)) : Stg G 0 (bnd G .ok) := .mk0 (by cases G <;> rfl)
end
theorem IsY.noInt {w : World} {gx : Nat} {Ab : Option Addr} {cb : Nat} {L : List Bool} {p : Nat} {A : Option Addr} {c : Nat} {out : List Nat} {most e : Nat} (h : IsY w gx Ab cb L p A c out most e) {B : Option Addr} {n d : Nat} {l : List Value} (ho : Own w 3 1 B n d l) : ∀ x ∈ ob B, x ∉ gx :: ob A := fun x hx h5 => by
  rcases List.mem_cons.1 h5 with h2 | h2
  · exact ho.ne_blk h.1 (by decide) (h2 ▸ hx)
  · exact h.2.2.1.ne_own ho (by decide) x h2 hx

set_option maxRecDepth 100000 in
theorem rinfl_spec (B : Option Addr) (c0 : Nat) (bs : List Nat) (most : Int) (w : World) (hmo : most ≤ 1000000) (hbs : bs.length ≤ 1000000) (hB : ∀ b ∈ bs, b < 256) (hr : Rd w 1 B bs.length (NB bs)) :
    Calls Try.prog 11 #[.slice B bs.length c0, .int .i64 most] w fun e w' => Frm [] w w' ∧ match inflF bs most with
      | .error k => e = .returned (.tuple #[.string (strB []), .int .i64 ((0 : Nat) : Int), .int .i64 ((k : Nat) : Int)])
      | .ok x => e = .returned (.tuple #[.string (strB x.1), .int .i64 ((x.2 : Nat) : Int), .int .i64 ((0 : Nat) : Int)]) := by
  generalize hF : inflF bs most = F
  unfold inflF at hF
  refine VC.calls (nt := 83) (res := #[.tmp 4, .tmp 5, .tmp 6]) Try.func11 rfl Try.ntmps11 Try.results11 rfl ?_
  refine VC.seq ?_
  refine VC.region ?_
  refine Ops.r (Run.asg rfl) rfl ?_
  refine Ops.r (v := .int .i64 ((0 : Nat) : Int)) (Run.asg rfl) rfl ?_
  refine Ops.r (v := .int .i64 ((0 : Nat) : Int)) (Run.asg rfl) rfl ?_
  refine Ops.nil ?_
  refine thenQ_n ?_
  refine VC.sub [(0, _), (1, _)] (.cons rfl (.cons rfl .nil)) ?_
  refine VC.seq ?_
  refine VC.seq ?_
  refine VC.region ?_
  refine Ops.r (Run.mv rfl) rfl ?_
  refine Ops.r (Run.bin rfl rfl (Bin.lss _ 0)) rfl ?_
  refine Ops.nil ?_
  refine thenQ_n ?_
  refine VC.sub [(0, _), (1, _), (13, _)] (.cons rfl (.cons rfl (.cons rfl .nil))) ?_
  refine VC.condD rfl (fun hc1 => ?_) (fun hc1 => ?_)
  · skip
    rw [if_pos hc1] at hF
    refine VC.seq ?_
    refine VC.region ?_
    refine Ops.r (Run.asg rfl) rfl ?_
    refine Ops.r (v := .int .i64 ((0 : Nat) : Int)) (Run.asg rfl) rfl ?_
    refine Ops.r (v := .int .i64 ((1 : Nat) : Int)) (Run.asg rfl) rfl ?_
    refine Ops.nil ?_
    refine thenQ_n ?_
    refine VC.sub [(4, _), (5, _), (6, _)] (.cons rfl (.cons rfl (.cons rfl .nil))) ?_
    refine VC.ret ?_
    refine thenQ_r (end3 rfl rfl rfl ?_)
    subst hF
    exact ⟨Frm.refl _ _, rfl⟩
  · skip
    rw [if_neg hc1] at hF
    obtain ⟨m, rfl⟩ : ∃ m : Nat, most = m := ⟨most.toNat, by omega⟩
    simp only [Int.toNat_natCast] at hF
    obtain ⟨K, hK⟩ : ∃ K : Nat × List Nat → Except Nat (List Nat × Nat), K = fun x => .ok (x.2, (x.1 + 7) / 8) := ⟨_, rfl⟩
    rw [← hK] at hF
    have hFS : Stg F 0 (bnd (blocksF bs m (8 * bs.length + 1) 0 []) K) := .mk0 hF.symm
    have hlen := ofB_len bs
    refine VC.skip ?_
    refine thenQ_n ?_
    refine VC.sub [(0, _), (1, _)] (.cons rfl (.cons rfl .nil)) ?_
    refine VC.seq ?_
    refine VC.region ?_
    refine Ops.r (Run.mv rfl) rfl ?_
    refine Ops.cl (Enters.fn (evs.cons rfl evs.nil) Try.call26) (of_spec B c0 bs _ (by omega) hB hr) rfl ?_
    rintro e w4 ⟨Ab, cb, rfl, hOb, hf4, hub⟩
    rw [← hlen] at hOb ⊢
    refine ⟨_, rfl, ?_⟩
    have hs4 := hf4.size
    refine Ops.r (Run.mv rfl) rfl ?_
    refine Ops.r (Run.build (evs.cons rfl (evs.cons rfl evs.nil)) zero56 (places56).choose_spec.1 (places56).choose_spec.2 rfl) rfl ?_
    refine Ops.m (Does.box rfl) rfl ?_
    rintro _ w5 ⟨rfl, hF5⟩
    have hb5 : Blk w5 w4.heap.size 56 #[.slice Ab (ofB bs).length cb, .int .i64 ((0 : Nat) : Int), .slice none 0 0, .int .i64 ((m : Nat) : Int), .int .i64 ((0 : Nat) : Int)] := hF5.blk
    have hfr5 := hf4.trans hF5.frm (by simp)
    generalize w4.heap.size = gx at hb5 hs4 ⊢
    have hX5 : IsY w5 gx Ab cb (ofB bs) 0 none 0 [] m 0 := ⟨hb5, hOb.frm hF5.frm (by simp), Own.nil _ _ _, by omega, by omega, by simp, by omega, by simp⟩
    refine Ops.r (Run.asg rfl) rfl ?_
    refine Ops.nil ?_
    refine thenQ_n ?_
    refine VC.sub [(7, _)] (.cons rfl .nil) ?_
    refine VC.seq ?_
    refine VC.region ?_
    refine Ops.r (v := .int .i64 ((0 : Nat) : Int)) (Run.asg rfl) rfl ?_
    refine Ops.nil ?_
    refine thenQ_n ?_
    refine VC.seq ?_
    refine VC.meet (σ := Nat × Option Addr × Nat × List Nat × Nat) (fun s => [(7, .pointer (some ⟨gx, 0, none⟩))]) (fun s wr => IsY wr gx Ab cb (ofB bs) s.1 s.2.1 s.2.2.1 s.2.2.2.1 m s.2.2.2.2 ∧ Frm [] w wr ∧ Stg F s.2.2.2.2 (K (s.1, s.2.2.2.1))) ?_ ?_
    · skip
      refine VC.block ?_
      refine VC.loop (σ := Nat × Nat × Option Addr × Nat × List Nat × Nat × Nat) (fun s => [(7, .pointer (some ⟨gx, 0, none⟩)), (8, .int .i64 ((s.2.2.2.2.2.2 : Nat) : Int))]) (fun s wr => IsY wr gx Ab cb (ofB bs) s.2.1 s.2.2.1 s.2.2.2.1 s.2.2.2.2.1 m s.2.2.2.2.2.1 ∧ Frm [] w wr ∧ (∀ y ∈ ob s.2.2.1, w.heap.size ≤ y) ∧ Stg F s.2.2.2.2.2.1 (blkK bs m s.1 s.2.2.2.2.2.2 K (s.2.1, s.2.2.2.2.1)) ∧ (s.2.2.2.2.2.1 = 0 → 8 * bs.length < s.1 + s.2.1)) (fun s => if s.2.2.2.2.2.1 = 0 then 8 * bs.length + 2 - s.2.1 else 0) (8 * bs.length + 1, 0, none, 0, [], 0, 0) (.cons rfl (.cons rfl .nil)) ⟨hX5, hfr5, by simp [ob], hFS, fun _ => by dsimp only; omega⟩ ?_
      clear hX5 hFS hfr5 hOb
      rintro ⟨f, q, A2, c2, o, e0, la⟩ wr ⟨hX, hfr, hu, hF, hfq⟩
      dsimp only at hX hfr hu hF hfq ⊢
      have hsr := hfr.size
      refine VC.seq ?_
      refine VC.seq ?_
      refine VC.split1 [(7, _)] (.cons rfl .nil) 27 (.bool (decide (la = 0 ∧ e0 = 0))) ?_ ?_
      · refine VC.region ?_
        refine Ops.r (Run.mv rfl) rfl ?_
        refine Ops.r (Run.bin rfl rfl (Bin.eqlN _ 0)) rfl ?_
        by_cases hs20 : la = 0
        · skip
          refine Ops.r (Run.mv rfl) rfl ?_
          refine Ops.rg rfl (by first | rfl | assumption | exact decide_eq_true (by assumption) | exact decide_eq_false (by assumption) | decide | (simp; done) | (simp; omega) | (simp [*]; done)) (Run.mv rfl) rfl ?_
          refine Ops.rg rfl (by first | rfl | assumption | exact decide_eq_true (by assumption) | exact decide_eq_false (by assumption) | decide | (simp; done) | (simp; omega) | (simp [*]; done)) (Run.nilck rfl) rfl ?_
          refine Ops.rg rfl (by first | rfl | assumption | exact decide_eq_true (by assumption) | exact decide_eq_false (by assumption) | decide | (simp; done) | (simp; omega) | (simp [*]; done)) (Run.fieldAddr rfl Try.underlying56 rfl Try.sizeOf3 (by decide)) rfl ?_
          refine Ops.rg rfl (by first | rfl | assumption | exact decide_eq_true (by assumption) | exact decide_eq_false (by assumption) | decide | (simp; done) | (simp; omega) | (simp [*]; done)) (Run.load rfl Try.isAgg3 (hX.1.cell 4)) rfl ?_
          refine Ops.rg rfl (by first | rfl | assumption | exact decide_eq_true (by assumption) | exact decide_eq_false (by assumption) | decide | (simp; done) | (simp; omega) | (simp [*]; done)) (Run.bin rfl rfl (Bin.eqlN _ 0)) rfl ?_
          by_cases hs26 : e0 = 0
          · skip
            refine Ops.r (Run.pickT rfl rfl (by first | rfl | assumption | exact decide_eq_true (by assumption) | exact decide_eq_false (by assumption) | decide | (simp; done) | (simp; omega) | (simp [*]; done))) rfl ?_
            refine Ops.nil ?_
            refine thenQ_n ⟨(.cons (congrArg (fun b => some (Value.bool b)) (by grind)) (.cons rfl .nil)), rfl⟩
          · skip
            refine Ops.r (Run.pickT rfl rfl (by first | rfl | assumption | exact decide_eq_true (by assumption) | exact decide_eq_false (by assumption) | decide | (simp; done) | (simp; omega) | (simp [*]; done))) rfl ?_
            refine Ops.nil ?_
            refine thenQ_n ⟨(.cons (congrArg (fun b => some (Value.bool b)) (by grind)) (.cons rfl .nil)), rfl⟩
        · skip
          refine Ops.r (Run.mv rfl) rfl ?_
          refine Ops.sk rfl (by first | rfl | assumption | exact decide_eq_true (by assumption) | exact decide_eq_false (by assumption) | decide | (simp; done) | (simp; omega) | (simp [*]; done)) rfl ?_
          refine Ops.sk rfl (by first | rfl | assumption | exact decide_eq_true (by assumption) | exact decide_eq_false (by assumption) | decide | (simp; done) | (simp; omega) | (simp [*]; done)) rfl ?_
          refine Ops.sk rfl (by first | rfl | assumption | exact decide_eq_true (by assumption) | exact decide_eq_false (by assumption) | decide | (simp; done) | (simp; omega) | (simp [*]; done)) rfl ?_
          refine Ops.sk rfl (by first | rfl | assumption | exact decide_eq_true (by assumption) | exact decide_eq_false (by assumption) | decide | (simp; done) | (simp; omega) | (simp [*]; done)) rfl ?_
          refine Ops.sk rfl (by first | rfl | assumption | exact decide_eq_true (by assumption) | exact decide_eq_false (by assumption) | decide | (simp; done) | (simp; omega) | (simp [*]; done)) rfl ?_
          refine Ops.r (Run.pickF rfl rfl (by first | rfl | assumption | exact decide_eq_true (by assumption) | exact decide_eq_false (by assumption) | decide | (simp; done) | (simp; omega) | (simp [*]; done))) rfl ?_
          refine Ops.nil ?_
          refine thenQ_n ⟨(.cons (congrArg (fun b => some (Value.bool b)) (by grind)) (.cons rfl .nil)), rfl⟩
      · intro Γ hΓ
        refine thenQ_n (VC.sub _ hΓ ?_)
        refine VC.condD rfl (fun hc2 => ?_) (fun hc2 => ?_)
        · skip
          obtain ⟨rfl, rfl⟩ := hc2
          have hfq := hfq rfl
          have hpq := hX.2.2.2.1
          obtain ⟨f, rfl⟩ : ∃ f', f = f' + 1 := ⟨f - 1, by omega⟩
          unfold blkK at hF
          rw [if_pos rfl, blocks_step] at hF
          refine VC.skip ?_
          refine thenQ_n ?_
          refine VC.sub [(7, _)] (.cons rfl .nil) ?_
          refine VC.block ?_
          refine VC.seq ?_
          refine VC.region ?_
          refine Ops.r (Run.mv rfl) rfl ?_
          refine Ops.cl (Enters.fn (evs.cons rfl (evs.cons rfl evs.nil)) Try.call27) (rnum_spec gx Ab cb (ofB bs) q A2 c2 o m 0 1 _ (by omega) hX) rfl ?_
          rintro r w1 ⟨v1, p1, e1, rfl, hX1, hf1, hN1⟩
          refine ⟨_, rfl, ?_⟩
          have hF1 := hF.num hN1
          have hfr1 : Frm [] w w1 := hfr.trans hf1 (fun x hx => .inr (by simp at hx; omega))
          refine Ops.r (Run.asg rfl) rfl ?_
          refine Ops.nil ?_
          refine thenQ_n ?_
          refine VC.sub [(7, _), (8, _)] (.cons rfl (.cons rfl .nil)) ?_
          refine VC.seq ?_
          refine VC.region ?_
          refine Ops.r (Run.mv rfl) rfl ?_
          refine Ops.cl (Enters.fn (evs.cons rfl (evs.cons rfl evs.nil)) Try.call27) (rnum_spec gx Ab cb (ofB bs) p1 A2 c2 o m e1 2 _ (by omega) hX1) rfl ?_
          rintro r w2 ⟨v2, p2, e2, rfl, hX2, hf2, hN2⟩
          refine ⟨_, rfl, ?_⟩
          have hF2 := hF1.num hN2
          have hF3 := hF2.fail (by decide)
          try dsimp only at hF3
          have hv2 := hN2.lt.1
          have hfr2 : Frm [] w w2 := hfr1.trans hf2 (fun x hx => .inr (by simp at hx; omega))
          refine Ops.r (Run.asg rfl) rfl ?_
          refine Ops.nil ?_
          refine thenQ_n ?_
          refine VC.sub [(7, _), (8, _), (9, _)] (.cons rfl (.cons rfl (.cons rfl .nil))) ?_
          refine VC.seq ?_
          refine VC.seq ?_
          refine VC.region ?_
          refine Ops.r (Run.mv rfl) rfl ?_
          refine Ops.r (Run.nilck rfl) rfl ?_
          refine Ops.r (Run.fieldAddr rfl Try.underlying56 rfl Try.sizeOf3 (by decide)) rfl ?_
          refine Ops.r (Run.load rfl Try.isAgg3 (hX2.1.cell 4)) rfl ?_
          refine Ops.r (Run.bin rfl rfl (Bin.neqN _ 0)) rfl ?_
          refine Ops.nil ?_
          refine thenQ_n ?_
          refine VC.sub [(7, _), (8, _), (9, _), (36, _)] (.cons rfl (.cons rfl (.cons rfl (.cons rfl .nil)))) ?_
          refine VC.condD rfl (fun hc3 => ?_) (fun hc3 => ?_)
          · skip
            refine VC.exit ?_
            refine thenQ_x (blockQ_o rfl (thenQ_x (blockQ_x ?_)))
            refine thenQ_n ⟨(p2, A2, c2, o, e2), (.cons rfl .nil), ?_⟩
            exact ⟨hX2, hfr2, hF2.left hc3⟩
          · skip
            have he2 : e2 = 0 := by simpa using hc3
            subst he2
            have hqp : q < p2 := by
              rcases hN1 with ⟨h, _⟩ | ⟨_, h, _⟩ | ⟨_, _, _, _, h⟩
              · exact absurd rfl h
              · have h1 := (takeF_ok h).1
                have h2 := hN2.lt.2
                omega
              · rcases hN2 with ⟨_, _, _, h2⟩ | ⟨h2, _⟩ | ⟨h2, _⟩ <;> omega
            refine VC.skip ?_
            refine thenQ_n ?_
            refine VC.sub [(7, _), (8, _), (9, _)] (.cons rfl (.cons rfl (.cons rfl .nil))) ?_
            refine VC.seq ?_
            refine VC.seq ?_
            refine VC.region ?_
            refine Ops.r (Run.mv rfl) rfl ?_
            refine Ops.r (Run.bin rfl rfl (Bin.eqlN _ 3)) rfl ?_
            refine Ops.nil ?_
            refine thenQ_n ?_
            refine VC.sub [(7, _), (8, _), (9, _), (38, _)] (.cons rfl (.cons rfl (.cons rfl (.cons rfl .nil)))) ?_
            refine VC.meet (σ := Nat) (fun s => [(7, .pointer (some ⟨gx, 0, none⟩)), (8, .int .i64 ((v1 : Nat) : Int)), (9, .int .i64 ((v2 : Nat) : Int))]) (fun s wr => IsY wr gx Ab cb (ofB bs) p2 A2 c2 o m s ∧ Frm [] w wr ∧ s = if 0 = 0 ∧ ¬ v2 < 3 then 3 else 0) ?_ ?_
            · skip
              refine VC.condD rfl (fun hc4 => ?_) (fun hc4 => ?_)
              · skip
                refine VC.region ?_
                refine Ops.r (Run.mv rfl) rfl ?_
                refine Ops.cl (Enters.fn (evs.cons rfl (evs.cons rfl evs.nil)) Try.call28) (rfail_spec gx Ab cb (ofB bs) p2 A2 c2 o m 0 3 _ hX2) rfl ?_
                rintro r w3 ⟨rfl, hX3, hf3⟩
                refine ⟨_, rfl, ?_⟩
                rw [if_pos rfl] at hX3
                refine Ops.nil ?_
                refine thenQ_n ⟨3, (.cons rfl (.cons rfl (.cons rfl .nil))), ?_⟩
                exact ⟨hX3, hfr2.trans hf3 (fun x hx => .inr (by simp at hx; omega)), by rw [if_pos ⟨rfl, by omega⟩]⟩
              · skip
                refine VC.skip ?_
                refine thenQ_n ⟨0, (.cons rfl (.cons rfl (.cons rfl .nil))), ?_⟩
                exact ⟨hX2, hfr2, by rw [if_neg (fun h => hc4 (by omega))]⟩
            · skip
              rintro e3 w3 ⟨hX3, hfr3, he3⟩ Γ hΓ
              rw [← he3] at hF3
              have he30 : v2 < 3 → e3 = 0 := fun h => by rw [he3, if_neg (fun h2 => h2.2 h)]
              have hev : e3 = 0 → v2 < 3 := fun h => by
                by_cases h2 : v2 < 3
                · exact h2
                · rw [if_pos ⟨rfl, h2⟩] at he3; omega
              have hs3 := hfr3.size
              clear he3
              refine thenQ_n (VC.sub _ hΓ ?_)
              refine VC.seq ?_
              refine VC.seq ?_
              refine VC.region ?_
              refine Ops.r (Run.mv rfl) rfl ?_
              refine Ops.r (Run.bin rfl rfl (Bin.eqlN _ 0)) rfl ?_
              refine Ops.nil ?_
              refine thenQ_n ?_
              refine VC.sub [(7, _), (8, _), (9, _), (42, _)] (.cons rfl (.cons rfl (.cons rfl (.cons rfl .nil)))) ?_
              refine VC.meet (σ := Nat × Option Addr × Nat × List Nat × Nat) (fun s => [(7, .pointer (some ⟨gx, 0, none⟩)), (8, .int .i64 ((v1 : Nat) : Int)), (9, .int .i64 ((v2 : Nat) : Int))]) (fun s wr => IsY wr gx Ab cb (ofB bs) s.1 s.2.1 s.2.2.1 s.2.2.2.1 m s.2.2.2.2 ∧ Frm [] w wr ∧ (∀ y ∈ ob s.2.1, w.heap.size ≤ y) ∧ (v2 = 0 → Stg F s.2.2.2.2 (blkK bs m f v1 K (s.1, s.2.2.2.1)) ∧ (s.2.2.2.2 = 0 → p2 ≤ s.1)) ∧ (v2 ≠ 0 → s = (p2, A2, c2, o, e3))) ?_ ?_
              · skip
                refine VC.condD rfl (fun hc5 => ?_) (fun hc5 => ?_)
                · skip
                  have he3 := he30 (by omega)
                  subst he3
                  refine VC.region ?_
                  refine Ops.r (Run.mv rfl) rfl ?_
                  refine Ops.cl (Enters.fn (evs.cons rfl evs.nil) Try.call29) (rstored_spec gx Ab cb bs p2 A2 c2 o m _ hB hX3) rfl ?_
                  rintro r w5 ⟨p5, A5, c5, o5, e5, rfl, hX5, hf5, hu5, hR5⟩
                  refine ⟨_, rfl, ?_⟩
                  have hF5 : Stg F e5 (blkK bs m f v1 K (p5, o5)) := by
                    unfold blkB at hF3
                    rw [if_pos hc5] at hF3
                    exact hF3.res hR5
                  have hfr5 : Frm [] w w5 := hfr3.trans hf5 (fun x hx => .inr (by
                    rcases List.mem_cons.1 hx with h6 | hx
                    · omega
                    · exact hu x hx))
                  have hlt5 : e5 = 0 → p2 ≤ p5 := fun h => by
                    cases hS : storedF bs m p2 o with
                    | error k => rw [hS] at hR5; obtain ⟨h1, h2⟩ := hR5; omega
                    | ok x => rw [hS] at hR5; obtain ⟨_, h2, _⟩ := hR5; have := storedF_le hS; omega
                  refine Ops.nil ?_
                  refine thenQ_n ⟨(p5, A5, c5, o5, e5), (.cons rfl (.cons rfl (.cons rfl .nil))), ?_⟩
                  exact ⟨hX5, hfr5, fun y hy => (hu5 y hy).elim (hu y) (fun h => Nat.le_trans hs3 h), fun _ => ⟨hF5, hlt5⟩, fun h => absurd hc5 h⟩
                · skip
                  refine VC.skip ?_
                  refine thenQ_n ⟨(p2, A2, c2, o, e3), (.cons rfl (.cons rfl (.cons rfl .nil))), ?_⟩
                  exact ⟨hX3, hfr3, hu, fun h => absurd h hc5, fun _ => rfl⟩
              · skip
                rintro ⟨p6, A6, c6, o6, e6⟩ w6 ⟨hX6, hfr6, hu6, hA6, hB6⟩ Γ hΓ
                dsimp only at hX6 hfr6 hu6 hA6 hB6 hΓ
                have hs6 := hfr6.size
                refine thenQ_n (VC.sub _ hΓ ?_)
                refine VC.seq ?_
                refine VC.seq ?_
                refine VC.region ?_
                refine Ops.r (Run.mv rfl) rfl ?_
                refine Ops.r (Run.bin rfl rfl (Bin.eqlN _ 1)) rfl ?_
                refine Ops.nil ?_
                refine thenQ_n ?_
                refine VC.sub [(7, _), (8, _), (9, _), (46, _)] (.cons rfl (.cons rfl (.cons rfl (.cons rfl .nil)))) ?_
                refine VC.meet (σ := Nat × Option Addr × Nat × List Nat × Nat) (fun s => [(7, .pointer (some ⟨gx, 0, none⟩)), (8, .int .i64 ((v1 : Nat) : Int)), (9, .int .i64 ((v2 : Nat) : Int))]) (fun s wr => IsY wr gx Ab cb (ofB bs) s.1 s.2.1 s.2.2.1 s.2.2.2.1 m s.2.2.2.2 ∧ Frm [] w wr ∧ (∀ y ∈ ob s.2.1, w.heap.size ≤ y) ∧ (v2 ≤ 1 → Stg F s.2.2.2.2 (blkK bs m f v1 K (s.1, s.2.2.2.1)) ∧ (s.2.2.2.2 = 0 → p2 ≤ s.1)) ∧ (2 ≤ v2 → s = (p2, A2, c2, o, e3))) ?_ ?_
                · skip
                  refine VC.condD rfl (fun hc6 => ?_) (fun hc6 => ?_)
                  · skip
                    have he3 := he30 (by omega)
                    subst he3
                    have h6 := hB6 (by omega)
                    simp only [Prod.mk.injEq] at h6
                    obtain ⟨rfl, rfl, rfl, rfl, rfl⟩ := h6
                    obtain ⟨hg1, hg2, hm1, hm2⟩ := fixed_good
                    refine VC.region ?_
                    refine Ops.r (Run.mv rfl) rfl ?_
                    refine Ops.cl (Enters.fn evs.nil Try.call14) (rfixed_spec _) rfl ?_
                    rintro r w7 ⟨Af, cf, Bf, df, rfl, hOa, hOw, hf7⟩
                    refine ⟨_, rfl, ?_⟩
                    have hX7 := hX6.frm0 hf7
                    refine Ops.r (Run.extract rfl rfl) rfl ?_
                    refine Ops.r (Run.extract rfl rfl) rfl ?_
                    refine Ops.cl (Enters.fn (evs.cons rfl (evs.cons rfl (evs.cons rfl evs.nil))) Try.call30) (rtokens_spec (tokensF (ofB bs) fixedL fixedW m (8 * bs.length + 1) p6 o6) .ok gx Ab Af Bf cb cf df 288 32 (8 * bs.length + 1) fixedL fixedW (ofB bs) p6 A6 c6 o6 m 0 _ (fun _ => ⟨⟨fixedL_len, hg1, hOa.rd⟩, fixedW_len, hg2, hOw.rd⟩) (fun _ x hx => (List.mem_append.1 hx).elim (hX7.noInt hOa x) (hX7.noInt hOw x)) (Stg.own _) (by omega) hX7) rfl ?_
                    rintro r w8 ⟨p8, A8, c8, o8, e8, rfl, hX8, hf8, hu8, hG8⟩
                    refine ⟨_, rfl, ?_⟩
                    have hF8 : Stg F e8 (blkK bs m f v1 K (p8, o8)) := by
                      unfold blkB at hF3
                      rw [if_neg (show ¬ v2 = 0 by omega), if_pos hc6] at hF3
                      exact hF3.dir hG8
                    have hlt8 : e8 = 0 → p6 ≤ p8 := fun h => by
                      subst h
                      exact (tokensF_le (by omega) (by omega) _ _ _ _ hX7.2.2.2.1 hG8.right).1
                    have hfr8 : Frm [] w w8 := (hfr6.trans hf7 (by simp)).trans hf8 (fun x hx => .inr (by
                      rcases List.mem_cons.1 hx with h6 | hx
                      · omega
                      · exact hu6 x hx))
                    have hs7 := hf7.size
                    refine Ops.nil ?_
                    refine thenQ_n ⟨(p8, A8, c8, o8, e8), (.cons rfl (.cons rfl (.cons rfl .nil))), ?_⟩
                    exact ⟨hX8, hfr8, fun y hy => (hu8 y hy).elim (hu6 y) (fun h => by omega), fun _ => ⟨hF8, hlt8⟩, fun h => by omega⟩
                  · skip
                    refine VC.skip ?_
                    refine thenQ_n ⟨(p6, A6, c6, o6, e6), (.cons rfl (.cons rfl (.cons rfl .nil))), ?_⟩
                    exact ⟨hX6, hfr6, hu6, fun h => hA6 (by omega), fun h => hB6 (by omega)⟩
                · skip
                  clear hX6 hfr6 hu6 hA6 hB6 hs6
                  rintro ⟨p9, A9, c9, o9, e9⟩ w9 ⟨hX9, hfr9, hu9, hA9, hB9⟩ Γ hΓ
                  dsimp only at hX9 hfr9 hu9 hA9 hB9 hΓ
                  have hs9 := hfr9.size
                  refine thenQ_n (VC.sub _ hΓ ?_)
                  refine VC.seq ?_
                  refine VC.region ?_
                  refine Ops.r (Run.mv rfl) rfl ?_
                  refine Ops.r (Run.bin rfl rfl (Bin.eqlN _ 2)) rfl ?_
                  refine Ops.nil ?_
                  refine thenQ_n ?_
                  refine VC.sub [(7, _), (8, _), (53, _)] (.cons rfl (.cons rfl (.cons rfl .nil))) ?_
                  refine VC.condD rfl (fun hc7 => ?_) (fun hc7 => ?_)
                  · skip
                    have he3 := he30 (by omega)
                    subst he3
                    have h9 := hB9 (by omega)
                    simp only [Prod.mk.injEq] at h9
                    obtain ⟨rfl, rfl, rfl, rfl, rfl⟩ := h9
                    refine VC.seq ?_
                    refine VC.region ?_
                    refine Ops.r (Run.mv rfl) rfl ?_
                    refine Ops.cl (Enters.fn (evs.cons rfl evs.nil) Try.call31) (rcodes_spec (dynF (ofB bs) p9) .ok gx Ab cb (ofB bs) p9 A9 c9 o9 m _ (Stg.own3 _) hX9) rfl ?_
                    rintro r w10 ⟨p10, B1, n1, d1, B2, n2, d2, la2, lb2, e10, rfl, hX10, hf10, hG10, hab10, hda10⟩
                    refine ⟨_, rfl, ?_⟩
                    have hfr10 : Frm [] w w10 := hfr9.trans hf10 (fun x hx => .inr (by simp at hx; omega))
                    have hs10 := hfr10.size
                    obtain ⟨T, hT⟩ : ∃ T, T = tokensF (ofB bs) la2 lb2 m (8 * bs.length + 1) p10 o9 := ⟨_, rfl⟩
                    have hG11 : Stg (if e10 = 0 then T else .error e10) e10 (bnd (tokensF (ofB bs) la2 lb2 m (8 * bs.length + 1) p10 o9) .ok) := by
                      rw [← hT]
                      by_cases h : e10 = 0
                      · subst h; rw [if_pos rfl]; exact Stg.own _
                      · rw [if_neg h]; exact .inl ⟨h, rfl⟩
                    refine Ops.r (Run.mv rfl) rfl ?_
                    refine Ops.r (Run.extract rfl rfl) rfl ?_
                    refine Ops.r (Run.extract rfl rfl) rfl ?_
                    refine Ops.r (Run.asg rfl) rfl ?_
                    refine Ops.r (Run.asg rfl) rfl ?_
                    refine Ops.nil ?_
                    refine thenQ_n ?_
                    refine VC.sub [(7, _), (8, _), (10, _), (11, _)] (.cons rfl (.cons rfl (.cons rfl (.cons rfl .nil)))) ?_
                    refine VC.region ?_
                    refine Ops.r (Run.mv rfl) rfl ?_
                    refine Ops.r (Run.mv rfl) rfl ?_
                    refine Ops.r (Run.mv rfl) rfl ?_
                    refine Ops.cl (Enters.fn (evs.cons rfl (evs.cons rfl (evs.cons rfl evs.nil))) Try.call30) (rtokens_spec (if e10 = 0 then T else .error e10) .ok gx Ab B1 B2 cb d1 d2 n1 n2 (8 * bs.length + 1) la2 lb2 (ofB bs) p10 A9 c9 o9 m e10 _ hab10 hda10 hG11 (by omega) hX10) rfl ?_
                    rintro r w11 ⟨p11, A11, c11, o11, e11, rfl, hX11, hf11, hu11, hG12⟩
                    refine ⟨_, rfl, ?_⟩
                    have hF11 : Stg F e11 (blkK bs m f v1 K (p11, o11)) := by
                      unfold blkB at hF3
                      rw [if_neg (show ¬ v2 = 0 by omega), if_neg (show ¬ v2 = 1 by omega), bnd_assoc] at hF3
                      by_cases h : e10 = 0
                      · subst h
                        rw [if_pos rfl] at hG12
                        have h2 := hF3.right
                        rw [hG10.right, bnd_k] at h2
                        dsimp only at h2
                        rw [← hT] at h2
                        exact Stg.dir (.mk0 h2) hG12
                      · rw [if_neg h] at hG12
                        have h2 := hF3.right
                        rcases hG10 with ⟨_, h3⟩ | ⟨h3, _⟩
                        · rw [h3, bnd_e] at h2
                          rcases hG12 with ⟨h4, h5⟩ | ⟨_, h5⟩
                          · injection h5 with h5
                            exact .inl ⟨h4, by rw [h2, h5]⟩
                          · cases h5
                        · exact absurd h3 h
                    have hlt11 : e11 = 0 → p9 ≤ p11 := fun h => by
                      subst h
                      have h5 := hG12.right
                      by_cases h6 : e10 = 0
                      · subst h6
                        rw [if_pos rfl, hT] at h5
                        obtain ⟨h7, h8, h9, h10⟩ := dynF_le hX9.2.2.2.1 hG10.right
                        have h11 := (tokensF_le (newE_good h9).2 (newE_good h10).2 _ _ _ _ h8 h5).1
                        dsimp only at h7 h11
                        omega
                      · rw [if_neg h6] at h5
                        cases h5
                    have hfr11 : Frm [] w w11 := hfr10.trans hf11 (fun x hx => .inr (by
                      rcases List.mem_cons.1 hx with h6 | hx
                      · omega
                      · exact hu9 x hx))
                    refine Ops.nil ?_
                    refine blockQ_n (thenQ_n ⟨(f, p11, A11, c11, o11, e11, v1), (.cons rfl (.cons rfl .nil)), ?_, ?_⟩)
                    · skip
                      exact ⟨hX11, hfr11, fun y hy => (hu11 y hy).elim (hu9 y) (fun h => by omega), hF11, fun h => by have := hlt11 h; dsimp only; omega⟩
                    · skip
                      dsimp only
                      rw [if_pos rfl]
                      by_cases h : e11 = 0
                      · have := hlt11 h; rw [if_pos h]; omega
                      · rw [if_neg h]; omega
                  · skip
                    obtain ⟨hF12, hlt12⟩ : Stg F e9 (blkK bs m f v1 K (p9, o9)) ∧ (e9 = 0 → p2 ≤ p9) := by
                      by_cases h : v2 ≤ 1
                      · exact hA9 h
                      · have h9 := hB9 (by omega)
                        simp only [Prod.mk.injEq] at h9
                        obtain ⟨rfl, rfl, rfl, rfl, rfl⟩ := h9
                        exact ⟨hF3.left (fun h2 => by have := hev h2; omega), fun _ => Nat.le_refl _⟩
                    refine VC.skip ?_
                    refine blockQ_n (thenQ_n ⟨(f, p9, A9, c9, o9, e9, v1), (.cons rfl (.cons rfl .nil)), ?_, ?_⟩)
                    · skip
                      exact ⟨hX9, hfr9, hu9, hF12, fun h => by have := hlt12 h; dsimp only; omega⟩
                    · skip
                      dsimp only
                      rw [if_pos rfl]
                      by_cases h : e9 = 0
                      · have := hlt12 h; rw [if_pos h]; omega
                      · rw [if_neg h]; omega
        · skip
          refine VC.exit ?_
          refine thenQ_x (thenQ_x (blockQ_x ?_))
          refine thenQ_n ⟨(q, A2, c2, o, e0), (.cons rfl .nil), ?_⟩
          refine ⟨hX, hfr, ?_⟩
          by_cases h : e0 = 0
          · unfold blkK at hF
            rw [if_neg (fun h2 => hc2 ⟨h2, h⟩)] at hF
            exact hF
          · exact hF.left h
    · skip
      rintro ⟨q, A2, c2, o, e9⟩ w9 ⟨hX9, hfr9, hF9⟩ Γ hΓ
      dsimp only at hX9 hfr9 hF9 hΓ
      subst hK
      have hd := Drawn.drew w9
      have hX9d := hX9.frm0 hd.frm
      have hfr9d := hfr9.drawn hd
      have hpq := hX9.2.2.2.1
      have hstr : Rd w9.drew 1 A2 o.length (U8 (o.map UInt8.ofNat)) := by rw [← NB_U8 o hX9d.2.2.2.2.2.2.2]; exact hX9d.2.2.1.rd
      refine thenQ_n (VC.sub _ hΓ ?_)
      refine VC.seq ?_
      refine VC.seq ?_
      refine VC.region ?_
      refine Ops.r (Run.mv rfl) rfl ?_
      refine Ops.r (Run.nilck rfl) rfl ?_
      refine Ops.r (Run.fieldAddr rfl Try.underlying56 rfl Try.sizeOf3 (by decide)) rfl ?_
      refine Ops.r (Run.load rfl Try.isAgg3 (hX9.1.cell 4)) rfl ?_
      refine Ops.r (Run.bin rfl rfl (Bin.neqN _ 0)) rfl ?_
      refine Ops.nil ?_
      refine thenQ_n ?_
      refine VC.sub [(7, _), (67, _)] (.cons rfl (.cons rfl .nil)) ?_
      refine VC.condD rfl (fun hc8 => ?_) (fun hc8 => ?_)
      · skip
        refine VC.seq ?_
        refine VC.still (by kernel_rfl) (by kernel_rfl) ?_
        refine SOps.r (Run.mv rfl) rfl ?_
        refine SOps.r (Run.nilck rfl) rfl ?_
        refine SOps.r (Run.fieldAddr rfl Try.underlying56 rfl Try.sizeOf3 (by decide)) rfl ?_
        refine SOps.r (Run.load rfl Try.isAgg3 (hX9d.1.cell 4)) rfl ?_
        refine SOps.r (Run.asg rfl) rfl ?_
        refine SOps.r (v := .int .i64 ((0 : Nat) : Int)) (Run.asg rfl) rfl ?_
        refine SOps.r (Run.asg rfl) rfl ?_
        refine SOps.nil ?_
        refine thenQ_n ?_
        refine VC.sub [(4, _), (5, _), (6, _)] (.cons rfl (.cons rfl (.cons rfl .nil))) ?_
        refine VC.ret ?_
        refine thenQ_r (end3 rfl rfl rfl ?_)
        rcases hF9 with ⟨_, h⟩ | ⟨h, _⟩
        · rw [h]
          exact ⟨hfr9d, rfl⟩
        · exact absurd h hc8
      · skip
        refine VC.skip ?_
        refine thenQ_n ?_
        refine VC.sub [(7, _)] (.cons rfl .nil) ?_
        refine VC.seq ?_
        refine VC.still (by kernel_rfl) (by kernel_rfl) ?_
        refine SOps.r (Run.mv rfl) rfl ?_
        refine SOps.r (Run.nilck rfl) rfl ?_
        refine SOps.r (Run.fieldAddr rfl Try.underlying56 rfl Try.sizeOf22 (by decide)) rfl ?_
        refine SOps.r (Run.load rfl Try.isAgg22 (hX9d.1.cell 2)) rfl ?_
        refine SOps.r (Run.strOf rfl Try.underlying22 Try.underlying5 Try.underlying9 hstr) rfl ?_
        refine SOps.r (Run.mv rfl) rfl ?_
        refine SOps.r (Run.nilck rfl) rfl ?_
        refine SOps.r (Run.fieldAddr rfl Try.underlying56 rfl Try.sizeOf3 (by decide)) rfl ?_
        refine SOps.r (Run.load rfl Try.isAgg3 (hX9d.1.cell 1)) rfl ?_
        refine SOps.r (Run.bin rfl rfl (Bin.add_i64 _ 7 (by omega))) rfl ?_
        refine SOps.r (Run.bin rfl rfl (Bin.quo_i64 _ 8 (by omega) (by omega))) rfl ?_
        refine SOps.r (Run.asg rfl) rfl ?_
        refine SOps.r (Run.asg rfl) rfl ?_
        refine SOps.r (v := .int .i64 ((0 : Nat) : Int)) (Run.asg rfl) rfl ?_
        refine SOps.nil ?_
        refine thenQ_n ?_
        refine VC.sub [(4, _), (5, _), (6, _)] (.cons rfl (.cons rfl (.cons rfl .nil))) ?_
        refine VC.ret ?_
        refine end3 rfl rfl rfl ?_
        have he9 : e9 = 0 := by simpa using hc8
        subst he9
        rw [hF9.right]
        exact ⟨hfr9d, rfl⟩

end Go.Proofs.Ytfjhmbgckmhdaaa
