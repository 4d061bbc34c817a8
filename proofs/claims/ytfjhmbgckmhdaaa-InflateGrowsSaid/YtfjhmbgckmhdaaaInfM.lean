/-
  The walks of inflate: the codes of kind 2.
-/
import Derived.Test.YtfjhmbgckmhdaaaInfS
namespace Go.Proofs.Ytfjhmbgckmhdaaa
open Go.RowKit

theorem cutA_0 (A : Option Addr) (c sz : Nat) : cutA A c 0 sz = A := by
  unfold cutA
  split
  · rfl
  · cases A with
    | none => rfl
    | some a => simp [Addr.add]

set_option maxRecDepth 100000 in
theorem imore_spec (gx gr p gd : Nat) (Ar A Bd : Option Addr) (cd : Nat) (l : List Int) (bs : List Nat) (c : Nat) (out : List Nat) (most : Nat) (Al : Option Addr) (cl : Nat) (all : List Int) (M : Nat) (w : World) (hl : l.length ≤ 320) (hm : mostC l ≤ 15) (hbs : bs.length ≤ 1000000) (hB : ∀ b ∈ bs, b < 256) (hM : M ≤ 1000) (hal : all.length ≤ M) (hX : IsX w gx gr Ar bs p A c out most)
    (hD : IsD w gd Bd cd (cn l) (fst' l) (order l) (mostC l)) (hO : Own w 3 1 Al all.length cl (IB all)) :
    Calls Try.prog 52 #[.pointer (some ⟨gx, 0, none⟩), .pointer (some ⟨gd, 0, none⟩), .slice Al all.length cl, .int .i64 ((M : Nat) : Int)] w fun e w' => Frm (gr :: ob Al) w w' ∧ match moreF (ofB bs) l p all M with
      | .error k => e = .panicked (Pan k)
      | .ok x => ∃ A' c', e = .returned (.slice A' x.2.length c') ∧ IsX w' gx gr Ar bs x.1 A c out most ∧ Own w' 3 1 A' x.2.length c' (IB x.2) ∧ ∀ y ∈ ob A', y ∈ ob Al ∨ w.heap.size ≤ y := by
  generalize hF : moreF (ofB bs) l p all M = F
  unfold moreF at hF
  have hgrl : gr ∉ ob Al := hO.ne_blk hX.2.1.choose_spec.1 (by decide)
  have hgxl : gx ∉ ob Al := hO.ne_blk hX.1 (by decide)
  have hlA : ∀ x ∈ ob A, x ∉ ob Al := hX.2.2.1.ne_own hO (by decide)
  have hlAr : ∀ x ∈ ob Ar, x ∉ ob Al := hX.2.1.choose_spec.2.ne_own hO (by decide)
  have hS0 : ∀ x ∈ gx :: gr :: (ob A ++ ob Ar), x ∉ ob Al := fun x hx => by
    rcases List.mem_cons.1 hx with rfl | hx
    · exact hgxl
    rcases List.mem_cons.1 hx with rfl | hx
    · exact hgrl
    rcases List.mem_append.1 hx with hx | hx
    · exact hlA x hx
    · exact hlAr x hx
  refine VC.calls (nt := 58) (res := #[.tmp 8]) Try.func52 rfl Try.ntmps52 Try.results52 rfl ?_
  refine VC.seq ?_
  refine VC.region ?_
  refine Ops.r (Run.asg rfl) rfl ?_
  refine Ops.nil ?_
  refine thenQ_n ?_
  refine VC.sub [(0, _), (1, _), (2, _), (3, _)] (.cons rfl (.cons rfl (.cons rfl (.cons rfl .nil)))) ?_
  refine VC.seq ?_
  refine VC.region ?_
  refine Ops.r (Run.mv rfl) rfl ?_
  refine Ops.r (Run.mv rfl) rfl ?_
  refine Ops.clp (Enters.fn (evs.cons rfl (evs.cons rfl evs.nil)) Try.call57) (isym_spec gx gr p gd Ar A _ _ l bs c out most _ hl hm hbs hB hX hD) rfl ?_
  rintro e w1 ⟨hf1, he⟩
  have hfr1 := hf1
  rcases hT1 : symF (ofB bs) l p with kk | ⟨v1, p1⟩
  · rw [hT1] at he
    simp only [hT1, bnd_e] at hF
    subst hF
    exact .inr ⟨_, he, thenQ_p (endQ_p ⟨hfr1.mono (by simp), rfl⟩)⟩
  rw [hT1] at he
  simp only [hT1, bnd_k] at hF
  obtain ⟨rfl, hX1⟩ := he
  obtain ⟨hp1, hpl1, hv1⟩ := symF_ok hm (by rw [ofB_len]; exact hX.2.2.2.2.1) hT1
  refine .inl ⟨_, rfl, ?_⟩
  have hO1 := hO.frm hf1 (fun x hx h5 => hgrl (by simp at h5; subst h5; exact hx))
  rw [ofB_len] at hpl1
  refine Ops.r (Run.asg rfl) rfl ?_
  refine Ops.nil ?_
  refine thenQ_n ?_
  refine VC.sub [(0, _), (2, _), (3, _), (9, _)] (.cons rfl (.cons rfl (.cons rfl (.cons rfl .nil)))) ?_
  refine VC.seq ?_
  refine VC.region ?_
  refine Ops.r (Run.mv rfl) rfl ?_
  refine Ops.r (Run.asg rfl) rfl ?_
  refine Ops.r (v := .int .i64 ((1 : Nat) : Int)) (Run.asg rfl) rfl ?_
  refine Ops.nil ?_
  refine thenQ_n ?_
  refine VC.sub [(0, _), (2, _), (3, _), (9, _), (10, _), (11, _)] (.cons rfl (.cons rfl (.cons rfl (.cons rfl (.cons rfl (.cons rfl .nil)))))) ?_
  refine VC.seq ?_
  refine VC.seq ?_
  refine VC.region ?_
  refine Ops.r (Run.mv rfl) rfl ?_
  refine Ops.nil ?_
  refine thenQ_n ?_
  refine VC.sub [(0, _), (2, _), (3, _), (10, _), (11, _), (16, _)] (.cons rfl (.cons rfl (.cons rfl (.cons rfl (.cons rfl (.cons rfl .nil)))))) ?_
  refine VC.block ?_
  refine VC.seq ?_
  refine VC.region ?_
  refine Ops.r (Run.bin rfl rfl (Bin.eqlN _ 16)) rfl ?_
  refine Ops.r (Run.asg rfl) rfl ?_
  refine Ops.nil ?_
  refine thenQ_n ?_
  refine VC.sub [(0, _), (2, _), (3, _), (10, _), (11, _), (16, _), (17, _)] (.cons rfl (.cons rfl (.cons rfl (.cons rfl (.cons rfl (.cons rfl (.cons rfl .nil))))))) ?_
  refine VC.meet (σ := Nat × Int × Nat) (fun s => [(2, .slice Al all.length cl), (3, .int .i64 ((M : Nat) : Int)), (10, .int .i64 s.2.1), (11, .int .i64 ((s.2.2 : Nat) : Int))]) (fun s wr => IsX wr gx gr Ar bs s.1 A c out most ∧ Frm [gr] w wr ∧ (if M < all.length + s.2.2 then .error 11 else .ok (s.1, all ++ List.replicate s.2.2 s.2.1)) = F ∧ s.2.2 ≤ 200) ?_ ?_
  · skip
    refine VC.condD rfl (fun hc1 => ?_) (fun hc1 => ?_)
    · skip
      rw [if_pos hc1] at hF
      refine VC.seq ?_
      refine VC.region ?_
      refine Ops.r (Run.mv rfl) rfl ?_
      refine Ops.r (Run.lenS rfl Try.underlying37) rfl ?_
      refine Ops.r (Run.bin rfl rfl (Bin.gtrN _ 0)) rfl ?_
      refine Ops.clp (Enters.fn (evs.cons rfl (evs.cons rfl evs.nil)) Try.call35) (need_spec (decide (0 < all.length)) 11 _) rfl ?_
      rintro e _ ⟨rfl, rfl⟩
      by_cases hN1 : 0 < all.length
      rotate_left
      · refine .inr ⟨_, by rw [if_neg (by simpa using hN1)], thenQ_p (thenQ_p (blockQ_p (thenQ_p (endQ_p ?_))))⟩
        rw [if_pos (by omega), bnd_e] at hF
        subst hF
        exact ⟨hfr1.mono (by simp), rfl⟩
      refine .inl ⟨_, by rw [if_pos (by simpa using hN1)], ?_⟩
      rw [if_neg (by omega)] at hF
      have hal2 : all.length - 1 < all.length := by omega
      obtain ⟨adl, rfl, hcl⟩ := IB_at hO1.rd hal2
      have hgetD : all.getD (all.length - 1) 0 = all[all.length - 1] := by simp [List.getD, List.getElem?_eq_getElem hal2]
      rw [hgetD] at hF
      generalize all[all.length - 1] = xl at *
      have hgla : adl.block ≠ gr := fun h => hgrl (by simp [ob, h])
      refine Ops.nil ?_
      refine thenQ_n ?_
      refine VC.sub [(0, _), (2, _), (3, _)] (.cons rfl (.cons rfl (.cons rfl .nil))) ?_
      refine VC.held (fun v => v.cell? (adl.add (all.length - 1)) = some (.int .i64 xl)) (by kernel_rfl) ?_
      have hd1 := Drawn.drew w1
      have hX1d := hX1.frm0 hd1.frm
      have hfr1d := hfr1.drawn hd1
      have hS : (fun v : World => v.cell? (adl.add (all.length - 1)) = some (.int .i64 xl)) w1.drew := hcl
      refine HOps.take 0 rfl (by kernel_rfl) (by kernel_rfl) (by kernel_rfl) hS (fun w0 hw0 => Run.mv rfl) trivial rfl rfl ?_
      refine HOps.take 1 rfl (by kernel_rfl) (by kernel_rfl) (by kernel_rfl) hS (fun w0 hw0 => Run.mv rfl) trivial rfl rfl ?_
      refine HOps.take 2 rfl (by kernel_rfl) (by kernel_rfl) (by kernel_rfl) hS (fun w0 hw0 => Run.lenS rfl Try.underlying37) trivial rfl rfl ?_
      refine HOps.take 3 rfl (by kernel_rfl) (by kernel_rfl) (by kernel_rfl) hS (fun w0 hw0 => Run.bin rfl rfl (Bin.sub_i64 _ 1 (by omega) (by omega))) trivial rfl rfl ?_
      refine HOps.take 4 rfl (by kernel_rfl) (by kernel_rfl) (by kernel_rfl) hS (fun w0 hw0 => Run.index1 _ rfl rfl Try.underlying37 Try.sizeOf3 (by omega)) trivial rfl rfl ?_
      refine HOps.take 5 rfl (by kernel_rfl) (by kernel_rfl) (by kernel_rfl) hS (fun w0 hw0 => Run.load rfl Try.isAgg3 hw0) trivial rfl rfl ?_
      refine HOps.take 6 rfl (by kernel_rfl) (by kernel_rfl) (by kernel_rfl) hS (fun w0 hw0 => Run.mv rfl) trivial rfl rfl ?_
      refine HOps.clp 7 rfl (by kernel_rfl) (Enters.fn (evs.cons rfl (evs.cons rfl evs.nil)) Try.call34) (itake_spec gx gr 2 p1 Ar A bs c out most _ (by omega) hbs hB hX1d) trivial rfl rfl ?_
      rintro e w2 ⟨hf2, he⟩
      have hfr2 := hfr1d.trans hf2 (fun x hx => .inl hx)
      rcases hT2 : takeF (ofB bs) 2 p1 with kk | ⟨v2, p2⟩
      · rw [hT2] at he
        simp only [hT2, bnd_e] at hF
        subst hF
        exact .inr ⟨_, he, thenQ_p (blockQ_p (thenQ_p (endQ_p ⟨hfr2.mono (by simp), rfl⟩)))⟩
      rw [hT2] at he
      simp only [hT2, bnd_k] at hF
      obtain ⟨rfl, hX2⟩ := he
      obtain ⟨hp2, hpl2, hv2, _⟩ := takeF_ok hT2
      have hS : (fun v : World => v.cell? (adl.add (all.length - 1)) = some (.int .i64 xl)) w2 := hf2.cell hcl (by rw [block_add]; simp; exact hgla)
      refine .inl ⟨_, rfl, hS, ?_⟩
      refine HOps.take 8 rfl (by kernel_rfl) (by kernel_rfl) (by kernel_rfl) hS (fun w0 hw0 => Run.bin rfl rfl (Bin.add_i64 3 _ (by omega))) trivial rfl rfl ?_
      refine HOps.take 9 rfl (by kernel_rfl) (by kernel_rfl) (by kernel_rfl) hS (fun w0 hw0 => Run.asg rfl) trivial rfl rfl ?_
      refine HOps.take 10 rfl (by kernel_rfl) (by kernel_rfl) (by kernel_rfl) hS (fun w0 hw0 => Run.asg rfl) trivial rfl rfl ?_
      refine HOps.done (by kernel_rfl) ?_
      refine thenQ_n ⟨(p2, xl, 3 + v2), (.cons rfl (.cons rfl (.cons rfl (.cons rfl .nil)))), ?_⟩
      exact ⟨hX2, hfr2, hF, by dsimp only; omega⟩
    · skip
      rw [if_neg hc1] at hF
      refine VC.seq ?_
      refine VC.region ?_
      refine Ops.r (Run.bin rfl rfl (Bin.eqlN _ 17)) rfl ?_
      refine Ops.r (Run.asg rfl) rfl ?_
      refine Ops.nil ?_
      refine thenQ_n ?_
      refine VC.sub [(0, _), (2, _), (3, _), (10, _), (11, _), (16, _), (32, _)] (.cons rfl (.cons rfl (.cons rfl (.cons rfl (.cons rfl (.cons rfl (.cons rfl .nil))))))) ?_
      refine VC.condD rfl (fun hc2 => ?_) (fun hc2 => ?_)
      · skip
        rw [if_pos hc2] at hF
        refine VC.region ?_
        refine Ops.r (Run.mv rfl) rfl ?_
        refine Ops.clp (Enters.fn (evs.cons rfl (evs.cons rfl evs.nil)) Try.call34) (itake_spec gx gr 3 p1 Ar A bs c out most _ (by omega) hbs hB hX1) rfl ?_
        rintro e w2 ⟨hf2, he⟩
        have hfr2 := hfr1.trans hf2 (fun x hx => .inl hx)
        rcases hT2 : takeF (ofB bs) 3 p1 with kk | ⟨v2, p2⟩
        · rw [hT2] at he
          simp only [hT2, bnd_e] at hF
          subst hF
          exact .inr ⟨_, he, thenQ_p (blockQ_p (thenQ_p (endQ_p ⟨hfr2.mono (by simp), rfl⟩)))⟩
        rw [hT2] at he
        simp only [hT2, bnd_k] at hF
        obtain ⟨rfl, hX2⟩ := he
        obtain ⟨hp2, hpl2, hv2, _⟩ := takeF_ok hT2
        refine .inl ⟨_, rfl, ?_⟩
        refine Ops.r (Run.bin rfl rfl (Bin.add_i64 3 _ (by omega))) rfl ?_
        refine Ops.r (v := .int .i64 ((0 : Nat) : Int)) (Run.asg rfl) rfl ?_
        refine Ops.r (Run.asg rfl) rfl ?_
        refine Ops.nil ?_
        refine thenQ_n ⟨(p2, 0, 3 + v2), (.cons rfl (.cons rfl (.cons rfl (.cons rfl .nil)))), ?_⟩
        exact ⟨hX2, hfr2, hF, by dsimp only; omega⟩
      · skip
        rw [if_neg hc2] at hF
        refine VC.seq ?_
        refine VC.region ?_
        refine Ops.r (Run.bin rfl rfl (Bin.eqlN _ 18)) rfl ?_
        refine Ops.r (Run.asg rfl) rfl ?_
        refine Ops.nil ?_
        refine thenQ_n ?_
        refine VC.sub [(0, _), (2, _), (3, _), (10, _), (11, _), (37, _)] (.cons rfl (.cons rfl (.cons rfl (.cons rfl (.cons rfl (.cons rfl .nil)))))) ?_
        refine VC.condD rfl (fun hc3 => ?_) (fun hc3 => ?_)
        · skip
          rw [if_pos hc3] at hF
          refine VC.region ?_
          refine Ops.r (Run.mv rfl) rfl ?_
          refine Ops.clp (Enters.fn (evs.cons rfl (evs.cons rfl evs.nil)) Try.call34) (itake_spec gx gr 7 p1 Ar A bs c out most _ (by omega) hbs hB hX1) rfl ?_
          rintro e w2 ⟨hf2, he⟩
          have hfr2 := hfr1.trans hf2 (fun x hx => .inl hx)
          rcases hT2 : takeF (ofB bs) 7 p1 with kk | ⟨v2, p2⟩
          · rw [hT2] at he
            simp only [hT2, bnd_e] at hF
            subst hF
            exact .inr ⟨_, he, thenQ_p (blockQ_p (thenQ_p (endQ_p ⟨hfr2.mono (by simp), rfl⟩)))⟩
          rw [hT2] at he
          simp only [hT2, bnd_k] at hF
          obtain ⟨rfl, hX2⟩ := he
          obtain ⟨hp2, hpl2, hv2, _⟩ := takeF_ok hT2
          refine .inl ⟨_, rfl, ?_⟩
          refine Ops.r (Run.bin rfl rfl (Bin.add_i64 11 _ (by omega))) rfl ?_
          refine Ops.r (v := .int .i64 ((0 : Nat) : Int)) (Run.asg rfl) rfl ?_
          refine Ops.r (Run.asg rfl) rfl ?_
          refine Ops.nil ?_
          refine thenQ_n ⟨(p2, 0, 11 + v2), (.cons rfl (.cons rfl (.cons rfl (.cons rfl .nil)))), ?_⟩
          exact ⟨hX2, hfr2, hF, by dsimp only; omega⟩
        · skip
          rw [if_neg hc3, bnd_k] at hF
          refine VC.skip ?_
          refine thenQ_n ⟨(p1, (v1 : Int), 1), (.cons rfl (.cons rfl (.cons rfl (.cons rfl .nil)))), ?_⟩
          exact ⟨hX1, hfr1, hF, by dsimp only; omega⟩
  · skip
    clear hF
    rintro ⟨p2, n, times⟩ w2 ⟨hX2, hfr2, hF, ht⟩ Γ hΓ
    dsimp only at hX2 hfr2 hF ht
    have hO2 := hO.frm hfr2 (fun x hx h5 => hgrl (by simp at h5; subst h5; exact hx))
    have hsz2 := hfr2.size
    refine blockQ_n (thenQ_n (VC.sub _ hΓ ?_))
    refine VC.seq ?_
    refine VC.region ?_
    refine Ops.r (Run.mv rfl) rfl ?_
    refine Ops.r (Run.mv rfl) rfl ?_
    refine Ops.r (Run.mv rfl) rfl ?_
    refine Ops.r (Run.lenS rfl Try.underlying37) rfl ?_
    refine Ops.r (Run.bin rfl rfl (Bin.sub_i64 _ _ (by omega) (by omega))) rfl ?_
    refine Ops.r (Run.bin rfl rfl (Bin.leqN _ _)) rfl ?_
    refine Ops.clp (Enters.fn (evs.cons rfl (evs.cons rfl evs.nil)) Try.call35) (need_spec (decide (times ≤ M - all.length)) 11 _) rfl ?_
    rintro e _ ⟨rfl, rfl⟩
    by_cases hN2 : times ≤ M - all.length
    rotate_left
    · refine .inr ⟨_, by rw [if_neg (by simpa using hN2)], thenQ_p (endQ_p ?_)⟩
      rw [if_pos (by omega)] at hF
      subst hF
      exact ⟨hfr2.mono (by simp), rfl⟩
    refine .inl ⟨_, by rw [if_pos (by simpa using hN2)], ?_⟩
    rw [if_neg (by omega)] at hF
    refine Ops.nil ?_
    refine thenQ_n ?_
    refine VC.sub [(2, _), (10, _), (11, _)] (.cons rfl (.cons rfl (.cons rfl .nil))) ?_
    refine VC.seq ?_
    refine VC.seq ?_
    refine VC.region ?_
    refine Ops.r (Run.mv rfl) rfl ?_
    refine Ops.r (v := .int .i64 ((0 : Nat) : Int)) (Run.mv rfl) rfl ?_
    refine Ops.nil ?_
    refine thenQ_n ?_
    refine VC.sub [(2, _), (10, _), (49, _), (50, _)] (.cons rfl (.cons rfl (.cons rfl (.cons rfl .nil)))) ?_
    refine VC.block ?_
    refine VC.loop (σ := Nat × Option Addr × Nat) (fun s => [(2, .slice s.2.1 (all.length + s.1) s.2.2), (10, .int .i64 n), (49, .int .i64 ((times : Nat) : Int)), (50, .int .i64 ((s.1 : Nat) : Int))]) (fun s wr => s.1 ≤ times ∧ Own wr 3 1 s.2.1 (all.length + s.1) s.2.2 (IB (all ++ List.replicate s.1 n)) ∧ Frm (ob Al) w2 wr ∧ ∀ x ∈ ob s.2.1, x ∈ ob Al ∨ w2.heap.size ≤ x) (fun s => times - s.1) (0, Al, cl) (.cons rfl (.cons rfl (.cons rfl (.cons rfl .nil)))) ⟨by omega, by simpa using hO2, Frm.refl _ _, fun x hx => .inl hx⟩ ?_
    rintro ⟨i, B, d⟩ wr ⟨hi, hor, hfr, hu⟩
    dsimp only at hi hor hfr hu ⊢
    refine VC.seq ?_
    refine VC.region ?_
    refine Ops.r (Run.bin rfl rfl (Bin.lssN _ _)) rfl ?_
    refine Ops.nil ?_
    refine thenQ_n ?_
    refine VC.seq ?_
    refine VC.condD rfl (fun hc4 => ?_) (fun hc4 => ?_)
    · skip
      refine VC.skip ?_
      refine thenQ_n ?_
      refine VC.sub [(2, _), (10, _), (49, _), (50, _)] (.cons rfl (.cons rfl (.cons rfl (.cons rfl .nil)))) ?_
      refine VC.seq ?_
      refine VC.block ?_
      refine VC.region ?_
      refine Ops.r (Run.mv rfl) rfl ?_
      refine Ops.r (Run.mv rfl) rfl ?_
      refine Ops.m (Does.buildS1 rfl Try.underlying37 Try.sizeOf3 zero3 (by decide) (by decide) rfl rfl) rfl ?_
      rintro _ w3 ⟨rfl, hF3⟩
      have hrd3 : Rd w3 1 (some ⟨_, 0, none⟩) 1 [.int .i64 n] := Rd.of_blk (n := 1) (size := 1) hF3.blk rfl
      refine Ops.m (Does.app rfl rfl Try.underlying37 (info3) rfl (by decide) (hor.frm hF3.frm (by simp)) hrd3 (by simp [Value.oneCell']) (by omega) (by omega)) rfl ?_
      rintro _ w4 ⟨B4, c4, rfl, ho4, hf4, hob4⟩
      have hs3 := hfr.size
      have hs4 := hF3.frm.size
      have hfr4 : Frm (ob Al) w2 w4 := (hfr.trans hF3.frm (by simp)).trans hf4 (fun x hx => (hu x hx))
      refine Ops.r (Run.asg rfl) rfl ?_
      refine Ops.nil ?_
      refine blockQ_n (thenQ_n ?_)
      refine VC.sub [(2, _), (10, _), (49, _), (50, _)] (.cons rfl (.cons rfl (.cons rfl (.cons rfl .nil)))) ?_
      refine VC.region ?_
      refine Ops.r (Run.bin rfl rfl (Bin.add_i64 _ 1 (by omega))) rfl ?_
      refine Ops.r (Run.mv rfl) rfl ?_
      refine Ops.nil ?_
      refine thenQ_n ⟨(i + 1, B4, c4), (.cons rfl (.cons rfl (.cons rfl (.cons rfl .nil)))), ?_, ?_⟩
      · skip
        refine ⟨by dsimp only; omega, ?_, hfr4, fun x hx => ?_⟩
        · dsimp only
          rw [List.replicate_succ', ← List.append_assoc, IB_snoc]
          exact ho4
        · rcases hob4 with h6 | h6 <;> rw [h6] at hx
          · exact hu x hx
          · simp at hx; exact .inr (by omega)
      · skip
        first | omega | (dsimp only; omega)
    · skip
      have hit : i = times := by omega
      subst hit
      refine VC.exit ?_
      refine thenQ_x (thenQ_x (blockQ_x ?_))
      refine thenQ_n ?_
      refine VC.sub [(2, _)] (.cons rfl .nil) ?_
      refine VC.seq ?_
      refine VC.region ?_
      refine Ops.r (Run.mv rfl) rfl ?_
      refine Ops.r (Run.asg rfl) rfl ?_
      refine Ops.nil ?_
      refine thenQ_n ?_
      refine VC.sub [(8, _)] (.cons rfl .nil) ?_
      refine VC.ret ?_
      refine end1 rfl ?_
      subst hF
      refine ⟨(hfr2.mono (T := gr :: ob Al) (by simp)).trans hfr (fun x hx => .inl (by simp [hx])), B, d, ?_, hX2.frm hfr hS0, ?_, fun x hx => (hu x hx).imp id (fun h => Nat.le_trans hsz2 h)⟩
      · rw [List.length_append, List.length_replicate]
      · rw [List.length_append, List.length_replicate]; exact hor

end Go.Proofs.Ytfjhmbgckmhdaaa
