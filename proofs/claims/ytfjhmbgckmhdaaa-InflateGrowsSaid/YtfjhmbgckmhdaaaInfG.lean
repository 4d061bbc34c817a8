/-
  The walk of Inflate.
-/
import Derived.Test.YtfjhmbgckmhdaaaInfI
namespace Go.Proofs.Ytfjhmbgckmhdaaa
open Go.RowKit

set_option maxRecDepth 100000 in
theorem infl_spec (B : Option Addr) (c0 : Nat) (bs : List Nat) (most : Int) (w : World) (hmo : most ≤ 1000000) (hbs : bs.length ≤ 1000000) (hB : ∀ b ∈ bs, b < 256) (hr : Rd w 1 B bs.length (NB bs)) :
    Calls Try.prog 10 #[.slice B bs.length c0, .int .i64 most] w fun e w' => Frm [] w w' ∧ match inflF bs most with
      | .error k => e = .returned (.tuple #[.slice none 0 0, .int .i64 ((0 : Nat) : Int), .int .i64 ((k : Nat) : Int)])
      | .ok x => ∃ A' c', e = .returned (.tuple #[.slice A' x.1.length c', .int .i64 ((x.2 : Nat) : Int), .int .i64 ((0 : Nat) : Int)]) ∧ Own w' 5 1 A' x.1.length c' (NB x.1) ∧ (∀ y ∈ ob A', w.heap.size ≤ y) ∧ (∀ y ∈ x.1, y < 256) ∧ (x.1.length : Int) ≤ most ∧ x.2 ≤ bs.length := by
  generalize hF : inflF bs most = F
  unfold inflF at hF
  refine LW.calls (nt := 29) Try.func10 rfl Try.ntmps10 rfl ?_
  refine LW.seq ?_
  refine VC.region ?_
  refine Ops.m (Does.alloc zero22) rfl ?_
  rintro _ w1 ⟨rfl, hF1⟩
  refine Ops.m (Does.alloc zero3) rfl ?_
  rintro _ w2 ⟨rfl, hF2⟩
  refine Ops.m (Does.alloc zero25) rfl ?_
  rintro _ w3 ⟨rfl, hF3⟩
  have hO : IsO w3 w.heap.size w1.heap.size w2.heap.size (.slice none 0 0) (.int .i64 ((0 : Nat) : Int)) (.int .i64 ((0 : Nat) : Int)) := ⟨(hF1.blk.frm hF2.frm (by simp)).frm hF3.frm (by simp), hF2.blk.frm hF3.frm (by simp), hF3.blk⟩
  have hfr3 : Frm [] w w3 := (hF1.frm.trans hF2.frm (by simp)).trans hF3.frm (by simp)
  have hge5 := hF1.frm.size
  have hge6 := Nat.le_trans hge5 hF2.frm.size
  have hr3 := ((hr.frm hF1.frm (by simp)).frm hF2.frm (by simp)).frm hF3.frm (by simp)
  generalize hg5 : w1.heap.size = g5 at hO hge5 ⊢
  generalize hg6 : w2.heap.size = g6 at hO hge6 ⊢
  generalize hg4 : w.heap.size = g4 at hO ⊢
  have hge4 : w.heap.size ≤ g4 := by omega
  obtain ⟨hn1, hn2, hn3⟩ := hO.ne
  refine Ops.nil ?_
  refine thenQ_n ?_
  refine LW.seq ?_
  refine VC.seq ?_
  refine VC.region ?_
  refine Ops.r (Run.mv rfl) rfl ?_
  refine Ops.r (Run.bin rfl rfl (Bin.lss _ 0)) rfl ?_
  refine Ops.nil ?_
  refine thenQ_n ?_
  refine VC.sub [(0, _), (1, _), (4, _), (5, _), (6, _), (9, _)] (.cons rfl (.cons rfl (.cons rfl (.cons rfl (.cons rfl (.cons rfl .nil)))))) ?_
  refine VC.condD rfl (fun hc1 => ?_) (fun hc1 => ?_)
  · skip
    rw [if_pos hc1] at hF
    refine VC.seq ?_
    refine VC.region ?_
    refine Ops.st (Acts.store (i := 0) (v := .slice none 0 0) rfl rfl Try.sizeOf22 hO.1 rfl rfl) ?_
    rintro w4 ⟨hb4, hf4, hs4⟩
    refine Ops.st (Acts.store (i := 0) (v := .int .i64 ((0 : Nat) : Int)) rfl rfl Try.sizeOf3 (hO.2.1.frm hf4 (by simp; omega)) rfl rfl) ?_
    rintro w5 ⟨hb5, hf5, hs5⟩
    refine Ops.st (Acts.store (i := 0) (v := .int .i64 ((1 : Nat) : Int)) rfl rfl Try.sizeOf25 ((hO.2.2.frm hf4 (by simp; omega)).frm hf5 (by simp; omega)) rfl rfl) ?_
    rintro w6 ⟨hb6, hf6, hs6⟩
    refine Ops.nil ?_
    refine thenQ_n ?_
    refine VC.sub [(4, _), (5, _), (6, _)] (.cons rfl (.cons rfl (.cons rfl .nil))) ?_
    refine VC.ret ?_
    refine thenQ_r (upL_ret0 Try.results10 ?_)
    refine endR ?_
    refine res_cell rfl Try.isAgg22 (((hb4.frm hf5 (by simp; omega)).frm hf6 (by simp; omega)).cell 0) ?_
    refine res_cell rfl Try.isAgg3 ((hb5.frm hf6 (by simp; omega)).cell 0) ?_
    refine res_cell rfl Try.isAgg25 (hb6.cell 0) ?_
    refine res_nil ?_
    subst hF
    exact ⟨((hfr3.trans hf4 (fun x hx => .inr (by simp at hx; omega))).trans hf5 (fun x hx => .inr (by simp at hx; omega))).trans hf6 (fun x hx => .inr (by simp at hx; omega)), rfl⟩
  · skip
    rw [if_neg hc1] at hF
    obtain ⟨m, rfl⟩ : ∃ m : Nat, most = m := ⟨most.toNat, by omega⟩
    simp only [Int.toNat_natCast] at hF
    generalize hG : blocksF bs m (8 * bs.length + 1) 0 [] = G at hF
    refine VC.skip ?_
    refine thenQ_n ?_
    refine LW.dfr (us := [_, _, _]) (Run.mkFunc evs.nil (evs.cons rfl (evs.cons rfl (evs.cons rfl evs.nil)))) rfl rfl rfl rfl rfl rfl rfl ?_
    refine LW.vc ?_
    refine VC.seq ?_
    refine VC.region ?_
    refine Ops.r (Run.mv rfl) rfl ?_
    refine Ops.cl (Enters.fn (evs.cons rfl evs.nil) Try.call23) (read_spec B c0 bs _ (by omega) hr3) rfl ?_
    rintro e w4 ⟨gr, Ar, rfl, hR4, hf4, hA4⟩
    refine ⟨_, rfl, ?_⟩
    have hO4 := hO.frm hf4 (by simp)
    have hfr4 := hfr3.trans hf4 (by simp)
    have hs3 := hfr3.size
    have hs4 := hfr4.size
    refine Ops.r (Run.mv rfl) rfl ?_
    refine Ops.r (Run.build (evs.cons rfl (evs.cons rfl evs.nil)) zero50 (places50).choose_spec.1 (places50).choose_spec.2 rfl) rfl ?_
    refine Ops.m (Does.box rfl) rfl ?_
    rintro _ w5 ⟨rfl, hF5⟩
    have hb5 : Blk w5 w4.heap.size 50 #[.pointer (some ⟨gr, 0, none⟩), .slice none 0 0, .int .i64 ((m : Nat) : Int)] := hF5.blk
    have hO5 := hO4.frm hF5.frm (by simp)
    have hfr5 := hfr4.trans hF5.frm (by simp)
    generalize w4.heap.size = gx at hb5 hs4 ⊢
    have hX5 : IsX w5 gx gr Ar bs 0 none 0 [] m := ⟨hb5, hR4.frm hF5.frm (by simp), Own.nil _ _ _, by simp [ob], by omega, by simp, by simp⟩
    have hgr : w.heap.size ≤ gr := Nat.le_trans hs3 (hA4 gr (by simp))
    refine Ops.r (Run.asg rfl) rfl ?_
    refine Ops.nil ?_
    refine thenQ_n ?_
    refine VC.sub [(4, _), (5, _), (6, _), (7, _)] (.cons rfl (.cons rfl (.cons rfl (.cons rfl .nil)))) ?_
    refine VC.seq ?_
    refine VC.block ?_
    refine VC.loop (σ := Nat × Nat × List Nat × Option Addr × Nat) (fun s => [(4, .pointer (some ⟨g4, 0, none⟩)), (5, .pointer (some ⟨g5, 0, none⟩)), (6, .pointer (some ⟨g6, 0, none⟩)), (7, .pointer (some ⟨gx, 0, none⟩))]) (fun s wr => blocksF bs m s.1 s.2.1 s.2.2.1 = G ∧ 8 * bs.length < s.1 + s.2.1 ∧ IsX wr gx gr Ar bs s.2.1 s.2.2.2.1 s.2.2.2.2 s.2.2.1 m ∧ IsO wr g4 g5 g6 (.slice none 0 0) (.int .i64 ((0 : Nat) : Int)) (.int .i64 ((0 : Nat) : Int)) ∧ Frm [] w wr ∧ ∀ y ∈ ob s.2.2.2.1, w.heap.size ≤ y) (fun s => 8 * bs.length + 1 - s.2.1) (8 * bs.length + 1, 0, [], none, 0) (.cons rfl (.cons rfl (.cons rfl (.cons rfl .nil)))) ⟨hG, by dsimp only; omega, hX5, hO5, hfr5, by simp [ob]⟩ ?_
    clear hG hX5
    rintro ⟨f, q, o, A2, c2⟩ wr ⟨hG, hfq, hX, hOr, hfr, hu⟩
    dsimp only at hG hfq hX hOr hfr hu ⊢
    have hp := hX.2.2.2.2.1
    obtain ⟨f, rfl⟩ : ∃ f', f = f' + 1 := ⟨f - 1, by omega⟩
    simp only [blocksF] at hG
    have hsr := hfr.size
    refine VC.seq ?_
    refine VC.seq ?_
    refine VC.region ?_
    refine Ops.r (Run.mv rfl) rfl ?_
    refine Ops.clp (Enters.fn (evs.cons rfl evs.nil) Try.call24) (iblock_spec gx gr q Ar A2 bs c2 o m _ (by omega) hbs hB hX) rfl ?_
    rintro e w1 ⟨hf1, he⟩
    have hfr1 : Frm [] w w1 := hfr.trans hf1 (fun x hx => .inr (by
      rcases List.mem_cons.1 hx with h6 | hx
      · omega
      rcases List.mem_cons.1 hx with h6 | hx
      · omega
      exact hu x hx))
    have hO1 := hOr.frm hf1 (hOr.ofX hX)
    rcases hT : blockF bs m q o with kk | ⟨go, q2, o2⟩
    · rw [hT] at he hG
      simp only [bnd_e] at hG
      subst hG
      simp only [bnd_e] at hF
      subst hF
      refine .inr ⟨_, he, thenQ_p (thenQ_p (thenQ_p (blockQ_p (thenQ_p (upL_panD Try.results10 Try.call22 ?_)))))⟩
      refine (inflP_spec g4 g5 g6 kk _ _ _ _ hO1).mono ?_
      rintro e u w' ⟨hv, hu2, hO', hf'⟩
      exact ⟨hv, hu2, infl_end rfl rfl rfl hO' ⟨hfr1.trans hf' (fun x hx => .inr (by simp at hx; omega)), rfl⟩⟩
    have hlt := blockF_lt hT
    rw [hT] at he hG
    simp only [bnd_k] at hG
    obtain ⟨A3, c3, rfl, hX1, hu1⟩ := he
    dsimp only at hX1 hu1 hG hlt
    have hu3 : ∀ y ∈ ob A3, w.heap.size ≤ y := fun y hy => (hu1 y hy).elim (hu y) (fun h => Nat.le_trans hsr h)
    have hp3 := hX1.2.2.2.2.1
    refine .inl ⟨_, rfl, ?_⟩
    refine Ops.nil ?_
    refine thenQ_n ?_
    refine VC.sub [(4, _), (5, _), (6, _), (7, _), (17, _)] (.cons rfl (.cons rfl (.cons rfl (.cons rfl (.cons rfl .nil))))) ?_
    refine VC.condB rfl (fun hc2 => ?_) (fun hc2 => ?_)
    · skip
      refine VC.skip ?_
      refine thenQ_n ?_
      refine VC.sub [(4, _), (5, _), (6, _), (7, _)] (.cons rfl (.cons rfl (.cons rfl (.cons rfl .nil)))) ?_
      refine VC.block ?_
      refine VC.skip ?_
      refine blockQ_n (thenQ_n ⟨(f, q2, o2, A3, c3), (.cons rfl (.cons rfl (.cons rfl (.cons rfl .nil)))), ?_, ?_⟩)
      · skip
        rw [if_pos hc2] at hG
        exact ⟨hG, by dsimp only; omega, hX1, hO1, hfr1, hu3⟩
      · skip
        dsimp only; omega
    · skip
      rw [if_neg (by simpa using hc2)] at hG
      subst hG
      simp only [bnd_k] at hF
      subst hF
      have hd1 := Drawn.drew w1
      have hX6 := hX1.frm0 hd1.frm
      have hO6 := hO1.frm hd1.frm (by simp)
      have hfr6 := hfr1.drawn hd1
      generalize hw6 : w1.drew = w6 at *
      obtain ⟨hx4, hx5, hx6⟩ := hO6.ofX hX6 gx (by simp)
      refine VC.exit ?_
      refine thenQ_x (thenQ_x (blockQ_x ?_))
      refine thenQ_n ?_
      refine VC.sub [(4, _), (5, _), (6, _), (7, _)] (.cons rfl (.cons rfl (.cons rfl (.cons rfl .nil)))) ?_
      refine VC.seq ?_
      refine VC.held (fun v => Blk v gx 50 #[.pointer (some ⟨gr, 0, none⟩), .slice A3 o2.length c3, .int .i64 ((m : Nat) : Int)]) (by kernel_rfl) ?_
      rw [hw6]
      have hS : (fun v => Blk v gx 50 #[.pointer (some ⟨gr, 0, none⟩), .slice A3 o2.length c3, .int .i64 ((m : Nat) : Int)]) w6 := hX6.1
      refine HOps.take 0 rfl (by kernel_rfl) (by kernel_rfl) (by kernel_rfl) hS (fun w0 hw0 => Run.mv rfl) trivial rfl rfl ?_
      refine HOps.take 1 rfl (by kernel_rfl) (by kernel_rfl) (by kernel_rfl) hS (fun w0 hw0 => Run.nilck rfl) trivial rfl rfl ?_
      refine HOps.take 2 rfl (by kernel_rfl) (by kernel_rfl) (by kernel_rfl) hS (fun w0 hw0 => Run.fieldAddr rfl Try.underlying50 rfl Try.sizeOf22 (by decide)) trivial rfl rfl ?_
      refine HOps.take 3 rfl (by kernel_rfl) (by kernel_rfl) (by kernel_rfl) hS (fun w0 hw0 => Run.load rfl Try.isAgg22 (hw0.cell 1)) trivial rfl rfl ?_
      refine HOps.take 4 rfl (by kernel_rfl) (by kernel_rfl) (by kernel_rfl) hS (fun w0 hw0 => Run.mv rfl) trivial rfl rfl ?_
      refine HOps.take 5 rfl (by kernel_rfl) (by kernel_rfl) (by kernel_rfl) hS (fun w0 hw0 => Run.nilck rfl) trivial rfl rfl ?_
      refine HOps.take 6 rfl (by kernel_rfl) (by kernel_rfl) (by kernel_rfl) hS (fun w0 hw0 => Run.fieldAddr rfl Try.underlying50 rfl Try.sizeOf47 (by decide)) trivial rfl rfl ?_
      refine HOps.take 7 rfl (by kernel_rfl) (by kernel_rfl) (by kernel_rfl) hS (fun w0 hw0 => Run.load rfl Try.isAgg47 (hw0.cell 0)) trivial rfl rfl ?_
      refine HOps.cl 8 rfl (by kernel_rfl) (Enters.fn (evs.cons rfl evs.nil) Try.call25) (at_spec gr q2 Ar bs _ hX6.2.1) trivial rfl rfl ?_
      rintro e _ ⟨rfl, rfl⟩
      refine ⟨_, rfl, hS, ?_⟩
      refine HOps.take 9 rfl (by kernel_rfl) (by kernel_rfl) (by kernel_rfl) hS (fun w0 hw0 => Run.bin rfl rfl (Bin.add_i64 _ 7 (by omega))) trivial rfl rfl ?_
      refine HOps.take 10 rfl (by kernel_rfl) (by kernel_rfl) (by kernel_rfl) hS (fun w0 hw0 => Run.bin rfl rfl (Bin.quo_i64 _ 8 (by omega) (by omega))) trivial rfl rfl ?_
      refine HOps.st 11 rfl (by kernel_rfl) (Acts.store (i := 0) (v := .slice A3 o2.length c3) rfl rfl Try.sizeOf22 hO6.1 rfl rfl) trivial rfl ?_
      rintro w7 ⟨hb7, hf7, hs7⟩
      have hS := Blk.frm hS hf7 (by simp; omega)
      refine ⟨hS, ?_⟩
      refine HOps.st 12 rfl (by kernel_rfl) (Acts.store (i := 0) (v := .int .i64 (((q2 + 7) / 8 : Nat) : Int)) rfl rfl Try.sizeOf3 (hO6.2.1.frm hf7 (by simp; omega)) rfl rfl) trivial rfl ?_
      rintro w8 ⟨hb8, hf8, hs8⟩
      have hS := Blk.frm hS hf8 (by simp; omega)
      refine ⟨hS, ?_⟩
      refine HOps.st 13 rfl (by kernel_rfl) (Acts.store (i := 0) (v := .int .i64 ((0 : Nat) : Int)) rfl rfl Try.sizeOf25 ((hO6.2.2.frm hf7 (by simp; omega)).frm hf8 (by simp; omega)) rfl rfl) trivial rfl ?_
      rintro w9 ⟨hb9, hf9, hs9⟩
      have hS := Blk.frm hS hf9 (by simp; omega)
      refine ⟨hS, ?_⟩
      have hf79 : Frm [g4, g5, g6] w6 w9 := ((hf7.mono (T := [g4, g5, g6]) (by simp)).trans (hf8.mono (T := [g4, g5, g6]) (by simp)) (fun x hx => .inl hx)).trans (hf9.mono (T := [g4, g5, g6]) (by simp)) (fun x hx => .inl hx)
      have hX9 := hX6.frm hf79 (fun x hx h5 => by have := hO6.ofXx hX6 x hx; simp at h5; omega)
      have hfr9 := hfr6.trans hf79 (fun x hx => .inr (by simp at hx; omega))
      refine HOps.done (by kernel_rfl) ?_
      refine thenQ_n ?_
      refine VC.sub [(4, _), (5, _), (6, _)] (.cons rfl (.cons rfl (.cons rfl .nil))) ?_
      refine VC.ret ?_
      refine upL_retD Try.results10 Try.call22 ?_
      refine (inflR_spec g4 g5 g6 _).mono ?_
      rintro e u _ ⟨hv, hu2, rfl⟩
      refine ⟨hv, hu2, ?_⟩
      refine endR ?_
      refine res_cell rfl Try.isAgg22 (((hb7.frm hf8 (by simp; omega)).frm hf9 (by simp; omega)).cell 0) ?_
      refine res_cell rfl Try.isAgg3 ((hb8.frm hf9 (by simp; omega)).cell 0) ?_
      refine res_cell rfl Try.isAgg25 (hb9.cell 0) ?_
      refine res_nil ?_
      exact ⟨hfr9, A3, c3, rfl, hX9.2.2.1, fun y hy => hg4 ▸ hu3 y hy, hX9.2.2.2.2.2.2, by have := hX9.2.2.2.2.2.1; dsimp only; omega, by have := hX9.2.2.2.2.1; dsimp only; omega⟩

end Go.Proofs.Ytfjhmbgckmhdaaa
