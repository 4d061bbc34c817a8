/-
  Lemmas on the way, joined: InfG, InfQ, InfX, InfZ, InfE, InfLT, DefV, Eng19, RefO, DefU, DefT, DefS, LimH, LimW, LimS, LimM, LimN, LimG, LimL, LimT, LimC.
-/
import Derived.Test.YtnmieihcjjiccaaPk2
namespace Go.Proofs.Ytnmieihcjjiccaa
open Go.RowKit
set_option maxRecDepth 100000 in
theorem infl_spec (B : Option Addr) (c0 : Nat) (bs : List Nat) (most : Int) (w : World) (hmo : most ≤ 1000000) (hbs : bs.length ≤ 1000000) (hB : ∀ b ∈ bs, b < 256) (hr : Rd w 1 B bs.length (NB bs)) :
  Calls Try.prog 48 #[.slice B bs.length c0, .int .i64 most] w fun e w' => Frm [] w w' ∧ match inflF bs most with
   | .error k => e = .returned (.tuple #[.slice none 0 0, .int .i64 ((0 : Nat) : Int), .int .i64 ((k : Nat) : Int)])
   | .ok x => ∃ A' c', e = .returned (.tuple #[.slice A' x.1.length c', .int .i64 ((x.2 : Nat) : Int), .int .i64 ((0 : Nat) : Int)]) ∧ Own w' 5 1 A' x.1.length c' (NB x.1) ∧ (∀ y ∈ ob A', w.heap.size ≤ y) ∧ (∀ y ∈ x.1, y < 256) ∧ (x.1.length : Int) ≤ most ∧ x.2 ≤ bs.length := by
 generalize hF : inflF bs most = F
 unfold inflF at hF
 refine LW.calls (nt := 29) Try.func48 rfl Try.ntmps48 rfl ?_
 refine LW.seq ?_
 refine jR ?_
 refine Ops.m (Does.alloc zero22) rfl ?_
 rintro _ w1 ⟨rfl, hF1⟩
 refine Ops.m (Does.alloc zero3) rfl ?_
 rintro _ w2 ⟨rfl, hF2⟩
 refine Ops.m (Does.alloc zero24) rfl ?_
 rintro _ w3 ⟨rfl, hF3⟩
 have hO : IsO w3 w.heap.size w1.heap.size w2.heap.size (.slice none 0 0) (.int .i64 ((0 : Nat) : Int)) (.int .i64 ((0 : Nat) : Int)) := ⟨(hF1.blk.frm hF2.frm (by simp)).frm hF3.frm (by simp), hF2.blk.frm hF3.frm (by simp), hF3.blk⟩
 have hfr3 : Frm [] w w3 := (hF1.frm.trans hF2.frm (by simp)).trans hF3.frm (by simp)
 have hge5 := hF1.frm.size
 have hge6 := Nat.le_trans hge5 hF2.frm.size
 have hr3 := ((hr.frm hF1.frm (by simp)).frm hF2.frm (by simp)).frm hF3.frm (by simp)
 generalize hg5 : w1.heap.size = g5 at hO hge5 ⊢
 generalize hg6 : w2.heap.size = g6 at hO hge6 ⊢
 generalize hg4 : w.heap.size = g4 at hO ⊢
 have hge4 : w.heap.size ≤ g4 := by omega
 obtain ⟨hn1, hn2, hn3⟩ := hO.ne
 refine jO (jN ?_)
 refine LW.seq ?_
 refine jS (jR (jM ?_))
 refine Ops.r (Run.bin rfl rfl (Bin.lss _ 0)) rfl ?_
 refine jO (jN (jv6 0 1 4 5 6 9 ?_))
 refine VC.condD rfl (fun hc1 => ?_) (fun hc1 => ?_)
 ·
  rw [if_pos hc1] at hF
  refine jS (jR ?_)
  refine Ops.st (Acts.store (i := 0) (v := .slice none 0 0) rfl rfl Try.sizeOf22 hO.1 rfl rfl) ?_
  rintro w4 ⟨hb4, hf4, hs4⟩
  refine Ops.st (Acts.store (i := 0) (v := .int .i64 ((0 : Nat) : Int)) rfl rfl Try.sizeOf3 (hO.2.1.frm hf4 (by simp; omega)) rfl rfl) ?_
  rintro w5 ⟨hb5, hf5, hs5⟩
  refine Ops.st (Acts.store (i := 0) (v := .int .i64 ((1 : Nat) : Int)) rfl rfl Try.sizeOf24 ((hO.2.2.frm hf4 (by simp; omega)).frm hf5 (by simp; omega)) rfl rfl) ?_
  rintro w6 ⟨hb6, hf6, hs6⟩
  refine jO (jN (jv3 4 5 6 ?_))
  refine jT ?_
  refine thenQ_r (upL_ret0 Try.results48 ?_)
  refine endR ?_
  refine res_cell rfl Try.isAgg22 (((hb4.frm hf5 (by simp; omega)).frm hf6 (by simp; omega)).cell 0) ?_
  refine res_cell rfl Try.isAgg3 ((hb5.frm hf6 (by simp; omega)).cell 0) ?_
  refine res_cell rfl Try.isAgg24 (hb6.cell 0) ?_
  refine res_nil ?_
  subst hF
  exact ⟨((hfr3.trans hf4 (fun x hx => .inr (by simp at hx; omega))).trans hf5 (fun x hx => .inr (by simp at hx; omega))).trans hf6 (fun x hx => .inr (by simp at hx; omega)), rfl⟩
 ·
  rw [if_neg hc1] at hF
  obtain ⟨m, rfl⟩ : ∃ m : Nat, most = m := ⟨most.toNat, by omega⟩
  simp only [Int.toNat_natCast] at hF
  generalize hG : blocksF bs m (8 * bs.length + 1) 0 [] = G at hF
  refine jQ (jN ?_)
  refine LW.dfr (us := [_, _, _]) (Run.mkFunc evs.nil (evs.cons rfl (evs.cons rfl (evs.cons rfl evs.nil)))) rfl rfl rfl rfl rfl rfl rfl ?_
  refine LW.vc ?_
  refine jS (jR (jM ?_))
  refine Ops.cl (Enters.fn (evs.cons rfl evs.nil) Try.call76) (read_spec B c0 bs _ (by omega) hr3) rfl ?_
  rintro e w4 ⟨gr, Ar, rfl, hR4, hf4, hA4⟩
  refine ⟨_, rfl, ?_⟩
  have hO4 := hO.frm hf4 (by simp)
  have hfr4 := hfr3.trans hf4 (by simp)
  have hs3 := hfr3.size
  have hs4 := hfr4.size
  refine jM ?_
  refine Ops.r (Run.build (evs.cons rfl (evs.cons rfl evs.nil)) zero132 (places132).choose_spec.1 (places132).choose_spec.2 rfl) rfl ?_
  refine Ops.m (Does.box rfl) rfl ?_
  rintro _ w5 ⟨rfl, hF5⟩
  have hb5 : Blk w5 w4.heap.size 132 #[.pointer (some ⟨gr, 0, none⟩), .slice none 0 0, .int .i64 ((m : Nat) : Int)] := hF5.blk
  have hO5 := hO4.frm hF5.frm (by simp)
  have hfr5 := hfr4.trans hF5.frm (by simp)
  generalize w4.heap.size = gx at hb5 hs4 ⊢
  have hX5 : IsX w5 gx gr Ar bs 0 none 0 [] m := ⟨hb5, hR4.frm hF5.frm (by simp), Own.nil _ _ _, by simp [ob], by omega, by simp, by simp⟩
  have hgr : w.heap.size ≤ gr := Nat.le_trans hs3 (hA4 gr (by simp))
  refine jA ?_
  refine jO (jN (jv4 4 5 6 7 ?_))
  refine jS (jB ?_)
  refine VC.loop (σ := Nat × Nat × List Nat × Option Addr × Nat) (fun s => [(4, .pointer (some ⟨g4, 0, none⟩)), (5, .pointer (some ⟨g5, 0, none⟩)), (6, .pointer (some ⟨g6, 0, none⟩)), (7, .pointer (some ⟨gx, 0, none⟩))]) (fun s wr => blocksF bs m s.1 s.2.1 s.2.2.1 = G ∧ 8 * bs.length < s.1 + s.2.1 ∧ IsX wr gx gr Ar bs s.2.1 s.2.2.2.1 s.2.2.2.2 s.2.2.1 m ∧ IsO wr g4 g5 g6 (.slice none 0 0) (.int .i64 ((0 : Nat) : Int)) (.int .i64 ((0 : Nat) : Int)) ∧ Frm [] w wr ∧ ∀ y ∈ ob s.2.2.2.1, w.heap.size ≤ y) (fun s => 8 * bs.length + 1 - s.2.1) (8 * bs.length + 1, 0, [], none, 0) (js4 rfl rfl rfl rfl) ⟨hG, by dsimp only; omega, hX5, hO5, hfr5, by simp [ob]⟩ ?_
  clear hG hX5
  rintro ⟨f, q, o, A2, c2⟩ wr ⟨hG, hfq, hX, hOr, hfr, hu⟩
  dsimp only at hG hfq hX hOr hfr hu ⊢
  have hp := hX.2.2.2.2.1
  obtain ⟨f, rfl⟩ : ∃ f', f = f' + 1 := ⟨f - 1, by omega⟩
  simp only [blocksF] at hG
  have hsr := hfr.size
  refine jS (jS (jR (jM ?_)))
  refine Ops.clp (Enters.fn (evs.cons rfl evs.nil) Try.call77) (iblock_spec gx gr q Ar A2 bs c2 o m _ (by omega) hbs hB hX) rfl ?_
  rintro e w1 ⟨hf1, he⟩
  have hfr1 : Frm [] w w1 := hfr.trans hf1 (fun x hx => .inr (by
   rcases List.mem_cons.1 hx with h6 | hx
   ·
    omega
   rcases List.mem_cons.1 hx with h6 | hx
   ·
    omega
   exact hu x hx))
  have hO1 := hOr.frm hf1 (hOr.ofX hX)
  rcases hT : blockF bs m q o with kk | ⟨go, q2, o2⟩
  ·
   rw [hT] at he hG
   simp only [bnd_e] at hG
   subst hG
   simp only [bnd_e] at hF
   subst hF
   refine .inr ⟨_, he, thenQ_p (thenQ_p (thenQ_p (blockQ_p (thenQ_p (upL_panD Try.results48 Try.call75 ?_)))))⟩
   refine (inflP_spec g4 g5 g6 kk _ _ _ _ hO1).mono ?_
   rintro e u w' ⟨hv, hu2, hO', hf'⟩
   exact ⟨hv, hu2, infl_end rfl rfl rfl hO' ⟨hfr1.trans hf' (fun x hx => .inr (by simp at hx; omega)), rfl⟩⟩
  have hlt := blockF_lt hT
  rw [hT] at he hG
  simp only [bnd_k] at hG
  obtain ⟨A3, c3, rfl, hX1, hu1⟩ := he
  dsimp only at hX1 hu1 hG hlt
  have hu3 : ∀ y ∈ ob A3, w.heap.size ≤ y := fun y hy => (hu1 y hy).elim (hu y) (fun h => Nat.le_trans hsr h)
  have hp3 := hX1.2.2.2.2.1
  refine .inl ⟨_, rfl, ?_⟩
  refine jO (jN (jv5 4 5 6 7 17 ?_))
  refine VC.condB rfl (fun hc2 => ?_) (fun hc2 => ?_)
  ·
   refine jQ (jN (jv4 4 5 6 7 ?_))
   refine jB (jQ ?_)
   refine blockQ_n (jN ⟨(f, q2, o2, A3, c3), (js4 rfl rfl rfl rfl), ?_, ?_⟩)
   ·
    rw [if_pos hc2] at hG
    exact ⟨hG, by dsimp only; omega, hX1, hO1, hfr1, hu3⟩
   ·
    dsimp only; omega
  ·
   rw [if_neg (by simpa using hc2)] at hG
   subst hG
   simp only [bnd_k] at hF
   subst hF
   have hd1 := Drawn.drew w1
   have hX6 := hX1.frm0 hd1.frm
   have hO6 := hO1.frm hd1.frm (by simp)
   have hfr6 := hfr1.drawn hd1
   generalize hw6 : w1.drew = w6 at *
   obtain ⟨hx4, hx5, hx6⟩ := hO6.ofX hX6 gx (by simp)
   refine jX ?_
   refine thenQ_x (thenQ_x (blockQ_x ?_))
   refine jN (jv4 4 5 6 7 ?_)
   refine jS ?_
   refine VC.held (fun v => Blk v gx 132 #[.pointer (some ⟨gr, 0, none⟩), .slice A3 o2.length c3, .int .i64 ((m : Nat) : Int)]) jK ?_
   rw [hw6]
   have hS : (fun v => Blk v gx 132 #[.pointer (some ⟨gr, 0, none⟩), .slice A3 o2.length c3, .int .i64 ((m : Nat) : Int)]) w6 := hX6.1
   refine jH 0 rfl hS (fun w0 hw0 => Run.mv rfl) ?_
   refine jH 1 rfl hS (fun w0 hw0 => Run.nilck rfl) ?_
   refine jH 2 rfl hS (fun w0 hw0 => Run.fieldAddr rfl Try.underlying132 rfl Try.sizeOf22 (by decide)) ?_
   refine jH 3 rfl hS (fun w0 hw0 => Run.load rfl Try.isAgg22 (hw0.cell 1)) ?_
   refine jH 4 rfl hS (fun w0 hw0 => Run.mv rfl) ?_
   refine jH 5 rfl hS (fun w0 hw0 => Run.nilck rfl) ?_
   refine jH 6 rfl hS (fun w0 hw0 => Run.fieldAddr rfl Try.underlying132 rfl Try.sizeOf129 (by decide)) ?_
   refine jH 7 rfl hS (fun w0 hw0 => Run.load rfl Try.isAgg129 (hw0.cell 0)) ?_
   refine HOps.cl 8 rfl jK (Enters.fn (evs.cons rfl evs.nil) Try.call78) (at_spec gr q2 Ar bs _ hX6.2.1) trivial rfl rfl ?_
   rintro e _ ⟨rfl, rfl⟩
   refine ⟨_, rfl, hS, ?_⟩
   refine jH 9 rfl hS (fun w0 hw0 => Run.bin rfl rfl (Bin.add_i64 _ 7 (by omega))) ?_
   refine jH 10 rfl hS (fun w0 hw0 => Run.bin rfl rfl (Bin.quo_i64 _ 8 (by omega) (by omega))) ?_
   refine HOps.st 11 rfl jK (Acts.store (i := 0) (v := .slice A3 o2.length c3) rfl rfl Try.sizeOf22 hO6.1 rfl rfl) trivial rfl ?_
   rintro w7 ⟨hb7, hf7, hs7⟩
   have hS := Blk.frm hS hf7 (by simp; omega)
   refine ⟨hS, ?_⟩
   refine HOps.st 12 rfl jK (Acts.store (i := 0) (v := .int .i64 (((q2 + 7) / 8 : Nat) : Int)) rfl rfl Try.sizeOf3 (hO6.2.1.frm hf7 (by simp; omega)) rfl rfl) trivial rfl ?_
   rintro w8 ⟨hb8, hf8, hs8⟩
   have hS := Blk.frm hS hf8 (by simp; omega)
   refine ⟨hS, ?_⟩
   refine HOps.st 13 rfl jK (Acts.store (i := 0) (v := .int .i64 ((0 : Nat) : Int)) rfl rfl Try.sizeOf24 ((hO6.2.2.frm hf7 (by simp; omega)).frm hf8 (by simp; omega)) rfl rfl) trivial rfl ?_
   rintro w9 ⟨hb9, hf9, hs9⟩
   have hS := Blk.frm hS hf9 (by simp; omega)
   refine ⟨hS, ?_⟩
   have hf79 : Frm [g4, g5, g6] w6 w9 := ((hf7.mono (T := [g4, g5, g6]) (by simp)).trans (hf8.mono (T := [g4, g5, g6]) (by simp)) (fun x hx => .inl hx)).trans (hf9.mono (T := [g4, g5, g6]) (by simp)) (fun x hx => .inl hx)
   have hX9 := hX6.frm hf79 (fun x hx h5 => by have := hO6.ofXx hX6 x hx; simp at h5; omega)
   have hfr9 := hfr6.trans hf79 (fun x hx => .inr (by simp at hx; omega))
   refine HOps.done jK ?_
   refine jN (jv3 4 5 6 ?_)
   refine jT ?_
   refine upL_retD Try.results48 Try.call75 ?_
   refine (inflR_spec g4 g5 g6 _).mono ?_
   rintro e u _ ⟨hv, hu2, rfl⟩
   refine ⟨hv, hu2, ?_⟩
   refine endR ?_
   refine res_cell rfl Try.isAgg22 (((hb7.frm hf8 (by simp; omega)).frm hf9 (by simp; omega)).cell 0) ?_
   refine res_cell rfl Try.isAgg3 ((hb8.frm hf9 (by simp; omega)).cell 0) ?_
   refine res_cell rfl Try.isAgg24 (hb9.cell 0) ?_
   refine res_nil ?_
   exact ⟨hfr9, A3, c3, rfl, hX9.2.2.1, fun y hy => hg4 ▸ hu3 y hy, hX9.2.2.2.2.2.2, by have := hX9.2.2.2.2.2.1; dsimp only; omega, by have := hX9.2.2.2.2.1; dsimp only; omega⟩
end Go.Proofs.Ytnmieihcjjiccaa
namespace Go.Proofs.Ytnmieihcjjiccaa
open Go.RowKit
section
variable {w w' : World} {gx : Nat} {Ab : Option Addr} {cb : Nat} {L : List Bool} {p : Nat} {A : Option Addr} {c : Nat} {out : List Nat} {most e : Nat} {S : List Nat}
end
def NumR (L : List Bool) (n p e v p' e' : Nat) : Prop := (e ≠ 0 ∧ v = 0 ∧ p' = p ∧ e' = e) ∨ (e = 0 ∧ takeF L n p = .ok (v, p') ∧ e' = 0) ∨ (e = 0 ∧ takeF L n p = .error 2 ∧ v = 0 ∧ p' = p ∧ e' = 2)
theorem NumR.lt {L : List Bool} {n p e v p' e' : Nat} (h : NumR L n p e v p' e') : v < 2 ^ n ∧ p ≤ p' := by
 rcases h with ⟨_, rfl, rfl, _⟩ | ⟨_, h, _⟩ | ⟨_, _, rfl, rfl, _⟩
 ·
  exact ⟨Nat.two_pow_pos n, Nat.le_refl _⟩
 ·
  obtain ⟨h1, h2, h3, _⟩ := takeF_ok h
  exact ⟨h3, by omega⟩
 ·
  exact ⟨Nat.two_pow_pos n, Nat.le_refl _⟩
end Go.Proofs.Ytnmieihcjjiccaa
namespace Go.Proofs.Ytnmieihcjjiccaa
open Go.RowKit
theorem xor_sum {a b : Nat} (ha : a < 2 ^ 16) (hb : b < 2 ^ 16) : a ^^^ b = 65535 ↔ a + b = 65535 := by
 have h1 : ∀ a, a < 2 ^ 16 → a ^^^ 65535 = 65535 - a := fun a ha => by
  have h := congrArg BitVec.toNat (BitVec.xor_allOnes (x := BitVec.ofNat 16 a))
  rw [BitVec.toNat_xor, BitVec.toNat_not, BitVec.toNat_ofNat, BitVec.toNat_allOnes, Nat.mod_eq_of_lt ha] at h
  have e : (2 ^ 16 - 1 : Nat) = 65535 := by decide
  rw [show (2 ^ 16 - 1 - a : Nat) = 65535 - a by omega, e] at h
  exact h
 constructor
 ·
  intro h
  have h2 : b = a ^^^ 65535 := by rw [← h, ← Nat.xor_assoc, Nat.xor_self, Nat.zero_xor]
  rw [h1 a ha] at h2
  omega
 ·
  intro h
  have h2 : b = a ^^^ 65535 := by rw [h1 a ha]; omega
  rw [h2, ← Nat.xor_assoc, Nat.xor_self, Nat.zero_xor]
def ResR (F : Except Nat (Nat × List Nat)) (p' : Nat) (out' : List Nat) (e' : Nat) : Prop := match F with
 | .ok x => e' = 0 ∧ p' = x.1 ∧ out' = x.2
 | .error k => e' = k ∧ k ≠ 0
end Go.Proofs.Ytnmieihcjjiccaa
namespace Go.Proofs.Ytnmieihcjjiccaa
open Go.RowKit
def Stg {α : Type} (F : Except Nat α) (e : Nat) (G : Except Nat α) : Prop := (e ≠ 0 ∧ F = .error e) ∨ (e = 0 ∧ F = G)
theorem Stg.left {α : Type} {F G G' : Except Nat α} {e : Nat} (h : Stg F e G) (he : e ≠ 0) : Stg F e G' := h.elim .inl (fun h => absurd h.1 he)
theorem Stg.right {α : Type} {F G : Except Nat α} (h : Stg F 0 G) : F = G := h.elim (fun h => absurd rfl h.1) (·.2)
theorem Stg.mk0 {α : Type} {F G : Except Nat α} (h : F = G) : Stg F 0 G := .inr ⟨rfl, h⟩
theorem Stg.num {α : Type} {F : Except Nat α} {L : List Bool} {n p e v p' e' : Nat} {f : Nat × Nat → Except Nat α} (h : Stg F e (bnd (takeF L n p) f)) (hN : NumR L n p e v p' e') : Stg F e' (f (v, p')) := by
 rcases hN with ⟨h1, rfl, rfl, rfl⟩ | ⟨rfl, h1, rfl⟩ | ⟨rfl, h1, _, _, rfl⟩
 ·
  exact h.left h1
 ·
  have := h.right; rw [h1, bnd_k] at this; exact .mk0 this
 ·
  have := h.right; rw [h1, bnd_e] at this; exact .inl ⟨by decide, this⟩
theorem Stg.fail {α : Type} {F G : Except Nat α} {e k : Nat} {c : Prop} [Decidable c] (h : Stg F e (if c then .error k else G)) (hk : k ≠ 0) : Stg F (if e = 0 ∧ c then k else e) G := by
 by_cases he : e = 0
 ·
  subst he
  by_cases hc : c
  ·
   rw [if_pos ⟨rfl, hc⟩]; have := h.right; rw [if_pos hc] at this; exact .inl ⟨hk, this⟩
  ·
   rw [if_neg (fun h => hc h.2)]; have := h.right; rw [if_neg hc] at this; exact .mk0 this
 ·
  rw [if_neg (fun h => he h.1)]; exact h.left he
theorem Stg.res {α : Type} {F : Except Nat α} {G : Except Nat (Nat × List Nat)} {K : Nat × List Nat → Except Nat α} {p' e' : Nat} {out' : List Nat} (h : Stg F 0 (bnd G K)) (hR : ResR G p' out' e') : Stg F e' (K (p', out')) := by
 have h := h.right
 cases G with
 | error k => obtain ⟨rfl, hk⟩ := hR; exact .inl ⟨hk, h⟩
 | ok x => obtain ⟨rfl, rfl, rfl⟩ := hR; exact .mk0 h
theorem bnd_assoc {α β γ : Type} (x : Except Nat α) (f : α → Except Nat β) (g : β → Except Nat γ) : bnd (bnd x f) g = bnd x fun y => bnd (f y) g := by cases x <;> rfl
theorem bnd_if {α β : Type} {c : Prop} [Decidable c] (x y : Except Nat α) (f : α → Except Nat β) : bnd (if c then x else y) f = if c then bnd x f else bnd y f := by split <;> rfl
theorem copyF_snoc : ∀ (n d : Nat) (out : List Nat), copyF (n + 1) d out = copyF n d out ++ [(copyF n d out).getD ((copyF n d out).length - d) 0]
 | 0, _, _ => rfl
 | n + 1, d, out => by rw [copyF, copyF_snoc n d]; rfl
theorem copyF_take : ∀ (n d : Nat) (out : List Nat), copyF n d out = out ++ (copyF n d out).drop out.length
 | 0, _, out => by simp [copyF]
 | n + 1, d, out => by
  rw [copyF_snoc]
  have ih := copyF_take n d out
  have hl := copyF_len n d out
  rw [List.drop_append_of_le_length (by omega), ← List.append_assoc, ← ih]
def tokD (most : Nat) (out : List Nat) (n d0 : Nat) (u : Nat × Nat) : Except Nat (Bool × Nat × List Nat) :=
 if out.length < d0 + u.1 then .error 12 else if most < out.length + n then .error 13 else .ok (true, u.2, copyF n (d0 + u.1) out)
def tokW (L : List Bool) (most : Nat) (out : List Nat) (n : Nat) (y : Nat × Nat) : Except Nat (Bool × Nat × List Nat) :=
 if 30 ≤ y.1 then .error 11 else bnd (takeF L (wayT.getD y.1 (0, 0)).2 y.2) (tokD most out n (wayT.getD y.1 (0, 0)).1)
def tokR (L : List Bool) (b : List Int) (most : Nat) (out : List Nat) (x : Nat × Nat) : Except Nat (Bool × Nat × List Nat) :=
 if x.1 < 256 then (if out.length < most then .ok (true, x.2, out ++ [x.1]) else .error 13)
 else if x.1 = 256 then .ok (false, x.2, out)
 else if 285 < x.1 then .error 11
 else bnd (takeF L (longT.getD (x.1 - 257) (0, 0)).2 x.2) fun v => bnd (symF L b v.2) (tokW L most out ((longT.getD (x.1 - 257) (0, 0)).1 + v.1))
def tokK {α : Type} (L : List Bool) (a b : List Int) (most f : Nat) (K : Nat × List Nat → Except Nat α) (x : Bool × Nat × List Nat) : Except Nat α := bnd (if x.1 then tokensF L a b most f x.2.1 x.2.2 else .ok x.2) K
section
variable {α : Type} {F : Except Nat α} {K : Nat × List Nat → Except Nat α} {L : List Bool} {a b : List Int} {most f : Nat} {o : List Nat}
theorem Stg.fin {s p : Nat} (h : Stg F 0 (bnd (tokR L b most o (s, p)) (tokK L a b most f K))) (hs : s = 256) : Stg F 0 (K (p, o)) := by
 subst hs
 have h := h.right
 unfold tokR at h
 rw [if_neg (show ¬ 256 < 256 by decide), if_pos rfl] at h
 exact .mk0 h
theorem Stg.far {s p : Nat} (h : Stg F 0 (bnd (tokR L b most o (s, p)) (tokK L a b most f K))) (h1 : ¬ s < 256) (h2 : s ≠ 256) (h3 : 285 < s) : F = .error 11 := by
 have h := h.right
 unfold tokR at h
 rw [if_neg h1, if_neg h2, if_pos h3] at h
 exact h
theorem Stg.len {s p : Nat} (h : Stg F 0 (bnd (tokR L b most o (s, p)) (tokK L a b most f K))) (h1 : ¬ s < 256) (h2 : s ≠ 256) (h3 : ¬ 285 < s) :
  Stg F 0 (bnd (takeF L (longT.getD (s - 257) (0, 0)).2 p) fun v => bnd (symF L b v.2) fun y => bnd (tokW L most o ((longT.getD (s - 257) (0, 0)).1 + v.1) y) (tokK L a b most f K)) := by
 have h := h.right
 unfold tokR at h
 rw [if_neg h1, if_neg h2, if_neg h3, bnd_assoc] at h
 refine .mk0 (h.trans ?_)
 congr 1
 funext v
 rw [bnd_assoc]
theorem Stg.back {e n d0 : Nat} {u : Nat × Nat} (h : Stg F e (bnd (tokD most o n d0 u) (tokK L a b most f K))) : Stg F (if e = 0 ∧ o.length < d0 + u.1 then 12 else e) (bnd (if most < o.length + n then .error 13 else .ok (true, u.2, copyF n (d0 + u.1) o)) (tokK L a b most f K)) := by
 unfold tokD at h
 rw [bnd_if] at h
 exact h.fail (by decide)
theorem Stg.come {n d p e' : Nat} {o' : List Nat} (h : Stg F 0 (bnd (if most < o.length + n then .error 13 else .ok (true, p, copyF n d o)) (tokK L a b most f K))) (hp : (0 ≠ 0 ∧ e' = 0) ∨ (0 = 0 ∧ most < o.length + ((copyF n d o).drop o.length).length ∧ e' = 13) ∨ (0 = 0 ∧ ¬ most < o.length + ((copyF n d o).drop o.length).length ∧ e' = 0 ∧ o' = o ++ (copyF n d o).drop o.length)) : Stg F e' (bnd (tokensF L a b most f p o') K) := by
 have h := h.right
 rw [List.length_drop, copyF_len, Nat.add_sub_cancel_left, ← copyF_take] at hp
 rcases hp with ⟨h0, _⟩ | ⟨_, hm, rfl⟩ | ⟨_, hm, rfl, rfl⟩
 ·
  exact absurd rfl h0
 ·
  rw [if_pos hm] at h
  exact .inl ⟨by decide, h⟩
 ·
  rw [if_neg hm] at h
  exact .mk0 h
end
end Go.Proofs.Ytnmieihcjjiccaa
namespace Go.Proofs.Ytnmieihcjjiccaa
open Go.RowKit
section
variable {α : Type} {F : Except Nat α} {bs : List Nat} {m f q v e : Nat} {o : List Nat} {K : Nat × List Nat → Except Nat α}
theorem Stg.own (G : Except Nat (Nat × List Nat)) : Stg G 0 (bnd G .ok) := .mk0 (by cases G <;> rfl)
end
end Go.Proofs.Ytnmieihcjjiccaa
namespace Go.Proofs.Ytnmieihcjjiccaa
open Go.RowKit
theorem long_lt : ∀ i, i < 29 → 3 ≤ (longT.getD i (0, 0)).1 ∧ (longT.getD i (0, 0)).1 ≤ 258 ∧ (longT.getD i (0, 0)).2 ≤ 5 := by decide +kernel
theorem way_lt : ∀ i, i < 30 → 1 ≤ (wayT.getD i (0, 0)).1 ∧ (wayT.getD i (0, 0)).1 ≤ 24577 ∧ (wayT.getD i (0, 0)).2 ≤ 13 := by decide +kernel
theorem LC_at (t : List (Nat × Nat)) : ∀ i, i < t.length → (t.flatMap LC)[i * 2]? = some (.int .i64 (((t.getD i (0, 0)).1 : Nat) : Int)) ∧ (t.flatMap LC)[i * 2 + 1]? = some (.int .i64 (((t.getD i (0, 0)).2 : Nat) : Int)) := by
 induction t with
 | nil => intro i h; cases h
 | cons a r ih =>
  intro i h
  cases i with
  | zero => simp [LC]
  | succ i =>
   have := ih i (by simpa using h)
   rw [List.flatMap_cons]
   have e1 : (i + 1) * 2 = 2 + i * 2 := by omega
   have e2 : (i + 1) * 2 + 1 = 2 + (i * 2 + 1) := by omega
   rw [e1, show 2 + i * 2 + 1 = 2 + (i * 2 + 1) by omega]
   rw [List.getElem?_append_right (by simp [LC]), List.getElem?_append_right (by simp [LC])]
   simpa [LC] using this
theorem tab_cell {w : World} {g : Nat} {t : TypeId} {l : List (Nat × Nat)} (h : Blk w g t (l.flatMap LC).toArray) {i : Nat} (hi : i < l.length) :
  w.cell? ((⟨g, 0, none⟩ : Addr).add (i * 2)) = some (.int .i64 (((l.getD i (0, 0)).1 : Nat) : Int)) ∧ w.cell? (((⟨g, 0, none⟩ : Addr).add (i * 2)).add 1) = some (.int .i64 (((l.getD i (0, 0)).2 : Nat) : Int)) := by
 obtain ⟨h1, h2⟩ := LC_at l i hi
 have e1 := h.cells (i * 2) _ (by simpa using h1)
 have e2 := h.cells (i * 2 + 1) _ (by simpa using h2)
 refine ⟨e1, ?_⟩
 have : ((⟨g, 0, none⟩ : Addr).add (i * 2)).add 1 = (⟨g, 0, none⟩ : Addr).add (i * 2 + 1) := by unfold Addr.add; by_cases h : i * 2 = 0 <;> simp [h]
 rw [this]
 exact e2
set_option maxRecDepth 100000 in
theorem ilen_in (n : Nat) (w : World) (h1 : 3 ≤ n) (h2 : n ≤ 258) : Calls Try.prog 53 #[.int .i64 ((n : Nat) : Int)] w fun e w' => (∃ i, i < 29 ∧ (longT.getD i (0, 0)).1 ≤ n ∧ (∀ j, i < j → j < 29 → n < (longT.getD j (0, 0)).1) ∧ e = .returned (.tuple #[.int .i64 ((257 + i : Nat) : Int), .int .i64 (((longT.getD i (0, 0)).2 : Nat) : Int), .int .i64 ((n - (longT.getD i (0, 0)).1 : Nat) : Int)])) ∧ Frm [] w w' := by
 refine VC.calls (nt := 34) (res := #[.tmp 2, .tmp 3, .tmp 4]) Try.func53 rfl Try.ntmps53 Try.results53 rfl ?_
 refine jS (jR ?_)
 refine Ops.r (v := .int .i64 ((0 : Nat) : Int)) (Run.asg rfl) rfl ?_
 refine Ops.r (v := .int .i64 ((0 : Nat) : Int)) (Run.asg rfl) rfl ?_
 refine Ops.r (v := .int .i64 ((0 : Nat) : Int)) (Run.asg rfl) rfl ?_
 refine jO (jN (jv1 0 ?_))
 refine jS (jS (jR (jM ?_)))
 refine Ops.r (Run.bin rfl rfl (Bin.lssN _ 3)) rfl ?_
 refine jM ?_
 refine jG ?_
 refine Ops.rg rfl au (Run.bin rfl rfl (Bin.gtrN _ 258)) rfl ?_
 refine Ops.r (Run.pickF rfl rfl (by first | rfl | assumption | (simp; done) | (simp [*]; done) | (simp; omega))) rfl ?_
 refine jO (jN (jv2 0 12 ?_))
 refine VC.condF rfl (by first | rfl | assumption | (simp; done) | (simp [*]; done) | (simp; omega)) ?_
 refine jQ (jN (jv1 0 ?_))
 refine jS (jR ?_)
 refine Ops.cl (Enters.fn evs.nil Try.call83) (ilengths_spec _) rfl ?_
 rintro e w1 ⟨rfl, hf1⟩
 refine ⟨_, rfl, ?_⟩
 refine Ops.m (Does.alloc zero143) rfl ?_
 rintro _ w2 ⟨rfl, hF2⟩
 refine Ops.st (Acts.storeA rfl rfl Try.sizeOf143 hF2.blk rfl (flat_one LC LC_one longT)) ?_
 rintro w3 ⟨hb3, hf3, hs3⟩
 have hfr3 : Frm [] w w3 := (hf1.trans hF2.frm (by simp)).trans hf3 (fun x hx => .inr (by have := hf1.size; simp at hx; omega))
 have hb3 : Blk w3 w1.heap.size 143 (longT.flatMap LC).toArray := hb3
 generalize w1.heap.size = g at *
 refine jO (jN (jv2 0 5 ?_))
 refine jS (jR ?_)
 refine Ops.r (v := .int .i64 ((28 : Nat) : Int)) (Run.asg rfl) rfl ?_
 refine jO (jN (jB ?_))
 refine VC.loop (σ := Nat) (fun s => [(0, _), (5, _), (6, .int .i64 ((s : Nat) : Int))]) (fun s wr => s < 29 ∧ (∀ j, s < j → j < 29 → n < (longT.getD j (0, 0)).1) ∧ wr = w3) (fun s => s) 28 (js3 rfl rfl rfl) ⟨by omega, fun j h1 h2 => by omega, rfl⟩ ?_
 rintro i wr ⟨hi, hlast, rfl⟩
 obtain ⟨hc0, hc1⟩ := tab_cell hb3 (i := i) hi
 obtain ⟨hl1, hl2, hl3⟩ := long_lt i hi
 refine jS (jB (jS (jR (jM ?_))))
 refine Ops.r (Run.indexA i rfl rfl Try.underlying143 Try.sizeOf142 (by omega)) rfl ?_
 refine Ops.r (Run.fieldAddr rfl Try.underlying142 rfl Try.sizeOf3 (by decide)) rfl ?_
 refine Ops.r (Run.load rfl Try.isAgg3 hc0) rfl ?_
 refine jM ?_
 refine Ops.r (Run.bin rfl rfl (Bin.leqN _ _)) rfl ?_
 refine jO (jN (jv4 0 5 6 21 ?_))
 refine VC.condD rfl (fun hc2 => ?_) (fun hc2 => ?_)
 ·
  refine jS ?_
  refine VC.still jK jK ?_
  refine SOps.r (Run.mv rfl) rfl ?_
  refine SOps.r (Run.bin rfl rfl (Bin.add_i64 257 _ (by omega))) rfl ?_
  refine SOps.r (Run.mv rfl) rfl ?_
  refine SOps.r (Run.indexA i rfl rfl Try.underlying143 Try.sizeOf142 (by omega)) rfl ?_
  refine SOps.r (Run.fieldAddr rfl Try.underlying142 rfl Try.sizeOf3 (by decide)) rfl ?_
  refine SOps.r (Run.load rfl Try.isAgg3 hc1) rfl ?_
  refine SOps.r (Run.mv rfl) rfl ?_
  refine SOps.r (Run.mv rfl) rfl ?_
  refine SOps.r (Run.indexA i rfl rfl Try.underlying143 Try.sizeOf142 (by omega)) rfl ?_
  refine SOps.r (Run.fieldAddr rfl Try.underlying142 rfl Try.sizeOf3 (by decide)) rfl ?_
  refine SOps.r (Run.load rfl Try.isAgg3 hc0) rfl ?_
  refine SOps.r (Run.bin rfl rfl (Bin.sub_i64 _ _ (by omega) (by omega))) rfl ?_
  refine SOps.r (Run.asg rfl) rfl ?_
  refine SOps.r (Run.asg rfl) rfl ?_
  refine SOps.r (Run.asg rfl) rfl ?_
  refine SOps.nil ?_
  refine jN (jv3 2 3 4 ?_)
  refine jT ?_
  refine blockQ_r (thenQ_r (thenQ_r (blockQ_r (end3 rfl rfl rfl ?_))))
  exact ⟨⟨i, hi, hc2, hlast, rfl⟩, hfr3.drawn (Drawn.drew _)⟩
 ·
  have hi1 : 1 ≤ i := by rcases Nat.eq_zero_or_pos i with h | h; (subst h; exact absurd (show (longT.getD 0 (0, 0)).1 ≤ n from h1) hc2); exact h
  refine jQ ?_
  refine blockQ_n (jN ?_)
  refine jv3 0 5 6 ?_
  refine jR (jM ?_)
  refine Ops.r (Run.bin rfl rfl (Bin.sub_i64 _ 1 (by omega) (by omega))) rfl ?_
  refine jA ?_
  refine jO ?_
  refine jN ⟨(i - 1), (js3 rfl rfl rfl), ?_, ?_⟩
  ·
   refine ⟨by omega, fun j h3 h4 => ?_, rfl⟩
   by_cases hj : j = i
   ·
    subst hj; omega
   ·
    exact hlast j (by omega) h4
  ·
   first | omega | (dsimp only; omega)
set_option maxRecDepth 100000 in
theorem iway_in (n : Nat) (w : World) (h1 : 1 ≤ n) (h2 : n ≤ 32768) : Calls Try.prog 54 #[.int .i64 ((n : Nat) : Int)] w fun e w' => (∃ i, i < 30 ∧ (wayT.getD i (0, 0)).1 ≤ n ∧ (∀ j, i < j → j < 30 → n < (wayT.getD j (0, 0)).1) ∧ e = .returned (.tuple #[.int .i64 ((i : Nat) : Int), .int .i64 (((wayT.getD i (0, 0)).2 : Nat) : Int), .int .i64 ((n - (wayT.getD i (0, 0)).1 : Nat) : Int)])) ∧ Frm [] w w' := by
 refine VC.calls (nt := 33) (res := #[.tmp 2, .tmp 3, .tmp 4]) Try.func54 rfl Try.ntmps54 Try.results54 rfl ?_
 refine jS (jR ?_)
 refine Ops.r (v := .int .i64 ((0 : Nat) : Int)) (Run.asg rfl) rfl ?_
 refine Ops.r (v := .int .i64 ((0 : Nat) : Int)) (Run.asg rfl) rfl ?_
 refine Ops.r (v := .int .i64 ((0 : Nat) : Int)) (Run.asg rfl) rfl ?_
 refine jO (jN (jv1 0 ?_))
 refine jS (jS (jR (jM ?_)))
 refine Ops.r (Run.bin rfl rfl (Bin.lssN _ 1)) rfl ?_
 refine jM ?_
 refine jG ?_
 refine Ops.rg rfl au (Run.bin rfl rfl (Bin.gtrN _ 32768)) rfl ?_
 refine Ops.r (Run.pickF rfl rfl (by first | rfl | assumption | (simp; done) | (simp [*]; done) | (simp; omega))) rfl ?_
 refine jO (jN (jv2 0 12 ?_))
 refine VC.condF rfl (by first | rfl | assumption | (simp; done) | (simp [*]; done) | (simp; omega)) ?_
 refine jQ (jN (jv1 0 ?_))
 refine jS (jR ?_)
 refine Ops.cl (Enters.fn evs.nil Try.call84) (iways_spec _) rfl ?_
 rintro e w1 ⟨rfl, hf1⟩
 refine ⟨_, rfl, ?_⟩
 refine Ops.m (Does.alloc zero145) rfl ?_
 rintro _ w2 ⟨rfl, hF2⟩
 refine Ops.st (Acts.storeA rfl rfl Try.sizeOf145 hF2.blk rfl (flat_one LC LC_one wayT)) ?_
 rintro w3 ⟨hb3, hf3, hs3⟩
 have hfr3 : Frm [] w w3 := (hf1.trans hF2.frm (by simp)).trans hf3 (fun x hx => .inr (by have := hf1.size; simp at hx; omega))
 have hb3 : Blk w3 w1.heap.size 145 (wayT.flatMap LC).toArray := hb3
 generalize w1.heap.size = g at *
 refine jO (jN (jv2 0 5 ?_))
 refine jS (jR ?_)
 refine Ops.r (v := .int .i64 ((29 : Nat) : Int)) (Run.asg rfl) rfl ?_
 refine jO (jN (jB ?_))
 refine VC.loop (σ := Nat) (fun s => [(0, _), (5, _), (6, .int .i64 ((s : Nat) : Int))]) (fun s wr => s < 30 ∧ (∀ j, s < j → j < 30 → n < (wayT.getD j (0, 0)).1) ∧ wr = w3) (fun s => s) 29 (js3 rfl rfl rfl) ⟨by omega, fun j h1 h2 => by omega, rfl⟩ ?_
 rintro i wr ⟨hi, hlast, rfl⟩
 obtain ⟨hc0, hc1⟩ := tab_cell hb3 (i := i) hi
 obtain ⟨hl1, hl2, hl3⟩ := way_lt i hi
 refine jS (jB (jS (jR (jM ?_))))
 refine Ops.r (Run.indexA i rfl rfl Try.underlying145 Try.sizeOf142 (by omega)) rfl ?_
 refine Ops.r (Run.fieldAddr rfl Try.underlying142 rfl Try.sizeOf3 (by decide)) rfl ?_
 refine Ops.r (Run.load rfl Try.isAgg3 hc0) rfl ?_
 refine jM ?_
 refine Ops.r (Run.bin rfl rfl (Bin.leqN _ _)) rfl ?_
 refine jO (jN (jv4 0 5 6 21 ?_))
 refine VC.condD rfl (fun hc2 => ?_) (fun hc2 => ?_)
 ·
  refine jS ?_
  refine VC.still jK jK ?_
  refine SOps.r (Run.mv rfl) rfl ?_
  refine SOps.r (Run.mv rfl) rfl ?_
  refine SOps.r (Run.indexA i rfl rfl Try.underlying145 Try.sizeOf142 (by omega)) rfl ?_
  refine SOps.r (Run.fieldAddr rfl Try.underlying142 rfl Try.sizeOf3 (by decide)) rfl ?_
  refine SOps.r (Run.load rfl Try.isAgg3 hc1) rfl ?_
  refine SOps.r (Run.mv rfl) rfl ?_
  refine SOps.r (Run.mv rfl) rfl ?_
  refine SOps.r (Run.indexA i rfl rfl Try.underlying145 Try.sizeOf142 (by omega)) rfl ?_
  refine SOps.r (Run.fieldAddr rfl Try.underlying142 rfl Try.sizeOf3 (by decide)) rfl ?_
  refine SOps.r (Run.load rfl Try.isAgg3 hc0) rfl ?_
  refine SOps.r (Run.bin rfl rfl (Bin.sub_i64 _ _ (by omega) (by omega))) rfl ?_
  refine SOps.r (Run.asg rfl) rfl ?_
  refine SOps.r (Run.asg rfl) rfl ?_
  refine SOps.r (Run.asg rfl) rfl ?_
  refine SOps.nil ?_
  refine jN (jv3 2 3 4 ?_)
  refine jT ?_
  refine blockQ_r (thenQ_r (thenQ_r (blockQ_r (end3 rfl rfl rfl ?_))))
  exact ⟨⟨i, hi, hc2, hlast, rfl⟩, hfr3.drawn (Drawn.drew _)⟩
 ·
  have hi1 : 1 ≤ i := by rcases Nat.eq_zero_or_pos i with h | h; (subst h; exact absurd (show (wayT.getD 0 (0, 0)).1 ≤ n from h1) hc2); exact h
  refine jQ ?_
  refine blockQ_n (jN ?_)
  refine jv3 0 5 6 ?_
  refine jR (jM ?_)
  refine Ops.r (Run.bin rfl rfl (Bin.sub_i64 _ 1 (by omega) (by omega))) rfl ?_
  refine jA ?_
  refine jO ?_
  refine jN ⟨(i - 1), (js3 rfl rfl rfl), ?_, ?_⟩
  ·
   refine ⟨by omega, fun j h3 h4 => ?_, rfl⟩
   by_cases hj : j = i
   ·
    subst hj; omega
   ·
    exact hlast j (by omega) h4
  ·
   first | omega | (dsimp only; omega)
end Go.Proofs.Ytnmieihcjjiccaa
namespace Go.Proofs.Ytnmieihcjjiccaa
open Go.RowKit
theorem ilen_tok (n : Nat) (w : World) (h1 : 3 ≤ n) (h2 : n ≤ 258) : Calls Try.prog 53 #[.int .i64 ((n : Nat) : Int)] w fun e w' => e = .returned (.tuple #[.int .i64 ((257 + lenS n : Nat) : Int), .int .i64 (((longT.getD (lenS n) (0, 0)).2 : Nat) : Int), .int .i64 ((n - (longT.getD (lenS n) (0, 0)).1 : Nat) : Int)]) ∧ Frm [] w w' := by
 refine (ilen_in n w h1 h2).mono ?_
 rintro e w' ⟨⟨i, hi, h3, h4, rfl⟩, hf⟩
 have e1 : lenS n = i := symU_eq h3 29 hi h4
 rw [e1]
 exact ⟨rfl, hf⟩
theorem iway_tok (n : Nat) (w : World) (h1 : 1 ≤ n) (h2 : n ≤ 32768) : Calls Try.prog 54 #[.int .i64 ((n : Nat) : Int)] w fun e w' => e = .returned (.tuple #[.int .i64 ((wayS n : Nat) : Int), .int .i64 (((wayT.getD (wayS n) (0, 0)).2 : Nat) : Int), .int .i64 ((n - (wayT.getD (wayS n) (0, 0)).1 : Nat) : Int)]) ∧ Frm [] w w' := by
 refine (iway_in n w h1 h2).mono ?_
 rintro e w' ⟨⟨i, hi, h3, h4, rfl⟩, hf⟩
 have e1 : wayS n = i := symU_eq h3 30 hi h4
 rw [e1]
 exact ⟨rfl, hf⟩
theorem flat3 : ∀ (L : List Tk) (s : Nat) (_ : s < L.length), ((TC L).drop (s * 3)).take 3 = tokC (L.getD s (0, 0, 0))
 | a :: L, 0, _ => rfl
 | a :: L, s + 1, h => by
  have := flat3 L s (by simpa using h)
  rw [show TC (a :: L) = tokC a ++ TC L from rfl, show (s + 1) * 3 = (tokC a).length + s * 3 by simp [tokC]; omega, List.drop_length_add_append, List.getD_cons_succ]
  exact this
theorem tok_snoc {L : List Tk} {i : Nat} (h : i < L.length) : L.take (i + 1) = L.take i ++ [L.getD i (0, 0, 0)] := by
 rw [List.take_add_one, List.getElem?_eq_getElem h, List.getD_eq_getElem?_getD, List.getElem?_eq_getElem h]
 rfl
theorem codes_ok (A : Option Addr) (c0 : Nat) (l : List Int) (w : World) (h : LOk l) (hr : Rd w 1 A l.length (IB l)) :
  Calls Try.prog 31 #[.slice A l.length c0] w fun e w' => Frm [] w w' ∧ ∃ B c, e = .returned (.tuple #[.slice B l.length c, .int .i64 ((0 : Nat) : Int)]) ∧ Own w' 116 2 B l.length c ((codesL l).flatMap CB) := by
 have h1 : ¬ (chk l = 1 ∨ chk l = 8) := by
  unfold chk
  rw [if_neg (fun hn => hn h.1), if_neg (by have := h.2; omega)]
  split <;> omega
 refine (codes_spec A c0 l w (by have := h.1.1; omega) hr).mono ?_
 rintro e w' ⟨hf, h2⟩
 rw [if_neg h1] at h2
 obtain ⟨B, c, h3, h4, _⟩ := h2
 exact ⟨hf, B, c, h3, h4⟩
theorem IsW.new {w w' : World} {g : Nat} {A : Option Addr} {l : List Bool} (h : IsW w g A l) (f : Frm [] w w') : IsW w' g A l := h.frm f (by simp)
set_option maxRecDepth 100000 in
theorem mustI_spec (v : Value) (k : Value) (w : World) : Calls Try.prog 24 #[v, k] w fun e w' => e = .returned v ∧ w = w' := by
 refine VC.calls (nt := 6) (res := #[.tmp 4]) Try.func24 rfl Try.ntmps24 Try.results24 rfl ?_
 refine jS (jR (jA ?_))
 refine jO (jN (jv1 0 ?_))
 refine jS (jR (jM ?_))
 refine jA ?_
 refine jO (jN (jv1 4 ?_))
 refine jT ?_
 refine end1 rfl ?_
 exact ⟨rfl, rfl⟩
set_option maxRecDepth 100000 in
theorem mustC_spec (v : Value) (k : Value) (w : World) : Calls Try.prog 30 #[v, k] w fun e w' => e = .returned v ∧ w = w' := by
 refine VC.calls (nt := 6) (res := #[.tmp 4]) Try.func30 rfl Try.ntmps30 Try.results30 rfl ?_
 refine jS (jR (jA ?_))
 refine jO (jN (jv1 0 ?_))
 refine jS (jR (jM ?_))
 refine jA ?_
 refine jO (jN (jv1 4 ?_))
 refine jT ?_
 refine end1 rfl ?_
 exact ⟨rfl, rfl⟩
theorem up_w {w w1 : World} {g : Nat} {A A1 : Option Addr} (hA : ∀ x ∈ ob A1, x ∈ ob A ∨ w.heap.size ≤ x) (_ : w.heap.size ≤ w1.heap.size) : ∀ x ∈ g :: ob A1, x ∈ g :: ob A ∨ w.heap.size ≤ x := fun x hx => by
 rcases List.mem_cons.1 hx with rfl | hx
 ·
  exact .inl (by simp)
 ·
  rcases hA x hx with h | h
  ·
   exact .inl (by simp [h])
  ·
   exact .inr h
theorem up_a {w w1 : World} {A A1 A2 : Option Addr} (hA : ∀ x ∈ ob A1, x ∈ ob A ∨ w.heap.size ≤ x) (hs : w.heap.size ≤ w1.heap.size) (h2 : ∀ x ∈ ob A2, x ∈ ob A1 ∨ w1.heap.size ≤ x) : ∀ x ∈ ob A2, x ∈ ob A ∨ w.heap.size ≤ x := fun x hx => by
 rcases h2 x hx with h | h
 ·
  exact hA x h
 ·
  exact .inr (Nat.le_trans hs h)
set_option maxRecDepth 100000 in
theorem tokens_spec (g ct c1 c2 : Nat) (A Bt La Lb : Option Addr) (l : List Bool) (lt : List Tk) (a b : List Int) (w : World) (ha : LOk a) (hb : LOk b) (hna : 286 ≤ a.length) (hnb : 30 ≤ b.length) (hlt : ∀ t ∈ lt, TkOk t) (hll : lt.length ≤ 1000000) (hl : l.length ≤ 100000000) (hW : IsW w g A l) (hot : Own w 73 3 Bt lt.length ct (TC lt)) (hra : Rd w 1 La a.length (IB a)) (hrb : Rd w 1 Lb b.length (IB b)) :
  Calls Try.prog 21 #[.pointer (some ⟨g, 0, none⟩), .slice Bt lt.length ct, .slice La a.length c1, .slice Lb b.length c2] w fun e w' => e = .returned (.tuple #[]) ∧ WR w w' g A (l ++ toksB a b lt) := by
 have hfl := toks_flat ha hb hna hnb
 refine VC.calls (nt := 61) (res := #[]) Try.func21 rfl Try.ntmps21 Try.results21 rfl ?_
 refine jS (jR (jM ?_))
 refine Ops.cl (Enters.fn (evs.cons rfl evs.nil) Try.call31) (codes_ok La c1 a w ha hra) rfl ?_
 rintro e w1 ⟨hf1, Ba, ca, rfl, hoa⟩
 refine ⟨_, rfl, ?_⟩
 refine Ops.r (Run.extract rfl rfl) rfl ?_
 refine Ops.r (Run.extract rfl rfl) rfl ?_
 refine Ops.cl (Enters.fn (evs.cons rfl (evs.cons rfl evs.nil)) Try.call30) (mustC_spec _ _ _) rfl ?_
 rintro e _ ⟨rfl, rfl⟩
 refine ⟨_, rfl, ?_⟩
 refine jM ?_
 refine Ops.cl (Enters.fn (evs.cons rfl evs.nil) Try.call31) (codes_ok Lb c2 b w1 hb (hrb.frm hf1 (by simp))) rfl ?_
 rintro e w2 ⟨hf2, Bb, cb, rfl, hob⟩
 refine ⟨_, rfl, ?_⟩
 refine Ops.r (Run.extract rfl rfl) rfl ?_
 refine Ops.r (Run.extract rfl rfl) rfl ?_
 refine Ops.cl (Enters.fn (evs.cons rfl (evs.cons rfl evs.nil)) Try.call30) (mustC_spec _ _ _) rfl ?_
 rintro e _ ⟨rfl, rfl⟩
 refine ⟨_, rfl, ?_⟩
 have hoa := hoa.frm hf2 (by simp)
 have hf0 := hf1.trans hf2 (by simp)
 have hW0 := hW.new hf0
 have hot := hot.frm hf0 (by simp)
 refine jA ?_
 refine jA ?_
 refine jO (jN (jv4 0 1 8 9 ?_))
 refine jS (jS (jR (jM ?_)))
 refine Ops.r (Run.lenS rfl Try.underlying31) rfl ?_
 refine Ops.r (v := .int .i64 ((0 : Nat) : Int)) (Run.mv rfl) rfl ?_
 refine jO (jN (jv6 0 8 9 22 23 24 ?_))
 refine jB ?_
 refine VC.loop (σ := Nat × Option Addr) (fun s => [(0, .pointer (some ⟨g, 0, none⟩)), (8, .slice Ba a.length ca), (9, .slice Bb b.length cb), (22, .slice Bt lt.length ct), (23, .int .i64 ((lt.length : Nat) : Int)), (24, .int .i64 ((s.1 : Nat) : Int))]) (fun s wr => s.1 ≤ lt.length ∧ IsW wr g s.2 (l ++ (lt.take s.1).flatMap (tokB a b)) ∧ Own wr 116 2 Ba a.length ca ((codesL a).flatMap CB) ∧ Own wr 116 2 Bb b.length cb ((codesL b).flatMap CB) ∧ Own wr 73 3 Bt lt.length ct (TC lt) ∧ Frm (g :: ob A) w wr ∧ ∀ x ∈ ob s.2, x ∈ ob A ∨ w.heap.size ≤ x) (fun s => lt.length - s.1) (0, A) (js6 rfl rfl rfl rfl rfl rfl) ⟨Nat.zero_le _, by simpa using hW0, hoa, hob, hot, hf0.mono (by simp), fun x hx => .inl hx⟩ ?_
 rintro ⟨i, A1⟩ wr ⟨hi, hW, hoa, hob, hot, hfr, hA1⟩
 dsimp only at hi hW hA1 ⊢
 have hfi := hfl (lt.take i) (fun t ht => hlt t (List.mem_of_mem_take ht))
 rw [List.length_take, Nat.min_eq_left hi] at hfi
 refine jS (jR ?_)
 refine Ops.r (Run.bin rfl rfl (Bin.lssN _ _)) rfl ?_
 refine jO (jN (jS ?_))
 refine VC.condD rfl (fun hc1 => ?_) (fun hc1 => ?_)
 ·
  obtain ⟨ad, rfl, hel⟩ := hot.rd.elem hc1
  rw [flat3 lt i hc1] at hel
  have hsn := tok_snoc hc1
  have hqok := hlt (lt.getD i (0, 0, 0)) (by rw [List.getD_eq_getElem?_getD, List.getElem?_eq_getElem hc1]; exact List.getElem_mem hc1)
  generalize lt.getD i (0, 0, 0) = q at hel hsn hqok
  refine jQ (jN (jv6 0 8 9 22 23 24 ?_))
  refine jS (jB (jS (jR ?_)))
  refine Ops.r (Run.indexS _ rfl rfl Try.underlying31 Try.sizeOf73 (by omega)) rfl ?_
  refine Ops.r (Run.loadA rfl Try.isAgg73 Try.sizeOf73 hel (by first | rfl | (simp; done))) rfl ?_
  refine Ops.m (Does.alloc zero73) rfl ?_
  rintro _ w1 ⟨rfl, hF1⟩
  refine Ops.st (Acts.storeA rfl rfl Try.sizeOf73 hF1.blk rfl (by intro v hv; exact TC_one [q] v (by simpa [TC] using hv))) ?_
  rintro w2 ⟨hb11, hf12, hs12⟩
  have hf2 : Frm [] wr w2 := hF1.frm.own hf12 (by simp)
  have hW := hW.new hf2
  have hoa := hoa.frm hf2 (by simp)
  have hob := hob.frm hf2 (by simp)
  have hot := hot.frm hf2 (by simp)
  have hfr0 := hfr
  have hfr := hfr.trans hf2 (by simp)
  refine jO (jN (jv7 0 8 9 11 22 23 24 ?_))
  refine jS (jS (jR ?_))
  refine Ops.r (Run.fieldAddr rfl Try.underlying73 rfl Try.sizeOf3 (by decide)) rfl ?_
  refine Ops.r (Run.load rfl Try.isAgg3 (hb11.cell 1)) rfl ?_
  refine Ops.r (Run.bin rfl rfl (Bin.eqlN _ 0)) rfl ?_
  refine jO (jN (jv8 0 8 9 11 22 23 24 30 ?_))
  refine VC.condD rfl (fun hc2 => ?_) (fun hc2 => ?_)
  ·
   have hq8 : q.1 < 256 := by rcases hqok with ⟨_, _, h⟩ | ⟨_, h, _⟩ <;> omega
   have etok : tokB a b q = cbits a q.1 := by unfold tokB; rw [if_pos hc2]
   refine jS (jR (jM ?_))
   refine jM ?_
   refine Ops.r (Run.fieldAddr rfl Try.underlying73 rfl Try.sizeOf5 (by decide)) rfl ?_
   refine Ops.r (Run.load rfl Try.isAgg5 (hb11.cell 0)) rfl ?_
   refine Ops.r (Run.convN _ rfl Try.underlying5 Try.underlying3 (by simp only [bmax]; omega)) rfl ?_
   refine Ops.cl (Enters.fn (evs.cons rfl (evs.cons rfl (evs.cons rfl evs.nil))) Try.call52) (cput_spec g q.1 ca A1 Ba _ a w2 ha.1 ha.2 (by omega) (by rw [List.length_append]; omega) hW hoa.rd) rfl ?_
   rintro e w3 ⟨⟨k, rfl⟩, A2, hW3, hf7, hA3⟩
   refine ⟨_, rfl, ?_⟩
   have hoa := hW.keepO hf7 hoa (by decide) (by decide)
   have hob := hW.keepO hf7 hob (by decide) (by decide)
   have hot := hW.keepO hf7 hot (by decide) (by decide)
   have hfr' := hfr.trans hf7 (fun x hx => up_w hA1 hfr.size x hx)
   have hA1 := up_a hA1 hfr.size hA3
   refine jO (jN (jv6 0 8 9 22 23 24 ?_))
   refine jX ?_
   refine thenQ_x (blockQ_x ?_)
   refine jN (jR ?_)
   refine Ops.r (Run.bin rfl rfl (Bin.add_i64 _ 1 (by omega))) rfl ?_
   refine jM ?_
   refine jO ?_
   refine jN ⟨(i + 1, A2), (js6 rfl rfl rfl rfl rfl rfl), ?_, ?_⟩
   ·
    exact ⟨hc1, by rw [hsn, List.flatMap_append, List.flatMap_singleton, etok, ← List.append_assoc]; exact hW3, hoa, hob, hot, hfr', hA1⟩
   ·
    first | omega | (dsimp only; omega)
  ·
   obtain ⟨q1, q3, q4, q5, q6⟩ : q.1 = 0 ∧ 3 ≤ q.2.1 ∧ q.2.1 ≤ 258 ∧ 1 ≤ q.2.2 ∧ q.2.2 ≤ 32768 := by
    rcases hqok with ⟨h, _⟩ | h
    ·
     exact absurd h hc2
    ·
     exact h
   have etok : tokB a b q = lenB a q.2.1 ++ wayB b q.2.2 := by unfold tokB; rw [if_neg hc2]
   have hlf := lenS_facts q3 q4
   have hwf := wayS_facts q5 q6
   have hc11 := cbits_len ha.1 ha.2 (show 257 + lenS q.2.1 < a.length by omega)
   refine jQ (jN (jv7 0 8 9 11 22 23 24 ?_))
   refine jS ?_
   refine VC.held (fun v => Blk v wr.heap.size 73 (tokC q).toArray) jK ?_
   have hS : (fun v => Blk v wr.heap.size 73 (tokC q).toArray) w2.drew := hb11.drawn (Drawn.drew _)
   have hW := hW.new (Drawn.drew w2).frm
   have hoa := hoa.frm (Drawn.drew w2).frm (by simp)
   have hob := hob.frm (Drawn.drew w2).frm (by simp)
   have hot := hot.frm (Drawn.drew w2).frm (by simp)
   have hfr := hfr.drawn (Drawn.drew w2)
   refine jH 0 rfl hS (fun w0 hw0 => Run.mv rfl) ?_
   refine jH 1 rfl hS (fun w0 hw0 => Run.mv rfl) ?_
   refine jH 3 rfl hS (fun w0 hw0 => Run.fieldAddr rfl Try.underlying73 rfl Try.sizeOf3 (by decide)) ?_
   refine jH 4 rfl hS (fun w0 hw0 => Run.load rfl Try.isAgg3 (hw0.cell 1)) ?_
   refine HOps.cl 2 rfl jK (Enters.fn (evs.cons rfl (evs.cons rfl evs.nil)) Try.call29) (more_spec (.pointer (some ⟨g, 0, none⟩)) (.slice Ba a.length ca) rfl rfl _) trivial rfl rfl ?_
   rintro e w5 ⟨g2, g3, rfl, hg2, hg3, hf5⟩
   have hS := hS.frm hf5 (by simp)
   have hW := hW.new hf5
   have hoa := hoa.frm hf5 (by simp)
   have hob := hob.frm hf5 (by simp)
   have hot := hot.frm hf5 (by simp)
   have hfr := hfr.trans hf5 (by simp)
   refine ⟨_, rfl, hS, ?_⟩
   refine HOps.cl 5 rfl jK (Enters.fn (evs.cons rfl evs.nil) Try.call53) (ilen_tok _ _ q3 q4) trivial rfl rfl ?_
   rintro e w6 ⟨rfl, hf6⟩
   have hS := hS.frm hf6 (by simp)
   have hW := hW.new hf6
   have hoa := hoa.frm hf6 (by simp)
   have hob := hob.frm hf6 (by simp)
   have hot := hot.frm hf6 (by simp)
   have hfr := hfr.trans hf6 (by simp)
   have hg2 := hg2.frm hf6 (by simp)
   have hg3 := hg3.frm hf6 (by simp)
   refine ⟨_, rfl, hS, ?_⟩
   refine jH 6 rfl hS (fun w0 hw0 => Run.extract rfl rfl) ?_
   refine jH 7 rfl hS (fun w0 hw0 => Run.extract rfl rfl) ?_
   refine jH 8 rfl hS (fun w0 hw0 => Run.extract rfl rfl) ?_
   refine HOps.cl 9 rfl jK (Enters.dyn rfl (evs.cons rfl (evs.cons rfl (evs.cons rfl evs.nil))) Try.call59) (more1_spec g g2 g3 (257 + lenS q.2.1) (longT.getD (lenS q.2.1) (0, 0)).2 (q.2.1 - (longT.getD (lenS q.2.1) (0, 0)).1) ca A1 Ba _ a w6 ha.1 ha.2 (by omega) hlf.2.2.1 (by omega) (by rw [List.length_append]; omega) hW hoa hg2 hg3) trivial rfl rfl ?_
   rintro e w7 ⟨rfl, A2, hW3, hf7, hA3⟩
   have hS := hW.keepB hf7 hS (by decide) (by decide)
   have hoa := hW.keepO hf7 hoa (by decide) (by decide)
   have hob := hW.keepO hf7 hob (by decide) (by decide)
   have hot := hW.keepO hf7 hot (by decide) (by decide)
   have hA1n := up_a hA1 hfr.size hA3
   have hfr := hfr.trans hf7 (fun x hx => up_w hA1 hfr.size x hx)
   have hA1 := hA1n
   have hW := hW3
   refine ⟨_, rfl, hS, ?_⟩
   refine HOps.done jK ?_
   refine jN (jv7 0 8 9 11 22 23 24 ?_)
   refine VC.held (fun v => Blk v wr.heap.size 73 (tokC q).toArray) jK ?_
   have hS : (fun v => Blk v wr.heap.size 73 (tokC q).toArray) w7.drew := hS.drawn (Drawn.drew _)
   have hW := hW.new (Drawn.drew w7).frm
   have hoa := hoa.frm (Drawn.drew w7).frm (by simp)
   have hob := hob.frm (Drawn.drew w7).frm (by simp)
   have hot := hot.frm (Drawn.drew w7).frm (by simp)
   have hfr := hfr.drawn (Drawn.drew w7)
   refine jH 0 rfl hS (fun w0 hw0 => Run.mv rfl) ?_
   refine jH 1 rfl hS (fun w0 hw0 => Run.mv rfl) ?_
   refine jH 3 rfl hS (fun w0 hw0 => Run.fieldAddr rfl Try.underlying73 rfl Try.sizeOf3 (by decide)) ?_
   refine jH 4 rfl hS (fun w0 hw0 => Run.load rfl Try.isAgg3 (hw0.cell 2)) ?_
   refine HOps.cl 2 rfl jK (Enters.fn (evs.cons rfl (evs.cons rfl evs.nil)) Try.call29) (more_spec (.pointer (some ⟨g, 0, none⟩)) (.slice Bb b.length cb) rfl rfl _) trivial rfl rfl ?_
   rintro e w8 ⟨g2, g3, rfl, hg2, hg3, hf5⟩
   have hS := hS.frm hf5 (by simp)
   have hW := hW.new hf5
   have hoa := hoa.frm hf5 (by simp)
   have hob := hob.frm hf5 (by simp)
   have hot := hot.frm hf5 (by simp)
   have hfr := hfr.trans hf5 (by simp)
   refine ⟨_, rfl, hS, ?_⟩
   refine HOps.cl 5 rfl jK (Enters.fn (evs.cons rfl evs.nil) Try.call54) (iway_tok _ _ q5 q6) trivial rfl rfl ?_
   rintro e w9 ⟨rfl, hf6⟩
   have hS := hS.frm hf6 (by simp)
   have hW := hW.new hf6
   have hoa := hoa.frm hf6 (by simp)
   have hob := hob.frm hf6 (by simp)
   have hot := hot.frm hf6 (by simp)
   have hfr := hfr.trans hf6 (by simp)
   have hg2 := hg2.frm hf6 (by simp)
   have hg3 := hg3.frm hf6 (by simp)
   refine ⟨_, rfl, hS, ?_⟩
   refine jH 6 rfl hS (fun w0 hw0 => Run.extract rfl rfl) ?_
   refine jH 7 rfl hS (fun w0 hw0 => Run.extract rfl rfl) ?_
   refine jH 8 rfl hS (fun w0 hw0 => Run.extract rfl rfl) ?_
   refine HOps.cl 9 rfl jK (Enters.dyn rfl (evs.cons rfl (evs.cons rfl (evs.cons rfl evs.nil))) Try.call59) (more1_spec g g2 g3 (wayS q.2.2) (wayT.getD (wayS q.2.2) (0, 0)).2 (q.2.2 - (wayT.getD (wayS q.2.2) (0, 0)).1) cb A2 Bb _ b w9 hb.1 hb.2 (by omega) hwf.2.2.1 (by omega) (by simp only [List.length_append, bitsL_len]; omega) hW hob hg2 hg3) trivial rfl rfl ?_
   rintro e w10 ⟨rfl, A3, hW3, hf7, hA3⟩
   have hS := hW.keepB hf7 hS (by decide) (by decide)
   have hoa := hW.keepO hf7 hoa (by decide) (by decide)
   have hob := hW.keepO hf7 hob (by decide) (by decide)
   have hot := hW.keepO hf7 hot (by decide) (by decide)
   have hA1n := up_a hA1 hfr.size hA3
   have hfr := hfr.trans hf7 (fun x hx => up_w hA1 hfr.size x hx)
   have hA1 := hA1n
   have hW := hW3
   refine ⟨_, rfl, hS, ?_⟩
   refine HOps.done jK ?_
   refine blockQ_n (jN ?_)
   refine jv6 0 8 9 22 23 24 ?_
   refine jR ?_
   refine Ops.r (Run.bin rfl rfl (Bin.add_i64 _ 1 (by omega))) rfl ?_
   refine jM ?_
   refine jO ?_
   refine jN ⟨(i + 1, A3), (js6 rfl rfl rfl rfl rfl rfl), ?_, ?_⟩
   ·
    exact ⟨hc1, by rw [hsn, List.flatMap_append, List.flatMap_singleton, etok]; unfold lenB wayB; simpa [List.append_assoc] using hW, hoa, hob, hot, hfr, hA1⟩
   ·
    first | omega | (dsimp only; omega)
 ·
  refine jX ?_
  refine thenQ_x (thenQ_x (blockQ_x ?_))
  refine jN (jv2 0 8 ?_)
  refine jR (jM ?_)
  refine jM ?_
  refine Ops.cl (Enters.fn (evs.cons rfl (evs.cons rfl (evs.cons rfl evs.nil))) Try.call52) (cput_spec g 256 ca A1 Ba _ a wr ha.1 ha.2 (by omega) (by rw [List.length_append]; omega) hW hoa.rd) rfl ?_
  rintro e w3 ⟨⟨k, rfl⟩, h60⟩
  refine ⟨_, rfl, ?_⟩
  refine jO ?_
  refine end0n ?_
  have ei : i = lt.length := by omega
  subst ei
  rw [List.take_length, List.append_assoc] at h60
  exact ⟨rfl, WR.trans hfr hA1 h60⟩
end Go.Proofs.Ytnmieihcjjiccaa
namespace Go.Proofs.Ytnmieihcjjiccaa
open Go.RowKit
section
variable {P : Program} {n : NF} {ops : Array Oper} {S : World → Prop} {Pn : List PanicEntry → World → Prop} {L fuel : Nat} {listed : Array Bool} {Γ : Env} {w : World} {K : Env → World → Prop}
end
theorem compl_toNat (n : Nat) (h : n ≤ 4611686018427387904) : (BitVec.ofInt 64 (-1) ^^^ BitVec.ofInt 64 (n : Int)).toNat = 18446744073709551615 - n := by
 have e1 : BitVec.ofInt 64 (-1) = BitVec.allOnes 64 := by decide
 have e2 : BitVec.ofInt 64 (n : Int) = BitVec.ofNat 64 n := BitVec.ofInt_natCast 64 n
 rw [e1, e2, BitVec.allOnes_xor, BitVec.toNat_not, BitVec.toNat_ofNat]
 have : n % 2 ^ 64 = n := Nat.mod_eq_of_lt (by omega)
 rw [this]
theorem Run.compl {P : Program} {Γ : Env} {w : World} {dst : Option Nat} {xT T : TypeId} {pos : String} {after : Array Edge} {g : Option (Nat × Bool)} {x : Operand} (n : Nat) (hx : ev? Γ x = some (.int .i64 (n : Int))) (h : n ≤ 4611686018427387904) : Run P ⟨dst, .unOp .xor xT x, T, pos, after, g⟩ Γ w (.int .i64 (-(n : Int) - 1)) := fun ρ hρ => by
 have e : IntKind.i64.wrap ((18446744073709551615 - n : Nat) : Int) = -(n : Int) - 1 := by
  simp only [IntKind.wrap, IntKind.bits, IntKind.signed, Bool.true_and, decide_eq_true_eq, Nat.reduceSub, ge_iff_le]
  have h2 : (9223372036854775808 : Int) ≤ ((18446744073709551615 - n : Nat) : Int) % 18446744073709551616 := by omega
  rw [if_pos (by exact h2)]
  omega
 have e2 : (Op.unary .xor (.int .i64 (n : Int))).run P w = .ok (.int .i64 (-(n : Int) - 1)) w := by
  show Sem.run P (pure (Value.int .i64 (IntKind.i64.wrap ((BitVec.ofInt 64 (-1) ^^^ BitVec.ofInt 64 (n : Int)).toNat)))) w = _
  rw [compl_toNat n h, e]
  rfl
 simp only [execOp, hρ _ _ hx, Sem.run_bind, e2, Result.andThen_ok, Sem.run_pure]
theorem wrap_compl (n : Nat) (h : n ≤ 65535) : IntKind.u8.wrap (-(n : Int) - 1) = (((65535 - n) % 256 : Nat) : Int) := by
 simp only [IntKind.wrap, IntKind.bits, IntKind.signed, Bool.false_and, Bool.false_eq_true, if_false]; omega
theorem wrap_compl8 (n : Nat) (h : n ≤ 65535) : IntKind.u8.wrap (-((n / 256 : Nat) : Int) - 1) = (((65535 - n) / 256 : Nat) : Int) := by
 simp only [IntKind.wrap, IntKind.bits, IntKind.signed, Bool.false_and, Bool.false_eq_true, if_false]; omega
theorem Bin.shr_neg8 {k' : IntKind} (n : Nat) : Bin .shr .i64 (-(n : Int) - 1) k' ((8 : Nat) : Int) (.int .i64 (-((n / 256 : Nat) : Int) - 1)) := fun P T w => by
 have h0 : ¬ (((8 : Nat) : Int) < 0) := by omega
 have e : (-(n : Int) - 1).fdiv (2 ^ (min ((8 : Nat) : Int).toNat IntKind.i64.bits)) = -((n / 256 : Nat) : Int) - 1 := by
  show (-(n : Int) - 1).fdiv 256 = _
  rw [Int.fdiv_eq_ediv_of_nonneg _ (by decide)]
  omega
 simp only [binOp, Op.shift, h0, if_false, e]
 rfl
end Go.Proofs.Ytnmieihcjjiccaa
namespace Go.Proofs.Ytnmieihcjjiccaa
open Go.RowKit
theorem IsU.keepB {w w' : World} {g x : Nat} {A : Option Addr} {l : List Bool} {t : TypeId} {cs : Array Value} (h : IsU w g A l) (f : Frm (g :: ob A) w w') (hb : Blk w x t cs) (h1 : 67 ≠ t) (h2 : 4 ≠ t) : Blk w' x t cs := by
 obtain ⟨c, h3, h4⟩ := h
 refine hb.frm f (fun hx => ?_)
 rcases List.mem_cons.1 hx with rfl | hx
 ·
  exact h3.ne hb h1 rfl
 ·
  exact h4.ne_blk hb h2 hx
theorem IsU.keepO {w w' : World} {g e size n c : Nat} {A B : Option Addr} {l : List Bool} {xs : List Value} (h : IsU w g A l) (f : Frm (g :: ob A) w w') (ho : Own w e size B n c xs) (h1 : 67 ≠ e) (h2 : 4 ≠ e) : Own w' e size B n c xs := by
 obtain ⟨c2, h3, h4⟩ := h
 refine ho.frm f (fun x hx hx2 => ?_)
 rcases List.mem_cons.1 hx2 with rfl | hx2
 ·
  exact ho.ne_blk h3 (Ne.symm h1) hx
 ·
  exact h4.ne_own ho h2 x hx2 hx
theorem IsU.new {w w' : World} {g : Nat} {A : Option Addr} {l : List Bool} (h : IsU w g A l) (f : Frm [] w w') : IsU w' g A l := h.frm f (by simp)
theorem UR.trans {w w1 w2 : World} {g : Nat} {A A1 : Option Addr} {l2 : List Bool} (f : Frm (g :: ob A) w w1) (hA : ∀ x ∈ ob A1, x ∈ ob A ∨ w.heap.size ≤ x) (h : UR w1 w2 g A1 l2) : UR w w2 g A l2 := by
 obtain ⟨A2, h1, h2, h3⟩ := h
 refine ⟨A2, h1, f.trans h2 (fun x hx => ?_), fun x hx => ?_⟩
 ·
  rcases List.mem_cons.1 hx with rfl | hx
  ·
   exact .inl (by simp)
  ·
   rcases hA x hx with h | h
   ·
    exact .inl (by simp [h])
   ·
    exact .inr h
 ·
  rcases h3 x hx with h | h
  ·
   exact hA x h
  ·
   exact .inr (Nat.le_trans f.size h)
end Go.Proofs.Ytnmieihcjjiccaa
namespace Go.Proofs.Ytnmieihcjjiccaa
open Go.RowKit
theorem findM_ok (bs : List Nat) (hl : bs.length ≤ 32768) (hB : ∀ b ∈ bs, b < 256) : ∀ m a, ∀ t ∈ findM bs m a, TkOk t
 | 0, a, t, h => by simp [findM] at h
 | m + 1, a, t, h => by
  unfold findM at h
  split at h
  ·
   cases h
  ·
   rename_i h1
   split at h
   ·
    rcases List.mem_cons.1 h with rfl | h
    ·
     exact .inl ⟨rfl, rfl, getD_lt hB a⟩
    ·
     exact findM_ok bs hl hB m _ t h
   ·
    rename_i h2
    rcases List.mem_cons.1 h with rfl | h
    ·
     rcases bestM_facts bs a (by omega) with h3 | ⟨h3, h4, h5, h6, _⟩
     ·
      rw [h3] at h2; exact absurd rfl h2
     ·
      exact .inr ⟨rfl, h3, h4, h5, by dsimp only; omega⟩
    ·
     exact findM_ok bs hl hB m _ t h
theorem toks_ok (bs : List Nat) (a : Nat) (hl : bs.length ≤ 32768) (hB : ∀ b ∈ bs, b < 256) : ∀ t ∈ toks bs a, TkOk t := findM_ok bs hl hB _ a
theorem toks_len0 (bs : List Nat) : (toks bs 0).length ≤ bs.length := toks_len bs bs.length 0
theorem fixedL_ok : LOk fixedL := by
 refine ⟨⟨by decide +kernel, by decide +kernel⟩, by decide +kernel⟩
theorem fixedW_ok : LOk fixedW := by
 refine ⟨⟨by decide +kernel, by decide +kernel⟩, by decide +kernel⟩
theorem ifixed2 (w : World) : Calls Try.prog 20 #[] w fun e w' => ∃ A c B d, e = .returned (.tuple #[.slice A fixedL.length c, .slice B fixedW.length d]) ∧ Own w' 3 1 A fixedL.length c (IB fixedL) ∧ Own w' 3 1 B fixedW.length d (IB fixedW) ∧ Frm [] w w' := by
 rw [fixedL_len, fixedW_len]
 exact ifixed_spec w
def fixM (bs : List Nat) : List Bool := bitsL 1 1 ++ bitsL 1 2 ++ toksB fixedL fixedW (toks bs 0)
theorem fixM_len (bs : List Nat) (hl : bs.length ≤ 32768) (hB : ∀ b ∈ bs, b < 256) : (fixM bs).length ≤ 2000000 := by
 have h1 := toks_flat fixedL_ok fixedW_ok (by decide +kernel) (by decide +kernel) _ (toks_ok bs 0 hl hB)
 have h2 := toks_len0 bs
 have h3 := cbits_len fixedL_ok.1 fixedL_ok.2 (show 256 < fixedL.length by decide +kernel)
 unfold fixM toksB
 simp only [List.length_append, bitsL_len]
 omega
set_option maxRecDepth 100000 in
theorem dfix_spec (A : Option Addr) (c : Nat) (bs : List Nat) (w : World) (hl : bs.length ≤ 32768) (hc : bs.length ≤ c) (hB : ∀ b ∈ bs, b < 256) (hr : Rd w 1 A bs.length (NB bs)) :
  Calls Try.prog 7 #[.slice A bs.length c] w fun e w' => ∃ B d, e = .returned (.tuple #[.slice B (pack (fixM bs)).length d, .int .i64 ((0 : Nat) : Int)]) ∧ Own w' 5 1 B (pack (fixM bs)).length d (NB (pack (fixM bs))) ∧ Frm [] w w' ∧ ∀ x ∈ ob B, w.heap.size ≤ x := by
 have htl := toks_len0 bs
 have hfl := fixM_len bs hl hB
 refine VC.calls (nt := 33) (res := #[.tmp 2, .tmp 3]) Try.func7 rfl Try.ntmps7 Try.results7 rfl ?_
 refine jS (jR (jA ?_))
 refine Ops.r (v := .int .i64 ((0 : Nat) : Int)) (Run.asg rfl) rfl ?_
 refine jO (jN (jv1 0 ?_))
 refine jS (jR (jM ?_))
 refine Ops.cl (Enters.fn (evs.cons rfl evs.nil) Try.call17) (find_small A c bs w hl hc hB hr) rfl ?_
 rintro e w1 ⟨Bt, dt, rfl, hot, hf1, _⟩
 refine ⟨_, rfl, ?_⟩
 refine jM ?_
 refine Ops.r (Run.extract rfl rfl) rfl ?_
 refine Ops.r (Run.extract rfl rfl) rfl ?_
 refine jA ?_
 refine jA ?_
 refine jO (jN (jv2 4 5 ?_))
 refine jS (jS (jR (jM ?_)))
 refine Ops.r (Run.bin rfl rfl (Bin.neqN _ 0)) rfl ?_
 refine jO (jN (jv3 4 5 15 ?_))
 refine VC.condF rfl (by decide) ?_
 refine jQ (jN (jv1 4 ?_))
 refine jS (jR ?_)
 refine Ops.cl (Enters.fn evs.nil Try.call18) (new_spec _) rfl ?_
 rintro e w2 ⟨rfl, hW, hf2, _⟩
 refine ⟨_, rfl, ?_⟩
 have hot := hot.frm hf2 (by simp)
 have K := hf1.trans hf2 (by simp)
 have hgg : w.heap.size ≤ w1.heap.size := hf1.size
 generalize w1.heap.size = g at hW hgg ⊢
 refine jA ?_
 refine jO (jN (jv2 4 6 ?_))
 refine jS (jR (jM ?_))
 refine Ops.cl (Enters.fn (evs.cons rfl (evs.cons rfl (evs.cons rfl evs.nil))) Try.call19) (put_ok g 1 1 none [] w2 (by decide) (by omega) (by simp) hW) rfl ?_
 rintro e w3 ⟨rfl, A1, hW1, hf3, hA1⟩
 refine ⟨_, rfl, ?_⟩
 have hot := hW.keepO hf3 hot (by decide) (by decide)
 have K := K.own hf3 (by simp [ob]; exact hgg)
 have hA1 : ∀ x ∈ ob A1, w.heap.size ≤ x := fun x hx => by rcases hA1 x hx with h | h; cases h; have := hf1.size; have := hf2.size; omega
 refine jO (jN (jv2 4 6 ?_))
 refine jS (jR (jM ?_))
 refine Ops.cl (Enters.fn (evs.cons rfl (evs.cons rfl (evs.cons rfl evs.nil))) Try.call19) (put_ok g 1 2 A1 _ w3 (by decide) (by omega) (by simp [bitsL_len]) hW1) rfl ?_
 rintro e w4 ⟨rfl, A2, hW2, hf4, hA2⟩
 refine ⟨_, rfl, ?_⟩
 have hot := hW1.keepO hf4 hot (by decide) (by decide)
 have hA2 : ∀ x ∈ ob A2, w.heap.size ≤ x := fun x hx => by rcases hA2 x hx with h | h; exact hA1 x h; have := K.size; omega
 have K := K.own hf4 (fun x hx => by rcases List.mem_cons.1 hx with rfl | hx; exact hgg; exact hA1 x hx)
 refine jO (jN (jv2 4 6 ?_))
 refine jS (jR ?_)
 refine Ops.cl (Enters.fn evs.nil Try.call20) (ifixed2 _) rfl ?_
 rintro e w5 ⟨La, c1, Lb, c2, rfl, hoa, hob, hf5⟩
 refine ⟨_, rfl, ?_⟩
 have hot := hot.frm hf5 (by simp)
 have hW2 := hW2.new hf5
 have K := K.trans hf5 (by simp)
 refine jM ?_
 refine Ops.r (Run.extract rfl rfl) rfl ?_
 refine Ops.r (Run.extract rfl rfl) rfl ?_
 refine jA ?_
 refine jA ?_
 refine jO (jN (jv4 4 6 7 8 ?_))
 refine jS (jR (jM ?_))
 refine jM ?_
 refine jM ?_
 refine jM ?_
 refine Ops.cl (Enters.fn (evs.cons rfl (evs.cons rfl (evs.cons rfl (evs.cons rfl evs.nil)))) Try.call21) (tokens_spec g dt c1 c2 A2 Bt La Lb _ (toks bs 0) fixedL fixedW w5 fixedL_ok fixedW_ok (by rw [fixedL_len]; omega) (by rw [fixedW_len]; omega) (toks_ok bs 0 hl hB) (by omega) (by simp [bitsL_len]) hW2 hot hoa.rd hob.rd) rfl ?_
 rintro e w6 ⟨rfl, A3, hW3, hf6, hA3⟩
 refine ⟨_, rfl, ?_⟩
 have K := K.own hf6 (fun x hx => by rcases List.mem_cons.1 hx with rfl | hx; exact hgg; exact hA2 x hx)
 have hW3 : IsW w6 g A3 (fixM bs) := hW3
 refine jO (jN (jv1 6 ?_))
 refine jS (jR (jM ?_))
 refine Ops.cl (Enters.fn (evs.cons rfl evs.nil) Try.call22) (bytes_spec g A3 (fixM bs) w6 (by omega) hW3) rfl ?_
 rintro e w7 ⟨B, d, rfl, hB7, hf7, hu7⟩
 refine ⟨_, rfl, ?_⟩
 refine jA ?_
 refine Ops.r (v := .int .i64 ((0 : Nat) : Int)) (Run.asg rfl) rfl ?_
 refine jO (jN (jv2 2 3 ?_))
 refine jT ?_
 refine end2 rfl rfl ?_
 exact ⟨B, d, rfl, hB7, K.trans hf7 (by simp), fun x hx => Nat.le_trans K.size (hu7 x hx)⟩
set_option maxRecDepth 100000 in
theorem dfix_big (A : Option Addr) (n c : Nat) (w : World) (hn : 65536 < n) :
  Calls Try.prog 7 #[.slice A n c] w fun e w' => e = .returned (.tuple #[.slice none 0 0, .int .i64 ((5 : Nat) : Int)]) ∧ w = w' := by
 refine VC.calls (nt := 33) (res := #[.tmp 2, .tmp 3]) Try.func7 rfl Try.ntmps7 Try.results7 rfl ?_
 refine jS (jR (jA ?_))
 refine Ops.r (v := .int .i64 ((0 : Nat) : Int)) (Run.asg rfl) rfl ?_
 refine jO (jN (jv1 0 ?_))
 refine jS (jR (jM ?_))
 refine Ops.cl (Enters.fn (evs.cons rfl evs.nil) Try.call17) (find_big A n c w hn) rfl ?_
 rintro e _ ⟨rfl, rfl⟩
 refine ⟨_, rfl, ?_⟩
 refine jM ?_
 refine Ops.r (Run.extract rfl rfl) rfl ?_
 refine Ops.r (Run.extract rfl rfl) rfl ?_
 refine jA ?_
 refine jA ?_
 refine jO (jN (jv2 4 5 ?_))
 refine jS (jS (jR (jM ?_)))
 refine Ops.r (Run.bin rfl rfl (Bin.neqN _ 0)) rfl ?_
 refine jO (jN (jv3 4 5 15 ?_))
 refine VC.condT rfl (by decide) ?_
 refine jS (jR (jM ?_))
 refine jA ?_
 refine jA ?_
 refine jO (jN (jv2 2 3 ?_))
 refine jT ?_
 refine thenQ_r (end2 rfl rfl ?_)
 exact ⟨rfl, rfl⟩
end Go.Proofs.Ytnmieihcjjiccaa
namespace Go.Proofs.Ytnmieihcjjiccaa
open Go.RowKit
set_option maxRecDepth 100000 in
theorem cut_sp (A : Option Addr) (c least : Nat) (l : List Nat) (w : World) (hl : l.length ≤ 1000000) (hc : l.length ≤ c) (hr : Rd w 1 A l.length (NI l)) :
  Calls Try.prog 26 #[.slice A l.length c, .int .i64 ((least : Nat) : Int)] w fun e w' => (∃ B d, e = .returned (.slice B (cutL l least).length d) ∧ Rd w 1 B (cutL l least).length (NI (cutL l least)) ∧ (cutL l least).length ≤ d) ∧ w = w' := by
 refine VC.calls (nt := 24) (res := #[.tmp 4]) Try.func26 rfl Try.ntmps26 Try.results26 rfl ?_
 refine jS (jR (jA ?_))
 refine jO (jN (jv2 0 1 ?_))
 refine jS (jR (jM ?_))
 refine Ops.r (Run.lenS rfl Try.underlying38) rfl ?_
 refine jA ?_
 refine jO (jN (jv3 0 1 5 ?_))
 refine jS (jB ?_)
 refine VC.loop (σ := Nat) (fun s => [(0, .slice A l.length c), (1, .int .i64 ((least : Nat) : Int)), (5, .int .i64 ((s : Nat) : Int))]) (fun s wr => s ≤ l.length ∧ cutN l least l.length = cutN l least s ∧ w = wr) (fun s => s) l.length (js3 rfl rfl rfl) ⟨Nat.le_refl _, rfl, rfl⟩ ?_
 rintro n wr ⟨hn, hcn, rfl⟩
 refine jS (jS ?_)
 refine VC.split1 [(0, _), (1, _), (5, _)] (js3 rfl rfl rfl) 18 (.bool (decide (least < n ∧ l.getD (n - 1) 0 = 0))) ?_ ?_
 ·
  refine jR ?_
  refine jM ?_
  refine jM ?_
  refine Ops.r (Run.bin rfl rfl (Bin.gtrN _ _)) rfl ?_
  by_cases hs10 : least < n
  ·
   obtain ⟨ad, hA, _, hadc⟩ := hr.2 (by omega)
   subst hA
   have hcell := hadc (n - 1) _ (NI_get l (n - 1) (by omega))
   refine jM ?_
   refine jG ?_
   refine jG ?_
   refine Ops.rg rfl au (Run.bin rfl rfl (Bin.sub_i64 _ 1 (by omega) (by omega))) rfl ?_
   refine Ops.rg rfl au (Run.index1 _ rfl rfl Try.underlying38 Try.sizeOf3 (by omega)) rfl ?_
   refine Ops.rg rfl au (Run.load rfl Try.isAgg3 hcell) rfl ?_
   refine Ops.rg rfl au (Run.bin rfl rfl (Bin.eqlN _ 0)) rfl ?_
   by_cases hs17 : l.getD (n - 1) 0 = 0
   ·
    refine Ops.r (Run.pickT rfl rfl au) rfl ?_
    refine jO ?_
    refine jN ⟨(js4 (jC (by simp [*])) rfl rfl rfl), rfl⟩
   ·
    refine Ops.r (Run.pickT rfl rfl au) rfl ?_
    refine jO ?_
    refine jN ⟨(js4 (jC (by simp [*])) rfl rfl rfl), rfl⟩
  ·
   refine jM ?_
   refine jU ?_
   refine jU ?_
   refine jU ?_
   refine jU ?_
   refine jU ?_
   refine jU ?_
   refine Ops.r (Run.pickF rfl rfl au) rfl ?_
   refine jO ?_
   refine jN ⟨(js4 (jC (by simp [*])) rfl rfl rfl), rfl⟩
 ·
  intro Γ hΓ
  refine jN (VC.sub _ hΓ ?_)
  refine VC.condD rfl (fun hc1 => ?_) (fun hc1 => ?_)
  ·
   refine jQ (jN (jv3 0 1 5 ?_))
   refine jB (jR (jM ?_))
   refine Ops.r (Run.bin rfl rfl (Bin.sub_i64 _ 1 (by omega) (by omega))) rfl ?_
   refine jA ?_
   refine jO ?_
   refine blockQ_n (jN ⟨n - 1, (js3 rfl rfl rfl), ?_, ?_⟩)
   ·
    exact ⟨by omega, hcn.trans (cutN_go hc1.1 hc1.2), rfl⟩
   ·
    first | omega | (dsimp only; omega)
  ·
   refine jX ?_
   refine thenQ_x (thenQ_x (blockQ_x ?_))
   refine jN (jv2 0 5 ?_)
   refine jS (jR (jM ?_))
   refine jM ?_
   refine Ops.r (Run.sliceS 0 n rfl Try.underlying38 Try.sizeOf3 evB.none_ (evB.some_ rfl) (by omega) (by omega)) rfl ?_
   refine jA ?_
   refine jO (jN (jv1 4 ?_))
   refine jT ?_
   refine end1 rfl ?_
   have e1 : cutN l least l.length = n := hcn.trans (cutN_stop hc1)
   have e2 : cutL l least = l.take n := by unfold cutL; rw [e1]
   have e3 : (l.take n).length = n := by rw [List.length_take, Nat.min_eq_left hn]
   rw [e2, e3]
   refine ⟨⟨_, _, rfl, ?_, by omega⟩, rfl⟩
   have := hr.cut (l := 0) (r := n) (cap := c) (by omega) hn hc
   simpa [NI, List.map_take] using this
set_option maxRecDepth 100000 in
theorem run_sp (A : Option Addr) (c a : Nat) (l : List Nat) (w : World) (hl : l.length ≤ 1000000) (ha : a < l.length) (hr : Rd w 1 A l.length (NI l)) :
  Calls Try.prog 58 #[.slice A l.length c, .int .i64 ((a : Nat) : Int)] w fun e w' => e = .returned (.int .i64 ((runN l a : Nat) : Int)) ∧ Drawn w w' := by
 obtain ⟨ad, hA, _, hadc⟩ := hr.2 (by omega)
 subst hA
 refine VC.calls (nt := 27) (res := #[.tmp 4]) Try.func58 rfl Try.ntmps58 Try.results58 rfl ?_
 refine jS (jR ?_)
 refine Ops.r (v := .int .i64 ((0 : Nat) : Int)) (Run.asg rfl) rfl ?_
 refine jO (jN (jv2 0 1 ?_))
 refine jS (jR (jM ?_))
 refine jA ?_
 refine jO (jN (jv3 0 1 5 ?_))
 refine jS (jB ?_)
 refine VC.loop (σ := Nat) (fun s => [(0, .slice (some ad) l.length c), (1, .int .i64 ((a : Nat) : Int)), (5, .int .i64 ((s : Nat) : Int))]) (fun s wr => a ≤ s ∧ s ≤ l.length ∧ runN l a = (s - a) + runF l (l.getD a 0) (l.length - s) s ∧ Drawn w wr) (fun s => l.length - s) a (js3 rfl rfl rfl) ⟨Nat.le_refl _, by omega, by simp [runN], Drawn.refl w⟩ ?_
 rintro n wr ⟨hna, hn, hcn, hd⟩
 have hcell : ∀ j, j < l.length → wr.cell? (ad.add j) = some (.int .i64 ((l.getD j 0 : Nat) : Int)) := fun j hj => by
  obtain ⟨m, rfl⟩ := hd
  exact hadc j _ (NI_get l j hj)
 refine jS (jS ?_)
 refine VC.splitR [(0, .slice (some ad) l.length c), (1, .int .i64 ((a : Nat) : Int)), (5, .int .i64 ((n : Nat) : Int))] (Drawn w) 21 (.bool (decide (n < l.length ∧ l.getD n 0 = l.getD a 0))) ?_ ?_
 ·
  refine VC.still jK jK ?_
  refine SOps.r (Run.mv rfl) rfl ?_
  refine SOps.r (Run.mv rfl) rfl ?_
  refine SOps.r (Run.lenS rfl Try.underlying38) rfl ?_
  refine SOps.r (Run.bin rfl rfl (Bin.lssN _ _)) rfl ?_
  by_cases hs10 : n < l.length
  ·
   refine SOps.r (Run.mv rfl) rfl ?_
   refine SOps.rg rfl au (Run.mv rfl) rfl ?_
   refine SOps.rg rfl au (Run.mv rfl) rfl ?_
   refine SOps.rg rfl au (Run.index1 _ rfl rfl Try.underlying38 Try.sizeOf3 (by omega)) rfl ?_
   refine SOps.rg rfl au (Run.load rfl Try.isAgg3 (hcell _ (by omega))) rfl ?_
   refine SOps.rg rfl au (Run.mv rfl) rfl ?_
   refine SOps.rg rfl au (Run.mv rfl) rfl ?_
   refine SOps.rg rfl au (Run.index1 _ rfl rfl Try.underlying38 Try.sizeOf3 (by omega)) rfl ?_
   refine SOps.rg rfl au (Run.load rfl Try.isAgg3 (hcell _ (by omega))) rfl ?_
   refine SOps.rg rfl au (Run.bin rfl rfl (Bin.eqlN _ _)) rfl ?_
   by_cases hs20 : l.getD n 0 = l.getD a 0
   ·
    refine SOps.r (Run.pickT rfl rfl au) rfl ?_
    refine SOps.nil ?_
    refine jN ⟨(js4 (jC (by simp [*])) rfl rfl rfl), (hd.trans (Drawn.drew _))⟩
   ·
    refine SOps.r (Run.pickT rfl rfl au) rfl ?_
    refine SOps.nil ?_
    refine jN ⟨(js4 (jC (by simp [*])) rfl rfl rfl), (hd.trans (Drawn.drew _))⟩
  ·
   refine SOps.r (Run.mv rfl) rfl ?_
   refine SOps.sk rfl au rfl ?_
   refine SOps.sk rfl au rfl ?_
   refine SOps.sk rfl au rfl ?_
   refine SOps.sk rfl au rfl ?_
   refine SOps.sk rfl au rfl ?_
   refine SOps.sk rfl au rfl ?_
   refine SOps.sk rfl au rfl ?_
   refine SOps.sk rfl au rfl ?_
   refine SOps.sk rfl au rfl ?_
   refine SOps.r (Run.pickF rfl rfl au) rfl ?_
   refine SOps.nil ?_
   refine jN ⟨(js4 (jC (by simp [*])) rfl rfl rfl), (hd.trans (Drawn.drew _))⟩
 ·
  intro Γ wr2 hΓ hd2
  refine jN (VC.sub _ hΓ ?_)
  refine VC.condD rfl (fun hc1 => ?_) (fun hc1 => ?_)
  ·
   refine jQ (jN (jv3 0 1 5 ?_))
   refine jB (jR (jM ?_))
   refine Ops.r (Run.bin rfl rfl (Bin.add_i64 _ 1 (by omega))) rfl ?_
   refine jA ?_
   refine jO ?_
   refine blockQ_n (jN ⟨n + 1, (js3 rfl rfl rfl), ?_, ?_⟩)
   ·
    refine ⟨by omega, by omega, ?_, hd2⟩
    rw [hcn, runF_go hc1.1 hc1.2 (by omega), show l.length - (n + 1) = l.length - n - 1 by omega]
    omega
   ·
    first | omega | (dsimp only; omega)
  ·
   refine jX ?_
   refine thenQ_x (thenQ_x (blockQ_x ?_))
   refine jN (jv2 1 5 ?_)
   refine jS (jR (jM ?_))
   refine jM ?_
   refine Ops.r (Run.bin rfl rfl (Bin.sub_i64 _ _ (by omega) (by omega))) rfl ?_
   refine jA ?_
   refine jO (jN (jv1 4 ?_))
   refine jT ?_
   refine end1 rfl ?_
   refine ⟨?_, hd2⟩
   rw [hcn, runF_stop hc1]
   simp
set_option maxRecDepth 100000 in
theorem order_sp (A : Option Addr) (c : Nat) (l : List Nat) (w : World) (hl : l.length = 19) (hr : Rd w 1 A l.length (NI l)) :
  Calls Try.prog 28 #[.slice A l.length c] w fun e w' => ∃ B d, e = .returned (.slice B (ordL l).length d) ∧ Own w' 3 1 B (ordL l).length d (NI (ordL l)) ∧ Frm [] w w' ∧ ∀ x ∈ ob B, w.heap.size ≤ x := by
 obtain ⟨ad, hA, _, hadc⟩ := hr.2 (by omega)
 subst hA
 refine VC.calls (nt := 19) (res := #[.tmp 2]) Try.func28 rfl Try.ntmps28 Try.results28 rfl ?_
 refine jS (jR (jA ?_))
 refine jO (jN (jv1 0 ?_))
 refine jS (jR (jA ?_))
 refine jO (jN (jS (jS (jR ?_))))
 refine Ops.r (Run.buildA (evs.cons rfl (evs.cons rfl (evs.cons rfl (evs.cons rfl (evs.cons rfl (evs.cons rfl (evs.cons rfl (evs.cons rfl (evs.cons rfl (evs.cons rfl (evs.cons rfl (evs.cons rfl (evs.cons rfl (evs.cons rfl (evs.cons rfl (evs.cons rfl (evs.cons rfl (evs.cons rfl (evs.cons rfl evs.nil))))))))))))))))))) zero54 Try.underlying54 Try.sizeOf3 (cells := (NI orderT).toArray) jK) rfl ?_
 refine Ops.r (v := .int .i64 ((0 : Nat) : Int)) (Run.mv rfl) rfl ?_
 refine jO (jN (jB ?_))
 refine VC.loop (σ := Nat × Option Addr × Nat) (fun s => [(0, .slice (some ad) l.length c), (3, .slice s.2.1 s.1 s.2.2), (6, .agg (NI orderT).toArray), (7, .int .i64 ((s.1 : Nat) : Int))]) (fun s wr => s.1 ≤ 19 ∧ Own wr 3 1 s.2.1 s.1 s.2.2 (NI ((ordL l).take s.1)) ∧ Frm [] w wr ∧ ∀ x ∈ ob s.2.1, w.heap.size ≤ x) (fun s => 19 - s.1) (0, none, 0) (js4 rfl rfl rfl rfl) ⟨Nat.zero_le _, Own.nil _ _ _, Frm.refl _ _, by simp [ob]⟩ ?_
 rintro ⟨i, B, d⟩ wr ⟨hi, hO, K, hup⟩
 dsimp only at hi hO hup ⊢
 refine jS (jR ?_)
 refine Ops.r (Run.bin rfl rfl (Bin.lssN _ 19)) rfl ?_
 refine jO (jN (jS ?_))
 refine VC.condD rfl (fun hc1 => ?_) (fun hc1 => ?_)
 ·
  have hcell : ∀ j, j < l.length → wr.cell? (ad.add j) = some (.int .i64 ((l.getD j 0 : Nat) : Int)) := fun j hj => by
   exact (K.cell (hadc j _ (NI_get l j hj)) (by simp))
  have hs19 : orderT.getD i 0 < 19 := by
   have h : ∀ i, i < 19 → orderT.getD i 0 < 19 := by decide
   exact h i hc1
  have hot : (NI orderT).toArray[i]? = some (.int .i64 ((orderT.getD i 0 : Nat) : Int)) := by
   rw [List.getElem?_toArray]
   exact NI_get orderT i (by have e : orderT.length = 19 := rfl; omega)
  have hsn : (ordL l).take (i + 1) = (ordL l).take i ++ [l.getD (orderT.getD i 0) 0] := by
   have hlen : (ordL l).length = 19 := by simp [ordL, orderT]
   rw [List.take_add_one, List.getElem?_eq_getElem (by omega)]
   congr 1
   have e : orderT.length = 19 := rfl
   simp [ordL, List.getD_eq_getElem?_getD, List.getElem?_eq_getElem (show i < orderT.length by omega)]
  refine jQ (jN (jv4 0 3 6 7 ?_))
  refine jS (jB (jS (jR ?_)))
  refine Ops.r (Run.indexArr1 i rfl rfl Try.underlying54 Try.isAgg3 Try.sizeOf3 rfl hot) rfl ?_
  refine jA ?_
  refine jO (jN (jv5 0 3 5 6 7 ?_))
  refine jR (jM ?_)
  refine jM ?_
  refine jM ?_
  refine Ops.r (Run.index1 _ rfl rfl Try.underlying38 Try.sizeOf3 (by omega)) rfl ?_
  refine Ops.r (Run.load rfl Try.isAgg3 (hcell _ (by omega))) rfl ?_
  refine Ops.m (Does.buildS1 rfl Try.underlying38 Try.sizeOf3 zero3 (by decide) (by decide) rfl rfl) rfl ?_
  rintro _ w1 ⟨rfl, hF1⟩
  have hO1 := hO.frm hF1.frm (by simp)
  have hrd1 : Rd w1 1 (some ⟨wr.heap.size, 0, none⟩) 1 (NI [l.getD (orderT.getD i 0) 0]) := Rd.of_blk hF1.blk rfl
  refine Ops.m (Does.app rfl rfl Try.underlying38 (info3) rfl (by decide) hO1 hrd1 (NI_one _) (by omega) (by omega)) rfl ?_
  rintro _ w2 ⟨B2, d2, rfl, hO2, hf2, hob2⟩
  rw [← NI_append, ← hsn] at hO2
  refine jA ?_
  refine jO ?_
  refine blockQ_n (jN ?_)
  refine jv4 0 3 6 7 ?_
  refine jR ?_
  refine Ops.r (Run.bin rfl rfl (Bin.add_i64 _ 1 (by omega))) rfl ?_
  refine jM ?_
  refine jO ?_
  refine jN ⟨(i + 1, B2, d2), (js4 rfl rfl rfl rfl), ?_, ?_⟩
  ·
   exact ⟨hc1, hO2, (K.trans hF1.frm (by simp)).own hf2 hup, up_app hup hob2 (by have := K.size; have := hF1.size; omega)⟩
  ·
   first | omega | (dsimp only; omega)
 ·
  refine jX ?_
  refine thenQ_x (thenQ_x (blockQ_x ?_))
  refine jN (jv1 3 ?_)
  refine jS (jR (jM ?_))
  refine jA ?_
  refine jO (jN (jv1 2 ?_))
  refine jT ?_
  refine end1 rfl ?_
  have ei : i = 19 := by omega
  have hlen : (ordL l).length = 19 := by simp [ordL, orderT]
  rw [ei, List.take_of_length_le (by omega)] at hO
  rw [hlen]
  exact ⟨B, d, by rw [ei], hO, K, hup⟩
theorem sayAt_eq {l : List Nat} {a r : Nat} (h : runN l a = r) : sayAt l a = if l.getD a 0 = 0 ∧ 11 ≤ r then ((18, 7, min r 138 - 11), min r 138)
  else if l.getD a 0 = 0 ∧ 3 ≤ r then ((17, 3, min r 10 - 3), min r 10)
  else if 0 < a ∧ l.getD (a - 1) 0 = l.getD a 0 ∧ 3 ≤ r then ((16, 2, min r 6 - 3), min r 6)
  else ((l.getD a 0, 0, 0), 1) := by
 unfold sayAt
 rw [h]
def sdC (t : Sd) : List Value := [.int .i64 ((t.1 : Nat) : Int), .int .i64 ((t.2.1 : Nat) : Int), .int .i64 ((t.2.2 : Nat) : Int)]
def SDC (l : List Sd) : List Value := l.flatMap sdC
theorem SDC_append (a b : List Sd) : SDC (a ++ b) = SDC a ++ SDC b := by simp [SDC]
theorem SDC_one (l : List Sd) : ∀ u ∈ SDC l, u.oneCell' = true := by
 intro u hu
 obtain ⟨t, _, ht⟩ := List.mem_flatMap.1 hu
 simp only [sdC, List.mem_cons, List.not_mem_nil, or_false] at ht
 rcases ht with rfl | rfl | rfl <;> rfl
set_option maxRecDepth 100000 in
theorem say_sp (A : Option Addr) (c : Nat) (l : List Nat) (w : World) (hl : l.length ≤ 100000) (hr : Rd w 1 A l.length (NI l)) :
  Calls Try.prog 27 #[.slice A l.length c] w fun e w' => ∃ B d, e = .returned (.slice B (sayM l 0).length d) ∧ Own w' 56 3 B (sayM l 0).length d (SDC (sayM l 0)) ∧ Frm [] w w' ∧ ∀ x ∈ ob B, w.heap.size ≤ x := by
 refine VC.calls (nt := 88) (res := #[.tmp 2]) Try.func27 rfl Try.ntmps27 Try.results27 rfl ?_
 refine jS (jR (jA ?_))
 refine jO (jN (jv1 0 ?_))
 refine jS (jR (jA ?_))
 refine jO (jN (jS (jS (jR ?_))))
 refine Ops.r (v := .int .i64 ((0 : Nat) : Int)) (Run.asg rfl) rfl ?_
 refine jO (jN (jB ?_))
 refine VC.loop (σ := Nat × List Sd × Option Addr × Nat) (fun s => [(0, .slice A l.length c), (3, .slice s.2.2.1 s.2.1.length s.2.2.2), (4, .int .i64 ((s.1 : Nat) : Int))]) (fun s wr => s.1 ≤ l.length ∧ sayM l 0 = s.2.1 ++ sayM l s.1 ∧ s.2.1.length ≤ s.1 ∧ Own wr 56 3 s.2.2.1 s.2.1.length s.2.2.2 (SDC s.2.1) ∧ Frm [] w wr ∧ ∀ x ∈ ob s.2.2.1, w.heap.size ≤ x) (fun s => l.length - s.1) (0, [], none, 0) (js3 rfl rfl rfl) ⟨Nat.zero_le _, rfl, Nat.le_refl _, Own.nil _ _ _, Frm.refl _ _, by simp [ob]⟩ ?_
 rintro ⟨a, pre, B, d⟩ wr ⟨ha, hsp, hpl, hO, K, hup⟩
 dsimp only at ha hsp hpl hO hup ⊢
 refine jS (jS (jR (jM ?_)))
 refine jM ?_
 refine Ops.r (Run.lenS rfl Try.underlying38) rfl ?_
 refine Ops.r (Run.bin rfl rfl (Bin.lssN _ _)) rfl ?_
 refine jO (jN (jv4 0 3 4 9 ?_))
 refine VC.condD rfl (fun hc1 => ?_) (fun hc1 => ?_)
 ·
  refine jQ (jN (jv3 0 3 4 ?_))
  refine jB (jS (jR (jM ?_)))
  refine jM ?_
  refine Ops.cl (Enters.fn (evs.cons rfl (evs.cons rfl evs.nil)) Try.call58) (run_sp A c a l wr (by omega) hc1 (hr.frm K (by simp))) rfl ?_
  rintro e w1 ⟨rfl, hd1⟩
  refine ⟨_, rfl, ?_⟩
  have hO := hO.drawn hd1
  have K := K.drawn hd1
  have hrn := runN_le (l := l) (a := a)
  have hrp := runN_pos hc1
  generalize hrv : runN l a = r at hrn hrp ⊢
  have hat := sayAt_eq hrv
  obtain ⟨ad, hA, _, hadc⟩ := (hr.frm K (by simp)).2 (by omega)
  subst hA
  have hcell : ∀ j, j < l.length → w1.cell? (ad.add j) = some (.int .i64 ((l.getD j 0 : Nat) : Int)) := fun j hj => hadc j _ (NI_get l j hj)
  refine jA ?_
  refine jO (jN (jv4 0 3 4 5 ?_))
  refine jS (jB (jS ?_))
  refine VC.split1 [(0, _), (3, _), (4, _), (5, _)] (js4 rfl rfl rfl rfl) 21 (.bool (decide (l.getD a 0 = 0 ∧ 11 ≤ r))) ?_ ?_
  ·
   refine jR ?_
   refine jM ?_
   refine jM ?_
   refine Ops.r (Run.index1 _ rfl rfl Try.underlying38 Try.sizeOf3 (by omega)) rfl ?_
   refine Ops.r (Run.load rfl Try.isAgg3 (hcell _ hc1)) rfl ?_
   refine Ops.r (Run.bin rfl rfl (Bin.eqlN _ 0)) rfl ?_
   by_cases hs26 : l.getD a 0 = 0
   ·
    refine jM ?_
    refine jG ?_
    refine Ops.rg rfl au (Run.bin rfl rfl (Bin.geqN _ 11)) rfl ?_
    by_cases hs29 : 11 ≤ r
    ·
     refine Ops.r (Run.pickT rfl rfl au) rfl ?_
     refine jA ?_
     refine jO ?_
     refine jN ⟨(js5 (jC (by first | exact decide_eq_decide.2 ⟨fun h => ⟨by assumption, h⟩, fun h => h.2⟩ | exact (decide_eq_false (fun h => absurd h.1 (by assumption))).symm)) rfl rfl rfl rfl), rfl⟩
    ·
     refine Ops.r (Run.pickT rfl rfl au) rfl ?_
     refine jA ?_
     refine jO ?_
     refine jN ⟨(js5 (jC (by first | exact decide_eq_decide.2 ⟨fun h => ⟨by assumption, h⟩, fun h => h.2⟩ | exact (decide_eq_false (fun h => absurd h.1 (by assumption))).symm)) rfl rfl rfl rfl), rfl⟩
   ·
    refine jM ?_
    refine jU ?_
    refine jU ?_
    refine Ops.r (Run.pickF rfl rfl au) rfl ?_
    refine jA ?_
    refine jO ?_
    refine jN ⟨(js5 (jC (by first | exact decide_eq_decide.2 ⟨fun h => ⟨by assumption, h⟩, fun h => h.2⟩ | exact (decide_eq_false (fun h => absurd h.1 (by assumption))).symm)) rfl rfl rfl rfl), rfl⟩
  ·
   intro Γ hΓ
   refine jN (VC.sub _ hΓ ?_)
   refine VC.condD rfl (fun hc2 => ?_) (fun hc2 => ?_)
   ·
    have hs : sayAt l a = ((18, 7, min r 138 - 11), min r 138) := by rw [hat, if_pos hc2]
    refine jS (jR (jM ?_))
    refine Ops.r (Run.minI rfl rfl) rfl ?_
    have em : (if (138 : Int) < ((r : Nat) : Int) then (138 : Int) else ((r : Nat) : Int)) = ((min r 138 : Nat) : Int) := by split <;> omega
    rw [em]
    refine jA ?_
    refine jO (jN (jv4 0 3 4 5 ?_))
    refine jR (jM ?_)
    refine jM ?_
    refine Ops.r (Run.bin rfl rfl (Bin.subZ _ 11 (by omega) (by omega))) rfl ?_
    have es : (((min r 138 : Nat) : Int) - 11) = ((min r 138 - 11 : Nat) : Int) := by omega
    rw [es]
    refine Ops.r (Run.build (evs.cons rfl (evs.cons rfl (evs.cons rfl evs.nil))) zero56 (places56).choose_spec.1 (places56).choose_spec.2 rfl) rfl ?_
    refine Ops.m (Does.buildS1 rfl Try.underlying52 Try.sizeOf56 zero56 (by decide) (by decide) rfl rfl) rfl ?_
    rintro _ w2 ⟨rfl, hF2⟩
    have hO2 := hO.frm hF2.frm (by simp)
    have hrd2 : Rd w2 3 (some ⟨_, 0, none⟩) 1 (SDC [(18, 7, min r 138 - 11)]) := Rd.of_blk (n := 1) (size := 3) hF2.blk rfl
    refine Ops.m (Does.app rfl rfl Try.underlying52 (info56) rfl (by decide) hO2 hrd2 (SDC_one _) (by omega) (by omega)) rfl ?_
    rintro _ w3 ⟨B3, d3, rfl, hO3, hf3, hob3⟩
    rw [← SDC_append] at hO3
    have K3 := (K.trans hF2.frm (by simp)).own hf3 hup
    have hup3 := up_app hup hob3 (by have := K.size; have := hF2.size; omega)
    refine jA ?_
    refine jO ?_
    refine blockQ_n (jN ?_)
    refine jv4 0 3 4 5 ?_
    refine jR (jM ?_)
    refine jM ?_
    refine Ops.r (Run.bin rfl rfl (Bin.addZ _ _ (by omega) (by omega))) rfl ?_
    refine jA ?_
    refine jO ?_
    refine blockQ_n (jN ⟨(a + min r 138, pre ++ [(18, 7, min r 138 - 11)], B3, d3), (js3 rfl (by rw [List.length_append]; rfl) rfl), ?_, ?_⟩)
    ·
     refine ⟨by dsimp only; omega, ?_, by rw [List.length_append]; simp only [List.length_cons, List.length_nil]; omega, by rw [List.length_append]; exact hO3, K3, hup3⟩
     rw [hsp, sayM_step hc1, hs]
     simp
    ·
     first | omega | (dsimp only; omega)
   ·
    refine jS ?_
    refine VC.split1 [(0, _), (3, _), (4, _), (5, _)] (js4 rfl rfl rfl rfl) 39 (.bool (decide (l.getD a 0 = 0 ∧ 3 ≤ r))) ?_ ?_
    ·
     refine jR ?_
     refine jM ?_
     refine jM ?_
     refine Ops.r (Run.index1 _ rfl rfl Try.underlying38 Try.sizeOf3 (by omega)) rfl ?_
     refine Ops.r (Run.load rfl Try.isAgg3 (hcell _ hc1)) rfl ?_
     refine Ops.r (Run.bin rfl rfl (Bin.eqlN _ 0)) rfl ?_
     by_cases hs44 : l.getD a 0 = 0
     ·
      refine jM ?_
      refine jG ?_
      refine Ops.rg rfl au (Run.bin rfl rfl (Bin.geqN _ 3)) rfl ?_
      by_cases hs47 : 3 ≤ r
      ·
       refine Ops.r (Run.pickT rfl rfl au) rfl ?_
       refine jA ?_
       refine jO ?_
       refine jN ⟨(js5 (jC (by first | exact decide_eq_decide.2 ⟨fun h => ⟨by assumption, h⟩, fun h => h.2⟩ | exact (decide_eq_false (fun h => absurd h.1 (by assumption))).symm)) rfl rfl rfl rfl), rfl⟩
      ·
       refine Ops.r (Run.pickT rfl rfl au) rfl ?_
       refine jA ?_
       refine jO ?_
       refine jN ⟨(js5 (jC (by first | exact decide_eq_decide.2 ⟨fun h => ⟨by assumption, h⟩, fun h => h.2⟩ | exact (decide_eq_false (fun h => absurd h.1 (by assumption))).symm)) rfl rfl rfl rfl), rfl⟩
     ·
      refine jM ?_
      refine jU ?_
      refine jU ?_
      refine Ops.r (Run.pickF rfl rfl au) rfl ?_
      refine jA ?_
      refine jO ?_
      refine jN ⟨(js5 (jC (by first | exact decide_eq_decide.2 ⟨fun h => ⟨by assumption, h⟩, fun h => h.2⟩ | exact (decide_eq_false (fun h => absurd h.1 (by assumption))).symm)) rfl rfl rfl rfl), rfl⟩
    ·
     intro Γ hΓ
     refine jN (VC.sub _ hΓ ?_)
     refine VC.condD rfl (fun hc3 => ?_) (fun hc3 => ?_)
     ·
      have hs : sayAt l a = ((17, 3, min r 10 - 3), min r 10) := by rw [hat, if_neg hc2, if_pos hc3]
      refine jS (jR (jM ?_))
      refine Ops.r (Run.minI rfl rfl) rfl ?_
      have em : (if (10 : Int) < ((r : Nat) : Int) then (10 : Int) else ((r : Nat) : Int)) = ((min r 10 : Nat) : Int) := by split <;> omega
      rw [em]
      refine jA ?_
      refine jO (jN (jv4 0 3 4 5 ?_))
      refine jR (jM ?_)
      refine jM ?_
      refine Ops.r (Run.bin rfl rfl (Bin.subZ _ 3 (by omega) (by omega))) rfl ?_
      have es : (((min r 10 : Nat) : Int) - 3) = ((min r 10 - 3 : Nat) : Int) := by omega
      rw [es]
      refine Ops.r (Run.build (evs.cons rfl (evs.cons rfl (evs.cons rfl evs.nil))) zero56 (places56).choose_spec.1 (places56).choose_spec.2 rfl) rfl ?_
      refine Ops.m (Does.buildS1 rfl Try.underlying52 Try.sizeOf56 zero56 (by decide) (by decide) rfl rfl) rfl ?_
      rintro _ w2 ⟨rfl, hF2⟩
      have hO2 := hO.frm hF2.frm (by simp)
      have hrd2 : Rd w2 3 (some ⟨_, 0, none⟩) 1 (SDC [(17, 3, min r 10 - 3)]) := Rd.of_blk (n := 1) (size := 3) hF2.blk rfl
      refine Ops.m (Does.app rfl rfl Try.underlying52 (info56) rfl (by decide) hO2 hrd2 (SDC_one _) (by omega) (by omega)) rfl ?_
      rintro _ w3 ⟨B3, d3, rfl, hO3, hf3, hob3⟩
      rw [← SDC_append] at hO3
      have K3 := (K.trans hF2.frm (by simp)).own hf3 hup
      have hup3 := up_app hup hob3 (by have := K.size; have := hF2.size; omega)
      refine jA ?_
      refine jO ?_
      refine blockQ_n (jN ?_)
      refine jv4 0 3 4 5 ?_
      refine jR (jM ?_)
      refine jM ?_
      refine Ops.r (Run.bin rfl rfl (Bin.addZ _ _ (by omega) (by omega))) rfl ?_
      refine jA ?_
      refine jO ?_
      refine blockQ_n (jN ⟨(a + min r 10, pre ++ [(17, 3, min r 10 - 3)], B3, d3), (js3 rfl (by rw [List.length_append]; rfl) rfl), ?_, ?_⟩)
      ·
       refine ⟨by dsimp only; omega, ?_, by rw [List.length_append]; simp only [List.length_cons, List.length_nil]; omega, by rw [List.length_append]; exact hO3, K3, hup3⟩
       rw [hsp, sayM_step hc1, hs]
       simp
      ·
       first | omega | (dsimp only; omega)
     ·
      refine jS ?_
      refine VC.splitR [(0, .slice (some ad) l.length c), (3, .slice B pre.length d), (4, .int .i64 ((a : Nat) : Int)), (5, .int .i64 ((r : Nat) : Int))] (Drawn w1) 57 (.bool (decide (0 < a ∧ l.getD (a - 1) 0 = l.getD a 0 ∧ 3 ≤ r))) ?_ ?_
      ·
       refine VC.still jK jK ?_
       refine SOps.r (Run.mv rfl) rfl ?_
       refine SOps.r (Run.bin rfl rfl (Bin.gtrN _ 0)) rfl ?_
       by_cases hs59 : 0 < a
       ·
        refine SOps.r (Run.mv rfl) rfl ?_
        refine SOps.rg rfl au (Run.mv rfl) rfl ?_
        refine SOps.rg rfl au (Run.mv rfl) rfl ?_
        refine SOps.rg rfl au (Run.bin rfl rfl (Bin.sub_i64 _ 1 (by omega) (by omega))) rfl ?_
        refine SOps.rg rfl au (Run.index1 _ rfl rfl Try.underlying38 Try.sizeOf3 (by omega)) rfl ?_
        refine SOps.rg rfl au (Run.load rfl Try.isAgg3 (hcell _ (by omega))) rfl ?_
        refine SOps.rg rfl au (Run.mv rfl) rfl ?_
        refine SOps.rg rfl au (Run.mv rfl) rfl ?_
        refine SOps.rg rfl au (Run.index1 _ rfl rfl Try.underlying38 Try.sizeOf3 (by omega)) rfl ?_
        refine SOps.rg rfl au (Run.load rfl Try.isAgg3 (hcell _ hc1)) rfl ?_
        refine SOps.rg rfl au (Run.bin rfl rfl (Bin.eqlN _ _)) rfl ?_
        by_cases hs70 : l.getD (a - 1) 0 = l.getD a 0
        ·
         refine SOps.r (Run.pickT rfl rfl au) rfl ?_
         refine SOps.r (Run.mv rfl) rfl ?_
         refine SOps.rg rfl au (Run.mv rfl) rfl ?_
         refine SOps.rg rfl au (Run.bin rfl rfl (Bin.geqN _ 3)) rfl ?_
         by_cases hs74 : 3 ≤ r
         ·
          refine SOps.r (Run.pickT rfl rfl au) rfl ?_
          refine SOps.r (Run.asg rfl) rfl ?_
          refine SOps.nil ?_
          refine jN ⟨(js5 (jC (by first | exact decide_eq_decide.2 ⟨fun h => ⟨by assumption, by assumption, h⟩, fun h => h.2.2⟩ | exact (decide_eq_false (fun h => absurd h.1 (by assumption))).symm | exact (decide_eq_false (fun h => absurd h.2.1 (by assumption))).symm)) rfl rfl rfl rfl), (Drawn.drew _)⟩
         ·
          refine SOps.r (Run.pickT rfl rfl au) rfl ?_
          refine SOps.r (Run.asg rfl) rfl ?_
          refine SOps.nil ?_
          refine jN ⟨(js5 (jC (by first | exact decide_eq_decide.2 ⟨fun h => ⟨by assumption, by assumption, h⟩, fun h => h.2.2⟩ | exact (decide_eq_false (fun h => absurd h.1 (by assumption))).symm | exact (decide_eq_false (fun h => absurd h.2.1 (by assumption))).symm)) rfl rfl rfl rfl), (Drawn.drew _)⟩
        ·
         refine SOps.r (Run.pickT rfl rfl au) rfl ?_
         refine SOps.r (Run.mv rfl) rfl ?_
         refine SOps.sk rfl au rfl ?_
         refine SOps.sk rfl au rfl ?_
         refine SOps.r (Run.pickF rfl rfl au) rfl ?_
         refine SOps.r (Run.asg rfl) rfl ?_
         refine SOps.nil ?_
         refine jN ⟨(js5 (jC (by first | exact decide_eq_decide.2 ⟨fun h => ⟨by assumption, by assumption, h⟩, fun h => h.2.2⟩ | exact (decide_eq_false (fun h => absurd h.1 (by assumption))).symm | exact (decide_eq_false (fun h => absurd h.2.1 (by assumption))).symm)) rfl rfl rfl rfl), (Drawn.drew _)⟩
       ·
        refine SOps.r (Run.mv rfl) rfl ?_
        refine SOps.sk rfl au rfl ?_
        refine SOps.sk rfl au rfl ?_
        refine SOps.sk rfl au rfl ?_
        refine SOps.sk rfl au rfl ?_
        refine SOps.sk rfl au rfl ?_
        refine SOps.sk rfl au rfl ?_
        refine SOps.sk rfl au rfl ?_
        refine SOps.sk rfl au rfl ?_
        refine SOps.sk rfl au rfl ?_
        refine SOps.sk rfl au rfl ?_
        refine SOps.r (Run.pickF rfl rfl au) rfl ?_
        refine SOps.r (Run.mv rfl) rfl ?_
        refine SOps.sk rfl au rfl ?_
        refine SOps.sk rfl au rfl ?_
        refine SOps.r (Run.pickF rfl rfl au) rfl ?_
        refine SOps.r (Run.asg rfl) rfl ?_
        refine SOps.nil ?_
        refine jN ⟨(js5 (jC (by first | exact decide_eq_decide.2 ⟨fun h => ⟨by assumption, by assumption, h⟩, fun h => h.2.2⟩ | exact (decide_eq_false (fun h => absurd h.1 (by assumption))).symm | exact (decide_eq_false (fun h => absurd h.2.1 (by assumption))).symm)) rfl rfl rfl rfl), (Drawn.drew _)⟩
      ·
       intro Γ w9 hΓ hd9
       refine jN (VC.sub _ hΓ ?_)
       refine VC.condD rfl (fun hc4 => ?_) (fun hc4 => ?_)
       ·
        have hs : sayAt l a = ((16, 2, min r 6 - 3), min r 6) := by rw [hat, if_neg hc2, if_neg hc3, if_pos hc4]
        have hO := hO.drawn hd9
        have K := K.drawn hd9
        refine jS (jR (jM ?_))
        refine Ops.r (Run.minI rfl rfl) rfl ?_
        have em : (if (6 : Int) < ((r : Nat) : Int) then (6 : Int) else ((r : Nat) : Int)) = ((min r 6 : Nat) : Int) := by split <;> omega
        rw [em]
        refine jA ?_
        refine jO (jN (jv4 0 3 4 5 ?_))
        refine jR (jM ?_)
        refine jM ?_
        refine Ops.r (Run.bin rfl rfl (Bin.subZ _ 3 (by omega) (by omega))) rfl ?_
        have es : (((min r 6 : Nat) : Int) - 3) = ((min r 6 - 3 : Nat) : Int) := by omega
        rw [es]
        refine Ops.r (Run.build (evs.cons rfl (evs.cons rfl (evs.cons rfl evs.nil))) zero56 (places56).choose_spec.1 (places56).choose_spec.2 rfl) rfl ?_
        refine Ops.m (Does.buildS1 rfl Try.underlying52 Try.sizeOf56 zero56 (by decide) (by decide) rfl rfl) rfl ?_
        rintro _ w2 ⟨rfl, hF2⟩
        have hO2 := hO.frm hF2.frm (by simp)
        have hrd2 : Rd w2 3 (some ⟨_, 0, none⟩) 1 (SDC [(16, 2, min r 6 - 3)]) := Rd.of_blk (n := 1) (size := 3) hF2.blk rfl
        refine Ops.m (Does.app rfl rfl Try.underlying52 (info56) rfl (by decide) hO2 hrd2 (SDC_one _) (by omega) (by omega)) rfl ?_
        rintro _ w3 ⟨B3, d3, rfl, hO3, hf3, hob3⟩
        rw [← SDC_append] at hO3
        have K3 := (K.trans hF2.frm (by simp)).own hf3 hup
        have hup3 := up_app hup hob3 (by have := K.size; have := hF2.size; omega)
        refine jA ?_
        refine jO ?_
        refine blockQ_n (jN ?_)
        refine jv4 0 3 4 5 ?_
        refine jR (jM ?_)
        refine jM ?_
        refine Ops.r (Run.bin rfl rfl (Bin.addZ _ _ (by omega) (by omega))) rfl ?_
        refine jA ?_
        refine jO ?_
        refine blockQ_n (jN ⟨(a + min r 6, pre ++ [(16, 2, min r 6 - 3)], B3, d3), (js3 rfl (by rw [List.length_append]; rfl) rfl), ?_, ?_⟩)
        ·
         refine ⟨by dsimp only; omega, ?_, by rw [List.length_append]; simp only [List.length_cons, List.length_nil]; omega, by rw [List.length_append]; exact hO3, K3, hup3⟩
         rw [hsp, sayM_step hc1, hs]
         simp
        ·
         first | omega | (dsimp only; omega)
       ·
        have hs : sayAt l a = ((l.getD a 0, 0, 0), 1) := by rw [hat, if_neg hc2, if_neg hc3, if_neg hc4]
        have hO := hO.drawn hd9
        have K := K.drawn hd9
        have hcell2 : ∀ j, j < l.length → w9.cell? (ad.add j) = some (.int .i64 ((l.getD j 0 : Nat) : Int)) := fun j hj => by
         obtain ⟨m, rfl⟩ := hd9
         exact hcell j hj
        refine jS (jR ?_)
        refine Ops.r (v := .int .i64 ((1 : Nat) : Int)) (Run.asg rfl) rfl ?_
        refine jO (jN (jv4 0 3 4 5 ?_))
        refine jR (jM ?_)
        refine jM ?_
        refine jM ?_
        refine Ops.r (Run.index1 _ rfl rfl Try.underlying38 Try.sizeOf3 (by omega)) rfl ?_
        refine Ops.r (Run.load rfl Try.isAgg3 ((hcell2 _ hc1))) rfl ?_
        refine Ops.r (Run.build (evs.cons rfl (evs.cons rfl (evs.cons rfl evs.nil))) zero56 (places56).choose_spec.1 (places56).choose_spec.2 rfl) rfl ?_
        refine Ops.m (Does.buildS1 rfl Try.underlying52 Try.sizeOf56 zero56 (by decide) (by decide) rfl rfl) rfl ?_
        rintro _ w2 ⟨rfl, hF2⟩
        have hO2 := hO.frm hF2.frm (by simp)
        have hrd2 : Rd w2 3 (some ⟨_, 0, none⟩) 1 (SDC [(l.getD a 0, 0, 0)]) := Rd.of_blk (n := 1) (size := 3) hF2.blk rfl
        refine Ops.m (Does.app rfl rfl Try.underlying52 (info56) rfl (by decide) hO2 hrd2 (SDC_one _) (by omega) (by omega)) rfl ?_
        rintro _ w3 ⟨B3, d3, rfl, hO3, hf3, hob3⟩
        rw [← SDC_append] at hO3
        have K3 := (K.trans hF2.frm (by simp)).own hf3 hup
        have hup3 := up_app hup hob3 (by have := K.size; have := hF2.size; omega)
        refine jA ?_
        refine jO ?_
        refine blockQ_n (jN ?_)
        refine jv4 0 3 4 5 ?_
        refine jR (jM ?_)
        refine jM ?_
        refine Ops.r (Run.bin rfl rfl (Bin.add_i64 _ _ (by omega))) rfl ?_
        refine jA ?_
        refine jO ?_
        refine blockQ_n (jN ⟨(a + 1, pre ++ [(l.getD a 0, 0, 0)], B3, d3), (js3 rfl (by rw [List.length_append]; rfl) rfl), ?_, ?_⟩)
        ·
         refine ⟨by dsimp only; omega, ?_, by rw [List.length_append]; simp only [List.length_cons, List.length_nil]; omega, by rw [List.length_append]; exact hO3, K3, hup3⟩
         rw [hsp, sayM_step hc1, hs]
         simp
        ·
         first | omega | (dsimp only; omega)
 ·
  refine jX ?_
  refine thenQ_x (thenQ_x (blockQ_x ?_))
  refine jN (jv1 3 ?_)
  refine jS (jR (jM ?_))
  refine jA ?_
  refine jO (jN (jv1 2 ?_))
  refine jT ?_
  refine end1 rfl ?_
  have ea : a = l.length := by omega
  have et : sayM l 0 = pre := by rw [hsp, sayM_end (by omega), List.append_nil]
  rw [et]
  exact ⟨B, d, rfl, hO, K, hup⟩
end Go.Proofs.Ytnmieihcjjiccaa
namespace Go.Proofs.Ytnmieihcjjiccaa
open Go.RowKit
def litStep (c : List Nat) (t : Tk) : List Nat := if t.2.1 = 0 then c.set t.1 (c.getD t.1 0 + 1) else c.set (257 + lenS t.2.1) (c.getD (257 + lenS t.2.1) 0 + 1)
def wayStep (c : List Nat) (t : Tk) : List Nat := if t.2.1 = 0 then c else c.set (wayS t.2.2) (c.getD (wayS t.2.2) 0 + 1)
def lit0 : List Nat := (List.replicate 286 0).set 256 1
def litC (l : List Tk) : List Nat := l.foldl litStep lit0
def wayC (l : List Tk) : List Nat := l.foldl wayStep (List.replicate 30 0)
theorem litC_snoc (l : List Tk) (t : Tk) : litC (l ++ [t]) = litStep (litC l) t := by unfold litC; rw [List.foldl_append]; rfl
theorem wayC_snoc (l : List Tk) (t : Tk) : wayC (l ++ [t]) = wayStep (wayC l) t := by unfold wayC; rw [List.foldl_append]; rfl
theorem litStep_len (c : List Nat) (t : Tk) : (litStep c t).length = c.length := by unfold litStep; split <;> rw [List.length_set]
theorem wayStep_len (c : List Nat) (t : Tk) : (wayStep c t).length = c.length := by
 unfold wayStep
 split
 ·
  rfl
 ·
  rw [List.length_set]
theorem lit_fold (l : List Tk) : ∀ c : List Nat, (l.foldl litStep c).length = c.length := by
 induction l with
 | nil => exact fun _ => rfl
 | cons t l ih => intro c; rw [List.foldl_cons, ih, litStep_len]
theorem way_fold (l : List Tk) : ∀ c : List Nat, (l.foldl wayStep c).length = c.length := by
 induction l with
 | nil => exact fun _ => rfl
 | cons t l ih => intro c; rw [List.foldl_cons, ih, wayStep_len]
theorem litC_len (l : List Tk) : (litC l).length = 286 := by unfold litC lit0; rw [lit_fold, List.length_set, List.length_replicate]
theorem wayC_len (l : List Tk) : (wayC l).length = 30 := by unfold wayC; rw [way_fold, List.length_replicate]
theorem set_le {c : List Nat} {i n : Nat} (h : ∀ x ∈ c, x ≤ n) : ∀ x ∈ c.set i (c.getD i 0 + 1), x ≤ n + 1 := by
 intro x hx
 rcases List.mem_or_eq_of_mem_set hx with h1 | h1
 ·
  have := h x h1; omega
 ·
  subst h1
  have : c.getD i 0 ≤ n := by
   rw [List.getD_eq_getElem?_getD]
   cases hc : c[i]? with
   | none => exact Nat.zero_le _
   | some y => exact h y (List.mem_of_getElem? hc)
  omega
theorem lit_le (l : List Tk) : ∀ (c : List Nat) (n : Nat), (∀ x ∈ c, x ≤ n) → ∀ x ∈ l.foldl litStep c, x ≤ n + l.length := by
 induction l with
 | nil => exact fun _ _ h => h
 | cons t l ih =>
  intro c n h x hx
  have h2 : ∀ x ∈ litStep c t, x ≤ n + 1 := by
   unfold litStep
   split
   ·
    exact set_le h
   ·
    exact set_le h
  have := ih _ (n + 1) h2 x hx
  rw [List.length_cons]
  omega
theorem way_le (l : List Tk) : ∀ (c : List Nat) (n : Nat), (∀ x ∈ c, x ≤ n) → ∀ x ∈ l.foldl wayStep c, x ≤ n + l.length := by
 induction l with
 | nil => exact fun _ _ h => h
 | cons t l ih =>
  intro c n h x hx
  have h2 : ∀ x ∈ wayStep c t, x ≤ n + 1 := by
   unfold wayStep
   split
   ·
    exact fun x hx => Nat.le_succ_of_le (h x hx)
   ·
    exact set_le h
  have := ih _ (n + 1) h2 x hx
  rw [List.length_cons]
  omega
theorem litC_le (l : List Tk) : ∀ x ∈ litC l, x ≤ 1 + l.length := lit_le l lit0 1 (fun x hx => by
 rcases List.mem_or_eq_of_mem_set hx with h1 | h1
 ·
  rw [List.eq_of_mem_replicate h1]; omega
 ·
  omega)
theorem wayC_le (l : List Tk) : ∀ x ∈ wayC l, x ≤ 0 + l.length := way_le l _ 0 (fun x hx => by rw [List.eq_of_mem_replicate hx]; omega)
def SyC (a b : List Nat) : Array Value := (NI a ++ NI b).toArray
theorem NI_set (a : List Nat) (i x : Nat) : NI (a.set i x) = (NI a).set i (.int .i64 ((x : Nat) : Int)) := by simp [NI, List.map_set]
theorem SyC_size (a b : List Nat) : (SyC a b).size = a.length + b.length := by simp [SyC, NI]
theorem SyC_lit {a b : List Nat} {i : Nat} (h : i < a.length) (x : Nat) : (SyC a b).setIfInBounds i (.int .i64 ((x : Nat) : Int)) = SyC (a.set i x) b := by
 unfold SyC
 rw [NI_set, List.setIfInBounds_toArray, List.set_append_left _ _ (by simpa [NI] using h)]
theorem SyC_way {a b : List Nat} {i : Nat} (x : Nat) : (SyC a b).setIfInBounds (a.length + i) (.int .i64 ((x : Nat) : Int)) = SyC a (b.set i x) := by
 unfold SyC
 have e : (NI a).length = a.length := by simp [NI]
 rw [NI_set, List.setIfInBounds_toArray, List.set_append_right _ _ (by rw [e]; omega), e, Nat.add_sub_cancel_left]
theorem SyC_litAt {a b : List Nat} {i : Nat} (h : i < a.length) : (SyC a b)[i]? = some (.int .i64 ((a.getD i 0 : Nat) : Int)) := by
 unfold SyC
 rw [List.getElem?_toArray, List.getElem?_append_left (by simpa [NI] using h)]
 exact NI_get a i h
theorem SyC_wayAt {a b : List Nat} {i : Nat} (h : i < b.length) : (SyC a b)[a.length + i]? = some (.int .i64 ((b.getD i 0 : Nat) : Int)) := by
 unfold SyC
 have e : (NI a).length = a.length := by simp [NI]
 rw [List.getElem?_toArray, List.getElem?_append_right (by rw [e]; omega), e, Nat.add_sub_cancel_left]
 exact NI_get b i h
theorem getD_le {c : List Nat} {n : Nat} (h : ∀ x ∈ c, x ≤ n) (i : Nat) : c.getD i 0 ≤ n := by
 rw [List.getD_eq_getElem?_getD]
 cases hc : c[i]? with
 | none => exact Nat.zero_le _
 | some y => exact h y (List.mem_of_getElem? hc)
def rep (n : Nat) : List Nat := List.replicate n 0
set_option maxRecDepth 100000 in
theorem zeroSy (w : World) : (zeroValue 46).run Try.prog w = .ok (.agg (SyC (rep 286) (rep 30))) w := by
 simp only [zeroValue, Sem.run_bind, Try.typeInfo46, Result.andThen_ok]; rfl
theorem SyC_one (a b : List Nat) : ∀ v ∈ (SyC a b).toList, v.oneCell' = true := by
 intro v hv
 rcases List.mem_append.1 (show v ∈ NI a ++ NI b by simpa [SyC] using hv) with h | h
 ·
  exact NI_one a v h
 ·
  exact NI_one b v h
set_option maxRecDepth 100000 in
theorem count_sp (Bt : Option Addr) (ct : Nat) (lt : List Tk) (w : World) (hlt : ∀ t ∈ lt, TkOk t) (hll : lt.length ≤ 1000000) (hot : Own w 73 3 Bt lt.length ct (TC lt)) :
  Calls Try.prog 23 #[.slice Bt lt.length ct] w fun e w' => e = .returned (.agg (SyC (litC lt) (wayC lt))) ∧ Frm [] w w' := by
 refine VC.calls (nt := 61) (res := #[.cell 2 46]) Try.func23 rfl Try.ntmps23 Try.results23 rfl ?_
 refine jS (jR ?_)
 refine Ops.m (Does.alloc zeroSy) rfl ?_
 rintro _ w1 ⟨rfl, hF1⟩
 have hb2 : Blk w1 w.heap.size 46 (SyC (rep 286) (rep 30)) := hF1.blk
 have hgs := hF1.size
 refine jO (jN (jS (jR ?_)))
 refine Ops.m (Does.alloc zeroSy) rfl ?_
 rintro _ w2 ⟨rfl, hF2⟩
 have hb2 := hb2.frm hF2.frm (by simp)
 have hb3 : Blk w2 w1.heap.size 46 (SyC (rep 286) (rep 30)) := hF2.blk
 have K := hF1.frm.trans hF2.frm (by simp)
 have hot := (hot.frm hF1.frm (by simp)).frm hF2.frm (by simp)
 generalize hg2 : w.heap.size = g2 at *
 generalize hg3 : w1.heap.size = g3 at *
 refine jO (jN (jS (jR ?_)))
 refine Ops.r (Run.fieldAddr rfl Try.underlying46 rfl Try.sizeOf43 (by decide)) rfl ?_
 refine Ops.r (Run.indexA1 256 rfl rfl Try.underlying43 Try.sizeOf3 (by omega)) rfl ?_
 refine Ops.st (Acts.store rfl rfl Try.sizeOf3 hb3 (by rw [Nat.blt_eq, SyC_size]; simp [rep]) rfl) ?_
 rintro w3 ⟨hb3n, hf3, hs3⟩
 have hb3 : Blk w3 g3 46 (SyC (litC (lt.take 0)) (wayC (lt.take 0))) := by
  have e := SyC_lit (a := rep 286) (b := rep 30) (i := 256) (by simp [rep]) 1
  have e2 : (SyC (rep 286) (rep 30)).setIfInBounds 256 (.int .i64 ((1 : Nat) : Int)) = SyC (litC (lt.take 0)) (wayC (lt.take 0)) := e
  rw [← e2]
  exact hb3n
 have hb2 := hb2.frm hf3 (by simp; omega)
 have K := K.own hf3 (by simp; omega)
 have hot := hot.frm hf3 (fun x hx hx2 => by rw [List.mem_singleton] at hx2; subst hx2; exact hot.ne_blk hF2.blk (by decide) (hg3 ▸ hx))
 refine jO (jN (jv3 0 2 3 ?_))
 refine jS (jS (jR (jM ?_)))
 refine Ops.r (Run.lenS rfl Try.underlying31) rfl ?_
 refine Ops.r (v := .int .i64 ((0 : Nat) : Int)) (Run.mv rfl) rfl ?_
 refine jO (jN (jv5 2 3 14 15 16 ?_))
 refine jB ?_
 refine VC.loop (σ := Nat) (fun s => [(2, .pointer (some ⟨g2, 0, none⟩)), (3, .pointer (some ⟨g3, 0, none⟩)), (14, .slice Bt lt.length ct), (15, .int .i64 ((lt.length : Nat) : Int)), (16, .int .i64 ((s : Nat) : Int))]) (fun s wr => s ≤ lt.length ∧ Blk wr g3 46 (SyC (litC (lt.take s)) (wayC (lt.take s))) ∧ Blk wr g2 46 (SyC (rep 286) (rep 30)) ∧ Own wr 73 3 Bt lt.length ct (TC lt) ∧ Frm [] w wr) (fun s => lt.length - s) 0 (js5 rfl rfl rfl rfl rfl) ⟨Nat.zero_le _, hb3, hb2, hot, K⟩ ?_
 rintro i wr ⟨hi, hb3, hb2, hot, K⟩
 refine jS (jR ?_)
 refine Ops.r (Run.bin rfl rfl (Bin.lssN _ _)) rfl ?_
 refine jO (jN (jS ?_))
 refine VC.condD rfl (fun hc1 => ?_) (fun hc1 => ?_)
 ·
  obtain ⟨ad, rfl, hel⟩ := hot.rd.elem hc1
  rw [flat3 lt i hc1] at hel
  have hsn := tok_snoc hc1
  have hqok := hlt (lt.getD i (0, 0, 0)) (by rw [List.getD_eq_getElem?_getD, List.getElem?_eq_getElem hc1]; exact List.getElem_mem hc1)
  generalize lt.getD i (0, 0, 0) = q at hel hsn hqok
  have hll1 := litC_len (lt.take i)
  have hwl1 := wayC_len (lt.take i)
  have hle1 := litC_le (lt.take i)
  have hle2 := wayC_le (lt.take i)
  rw [List.length_take, Nat.min_eq_left hi] at hle1 hle2
  have hl1 := litC_snoc (lt.take i) q
  have hl2 := wayC_snoc (lt.take i) q
  rw [← hsn] at hl1 hl2
  generalize litC (lt.take i) = cl at *
  generalize wayC (lt.take i) = cw at *
  refine jQ (jN (jv5 2 3 14 15 16 ?_))
  refine jS (jB (jS (jR ?_)))
  refine Ops.r (Run.indexS _ rfl rfl Try.underlying31 Try.sizeOf73 (by omega)) rfl ?_
  refine Ops.r (Run.loadA rfl Try.isAgg73 Try.sizeOf73 hel (by first | rfl | (simp; done))) rfl ?_
  refine Ops.m (Does.alloc zero73) rfl ?_
  rintro _ w4 ⟨rfl, hF4⟩
  have hgl3 := hb3.lt
  have hgl2 := hb2.lt
  refine Ops.st (Acts.storeA rfl rfl Try.sizeOf73 hF4.blk rfl (by intro v hv; exact TC_one [q] v (by simpa [TC] using hv))) ?_
  rintro w5 ⟨hb11, hf5, hs5⟩
  have hf45 : Frm [] wr w5 := hF4.frm.own hf5 (by simp)
  have hb3 := hb3.frm hf45 (by simp)
  have hb2 := hb2.frm hf45 (by simp)
  have hot := hot.frm hf45 (by simp)
  have K := K.trans hf45 (by simp)
  refine jO (jN (jv6 2 3 5 14 15 16 ?_))
  refine jS (jS (jR ?_))
  refine Ops.r (Run.fieldAddr rfl Try.underlying73 rfl Try.sizeOf3 (by decide)) rfl ?_
  refine Ops.r (Run.load rfl Try.isAgg3 (hb11.cell 1)) rfl ?_
  refine Ops.r (Run.bin rfl rfl (Bin.eqlN _ 0)) rfl ?_
  refine jO (jN (jv7 2 3 5 14 15 16 22 ?_))
  refine VC.condD rfl (fun hc2 => ?_) (fun hc2 => ?_)
  ·
   have hq8 : q.1 < 256 := by rcases hqok with ⟨_, _, h⟩ | ⟨_, h, _⟩ <;> omega
   have hv1 := getD_le hle1 q.1
   unfold litStep at hl1
   rw [if_pos hc2] at hl1
   unfold wayStep at hl2
   rw [if_pos hc2] at hl2
   refine jS (jR ?_)
   refine Ops.r (Run.fieldAddr rfl Try.underlying73 rfl Try.sizeOf5 (by decide)) rfl ?_
   refine Ops.r (Run.load rfl Try.isAgg5 (hb11.cell 0)) rfl ?_
   refine Ops.r (Run.fieldAddr rfl Try.underlying46 rfl Try.sizeOf43 (by decide)) rfl ?_
   refine Ops.r (Run.indexA1 _ rfl rfl Try.underlying43 Try.sizeOf3 (by omega)) rfl ?_
   refine Ops.r (Run.load rfl Try.isAgg3 ((hb3.cell _).trans (by rw [Nat.zero_add]; exact SyC_litAt (by omega)))) rfl ?_
   refine Ops.r (Run.bin rfl rfl (Bin.add_i64 _ 1 (by omega))) rfl ?_
   refine Ops.r (Run.fieldAddr rfl Try.underlying46 rfl Try.sizeOf43 (by decide)) rfl ?_
   refine Ops.r (Run.indexA1 _ rfl rfl Try.underlying43 Try.sizeOf3 (by omega)) rfl ?_
   refine Ops.st (Acts.store rfl rfl Try.sizeOf3 hb3 (by rw [Nat.blt_eq, SyC_size]; omega) rfl) ?_
   rintro w6 ⟨hb3n, hf6, hs6⟩
   rw [Nat.zero_add, SyC_lit (by omega), ← hl1, ← hl2] at hb3n
   refine jO (jN (jv5 2 3 14 15 16 ?_))
   refine jX ?_
   refine thenQ_x (blockQ_x ?_)
   refine jN (jR ?_)
   refine Ops.r (Run.bin rfl rfl (Bin.add_i64 _ 1 (by omega))) rfl ?_
   refine jM ?_
   refine jO ?_
   refine jN ⟨i + 1, (js5 rfl rfl rfl rfl rfl), ?_, ?_⟩
   ·
    exact ⟨hc1, hb3n, hb2.frm hf6 (by simp; omega), hot.frm hf6 (fun x hx hx2 => by rw [List.mem_singleton] at hx2; subst hx2; exact hot.ne_blk hb3 (by decide) hx), K.own hf6 (by simp; omega)⟩
   ·
    first | omega | (dsimp only; omega)
  ·
   obtain ⟨q1, q3, q4, q5, q6⟩ : q.1 = 0 ∧ 3 ≤ q.2.1 ∧ q.2.1 ≤ 258 ∧ 1 ≤ q.2.2 ∧ q.2.2 ≤ 32768 := by
    rcases hqok with ⟨h, _⟩ | h
    ·
     exact absurd h hc2
    ·
     exact h
   have hlf := lenS_facts q3 q4
   have hwf := wayS_facts q5 q6
   have hv1 := getD_le hle1 (257 + lenS q.2.1)
   have hv2 := getD_le hle2 (wayS q.2.2)
   unfold litStep at hl1
   rw [if_neg hc2] at hl1
   unfold wayStep at hl2
   rw [if_neg hc2] at hl2
   refine jQ (jN (jv6 2 3 5 14 15 16 ?_))
   refine jS (jR ?_)
   refine Ops.r (Run.fieldAddr rfl Try.underlying73 rfl Try.sizeOf3 (by decide)) rfl ?_
   refine Ops.r (Run.load rfl Try.isAgg3 (hb11.cell 1)) rfl ?_
   refine Ops.cl (Enters.fn (evs.cons rfl evs.nil) Try.call53) (ilen_tok _ _ q3 q4) rfl ?_
   rintro e w6 ⟨rfl, hf6⟩
   refine ⟨_, rfl, ?_⟩
   have hb3 := hb3.frm hf6 (by simp)
   have hb2 := hb2.frm hf6 (by simp)
   have hb11 := hb11.frm hf6 (by simp)
   have hot := hot.frm hf6 (by simp)
   have K := K.trans hf6 (by simp)
   refine jM ?_
   refine Ops.r (Run.extract rfl rfl) rfl ?_
   refine Ops.r (Run.extract rfl rfl) rfl ?_
   refine Ops.r (Run.extract rfl rfl) rfl ?_
   refine jA ?_
   refine jA ?_
   refine jA ?_
   refine jO (jN (jv7 2 3 5 6 14 15 16 ?_))
   refine jS (jR ?_)
   refine Ops.r (Run.fieldAddr rfl Try.underlying73 rfl Try.sizeOf3 (by decide)) rfl ?_
   refine Ops.r (Run.load rfl Try.isAgg3 (hb11.cell 2)) rfl ?_
   refine Ops.cl (Enters.fn (evs.cons rfl evs.nil) Try.call54) (iway_tok _ _ q5 q6) rfl ?_
   rintro e w7 ⟨rfl, hf7⟩
   refine ⟨_, rfl, ?_⟩
   have hb3 := hb3.frm hf7 (by simp)
   have hb2 := hb2.frm hf7 (by simp)
   have hot := hot.frm hf7 (by simp)
   have K := K.trans hf7 (by simp)
   refine jM ?_
   refine Ops.r (Run.extract rfl rfl) rfl ?_
   refine Ops.r (Run.extract rfl rfl) rfl ?_
   refine Ops.r (Run.extract rfl rfl) rfl ?_
   refine jA ?_
   refine jA ?_
   refine jA ?_
   refine jO (jN (jv7 2 3 6 9 14 15 16 ?_))
   refine jS (jR (jM ?_))
   refine Ops.r (Run.fieldAddr rfl Try.underlying46 rfl Try.sizeOf43 (by decide)) rfl ?_
   refine Ops.r (Run.indexA1 _ rfl rfl Try.underlying43 Try.sizeOf3 (by omega)) rfl ?_
   refine Ops.r (Run.load rfl Try.isAgg3 ((hb3.cell _).trans (by rw [Nat.zero_add]; exact SyC_litAt (by omega)))) rfl ?_
   refine Ops.r (Run.bin rfl rfl (Bin.add_i64 _ 1 (by omega))) rfl ?_
   refine Ops.r (Run.fieldAddr rfl Try.underlying46 rfl Try.sizeOf43 (by decide)) rfl ?_
   refine Ops.r (Run.indexA1 _ rfl rfl Try.underlying43 Try.sizeOf3 (by omega)) rfl ?_
   refine Ops.st (Acts.store rfl rfl Try.sizeOf3 hb3 (by rw [Nat.blt_eq, SyC_size]; omega) rfl) ?_
   rintro w8 ⟨hb3n, hf8, hs8⟩
   rw [Nat.zero_add, SyC_lit (by omega), ← hl1] at hb3n
   have hll3 : (litC (lt.take (i + 1))).length = 286 := litC_len _
   refine jO (jN (jv6 2 3 9 14 15 16 ?_))
   refine jR (jM ?_)
   refine Ops.r (Run.fieldAddr rfl Try.underlying46 rfl Try.sizeOf44 (by decide)) rfl ?_
   refine Ops.r (Run.indexA1 _ rfl rfl Try.underlying44 Try.sizeOf3 (by omega)) rfl ?_
   refine Ops.r (Run.load rfl Try.isAgg3 ((hb3n.cell (286 + wayS q.2.2)).trans (by rw [show 286 + wayS q.2.2 = (litC (lt.take (i + 1))).length + wayS q.2.2 by rw [hll3]]; exact SyC_wayAt (by omega)))) rfl ?_
   refine Ops.r (Run.bin rfl rfl (Bin.add_i64 _ 1 (by omega))) rfl ?_
   refine Ops.r (Run.fieldAddr rfl Try.underlying46 rfl Try.sizeOf44 (by decide)) rfl ?_
   refine Ops.r (Run.indexA1 _ rfl rfl Try.underlying44 Try.sizeOf3 (by omega)) rfl ?_
   refine Ops.st (Acts.store (i := 286 + wayS q.2.2) rfl rfl Try.sizeOf3 hb3n (by rw [Nat.blt_eq, SyC_size]; omega) rfl) ?_
   rintro w9 ⟨hb3m, hf9, hs9⟩
   rw [show 286 + wayS q.2.2 = (litC (lt.take (i + 1))).length + wayS q.2.2 by rw [hll3], SyC_way, ← hl2] at hb3m
   refine jO ?_
   refine blockQ_n (jN ?_)
   refine jv5 2 3 14 15 16 ?_
   refine jR ?_
   refine Ops.r (Run.bin rfl rfl (Bin.add_i64 _ 1 (by omega))) rfl ?_
   refine jM ?_
   refine jO ?_
   refine jN ⟨i + 1, (js5 rfl rfl rfl rfl rfl), ?_, ?_⟩
   ·
    have hot8 := hot.frm hf8 (fun x hx hx2 => by rw [List.mem_singleton] at hx2; subst hx2; exact hot.ne_blk hb3 (by decide) hx)
    exact ⟨hc1, hb3m, (hb2.frm hf8 (by simp; omega)).frm hf9 (by simp; omega), hot8.frm hf9 (fun x hx hx2 => by rw [List.mem_singleton] at hx2; subst hx2; exact hot8.ne_blk hb3n (by decide) hx), (K.own hf8 (by simp; omega)).own hf9 (by simp; omega)⟩
   ·
    first | omega | (dsimp only; omega)
 ·
  refine jX ?_
  refine thenQ_x (thenQ_x (blockQ_x ?_))
  refine jN (jv2 2 3 ?_)
  refine jS (jR ?_)
  refine Ops.r (Run.loadB rfl Try.isAgg46 Try.sizeOf46 hb3 (by rw [SyC_size, litC_len, wayC_len])) rfl ?_
  refine Ops.st (Acts.storeA rfl rfl (fun w => by rw [SyC_size, litC_len, wayC_len]; exact Try.sizeOf46 w) hb2 (by rw [SyC_size, SyC_size, litC_len, wayC_len]; simp [rep]) (SyC_one _ _)) ?_
  rintro w10 ⟨hb2n, hf10, hs10⟩
  have ei : i = lt.length := by omega
  subst ei
  rw [List.take_length] at hb2n
  refine jO (jN (jv1 2 ?_))
  refine jT ?_
  refine endR ?_
  refine res_cellB rfl Try.isAgg46 Try.sizeOf46 hb2n (by rw [SyC_size, litC_len, wayC_len]) ?_
  refine res_nil ?_
  exact ⟨rfl, K.own hf10 (by simp; omega)⟩
end Go.Proofs.Ytnmieihcjjiccaa
namespace Go.Proofs.Ytnmieihcjjiccaa
def sw (k : Nat → Nat) (i j : Nat) : Nat → Nat := fun x => if x = i then k j else if x = j then k i else k x
def HeapOk (k : Nat → Nat) (n : Nat) : Prop := ∀ i, 0 < i → i < n → k ((i - 1) / 2) ≤ k i
def UpInv (k : Nat → Nat) (j n : Nat) : Prop :=
 (∀ i, 0 < i → i < n → i ≠ j → k ((i - 1) / 2) ≤ k i) ∧ ∀ i, 0 < i → i < n → (i - 1) / 2 = j → 0 < j → k ((j - 1) / 2) ≤ k i
def DownInv (k : Nat → Nat) (j n : Nat) : Prop :=
 (∀ i, 0 < i → i < n → (i - 1) / 2 ≠ j → k ((i - 1) / 2) ≤ k i) ∧ ∀ i, 0 < i → i < n → (i - 1) / 2 = j → 0 < j → k ((j - 1) / 2) ≤ k i
theorem rise_of_heap {k : Nat → Nat} {n : Nat} (h : HeapOk k n) : UpInv k n (n + 1) :=
 ⟨fun i h0 hi hij => h i h0 (by omega), fun i h0 hi hp _ => by omega⟩
theorem rise_step {k : Nat → Nat} {j n : Nat} (h : UpInv k j n) (hj : 0 < j) (hjn : j < n) (hlt : k j < k ((j - 1) / 2)) : UpInv (sw k ((j - 1) / 2) j) ((j - 1) / 2) n := by
 obtain ⟨h1, h2⟩ := h
 have hpj : (j - 1) / 2 < j := by omega
 generalize hp : (j - 1) / 2 = p at *
 have hjp : ¬ j = p := by omega
 constructor
 ·
  intro i h0 hi hip
  by_cases hij : i = j
  ·
   subst hij
   unfold sw
   rw [hp, if_pos rfl, if_neg hjp, if_pos rfl]
   omega
  ·
   by_cases hq : (i - 1) / 2 = p
   ·
    have := h1 i h0 hi hij
    unfold sw
    rw [hq] at this ⊢
    rw [if_pos rfl, if_neg hip, if_neg hij]
    omega
   ·
    by_cases hq2 : (i - 1) / 2 = j
    ·
     have := h2 i h0 hi hq2 hj
     unfold sw
     rw [hq2, if_neg hjp, if_pos rfl, if_neg hip, if_neg hij]
     omega
    ·
     have := h1 i h0 hi hij
     unfold sw
     rw [if_neg hq, if_neg hq2, if_neg hip, if_neg hij]
     omega
 ·
  intro i h0 hi hip hp0
  have hqp : (p - 1) / 2 < p := by omega
  have hpp := h1 p hp0 (by omega) (by omega)
  by_cases hij : i = j
  ·
   subst hij
   unfold sw
   rw [if_neg (by omega), if_neg (by omega), if_neg hjp, if_pos rfl]
   exact hpp
  ·
   have h3 := h1 i h0 hi hij
   rw [hip] at h3
   unfold sw
   rw [if_neg (by omega), if_neg (by omega), if_neg (by omega), if_neg hij]
   omega
theorem rise_end {k : Nat → Nat} {j n : Nat} (h : UpInv k j n) (hj : j = 0 ∨ ¬ k j < k ((j - 1) / 2)) : HeapOk k n := by
 intro i h0 hi
 by_cases hij : i = j
 ·
  subst hij
  rcases hj with h3 | h3
  ·
   omega
  ·
   omega
 ·
  exact h.1 i h0 hi hij
theorem sink_of_heap {k : Nat → Nat} {n : Nat} (h : HeapOk k (n + 1)) : DownInv (sw k 0 n) 0 n := by
 constructor
 ·
  intro i h0 hi hp
  have := h i h0 (by omega)
  unfold sw
  rw [if_neg hp, if_neg (by omega), if_neg (by omega), if_neg (by omega)]
  exact this
 ·
  intro i _ _ _ h0
  omega
theorem sink_step {k : Nat → Nat} {i j n : Nat} (h : DownInv k i n) (hj : (j - 1) / 2 = i) (hj0 : 0 < j) (hjn : j < n) (hlt : k j < k i) (hmin : ∀ c, 0 < c → c < n → (c - 1) / 2 = i → k j ≤ k c) : DownInv (sw k i j) j n := by
 obtain ⟨h1, h2⟩ := h
 have hij : i < j := by omega
 constructor
 ·
  intro c h0 hc hp
  by_cases hci : c = i
  ·
   subst hci
   have h3 := h2 j hj0 hjn hj h0
   unfold sw
   rw [if_neg (by omega), if_neg hp, if_pos rfl]
   omega
  ·
   by_cases hcj : c = j
   ·
    subst hcj
    unfold sw
    rw [hj, if_pos rfl, if_neg (by omega), if_pos rfl]
    omega
   ·
    by_cases hpi : (c - 1) / 2 = i
    ·
     have := hmin c h0 hc hpi
     unfold sw
     rw [hpi, if_pos rfl, if_neg hci, if_neg hcj]
     omega
    ·
     have := h1 c h0 hc hpi
     unfold sw
     rw [if_neg hpi, if_neg hp, if_neg hci, if_neg hcj]
     exact this
 ·
  intro c h0 hc hp hj1
  have h3 := h1 c h0 hc (by omega)
  unfold sw
  rw [hj, if_pos rfl, if_neg (by omega), if_neg (by omega)]
  rw [hp] at h3
  exact h3
theorem sink_end {k : Nat → Nat} {i n : Nat} (h : DownInv k i n) (hd : ∀ c, 0 < c → c < n → (c - 1) / 2 = i → k i ≤ k c) : HeapOk k n := by
 intro c h0 hc
 by_cases hp : (c - 1) / 2 = i
 ·
  rw [hp]; exact hd c h0 hc hp
 ·
  exact h.1 c h0 hc hp
theorem heap_top {k : Nat → Nat} {n : Nat} (h : HeapOk k n) : ∀ i, i < n → k 0 ≤ k i := by
 intro i
 induction i using Nat.strongRecOn with
 | _ i ih =>
  intro hi
  by_cases h0 : i = 0
  ·
   subst h0; exact Nat.le_refl _
  ·
   have h1 := h i (by omega) hi
   have h2 := ih ((i - 1) / 2) (by omega) (by omega)
   omega
end Go.Proofs.Ytnmieihcjjiccaa
namespace Go.Proofs.Ytnmieihcjjiccaa
open Go.RowKit
structure PkC where
 count : Nat
 A : Option Addr
 c : Nat
 sy : List Nat
def PkC.cells (p : PkC) : List Value := [.int .i64 ((p.count : Nat) : Int), .slice p.A p.sy.length p.c]
theorem PkC.cells_len (p : PkC) : p.cells.length = 2 := rfl
theorem PkC.one (p : PkC) : ∀ v ∈ p.cells, v.oneCell' = true := by
 intro v hv
 simp only [PkC.cells, List.mem_cons, List.not_mem_nil, or_false] at hv
 rcases hv with rfl | rfl <;> rfl
def PkC.zero : PkC := ⟨0, none, 0, []⟩
def PkC.key (p : PkC) : Nat := p.count * 1024 + p.sy.headD 0
def PkOk (w : World) (p : PkC) : Prop := Own w 3 1 p.A p.sy.length p.c (NI p.sy)
theorem PkOk.frm {w w' : World} {p : PkC} {S : List Nat} (h : PkOk w p) (k : Frm S w w') (hS : ∀ x ∈ ob p.A, x ∉ S) : PkOk w' p := Own.frm h k hS
def Pks (w : World) (A : Option Addr) (c : Nat) (ps : List PkC) : Prop := Own w 106 2 A ps.length c (ps.flatMap PkC.cells) ∧ ∀ p ∈ ps, PkOk w p
theorem Pks.frm {w w' : World} {A : Option Addr} {c : Nat} {ps : List PkC} {S : List Nat} (h : Pks w A c ps) (k : Frm S w w') (hA : ∀ x ∈ ob A, x ∉ S) (hS : ∀ p ∈ ps, ∀ x ∈ ob p.A, x ∉ S) : Pks w' A c ps :=
 ⟨h.1.frm k hA, fun p hp => (h.2 p hp).frm k (hS p hp)⟩
def kk (ps : List PkC) (x : Nat) : Nat := (ps.getD x PkC.zero).key
theorem kk_at (ps : List PkC) (x : Nat) (h : x < ps.length) : kk ps x = ps[x].key := by simp [kk, List.getD, List.getElem?_eq_getElem h]
def swapL (ps : List PkC) (i j : Nat) : List PkC := (ps.set i (ps.getD j PkC.zero)).set j (ps.getD i PkC.zero)
theorem swapL_len (ps : List PkC) (i j : Nat) : (swapL ps i j).length = ps.length := by simp [swapL]
theorem swapL_kk (ps : List PkC) (i j : Nat) (hi : i < ps.length) (hj : j < ps.length) : kk (swapL ps i j) = sw (kk ps) i j := by
 funext x
 unfold kk swapL sw
 simp only [List.getD, List.getElem?_set, List.length_set]
 by_cases h1 : j = x
 ·
  subst h1
  by_cases h2 : j = i
  ·
   subst h2; simp [hj, kk]
  ·
   simp [hj, h2, kk]
 ·
  have h1' : ¬ x = j := fun e => h1 e.symm
  by_cases h2 : i = x
  ·
   subst h2; simp [hi, h1, kk]
  ·
   have h2' : ¬ x = i := fun e => h2 e.symm
   simp [h1, h2, h1', h2', kk]
open Classical in
theorem swapL_perm (ps : List PkC) (i j : Nat) (hi : i < ps.length) (hj : j < ps.length) : (swapL ps i j).Perm ps := by
 rw [List.perm_iff_count]
 intro a
 unfold swapL
 have e1 : ps.getD i PkC.zero = ps[i] := by simp [List.getD, List.getElem?_eq_getElem hi]
 have e2 : ps.getD j PkC.zero = ps[j] := by simp [List.getD, List.getElem?_eq_getElem hj]
 rw [e1, e2, List.count_set (by simpa using hj), List.count_set hi]
 have h1 : (if ps[i] == a then 1 else 0) ≤ ps.count a := by
  split
  ·
   rename_i h
   have := beq_iff_eq.1 h
   subst this
   exact List.count_pos_iff.2 (List.getElem_mem hi)
  ·
   exact Nat.zero_le _
 have h2 : ((ps.set i ps[j])[j]'(by simpa using hj)) = if i = j then ps[j] else ps[j] := by
  rw [List.getElem_set]
 rw [h2]
 simp only [ite_self]
 all_goals omega
theorem m_Push (v : Value) (w : World) (args : Array Value) : (callMethod (.iface 147 v) "Push" args).run Try.prog w = .ok (.enter 132 (#[v] ++ args)) w := by kernel_rfl
theorem m_Len (v : Value) (w : World) (args : Array Value) : (callMethod (.iface 147 v) "Len" args).run Try.prog w = .ok (.enter 86 (#[v] ++ args)) w := by kernel_rfl
theorem m_Pop (v : Value) (w : World) (args : Array Value) : (callMethod (.iface 147 v) "Pop" args).run Try.prog w = .ok (.enter 131 (#[v] ++ args)) w := by kernel_rfl
theorem m_Less {a : Addr} {v : Value} {w : World} (hc : w.cell? a = some v) (args : Array Value) : (callMethod (.iface 147 (.pointer (some a))) "Less" args).run Try.prog w = .ok (.enter 130 (#[v] ++ args)) w :=
 hm_deref (m := ((Try.prog.info? 147).bind fun i => i.methods.find? (·.name == "Less")).get jK) (i := (Try.prog.info? 147).get jK) jK jK jK jK Try.underlying147 (loadVar_cell Try.isAgg148 hc) Try.call130 args
theorem m_Swap {a : Addr} {v : Value} {w : World} (hc : w.cell? a = some v) (args : Array Value) : (callMethod (.iface 147 (.pointer (some a))) "Swap" args).run Try.prog w = .ok (.enter 133 (#[v] ++ args)) w :=
 hm_deref (m := ((Try.prog.info? 147).bind fun i => i.methods.find? (·.name == "Swap")).get jK) (i := (Try.prog.info? 147).get jK) jK jK jK jK Try.underlying147 (loadVar_cell Try.isAgg148 hc) Try.call133 args
def IsC (w : World) (g : Nat) (A : Option Addr) (c : Nat) (ps : List PkC) : Prop := Blk w g 148 #[.slice A ps.length c] ∧ Pks w A c ps
set_option maxRecDepth 100000 in
theorem cLen_spec (g c : Nat) (A : Option Addr) (ps : List PkC) (w : World) (h : IsC w g A c ps) :
  Calls Try.prog 86 #[.pointer (some ⟨g, 0, none⟩)] w fun e w' => e = .returned (.int .i64 ((ps.length : Nat) : Int)) ∧ w = w' := by
 refine VC.calls (nt := 7) (res := #[.tmp 2]) Try.func86 rfl Try.ntmps86 Try.results86 rfl ?_
 refine jS (jR ?_)
 refine Ops.r (v := .int .i64 ((0 : Nat) : Int)) (Run.asg rfl) rfl ?_
 refine jO (jN (jv1 0 ?_))
 refine jS (jR (jM ?_))
 refine Ops.r (Run.nilck rfl) rfl ?_
 refine Ops.r (Run.load rfl Try.isAgg148 (h.1.cell 0)) rfl ?_
 refine Ops.r (Run.lenS rfl Try.underlying148) rfl ?_
 refine jA ?_
 refine jO (jN (jv1 2 ?_))
 refine jT ?_
 refine end1 rfl ?_
 exact ⟨rfl, rfl⟩
set_option maxRecDepth 100000 in
theorem cLess_spec (A : Option Addr) (c i j : Nat) (ps : List PkC) (w : World) (h : Pks w A c ps) (hi : i < ps.length) (hj : j < ps.length) (hs : ∀ p ∈ ps, ∃ s, p.sy = [s] ∧ s < 1024) :
  Calls Try.prog 130 #[.slice A ps.length c, .int .i64 ((i : Nat) : Int), .int .i64 ((j : Nat) : Int)] w fun e w' => e = .returned (.bool (decide (kk ps i < kk ps j))) ∧ Drawn w w' := by
 rw [kk_at ps i hi, kk_at ps j hj]
 obtain ⟨ad, rfl, heli⟩ := h.1.rd.elem hi
 obtain ⟨ad2, had, helj⟩ := h.1.rd.elem hj
 obtain rfl : ad = ad2 := by injection had
 rw [flat_get PkC.cells 2 PkC.cells_len ps i hi] at heli
 rw [flat_get PkC.cells 2 PkC.cells_len ps j hj] at helj
 have hoi := h.2 _ (List.getElem_mem hi)
 have hoj := h.2 _ (List.getElem_mem hj)
 obtain ⟨si, hsi, hsil⟩ := hs _ (List.getElem_mem hi)
 obtain ⟨sj, hsj, hsjl⟩ := hs _ (List.getElem_mem hj)
 generalize ps[i] = pi at *
 generalize ps[j] = pj at *
 have hki : pi.key = pi.count * 1024 + si := by unfold PkC.key; rw [hsi]; rfl
 have hkj : pj.key = pj.count * 1024 + sj := by unfold PkC.key; rw [hsj]; rfl
 unfold PkOk at hoi hoj
 obtain ⟨ai, hai, hci⟩ := NI_at hoi.rd (k := 0) (by rw [hsi]; simp)
 obtain ⟨aj, haj, hcj⟩ := NI_at hoj.rd (k := 0) (by rw [hsj]; simp)
 have hci' : w.cell? (ai.add 0) = some (.int .i64 ((si : Nat) : Int)) := by rw [hci]; simp [hsi]
 have hcj' : w.cell? (aj.add 0) = some (.int .i64 ((sj : Nat) : Int)) := by rw [hcj]; simp [hsj]
 have hli : pi.sy.length = 1 := by rw [hsi]; rfl
 have hlj : pj.sy.length = 1 := by rw [hsj]; rfl
 have h1i : (PkC.cells pi)[1]? = some (.slice (some ai) 1 pi.c) := by simp [PkC.cells, hai, hli]
 have h1j : (PkC.cells pj)[1]? = some (.slice (some aj) 1 pj.c) := by simp [PkC.cells, haj, hlj]
 refine VC.calls (nt := 44) (res := #[.tmp 6]) Try.func130 rfl Try.ntmps130 Try.results130 rfl ?_
 refine jS (jR (jA ?_))
 refine jO (jN (jv3 0 1 2 ?_))
 refine jS (jS ?_)
 refine VC.still jK jK ?_
 refine SOps.r (Run.mv rfl) rfl ?_
 refine SOps.r (Run.mv rfl) rfl ?_
 refine SOps.r (Run.indexS _ rfl rfl Try.underlying148 Try.sizeOf106 (by omega)) rfl ?_
 refine SOps.r (Run.fieldAddr rfl Try.underlying106 rfl Try.sizeOf3 (by decide)) rfl ?_
 refine SOps.r (Run.load rfl Try.isAgg3 (heli 0 _ rfl)) rfl ?_
 refine SOps.r (Run.mv rfl) rfl ?_
 refine SOps.r (Run.mv rfl) rfl ?_
 refine SOps.r (Run.indexS _ rfl rfl Try.underlying148 Try.sizeOf106 (by omega)) rfl ?_
 refine SOps.r (Run.fieldAddr rfl Try.underlying106 rfl Try.sizeOf3 (by decide)) rfl ?_
 refine SOps.r (Run.load rfl Try.isAgg3 (helj 0 _ rfl)) rfl ?_
 refine SOps.r (Run.bin rfl rfl (Bin.neqN _ _)) rfl ?_
 refine SOps.nil ?_
 refine jN (jv4 0 1 2 17 ?_)
 refine VC.condD rfl (fun hc1 => ?_) (fun hc1 => ?_)
 ·
  refine jS ?_
  refine VC.still jK jK ?_
  refine SOps.r (Run.mv rfl) rfl ?_
  refine SOps.r (Run.mv rfl) rfl ?_
  refine SOps.r (Run.indexS _ rfl rfl Try.underlying148 Try.sizeOf106 (by omega)) rfl ?_
  refine SOps.r (Run.fieldAddr rfl Try.underlying106 rfl Try.sizeOf3 (by decide)) rfl ?_
  refine SOps.r (Run.load rfl Try.isAgg3 (heli 0 _ rfl)) rfl ?_
  refine SOps.r (Run.mv rfl) rfl ?_
  refine SOps.r (Run.mv rfl) rfl ?_
  refine SOps.r (Run.indexS _ rfl rfl Try.underlying148 Try.sizeOf106 (by omega)) rfl ?_
  refine SOps.r (Run.fieldAddr rfl Try.underlying106 rfl Try.sizeOf3 (by decide)) rfl ?_
  refine SOps.r (Run.load rfl Try.isAgg3 (helj 0 _ rfl)) rfl ?_
  refine SOps.r (Run.bin rfl rfl (Bin.lssN _ _)) rfl ?_
  refine SOps.r (Run.asg rfl) rfl ?_
  refine SOps.nil ?_
  refine jN (jv1 6 ?_)
  refine jT ?_
  refine thenQ_r (end1 rfl ?_)
  refine ⟨?_, (Drawn.drew _).trans (Drawn.drew _)⟩
  rw [hki, hkj]
  congr 2
  rw [decide_eq_decide]
  omega
 ·
  refine jQ (jN (jv3 0 1 2 ?_))
  refine jS ?_
  refine VC.still jK jK ?_
  refine SOps.r (Run.mv rfl) rfl ?_
  refine SOps.r (Run.mv rfl) rfl ?_
  refine SOps.r (Run.indexS _ rfl rfl Try.underlying148 Try.sizeOf106 (by omega)) rfl ?_
  refine SOps.r (Run.fieldAddr rfl Try.underlying106 rfl Try.sizeOf38 (by decide)) rfl ?_
  refine SOps.r (Run.load rfl Try.isAgg38 (heli 1 _ h1i)) rfl ?_
  refine SOps.r (Run.index1 0 rfl rfl Try.underlying38 Try.sizeOf3 (by omega)) rfl ?_
  refine SOps.r (Run.load rfl Try.isAgg3 hci') rfl ?_
  refine SOps.r (Run.mv rfl) rfl ?_
  refine SOps.r (Run.mv rfl) rfl ?_
  refine SOps.r (Run.indexS _ rfl rfl Try.underlying148 Try.sizeOf106 (by omega)) rfl ?_
  refine SOps.r (Run.fieldAddr rfl Try.underlying106 rfl Try.sizeOf38 (by decide)) rfl ?_
  refine SOps.r (Run.load rfl Try.isAgg38 (helj 1 _ h1j)) rfl ?_
  refine SOps.r (Run.index1 0 rfl rfl Try.underlying38 Try.sizeOf3 (by omega)) rfl ?_
  refine SOps.r (Run.load rfl Try.isAgg3 hcj') rfl ?_
  refine SOps.r (Run.bin rfl rfl (Bin.lssN _ _)) rfl ?_
  refine SOps.r (Run.asg rfl) rfl ?_
  refine SOps.nil ?_
  refine jN (jv1 6 ?_)
  refine jT ?_
  refine end1 rfl ?_
  refine ⟨?_, (Drawn.drew _).trans (Drawn.drew _)⟩
  rw [hki, hkj]
  congr 2
  rw [decide_eq_decide]
  omega
theorem getD_atP (ps : List PkC) (i : Nat) (h : i < ps.length) : ps.getD i PkC.zero = ps[i] := by simp [List.getD, List.getElem?_eq_getElem h]
theorem Pks.ne {w : World} {A : Option Addr} {c : Nat} {ps : List PkC} (h : Pks w A c ps) : ∀ p ∈ ps, ∀ x ∈ ob p.A, x ∉ ob A := fun p hp => (h.2 p hp).ne_own h.1 (by decide)
theorem IsC.lt {w : World} {g c : Nat} {A : Option Addr} {ps : List PkC} (h : IsC w g A c ps) : g < w.heap.size := h.1.lt
theorem IsC.neA {w : World} {g c : Nat} {A : Option Addr} {ps : List PkC} (h : IsC w g A c ps) : g ∉ ob A := h.2.1.ne_blk h.1 (by decide)
theorem IsC.neP {w : World} {g c : Nat} {A : Option Addr} {ps : List PkC} (h : IsC w g A c ps) : ∀ p ∈ ps, g ∉ ob p.A := fun p hp => (h.2.2 p hp).ne_blk h.1 (by decide)
set_option maxRecDepth 100000 in
theorem cSwap_spec (A : Option Addr) (c i j : Nat) (ps : List PkC) (w : World) (h : Pks w A c ps) (hi : i < ps.length) (hj : j < ps.length) :
  Calls Try.prog 133 #[.slice A ps.length c, .int .i64 ((i : Nat) : Int), .int .i64 ((j : Nat) : Int)] w fun e w' => e = .returned (.tuple #[]) ∧ Pks w' A c (swapL ps i j) ∧ Frm (ob A) w w' := by
 have hpm := swapL_perm ps i j hi hj
 have hsl := swapL_len ps i j
 unfold swapL at hpm hsl ⊢
 rw [getD_atP ps i hi, getD_atP ps j hj] at hpm hsl ⊢
 obtain ⟨ad, rfl, heli⟩ := h.1.rd.elem hi
 obtain ⟨ad2, had, helj⟩ := h.1.rd.elem hj
 obtain rfl : ad = ad2 := by injection had
 rw [flat_get PkC.cells 2 PkC.cells_len ps i hi] at heli
 rw [flat_get PkC.cells 2 PkC.cells_len ps j hj] at helj
 generalize ps[i] = pi at *
 generalize ps[j] = pj at *
 refine VC.calls (nt := 20) (res := #[]) Try.func133 rfl Try.ntmps133 Try.results133 rfl ?_
 refine VC.held (fun _ => True) jK ?_
 refine jH 0 rfl trivial (fun w0 hw0 => Run.mv rfl) ?_
 refine jH 1 rfl trivial (fun w0 hw0 => Run.mv rfl) ?_
 refine jH 2 rfl trivial (fun w0 hw0 => Run.mv rfl) ?_
 refine jH 3 rfl trivial (fun w0 hw0 => Run.mv rfl) ?_
 refine jH 4 rfl trivial (fun w0 hw0 => Run.mv rfl) ?_
 refine jH 5 rfl trivial (fun w0 hw0 => Run.mv rfl) ?_
 refine jH 6 rfl trivial (fun w0 hw0 => Run.indexS _ rfl rfl Try.underlying148 Try.sizeOf106 (by omega)) ?_
 refine jH 8 rfl trivial (fun w0 hw0 => Run.mv rfl) ?_
 refine jH 9 rfl trivial (fun w0 hw0 => Run.mv rfl) ?_
 refine jH 10 rfl trivial (fun w0 hw0 => Run.indexS _ rfl rfl Try.underlying148 Try.sizeOf106 (by omega)) ?_
 refine HOps.r2 7 11 rfl rfl jK jK jK jK trivial rfl rfl (Run.loadA rfl Try.isAgg106 Try.sizeOf106 helj (by first | rfl | (simp; done))) (Run.loadA rfl Try.isAgg106 Try.sizeOf106 heli (by first | rfl | (simp; done))) (Run.loadA rfl Try.isAgg106 Try.sizeOf106 heli (by first | rfl | (simp; done))) (Run.loadA rfl Try.isAgg106 Try.sizeOf106 helj (by first | rfl | (simp; done))) rfl rfl rfl rfl rfl ?_
 refine jH 12 rfl trivial (fun w0 hw0 => Run.indexS _ rfl rfl Try.underlying148 Try.sizeOf106 (by omega)) ?_
 refine HOps.st 13 rfl jK (Acts.storeOwnA PkC.cells pj i rfl rfl Try.sizeOf106 PkC.cells_len rfl (h.1.drawn (Drawn.drew _)) rfl hi (PkC.one _)) trivial rfl ?_
 rintro w3 ⟨ho3, hf3, hs3⟩
 refine ⟨trivial, ?_⟩
 refine jH 14 rfl trivial (fun w0 hw0 => Run.indexS _ rfl rfl Try.underlying148 Try.sizeOf106 (by omega)) ?_
 refine HOps.st 15 rfl jK (Acts.storeOwnA PkC.cells pi j rfl rfl Try.sizeOf106 PkC.cells_len (by simp) ho3 rfl hj (PkC.one _)) trivial rfl ?_
 rintro w4 ⟨ho4, hf4, hs4⟩
 refine ⟨trivial, ?_⟩
 refine HOps.done jK ?_
 refine end0n ?_
 have hf := ((Drawn.drew w).frm.mono (T := ob (some ad)) (by simp)).trans (hf3.trans hf4 (fun x hx => .inl hx)) (fun x hx => .inl hx)
 refine ⟨rfl, ⟨?_, fun p hp => ?_⟩, hf⟩
 ·
  rw [hsl]; exact ho4
 ·
  have hp2 := hpm.mem_iff.1 hp
  exact (h.2 p hp2).frm hf (h.ne p hp2)
set_option maxRecDepth 100000 in
theorem cPush_spec (g c : Nat) (A : Option Addr) (ps : List PkC) (p : PkC) (w : World) (h : IsC w g A c ps) (hp : PkOk w p) (hl : ps.length ≤ 1000000) :
  Calls Try.prog 132 #[.pointer (some ⟨g, 0, none⟩), .iface 106 (.agg p.cells.toArray)] w fun e w' => e = .returned (.tuple #[]) ∧ ∃ A' c', IsC w' g A' c' (ps ++ [p]) ∧ Frm (g :: ob A) w w' ∧ ∀ x ∈ ob A', x ∈ ob A ∨ w.heap.size ≤ x := by
 refine VC.calls (nt := 13) (res := #[]) Try.func132 rfl Try.ntmps132 Try.results132 rfl ?_
 refine VC.held (fun _ => True) jK ?_
 refine jH 0 rfl trivial (fun w0 hw0 => Run.mv rfl) ?_
 refine jH 1 rfl trivial (fun w0 hw0 => Run.mv rfl) ?_
 refine jH 2 rfl trivial (fun w0 hw0 => Run.nilck rfl) ?_
 refine jH 4 rfl trivial (fun w0 hw0 => Run.mv rfl) ?_
 refine jH 5 rfl trivial (fun w0 hw0 => Run.assertT rfl Try.underlying106 rfl) ?_
 refine HOps.rm 3 6 (l2 := [3, 6]) rfl rfl jK (by simp) (by simp) jK jK jK trivial rfl rfl (Run.load rfl Try.isAgg148 (h.1.cell 0)) (Does.buildS1 rfl Try.underlying148 Try.sizeOf106 zero106 (by decide) (by decide) rfl rfl) (Does.buildS1 rfl Try.underlying148 Try.sizeOf106 zero106 (by decide) (by decide) rfl rfl) (fun v w2 hR => ⟨trivial, Run.load rfl Try.isAgg148 (((h.1.drawn (Drawn.drew _)).frm hR.2.frm (by simp)).cell 0)⟩) rfl rfl rfl rfl rfl ?_
 rintro _ w1 ⟨rfl, hF1⟩
 have hd := Drawn.drew w
 have hb1 := (h.1.drawn hd).frm hF1.frm (by simp)
 have ho1 := (h.2.1.drawn hd).frm hF1.frm (by simp)
 have hrd : Rd w1 2 (some ⟨w.drew.heap.size, 0, none⟩) 1 p.cells := Rd.of_blk (n := 1) (size := 2) hF1.blk rfl
 refine HOps.m 7 rfl jK (Does.app rfl rfl Try.underlying148 (info106) rfl (by decide) ho1 hrd p.one (by omega) (by omega)) trivial rfl rfl ?_
 rintro _ w2 ⟨A2, c2, rfl, ho2, hf2, hob2⟩
 refine ⟨trivial, ?_⟩
 have hb2 := hb1.frm hf2 h.neA
 refine jH 8 rfl trivial (fun w0 hw0 => Run.nilck rfl) ?_
 refine HOps.st 9 rfl jK (Acts.store rfl rfl Try.sizeOf148 hb2 rfl rfl) trivial rfl ?_
 rintro w3 ⟨hb3, hf3, hs3⟩
 refine ⟨trivial, ?_⟩
 refine HOps.done jK ?_
 refine end0n ?_
 have hsz : w.heap.size ≤ w.drew.heap.size := Nat.le_refl _
 have h1s := hF1.frm.size
 have F1 : Frm [] w w1 := hd.frm.own hF1.frm (by simp)
 have hf : Frm (g :: ob A) w w3 := ((F1.mono (T := g :: ob A) (by simp)).trans hf2 (fun x hx => .inl (by simp [hx]))).trans hf3 (fun x hx => .inl (by simp at hx; simp [hx]))
 have hl2 : (ps ++ [p]).length = ps.length + 1 := List.length_append
 have hg2 : g ∉ ob A2 := ho2.ne_blk hb2 (by decide)
 refine ⟨rfl, A2, c2, ⟨?_, ?_, ?_⟩, hf, ?_⟩
 ·
  rw [hl2]; exact hb3
 ·
  rw [hl2, List.flatMap_append]
  have := ho2.frm hf3 (fun x hx hx2 => by simp at hx2; subst hx2; exact hg2 hx)
  simpa using this
 ·
  intro q hq
  rcases List.mem_append.1 hq with hq | hq
  ·
   refine (h.2.2 q hq).frm hf (fun x hx hx2 => ?_)
   rcases List.mem_cons.1 hx2 with h5 | h5
   ·
    subst h5; exact h.neP q hq hx
   ·
    exact h.2.ne q hq x hx h5
  ·
   simp at hq
   subst hq
   refine hp.frm hf (fun x hx hx2 => ?_)
   rcases List.mem_cons.1 hx2 with h5 | h5
   ·
    subst h5; exact hp.ne_blk h.1 (by decide) hx
   ·
    exact hp.ne_own h.2.1 (by decide) x hx h5
 ·
  intro x hx
  rcases hob2 with h5 | h5 <;> rw [h5] at hx
  ·
   exact .inl hx
  ·
   simp at hx; subst hx; exact .inr (Nat.le_trans hsz h1s)
theorem kk_app (ps : List PkC) (p : PkC) (i : Nat) (h : i < ps.length) : kk (ps ++ [p]) i = kk ps i := by simp [kk, List.getD, List.getElem?_append_left h]
theorem cutA_zero (A : Option Addr) (c sz : Nat) : cutA A c 0 sz = A := by
 unfold cutA
 split
 ·
  rfl
 ·
  cases A with
  | none => rfl
  | some a => simp [add_zero']
theorem Own.shrink {w : World} {e size n cap m : Nat} {A : Option Addr} {xs : List Value} (h : Own w e size A n cap xs) (hm : m ≤ n) : Own w e size A m cap (xs.take (m * size)) := by
 have hmn : m * size ≤ n * size := Nat.mul_le_mul_right _ hm
 rcases h.cases with ⟨rfl, rfl, rfl, rfl⟩ | ⟨g, cur, rfl, hb, h1, h2, h3, h4⟩
 ·
  have : m = 0 := by omega
  subst this
  simpa using Own.nil w e size
 ·
  refine ⟨?_, .inr ⟨g, cap, cur, rfl, Nat.zero_le _, hb, by omega, h2, h3, ?_⟩⟩
  ·
   rw [List.length_take, h.1]; omega
  ·
   rw [← h4, List.take_take, Nat.min_eq_left hmn]
theorem quo_half (j : Nat) (hj : j ≤ 9223372036854775807) : Bin .quo .i64 ((j : Int) - 1) .i64 2 (.int .i64 (((j - 1) / 2 : Nat) : Int)) := by
 rcases Nat.eq_zero_or_pos j with h | h
 ·
  subst h
  intro P T w
  rfl
 ·
  have e : (j : Int) - 1 = ((j - 1 : Nat) : Int) := by omega
  rw [e]
  exact Bin.quo_i64 (j - 1) 2 (by omega) (by omega)
def One (ps : List PkC) : Prop := ∀ p ∈ ps, ∃ s, p.sy = [s] ∧ s < 1024
theorem One.perm {ps qs : List PkC} (h : One ps) (hp : qs.Perm ps) : One qs := fun p hq => h p (hp.mem_iff.1 hq)
theorem IsC.drawn {w w' : World} {g c : Nat} {A : Option Addr} {ps : List PkC} (h : IsC w g A c ps) (k : Drawn w w') : IsC w' g A c ps := ⟨h.1.drawn k, h.2.frm k.frm (by simp) (fun _ _ _ _ => by simp)⟩
set_option maxRecDepth 100000 in
theorem cPop_spec (g c : Nat) (A : Option Addr) (qs : List PkC) (p : PkC) (w : World) (h : IsC w g A c (qs ++ [p])) (hl : qs.length ≤ 1000000) :
  Calls Try.prog 131 #[.pointer (some ⟨g, 0, none⟩)] w fun e w' => e = .returned (.iface 106 (.agg p.cells.toArray)) ∧ IsC w' g A c qs ∧ PkOk w' p ∧ Frm [g] w w' := by
 have hle : (qs ++ [p]).length = qs.length + 1 := List.length_append
 obtain ⟨ad, rfl, hel⟩ := h.2.1.rd.elem (k := qs.length) (by omega)
 rw [flat_get PkC.cells 2 PkC.cells_len (qs ++ [p]) qs.length (by omega)] at hel
 have hget : (qs ++ [p])[qs.length]'(by omega) = p := by simp
 rw [hget] at hel
 have h1 := h.1
 rw [hle] at h1
 have hcap := h.2.1.le
 rw [hle] at hcap
 refine VC.calls (nt := 23) (res := #[.tmp 2]) Try.func131 rfl Try.ntmps131 Try.results131 rfl ?_
 refine jS (jR (jA ?_))
 refine jO (jN (jv1 0 ?_))
 refine jS (jR (jM ?_))
 refine Ops.r (Run.nilck rfl) rfl ?_
 refine Ops.r (Run.load rfl Try.isAgg148 (h1.cell 0)) rfl ?_
 refine jA ?_
 refine jO (jN (jv2 0 3 ?_))
 refine jS (jR (jM ?_))
 refine jM ?_
 refine Ops.r (Run.lenS rfl Try.underlying148) rfl ?_
 refine Ops.r (Run.bin rfl rfl (Bin.sub_i64 _ 1 (by omega) (by omega))) rfl ?_
 refine Ops.r (Run.indexS _ rfl rfl Try.underlying148 Try.sizeOf106 (by omega)) rfl ?_
 refine Ops.r (Run.loadA rfl Try.isAgg106 Try.sizeOf106 hel (by first | rfl | (simp; done))) rfl ?_
 refine Ops.m (Does.alloc zero106) rfl ?_
 rintro _ w1 ⟨rfl, hF1⟩
 have hb1 := hF1.blk
 refine Ops.st (Acts.storeA rfl rfl Try.sizeOf106 hb1 rfl p.one) ?_
 rintro w2 ⟨hb2, hf2, hs2⟩
 have hg1 := (h1.frm hF1.frm (by simp)).frm hf2 (by have := h1.lt; simp; omega)
 refine jO (jN (jv3 0 3 4 ?_))
 refine jS (jR (jM ?_))
 refine jM ?_
 refine jM ?_
 refine Ops.r (Run.lenS rfl Try.underlying148) rfl ?_
 refine Ops.r (Run.bin rfl rfl (Bin.sub_i64 _ 1 (by omega) (by omega))) rfl ?_
 refine Ops.r (Run.sliceS 0 _ rfl Try.underlying148 Try.sizeOf106 evB.none_ (evB.some_ rfl) (by omega) (by omega)) rfl ?_
 rw [cutA_zero, Nat.sub_zero, Nat.sub_zero]
 refine Ops.r (Run.nilck rfl) rfl ?_
 refine Ops.st (Acts.store rfl rfl Try.sizeOf148 hg1 rfl rfl) ?_
 rintro w3 ⟨hb3, hf3, hs3⟩
 have hb23 := hb2.frm hf3 (by have := h1.lt; simp; omega)
 refine jO (jN (jv1 4 ?_))
 refine jS (jR ?_)
 refine Ops.r (Run.loadA rfl Try.isAgg106 Try.sizeOf106 hb23.cells (by first | rfl | (simp; done))) rfl ?_
 refine Ops.r (Run.mkIface rfl Try.underlying106 rfl) rfl ?_
 refine jA ?_
 refine jO (jN (jv1 2 ?_))
 refine jT ?_
 refine end1 rfl ?_
 have hlt := h1.lt
 have hf : Frm [g] w w3 := ((hF1.frm.mono (T := [g]) (by simp)).trans hf2 (fun x hx => .inr (by simp at hx; omega))).trans hf3 (fun x hx => .inl hx)
 have hno : ∀ q ∈ qs ++ [p], ∀ x ∈ ob q.A, x ∉ [g] := fun q hq x hx hx2 => by simp at hx2; subst hx2; exact h.neP q hq hx
 refine ⟨rfl, ⟨by simpa using hb3, ?_, fun q hq => (h.2.2 q (by simp [hq])).frm hf (hno q (by simp [hq]))⟩, (h.2.2 p (by simp)).frm hf (hno p (by simp)), hf⟩
 have ho := (h.2.1.frm hf (fun x hx hx2 => by simp at hx2; subst hx2; exact h.neA hx)).shrink (m := qs.length) (by omega)
 have e : ((qs ++ [p]).flatMap PkC.cells).take (qs.length * 2) = qs.flatMap PkC.cells := by
  rw [List.flatMap_append, List.take_append_of_le_length (by rw [flat_len PkC.cells 2 PkC.cells_len]; exact Nat.le_refl _), List.take_of_length_le (by rw [flat_len PkC.cells 2 PkC.cells_len]; exact Nat.le_refl _)]
 rw [e] at ho
 exact ho
set_option maxRecDepth 100000 in
theorem hup_spec (g c j : Nat) (A : Option Addr) (ps : List PkC) (w : World) (h : IsC w g A c ps) (hl : ps.length ≤ 1000000) (hj : j < ps.length) (hu : UpInv (kk ps) j ps.length) (h1 : One ps) :
  Calls Try.prog 99 #[.iface 147 (.pointer (some ⟨g, 0, none⟩)), .int .i64 ((j : Nat) : Int)] w fun e w' => e = .returned (.tuple #[]) ∧ ∃ qs, qs.Perm ps ∧ HeapOk (kk qs) ps.length ∧ IsC w' g A c qs ∧ Frm (ob A) w w' := by
 refine VC.calls (nt := 23) (res := #[]) Try.func99 rfl Try.ntmps99 Try.results99 rfl ?_
 refine jB ?_
 refine VC.loop (σ := Nat × List PkC) (fun s => [(0, .iface 147 (.pointer (some ⟨g, 0, none⟩))), (1, .int .i64 ((s.1 : Nat) : Int))]) (fun s wr => s.1 < ps.length ∧ s.2.Perm ps ∧ UpInv (kk s.2) s.1 ps.length ∧ IsC wr g A c s.2 ∧ Frm (ob A) w wr) (fun s => s.1) (j, ps) (js2 rfl rfl) ⟨hj, List.Perm.refl _, hu, h, Frm.refl _ _⟩ ?_
 clear hu h hj
 rintro ⟨j, qs⟩ wr ⟨hj, hp, hu, h, hfr⟩
 dsimp only at hj hp hu h hfr ⊢
 have h1q := h1.perm hp
 have hlq := hp.length_eq
 refine jB (jS (jR (jM ?_)))
 refine Ops.r (Run.bin rfl rfl (Bin.subZ _ 1 (by omega) (by omega))) rfl ?_
 refine Ops.r (Run.bin rfl rfl (quo_half j (by omega))) rfl ?_
 refine jA ?_
 refine jO (jN (jv3 0 1 4 ?_))
 refine jS (jS ?_)
 refine VC.splitR [(0, .iface 147 (.pointer (some ⟨g, 0, none⟩))), (1, .int .i64 ((j : Nat) : Int)), (4, .int .i64 (((j - 1) / 2 : Nat) : Int))] (fun w1 => Drawn wr w1) 17 (.bool (decide ((j - 1) / 2 = j ∨ ¬ kk qs j < kk qs ((j - 1) / 2)))) ?_ ?_
 ·
  refine jR ?_
  refine jM ?_
  refine jM ?_
  refine Ops.r (Run.bin rfl rfl (Bin.eql _ _)) rfl ?_
  by_cases hs10 : (j - 1) / 2 = j
  ·
   refine jM ?_
   refine jU ?_
   refine jU ?_
   refine jU ?_
   refine jU ?_
   refine jU ?_
   refine Ops.r (Run.pickT rfl rfl au) rfl ?_
   refine jO ?_
   refine jN ⟨(js4 (jC (by simp [*])) rfl rfl rfl), (by first | assumption | exact Drawn.refl _)⟩
  ·
   refine jM ?_
   refine jG ?_
   refine jG ?_
   refine jG ?_
   refine Ops.clg rfl au (Enters.inv rfl (evs.cons rfl (evs.cons rfl evs.nil)) (m_Less (h.1.cell 0))) (cLess_spec A c j ((j - 1) / 2) qs _ h.2 (by omega) (by omega) h1q) rfl ?_
   rintro e w4 ⟨rfl, hd4⟩
   refine ⟨_, rfl, ?_⟩
   by_cases hs15 : kk qs j < kk qs ((j - 1) / 2)
   ·
    refine Ops.rg rfl au (Run.not rfl) rfl ?_
    refine Ops.r (Run.pickF rfl rfl au) rfl ?_
    refine jO ?_
    refine jN ⟨(js4 (jC (by simp [*])) rfl rfl rfl), (by first | assumption | exact Drawn.refl _)⟩
   ·
    refine Ops.rg rfl au (Run.not rfl) rfl ?_
    refine Ops.r (Run.pickF rfl rfl au) rfl ?_
    refine jO ?_
    refine jN ⟨(js4 (jC (by simp [*])) rfl rfl rfl), (by first | assumption | exact Drawn.refl _)⟩
 ·
  intro Γ w5 hΓ hd5
  refine jN (VC.sub _ hΓ ?_)
  refine VC.condD rfl (fun hc1 => ?_) (fun hc1 => ?_)
  ·
   have hheap := rise_end hu (by rcases hc1 with h5 | h5; exact .inl (by omega); exact .inr h5)
   refine jX ?_
   refine thenQ_x (blockQ_o rfl (thenQ_x (blockQ_x ?_)))
   refine end0n ?_
   exact ⟨rfl, qs, hp, hheap, h.drawn hd5, hfr.drawn hd5⟩
  ·
   have hj0 : 0 < j := by
    rcases Nat.eq_zero_or_pos j with h5 | h5
    ·
     exact absurd (.inl (by omega)) hc1
    ·
     exact h5
   have hlt : kk qs j < kk qs ((j - 1) / 2) := by
    rcases Nat.lt_or_ge (kk qs j) (kk qs ((j - 1) / 2)) with h5 | h5
    ·
     exact h5
    ·
     exact absurd (.inr (by omega)) hc1
   have h5 := h.drawn hd5
   refine jQ (jN (jv3 0 1 4 ?_))
   refine jS (jR (jM ?_))
   refine jM ?_
   refine jM ?_
   refine Ops.cl (Enters.inv rfl (evs.cons rfl (evs.cons rfl evs.nil)) (m_Swap (h5.1.cell 0))) (cSwap_spec A c ((j - 1) / 2) j qs _ h5.2 (by omega) (by omega)) rfl ?_
   rintro e w6 ⟨rfl, hP6, hf6⟩
   refine ⟨_, rfl, ?_⟩
   have hb6 := h5.1.frm hf6 h5.neA
   refine jO (jN (jv2 0 4 ?_))
   refine jR (jM ?_)
   refine jA ?_
   refine jO ?_
   refine blockQ_n (jN ⟨((j - 1) / 2, swapL qs ((j - 1) / 2) j), (js2 rfl rfl), ?_, ?_⟩)
   ·
    refine ⟨by dsimp only; omega, (swapL_perm qs _ _ (by omega) (by omega)).trans hp, ?_, ⟨by rw [swapL_len]; exact hb6, hP6⟩, (hfr.drawn hd5).trans hf6 (fun x hx => .inl hx)⟩
    dsimp only
    rw [swapL_kk qs _ _ (by omega) (by omega)]
    exact rise_step hu hj0 hj hlt
   ·
    first | omega | (dsimp only; omega)
theorem swapL_drop (ps : List PkC) (i j n : Nat) (hi : i < n) (hj : j < n) : (swapL ps i j).drop n = ps.drop n := by
 unfold swapL
 rw [List.drop_set_of_lt hj, List.drop_set_of_lt hi]
set_option maxRecDepth 100000 in
theorem hdown_spec (g c n : Nat) (A : Option Addr) (ps : List PkC) (w : World) (h : IsC w g A c ps) (hl : ps.length ≤ 1000000) (hn : n ≤ ps.length) (hu : DownInv (kk ps) 0 n) (h1 : One ps) :
  Calls Try.prog 100 #[.iface 147 (.pointer (some ⟨g, 0, none⟩)), .int .i64 ((0 : Nat) : Int), .int .i64 ((n : Nat) : Int)] w fun e w' => (∃ b, e = .returned (.bool b)) ∧ ∃ qs, qs.Perm ps ∧ HeapOk (kk qs) n ∧ qs.drop n = ps.drop n ∧ IsC w' g A c qs ∧ Frm (ob A) w w' := by
 refine VC.calls (nt := 48) (res := #[.tmp 6]) Try.func100 rfl Try.ntmps100 Try.results100 rfl ?_
 refine jS (jR (jA ?_))
 refine jO (jN (jv3 0 1 2 ?_))
 refine jS (jR (jM ?_))
 refine jA ?_
 refine jO (jN (jv4 0 1 2 7 ?_))
 refine jS (jB ?_)
 refine VC.loop (σ := Nat × List PkC) (fun s => [(0, .iface 147 (.pointer (some ⟨g, 0, none⟩))), (1, .int .i64 ((0 : Nat) : Int)), (2, .int .i64 ((n : Nat) : Int)), (7, .int .i64 ((s.1 : Nat) : Int))]) (fun s wr => s.1 ≤ n ∧ s.2.Perm ps ∧ DownInv (kk s.2) s.1 n ∧ s.2.drop n = ps.drop n ∧ IsC wr g A c s.2 ∧ Frm (ob A) w wr) (fun s => n - s.1) (0, ps) (js4 rfl rfl rfl rfl) ⟨by dsimp only; omega, List.Perm.refl _, hu, rfl, h, Frm.refl _ _⟩ ?_
 clear hu h
 rintro ⟨i, qs⟩ wr ⟨hi, hp, hu, hdr, h, hfr⟩
 dsimp only at hi hp hu hdr h hfr ⊢
 have h1q := h1.perm hp
 have hlq := hp.length_eq
 refine jB (jS (jR (jM ?_)))
 refine Ops.r (Run.bin rfl rfl (Bin.mul_i64 2 _ (by omega))) rfl ?_
 refine Ops.r (Run.bin rfl rfl (Bin.add_i64 _ 1 (by omega))) rfl ?_
 refine jA ?_
 refine jO (jN (jv5 0 1 2 7 8 ?_))
 refine jS (jS ?_)
 refine VC.split1 [(0, _), (1, _), (2, _), (7, _), (8, _)] (js5 rfl rfl rfl rfl rfl) 21 (.bool (decide ((n ≤ 2 * i + 1) ∨ (2 * i + 1 < 0)))) ?_ ?_
 ·
  by_cases hs0 : n ≤ 2 * i + 1
  ·
   refine jR (jM ?_)
   refine jM ?_
   refine Ops.r (Run.bin rfl rfl (Bin.geqN _ _)) rfl ?_
   refine jM ?_
   refine jU ?_
   refine jU ?_
   refine Ops.r (Run.pickT rfl rfl au) rfl ?_
   refine jO ?_
   refine jN ⟨(js6 (by rw [dor1 hs0]; rfl) rfl rfl rfl rfl rfl), rfl⟩
  ·
   refine jR (jM ?_)
   refine jM ?_
   refine Ops.r (Run.bin rfl rfl (Bin.geqN _ _)) rfl ?_
   refine jM ?_
   refine jG ?_
   refine Ops.rg rfl au (Run.bin rfl rfl (Bin.lssN _ 0)) rfl ?_
   refine Ops.r (Run.pickF rfl rfl au) rfl ?_
   refine jO ?_
   refine jN ⟨(js6 (by rw [dor0 hs0]; rfl) rfl rfl rfl rfl rfl), rfl⟩
 ·
  intro Γ hΓ
  refine jN (VC.sub _ hΓ ?_)
  refine VC.condD rfl (fun hc1 => ?_) (fun hc1 => ?_)
  ·
   have hheap : HeapOk (kk qs) n := sink_end hu (fun c h0 hc hpc => by omega)
   refine jX ?_
   refine thenQ_x (blockQ_o rfl (thenQ_x (blockQ_x ?_)))
   refine jN (jv2 1 7 ?_)
   refine jS (jR (jM ?_))
   refine jM ?_
   refine Ops.r (Run.bin rfl rfl (Bin.gtrN _ _)) rfl ?_
   refine jA ?_
   refine jO (jN (jv1 6 ?_))
   refine jT ?_
   refine end1 rfl ?_
   exact ⟨⟨_, rfl⟩, qs, hp, hheap, hdr, h, hfr⟩
  ·
   refine jQ (jN (jv5 0 1 2 7 8 ?_))
   refine jS (jR (jM ?_))
   refine jA ?_
   refine jO (jN (jv6 0 1 2 7 8 9 ?_))
   refine jS (jS (jR (jM ?_)))
   refine Ops.r (Run.bin rfl rfl (Bin.add_i64 _ 1 (by omega))) rfl ?_
   refine jA ?_
   refine jO (jN (jv7 0 1 2 7 8 9 10 ?_))
   refine jS ?_
   refine VC.splitR [(0, .iface 147 (.pointer (some ⟨g, 0, none⟩))), (1, .int .i64 ((0 : Nat) : Int)), (2, .int .i64 ((n : Nat) : Int)), (7, .int .i64 ((i : Nat) : Int)), (9, .int .i64 ((2 * i + 1 : Nat) : Int)), (10, .int .i64 ((2 * i + 1 + 1 : Nat) : Int))] (fun w1 => Drawn wr w1) 33 (.bool (decide (2 * i + 1 + 1 < n ∧ kk qs (2 * i + 1 + 1) < kk qs (2 * i + 1)))) ?_ ?_
   ·
    refine jR ?_
    refine jM ?_
    refine jM ?_
    refine Ops.r (Run.bin rfl rfl (Bin.lssN _ _)) rfl ?_
    by_cases hs27 : 2 * i + 1 + 1 < n
    ·
     refine jM ?_
     refine jG ?_
     refine jG ?_
     refine jG ?_
     refine Ops.clg rfl au (Enters.inv rfl (evs.cons rfl (evs.cons rfl evs.nil)) (m_Less (h.1.cell 0))) (cLess_spec A c (2 * i + 1 + 1) (2 * i + 1) qs _ h.2 (by omega) (by omega) h1q) rfl ?_
     rintro e w4 ⟨rfl, hd4⟩
     refine ⟨_, rfl, ?_⟩
     by_cases hs32 : kk qs (2 * i + 1 + 1) < kk qs (2 * i + 1)
     ·
      refine Ops.r (Run.pickT rfl rfl au) rfl ?_
      refine jO ?_
      refine jN ⟨(js7 (jC (by simp [*])) rfl rfl rfl rfl rfl rfl), (by first | assumption | exact Drawn.refl _)⟩
     ·
      refine Ops.r (Run.pickT rfl rfl au) rfl ?_
      refine jO ?_
      refine jN ⟨(js7 (jC (by simp [*])) rfl rfl rfl rfl rfl rfl), (by first | assumption | exact Drawn.refl _)⟩
    ·
     refine jM ?_
     refine jU ?_
     refine jU ?_
     refine jU ?_
     refine jU ?_
     refine Ops.r (Run.pickF rfl rfl au) rfl ?_
     refine jO ?_
     refine jN ⟨(js7 (jC (by simp [*])) rfl rfl rfl rfl rfl rfl), (by first | assumption | exact Drawn.refl _)⟩
   ·
    intro Γ w5 hΓ hd5
    refine jN (VC.sub _ hΓ ?_)
    refine VC.meet (σ := Nat) (fun s => [(0, .iface 147 (.pointer (some ⟨g, 0, none⟩))), (1, .int .i64 ((0 : Nat) : Int)), (2, .int .i64 ((n : Nat) : Int)), (7, .int .i64 ((i : Nat) : Int)), (9, .int .i64 ((s : Nat) : Int))]) (fun s w9 => (s - 1) / 2 = i ∧ 0 < s ∧ s < n ∧ (∀ c, 0 < c → c < n → (c - 1) / 2 = i → kk qs s ≤ kk qs c) ∧ w5 = w9) ?_ ?_
    ·
     refine VC.condD rfl (fun hc2 => ?_) (fun hc2 => ?_)
     ·
      refine jR (jM ?_)
      refine jA ?_
      refine jO ?_
      refine jN ⟨(2 * i + 1 + 1), (js5 rfl rfl rfl rfl rfl), ?_⟩
      refine ⟨by omega, by omega, hc2.1, fun c h0 hc hpc => ?_, rfl⟩
      have : c = 2 * i + 1 ∨ c = 2 * i + 1 + 1 := by omega
      rcases this with h6 | h6 <;> subst h6
      ·
       exact Nat.le_of_lt hc2.2
      ·
       exact Nat.le_refl _
     ·
      refine jQ ?_
      refine jN ⟨(2 * i + 1), (js5 rfl rfl rfl rfl rfl), ?_⟩
      refine ⟨by omega, by omega, by omega, fun c h0 hc hpc => ?_, rfl⟩
      have : c = 2 * i + 1 ∨ c = 2 * i + 1 + 1 := by omega
      rcases this with h6 | h6 <;> subst h6
      ·
       exact Nat.le_refl _
      ·
       rcases Nat.lt_or_ge (kk qs (2 * i + 1 + 1)) (kk qs (2 * i + 1)) with h7 | h7
       ·
        exact absurd ⟨hc, h7⟩ hc2
       ·
        exact h7
    ·
     rintro j _ ⟨hj2, hj0, hjn, hmin, rfl⟩ Γ hΓ
     have h5 := h.drawn hd5
     refine jN (VC.sub _ hΓ ?_)
     refine jS (jS (jR (jM ?_)))
     refine jM ?_
     refine jM ?_
     refine Ops.cl (Enters.inv rfl (evs.cons rfl (evs.cons rfl evs.nil)) (m_Less (h5.1.cell 0))) (cLess_spec A c j i qs _ h5.2 (by omega) (by omega) h1q) rfl ?_
     rintro e w6 ⟨rfl, hd6⟩
     refine ⟨_, rfl, ?_⟩
     have h6 := h5.drawn hd6
     refine Ops.r (Run.not rfl) rfl ?_
     refine jO (jN (jv6 0 1 2 7 9 39 ?_))
     refine VC.condB rfl (fun hc3 => ?_) (fun hc3 => ?_)
     ·
      have hnl : ¬ kk qs j < kk qs i := by simpa using hc3
      have hheap : HeapOk (kk qs) n := sink_end hu (fun c h0 hc hpc => Nat.le_trans (by omega) (hmin c h0 hc hpc))
      refine jX ?_
      refine thenQ_x (blockQ_o rfl (thenQ_x (blockQ_x ?_)))
      refine jN (jv2 1 7 ?_)
      refine jS (jR (jM ?_))
      refine jM ?_
      refine Ops.r (Run.bin rfl rfl (Bin.gtrN _ _)) rfl ?_
      refine jA ?_
      refine jO (jN (jv1 6 ?_))
      refine jT ?_
      refine end1 rfl ?_
      exact ⟨⟨_, rfl⟩, qs, hp, hheap, hdr, h6, (hfr.drawn hd5).drawn hd6⟩
     ·
      have hlt : kk qs j < kk qs i := by simpa using hc3
      refine jQ (jN (jv5 0 1 2 7 9 ?_))
      refine jS (jR (jM ?_))
      refine jM ?_
      refine jM ?_
      refine Ops.cl (Enters.inv rfl (evs.cons rfl (evs.cons rfl evs.nil)) (m_Swap (h6.1.cell 0))) (cSwap_spec A c i j qs _ h6.2 (by omega) (by omega)) rfl ?_
      rintro e w7 ⟨rfl, hP7, hf7⟩
      refine ⟨_, rfl, ?_⟩
      have hb7 := h6.1.frm hf7 h6.neA
      refine jO (jN (jv4 0 1 2 9 ?_))
      refine jR (jM ?_)
      refine jA ?_
      refine jO ?_
      refine blockQ_n (jN ⟨(j, swapL qs i j), (js4 rfl rfl rfl rfl), ?_, ?_⟩)
      ·
       refine ⟨by dsimp only; omega, (swapL_perm qs _ _ (by omega) (by omega)).trans hp, ?_, ?_, ⟨by rw [swapL_len]; exact hb7, hP7⟩, ((hfr.drawn hd5).drawn hd6).trans hf7 (fun x hx => .inl hx)⟩
       ·
        dsimp only
        rw [swapL_kk qs _ _ (by omega) (by omega)]
        exact sink_step hu hj2 hj0 hjn hlt hmin
       ·
        dsimp only
        rw [swapL_drop qs i j n (by omega) hjn]
        exact hdr
      ·
       first | omega | (dsimp only; omega)
set_option maxRecDepth 100000 in
theorem hPush_spec (g c : Nat) (A : Option Addr) (ps : List PkC) (p : PkC) (w : World) (h : IsC w g A c ps) (hl : ps.length ≤ 100000) (hp : PkOk w p) (hu : HeapOk (kk ps) ps.length) (h1 : One ps) (hp1 : ∃ s, p.sy = [s] ∧ s < 1024) :
  Calls Try.prog 85 #[.iface 147 (.pointer (some ⟨g, 0, none⟩)), .iface 106 (.agg p.cells.toArray)] w fun e w' => e = .returned (.tuple #[]) ∧ ∃ A' c' qs, qs.Perm (p :: ps) ∧ HeapOk (kk qs) qs.length ∧ IsC w' g A' c' qs ∧ Frm (g :: ob A) w w' ∧ ∀ x ∈ ob A', x ∈ ob A ∨ w.heap.size ≤ x := by
 refine VC.calls (nt := 12) (res := #[]) Try.func85 rfl Try.ntmps85 Try.results85 rfl ?_
 refine jS (jR (jM ?_))
 refine jM ?_
 refine Ops.cl (Enters.inv rfl (evs.cons rfl evs.nil) (m_Push _ _)) (cPush_spec g c A ps p _ h hp (by omega)) rfl ?_
 rintro e w1 ⟨rfl, A1, c1, hC1, hf1, hA1⟩
 refine ⟨_, rfl, ?_⟩
 have hl1 : (ps ++ [p]).length = ps.length + 1 := List.length_append
 refine jO (jN (jv1 0 ?_))
 refine jR (jM ?_)
 refine jM ?_
 refine Ops.cl (Enters.inv rfl evs.nil (m_Len _ _)) (cLen_spec g c1 A1 _ _ hC1) rfl ?_
 rintro e _ ⟨rfl, rfl⟩
 refine ⟨_, rfl, ?_⟩
 have hone : One (ps ++ [p]) := fun q hq => by
  rcases List.mem_append.1 hq with h5 | h5
  ·
   exact h1 q h5
  ·
   simp at h5; subst h5; exact hp1
 have hup : UpInv (kk (ps ++ [p])) ps.length (ps ++ [p]).length := by
  rw [hl1]
  refine rise_of_heap (fun i h0 hi => ?_)
  have := hu i h0 hi
  rw [kk_app ps p _ (by omega), kk_app ps p _ hi]
  exact this
 refine Ops.r (Run.bin rfl rfl (Bin.sub_i64 _ 1 (by omega) (by omega))) rfl ?_
 refine Ops.cl (Enters.fn (evs.cons rfl (evs.cons rfl evs.nil)) Try.call99) ((by have h5 := hup_spec g c1 ps.length A1 (ps ++ [p]) w1 hC1 (by omega) (by omega) hup hone; rw [show ((ps.length : Nat) : Int) = (((ps ++ [p]).length - 1 : Nat) : Int) by omega] at h5; exact h5)) rfl ?_
 rintro e w2 ⟨rfl, qs, hq, hh, hC2, hf2⟩
 refine ⟨_, rfl, ?_⟩
 refine jO ?_
 refine end0n ?_
 refine ⟨rfl, A1, c1, qs, hq.trans (List.perm_append_singleton p ps), by rw [hq.length_eq]; exact hh, hC2, hf1.trans hf2 (fun x hx => ?_), hA1⟩
 rcases hA1 x hx with h5 | h5
 ·
  exact .inl (by simp [h5])
 ·
  exact .inr h5
set_option maxRecDepth 100000 in
theorem hPop_spec (g c : Nat) (A : Option Addr) (ps : List PkC) (w : World) (h : IsC w g A c ps) (hl : ps.length ≤ 100000) (h0 : 0 < ps.length) (hu : HeapOk (kk ps) ps.length) (h1 : One ps) :
  Calls Try.prog 87 #[.iface 147 (.pointer (some ⟨g, 0, none⟩))] w fun e w' => ∃ p qs, e = .returned (.iface 106 (.agg p.cells.toArray)) ∧ (qs ++ [p]).Perm ps ∧ (∀ q ∈ ps, p.key ≤ q.key) ∧ HeapOk (kk qs) qs.length ∧ IsC w' g A c qs ∧ PkOk w' p ∧ Frm (g :: ob A) w w' := by
 obtain ⟨n, hn⟩ : ∃ n, ps.length = n + 1 := ⟨ps.length - 1, by omega⟩
 refine VC.calls (nt := 15) (res := #[.tmp 2]) Try.func87 rfl Try.ntmps87 Try.results87 rfl ?_
 refine jS (jR (jA ?_))
 refine jO (jN (jv1 0 ?_))
 refine jS (jR (jM ?_))
 refine Ops.cl (Enters.inv rfl evs.nil (m_Len _ _)) (cLen_spec g c A _ _ h) rfl ?_
 rintro e _ ⟨rfl, rfl⟩
 refine ⟨_, rfl, ?_⟩
 rw [hn]
 refine Ops.r (Run.bin rfl rfl (Bin.sub_i64 _ 1 (by omega) (by omega))) rfl ?_
 refine jA ?_
 refine jO (jN (jv2 0 3 ?_))
 refine jS (jR (jM ?_))
 refine jM ?_
 refine Ops.cl (Enters.inv rfl (evs.cons rfl (evs.cons rfl evs.nil)) (m_Swap (h.1.cell 0))) (cSwap_spec A c 0 (n + 1 - 1) ps _ h.2 (by omega) (by omega)) rfl ?_
 rintro e w2 ⟨rfl, hP2, hf2⟩
 refine ⟨_, rfl, ?_⟩
 have hC2 : IsC w2 g A c (swapL ps 0 n) := ⟨by rw [swapL_len]; exact h.1.frm hf2 h.neA, hP2⟩
 have hpm := swapL_perm ps 0 n (by omega) (by omega)
 have hdi : DownInv (kk (swapL ps 0 n)) 0 n := by
  rw [swapL_kk ps 0 n (by omega) (by omega)]
  exact sink_of_heap (by rw [hn] at hu; exact hu)
 have hsl := swapL_len ps 0 n
 refine jO (jN (jv2 0 3 ?_))
 refine jS (jR (jM ?_))
 refine jM ?_
 refine Ops.cl (Enters.fn (evs.cons rfl (evs.cons rfl (evs.cons rfl evs.nil))) Try.call100) (hdown_spec g c (n + 1 - 1) A (swapL ps 0 n) _ hC2 (by omega) (by omega) hdi (h1.perm hpm)) rfl ?_
 rintro e w3 ⟨⟨b, rfl⟩, rs, hr, hh, hdr, hC3, hf3⟩
 refine ⟨_, rfl, ?_⟩
 have hrl := hr.length_eq
 have hps0 : (swapL ps 0 n).drop n = [ps.getD 0 PkC.zero] := by
  apply List.ext_getElem?
  intro i
  rw [List.getElem?_drop]
  unfold swapL
  rcases Nat.eq_zero_or_pos i with h5 | h5
  ·
   subst h5
   rw [Nat.add_zero, List.getElem?_set_self (by simp; omega)]
   rfl
  ·
   rw [List.getElem?_eq_none (by simp; omega), List.getElem?_eq_none (by simp; omega)]
 have hrs : rs = rs.take n ++ [ps.getD 0 PkC.zero] := by
  have h5 : rs.drop n = [ps.getD 0 PkC.zero] := by rw [← hps0]; exact hdr
  rw [← h5, List.take_append_drop]
 have hqk : ∀ i, i < n → kk (rs.take n) i = kk rs i := fun i hi => by simp [kk, List.getD, List.getElem?_take_of_lt hi]
 have hql : (rs.take n).length = n := by simp; omega
 have hheap : HeapOk (kk (rs.take n)) (rs.take n).length := by
  rw [hql]
  intro i h5 h6
  rw [hqk i h6, hqk _ (by omega)]
  exact hh i h5 h6
 have hmin : ∀ q ∈ ps, (ps.getD 0 PkC.zero).key ≤ q.key := by
  intro q hq
  obtain ⟨i, hi, rfl⟩ := List.getElem_of_mem hq
  have h5 := heap_top hu i hi
  rw [kk_at ps i hi] at h5
  exact h5
 have hperm : (rs.take n ++ [ps.getD 0 PkC.zero]).Perm ps := by rw [← hrs]; exact hr.trans hpm
 rw [hrs] at hC3
 generalize ps.getD 0 PkC.zero = p at *
 generalize rs.take n = qs at *
 refine jO (jN (jv1 0 ?_))
 refine jS (jR (jM ?_))
 refine Ops.cl (Enters.inv rfl evs.nil (m_Pop _ _)) (cPop_spec g c A qs p _ hC3 (by omega)) rfl ?_
 rintro e w4 ⟨rfl, hC4, hp4, hf4⟩
 refine ⟨_, rfl, ?_⟩
 refine jA ?_
 refine jO (jN (jv1 2 ?_))
 refine jT ?_
 refine end1 rfl ?_
 exact ⟨p, qs, rfl, hperm, hmin, hheap, hC4, hp4, ((hf2.trans hf3 (fun x hx => .inl hx)).mono (T := g :: ob A) (fun x hx => .inl (by simp [hx]))).trans hf4 (fun x hx => .inl (by simp at hx; simp [hx]))⟩
end Go.Proofs.Ytnmieihcjjiccaa
namespace Go.Proofs.Ytnmieihcjjiccaa
open Go.RowKit
def PkC.abs (p : PkC) : Nat × List Nat := (p.count, p.sy)
def keyA (x : Nat × List Nat) : Nat := x.1 * 1024 + x.2.headD 0
def coinsTo (cs : List Nat) (n : Nat) : List (Nat × List Nat) := ((List.range n).filter fun k => 0 < cs.getD k 0).map fun k => (cs.getD k 0, [k])
theorem coinsTo_succ (cs : List Nat) (n : Nat) : coinsTo cs (n + 1) = coinsTo cs n ++ if 0 < cs.getD n 0 then [(cs.getD n 0, [n])] else [] := by
 unfold coinsTo
 rw [List.range_succ, List.filter_append, List.map_append]
 congr 1
 by_cases h : 0 < cs.getD n 0
 ·
  rw [if_pos h, List.filter_cons_of_pos (by simpa using h)]; rfl
 ·
  rw [if_neg h, List.filter_cons_of_neg (by simpa using h)]; rfl
theorem coinsTo_nodup (cs : List Nat) (n : Nat) (hn : n ≤ 1024) : ((coinsTo cs n).map keyA).Nodup := by
 unfold coinsTo
 rw [List.map_map]
 refine List.Pairwise.of_map (S := (· ≠ ·)) (fun x => x % 1024) (fun a b h e => h (by rw [e])) ?_
 rw [List.map_map]
 have e : ((List.range n).filter fun k => decide (0 < cs.getD k 0)).map ((fun x => x % 1024) ∘ (keyA ∘ fun k => (cs.getD k 0, [k]))) = ((List.range n).filter fun k => decide (0 < cs.getD k 0)).map id := by
  apply List.map_congr_left
  intro k hk
  have hk2 := (List.mem_filter.1 hk).1
  simp at hk2
  simp [keyA]
  omega
 rw [e, List.map_id]
 exact List.Pairwise.filter _ List.nodup_range
theorem coinsTo_mem {cs : List Nat} {n : Nat} {x : Nat × List Nat} (h : x ∈ coinsTo cs n) : ∃ k, k < n ∧ 0 < cs.getD k 0 ∧ x = (cs.getD k 0, [k]) := by
 obtain ⟨k, hk, rfl⟩ := List.mem_map.1 h
 obtain ⟨h1, h2⟩ := List.mem_filter.1 hk
 exact ⟨k, by simpa using h1, by simpa using h2, rfl⟩
theorem one_of {cs : List Nat} {n : Nat} {ps : List PkC} (h : (ps.map PkC.abs).Perm (coinsTo cs n)) (hn : n ≤ 1000) : One ps := by
 intro p hp
 have : p.abs ∈ coinsTo cs n := h.mem_iff.1 (List.mem_map_of_mem hp)
 obtain ⟨k, h1, _, h2⟩ := coinsTo_mem this
 have h3 : p.sy = [k] := congrArg Prod.snd h2
 exact ⟨k, h3, by omega⟩
def IsCoins (cs : List Nat) (l : List (Nat × List Nat)) : Prop := l.Perm (coinsTo cs cs.length) ∧ l.Pairwise fun a b => keyA a < keyA b
def UpP (B : Nat) (A : Option Addr) (ps : List PkC) : Prop := (∀ x ∈ ob A, B ≤ x) ∧ ∀ p ∈ ps, ∀ x ∈ ob p.A, B ≤ x
set_option maxRecDepth 100000 in
theorem sorted_spec (A0 : Option Addr) (c0 : Nat) (cs : List Nat) (w : World) (hl : cs.length ≤ 320) (hcs : ∀ x ∈ cs, x ≤ 2147483647) (hr : Rd w 1 A0 cs.length (NI cs)) :
  Calls Try.prog 56 #[.slice A0 cs.length c0] w fun e w' => ∃ B c ps, e = .returned (.slice B ps.length c) ∧ Pks w' B c ps ∧ IsCoins cs (ps.map PkC.abs) ∧ Frm [] w w' ∧ UpP w.heap.size B ps := by
 refine VC.calls (nt := 41) (res := #[.tmp 2]) Try.func56 rfl Try.ntmps56 Try.results56 rfl ?_
 refine jS (jR (jA ?_))
 refine jO (jN (jv1 0 ?_))
 refine jS (jR ?_)
 refine Ops.m (Does.buildS0 Try.underlying148 Try.sizeOf106) rfl ?_
 rintro _ w1 ⟨rfl, hF1⟩
 have ho1 : Own w1 106 2 (some ⟨w.heap.size, 0, none⟩) 0 0 [] := Own.of_blk hF1.blk rfl (by simp [maxLen])
 have hs1 := hF1.size
 refine Ops.m (Does.box rfl) rfl ?_
 rintro _ w2 ⟨rfl, hF2⟩
 have hb2 : Blk w2 w1.heap.size 148 #[.slice (some ⟨w.heap.size, 0, none⟩) 0 0] := hF2.blk
 have hfr2 := hF1.frm.own hF2.frm (by simp)
 have hC2 : IsC w2 w1.heap.size (some ⟨w.heap.size, 0, none⟩) 0 [] := ⟨hb2, ho1.frm hF2.frm (by simp), by simp⟩
 have hg1 := hF1.frm.size
 generalize hg : w1.heap.size = g at *
 refine jA ?_
 refine jO (jN (jv2 0 3 ?_))
 refine jS (jS (jR (jM ?_)))
 refine Ops.r (Run.lenS rfl Try.underlying38) rfl ?_
 refine Ops.r (v := .int .i64 ((0 : Nat) : Int)) (Run.mv rfl) rfl ?_
 refine jO (jN (jv4 3 10 11 12 ?_))
 refine jB ?_
 refine VC.loop (σ := Nat × Option Addr × Nat × List PkC) (fun s => [(3, .pointer (some ⟨g, 0, none⟩)), (10, .slice A0 cs.length c0), (11, .int .i64 ((cs.length : Nat) : Int)), (12, .int .i64 ((s.1 : Nat) : Int))]) (fun s wr => s.1 ≤ cs.length ∧ (s.2.2.2.map PkC.abs).Perm (coinsTo cs s.1) ∧ HeapOk (kk s.2.2.2) s.2.2.2.length ∧ IsC wr g s.2.1 s.2.2.1 s.2.2.2 ∧ Frm [] w wr ∧ UpP w.heap.size s.2.1 s.2.2.2) (fun s => cs.length - s.1) (0, some ⟨w.heap.size, 0, none⟩, 0, []) (js4 (by rw [← hg]; rfl) rfl rfl rfl) ⟨by omega, by simp [coinsTo], fun i _ h => by simp at h, hC2, hfr2, by simp [ob], by simp⟩ ?_
 rintro ⟨i, A, c, hs⟩ wr ⟨hi, hpm, hh, hC, hfr, huA, hup⟩
 dsimp only at hi hpm hh hC hfr huA hup ⊢
 have hlen : hs.length ≤ i := by
  have h5 := hpm.length_eq
  rw [List.length_map] at h5
  rw [h5]
  unfold coinsTo
  rw [List.length_map]
  exact Nat.le_trans (List.length_filter_le _ _) (by simp)
 refine jS (jR ?_)
 refine Ops.r (Run.bin rfl rfl (Bin.lssN _ _)) rfl ?_
 refine jO (jN (jS ?_))
 refine VC.condD rfl (fun hc1 => ?_) (fun hc1 => ?_)
 ·
  obtain ⟨ad, rfl, hcell⟩ := NI_at (hr.belowW hfr.below) hc1
  have hgt : cs.getD i 0 = cs[i] := by simp [List.getD, List.getElem?_eq_getElem hc1]
  have hx := hcs _ (List.getElem_mem hc1)
  have hct := coinsTo_succ cs i
  rw [hgt] at hct
  generalize cs[i] = x at *
  refine jQ (jN (jv4 3 10 11 12 ?_))
  refine jS (jB (jS (jR (jM ?_))))
  refine Ops.r (Run.index1 _ rfl rfl Try.underlying38 Try.sizeOf3 (by omega)) rfl ?_
  refine Ops.r (Run.load rfl Try.isAgg3 hcell) rfl ?_
  refine jA ?_
  refine jA ?_
  refine jO (jN (jv6 3 4 5 10 11 12 ?_))
  refine jS (jR (jM ?_))
  refine Ops.r (Run.bin rfl rfl (Bin.gtrN _ 0)) rfl ?_
  refine jO (jN (jv7 3 4 5 10 11 12 18 ?_))
  refine VC.condD rfl (fun hc2 => ?_) (fun hc2 => ?_)
  ·
   refine jR (jM ?_)
   refine Ops.r (Run.mkIface rfl Try.underlying147 rfl) rfl ?_
   refine jM ?_
   refine jM ?_
   refine Ops.m (Does.buildS1 rfl Try.underlying38 Try.sizeOf3 zero3 (by decide) (by decide) rfl rfl) rfl ?_
   rintro _ w3 ⟨rfl, hF3⟩
   have hp3 : PkOk w3 ⟨x, some ⟨wr.heap.size, 0, none⟩, 1, [i]⟩ := Own.of_blk hF3.blk rfl (by simp [maxLen])
   have hC3 : IsC w3 g A c hs := ⟨hC.1.frm hF3.frm (by simp), hC.2.frm hF3.frm (by simp) (fun _ _ _ _ => by simp)⟩
   have hfr3 := hfr.own hF3.frm (by simp)
   have hsz := hfr.size
   refine Ops.r (Run.build (evs.cons rfl (evs.cons rfl evs.nil)) zero106 (places106).choose_spec.1 (places106).choose_spec.2 rfl) rfl ?_
   refine Ops.r (Run.mkIface rfl Try.underlying106 rfl) rfl ?_
   refine Ops.cl (Enters.fn (evs.cons rfl (evs.cons rfl evs.nil)) Try.call85) (hPush_spec g c A hs ⟨x, some ⟨wr.heap.size, 0, none⟩, 1, [i]⟩ _ hC3 (by omega) hp3 hh (one_of hpm (by omega)) ⟨i, rfl, by omega⟩) rfl ?_
   rintro e w4 ⟨rfl, A4, c4, qs, hq, hh4, hC4, hf4, hA4⟩
   refine ⟨_, rfl, ?_⟩
   have hfr4 := hfr3.own hf4 (up_cons hg1 huA)
   refine jO ?_
   refine blockQ_n (jN ?_)
   refine jv4 3 10 11 12 ?_
   refine jR ?_
   refine Ops.r (Run.bin rfl rfl (Bin.add_i64 _ 1 (by omega))) rfl ?_
   refine jM ?_
   refine jO ?_
   refine jN ⟨(i + 1, A4, c4, qs), (js4 rfl rfl rfl rfl), ?_, ?_⟩
   ·
    refine ⟨by dsimp only; omega, ?_, hh4, hC4, hfr4, up_step huA hA4 hfr3.size, ?_⟩
    ·
     dsimp only
     rw [hct, if_pos (by omega)]
     refine (hq.map PkC.abs).trans ?_
     rw [List.map_cons]
     exact ((List.Perm.cons _ hpm).trans (List.perm_append_singleton _ _).symm)
    ·
     intro p hp y hy
     rcases List.mem_cons.1 (hq.mem_iff.1 hp) with h5 | h5
     ·
      subst h5; simp [ob] at hy; omega
     ·
      exact hup p h5 y hy
   ·
    first | omega | (dsimp only; omega)
  ·
   refine jQ ?_
   refine blockQ_n (jN ?_)
   refine jv4 3 10 11 12 ?_
   refine jR ?_
   refine Ops.r (Run.bin rfl rfl (Bin.add_i64 _ 1 (by omega))) rfl ?_
   refine jM ?_
   refine jO ?_
   refine jN ⟨(i + 1, A, c, hs), (js4 rfl rfl rfl rfl), ?_, ?_⟩
   ·
    refine ⟨by dsimp only; omega, ?_, hh, hC, hfr, huA, hup⟩
    dsimp only
    rw [hct, if_neg (by omega), List.append_nil]
    exact hpm
   ·
    first | omega | (dsimp only; omega)
 ·
  have hin : i = cs.length := by omega
  subst hin
  refine jX ?_
  refine thenQ_x (thenQ_x (blockQ_x ?_))
  refine jN (jv1 3 ?_)
  refine jS (jR (jA ?_))
  refine jO (jN (jS (jS (jR (jM ?_)))))
  refine Ops.r (Run.mkFunc (evs.cons rfl evs.nil) evs.nil) rfl ?_
  refine jA ?_
  refine jO (jN (jv3 3 6 7 ?_))
  refine jB ?_
  refine VC.loop (σ := List PkC × List PkC × Option Addr × Nat × Option Addr × Nat) (fun s => [(3, .pointer (some ⟨g, 0, none⟩)), (6, .slice s.2.2.1 s.1.length s.2.2.2.1), (7, .func (.func 86) #[.pointer (some ⟨g, 0, none⟩)] #[])]) (fun s wr => ((s.1 ++ s.2.1).map PkC.abs).Perm (coinsTo cs cs.length) ∧ HeapOk (kk s.2.1) s.2.1.length ∧ s.1.Pairwise (fun a b => a.key < b.key) ∧ (∀ p ∈ s.1, ∀ q ∈ s.2.1, p.key < q.key) ∧ IsC wr g s.2.2.2.2.1 s.2.2.2.2.2 s.2.1 ∧ Pks wr s.2.2.1 s.2.2.2.1 s.1 ∧ Frm [] w wr ∧ (∀ x ∈ ob s.2.2.2.2.1, w.heap.size ≤ x) ∧ UpP w.heap.size s.2.2.1 (s.1 ++ s.2.1) ∧ (∀ x ∈ ob s.2.2.1, x ∉ ob s.2.2.2.2.1)) (fun s => s.2.1.length) ([], hs, none, 0, A, c) (js3 rfl rfl rfl) ⟨by simpa using hpm, hh, .nil, by simp, hC, ⟨Own.nil _ _ _, by simp⟩, hfr, huA, ⟨up_nil, by simpa using hup⟩, by simp [ob]⟩ ?_
  clear hpm hh hC hfr huA hup hlen
  rintro ⟨ps, hs, B, cb, A, c⟩ wr ⟨hpm, hh, hpw, hlt, hC, hP, hfr, huA, ⟨huB, hup⟩, hAB⟩
  dsimp only at hpm hh hpw hlt hC hP hfr huA huB hup hAB ⊢
  have hlen : ps.length + hs.length ≤ cs.length := by
   have h5 := hpm.length_eq
   rw [List.length_map, List.length_append] at h5
   rw [h5]
   unfold coinsTo
   rw [List.length_map]
   exact Nat.le_trans (List.length_filter_le _ _) (by simp)
  refine jS (jS (jR (jM ?_)))
  refine Ops.cl (Enters.dyn rfl evs.nil Try.call86) (cLen_spec g c A _ _ hC) rfl ?_
  rintro e _ ⟨rfl, rfl⟩
  refine ⟨_, rfl, ?_⟩
  refine Ops.r (Run.bin rfl rfl (Bin.gtrN _ 0)) rfl ?_
  refine jO (jN (jv4 3 6 7 32 ?_))
  refine VC.condD rfl (fun hc3 => ?_) (fun hc3 => ?_)
  ·
   refine jQ (jN (jv3 3 6 7 ?_))
   refine jB (jR (jM ?_))
   refine jM ?_
   refine Ops.r (Run.mkIface rfl Try.underlying147 rfl) rfl ?_
   refine Ops.cl (Enters.fn (evs.cons rfl evs.nil) Try.call87) (hPop_spec g c A hs _ hC (by omega) hc3 hh (fun p hp => one_of hpm (by omega) p (by simp [hp]))) rfl ?_
   rintro e w3 ⟨p, qs, rfl, hq, hmin, hh3, hC3, hp3, hf3⟩
   refine ⟨_, rfl, ?_⟩
   have hfr3 := hfr.own hf3 (up_cons hg1 huA)
   have hgB : g ∉ ob B := hP.1.ne_blk hC.1 (by decide)
   have hP3 : Pks w3 B cb ps := hP.frm hf3 (fun x hx hx2 => by
     rcases List.mem_cons.1 hx2 with h5 | h5
     ·
      subst h5; exact hgB hx
     ·
      exact hAB x hx h5) (fun q hq x hx hx2 => by
     rcases List.mem_cons.1 hx2 with h5 | h5
     ·
      subst h5; exact (hP.2 q hq).ne_blk hC.1 (by decide) hx
     ·
      exact (hP.2 q hq).ne_own hC.2.1 (by decide) x hx h5)
   refine Ops.r (Run.assertT rfl Try.underlying106 rfl) rfl ?_
   refine Ops.m (Does.buildS1 rfl Try.underlying103 Try.sizeOf106 zero106 (by decide) (by decide) rfl rfl) rfl ?_
   rintro _ w5 ⟨rfl, hF5⟩
   have hrd5 : Rd w5 2 (some ⟨w3.heap.size, 0, none⟩) 1 p.cells := Rd.of_blk (n := 1) (size := 2) hF5.blk rfl
   have ho5 := hP3.1.frm hF5.frm (by simp)
   have hfr5 := hfr3.own hF5.frm (by simp)
   refine Ops.m (Does.app rfl rfl Try.underlying103 (info106) rfl (by decide) ho5 hrd5 p.one (by omega) (by omega)) rfl ?_
   rintro _ w6 ⟨B6, c6, rfl, ho6, hf6, hob6⟩
   have hfr6 := hfr5.own hf6 huB
   have hf36 : Frm (ob B) w3 w6 := (hF5.frm.mono (T := ob B) (by simp)).trans hf6 (fun x hx => .inl hx)
   refine jA ?_
   refine jO ?_
   have hl1 : (ps ++ [p]).length = ps.length + 1 := List.length_append
   refine blockQ_n (jN ⟨(ps ++ [p], qs, B6, c6, A, c), (js3 rfl (by rw [hl1]; rfl) rfl), ?_, ?_⟩)
   ·
    have hnd : ((ps ++ hs).map PkC.key).Nodup := by
     have h5 := (hpm.map keyA).nodup_iff.2 (coinsTo_nodup cs cs.length (by omega))
     rw [List.map_map] at h5
     exact h5
    have hpin : p ∈ hs := hq.mem_iff.1 (by simp)
    have hne : ∀ q ∈ qs, p.key ≠ q.key := by
     intro q hqq
     rw [List.map_append] at hnd
     have h5 := (List.nodup_append.1 hnd).2.1
     have h6 := ((hq.map PkC.key).nodup_iff).2 h5
     rw [List.map_append] at h6
     have h7 := (List.nodup_append.1 h6).2.2 q.key (List.mem_map_of_mem hqq) p.key (by simp)
     exact fun e => h7 e.symm
    have hgA := hC3.neA
    have hC6 : IsC w6 g A c qs := ⟨hC3.1.frm hf36 hgB, hC3.2.frm hf36 (fun x hx hx2 => hAB x hx2 hx) (fun q hqq => (hC3.2.2 q hqq).ne_own hP3.1 (by decide))⟩
    have hp6 : PkOk w6 p := hp3.frm hf36 (hp3.ne_own hP3.1 (by decide))
    refine ⟨?_, hh3, ?_, ?_, hC6, ⟨?_, ?_⟩, hfr6, huA, ⟨up_app huB hob6 hfr5.size, ?_⟩, ?_⟩
    ·
     dsimp only
     refine List.Perm.trans (List.Perm.map _ ?_) hpm
     rw [List.append_assoc]
     exact List.Perm.append_left ps ((List.perm_append_comm).trans hq)
    ·
     dsimp only
     rw [List.pairwise_append]
     exact ⟨hpw, by simp, fun a ha b hb => by simp at hb; subst hb; exact hlt a ha _ hpin⟩
    ·
     intro a ha q hqq
     rcases List.mem_append.1 ha with h5 | h5
     ·
      exact hlt a h5 q (hq.mem_iff.1 (by simp [hqq]))
     ·
      simp at h5
      subst h5
      have h6 := hmin q (hq.mem_iff.1 (by simp [hqq]))
      have h7 := hne q hqq
      omega
    ·
     dsimp only
     rw [hl1, List.flatMap_append]
     simpa using ho6
    ·
     intro a ha
     rcases List.mem_append.1 ha with h5 | h5
     ·
      exact (hP3.2 a h5).frm hf36 ((hP3.2 a h5).ne_own hP3.1 (by decide))
     ·
      simp at h5; subst h5; exact hp6
    ·
     intro a ha
     rcases List.mem_append.1 ha with h5 | h5
     ·
      rcases List.mem_append.1 h5 with h6 | h6
      ·
       exact hup a (by simp [h6])
      ·
       simp at h6; subst h6; exact hup _ (by simp [hpin])
     ·
      exact hup a (by simp; exact .inr (hq.mem_iff.1 (by simp [h5])))
    ·
     intro x hx hx2
     rcases hob6 with h5 | h5 <;> rw [h5] at hx
     ·
      exact hAB x hx hx2
     ·
      simp at hx
      have h6 := hC3.2.1.lt x hx2
      have h7 := hF5.frm.size
      omega
   ·
    have h5 := hq.length_eq
    simp at h5
    dsimp only
    omega
  ·
   have hnil : hs = [] := List.eq_nil_of_length_eq_zero (by omega)
   subst hnil
   rw [List.append_nil] at hpm hup
   refine jX ?_
   refine thenQ_x (thenQ_x (blockQ_x ?_))
   refine jN (jv1 6 ?_)
   refine jS (jR (jM ?_))
   refine jA ?_
   refine jO (jN (jv1 2 ?_))
   refine jT ?_
   refine end1 rfl ?_
   exact ⟨B, cb, ps, rfl, hP, ⟨hpm, by rw [List.pairwise_map]; exact hpw⟩, hfr, huB, hup⟩
end Go.Proofs.Ytnmieihcjjiccaa
namespace Go.Proofs.Ytnmieihcjjiccaa
open Go.RowKit
def mayB (l : List Int) : Prop := l.length ≤ 320 ∧ ∀ x ∈ l, 0 ≤ x ∧ x ≤ 2147483647
instance (l : List Int) : Decidable (mayB l) := inferInstanceAs (Decidable (_ ∧ _))
set_option maxRecDepth 100000 in
theorem may_spec (A : Option Addr) (c0 : Nat) (l : List Int) (w : World) (hl : l.length ≤ 1000000000) (hr : Rd w 1 A l.length (IB l)) :
  Calls Try.prog 55 #[.slice A l.length c0] w fun e w' => e = .returned (.bool (decide (mayB l))) ∧ w = w' := by
 refine VC.calls (nt := 21) (res := #[.tmp 2]) Try.func55 rfl Try.ntmps55 Try.results55 rfl ?_
 refine jS (jR (jA ?_))
 refine jO (jN (jv1 0 ?_))
 refine jS (jS (jR (jM ?_)))
 refine Ops.r (Run.lenS rfl Try.underlying38) rfl ?_
 refine Ops.r (v := .int .i64 ((0 : Nat) : Int)) (Run.mv rfl) rfl ?_
 refine jO (jN (jB ?_))
 refine VC.loop (σ := Nat) (fun s => [(0, .slice A l.length c0), (5, .slice A l.length c0), (6, .int .i64 ((l.length : Nat) : Int)), (7, .int .i64 s)]) (fun s wr => s ≤ l.length ∧ (∀ x ∈ l.take s, 0 ≤ x ∧ x ≤ 2147483647) ∧ w = wr) (fun s => l.length - s) 0 (js4 rfl rfl rfl rfl) ⟨by omega, by simp, rfl⟩ ?_
 rintro i _ ⟨hi, hpre, rfl⟩
 refine jS (jR ?_)
 refine Ops.r (Run.bin rfl rfl (Bin.lssN _ _)) rfl ?_
 refine jO (jN (jS ?_))
 refine VC.condD rfl (fun hc1 => ?_) (fun hc1 => ?_)
 ·
  obtain ⟨ad, rfl, hcell⟩ := IB_at hr hc1
  have htk : l.take (i + 1) = l.take i ++ [l[i]] := by rw [List.take_add_one, List.getElem?_eq_getElem hc1]; rfl
  generalize hx : l[i] = x at *
  refine jQ (jN (jv4 0 5 6 7 ?_))
  refine jS (jB (jS (jR ?_)))
  refine Ops.r (Run.index1 _ rfl rfl Try.underlying38 Try.sizeOf3 (by omega)) rfl ?_
  refine Ops.r (Run.load rfl Try.isAgg3 hcell) rfl ?_
  refine jA ?_
  refine jO (jN (jv5 0 4 5 6 7 ?_))
  refine jS ?_
  refine VC.split1 [(0, _), (5, _), (6, _), (7, _)] (js4 rfl rfl rfl rfl) 16 (.bool (decide ((x < 0) ∨ (2147483647 < x)))) ?_ ?_
  ·
   by_cases hs0 : x < 0
   ·
    refine jR (jM ?_)
    refine Ops.r (Run.bin rfl rfl (Bin.lss _ 0)) rfl ?_
    refine jM ?_
    refine jU ?_
    refine jU ?_
    refine Ops.r (Run.pickT rfl rfl au) rfl ?_
    refine jO ?_
    refine jN ⟨(js5 (by rw [dor1 hs0]; rfl) rfl rfl rfl rfl), rfl⟩
   ·
    refine jR (jM ?_)
    refine Ops.r (Run.bin rfl rfl (Bin.lss _ 0)) rfl ?_
    refine jM ?_
    refine jG ?_
    refine Ops.rg rfl au (Run.bin rfl rfl (Bin.gtr _ 2147483647)) rfl ?_
    refine Ops.r (Run.pickF rfl rfl au) rfl ?_
    refine jO ?_
    refine jN ⟨(js5 (by rw [dor0 hs0]; rfl) rfl rfl rfl rfl), rfl⟩
  ·
   intro Γ hΓ
   refine jN (VC.sub _ hΓ ?_)
   refine VC.condD rfl (fun hc2 => ?_) (fun hc2 => ?_)
   ·
    refine jS (jR (jA ?_))
    refine jO (jN (jv1 2 ?_))
    refine jT ?_
    refine blockQ_r (thenQ_r (thenQ_r (blockQ_r (thenQ_r (end1 rfl ?_)))))
    refine ⟨?_, rfl⟩
    rw [decide_eq_false]
    intro h
    have := h.2 x (by rw [← hx]; exact List.getElem_mem hc1)
    omega
   ·
    refine jQ ?_
    refine blockQ_n (jN ?_)
    refine jv4 0 5 6 7 ?_
    refine jR ?_
    refine Ops.r (Run.bin rfl rfl (Bin.add_i64 _ 1 (by omega))) rfl ?_
    refine jM ?_
    refine jO ?_
    refine jN ⟨(i + 1), (js4 rfl rfl rfl rfl), ?_, ?_⟩
    ·
     refine ⟨hc1, ?_, rfl⟩
     rw [htk]
     intro y hy
     rcases List.mem_append.1 hy with h | h
     ·
      exact hpre y h
     ·
      simp at h; subst h; omega
    ·
     first | omega | (dsimp only; omega)
 ·
  have hil : i = l.length := by omega
  subst hil
  rw [List.take_length] at hpre
  refine jX ?_
  refine thenQ_x (thenQ_x (blockQ_x ?_))
  refine jN (jv1 0 ?_)
  refine jS (jR (jM ?_))
  refine Ops.r (Run.lenS rfl Try.underlying38) rfl ?_
  refine Ops.r (Run.bin rfl rfl (Bin.leqN _ 320)) rfl ?_
  refine jA ?_
  refine jO (jN (jv1 2 ?_))
  refine jT ?_
  refine end1 rfl ?_
  refine ⟨?_, rfl⟩
  congr 2
  rw [decide_eq_decide]
  exact ⟨fun h => ⟨h, hpre⟩, fun h => h.1⟩
set_option maxRecDepth 100000 in
theorem both_spec (a b : PkC) (w : World) (ha : PkOk w a) (hb : PkOk w b) (hc : a.count + b.count ≤ 9223372036854775807) (hl : a.sy.length + b.sy.length ≤ 1000000) :
  Calls Try.prog 88 #[.agg a.cells.toArray, .agg b.cells.toArray] w fun e w' => ∃ A c, e = .returned (.agg (PkC.cells ⟨a.count + b.count, A, c, a.sy ++ b.sy⟩).toArray) ∧ PkOk w' ⟨a.count + b.count, A, c, a.sy ++ b.sy⟩ ∧ Frm [] w w' ∧ ∀ x ∈ ob A, w.heap.size ≤ x := by
 refine VC.calls (nt := 17) (res := #[.cell 4 106]) Try.func88 rfl Try.ntmps88 Try.results88 rfl ?_
 refine jS (jR ?_)
 refine Ops.m (Does.box rfl) rfl ?_
 rintro _ w1 ⟨rfl, hF1⟩
 have hb1 : Blk w1 w.heap.size 106 a.cells.toArray := hF1.blk
 refine Ops.m (Does.box rfl) rfl ?_
 rintro _ w2 ⟨rfl, hF2⟩
 have hb2 : Blk w2 w1.heap.size 106 b.cells.toArray := hF2.blk
 have hb12 := hb1.frm hF2.frm (by simp)
 refine Ops.m (Does.alloc zero106) rfl ?_
 rintro _ w3 ⟨rfl, hF3⟩
 have hb3 : Blk w3 w2.heap.size 106 PkC.zero.cells.toArray := hF3.blk
 have hb13 := hb12.frm hF3.frm (by simp)
 have hb23 := hb2.frm hF3.frm (by simp)
 have hfr3 := (hF1.frm.own hF2.frm (by simp)).own hF3.frm (by simp)
 have l1 := hb1.lt
 have l2 := hb2.lt
 have l3 := hF1.frm.size
 generalize hg1 : w.heap.size = g1 at hb13 l1 l3 ⊢
 generalize hg2 : w1.heap.size = g2 at *
 generalize hg3 : w2.heap.size = g3 at *
 refine jO (jN (jv3 2 3 4 ?_))
 refine jS ?_
 refine VC.held (fun v => Blk v g1 106 a.cells.toArray ∧ Blk v g2 106 b.cells.toArray) jK ?_
 have hS : (fun v => Blk v g1 106 a.cells.toArray ∧ Blk v g2 106 b.cells.toArray) w3.drew := ⟨hb13.drawn (Drawn.drew _), hb23.drawn (Drawn.drew _)⟩
 have hb3 := hb3.drawn (Drawn.drew _)
 have hfr3 := hfr3.drawn (Drawn.drew _)
 have ha3 := ha.frm hfr3 (by simp)
 have hbb3 := hb.frm hfr3 (by simp)
 refine jH 0 rfl hS (fun w0 hw0 => Run.fieldAddr rfl Try.underlying106 rfl Try.sizeOf3 (by decide)) ?_
 refine jH 1 rfl hS (fun w0 hw0 => Run.load rfl Try.isAgg3 (hw0.1.cell 0)) ?_
 refine jH 2 rfl hS (fun w0 hw0 => Run.fieldAddr rfl Try.underlying106 rfl Try.sizeOf3 (by decide)) ?_
 refine jH 3 rfl hS (fun w0 hw0 => Run.load rfl Try.isAgg3 (hw0.2.cell 0)) ?_
 refine jH 4 rfl hS (fun w0 hw0 => Run.bin rfl rfl (Bin.add_i64 _ _ (by omega))) ?_
 refine jH 5 rfl hS (fun w0 hw0 => Run.fieldAddr rfl Try.underlying106 rfl Try.sizeOf38 (by decide)) ?_
 refine jH 6 rfl hS (fun w0 hw0 => Run.load rfl Try.isAgg38 (hw0.1.cell 1)) ?_
 refine jH 8 rfl hS (fun w0 hw0 => Run.fieldAddr rfl Try.underlying106 rfl Try.sizeOf38 (by decide)) ?_
 refine jH 9 rfl hS (fun w0 hw0 => Run.load rfl Try.isAgg38 (hw0.2.cell 1)) ?_
 refine HOps.m 7 rfl jK (Does.app rfl rfl Try.underlying38 (info3) rfl (by decide) (Own.nil _ _ _) ha3.rd (NI_one _) (by omega) (by omega)) trivial rfl rfl ?_
 rintro _ w4 ⟨A4, c4, rfl, ho4, hf4, hob4⟩
 have hS : (fun v => Blk v g1 106 a.cells.toArray ∧ Blk v g2 106 b.cells.toArray) w4 := ⟨hS.1.frm hf4 (by simp [ob]), hS.2.frm hf4 (by simp [ob])⟩
 refine ⟨hS, ?_⟩
 have hb4 := hb3.frm hf4 (by simp [ob])
 have hbb4 : Own w4 3 1 b.A b.sy.length b.c (NI b.sy) := hbb3.frm hf4 (by simp [ob])
 have hfr4 := hfr3.own hf4 (by simp [ob])
 have hu4 : ∀ x ∈ ob A4, w.heap.size ≤ x := up_app up_nil hob4 hfr3.size
 refine HOps.m 10 rfl jK (Does.app rfl rfl Try.underlying38 (info3) rfl (by decide) ho4 hbb4.rd (NI_one _) (by omega) (by omega)) trivial rfl rfl ?_
 rintro _ w5 ⟨A5, c5, rfl, ho5, hf5, hob5⟩
 have hS : (fun v => Blk v g1 106 a.cells.toArray ∧ Blk v g2 106 b.cells.toArray) w5 := ⟨hS.1.frm hf5 (ho4.ne_blk hS.1 (by decide)), hS.2.frm hf5 (ho4.ne_blk hS.2 (by decide))⟩
 refine ⟨hS, ?_⟩
 have hb5 := hb4.frm hf5 (ho4.ne_blk hb4 (by decide))
 have hfr5 := hfr4.own hf5 hu4
 have hu5 := up_app hu4 hob5 hfr4.size
 have hl5 : 0 + a.sy.length + b.sy.length = (a.sy ++ b.sy).length := by rw [List.length_append]; omega
 rw [hl5] at ho5 ⊢
 rw [List.nil_append, ← NI_append] at ho5
 refine jH 11 rfl hS (fun w0 hw0 => Run.build (evs.cons rfl (evs.cons rfl evs.nil)) zero106 (places106).choose_spec.1 (places106).choose_spec.2 (cells := (PkC.cells ⟨a.count + b.count, A5, c5, a.sy ++ b.sy⟩).toArray) rfl) ?_
 refine HOps.st 12 rfl jK (Acts.storeA rfl rfl Try.sizeOf106 hb5 rfl (PkC.one _)) trivial rfl ?_
 rintro w6 ⟨hb6, hf6, hs6⟩
 refine ⟨⟨hS.1.frm hf6 (by simp; omega), hS.2.frm hf6 (by simp; omega)⟩, ?_⟩
 refine HOps.done jK ?_
 refine jN (jv1 4 ?_)
 refine jT ?_
 refine endR ?_
 refine res_cellA rfl Try.isAgg106 Try.sizeOf106 (hb6.cells) (by first | rfl | (simp; done)) ?_
 refine res_nil ?_
 exact ⟨A5, c5, rfl, PkOk.frm (p := ⟨a.count + b.count, A5, c5, a.sy ++ b.sy⟩) ho5 hf6 (fun x hx hx2 => by simp at hx2; subst hx2; exact ho5.ne_blk hb5 (by decide) hx), by subst hg1; exact hfr5.own hf6 (by simp; omega), by rw [← hg1]; exact hu5⟩
end Go.Proofs.Ytnmieihcjjiccaa
namespace Go.Proofs.Ytnmieihcjjiccaa
open Go.RowKit
def both2 (a b : Nat × List Nat) : Nat × List Nat := (a.1 + b.1, a.2 ++ b.2)
def pairsP : List (Nat × List Nat) → List (Nat × List Nat)
 | a :: b :: r => both2 a b :: pairsP r
 | _ => []
def mergeP : List (Nat × List Nat) → List (Nat × List Nat) → List (Nat × List Nat)
 | [], ps => ps
 | c :: cs, [] => c :: cs
 | c :: cs, p :: ps => if c.1 ≤ p.1 then c :: mergeP cs (p :: ps) else p :: mergeP (c :: cs) ps
 termination_by cs ps => cs.length + ps.length
theorem pairsP_take (l : List (Nat × List Nat)) : ∀ k, (h : 2 * k + 1 < l.length) → pairsP (l.take (2 * k + 2)) = pairsP (l.take (2 * k)) ++ [both2 l[2 * k] l[2 * k + 1]] := by
 intro k
 induction k generalizing l with
 | zero =>
  intro h
  match l, h with
  | a :: b :: r, _ => simp [pairsP]
 | succ k ih =>
  intro h
  match l, h with
  | a :: b :: r, h =>
   have h2 : 2 * k + 1 < r.length := by simp at h; omega
   have e1 : 2 * (k + 1) + 2 = (2 * k + 2) + 1 + 1 := by omega
   have e2 : 2 * (k + 1) = (2 * k) + 1 + 1 := by omega
   have e3 : (a :: b :: r)[2 * (k + 1)] = r[2 * k]'(by omega) := by simp [e2]
   have e4 : (a :: b :: r)[2 * (k + 1) + 1] = r[2 * k + 1]'h2 := by simp [e2]
   rw [e3, e4, e1, List.take_succ_cons, List.take_succ_cons, pairsP, ih r h2, e2, List.take_succ_cons, List.take_succ_cons, pairsP]
   rfl
theorem pairsP_all (l : List (Nat × List Nat)) : ∀ k, k ≤ l.length → l.length ≤ k + 1 → k % 2 = 0 → pairsP (l.take k) = pairsP l := by
  match l with
  | [] => intro k _ _ _; simp
  | [a] => intro k h1 h2 h3
           have : k = 0 := by simp at h1 h2; omega
           subst this; rfl
  | a :: b :: r =>
    intro k h1 h2 h3
    simp at h1 h2
    obtain ⟨j, rfl⟩ : ∃ j, k = j + 1 + 1 := ⟨k - 2, by omega⟩
    rw [List.take_succ_cons, List.take_succ_cons, pairsP, pairsP, pairsP_all r j (by omega) (by omega) (by omega)]
end Go.Proofs.Ytnmieihcjjiccaa
namespace Go.Proofs.Ytnmieihcjjiccaa
open Go.RowKit
theorem Rd_tail {w : World} {A : Option Addr} {p : PkC} {l : List PkC} {c : Nat} (h : Rd w 2 A (l.length + 1) ((p :: l).flatMap PkC.cells)) (hc : l.length + 1 ≤ c) : Rd w 2 (cutA A c 1 2) l.length (l.flatMap PkC.cells) := by
 have e := h.cut (l := 1) (r := l.length + 1) (cap := c) (by omega) (Nat.le_refl _) hc
 have e2 : ((((p :: l).flatMap PkC.cells).drop (1 * 2)).take ((l.length + 1 - 1) * 2)) = l.flatMap PkC.cells := by
  rw [List.flatMap_cons]
  show ((l.flatMap PkC.cells).take ((l.length + 1 - 1) * 2)) = _
  rw [List.take_of_length_le (by rw [flat_len PkC.cells 2 PkC.cells_len]; omega)]
 rw [e2, Nat.add_sub_cancel] at e
 exact e
theorem pairsP_len (l : List (Nat × List Nat)) : (pairsP l).length = l.length / 2 := by
 match l with
 | [] => rfl
 | [a] => simp [pairsP]
 | a :: b :: r => rw [pairsP, List.length_cons, pairsP_len r]; simp; omega
set_option maxRecDepth 100000 in
theorem merged_spec (A1 A2 : Option Addr) (c1 c2 : Nat) (ps ls : List PkC) (w : World) (hr1 : Rd w 2 A1 ps.length (ps.flatMap PkC.cells)) (h1 : ∀ p ∈ ps, PkOk w p) (hr2 : Rd w 2 A2 ls.length (ls.flatMap PkC.cells)) (h2 : ∀ p ∈ ls, PkOk w p)
  (hcap : ps.length ≤ c1) (hl1 : ps.length ≤ 10000) (hl2 : ls.length ≤ 10000) (hs : ∀ p ∈ ls, p.count ≤ 2305843009213693951 ∧ p.sy.length ≤ 100000)
  (G : Nat → Prop) (hG : ∀ x, w.heap.size ≤ x → G x) (hg1 : ∀ p ∈ ps, ∀ x ∈ ob p.A, G x) :
  Calls Try.prog 57 #[.slice A1 ps.length c1, .slice A2 ls.length c2] w fun e w' => ∃ B c qs, e = .returned (.slice B qs.length c) ∧ Pks w' B c qs ∧ qs.map PkC.abs = mergeP (ps.map PkC.abs) (pairsP (ls.map PkC.abs)) ∧ Frm [] w w' ∧ (∀ x ∈ ob B, w.heap.size ≤ x) ∧ ∀ p ∈ qs, ∀ x ∈ ob p.A, G x := by
 refine VC.calls (nt := 72) (res := #[.tmp 4]) Try.func57 rfl Try.ntmps57 Try.results57 rfl ?_
 refine jS (jR (jA ?_))
 refine jO (jN (jv2 0 1 ?_))
 refine jS (jR (jA ?_))
 refine jA ?_
 refine jO (jN (jS (jS (jR ?_))))
 refine Ops.r (v := .int .i64 ((0 : Nat) : Int)) (Run.asg rfl) rfl ?_
 refine jO (jN (jB ?_))
 refine VC.loop (σ := Nat × Option Addr × Nat × List PkC) (fun s => [(0, .slice A1 ps.length c1), (1, .slice A2 ls.length c2), (5, .slice s.2.1 s.2.2.2.length s.2.2.1), (6, .slice none 0 0), (7, .int .i64 ((2 * s.1 : Nat) : Int))]) (fun s wr => 2 * s.1 ≤ ls.length ∧ Pks wr s.2.1 s.2.2.1 s.2.2.2 ∧ s.2.2.2.map PkC.abs = pairsP ((ls.map PkC.abs).take (2 * s.1)) ∧ Frm [] w wr ∧ (∀ x ∈ ob s.2.1, w.heap.size ≤ x) ∧ ∀ p ∈ s.2.2.2, ∀ x ∈ ob p.A, G x) (fun s => ls.length - 2 * s.1) (0, none, 0, []) (js5 rfl rfl rfl rfl rfl) ⟨by omega, ⟨Own.nil _ _ _, by simp⟩, rfl, Frm.refl _ _, up_nil, by simp⟩ ?_
 rintro ⟨k, B, c, qs⟩ w7 ⟨hk, hP, hq, hfr, huB, hqg⟩
 dsimp only at hk hP hq hfr huB hqg ⊢
 have hql : qs.length ≤ ls.length := by
  have h5 := congrArg List.length hq
  rw [List.length_map, pairsP_len, List.length_take, List.length_map] at h5
  omega
 refine jS (jS (jR (jM ?_)))
 refine Ops.r (Run.bin rfl rfl (Bin.add_i64 _ 1 (by omega))) rfl ?_
 refine jM ?_
 refine Ops.r (Run.lenS rfl Try.underlying103) rfl ?_
 refine Ops.r (Run.bin rfl rfl (Bin.lssN _ _)) rfl ?_
 refine jO (jN (jv6 0 1 5 6 7 12 ?_))
 refine VC.condD rfl (fun hc1 => ?_) (fun hc1 => ?_)
 ·
  have hkl : 2 * k < ls.length := by omega
  obtain ⟨ad, rfl, hea⟩ := hr2.elem hkl
  obtain ⟨ad2, had, heb⟩ := hr2.elem hc1
  obtain rfl : ad = ad2 := by injection had
  have hpt := pairsP_take (ls.map PkC.abs) k (by simpa using hc1)
  rw [List.getElem_map, List.getElem_map] at hpt
  have ha := h2 _ (List.getElem_mem hkl)
  have hb := h2 _ (List.getElem_mem hc1)
  have hsa := hs _ (List.getElem_mem hkl)
  have hsb := hs _ (List.getElem_mem hc1)
  rw [flat_get PkC.cells 2 PkC.cells_len ls _ hkl] at hea
  rw [flat_get PkC.cells 2 PkC.cells_len ls _ hc1] at heb
  generalize ls[2 * k] = a at *
  generalize ls[2 * k + 1] = b at *
  refine jQ (jN (jv5 0 1 5 6 7 ?_))
  refine jS (jB ?_)
  refine VC.held (fun v => Frm [] w v) jK ?_
  have hS : (fun v => Frm [] w v) w7.drew := hfr.drawn (Drawn.drew _)
  have hPd : Pks w7.drew B c qs := hP.frm (Drawn.drew _).frm (by simp) (fun _ _ _ _ => by simp)
  refine jH 0 rfl hS (fun w0 hw0 => Run.mv rfl) ?_
  refine jH 1 rfl hS (fun w0 hw0 => Run.mv rfl) ?_
  refine jH 2 rfl hS (fun w0 hw0 => Run.mv rfl) ?_
  refine jH 3 rfl hS (fun w0 hw0 => Run.indexS _ rfl rfl Try.underlying103 Try.sizeOf106 (by omega)) ?_
  refine jH 4 rfl hS (fun w0 hw0 => Run.loadA rfl Try.isAgg106 Try.sizeOf106 (fun j v h => hw0.cell (hea j v h) (by simp)) (by first | rfl | (simp; done))) ?_
  refine jH 5 rfl hS (fun w0 hw0 => Run.mv rfl) ?_
  refine jH 6 rfl hS (fun w0 hw0 => Run.mv rfl) ?_
  refine jH 7 rfl hS (fun w0 hw0 => Run.bin rfl rfl (Bin.add_i64 _ 1 (by omega))) ?_
  refine jH 8 rfl hS (fun w0 hw0 => Run.indexS _ rfl rfl Try.underlying103 Try.sizeOf106 (by omega)) ?_
  refine jH 9 rfl hS (fun w0 hw0 => Run.loadA rfl Try.isAgg106 Try.sizeOf106 (fun j v h => hw0.cell (heb j v h) (by simp)) (by first | rfl | (simp; done))) ?_
  refine HOps.cl 10 rfl jK (Enters.fn (evs.cons rfl (evs.cons rfl evs.nil)) Try.call88) (both_spec a b _ (ha.frm hS (by simp)) (hb.frm hS (by simp)) (by omega) (by omega)) trivial rfl rfl ?_
  have hszb := Frm.size hS
  rintro e w4 ⟨A4, c4, rfl, hp4, hf4, hA4⟩
  have hS : (fun v => Frm [] w v) w4 := hS.own hf4 (by simp)
  refine ⟨_, rfl, hS, ?_⟩
  have hP4 := hPd.frm hf4 (by simp) (fun _ _ _ _ => by simp)
  generalize hpk : (⟨a.count + b.count, A4, c4, a.sy ++ b.sy⟩ : PkC) = p at *
  have hpa : p.abs = both2 a.abs b.abs := by subst hpk; rfl
  have hpG : ∀ x ∈ ob p.A, G x := by subst hpk; exact fun x hx => hG x (Nat.le_trans hszb (hA4 x hx))
  refine HOps.m 11 rfl jK (Does.buildS1 rfl Try.underlying103 Try.sizeOf106 zero106 (by decide) (by decide) rfl rfl) trivial rfl rfl ?_
  rintro _ w5 ⟨rfl, hF5⟩
  have hS : (fun v => Frm [] w v) w5 := hS.own hF5.frm (by simp)
  refine ⟨hS, ?_⟩
  have hrd5 : Rd w5 2 (some ⟨w4.heap.size, 0, none⟩) 1 p.cells := Rd.of_blk (n := 1) (size := 2) hF5.blk rfl
  have hP5 := hP4.frm hF5.frm (by simp) (fun _ _ _ _ => by simp)
  have hp5 := hp4.frm hF5.frm (by simp)
  refine HOps.m 12 rfl jK (Does.app rfl rfl Try.underlying103 (info106) rfl (by decide) hP5.1 hrd5 p.one (by omega) (by omega)) trivial rfl rfl ?_
  rintro _ w6 ⟨B6, c6, rfl, ho6, hf6, hob6⟩
  have hsz5 := Frm.size hS
  have hS : (fun v => Frm [] w v) w6 := Frm.own hS hf6 huB
  refine ⟨hS, ?_⟩
  refine jH 13 rfl hS (fun w0 hw0 => Run.asg rfl) ?_
  refine HOps.done jK ?_
  refine blockQ_n (jN ?_)
  refine jv5 0 1 5 6 7 ?_
  refine jR (jM ?_)
  refine Ops.r (Run.bin rfl rfl (Bin.add_i64 _ 2 (by omega))) rfl ?_
  refine jA ?_
  refine jO ?_
  refine jN ⟨(k + 1, B6, c6, qs ++ [p]), (js5 rfl rfl (by rw [show (qs ++ [p]).length = qs.length + 1 from List.length_append]; rfl) rfl (congrArg (fun z : Nat => some (Value.int .i64 (z : Int))) (by omega))), ?_, ?_⟩
  ·
   refine ⟨by dsimp only; omega, ⟨?_, ?_⟩, ?_, hS, up_app huB hob6 hsz5, fun q hq2 => (List.mem_append.1 hq2).elim (hqg q) (fun h5 => by simp at h5; subst h5; exact hpG)⟩
   ·
    rw [show (qs ++ [p]).length = qs.length + 1 from List.length_append, List.flatMap_append]
    simpa using ho6
   ·
    intro q hq2
    rcases List.mem_append.1 hq2 with h5 | h5
    ·
     exact (hP5.2 q h5).frm hf6 (hP5.ne q h5)
    ·
     simp at h5; subst h5; exact hp5.frm hf6 (Own.ne_own hp5 hP5.1 (by decide))
   ·
    dsimp only
    rw [List.map_append, hq, show 2 * (k + 1) = 2 * k + 2 by omega, hpt, List.map_cons, hpa]
    rfl
  ·
   first | omega | (dsimp only; omega)
 ·
  have hqa : qs.map PkC.abs = pairsP (ls.map PkC.abs) := by rw [hq, pairsP_all _ (2 * k) (by simp; omega) (by simp; omega) (by omega)]
  rw [← hqa]
  have hql2 : qs.length ≤ 10000 := by omega
  clear hqa hq hk
  refine jX ?_
  refine thenQ_x (thenQ_x (blockQ_x ?_))
  refine jN (jv3 0 5 6 ?_)
  refine jS (jB ?_)
  refine VC.loop (σ := List PkC × List PkC × List PkC × Option Addr × Nat × Option Addr × Nat × Option Addr × Nat) (fun s => [(0, .slice s.2.2.2.1 s.1.length s.2.2.2.2.1), (5, .slice s.2.2.2.2.2.1 s.2.1.length s.2.2.2.2.2.2.1), (6, .slice s.2.2.2.2.2.2.2.1 s.2.2.1.length s.2.2.2.2.2.2.2.2)]) (fun s wr => mergeP (ps.map PkC.abs) (qs.map PkC.abs) = s.2.2.1.map PkC.abs ++ mergeP (s.1.map PkC.abs) (s.2.1.map PkC.abs) ∧ Rd w 2 s.2.2.2.1 s.1.length (s.1.flatMap PkC.cells) ∧ s.1.length ≤ s.2.2.2.2.1 ∧ (∀ p ∈ s.1, PkOk w p) ∧ Rd w7 2 s.2.2.2.2.2.1 s.2.1.length (s.2.1.flatMap PkC.cells) ∧ s.2.1.length ≤ s.2.2.2.2.2.2.1 ∧ (∀ p ∈ s.2.1, PkOk w7 p) ∧ Pks wr s.2.2.2.2.2.2.2.1 s.2.2.2.2.2.2.2.2 s.2.2.1 ∧ Frm [] w7 wr ∧ (∀ x ∈ ob s.2.2.2.2.2.2.2.1, w7.heap.size ≤ x) ∧ s.2.2.1.length + s.1.length + s.2.1.length ≤ 30000 ∧ (∀ p ∈ s.1, ∀ x ∈ ob p.A, G x) ∧ (∀ p ∈ s.2.1, ∀ x ∈ ob p.A, G x) ∧ ∀ p ∈ s.2.2.1, ∀ x ∈ ob p.A, G x) (fun s => s.1.length + s.2.1.length) (ps, qs, [], A1, c1, B, c, none, 0) (js3 rfl rfl rfl) ⟨by simp, hr1, hcap, h1, hP.1.rd, hP.1.le, hP.2, ⟨Own.nil _ _ _, by simp⟩, Frm.refl _ _, up_nil, by simp; omega, hg1, hqg, by simp⟩ ?_
  rintro ⟨cs, pk, out, Ac, ca, Bp, cp, Bo, co⟩ wr ⟨hm, hrc, hcc, hoc, hrp, hcp, hop, hPo, hfo, huo, hlen, hcg, hpg, hog⟩
  dsimp only at hm hrc hcc hoc hrp hcp hop hPo hfo huo hlen hcg hpg hog ⊢
  have hfw : Frm [] w wr := hfr.own hfo (by simp)
  refine jS (jS ?_)
  refine VC.split1 [(0, _), (5, _), (6, _)] (js3 rfl rfl rfl) 35 (.bool (decide ((0 < cs.length) ∨ (0 < pk.length)))) ?_ ?_
  ·
   by_cases hs0 : 0 < cs.length
   ·
    refine jR (jM ?_)
    refine Ops.r (Run.lenS rfl Try.underlying103) rfl ?_
    refine Ops.r (Run.bin rfl rfl (Bin.gtrN _ 0)) rfl ?_
    refine jM ?_
    refine jU ?_
    refine jU ?_
    refine jU ?_
    refine Ops.r (Run.pickT rfl rfl au) rfl ?_
    refine jO ?_
    refine jN ⟨(js4 (by rw [dor1 hs0]; rfl) rfl rfl rfl), rfl⟩
   ·
    refine jR (jM ?_)
    refine Ops.r (Run.lenS rfl Try.underlying103) rfl ?_
    refine Ops.r (Run.bin rfl rfl (Bin.gtrN _ 0)) rfl ?_
    refine jM ?_
    refine jG ?_
    refine Ops.rg rfl au (Run.lenS rfl Try.underlying103) rfl ?_
    refine Ops.rg rfl au (Run.bin rfl rfl (Bin.gtrN _ 0)) rfl ?_
    refine Ops.r (Run.pickF rfl rfl au) rfl ?_
    refine jO ?_
    refine jN ⟨(js4 (by rw [dor0 hs0]; rfl) rfl rfl rfl), rfl⟩
  ·
   intro Γ hΓ
   refine jN (VC.sub _ hΓ ?_)
   refine VC.condD rfl (fun hc2 => ?_) (fun hc2 => ?_)
   ·
    refine jQ (jN (jv3 0 5 6 ?_))
    refine jB (jS ?_)
    refine VC.splitR [(0, .slice Ac cs.length ca), (5, .slice Bp pk.length cp), (6, .slice Bo out.length co)] (fun w1 => w1 = wr.drew) 54 (.bool (decide (pk.length = 0 ∨ 0 < cs.length ∧ (cs.headD PkC.zero).count ≤ (pk.headD PkC.zero).count))) ?_ ?_
    ·
     refine VC.still jK jK ?_
     refine SOps.r (Run.mv rfl) rfl ?_
     refine SOps.r (Run.lenS rfl Try.underlying103) rfl ?_
     refine SOps.r (Run.bin rfl rfl (Bin.eqlN _ 0)) rfl ?_
     by_cases hs38 : pk.length = 0
     ·
      refine SOps.r (Run.mv rfl) rfl ?_
      refine SOps.sk rfl au rfl ?_
      refine SOps.sk rfl au rfl ?_
      refine SOps.sk rfl au rfl ?_
      refine SOps.sk rfl au rfl ?_
      refine SOps.skU rfl rfl ?_
      refine SOps.skU rfl rfl ?_
      refine SOps.skU rfl rfl ?_
      refine SOps.skU rfl rfl ?_
      refine SOps.skU rfl rfl ?_
      refine SOps.skU rfl rfl ?_
      refine SOps.skU rfl rfl ?_
      refine SOps.skU rfl rfl ?_
      refine SOps.skU rfl rfl ?_
      refine SOps.sk rfl au rfl ?_
      refine SOps.r (Run.pickT rfl rfl au) rfl ?_
      refine SOps.nil ?_
      refine jN ⟨(js4 (jC (by simp [*])) rfl rfl rfl), (rfl)⟩
     ·
      refine SOps.r (Run.mv rfl) rfl ?_
      refine SOps.rg rfl au (Run.mv rfl) rfl ?_
      refine SOps.rg rfl au (Run.lenS rfl Try.underlying103) rfl ?_
      refine SOps.rg rfl au (Run.bin rfl rfl (Bin.gtrN _ 0)) rfl ?_
      by_cases hs42 : 0 < cs.length
      ·
       have hpk0 : 0 < pk.length := by omega
       obtain ⟨ad, rfl, hea⟩ := hrc.elem hs42
       obtain ⟨ad2, rfl, heb⟩ := hrp.elem hpk0
       rw [flat_get PkC.cells 2 PkC.cells_len cs 0 hs42, show cs[0] = cs.headD PkC.zero by cases cs <;> simp at hs42 ⊢] at hea
       rw [flat_get PkC.cells 2 PkC.cells_len pk 0 hpk0, show pk[0] = pk.headD PkC.zero by cases pk <;> simp at hpk0 ⊢] at heb
       have hca := (hfw.drawn (Drawn.drew wr)).cell (hea 0 _ rfl) (by simp)
       have hcb := (hfo.drawn (Drawn.drew wr)).cell (heb 0 _ rfl) (by simp)
       refine SOps.rg rfl au (Run.mv rfl) rfl ?_
       refine SOps.rg rfl au (Run.mv rfl) rfl ?_
       refine SOps.rg rfl au (Run.indexS 0 rfl rfl Try.underlying103 Try.sizeOf106 (by omega)) rfl ?_
       refine SOps.rg rfl au (Run.fieldAddr rfl Try.underlying106 rfl Try.sizeOf3 (by decide)) rfl ?_
       refine SOps.rg rfl au (Run.load rfl Try.isAgg3 hca) rfl ?_
       refine SOps.rg rfl au (Run.mv rfl) rfl ?_
       refine SOps.rg rfl au (Run.indexS 0 rfl rfl Try.underlying103 Try.sizeOf106 (by omega)) rfl ?_
       refine SOps.rg rfl au (Run.fieldAddr rfl Try.underlying106 rfl Try.sizeOf3 (by decide)) rfl ?_
       refine SOps.rg rfl au (Run.load rfl Try.isAgg3 hcb) rfl ?_
       refine SOps.rg rfl au (Run.bin rfl rfl (Bin.leqN _ _)) rfl ?_
       by_cases hs52 : (cs.headD PkC.zero).count ≤ (pk.headD PkC.zero).count
       ·
        refine SOps.rg rfl au (Run.pickT rfl rfl au) rfl ?_
        refine SOps.r (Run.pickF rfl rfl au) rfl ?_
        refine SOps.nil ?_
        refine jN ⟨(js4 (jC (by simp [*])) rfl rfl rfl), (rfl)⟩
       ·
        refine SOps.rg rfl au (Run.pickT rfl rfl au) rfl ?_
        refine SOps.r (Run.pickF rfl rfl au) rfl ?_
        refine SOps.nil ?_
        refine jN ⟨(js4 (jC (by simp [*])) rfl rfl rfl), (rfl)⟩
      ·
       refine SOps.rg rfl au (Run.mv rfl) rfl ?_
       refine SOps.sk rfl au rfl ?_
       refine SOps.sk rfl au rfl ?_
       refine SOps.sk rfl au rfl ?_
       refine SOps.sk rfl au rfl ?_
       refine SOps.sk rfl au rfl ?_
       refine SOps.sk rfl au rfl ?_
       refine SOps.sk rfl au rfl ?_
       refine SOps.sk rfl au rfl ?_
       refine SOps.sk rfl au rfl ?_
       refine SOps.rg rfl au (Run.pickF rfl rfl au) rfl ?_
       refine SOps.r (Run.pickF rfl rfl au) rfl ?_
       refine SOps.nil ?_
       refine jN ⟨(js4 (jC (by simp [*])) rfl rfl rfl), (rfl)⟩
    ·
     intro Γ w8 hΓ hw8
     refine jN (VC.sub _ hΓ ?_)
     refine VC.condD rfl (fun hc3 => ?_) (fun hc3 => ?_)
     ·
      subst hw8
      obtain ⟨c0, cs, rfl⟩ : ∃ c0 cs2, cs = c0 :: cs2 := by
       cases cs with
       | nil => exfalso; simp only [List.length_nil] at hc2 hc3; omega
       | cons c0 cs2 => exact ⟨_, _, rfl⟩
      have hmc : mergeP ((c0 :: cs).map PkC.abs) (pk.map PkC.abs) = c0.abs :: mergeP (cs.map PkC.abs) (pk.map PkC.abs) := by
       cases pk with
       | nil => cases cs <;> simp [mergeP]
       | cons p0 pk2 =>
        rw [List.map_cons, List.map_cons, mergeP, if_pos]
        rcases hc3 with h5 | h5
        ·
         simp at h5
        ·
         exact h5.2
      rw [hmc] at hm
      obtain ⟨ad, rfl, hea⟩ := hrc.elem (k := 0) (by simp)
      rw [flat_get PkC.cells 2 PkC.cells_len (c0 :: cs) 0 (by simp)] at hea
      have hcl : (c0 :: cs).length = cs.length + 1 := rfl
      have hd1 := hfo.drawn (Drawn.drew wr)
      refine VC.held (fun v => Frm [] w7 v) jK ?_
      have hS : (fun v => Frm [] w7 v) wr.drew.drew := hd1.drawn (Drawn.drew _)
      have hPd : Pks wr.drew.drew Bo co out := hPo.frm ((Drawn.drew wr).trans (Drawn.drew _)).frm (by simp) (fun _ _ _ _ => by simp)
      refine jH 0 rfl hS (fun w0 hw0 => Run.mv rfl) ?_
      refine jH 1 rfl hS (fun w0 hw0 => Run.mv rfl) ?_
      refine jH 2 rfl hS (fun w0 hw0 => Run.indexS 0 rfl rfl Try.underlying103 Try.sizeOf106 (by omega)) ?_
      refine jH 3 rfl hS (fun w0 hw0 => Run.loadA rfl Try.isAgg106 Try.sizeOf106 (fun j v h => (hfr.own hw0 (by simp)).cell (hea j v h) (by simp)) (by first | rfl | (simp; done))) ?_
      refine jH 6 rfl hS (fun w0 hw0 => Run.mv rfl) ?_
      refine jH 7 rfl hS (fun w0 hw0 => Run.sliceS 1 _ rfl Try.underlying103 Try.sizeOf106 (evB.some_ rfl) evB.none_ (by omega) (by omega)) ?_
      refine HOps.m 4 rfl jK (Does.buildS1 rfl Try.underlying103 Try.sizeOf106 zero106 (by decide) (by decide) rfl rfl) trivial rfl rfl ?_
      rintro _ w5 ⟨rfl, hF5⟩
      have hS : (fun v => Frm [] w7 v) w5 := hS.own hF5.frm (by simp)
      refine ⟨hS, ?_⟩
      have hrd5 : Rd w5 2 (some ⟨wr.drew.drew.heap.size, 0, none⟩) 1 c0.cells := Rd.of_blk (n := 1) (size := 2) hF5.blk rfl
      have hP5 := hPd.frm hF5.frm (by simp) (fun _ _ _ _ => by simp)
      refine HOps.m 5 rfl jK (Does.app rfl rfl Try.underlying103 (info106) rfl (by decide) hP5.1 hrd5 c0.one (by omega) (by omega)) trivial rfl rfl ?_
      rintro _ w6 ⟨B6, c6, rfl, ho6, hf6, hob6⟩
      have hsz5 := Frm.size hS
      have hp6 : PkOk w6 c0 := (hoc c0 (by simp)).frm (hfr.own (Frm.own hS hf6 huo) (by simp)) (by simp)
      have hS : (fun v => Frm [] w7 v) w6 := Frm.own hS hf6 huo
      refine ⟨hS, ?_⟩
      refine jH 8 rfl hS (fun w0 hw0 => Run.asg rfl) ?_
      refine jH 9 rfl hS (fun w0 hw0 => Run.asg rfl) ?_
      refine HOps.done jK ?_
      refine blockQ_n (jN ⟨(cs, pk, out ++ [c0], cutA (some ad) ca 1 2, ca - 1, Bp, cp, B6, c6), (js3 rfl rfl (by rw [show (out ++ [c0]).length = out.length + 1 from List.length_append]; rfl)), ?_, ?_⟩)
      ·
       refine ⟨?_, Rd_tail hrc (by rw [← hcl]; exact hcc), by dsimp only; rw [hcl] at hcc; omega, fun q hq2 => hoc q (by simp [hq2]), hrp, hcp, hop, ⟨?_, ?_⟩, hS, up_app huo hob6 hsz5, by dsimp only; simp at hlen ⊢; omega, fun q hq2 => hcg q (by simp [hq2]), hpg, fun q hq2 => (List.mem_append.1 hq2).elim (hog q) (fun h5 => hcg q (by simp at h5; simp [h5]))⟩
       ·
        dsimp only
        rw [hm, List.map_append, List.append_assoc]
        rfl
       ·
        rw [show (out ++ [c0]).length = out.length + 1 from List.length_append, List.flatMap_append]
        simpa using ho6
       ·
        intro q hq2
        rcases List.mem_append.1 hq2 with h5 | h5
        ·
         exact (hP5.2 q h5).frm hf6 (hP5.ne q h5)
        ·
         simp at h5; subst h5; exact hp6
      ·
       dsimp only; simp
     ·
      subst hw8
      obtain ⟨p0, pk, rfl⟩ : ∃ p0 pk2, pk = p0 :: pk2 := by
       cases pk with
       | nil => exact absurd (.inl rfl) hc3
       | cons p0 pk2 => exact ⟨_, _, rfl⟩
      have hmc : mergeP (cs.map PkC.abs) ((p0 :: pk).map PkC.abs) = p0.abs :: mergeP (cs.map PkC.abs) (pk.map PkC.abs) := by
       cases cs with
       | nil => simp [mergeP]
       | cons c0 cs2 =>
        rw [List.map_cons, List.map_cons, mergeP, if_neg]
        intro h5
        exact hc3 (.inr ⟨by simp, h5⟩)
      rw [hmc] at hm
      obtain ⟨ad, rfl, hea⟩ := hrp.elem (k := 0) (by simp)
      rw [flat_get PkC.cells 2 PkC.cells_len (p0 :: pk) 0 (by simp)] at hea
      have hcl : (p0 :: pk).length = pk.length + 1 := rfl
      have hd1 := hfo.drawn (Drawn.drew wr)
      refine VC.held (fun v => Frm [] w7 v) jK ?_
      have hS : (fun v => Frm [] w7 v) wr.drew.drew := hd1.drawn (Drawn.drew _)
      have hPd : Pks wr.drew.drew Bo co out := hPo.frm ((Drawn.drew wr).trans (Drawn.drew _)).frm (by simp) (fun _ _ _ _ => by simp)
      refine jH 0 rfl hS (fun w0 hw0 => Run.mv rfl) ?_
      refine jH 1 rfl hS (fun w0 hw0 => Run.mv rfl) ?_
      refine jH 2 rfl hS (fun w0 hw0 => Run.indexS 0 rfl rfl Try.underlying103 Try.sizeOf106 (by omega)) ?_
      refine jH 3 rfl hS (fun w0 hw0 => Run.loadA rfl Try.isAgg106 Try.sizeOf106 (fun j v h => hw0.cell (hea j v h) (by simp)) (by first | rfl | (simp; done))) ?_
      refine jH 6 rfl hS (fun w0 hw0 => Run.mv rfl) ?_
      refine jH 7 rfl hS (fun w0 hw0 => Run.sliceS 1 _ rfl Try.underlying103 Try.sizeOf106 (evB.some_ rfl) evB.none_ (by omega) (by omega)) ?_
      refine HOps.m 4 rfl jK (Does.buildS1 rfl Try.underlying103 Try.sizeOf106 zero106 (by decide) (by decide) rfl rfl) trivial rfl rfl ?_
      rintro _ w5 ⟨rfl, hF5⟩
      have hS : (fun v => Frm [] w7 v) w5 := hS.own hF5.frm (by simp)
      refine ⟨hS, ?_⟩
      have hrd5 : Rd w5 2 (some ⟨wr.drew.drew.heap.size, 0, none⟩) 1 p0.cells := Rd.of_blk (n := 1) (size := 2) hF5.blk rfl
      have hP5 := hPd.frm hF5.frm (by simp) (fun _ _ _ _ => by simp)
      refine HOps.m 5 rfl jK (Does.app rfl rfl Try.underlying103 (info106) rfl (by decide) hP5.1 hrd5 p0.one (by omega) (by omega)) trivial rfl rfl ?_
      rintro _ w6 ⟨B6, c6, rfl, ho6, hf6, hob6⟩
      have hsz5 := Frm.size hS
      have hp6 : PkOk w6 p0 := (hop p0 (by simp)).frm (Frm.own hS hf6 huo) (by simp)
      have hS : (fun v => Frm [] w7 v) w6 := Frm.own hS hf6 huo
      refine ⟨hS, ?_⟩
      refine jH 8 rfl hS (fun w0 hw0 => Run.asg rfl) ?_
      refine jH 9 rfl hS (fun w0 hw0 => Run.asg rfl) ?_
      refine HOps.done jK ?_
      refine blockQ_n (jN ⟨(cs, pk, out ++ [p0], Ac, ca, cutA (some ad) cp 1 2, cp - 1, B6, c6), (js3 rfl rfl (by rw [show (out ++ [p0]).length = out.length + 1 from List.length_append]; rfl)), ?_, ?_⟩)
      ·
       refine ⟨?_, hrc, hcc, hoc, Rd_tail hrp (by rw [← hcl]; exact hcp), by dsimp only; rw [hcl] at hcp; omega, fun q hq2 => hop q (by simp [hq2]), ⟨?_, ?_⟩, hS, up_app huo hob6 hsz5, by dsimp only; simp at hlen ⊢; omega, hcg, fun q hq2 => hpg q (by simp [hq2]), fun q hq2 => (List.mem_append.1 hq2).elim (hog q) (fun h5 => hpg q (by simp at h5; simp [h5]))⟩
       ·
        dsimp only
        rw [hm, List.map_append, List.append_assoc]
        rfl
       ·
        rw [show (out ++ [p0]).length = out.length + 1 from List.length_append, List.flatMap_append]
        simpa using ho6
       ·
        intro q hq2
        rcases List.mem_append.1 hq2 with h5 | h5
        ·
         exact (hP5.2 q h5).frm hf6 (hP5.ne q h5)
        ·
         simp at h5; subst h5; exact hp6
      ·
       dsimp only; simp
   ·
    have e1 : cs = [] := List.eq_nil_of_length_eq_zero (by omega)
    have e2 : pk = [] := List.eq_nil_of_length_eq_zero (by omega)
    subst e1 e2
    rw [show mergeP (List.map PkC.abs []) (List.map PkC.abs []) = [] by simp [mergeP], List.append_nil] at hm
    refine jX ?_
    refine thenQ_x (thenQ_x (blockQ_x ?_))
    refine jN (jv1 6 ?_)
    refine jS (jR (jM ?_))
    refine jA ?_
    refine jO (jN (jv1 4 ?_))
    refine jT ?_
    refine end1 rfl ?_
    exact ⟨Bo, co, out, rfl, hPo, hm.symm, hfr.own hfo (by simp), fun x hx => Nat.le_trans hfr.size (huo x hx), hog⟩
end Go.Proofs.Ytnmieihcjjiccaa
namespace Go.Proofs.Ytnmieihcjjiccaa
open Go.RowKit
def totC (l : List (Nat × List Nat)) : Nat := (l.map Prod.fst).sum
def totS (l : List (Nat × List Nat)) : Nat := (l.map fun p => p.2.length).sum
theorem totC_merge : ∀ (a b : List (Nat × List Nat)), totC (mergeP a b) = totC a + totC b
 | [], b => by simp [mergeP, totC]
 | c :: cs, [] => by simp [mergeP, totC]
 | c :: cs, p :: ps => by
  rw [mergeP]
  split
  ·
   have := totC_merge cs (p :: ps)
   simp [totC] at this ⊢
   omega
  ·
   have := totC_merge (c :: cs) ps
   simp [totC] at this ⊢
   omega
 termination_by a b => a.length + b.length
theorem totS_merge : ∀ (a b : List (Nat × List Nat)), totS (mergeP a b) = totS a + totS b
 | [], b => by simp [mergeP, totS]
 | c :: cs, [] => by simp [mergeP, totS]
 | c :: cs, p :: ps => by
  rw [mergeP]
  split
  ·
   have := totS_merge cs (p :: ps)
   simp [totS] at this ⊢
   omega
  ·
   have := totS_merge (c :: cs) ps
   simp [totS] at this ⊢
   omega
 termination_by a b => a.length + b.length
theorem len_merge : ∀ (a b : List (Nat × List Nat)), (mergeP a b).length = a.length + b.length
 | [], b => by simp [mergeP]
 | c :: cs, [] => by simp [mergeP]
 | c :: cs, p :: ps => by
  rw [mergeP]
  split
  ·
   have := len_merge cs (p :: ps)
   simp at this ⊢
   omega
  ·
   have := len_merge (c :: cs) ps
   simp at this ⊢
   omega
 termination_by a b => a.length + b.length
theorem totC_pairs : ∀ (l : List (Nat × List Nat)), totC (pairsP l) ≤ totC l
 | [] => by simp [pairsP]
 | [a] => by simp [pairsP, totC]
 | a :: b :: r => by
  have := totC_pairs r
  simp [pairsP, totC, both2] at this ⊢
  omega
theorem totS_pairs : ∀ (l : List (Nat × List Nat)), totS (pairsP l) ≤ totS l
 | [] => by simp [pairsP]
 | [a] => by simp [pairsP, totS]
 | a :: b :: r => by
  have := totS_pairs r
  simp [pairsP, totS, both2] at this ⊢
  omega
def levelP (cs : List (Nat × List Nat)) : Nat → List (Nat × List Nat)
 | 0 => cs
 | k + 1 => mergeP cs (pairsP (levelP cs k))
theorem level_totC (cs : List (Nat × List Nat)) : ∀ k, totC (levelP cs k) ≤ (k + 1) * totC cs
 | 0 => by simp [levelP]
 | k + 1 => by
  have h1 := level_totC cs k
  have h2 := totC_pairs (levelP cs k)
  rw [levelP, totC_merge, Nat.succ_mul (k + 1)]
  omega
theorem level_totS (cs : List (Nat × List Nat)) : ∀ k, totS (levelP cs k) ≤ (k + 1) * totS cs
 | 0 => by simp [levelP]
 | k + 1 => by
  have h1 := level_totS cs k
  have h2 := totS_pairs (levelP cs k)
  rw [levelP, totS_merge, Nat.succ_mul (k + 1)]
  omega
theorem level_len (cs : List (Nat × List Nat)) : ∀ k, (levelP cs k).length ≤ 2 * cs.length ∧ (2 * cs.length - (levelP cs k).length) * 2 ^ k + 1 ≤ cs.length + 2 ^ k
 | 0 => by simp [levelP]; omega
 | k + 1 => by
  obtain ⟨h1, h2⟩ := level_len cs k
  have h3 : (pairsP (levelP cs k)).length = (levelP cs k).length / 2 := by
   generalize levelP cs k = l
   clear h1 h2
   induction l using pairsP.induct with
   | case1 a b r ih => simp [pairsP, ih]; omega
   | case2 l h => 
    match l, h with
    | [], _ => rfl
    | [a], _ => simp [pairsP]
    | a :: b :: r, h => exact absurd rfl (h a b r)
  rw [levelP, len_merge, h3]
  generalize (levelP cs k).length = L at *
  refine ⟨by omega, ?_⟩
  have h4 : (2 * cs.length - (cs.length + L / 2)) * 2 ≤ (2 * cs.length - L) + 1 := by omega
  have h5 : (2 * cs.length - (cs.length + L / 2)) * 2 * 2 ^ k ≤ ((2 * cs.length - L) + 1) * 2 ^ k := Nat.mul_le_mul_right _ h4
  rw [Nat.add_mul, Nat.one_mul] at h5
  rw [Nat.pow_succ, Nat.mul_comm (2 ^ k) 2, ← Nat.mul_assoc]
  omega
theorem level_enough (cs : List (Nat × List Nat)) (k : Nat) (h : cs.length ≤ 2 ^ (k + 1)) : 2 * cs.length - 2 ≤ (levelP cs k).length := by
 obtain ⟨h1, h2⟩ := level_len cs k
 rw [Nat.pow_succ] at h
 have h3 : (2 * cs.length - (levelP cs k).length) * 2 ^ k < 3 * 2 ^ k := by omega
 have h4 := Nat.lt_of_mul_lt_mul_right h3
 omega
theorem mem_totC {l : List (Nat × List Nat)} {x : Nat × List Nat} (h : x ∈ l) : x.1 ≤ totC l := by
 induction l with
 | nil => simp at h
 | cons a r ih =>
  unfold totC at ih ⊢
  rw [List.map_cons, List.sum_cons]
  rcases List.mem_cons.1 h with rfl | h
  ·
   omega
  ·
   have := ih h; omega
theorem mem_totS {l : List (Nat × List Nat)} {x : Nat × List Nat} (h : x ∈ l) : x.2.length ≤ totS l := by
 induction l with
 | nil => simp at h
 | cons a r ih =>
  unfold totS at ih ⊢
  rw [List.map_cons, List.sum_cons]
  rcases List.mem_cons.1 h with rfl | h
  ·
   omega
  ·
   have := ih h; omega
theorem all_merge {Q : Nat → Prop} : ∀ (a b : List (Nat × List Nat)), (∀ p ∈ a, ∀ s ∈ p.2, Q s) → (∀ p ∈ b, ∀ s ∈ p.2, Q s) → ∀ p ∈ mergeP a b, ∀ s ∈ p.2, Q s
 | [], b, _, hb => by simpa [mergeP] using hb
 | c :: cs, [], ha, _ => by simpa [mergeP] using ha
 | c :: cs, p :: ps, ha, hb => by
  rw [mergeP]
  split
  ·
   intro q hq
   rcases List.mem_cons.1 hq with rfl | hq
   ·
    exact ha _ (by simp)
   ·
    exact all_merge cs (p :: ps) (fun x hx => ha x (by simp [hx])) hb q hq
  ·
   intro q hq
   rcases List.mem_cons.1 hq with rfl | hq
   ·
    exact hb _ (by simp)
   ·
    exact all_merge (c :: cs) ps ha (fun x hx => hb x (by simp [hx])) q hq
 termination_by a b => a.length + b.length
theorem all_pairs {Q : Nat → Prop} : ∀ (l : List (Nat × List Nat)), (∀ p ∈ l, ∀ s ∈ p.2, Q s) → ∀ p ∈ pairsP l, ∀ s ∈ p.2, Q s
 | [], _ => by simp [pairsP]
 | [a], _ => by simp [pairsP]
 | a :: b :: r, h => by
  intro q hq s hs
  rw [pairsP] at hq
  rcases List.mem_cons.1 hq with rfl | hq
  ·
   rcases List.mem_append.1 hs with h5 | h5
   ·
    exact h a (by simp) s h5
   ·
    exact h b (by simp) s h5
  ·
   exact all_pairs r (fun x hx => h x (by simp [hx])) q hq s hs
theorem all_level {Q : Nat → Prop} (cs : List (Nat × List Nat)) (h : ∀ p ∈ cs, ∀ s ∈ p.2, Q s) : ∀ k, ∀ p ∈ levelP cs k, ∀ s ∈ p.2, Q s
 | 0 => h
 | k + 1 => all_merge _ _ h (all_pairs _ (all_level cs h k))
theorem tot_coins (cs : List Nat) (b : Nat) (hb : ∀ x ∈ cs, x ≤ b) : ∀ n, n ≤ cs.length → totC (coinsTo cs n) ≤ n * b ∧ totS (coinsTo cs n) ≤ n
 | 0, _ => by simp [coinsTo, totC, totS]
 | n + 1, h => by
  obtain ⟨h1, h2⟩ := tot_coins cs b hb n (by omega)
  have hx : cs.getD n 0 ≤ b := by
   simp only [List.getD, List.getElem?_eq_getElem (show n < cs.length by omega), Option.getD_some]
   exact hb _ (List.getElem_mem _)
  rw [coinsTo_succ, Nat.succ_mul]
  unfold totC totS at *
  rw [List.map_append, List.map_append, List.sum_append, List.sum_append]
  generalize cs.getD n 0 = x at *
  split <;> simp <;> omega
theorem tot_perm {a b : List (Nat × List Nat)} (h : a.Perm b) : totC a = totC b ∧ totS a = totS b := ⟨(h.map _).sum_nat, (h.map _).sum_nat⟩
def vecOf (n : Nat) (l : List (Nat × List Nat)) : List Nat := (List.range n).map fun k => (l.map fun p => p.2.count k).sum
def lenP (n m : Nat) (own : List (Nat × List Nat)) : List Nat := if own.length ≤ 1 then vecOf n own else vecOf n ((levelP own (m - 1)).take (2 * own.length - 2))
end Go.Proofs.Ytnmieihcjjiccaa
namespace Go.Proofs.Ytnmieihcjjiccaa
open Go.RowKit
theorem IB_NI {l : List Int} (h : ∀ x ∈ l, 0 ≤ x) : IB l = NI (l.map Int.toNat) := by
 unfold IB NI
 rw [List.map_map]
 apply List.map_congr_left
 intro x hx
 have := h x hx
 simp
 omega
def cntV (n : Nat) (l : List Nat) : List Nat := (List.range n).map fun k => l.count k
theorem cntV_len (n : Nat) (l : List Nat) : (cntV n l).length = n := by simp [cntV]
theorem cntV_nil (n : Nat) : NI (cntV n []) = (List.replicate n [Value.int .i64 0]).flatten := by
 apply List.ext_getElem?
 intro j
 have e : (List.replicate n [Value.int .i64 0]).flatten = List.replicate n (Value.int .i64 0) := by
  induction n with
  | zero => rfl
  | succ n ih => rw [List.replicate_succ, List.flatten_cons, ih]; rfl
 rw [e]
 simp [NI, cntV, List.getElem?_replicate, List.getElem?_map, List.getElem?_range]
 by_cases h : j < n
 ·
  simp [h]
 ·
  simp [h]
theorem cntV_snoc {n s : Nat} (l : List Nat) (h : s < n) : NI (cntV n (l ++ [s])) = (NI (cntV n l)).set s (.int .i64 ((l.count s + 1 : Nat) : Int)) := by
 apply List.ext_getElem?
 intro j
 by_cases hj : j = s
 ·
  subst hj
  rw [List.getElem?_set_self (by simp [NI, cntV_len, h])]
  simp [NI, cntV, h]
 ·
  rw [List.getElem?_set_ne (Ne.symm hj)]
  simp only [NI, cntV, List.getElem?_map]
  by_cases hn : j < n
  ·
   simp [hn, List.count_append, List.count_singleton, Ne.symm hj]
  ·
   simp [hn]
theorem cntV_cell {w : World} {e n c k : Nat} {ad : Addr} {l : List Nat} (h : Own w e 1 (some ad) n c (NI (cntV n l))) (hk : k < n) : w.cell? (ad.add k) = some (.int .i64 ((l.count k : Nat) : Int)) := by
 obtain ⟨ad', u, hA, hu, hc⟩ := h.rd.at1 hk
 injection hA with hA
 subst hA
 rw [hc]
 simp [NI, cntV, hk] at hu
 rw [← hu]
theorem vecOf_eq (n : Nat) (l : List (Nat × List Nat)) : vecOf n l = cntV n (l.flatMap Prod.snd) := by
 unfold vecOf cntV
 apply List.map_congr_left
 intro k _
 induction l with
 | nil => rfl
 | cons a r ih => rw [List.map_cons, List.sum_cons, ih, List.flatMap_cons, List.count_append]
theorem count_le_tot (l : List (Nat × List Nat)) : (l.flatMap Prod.snd).length = totS l := by
 unfold totS
 induction l with
 | nil => rfl
 | cons a r ih => rw [List.flatMap_cons, List.length_append, ih, List.map_cons, List.sum_cons]
theorem totS_take (l : List (Nat × List Nat)) (n : Nat) : totS (l.take n) ≤ totS l := by
 induction l generalizing n with
 | nil => simp
 | cons a r ih =>
  cases n with
  | zero => simp [totS]
  | succ n =>
   have := ih n
   unfold totS at *
   simp only [List.take_succ_cons, List.map_cons, List.sum_cons]
   omega
set_option maxRecDepth 100000 in
theorem lengths_spec (A : Option Addr) (c0 : Nat) (l : List Int) (m : Int) (w : World) (hl : l.length ≤ 1000000) (hr : Rd w 1 A l.length (IB l)) :
  Calls Try.prog 25 #[.slice A l.length c0, .int .i64 m] w fun e w' => Frm [] w w' ∧
   if ¬ mayB l ∨ m < 1 ∨ 15 < m then e = .returned (.tuple #[.slice none 0 0, .int .i64 ((1 : Nat) : Int)])
   else ∃ own, IsCoins (l.map Int.toNat) own ∧ if 2 ^ m.toNat < own.length then e = .returned (.tuple #[.slice none 0 0, .int .i64 ((8 : Nat) : Int)])
    else ∃ B c, e = .returned (.tuple #[.slice B l.length c, .int .i64 ((0 : Nat) : Int)]) ∧ Own w' 3 1 B l.length c (NI (lenP l.length m.toNat own)) ∧ ∀ x ∈ ob B, w.heap.size ≤ x := by
 refine VC.calls (nt := 89) (res := #[.tmp 4, .tmp 5]) Try.func25 rfl Try.ntmps25 Try.results25 rfl ?_
 refine jS (jR (jA ?_))
 refine Ops.r (v := .int .i64 ((0 : Nat) : Int)) (Run.asg rfl) rfl ?_
 refine jO (jN (jv2 0 1 ?_))
 refine jS (jS ?_)
 refine VC.split1 [(0, _), (1, _)] (js2 rfl rfl) 23 (.bool (decide (¬ mayB l ∨ m < 1 ∨ 15 < m))) ?_ ?_
 ·
  refine jR ?_
  refine jM ?_
  refine Ops.cl (Enters.fn (evs.cons rfl evs.nil) Try.call55) (may_spec A c0 l _ (by omega) hr) rfl ?_
  rintro e _ ⟨rfl, rfl⟩
  refine ⟨_, rfl, ?_⟩
  by_cases hs14 : mayB l
  ·
   refine Ops.r (Run.not rfl) rfl ?_
   refine jM ?_
   refine jG ?_
   refine Ops.rg rfl au (Run.bin rfl rfl (Bin.lss _ 1)) rfl ?_
   by_cases hs18 : m < 1
   ·
    refine Ops.r (Run.pickF rfl rfl au) rfl ?_
    refine jM ?_
    refine jU ?_
    refine jU ?_
    refine Ops.r (Run.pickT rfl rfl au) rfl ?_
    refine jO ?_
    refine jN ⟨(js3 (jC (by simp [*])) rfl rfl), rfl⟩
   ·
    refine Ops.r (Run.pickF rfl rfl au) rfl ?_
    refine jM ?_
    refine jG ?_
    refine Ops.rg rfl au (Run.bin rfl rfl (Bin.gtr _ 15)) rfl ?_
    by_cases hs22 : 15 < m
    ·
     refine Ops.r (Run.pickF rfl rfl au) rfl ?_
     refine jO ?_
     refine jN ⟨(js3 (jC (by simp [*])) rfl rfl), rfl⟩
    ·
     refine Ops.r (Run.pickF rfl rfl au) rfl ?_
     refine jO ?_
     refine jN ⟨(js3 (jC (by simp [*])) rfl rfl), rfl⟩
  ·
   refine Ops.r (Run.not rfl) rfl ?_
   refine jM ?_
   refine jU ?_
   refine jU ?_
   refine Ops.r (Run.pickT rfl rfl au) rfl ?_
   refine jM ?_
   refine jU ?_
   refine jU ?_
   refine Ops.r (Run.pickT rfl rfl au) rfl ?_
   refine jO ?_
   refine jN ⟨(js3 (jC (by simp [*])) rfl rfl), rfl⟩
 ·
  intro Γ hΓ
  refine jN (VC.sub _ hΓ ?_)
  refine VC.condD rfl (fun hc1 => ?_) (fun hc1 => ?_)
  ·
   refine jS (jR (jA ?_))
   refine Ops.r (v := .int .i64 ((1 : Nat) : Int)) (Run.asg rfl) rfl ?_
   refine jO (jN (jv2 4 5 ?_))
   refine jT ?_
   refine thenQ_r (end2 rfl rfl ?_)
   exact ⟨Frm.refl [] w, by rw [if_pos hc1]⟩
  ·
   obtain ⟨m, rfl⟩ : ∃ k : Nat, m = k := ⟨m.toNat, by omega⟩
   have hm1 : 1 ≤ m := by omega
   have hm15 : m ≤ 15 := by omega
   have hmay : mayB l := Classical.not_not.1 (fun h => hc1 (.inl h))
   have hpos : ∀ x ∈ l, 0 ≤ x := fun x hx => (hmay.2 x hx).1
   have hll := hmay.1
   have hin := IB_NI hpos
   generalize hcs : l.map Int.toNat = cs at *
   have hcl : cs.length = l.length := by rw [← hcs, List.length_map]
   have hcx : ∀ x ∈ cs, x ≤ 2147483647 := by
    intro x hx
    rw [← hcs] at hx
    obtain ⟨y, hy, rfl⟩ := List.mem_map.1 hx
    have := hmay.2 y hy
    omega
   rw [hin, ← hcl] at hr
   rw [← hcl]
   refine jQ (jN (jv2 0 1 ?_))
   refine jS (jR (jM ?_))
   refine Ops.cl (Enters.fn (evs.cons rfl evs.nil) Try.call56) (sorted_spec A c0 cs _ (by omega) hcx hr) rfl ?_
   rintro e w1 ⟨B1, c1, ps, rfl, hP1, hco, hf1, hu1⟩
   refine ⟨_, rfl, ?_⟩
   have hpl : ps.length ≤ 320 := by
    have h5 := hco.1.length_eq
    rw [List.length_map] at h5
    rw [h5]
    unfold coinsTo
    rw [List.length_map]
    exact Nat.le_trans (List.length_filter_le _ _) (by simp; omega)
   have hpw : 2 ^ m ≤ 2 ^ 15 := Nat.pow_le_pow_right (by omega) hm15
   refine jA ?_
   refine jO (jN (jv3 0 1 6 ?_))
   refine jS (jR (jM ?_))
   refine Ops.r (Run.lenS rfl Try.underlying38) rfl ?_
   refine Ops.m (Does.makeS rfl rfl Try.underlying38 (info3) rfl (by omega) (by omega)) rfl ?_
   rintro _ w2 ⟨rfl, ho2, hf2, hs2⟩
   have hP2 := hP1.frm hf2 (by simp) (fun _ _ _ _ => by simp)
   have hfr2 := hf1.own hf2 (by simp)
   have hgo := hf1.size
   generalize hgo2 : w1.heap.size = go at *
   refine jA ?_
   refine jO (jN (jv3 1 6 7 ?_))
   refine jS (jB (jS (jR (jM ?_))))
   refine Ops.r (Run.lenS rfl Try.underlying103) rfl ?_
   refine jM ?_
   refine Ops.r (Run.bin rfl rfl (Bin.shl_i64 1 m (by omega) (by omega))) rfl ?_
   refine Ops.r (Run.bin rfl rfl (Bin.gtr _ _)) rfl ?_
   refine jA ?_
   refine jO (jN (jv4 1 6 7 29 ?_))
   refine VC.condD rfl (fun hc2 => ?_) (fun hc2 => ?_)
   ·
    rw [Nat.one_mul] at hc2
    have hc2n : 2 ^ m < ps.length := Int.ofNat_lt.1 hc2
    refine jS (jR (jA ?_))
    refine Ops.r (v := .int .i64 ((8 : Nat) : Int)) (Run.asg rfl) rfl ?_
    refine jO (jN (jv2 4 5 ?_))
    refine jT ?_
    refine blockQ_r (thenQ_r (end2 rfl rfl ?_))
    refine ⟨hfr2, ?_⟩
    rw [if_neg hc1]
    refine ⟨_, hco, ?_⟩
    rw [Int.toNat_natCast, List.length_map, if_pos hc2n]
   ·
    have hc2n : ¬ 2 ^ m < ps.length := fun h => hc2 (by rw [Nat.one_mul]; exact Int.ofNat_lt.2 h)
    refine jS (jR (jM ?_))
    refine Ops.r (Run.lenS rfl Try.underlying103) rfl ?_
    refine Ops.r (Run.bin rfl rfl (Bin.eqlN _ 1)) rfl ?_
    refine jA ?_
    refine jO (jN (jv4 1 6 7 35 ?_))
    refine VC.condD rfl (fun hc3 => ?_) (fun hc3 => ?_)
    ·
     obtain ⟨p, rfl⟩ : ∃ p, ps = [p] := by
      match ps, hc3 with
      | [p], _ => exact ⟨p, rfl⟩
     obtain ⟨k, hk, hk0, hpe⟩ := coinsTo_mem (hco.1.mem_iff.1 (List.mem_map_of_mem (f := PkC.abs) (List.mem_singleton.2 rfl)))
     have hsy : p.sy = [k] := congrArg Prod.snd hpe
     obtain ⟨ad, rfl, hea⟩ := hP2.1.rd.elem (k := 0) (by simp)
     rw [flat_get PkC.cells 2 PkC.cells_len [p] 0 (by simp)] at hea
     have hpo := hP2.2 p (by simp)
     unfold PkOk at hpo
     obtain ⟨ai, hai, hci⟩ := NI_at hpo.rd (k := 0) (by rw [hsy]; simp)
     have hci2 : w2.cell? (ai.add 0) = some (.int .i64 ((k : Nat) : Int)) := by rw [hci]; simp [hsy]
     have h1i : (PkC.cells p)[1]? = some (.slice (some ai) 1 p.c) := by simp [PkC.cells, hai, hsy]
     have hl1 : [p].length = 1 := rfl
     rw [hl1]
     refine jS (jR (jM ?_))
     refine jM ?_
     refine Ops.r (Run.indexS 0 rfl rfl Try.underlying103 Try.sizeOf106 (by omega)) rfl ?_
     refine Ops.r (Run.fieldAddr rfl Try.underlying106 rfl Try.sizeOf38 (by decide)) rfl ?_
     refine Ops.r (Run.load rfl Try.isAgg38 (hea 1 _ h1i)) rfl ?_
     refine Ops.r (Run.index1 0 rfl rfl Try.underlying38 Try.sizeOf3 (by omega)) rfl ?_
     refine Ops.r (Run.load rfl Try.isAgg3 hci2) rfl ?_
     refine Ops.r (Run.index1 _ rfl rfl Try.underlying38 Try.sizeOf3 (by omega)) rfl ?_
     refine Ops.st (Acts.storeOwn k rfl rfl Try.sizeOf3 ho2 rfl (by omega) rfl) ?_
     rintro w3 ⟨ho3, hf3, hs3⟩
     refine jO (jN (jv1 7 ?_))
     refine jS (jR (jM ?_))
     refine jA ?_
     refine Ops.r (v := .int .i64 ((0 : Nat) : Int)) (Run.asg rfl) rfl ?_
     refine jO (jN (jv2 4 5 ?_))
     refine jT ?_
     refine blockQ_r (thenQ_r (end2 rfl rfl ?_))
     refine ⟨hfr2.own hf3 (fun x hx => by simp [ob] at hx; omega), ?_⟩
     rw [if_neg hc1]
     refine ⟨_, hco, ?_⟩
     rw [Int.toNat_natCast, List.length_map, if_neg hc2n]
     refine ⟨_, _, rfl, ?_, fun x hx => ?_⟩
     ·
      have h5 : lenP cs.length m ([p].map PkC.abs) = cntV cs.length ([] ++ [k]) := by
       unfold lenP
       rw [if_pos (show ([p].map PkC.abs).length ≤ 1 from Nat.le_refl 1), vecOf_eq]
       simp [PkC.abs, hsy]
      have h6 : (List.replicate cs.length (Value.int .i64 0).cells.toList).flatten = NI (cntV cs.length []) := (cntV_nil _).symm
      rw [h5, cntV_snoc [] hk]
      rw [h6] at ho3
      exact ho3
     ·
      simp [ob] at hx
      omega
    ·
     refine jS (jR (jM ?_))
     refine Ops.r (Run.lenS rfl Try.underlying103) rfl ?_
     refine Ops.r (Run.bin rfl rfl (Bin.eqlN _ 0)) rfl ?_
     refine jA ?_
     refine jO (jN (jv4 1 6 7 48 ?_))
     refine VC.condD rfl (fun hc4 => ?_) (fun hc4 => ?_)
     ·
      refine jS (jR (jM ?_))
      refine jA ?_
      refine Ops.r (v := .int .i64 ((0 : Nat) : Int)) (Run.asg rfl) rfl ?_
      refine jO (jN (jv2 4 5 ?_))
      refine jT ?_
      refine blockQ_r (thenQ_r (end2 rfl rfl ?_))
      refine ⟨hfr2, ?_⟩
      rw [if_neg hc1]
      refine ⟨_, hco, ?_⟩
      rw [Int.toNat_natCast, List.length_map, if_neg hc2n]
      refine ⟨_, _, rfl, ?_, fun x hx => ?_⟩
      ·
       have hpn : ps = [] := List.eq_nil_of_length_eq_zero hc4
       have h5 : lenP cs.length m (ps.map PkC.abs) = cntV cs.length [] := by
        unfold lenP
        rw [if_pos (by simp [hpn]), vecOf_eq, hpn]
        rfl
       have h6 : (List.replicate cs.length (Value.int .i64 0).cells.toList).flatten = NI (cntV cs.length []) := (cntV_nil _).symm
       rw [h5, ← h6]
       exact ho2
      ·
       simp [ob] at hx
       omega
     ·
      have hn2 : 2 ≤ ps.length := by omega
      have hown : ps.map PkC.abs = levelP (ps.map PkC.abs) 0 := rfl
      have htc := tot_coins cs 2147483647 hcx cs.length (Nat.le_refl _)
      have htp := tot_perm hco.1
      have htm : cs.length * 2147483647 ≤ 320 * 2147483647 := Nat.mul_le_mul_right _ (by omega)
      have htC : totC (ps.map PkC.abs) ≤ 320 * 2147483647 := by omega
      have htS : totS (ps.map PkC.abs) ≤ 320 := by omega
      have hpg0 : ∀ p ∈ ps, ∀ x ∈ ob p.A, x ≠ go := fun p hp x hx => by
       have h5 := (hP1.2 p hp).lt x hx
       omega
      have hsy : ∀ k, ∀ p ∈ levelP (ps.map PkC.abs) k, ∀ s ∈ p.2, s < cs.length := all_level _ (fun p hp s hs => by
       obtain ⟨j, hj, _, rfl⟩ := coinsTo_mem (hco.1.mem_iff.1 hp)
       simp at hs
       omega)
      refine jQ ?_
      refine blockQ_n (jN ?_)
      refine jv3 1 6 7 ?_
      refine jS (jR (jM ?_))
      refine jA ?_
      refine jO (jN (jv4 1 6 7 8 ?_))
      refine jS (jS (jR (jM ?_)))
      refine Ops.r (Run.bin rfl rfl (Bin.sub_i64 _ 1 (by omega) (by omega))) rfl ?_
      refine Ops.r (v := .int .i64 ((0 : Nat) : Int)) (Run.mv rfl) rfl ?_
      refine jO (jN (jv5 6 7 8 55 56 ?_))
      refine jB ?_
      refine VC.loop (σ := Nat × Option Addr × Nat × List PkC) (fun s => [(6, .slice B1 ps.length c1), (7, .slice (some ⟨go, 0, none⟩) cs.length cs.length), (8, .slice s.2.1 s.2.2.2.length s.2.2.1), (55, .int .i64 ((m - 1 : Nat) : Int)), (56, .int .i64 ((s.1 : Nat) : Int))]) (fun s wr => s.1 ≤ m - 1 ∧ s.2.2.2.map PkC.abs = levelP (ps.map PkC.abs) s.1 ∧ Pks wr s.2.1 s.2.2.1 s.2.2.2 ∧ Pks wr B1 c1 ps ∧ Own wr 3 1 (some ⟨go, 0, none⟩) cs.length cs.length (List.replicate cs.length [Value.int .i64 0]).flatten ∧ Frm [] w wr ∧ ∀ p ∈ s.2.2.2, ∀ x ∈ ob p.A, x ≠ go) (fun s => m - 1 - s.1) (0, B1, c1, ps) (js5 rfl rfl rfl rfl rfl) ⟨by omega, rfl, hP2, hP2, ho2, hfr2, hpg0⟩ ?_
      rintro ⟨k, Bk, ck, lst⟩ wr ⟨hk, hlv, hPk, hPo, hoo, hfr, hpg⟩
      dsimp only at hk hlv hPk hPo hoo hfr hpg ⊢
      have hlen := (level_len (ps.map PkC.abs) k).1
      rw [← hlv, List.length_map, List.length_map] at hlen
      have hgw : go < wr.heap.size := hoo.lt go (by simp [ob])
      refine jS (jR ?_)
      refine Ops.r (Run.bin rfl rfl (Bin.lss _ _)) rfl ?_
      refine jO (jN (jS ?_))
      refine VC.condD rfl (fun hc5 => ?_) (fun hc5 => ?_)
      ·
       have hbd : ∀ p ∈ lst, p.count ≤ 2305843009213693951 ∧ p.sy.length ≤ 100000 := by
        intro p hp
        have h5 : p.abs ∈ levelP (ps.map PkC.abs) k := by rw [← hlv]; exact List.mem_map_of_mem hp
        have h6 : p.count ≤ _ := mem_totC h5
        have h7 : p.sy.length ≤ _ := mem_totS h5
        have h8 := level_totC (ps.map PkC.abs) k
        have h9 := level_totS (ps.map PkC.abs) k
        have h10 : (k + 1) * totC (ps.map PkC.abs) ≤ 16 * (320 * 2147483647) := Nat.mul_le_mul (by omega) htC
        have h11 : (k + 1) * totS (ps.map PkC.abs) ≤ 16 * 320 := Nat.mul_le_mul (by omega) htS
        exact ⟨by omega, by omega⟩
       refine jQ (jN (jv5 6 7 8 55 56 ?_))
       refine jS (jB (jR (jM ?_)))
       refine jM ?_
       refine Ops.cl (Enters.fn (evs.cons rfl (evs.cons rfl evs.nil)) Try.call57) (merged_spec B1 Bk c1 ck ps lst _ hPo.1.rd hPo.2 hPk.1.rd hPk.2 hPo.1.le (by omega) (by omega) hbd (fun x => x ≠ go) (fun x hx => by omega) hpg0) rfl ?_
       rintro e w5 ⟨B5, c5, qs, rfl, hP5, hq5, hf5, hu5, hg5⟩
       refine ⟨_, rfl, ?_⟩
       refine jA ?_
       refine jO ?_
       refine blockQ_n (jN ?_)
       refine jv5 6 7 8 55 56 ?_
       refine jR ?_
       refine Ops.r (Run.bin rfl rfl (Bin.add_i64 _ 1 (by omega))) rfl ?_
       refine jM ?_
       refine jO ?_
       refine jN ⟨(k + 1, B5, c5, qs), (js5 rfl rfl rfl rfl rfl), ?_, ?_⟩
       ·
        exact ⟨by dsimp only; omega, by dsimp only; rw [hq5, hlv]; rfl, hP5, hPo.frm hf5 (by simp) (fun _ _ _ _ => by simp), hoo.frm hf5 (by simp), hfr.own hf5 (by simp), hg5⟩
       ·
        first | omega | (dsimp only; omega)
      ·
       have hkm : k = m - 1 := by omega
       subst hkm
       have hen := level_enough (ps.map PkC.abs) (m - 1) (by rw [List.length_map, show m - 1 + 1 = m by omega]; omega)
       rw [← hlv, List.length_map, List.length_map] at hen
       have hcc := hPk.1.le
       rw [← cntV_nil] at hoo
       have hall : ∀ i, i ≤ lst.length → ((lst.take i).flatMap PkC.sy).length ≤ 16 * 320 := by
        intro i _
        have h8 := level_totS (ps.map PkC.abs) (m - 1)
        have h9 : (m - 1 + 1) * totS (ps.map PkC.abs) ≤ 16 * 320 := Nat.mul_le_mul (by omega) htS
        have h10 := totS_take (lst.map PkC.abs) i
        rw [← count_le_tot, ← List.map_take, List.flatMap_map, hlv] at h10
        exact Nat.le_trans h10 (Nat.le_trans h8 h9)
       have hsyl : ∀ p ∈ lst, ∀ s ∈ p.sy, s < cs.length := fun p hp s hs => hsy (m - 1) p.abs (by rw [← hlv]; exact List.mem_map_of_mem hp) s hs
       refine jX ?_
       refine thenQ_x (thenQ_x (blockQ_x ?_))
       refine jN (jv3 6 7 8 ?_)
       refine jS (jS (jR (jM ?_)))
       refine jM ?_
       refine Ops.r (Run.lenS rfl Try.underlying103) rfl ?_
       refine Ops.r (Run.bin rfl rfl (Bin.mul_i64 2 _ (by omega))) rfl ?_
       refine Ops.r (Run.bin rfl rfl (Bin.sub_i64 _ 2 (by omega) (by omega))) rfl ?_
       refine Ops.r (Run.sliceS 0 _ rfl Try.underlying103 Try.sizeOf106 evB.none_ (evB.some_ rfl) (by omega) (by omega)) rfl ?_
       rw [cutA_zero, Nat.sub_zero, Nat.sub_zero]
       refine Ops.r (Run.lenS rfl Try.underlying103) rfl ?_
       refine Ops.r (v := .int .i64 ((0 : Nat) : Int)) (Run.mv rfl) rfl ?_
       refine jO (jN (jv4 7 67 68 69 ?_))
       refine jB ?_
       refine VC.loop (σ := Nat) (fun s => [(7, .slice (some ⟨go, 0, none⟩) cs.length cs.length), (67, .slice Bk (2 * ps.length - 2) ck), (68, .int .i64 ((2 * ps.length - 2 : Nat) : Int)), (69, .int .i64 ((s : Nat) : Int))]) (fun s wr => s ≤ 2 * ps.length - 2 ∧ Pks wr Bk ck lst ∧ Own wr 3 1 (some ⟨go, 0, none⟩) cs.length cs.length (NI (cntV cs.length ((lst.take s).flatMap PkC.sy))) ∧ Frm [] w wr) (fun s => 2 * ps.length - 2 - s) 0 (js4 rfl rfl rfl rfl) ⟨by omega, hPk, by simpa using hoo, hfr⟩ ?_
       clear hPk hoo hfr hgw
       rintro i w5 ⟨hi, hPk, hoo, hfr⟩
       refine jS (jR ?_)
       refine Ops.r (Run.bin rfl rfl (Bin.lssN _ _)) rfl ?_
       refine jO (jN (jS ?_))
       refine VC.condD rfl (fun hc6 => ?_) (fun hc6 => ?_)
       ·
        have hil : i < lst.length := by omega
        obtain ⟨ad, rfl, hea⟩ := hPk.1.rd.elem (k := i) hil
        rw [flat_get PkC.cells 2 PkC.cells_len lst i hil] at hea
        have hpok := hPk.2 lst[i] (List.getElem_mem _)
        have hpgi := hpg lst[i] (List.getElem_mem _)
        have hpsy := hsyl lst[i] (List.getElem_mem _)
        have htk : lst.take (i + 1) = lst.take i ++ [lst[i]] := by rw [List.take_add_one, List.getElem?_eq_getElem hil]; rfl
        have hfl := hall (i + 1) hil
        rw [htk, List.flatMap_append] at hfl
        simp only [List.flatMap_cons, List.flatMap_nil, List.append_nil, List.length_append] at hfl
        generalize lst[i] = p at *
        refine jQ (jN (jv4 7 67 68 69 ?_))
        refine jS (jB (jS (jR ?_)))
        refine Ops.r (Run.indexS _ rfl rfl Try.underlying103 Try.sizeOf106 (by omega)) rfl ?_
        refine Ops.r (Run.loadA rfl Try.isAgg106 Try.sizeOf106 hea (by first | rfl | (simp; done))) rfl ?_
        refine Ops.m (Does.alloc zero106) rfl ?_
        rintro _ w6 ⟨rfl, hF6⟩
        refine Ops.st (Acts.storeA rfl rfl Try.sizeOf106 hF6.blk rfl p.one) ?_
        rintro w7 ⟨hb7, hf7, hs7⟩
        have h74 : w7.cell? ((⟨w5.heap.size, 0, none⟩ : Addr).add 1) = some (.slice p.A p.sy.length p.c) := by rw [add_mk, hb7.cell]; rfl
        have hf67 : Frm [] w5 w7 := hF6.frm.own hf7 (by simp)
        refine jO (jN (jv5 7 10 67 68 69 ?_))
        refine jS (jR ?_)
        refine Ops.r (Run.fieldAddr rfl Try.underlying106 rfl Try.sizeOf38 (by decide)) rfl ?_
        refine Ops.r (Run.load rfl Try.isAgg38 h74) rfl ?_
        refine Ops.r (Run.lenS rfl Try.underlying38) rfl ?_
        refine Ops.r (v := .int .i64 ((0 : Nat) : Int)) (Run.mv rfl) rfl ?_
        refine jO (jN (jv7 7 67 68 69 74 75 76 ?_))
        refine jB ?_
        refine VC.loop (σ := Nat) (fun s => [(7, .slice (some ⟨go, 0, none⟩) cs.length cs.length), (67, .slice (some ad) (2 * ps.length - 2) ck), (68, .int .i64 ((2 * ps.length - 2 : Nat) : Int)), (69, .int .i64 ((i : Nat) : Int)), (74, .slice p.A p.sy.length p.c), (75, .int .i64 ((p.sy.length : Nat) : Int)), (76, .int .i64 ((s : Nat) : Int))]) (fun s wr => s ≤ p.sy.length ∧ Pks wr (some ad) ck lst ∧ PkOk wr p ∧ Own wr 3 1 (some ⟨go, 0, none⟩) cs.length cs.length (NI (cntV cs.length ((lst.take i).flatMap PkC.sy ++ p.sy.take s))) ∧ Frm [] w wr) (fun s => p.sy.length - s) 0 (js7 rfl rfl rfl rfl rfl rfl rfl) ⟨by omega, hPk.frm hf67 (by simp) (fun _ _ _ _ => by simp), hpok.frm hf67 (by simp), by simpa using hoo.frm hf67 (by simp), hfr.own hf67 (by simp)⟩ ?_
        clear hPk hoo hfr hpok hea
        rintro j w8 ⟨hj, hPk, hpok, hoo, hfr⟩
        refine jS (jR ?_)
        refine Ops.r (Run.bin rfl rfl (Bin.lssN _ _)) rfl ?_
        refine jO (jN (jS ?_))
        refine VC.condD rfl (fun hc7 => ?_) (fun hc7 => ?_)
        ·
         obtain ⟨ai, hai, hci⟩ := NI_at (Own.rd hpok) hc7
         have hsn := hpsy p.sy[j] (List.getElem_mem _)
         have hct := cntV_cell hoo hsn
         have htk2 : p.sy.take (j + 1) = p.sy.take j ++ [p.sy[j]] := by rw [List.take_add_one, List.getElem?_eq_getElem hc7]; rfl
         have hcl2 : ((lst.take i).flatMap PkC.sy ++ p.sy.take j).count p.sy[j] ≤ 5120 := by
          refine Nat.le_trans List.count_le_length ?_
          rw [List.length_append, List.length_take]
          omega
         have hsl : p.A = some ai := hai
         generalize p.sy[j] = sj at *
         rw [hsl]
         refine jQ (jN (jv7 7 67 68 69 74 75 76 ?_))
         refine jS (jB (jS (jR ?_)))
         refine Ops.r (Run.index1 _ rfl rfl Try.underlying38 Try.sizeOf3 (by omega)) rfl ?_
         refine Ops.r (Run.load rfl Try.isAgg3 hci) rfl ?_
         refine jA ?_
         refine jO (jN (jv8 7 12 67 68 69 74 75 76 ?_))
         refine jR (jM ?_)
         refine jM ?_
         refine Ops.r (Run.index1 _ rfl rfl Try.underlying38 Try.sizeOf3 (by omega)) rfl ?_
         refine Ops.r (Run.load rfl Try.isAgg3 hct) rfl ?_
         refine Ops.r (Run.bin rfl rfl (Bin.add_i64 _ 1 (by omega))) rfl ?_
         refine Ops.r (Run.index1 _ rfl rfl Try.underlying38 Try.sizeOf3 (by omega)) rfl ?_
         refine Ops.st (Acts.storeOwn sj rfl rfl Try.sizeOf3 hoo rfl (by omega) rfl) ?_
         rintro w9 ⟨ho9, hf9, hs9⟩
         rw [← cntV_snoc _ hsn, List.append_assoc, ← htk2] at ho9
         refine jO ?_
         refine blockQ_n (jN ?_)
         refine jv7 7 67 68 69 74 75 76 ?_
         refine jR ?_
         refine Ops.r (Run.bin rfl rfl (Bin.add_i64 _ 1 (by omega))) rfl ?_
         refine jM ?_
         refine jO ?_
         refine jN ⟨(j + 1), (js7 rfl rfl rfl rfl (by rw [← hsl]; rfl) rfl rfl), ?_, ?_⟩
         ·
          refine ⟨hc7, hPk.frm hf9 (hPk.1.ne_own hoo (by decide)) (fun q hq x hx => by simp [ob]; exact hpg q hq x hx), hpok.frm hf9 (fun x hx => by simp [ob]; exact hpgi x hx), ho9, hfr.own hf9 (fun x hx => ?_)⟩
          simp [ob] at hx
          omega
         ·
          first | omega | (dsimp only; omega)
        ·
         have hjl : j = p.sy.length := by omega
         subst hjl
         rw [List.take_length] at hoo
         refine jX ?_
         refine thenQ_x (thenQ_x (blockQ_x ?_))
         refine blockQ_n (jN ?_)
         refine jv4 7 67 68 69 ?_
         refine jR ?_
         refine Ops.r (Run.bin rfl rfl (Bin.add_i64 _ 1 (by omega))) rfl ?_
         refine jM ?_
         refine jO ?_
         refine jN ⟨(i + 1), (js4 rfl rfl rfl rfl), ?_, ?_⟩
         ·
          refine ⟨by omega, hPk, ?_, hfr⟩
          rw [htk, List.flatMap_append]
          simpa using hoo
         ·
          first | omega | (dsimp only; omega)
       ·
        have hin2 : i = 2 * ps.length - 2 := by omega
        subst hin2
        refine jX ?_
        refine thenQ_x (thenQ_x (blockQ_x ?_))
        refine jN (jv1 7 ?_)
        refine jS (jR (jM ?_))
        refine jA ?_
        refine Ops.r (v := .int .i64 ((0 : Nat) : Int)) (Run.asg rfl) rfl ?_
        refine jO (jN (jv2 4 5 ?_))
        refine jT ?_
        refine end2 rfl rfl ?_
        refine ⟨hfr, ?_⟩
        rw [if_neg hc1]
        refine ⟨_, hco, ?_⟩
        rw [Int.toNat_natCast, List.length_map, if_neg hc2n]
        refine ⟨_, _, rfl, ?_, fun x hx => ?_⟩
        ·
         have h5 : lenP cs.length m (ps.map PkC.abs) = cntV cs.length ((lst.take (2 * ps.length - 2)).flatMap PkC.sy) := by
          unfold lenP
          rw [if_neg (by rw [List.length_map]; omega), vecOf_eq, ← hlv, List.length_map, ← List.map_take, List.flatMap_map]
          rfl
         rw [h5]
         exact hoo
        ·
         simp [ob] at hx
         omega
end Go.Proofs.Ytnmieihcjjiccaa
namespace Go.Proofs.Ytnmieihcjjiccaa
open Go.RowKit
theorem coins_unique {cs : List Nat} {a b : List (Nat × List Nat)} (ha : IsCoins cs a) (hb : IsCoins cs b) : a = b := by
 have hp : a.Perm b := ha.1.trans hb.1.symm
 have : ∀ (a b : List (Nat × List Nat)), a.Perm b → a.Pairwise (fun a b => keyA a < keyA b) → b.Pairwise (fun a b => keyA a < keyA b) → a = b := by
  intro a
  induction a with
  | nil => intro b h _ _; exact (List.Perm.nil_eq h)
  | cons x r ih =>
   intro b h h1 h2
   cases b with
   | nil => exact absurd h.length_eq (by simp)
   | cons y t =>
    have hxy : x = y := by
     rcases List.mem_cons.1 (h.mem_iff.1 (List.mem_cons_self : x ∈ x :: r)) with h3 | h3
     ·
      exact h3
     ·
      rcases List.mem_cons.1 (h.symm.mem_iff.1 (List.mem_cons_self : y ∈ y :: t)) with h4 | h4
      ·
       exact h4.symm
      ·
       have h5 := (List.pairwise_cons.1 h1).1 _ h4
       have h6 := (List.pairwise_cons.1 h2).1 _ h3
       omega
    subst hxy
    rw [ih t (List.Perm.cons_inv h) (List.pairwise_cons.1 h1).2 (List.pairwise_cons.1 h2).2]
 exact this a b hp ha.2 hb.2
def okC (a b : List Int) (i : Nat) : Prop := (mayB a ∧ a.length = b.length) ∧ ∀ x ∈ b.take i, 0 ≤ x ∧ x ≤ 15
instance (a b : List Int) (i : Nat) : Decidable (okC a b i) := by unfold okC; infer_instance
end Go.Proofs.Ytnmieihcjjiccaa
