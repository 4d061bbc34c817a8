/-
  Lemmas on the way, joined: SegY, SegLB, SegLO, SegHP, SegHW.
-/
import Derived.Test.YtndjgmbfkkgpdaaGreatPk4
set_option maxRecDepth 100000
set_option linter.unusedVariables false
set_option linter.unusedSimpArgs false
namespace Go.Proofs.YtndjgmbfkkgpdaaGreat
section
open Go.RowKit
structure RdB0 (w : World) (A : Option Addr) (n c : Nat) (l : List Bl) : Prop where
 len : l.length = n
 le : n ≤ c
 rd : Rd w 2 A n (BC l)
 el : ∀ x ∈ l, x.d.length ≤ x.c ∧ x.d.length ≤ 9223372036854775807 ∧ x.id < 18446744073709551616 ∧ (∀ b ∈ x.d, b < 256) ∧ Rd w 1 x.A x.d.length (NB x.d)
theorem RdB0.frm {w w' : World} {A : Option Addr} {n c : Nat} {l : List Bl} (h : RdB0 w A n c l) (k : Frm [] w w') : RdB0 w' A n c l := ⟨h.len, h.le, h.rd.frm k jp, fun x hx => by
 obtain ⟨h1, h2, h3, h4, h5⟩ := h.el x hx
 exact ⟨h1, h2, h3, h4, h5.frm k jp⟩⟩
theorem RdB0.cell {w : World} {A : Option Addr} {n c : Nat} {l : List Bl} (h : RdB0 w A n c l) {i : Nat} (hi : i < n) : ∃ ad, A = some ad ∧ ∀ j v, (blC (l.getD i bl0))[j]? = some v → w.cell? ((ad.add (i * 2)).add j) = some v := by
 obtain ⟨ad, h1, hel⟩ := h.rd.elem hi
 rw [qZq l i (by rw [h.len]; exact hi)] at hel
 exact ⟨ad, h1, hel⟩
theorem qKz : ∀ (l : List Bl) (k : Nat), (BC l).take (k * 2) = BC (l.take k)
 | l, 0 => by simp [BC]
 | [], k + 1 => by simp [BC]
 | x :: l, k + 1 => by
  rw [show BC (x :: l) = blC x ++ BC l from rfl, show (k + 1) * 2 = (blC x).length + k * 2 by rw [qKu]; omega, List.take_length_add_append, qKz l k]
  rfl
theorem RdB0.cut {w : World} {A : Option Addr} {n c k : Nat} {l : List Bl} (h : RdB0 w A n c l) (hk : k ≤ n) : RdB0 w (cP A c 0 2) (k - 0) (c - 0) (l.take k) := by
 refine ⟨by rw [zi, h.len]; omega, by have := h.le; omega, ?_, fun x hx => h.el x (zag hx)⟩
 have h1 := h.rd.cut (l := 0) (r := k) (cap := c) jo hk h.le
 rw [zff, zcd, zcn, qKz] at h1
 exact h1
def qZy (w : World) (x : Bl) : Prop := x.d.length ≤ 4033 ∧ x.d.length ≤ x.c ∧ x.id < 18446744073709551616 ∧ (∀ b ∈ x.d, b < 256) ∧ Rd w 1 x.A x.d.length (NB x.d)
theorem qZy.frm {w w' : World} {x : Bl} (h : qZy w x) (k : Frm [] w w') : qZy w' x := by
 obtain ⟨h1, h2, h3, h4, h5⟩ := h
 exact ⟨h1, h2, h3, h4, h5.frm k jp⟩
def yY (w : World) (x : Bl) : Prop := x.d.length ≤ 4033 ∧ x.id < 18446744073709551616 ∧ (∀ b ∈ x.d, b < 256) ∧ Own w 5 1 x.A x.d.length x.c (NB x.d)
theorem yY.frm {w w' : World} {S : List Nat} {x : Bl} (h : yY w x) (k : Frm S w w') (hS : ∀ y ∈ ob x.A, y ∉ S) : yY w' x := by
 obtain ⟨h1, h2, h3, h4⟩ := h
 exact ⟨h1, h2, h3, h4.frm k hS⟩
theorem qNx {w : World} {A : Option Addr} {c : Nat} {d : List Nat} (h : Rd w 1 A d.length (NB d)) (hc : d.length ≤ c) (k : Nat) (hk : k ≤ d.length) : Rd w 1 (cP A c 0 1) (d.take k).length (NB (d.take k)) := by
 have h1 := oF d 0 k jo h hc
 rw [zcd] at h1
 exact h1
theorem qWl (A : Option Addr) (n c : Nat) (l : List Bl) (w : World) (hn : n ≤ 9223372036854775807) (hr : RdB0 w A n c l) :
  Calls Tryz.prog 6 #[.slice A n c] w fun e w' => ∃ A' n' c' l', e = .returned (.slice A' n' c') ∧ n' ≤ 66 ∧ RdB w' A' n' l' ∧ Frm [] w w' := by
 have K := Frm.refl [] w
 have hnc := hr.le
 refine VC.calls (nt := 58) (res := #[.tmp 2]) Tryz.func6 rfl Tryz.ntmps6 Tryz.results6 rfl ?_
 refine jS (jR (ja rfl (jO (jN (jv1 0 ?_)))))
 refine jS (jS (jR (jm rfl (je (Run.lenS rfl zai) (jb rfl rfl (Bin.gtrN _ 66) (jO (jN (jv2 0 9 ?_))))))))
 refine VC.meet (σ := Option Addr × Nat × Nat × List Bl) (fun s => [(0, .slice s.1 s.2.1 s.2.2.1)]) (fun s wz => s.2.1 ≤ 66 ∧ RdB0 w s.1 s.2.1 s.2.2.1 s.2.2.2 ∧ w = wz) ?_ ?_
 ·
  refine jD rfl (fun hc1 => ?_) fun hc1 => ?_
  ·
   refine jR (jm rfl (je (Run.sliceS 0 66 rfl zai zbw evB.none_ (evB.some_ rfl) jo jo) (ja rfl (jO ?_))))
   refine jN ⟨(cP A c 0 2, 66 - 0, c - 0, l.take 66), (js1 rfl), ?_⟩
   exact ⟨by dsimp only; omega, hr.cut jo, rfl⟩
  refine jQ ?_
  refine jN ⟨(A, n, c, l), (js1 rfl), ?_⟩
  exact ⟨by dsimp only; omega, hr, rfl⟩
 rintro ⟨A1, n1, c1, l1⟩ _ ⟨hn1, hr1, rfl⟩ Γ hΓ
 dsimp only at *
 have hle1 := hr.le
 refine jN (VC.sub _ hΓ (jS (jR (ja rfl (jO (jN (jS (jR (jz 0 (jO (jN (jS (jS (jR (jz 0 (jO (jN (jB ?_))))))))))))))))))
 refine VC.loop (σ := Nat × Nat × Option Addr × Nat × List Bl) (fun s => [(0, .slice A1 n1 c1), (3, .slice s.2.2.1 s.1 s.2.2.2.1), (4, .int .i64 ((s.2.1 : Nat) : Int)), (5, .int .i64 ((s.1 : Nat) : Int))]) (fun s wr => s.1 ≤ n1 ∧ s.2.1 ≤ 4033 * s.1 ∧ s.2.2.2.2.length = s.1 ∧ Own wr 41 2 s.2.2.1 s.1 s.2.2.2.1 (BC s.2.2.2.2) ∧ (∀ x ∈ s.2.2.2.2, yY wr x) ∧ Frm [] w wr ∧ ∀ x ∈ ob s.2.2.1, w.heap.size ≤ x) (fun s => n1 - s.1) (0, 0, none, 0, []) (js4 rfl rfl rfl rfl) ⟨zas _, zk _, rfl, Own.nil _ _ _, jp, K, by simp [ob]⟩ ?_
 rintro ⟨i, all, B, m, lo⟩ wr ⟨hi, hall, hlo, ho, hfe, K, hob⟩
 dsimp only at *
 refine jS (jS (jR (jm rfl (jm rfl (je (Run.lenS rfl zai) (jb rfl rfl (Bin.lssN _ _) (jO (jN (jv5 0 3 4 5 15 ?_)))))))))
 refine jD rfl (fun hc2 => ?_) fun hc2 => ?_
 ·
  have hrw := hr1.frm K
  have hle66 : i < l1.length := by rw [hr1.len]; exact hc2
  obtain ⟨h1e, h2e, h3e, h4e, h5e⟩ := hrw.el _ (jF hle66)
  obtain ⟨ad, hA, hel⟩ := hrw.cell hc2
  subst hA
  generalize l1.getD i bl0 = x at h1e h2e h3e h4e h5e hel
  refine jQ (jN (jv4 0 3 4 5 ?_))
  refine jS (jB (jS (jR (jm rfl (jm rfl (je (Run.indexS _ rfl rfl zai zbw jo) (je (Run.loadA rfl Tryz.isAgg41 zbw hel (by first | rfl | (simp; done))) ?_)))))))
  refine Ops.m (qJ.alloc gY) rfl ?_
  rintro _ w1 ⟨rfl, hF1⟩
  refine Ops.st (qR.storeA rfl rfl zbw hF1.blk rfl (by intro v hv; exact BC_one [x] v (by simpa [BC] using hv))) ?_
  rintro w2 ⟨hb2, hf2, hs2⟩
  have hb2 : Blk w2 wr.heap.size 41 #[.int .u64 ((x.id : Nat) : Int), .slice x.A x.d.length x.c] := hb2
  have KZ : Frm [] wr w2 := hF1.frm.trans hf2 jp
  refine jO (jN (jv5 0 3 4 5 6 ?_))
  refine jS (jS (jR (jf rfl zar rfl zl (jl rfl zt (hb2.cell 1) (je (Run.lenS rfl ze) (jb rfl rfl (Bin.gtrN _ 4033) (jO (jN (jv6 0 3 4 5 6 25 ?_)))))))))
  refine VC.meet (σ := Bl) (fun s => [(0, .slice (some ad) n1 c1), (3, .slice B i m), (4, .int .i64 ((all : Nat) : Int)), (5, .int .i64 ((i : Nat) : Int)), (6, .pointer (some ⟨wr.heap.size, 0, none⟩))]) (fun s wz => Blk wz wr.heap.size 41 #[.int .u64 ((s.id : Nat) : Int), .slice s.A s.d.length s.c] ∧ qZy wz s ∧ Frm [] wr wz) ?_ ?_
  ·
   refine jD rfl (fun hc3 => ?_) fun hc3 => ?_
   ·
    refine jR (jf rfl zar rfl zl (jl rfl zt (hb2.cell 1) (je (Run.sliceS 0 4033 rfl ze zad evB.none_ (evB.some_ rfl) jo jo) (jf rfl zar rfl zl ?_))))
    refine Ops.st (qR.store rfl rfl zl hb2 rfl rfl) ?_
    rintro w3 ⟨hb3, hf3, hs3⟩
    have KZ3 := KZ.own hf3 jp
    have ht4 : (x.d.take 4033).length = 4033 := by rw [zi]; omega
    refine jO ?_
    refine jN ⟨⟨x.id, cP x.A x.c 0 1, x.c - 0, x.d.take 4033⟩, (js5 rfl rfl rfl rfl rfl), ?_⟩
    refine ⟨by dsimp only; rw [ht4]; exact hb3, ⟨by show (x.d.take 4033).length ≤ 4033; omega, by show (x.d.take 4033).length ≤ x.c - 0; omega, h3e, fun b hb => h4e b (zag hb), ?_⟩, KZ3⟩
    exact (qNx h5e h1e 4033 jo).frm KZ3 jp
   refine jQ ?_
   refine jN ⟨x, (js5 rfl rfl rfl rfl rfl), ?_⟩
   exact ⟨hb2, ⟨jo, h1e, h3e, h4e, h5e.frm KZ jp⟩, KZ⟩
  rintro y wz3 ⟨hb6, hfy, hKz⟩ Γ hΓ
  have hyl := hfy.1
  have hyc := hfy.2.1
  refine jN (VC.sub _ hΓ (jS (jS ?_)))
  refine VC.split1 [(0, _), (3, _), (4, _), (5, _), (6, _)] (js5 rfl rfl rfl rfl rfl) 41 (.bool (decide (1500 < all + y.d.length ∧ y.d.length ≤ 4032))) ?_ ?_
  ·
   refine jR ?_
   refine jm rfl (jf rfl zar rfl zl (jl rfl zt (hb6.cell 1) (je (Run.lenS rfl ze) (jb rfl rfl (Bin.add_i64 _ _ jo) (jb rfl rfl (Bin.gtrN _ 1500) ?_)))))
   by_cases hs35 : 1500 < all + y.d.length
   ·
    refine jM ?_
    refine jk (Run.fieldAddr rfl zar rfl zl jd) ?_
    refine jk (Run.load rfl zt (hb6.cell 1)) ?_
    refine jk (Run.lenS rfl ze) ?_
    refine jk (Run.bin rfl rfl (Bin.leqN _ 4032)) ?_
    by_cases hs40 : y.d.length ≤ 4032
    ·
     refine je (Run.pickT rfl rfl au) (jO ?_)
     refine jN ⟨(js6 (jC (by first | (simp [*]; done) | (simp; omega))) rfl rfl rfl rfl rfl), rfl⟩
    refine je (Run.pickT rfl rfl au) (jO ?_)
    refine jN ⟨(js6 (jC (by first | (simp [*]; done) | (simp; omega))) rfl rfl rfl rfl rfl), rfl⟩
   refine jM ?_
   refine jU ?_
   refine jU ?_
   refine jU ?_
   refine jU ?_
   refine je (Run.pickF rfl rfl au) (jO ?_)
   refine jN ⟨(js6 (jC (by first | (simp [*]; done) | (simp; omega))) rfl rfl rfl rfl rfl), rfl⟩
  intro Γ hΓ
  refine jN (VC.sub _ hΓ ?_)
  refine VC.meet (σ := Bl) (fun s => [(0, .slice (some ad) n1 c1), (3, .slice B i m), (4, .int .i64 ((all : Nat) : Int)), (5, .int .i64 ((i : Nat) : Int)), (6, .pointer (some ⟨wr.heap.size, 0, none⟩))]) (fun s wz => Blk wz wr.heap.size 41 #[.int .u64 ((s.id : Nat) : Int), .slice s.A s.d.length s.c] ∧ qZy wz s ∧ Frm [] wr wz) ?_ ?_
  ·
   refine jD rfl (fun hc4 => ?_) fun hc4 => ?_
   ·
    refine jR (jf rfl zar rfl zl ?_)
    refine Ops.st (qR.store rfl rfl zl hb6 rfl rfl) ?_
    rintro w4 ⟨hb4, hf4, hs4⟩
    have KZ4 := hKz.own hf4 jp
    refine jO ?_
    refine jN ⟨⟨y.id, none, 0, []⟩, (js5 rfl rfl rfl rfl rfl), ?_⟩
    exact ⟨hb4, ⟨zas _, zk _, hfy.2.2.1, jp, Rd.nil _ _ _⟩, KZ4⟩
   refine jQ ?_
   refine jN ⟨y, (js5 rfl rfl rfl rfl rfl), ?_⟩
   exact ⟨hb6, hfy, hKz⟩
  rintro z wz4 ⟨hb7, hfz, hKz4⟩ Γ hΓ
  have hzl := hfz.1
  have hzb := hfz.2.1
  refine jN (VC.sub _ hΓ (jS (jR (jm rfl (jf rfl zar rfl zl (jl rfl zt (hb7.cell 1) (je (Run.lenS rfl ze) (jb rfl rfl (Bin.add_i64 _ _ jo) (ja rfl (jO (jN (jv5 0 3 4 5 6 ?_))))))))))))
  refine jS (jR ?_)
  refine Ops.m (qJ.buildS0 ze zad) rfl ?_
  rintro _ w5 ⟨rfl, hF5⟩
  have hq5 : Own w5 5 1 (some ⟨wz4.heap.size, 0, none⟩) 0 0 (NB []) := Own.of_blk (n := 0) hF5.blk rfl jd
  have hb7' := hb7.frm hF5.frm jp
  have hKz5 := hKz4.trans hF5.frm jp
  have hzr5 := hfz.2.2.2.2.frm hF5.frm jp
  refine jf rfl zar rfl zl (jl rfl zt (hb7'.cell 1) ?_)
  refine Ops.m (qJ.app rfl rfl ze (dD) rfl jd hq5 hzr5 (dH _) jo jo) rfl ?_
  rintro _ w6 ⟨B6, c6, rfl, ho6, hf6, hob6⟩
  rw [← eA, zbo, zan] at ho6
  rw [zan]
  have hks4 := hKz4.size
  have hb8 := hb7'.frm hf6 (by
   simp only [ob, zh]
   have := hb7.lt
   omega)
  have hKz6 := hKz5.own hf6 (by simp [ob]; exact hks4)
  refine jf rfl zar rfl zl ?_
  refine Ops.st (qR.store rfl rfl zl hb8 rfl rfl) ?_
  rintro w7 ⟨hb9, hf7, hs7⟩
  have hb9 : Blk w7 wr.heap.size 41 #[.int .u64 ((z.id : Nat) : Int), .slice B6 z.d.length c6] := hb9
  have hu6 : ∀ x ∈ ob B6, wr.heap.size < x := fun x hx => by
   have h1 := hb7.lt
   rcases hob6 with h | h
   · rw [h] at hx; simp only [ob, zh] at hx; omega
   rw [h, zh] at hx
   have := hKz5.size
   have := hF5.frm.size
   omega
  have ho7 := ho6.frm hf7 (fun x hx hx2 => by have hx3 : x = wr.heap.size := zh.1 hx2; have := hu6 x hx; omega)
  have hKz7 := hKz6.own hf7 jp
  have hnew : yY w7 ⟨z.id, B6, c6, z.d⟩ := ⟨hfz.1, hfz.2.2.1, hfz.2.2.2.1, ho7⟩
  refine jO (jN (jv5 0 3 4 5 6 ?_))
  refine jR (jm rfl (je (Run.loadA rfl Tryz.isAgg41 zbw hb9.cells (by first | rfl | (simp; done))) ?_))
  refine Ops.m (qJ.buildS1 rfl zai zbw gY jd jd rfl rfl) rfl ?_
  rintro _ w8 ⟨rfl, hF8⟩
  have hr8 : Rd w8 2 (some ⟨w7.heap.size, 0, none⟩) 1 (BC [Bl.mk z.id B6 c6 z.d]) := Rd.of_blk (n := 1) (size := 2) hF8.blk rfl
  have hKz8 := hKz7.trans hF8.frm jp
  have ho8 := ho.frm hKz8 jp
  refine Ops.m (qJ.app rfl rfl zai (qR1) rfl jd ho8 hr8 (BC_one _) jo jo) rfl ?_
  rintro _ w9 ⟨B9, c9, rfl, ho9, hf9, hob9⟩
  rw [← qG0] at ho9
  have K8 := K.trans hKz8 jp
  have hks8 := K8.size
  have K9 := K8.own hf9 hob
  have hob9' : ∀ x ∈ ob B9, w.heap.size ≤ x := fun x hx => by
   rcases hob9 with h | h
   · rw [h] at hx; exact hob x hx
   rw [h, zh] at hx; omega
  refine ja rfl (jO ?_)
  refine qK (jN ?_)
  refine jv4 0 3 4 5 ?_
  refine jR (jm rfl (jb rfl rfl (Bin.add_i64 _ 1 jo) (ja rfl (jO ?_))))
  refine jN ⟨(i + 1, all + z.d.length, B9, c9, lo ++ [Bl.mk z.id B6 c6 z.d]), (js4 rfl rfl rfl rfl), ?_, ?_⟩
  ·
   refine ⟨hc2, by dsimp only; omega, by simp [hlo], ho9, fun q hq => ?_, K9, hob9'⟩
   have hq8 : yY w8 q := by
    rcases List.mem_append.1 hq with h | h
    · exact (hfe q h).frm hKz8 jp
    rw [zh] at h
    subst h
    exact hnew.frm hF8.frm jp
   exact hq8.frm hf9 (fun y hy hy2 => ho8.ne_own hq8.2.2.2 jd y hy2 hy)
  first | omega | (dsimp only; omega)
 refine jX ?_
 refine qZ (qZ (qP ?_))
 refine jN (jv1 3 ?_)
 refine jS (jR (jm rfl (ja rfl (jO (jN (jv1 2 ?_))))))
 refine jT ?_
 refine qC rfl ?_
 exact ⟨B, i, m, lo, rfl, jo, ⟨hlo, ho.rd, fun x hx => by
  obtain ⟨h1, h2, h3, h4⟩ := hfe x hx
  exact ⟨h4.le, jo, h2, h3, h4.rd⟩⟩, K⟩
end
section
open Go.RowKit
theorem qJt (A : Option Addr) (n c : Nat) (l : List Bl) (w : World) (hn : n ≤ 1000000) (hr : RdB w A n l) :
  Calls Tryz.prog 7 #[.slice A n c] w fun e w' => ∃ B d k X, e = .returned (.tuple #[.slice B X.length d, .int .i64 ((k : Nat) : Int)]) ∧ Own w' 5 1 B X.length d (NB X) ∧ Frm [] w w' ∧ (∀ x ∈ ob B, w.heap.size ≤ x) ∧ (fY l → X = segM (l.map Bl.b) ∧ k = 0) ∧ (¬ fY l → X = [] ∧ k = 1) := by
 by_cases h : fY l
 ·
  refine (rN A n c l w hn hr h).mono ?_
  rintro e w' ⟨B, d, rfl, ho, hf, hu⟩
  exact ⟨B, d, 0, _, rfl, ho, hf, hu, fun _ => ⟨rfl, rfl⟩, fun h2 => absurd h h2⟩
 refine (uC A n c l w hn hr h).mono ?_
 rintro e w' ⟨rfl, hf⟩
 exact ⟨none, 0, 1, [], rfl, Own.nil _ _ _, hf, by simp [ob], fun h2 => absurd h2 h, fun _ => ⟨rfl, rfl⟩⟩
end
section
open Go.RowKit
open Go.ChangeShapes Go.WideShapes Go.Deep
theorem qRv {z : Int} (h : (Lit.int .u64 z).wf = true) : ∃ n : Nat, z = (n : Int) ∧ n < 18446744073709551616 := by
 have h1 : 0 ≤ z ∧ z < 18446744073709551616 := by
  simp [Lit.wf, IntKind.min, IntKind.max, IntKind.signed, IntKind.bits] at h
  omega
 exact ⟨z.toNat, jo, jo⟩
theorem qWm {H : Type} {enc : TypeId × Value → H} {w : World} {base : Nat} {spare : Nat → Bool} {held : Bool} {fuel len cap : Nat} {a : Option Addr} {x : DataW H × List MemPlace}
  (h : DataW.trod enc Tryz.prog w base spare held fuel 22 [.slice a len cap] = some x) : ∃ l, RdB0 w a len cap l ∧ len ≤ 9223372036854775807 := by
 obtain ⟨ls, hll, hlc, hcm, hrd, hels⟩ := qK5 zai zar jK jK jd h
 have key : ∀ i, i < len → ∃ s : Bl, ls[i]? = some (blC s) ∧ s.d.length ≤ s.c ∧ s.d.length ≤ 9223372036854775807 ∧ s.id < 18446744073709551616 ∧ (∀ b ∈ s.d, b < 256) ∧ Rd w 1 s.A s.d.length (NB s.d) := by
  intro i hi
  obtain ⟨hl4, hf⟩ := hels _ (zw (jo : i < ls.length))
  have hli : ls[i]? = some ls[i] := za jo
  generalize ls[i] = l at *
  match l, hl4 with
  | [c0, c1], _ =>
   obtain ⟨v0, y0, m0, e0, t0⟩ := hf 0 _ rfl
   obtain ⟨v1, y1, m1, e1, t1⟩ := hf 1 _ rfl
   simp only [List.getElem?_cons_zero, List.getElem?_cons_succ, Option.some.injEq] at e0 e1
   subst e0 e1
   obtain ⟨z, h0, hw⟩ := qMa zab t0
   obtain ⟨A, k, c, h1⟩ := qVm ze t1
   simp only [List.cons.injEq, and_true] at h0 h1
   subst h0 h1
   obtain ⟨n, rfl, hn⟩ := qRv hw
   obtain ⟨bs, hbl, hbc, hbm, hb, hr⟩ := qHm ze zbh jK t1
   subst hbl
   exact ⟨⟨n, A, c, bs⟩, hli, hbc, by simp only; omega, hn, hb, hr⟩
 obtain ⟨ss, hsl, hq⟩ := oW len key
 have e : ls.flatMap id = BC ss := by
  have : ls = ss.map blC := by
   apply zap
   intro i
   rw [zbk]
   by_cases hi : i < len
   ·
    have := (hq i _ (za (jo : i < ss.length))).1
    rw [this, za (jo : i < ss.length)]
    rfl
   rw [zr jo, zr jo]
   rfl
  rw [this, List.flatMap_map]
  rfl
 refine ⟨ss, ⟨hsl, hlc, ?_, fun y hy => ?_⟩, jo⟩
 ·
  rw [← e]
  exact hrd
 obtain ⟨i, hi, rfl⟩ := zbc hy
 exact (hq i _ (za hi)).2
end
section
open Go.RowKit
theorem uJ (X : List Nat) (i j k y : Nat) : ((X.set i y).drop j).take k = if i < j then (X.drop j).take k else ((X.drop j).take k).set (i - j) y := by
 rw [List.drop_set]
 split
 · rfl
 rw [List.take_set]
theorem qHh {l : List Nat} {i y : Nat} (h : i < l.length) (hy : y ≠ l.getD i 0) : l.set i y ≠ l := by
 intro h2
 have h3 := congrArg (fun q => q.getD i 0) h2
 rw [zc, za h] at hy
 simp [zc, h] at h3
 exact hy (by simpa using h3)
theorem rT {X : List Nat} {j k q : Nat} (h : q < ((X.drop j).take k).length) : ((X.drop j).take k).getD q 0 = X.getD (j + q) 0 := by
 rw [zi, zp] at h
 rw [zc, zc, List.getElem?_take, if_pos jo, zda]
theorem qRw {D : List Nat} {q y : Nat} (hD : ∀ b ∈ D, b < 256) (hq : q < D.length) (hy : y ≠ D.getD q 0) (hyb : y < 256) : crcM (D.set q y) ≠ crcM D := by
 have h1 : D = D.take q ++ D.getD q 0 :: D.drop (q + 1) := by
  have h2 := (zcb q D).symm
  rw [zcl hq] at h2
  rw [zc, za hq]
  exact h2
 have h3 : D.set q y = D.take q ++ y :: D.drop (q + 1) := by
  rw [List.set_eq_take_append_cons_drop, if_pos hq]
 have hx : D.getD q 0 < 256 := by
  rw [zc, za hq]
  exact hD _ (zw hq)
 have h4 := qWx (a := D.take q) (c := D.drop (q + 1)) (x := y) (y := D.getD q 0) (fun b hb => hD b (zag hb)) (fun b hb => hD b (zbn hb)) hyb hx hy
 rw [← h3, ← h1] at h4
 exact h4
theorem qZz {X : List Nat} {i j y : Nat} (h : i < j ∨ j + 4 ≤ i) : numAt (X.set i y) j 4 = numAt X j 4 := by
 unfold numAt
 rw [uJ]
 split
 · rfl
 rw [List.set_eq_of_length_le (by rw [zi]; omega)]
theorem qNy {X : List Nat} {m a i y : Nat} (hX : X.length = m + 12) (hB : ∀ b ∈ X, b < 256) (ha : a ≤ m) (h1 : X.drop (m + 8) = fO) (h2 : numAt X (m + 4) 4 = crcM ((X.drop a).take (m + 4 - a)))
  (hi1 : a ≤ i) (hi2 : i < m + 12) (hn : ¬ (m ≤ i ∧ i < m + 4)) (hy : y ≠ X.getD i 0) (hyb : y < 256) :
  numAt (X.set i y) m 4 = numAt X m 4 ∧ ¬ ((X.set i y).drop (m + 8) = fO ∧ numAt (X.set i y) (m + 4) 4 = crcM (((X.set i y).drop a).take (m + 4 - a))) := by
 refine ⟨qZz jo, ?_⟩
 rintro ⟨h3, h4⟩
 by_cases c1 : i < m
 ·
  rw [qZz jo, uJ, if_neg jo, h2] at h4
  have hl : ((X.drop a).take (m + 4 - a)).length = m + 4 - a := by rw [zi, zp]; omega
  refine qRw (D := (X.drop a).take (m + 4 - a)) (fun b hb => hB b (zbn (zag hb))) (q := i - a) jo ?_ hyb h4.symm
  rw [rT jo, show a + (i - a) = i by omega]
  exact hy
 by_cases c2 : i < m + 8
 ·
  rw [uJ, if_neg jo, List.set_eq_of_length_le (l := (X.drop a).take (m + 4 - a)) (by rw [zi]; omega), ← h2] at h4
  unfold numAt at h4
  rw [uJ, if_neg jo] at h4
  have hl : ((X.drop (m + 4)).take 4).length = 4 := by rw [zi, zp]; omega
  have hm : ∀ b ∈ (X.drop (m + 4)).take 4, b < 256 := fun b hb => hB b (zbn (zag hb))
  refine qHh (l := (X.drop (m + 4)).take 4) (i := i - (m + 4)) (y := y) jo ?_ (qMf (fun b hb => ?_) hm (by rw [zci]) h4)
  ·
   rw [rT jo, show m + 4 + (i - (m + 4)) = i by omega]
   exact hy
  rcases zfd hb with h | h
  · exact hm b h
  rw [h]; exact hyb
 rw [List.drop_set, if_neg jo, ← h1] at h3
 have hl : (X.drop (m + 8)).length = 4 := by rw [zp]; omega
 refine qHh (l := X.drop (m + 8)) (i := i - (m + 8)) (y := y) jo ?_ h3
 have h5 := rT (X := X) (j := m + 8) (k := 4) (q := i - (m + 8)) (by rw [zi]; omega)
 rw [zn jo, show m + 8 + (i - (m + 8)) = i by omega] at h5
 rw [h5]
 exact hy
theorem qSs {x t : Nat} (h : t ≠ 0) : x ^^^ t ≠ x := by
 intro h1
 have h2 : x ^^^ (x ^^^ t) = x ^^^ x := by rw [h1]
 rw [← zdj, zfg, Nat.zero_xor] at h2
 exact h h2
theorem xor_u8 {x t : Nat} (hx : x < 256) (ht : t < 256) : x ^^^ t < 256 := zgt (n := 8) hx ht
theorem qHi {X : List Nat} {m : Nat} (hX : X.length = m + 12) (hB : ∀ b ∈ X, b < 256) (h : numAt X m 4 ≤ 600000) : X.getD m 0 + 256 * X.getD (m + 1) 0 + 65536 * X.getD (m + 2) 0 = numAt X m 4 := by
 have hl : ((X.drop m).take 4).length = 4 := by rw [zi, zp]; omega
 have hg := fun q (hq : q < 4) => rT (X := X) (j := m) (k := 4) (q := q) jo
 have hb := fun q (hq : q < 4) => fE (l := (X.drop m).take 4) (fun b hb => hB b (zbn (zag hb))) q
 unfold numAt at h ⊢
 obtain ⟨x0, x1, x2, x3, he⟩ : ∃ x0 x1 x2 x3, (X.drop m).take 4 = [x0, x1, x2, x3] := by
  match (X.drop m).take 4, hl with
  | [x0, x1, x2, x3], _ => exact ⟨x0, x1, x2, x3, rfl⟩
 rw [he] at h hg hb ⊢
 have g0 := hg 0 jo
 have g1 := hg 1 jo
 have g2 := hg 2 jo
 have b3 := hb 3 jo
 simp [dI] at h g0 g1 g2 b3 ⊢
 rw [← g0, ← g1, ← g2]
 omega
end
section
open Go.RowKit
theorem qRx (l : List Nat) (i y : Nat) : (NB l).set i (.int .u8 ((y : Nat) : Int)) = NB (l.set i y) := by simp [NB, List.map_set]
set_option maxHeartbeats 1000000 in
theorem qJu (A : Option Addr) (n c : Nat) (l : List Bl) (bk t : Nat) (w : World) (hn : n ≤ 9223372036854775807) (hbk : bk ≤ 65535) (ht : t < 256) (hr : RdB0 w A n c l) :
  Calls Tryz.prog 4 #[.slice A n c, .int .u16 ((bk : Nat) : Int), .int .u8 ((t : Nat) : Int)] w fun e w' => e = .returned (.bool true) ∧ Frm [] w w' := by
 refine VC.calls (nt := 145) (res := #[.tmp 6]) Tryz.func4 rfl Tryz.ntmps4 Tryz.results4 rfl ?_
 refine jS (jR (ja rfl (jO (jN (jv3 0 1 2 ?_)))))
 refine jS (jR (jM ?_))
 refine Ops.cl (jE1 Tryz.call6) (qWl A n c l _ hn hr) rfl ?_
 rintro e w1 ⟨A1, n1, c1, l1, rfl, hn1, hr1, K⟩
 refine ⟨_, rfl, ?_⟩
 refine ja rfl (jO (jN (jv3 0 1 2 ?_)))
 refine jS (jR (jM ?_))
 refine Ops.cl (jE1 Tryz.call7) (qJt A1 n1 c1 l1 _ jo hr1) rfl ?_
 rintro e w2 ⟨B, d, k, X, rfl, ho2, hf2, hu2, hy1, hy2⟩
 refine ⟨_, rfl, ?_⟩
 have hks1 := K.size
 have K := K.trans hf2 jp
 have hr2 := hr1.frm hf2
 refine jm rfl (je (Run.extract rfl rfl) (je (Run.extract rfl rfl) (ja rfl (ja rfl (jO (jN (jv5 0 1 2 7 8 ?_)))))))
 refine jS (jS ?_)
 refine VC.split1 [(0, _), (1, _), (2, _), (7, _), (8, _)] (js5 rfl rfl rfl rfl rfl) 27 (.bool (decide (k ≠ 0 ∨ t = 0))) ?_ ?_
 ·
  refine jR ?_
  refine jm rfl (jb rfl rfl (Bin.neqN _ 0) ?_)
  by_cases hs23 : k ≠ 0
  ·
   refine jM ?_
   refine jU ?_
   refine jU ?_
   refine je (Run.pickT rfl rfl au) (jO ?_)
   refine jN ⟨(js6 (jC (by first | (simp [*]; done) | (simp; omega))) rfl rfl rfl rfl rfl), rfl⟩
  refine jM ?_
  refine jG ?_
  refine jk (Run.bin rfl rfl (Bin.eqlN _ 0)) ?_
  by_cases hs26 : t = 0
  ·
   refine je (Run.pickF rfl rfl au) (jO ?_)
   refine jN ⟨(js6 (jC (by first | (simp [*]; done) | (simp; omega))) rfl rfl rfl rfl rfl), rfl⟩
  refine je (Run.pickF rfl rfl au) (jO ?_)
  refine jN ⟨(js6 (jC (by first | (simp [*]; done) | (simp; omega))) rfl rfl rfl rfl rfl), rfl⟩
 intro Γ hΓ
 refine jN (VC.sub _ hΓ ?_)
 refine jD rfl (fun hc1 => ?_) fun hc1 => ?_
 ·
  refine jS ?_
  refine VC.splitR [] (Frm [] w) 6 (.bool (decide (True))) ?_ ?_
  ·
   refine jR ?_
   refine jm rfl (jb rfl rfl (Bin.eqlN _ 0) ?_)
   by_cases hs29 : k = 0
   ·
    skip
    refine jM ?_
    refine jU ?_
    refine jU ?_
    refine jU ?_
    refine jU ?_
    refine Ops.skU rfl rfl ?_
    refine Ops.skU rfl rfl ?_
    refine Ops.skU rfl rfl ?_
    refine jU ?_
    refine je (Run.pickT rfl rfl au) (jM ?_)
    refine Ops.clg rfl au (jE0 Tryz.call9) (gB _) rfl ?_
    rintro e w9 ⟨rfl, hf9⟩
    refine ⟨_, rfl, ?_⟩
    have K := K.trans hf9 jp
    refine je (Run.pickT rfl rfl au) (ja rfl (jO ?_))
    refine jN ⟨(js1 (jC (rfl))), (K)⟩
   have hnm : ¬ fY l1 := fun h => hs29 (hy1 h).2
   obtain ⟨rfl, rfl⟩ := hy2 hnm
   refine jM ?_
   refine jG ?_
   refine Ops.clg rfl au (jE1 Tryz.call8) (qG1 A1 n1 c1 l1 _ jo hr2) rfl ?_
   rintro e w3 ⟨rfl, hd3⟩
   refine ⟨_, rfl, ?_⟩
   have K := K.drawn hd3
   refine jk (Run.not rfl) ?_
   refine jG ?_
   refine jG ?_
   refine jk (Run.lenS rfl ze) ?_
   refine jk (Run.bin rfl rfl (Bin.eqlN _ 0)) ?_
   refine jk (Run.pickT rfl rfl au) ?_
   refine je (Run.pickF rfl rfl au) (jM ?_)
   refine Ops.clg rfl au (jE0 Tryz.call9) (gB _) rfl ?_
   rintro e w9 ⟨rfl, hf9⟩
   refine ⟨_, rfl, ?_⟩
   have K := K.trans hf9 jp
   refine je (Run.pickT rfl rfl au) (ja rfl (jO ?_))
   refine jN ⟨(js1 (jC (rfl))), (K)⟩
  intro Γ wz hΓ hRz
  refine jN (VC.sub _ hΓ ?_)
  refine jT ?_
  refine qN (qC rfl ?_)
  exact ⟨rfl, hRz⟩
 have hk0 : k = 0 := jo
 have ht0 : t ≠ 0 := jo
 have hm : fY l1 := Classical.byContradiction (fun h => by have := (hy2 h).2; omega)
 obtain ⟨rfl, rfl⟩ := hy1 hm
 clear hy1 hy2
 have hM := qWk hr1 hm
 obtain ⟨hLq, hpw, h1n, h64⟩ := id hM
 obtain ⟨p1, p2, p3, p4⟩ := rS hLq h64
 have hXb := yW hLq
 have hle := vT hLq h64
 have hal : (outM (l1.map Bl.b)).length ≤ (segM (l1.map Bl.b)).length - 12 ∧ 12 ≤ (segM (l1.map Bl.b)).length := by
  have := qN9 (l1.map Bl.b)
  omega
 rw [← p4] at p3
 have hn1 := hr1.len
 have h1l := hm.2.1
 have hos := vB B d (l1.map Bl.b) w2 hM ho2.le ho2.rd
 generalize hXX : segM (l1.map Bl.b) = X at *
 generalize haa : (outM (l1.map Bl.b)).length = a at *
 obtain ⟨m, hXm⟩ : ∃ m, X.length = m + 12 := ⟨X.length - 12, jo⟩
 rw [show X.length - 4 = m + 8 by omega] at p1
 rw [show X.length - 12 = m by omega] at p2 hal
 rw [show X.length - 8 = m + 4 by omega] at p3
 refine jQ (jN (jv4 0 1 2 7 ?_))
 refine jS (jR (jM ?_))
 refine Ops.cl (jE1 Tryz.call11) (hos) rfl ?_
 rintro e w4 ⟨g, rfl, _, hf4⟩
 refine ⟨_, rfl, ?_⟩
 have K := K.trans hf4 jp
 have ho4 := ho2.frm hf4 jp
 have hd := qQ.drew w4
 have ho5 := ho4.drawn hd
 have K := K.drawn hd
 obtain ⟨ad, rfl, c0⟩ := lW ho5.rd rfl (jo : X.length - 12 < X.length)
 obtain ⟨ad1, e1, c1⟩ := lW ho5.rd rfl (jo : X.length - 11 < X.length)
 obtain ⟨ad2, e2, c2⟩ := lW ho5.rd rfl (jo : X.length - 10 < X.length)
 injection e1 with e1
 injection e2 with e2
 subst e1 e2
 have hat : X.getD (X.length - 12) 0 + 256 * X.getD (X.length - 11) 0 + 65536 * X.getD (X.length - 10) 0 = a := by
  rw [show X.length - 12 = m by omega, show X.length - 11 = m + 1 by omega, show X.length - 10 = m + 2 by omega, qHi hXm hXb (by rw [p2]; omega), p2]
 have b0 := fE hXb (X.length - 12)
 have b1 := fE hXb (X.length - 11)
 have b2 := fE hXb (X.length - 10)
 have hub : ∀ x ∈ ob (some ad), w.heap.size ≤ x := fun x hx => zo hks1 (hu2 x hx)
 have hmod := Nat.mod_lt bk (jo : 0 < X.length - a)
 refine jm rfl (je (Run.extract rfl rfl) (je (Run.extract rfl rfl) (ja rfl (ja rfl (jO (jN (jv6 0 1 2 7 9 10 ?_)))))))
 refine jS (jS (jR (jm rfl (je (Run.eqlNilP rfl rfl zhc) (jM ?_)))))
 refine jG ?_
 refine jk (Run.bin rfl rfl (Bin.neqN _ 0)) ?_
 refine je (Run.pickF rfl rfl au) (jM ?_)
 refine jG ?_
 refine jk (Run.lenS rfl zai) ?_
 refine jk (Run.bin rfl rfl (Bin.eqlN _ 0)) ?_
 refine je (Run.pickF rfl rfl au) (jM ?_)
 refine jG ?_
 refine jk (Run.lenS rfl ze) ?_
 refine jk (Run.bin rfl rfl (Bin.lssN _ 12)) ?_
 refine je (Run.pickF rfl rfl au) (jO (jN (jv4 1 2 7 63 ?_)))
 refine VC.condF rfl (decide_eq_false jo) ?_
 refine jQ (jN (jv3 1 2 7 ?_))
 refine jS ?_
 refine VC.still jK jK ?_
 refine qM ?_
 refine qM ?_
 refine qE (Run.lenS rfl ze) ?_
 refine qE (Run.bin rfl rfl (Bin.sub_i64 _ 12 jo jo)) ?_
 refine qE (Run.index1 _ rfl rfl ze zad jo) ?_
 refine qE (Run.load rfl zdn c0) ?_
 refine qE (Run.convN _ rfl zbh zx (by simp only [bmax]; omega)) ?_
 refine qM ?_
 refine qM ?_
 refine qE (Run.lenS rfl ze) ?_
 refine qE (Run.bin rfl rfl (Bin.sub_i64 _ 11 jo jo)) ?_
 refine qE (Run.index1 _ rfl rfl ze zad jo) ?_
 refine qE (Run.load rfl zdn c1) ?_
 refine qE (Run.convN _ rfl zbh zx (by simp only [bmax]; omega)) ?_
 refine qE (Run.bin rfl rfl (Bin.mul_i64 256 _ jo)) ?_
 refine qE (Run.bin rfl rfl (Bin.add_i64 _ _ jo)) ?_
 refine qM ?_
 refine qM ?_
 refine qE (Run.lenS rfl ze) ?_
 refine qE (Run.bin rfl rfl (Bin.sub_i64 _ 10 jo jo)) ?_
 refine qE (Run.index1 _ rfl rfl ze zad jo) ?_
 refine qE (Run.load rfl zdn c2) ?_
 refine qE (Run.convN _ rfl zbh zx (by simp only [bmax]; omega)) ?_
 refine qE (Run.bin rfl rfl (Bin.mul_i64 65536 _ jo)) ?_
 refine qE (Run.bin rfl rfl (Bin.add_i64 _ _ jo)) ?_
 rw [hat]
 refine qA ?_
 refine qW.nil ?_
 refine jN (jv4 1 2 7 11 ?_)
 refine jS (jS (jR (jm rfl (jm rfl (je (Run.lenS rfl ze) (jb rfl rfl (Bin.sub_i64 _ 12 jo jo) (jb rfl rfl (Bin.gtrN _ _) (jO (jN (jv5 1 2 7 11 93 ?_))))))))))
 refine VC.condF rfl (decide_eq_false jo) ?_
 refine jQ (jN (jv4 1 2 7 11 ?_))
 refine jS (jR (jm rfl (je (Run.lenS rfl ze) (jb rfl rfl (Bin.sub_i64 _ 1 jo jo) (jm rfl (je (Run.convN _ rfl Tryz.underlying31 zx (by simp only [bmax]; omega)) (jm rfl (je (Run.lenS rfl ze) (jm rfl (jb rfl rfl (Bin.sub_i64 _ _ jo jo) (jb rfl rfl (Bin.remN _ _ jo) ?_)))))))))))
 generalize bk % (X.length - a) = r at hmod ⊢
 refine jb rfl rfl (Bin.sub_i64 _ _ jo jo) ?_
 obtain ⟨i, hi⟩ : ∃ i, i = X.length - 1 - r := ⟨_, rfl⟩
 rw [← hi]
 refine ja rfl (jO (jN (jv3 2 7 12 ?_)))
 refine jS (jS ?_)
 refine VC.split1 [(2, _), (7, _), (12, _)] (js3 rfl rfl rfl) 116 (.bool (decide (X.length - 12 ≤ i ∧ i < X.length - 8))) ?_ ?_
 ·
  refine jR ?_
  refine jm rfl (jm rfl (je (Run.lenS rfl ze) (jb rfl rfl (Bin.sub_i64 _ 12 jo jo) (jb rfl rfl (Bin.geqN _ _) ?_))))
  by_cases hs109 : X.length - 12 ≤ i
  ·
   refine jM ?_
   refine jG ?_
   refine jG ?_
   refine jk (Run.lenS rfl ze) ?_
   refine jk (Run.bin rfl rfl (Bin.sub_i64 _ 8 jo jo)) ?_
   refine jk (Run.bin rfl rfl (Bin.lssN _ _)) ?_
   by_cases hs115 : i < X.length - 8
   ·
    refine je (Run.pickT rfl rfl au) (jO ?_)
    refine jN ⟨(js4 (jC (by first | (simp [*]; done) | (simp; omega))) rfl rfl rfl), rfl⟩
   refine je (Run.pickT rfl rfl au) (jO ?_)
   refine jN ⟨(js4 (jC (by first | (simp [*]; done) | (simp; omega))) rfl rfl rfl), rfl⟩
  refine jM ?_
  refine jU ?_
  refine jU ?_
  refine jU ?_
  refine jU ?_
  refine jU ?_
  refine je (Run.pickF rfl rfl au) (jO ?_)
  refine jN ⟨(js4 (jC (by first | (simp [*]; done) | (simp; omega))) rfl rfl rfl), rfl⟩
 intro Γ hΓ
 refine jN (VC.sub _ hΓ ?_)
 refine jD rfl (fun hc4 => ?_) fun hc4 => ?_
 ·
  refine jS (jR ?_)
  refine Ops.cl (jE0 Tryz.call9) (gB _) rfl ?_
  rintro e w9 ⟨rfl, hf9⟩
  refine ⟨_, rfl, ?_⟩
  have K := K.trans hf9 jp
  refine ja rfl (jO (jN (jv1 6 ?_)))
  refine jT ?_
  refine qN (qC rfl ?_)
  exact ⟨rfl, K⟩
 obtain ⟨ad3, e3, ci⟩ := lW ho5.rd rfl (jo : i < X.length)
 injection e3 with e3
 subst e3
 have b3 := fE hXb i
 refine jQ (jN (jv3 2 7 12 ?_))
 refine jS (jR (jm rfl (jm rfl (jm rfl (jm rfl (je (Run.index1 _ rfl rfl ze zad jo) (jl rfl zdn ci (jm rfl (jb rfl rfl (Bin.xor_u8 _ _ jo jo) (je (Run.index1 _ rfl rfl ze zad jo) ?_))))))))))
 refine Ops.st (qR.storeOwn i rfl rfl zad ho5 rfl jo rfl) ?_
 rintro w6 ⟨ho6, hf6, hs6⟩
 rw [qRx] at ho6
 have K := K.own hf6 hub
 obtain ⟨g1, g2⟩ := qNy hXm hXb hal.1 p1 p3 (i := i) (y := X.getD i 0 ^^^ t) jo jo jo (qSs ht0) (xor_u8 (fE hXb i) ht)
 have hos6 := uB (some ad) m d a (X.set i (X.getD i 0 ^^^ t)) (l1.map Bl.b) w6 (by rw [zci]; exact hXm) jo (fun b hb => by
  rcases zfd hb with h | h
  · exact hXb b h
  rw [h]; exact xor_u8 (fE hXb i) ht) (by have := ho6.le; omega) (by rw [← hXm]; exact ho6.rd) hM (g1.trans p2) hal.1 (fun h1 h2 => absurd ⟨h1, h2⟩ g2)
 rw [← hXm] at hos6
 refine jO (jN (jv1 7 ?_))
 refine jS (jR (jM ?_))
 refine Ops.cl (jE1 Tryz.call11) (hos6) rfl ?_
 rintro e w7 ⟨p, k7, rfl, hf7, _, hno⟩
 obtain ⟨rfl, hk7⟩ := hno g2
 refine ⟨_, rfl, ?_⟩
 have K := K.trans hf7 jp
 refine jm rfl (je (Run.extract rfl rfl) (je (Run.extract rfl rfl) (ja rfl (ja rfl (jO (jN (jv2 13 14 ?_)))))))
 refine jS ?_
 refine VC.splitR [] (Frm [] w) 6 (.bool (decide (True))) ?_ ?_
 ·
  refine jR ?_
  refine jm rfl (je (Run.eqlNilP rfl rfl zhc) (jM ?_))
  refine jG ?_
  refine jk (Run.bin rfl rfl (Bin.eqlN _ 9)) ?_
  by_cases hs136 : k7 = 9
  ·
   refine jG ?_
   refine jU ?_
   refine jU ?_
   refine jk (Run.pickT rfl rfl au) ?_
   refine je (Run.pickT rfl rfl au) (jM ?_)
   refine Ops.clg rfl au (jE0 Tryz.call9) (gB _) rfl ?_
   rintro e w9 ⟨rfl, hf9⟩
   refine ⟨_, rfl, ?_⟩
   have K := K.trans hf9 jp
   refine je (Run.pickT rfl rfl au) (ja rfl (jO ?_))
   refine jN ⟨(js1 (jC (rfl))), (K)⟩
  refine jG ?_
  refine jG ?_
  refine jk (Run.bin rfl rfl (Bin.eqlN _ 3)) ?_
  refine jk (Run.pickF rfl rfl au) ?_
  refine je (Run.pickT rfl rfl au) (jM ?_)
  refine Ops.clg rfl au (jE0 Tryz.call9) (gB _) rfl ?_
  rintro e w9 ⟨rfl, hf9⟩
  refine ⟨_, rfl, ?_⟩
  have K := K.trans hf9 jp
  refine je (Run.pickT rfl rfl au) (ja rfl (jO ?_))
  refine jN ⟨(js1 (jC (rfl))), (K)⟩
 intro Γ wz hΓ hRz
 refine jN (VC.sub _ hΓ ?_)
 refine jT ?_
 refine qC rfl ?_
 exact ⟨rfl, hRz⟩
end
end Go.Proofs.YtndjgmbfkkgpdaaGreat
