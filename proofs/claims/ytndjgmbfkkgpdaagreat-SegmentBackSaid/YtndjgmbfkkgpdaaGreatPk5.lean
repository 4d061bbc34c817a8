/-
  Lemmas on the way, joined: SegY, SegLB, SegLO, SegHP, SegHB.
-/
import Derived.Test.YtndjgmbfkkgpdaaGreatPk4
set_option maxRecDepth 100000
set_option linter.unusedVariables false
set_option linter.unusedSimpArgs false
namespace Go.Proofs.YtndjgmbfkkgpdaaGreat
section
open Go.RowKit
structure RdB0 (w : World) (A : Option Addr) (n c : Nat) (l : List Bl) : Prop where
 len : l.length = n
 le : n ≤ c
 rd : Rd w 2 A n (BC l)
 el : ∀ x ∈ l, x.d.length ≤ x.c ∧ x.d.length ≤ 9223372036854775807 ∧ x.id < 18446744073709551616 ∧ (∀ b ∈ x.d, b < 256) ∧ Rd w 1 x.A x.d.length (NB x.d)
theorem RdB0.frm {w w' : World} {A : Option Addr} {n c : Nat} {l : List Bl} (h : RdB0 w A n c l) (k : Frm [] w w') : RdB0 w' A n c l := ⟨h.len, h.le, h.rd.frm k jp, fun x hx => by
 obtain ⟨h1, h2, h3, h4, h5⟩ := h.el x hx
 exact ⟨h1, h2, h3, h4, h5.frm k jp⟩⟩
theorem RdB0.cell {w : World} {A : Option Addr} {n c : Nat} {l : List Bl} (h : RdB0 w A n c l) {i : Nat} (hi : i < n) : ∃ ad, A = some ad ∧ ∀ j v, (blC (l.getD i bl0))[j]? = some v → w.cell? ((ad.add (i * 2)).add j) = some v := by
 obtain ⟨ad, h1, hel⟩ := h.rd.elem hi
 rw [qZj l i (by rw [h.len]; exact hi)] at hel
 exact ⟨ad, h1, hel⟩
theorem qKu : ∀ (l : List Bl) (k : Nat), (BC l).take (k * 2) = BC (l.take k)
 | l, 0 => by simp [BC]
 | [], k + 1 => by simp [BC]
 | x :: l, k + 1 => by
  rw [show BC (x :: l) = blC x ++ BC l from rfl, show (k + 1) * 2 = (blC x).length + k * 2 by rw [qKo]; omega, List.take_length_add_append, qKu l k]
  rfl
theorem RdB0.cut {w : World} {A : Option Addr} {n c k : Nat} {l : List Bl} (h : RdB0 w A n c l) (hk : k ≤ n) : RdB0 w (cP A c 0 2) (k - 0) (c - 0) (l.take k) := by
 refine ⟨by rw [zj, h.len]; omega, by have := h.le; omega, ?_, fun x hx => h.el x (zal hx)⟩
 have h1 := h.rd.cut (l := 0) (r := k) (cap := c) jo hk h.le
 rw [zff, zca, zcl, qKu] at h1
 exact h1
def qZs (w : World) (x : Bl) : Prop := x.d.length ≤ 4033 ∧ x.d.length ≤ x.c ∧ x.id < 18446744073709551616 ∧ (∀ b ∈ x.d, b < 256) ∧ Rd w 1 x.A x.d.length (NB x.d)
theorem qZs.frm {w w' : World} {x : Bl} (h : qZs w x) (k : Frm [] w w') : qZs w' x := by
 obtain ⟨h1, h2, h3, h4, h5⟩ := h
 exact ⟨h1, h2, h3, h4, h5.frm k jp⟩
def xI (w : World) (x : Bl) : Prop := x.d.length ≤ 4033 ∧ x.id < 18446744073709551616 ∧ (∀ b ∈ x.d, b < 256) ∧ Own w 5 1 x.A x.d.length x.c (NB x.d)
theorem xI.frm {w w' : World} {S : List Nat} {x : Bl} (h : xI w x) (k : Frm S w w') (hS : ∀ y ∈ ob x.A, y ∉ S) : xI w' x := by
 obtain ⟨h1, h2, h3, h4⟩ := h
 exact ⟨h1, h2, h3, h4.frm k hS⟩
theorem qNo {w : World} {A : Option Addr} {c : Nat} {d : List Nat} (h : Rd w 1 A d.length (NB d)) (hc : d.length ≤ c) (k : Nat) (hk : k ≤ d.length) : Rd w 1 (cP A c 0 1) (d.take k).length (NB (d.take k)) := by
 have h1 := oI d 0 k jo h hc
 rw [zca] at h1
 exact h1
theorem qWf (A : Option Addr) (n c : Nat) (l : List Bl) (w : World) (hn : n ≤ 9223372036854775807) (hr : RdB0 w A n c l) :
  Calls Tryz.prog 6 #[.slice A n c] w fun e w' => ∃ A' n' c' l', e = .returned (.slice A' n' c') ∧ n' ≤ 66 ∧ RdB w' A' n' l' ∧ Frm [] w w' := by
 have K := Frm.refl [] w
 have hnc := hr.le
 refine VC.calls (nt := 58) (res := #[.tmp 2]) Tryz.func6 rfl Tryz.ntmps6 Tryz.results6 rfl ?_
 refine jS (jR (ja rfl (jO (jN (jv1 0 ?_)))))
 refine jS (jS (jR (jm rfl (je (Run.lenS rfl zaf) (jb rfl rfl (Bin.gtrN _ 66) (jO (jN (jv2 0 9 ?_))))))))
 refine VC.meet (σ := Option Addr × Nat × Nat × List Bl) (fun s => [(0, .slice s.1 s.2.1 s.2.2.1)]) (fun s wz => s.2.1 ≤ 66 ∧ RdB0 w s.1 s.2.1 s.2.2.1 s.2.2.2 ∧ w = wz) ?_ ?_
 ·
  refine jD rfl (fun hc1 => ?_) fun hc1 => ?_
  ·
   refine jR (jm rfl (je (Run.sliceS 0 66 rfl zaf zbl evB.none_ (evB.some_ rfl) jo jo) (ja rfl (jO ?_))))
   refine jN ⟨(cP A c 0 2, 66 - 0, c - 0, l.take 66), (js1 rfl), ?_⟩
   exact ⟨by dsimp only; omega, hr.cut jo, rfl⟩
  refine jQ ?_
  refine jN ⟨(A, n, c, l), (js1 rfl), ?_⟩
  exact ⟨by dsimp only; omega, hr, rfl⟩
 rintro ⟨A1, n1, c1, l1⟩ _ ⟨hn1, hr1, rfl⟩ Γ hΓ
 dsimp only at *
 have hle1 := hr.le
 refine jN (VC.sub _ hΓ (jS (jR (ja rfl (jO (jN (jS (jR (jz 0 (jO (jN (jS (jS (jR (jz 0 (jO (jN (jB ?_))))))))))))))))))
 refine VC.loop (σ := Nat × Nat × Option Addr × Nat × List Bl) (fun s => [(0, .slice A1 n1 c1), (3, .slice s.2.2.1 s.1 s.2.2.2.1), (4, .int .i64 ((s.2.1 : Nat) : Int)), (5, .int .i64 ((s.1 : Nat) : Int))]) (fun s wr => s.1 ≤ n1 ∧ s.2.1 ≤ 4033 * s.1 ∧ s.2.2.2.2.length = s.1 ∧ Own wr 41 2 s.2.2.1 s.1 s.2.2.2.1 (BC s.2.2.2.2) ∧ (∀ x ∈ s.2.2.2.2, xI wr x) ∧ Frm [] w wr ∧ ∀ x ∈ ob s.2.2.1, w.heap.size ≤ x) (fun s => n1 - s.1) (0, 0, none, 0, []) (js4 rfl rfl rfl rfl) ⟨zau _, zk _, rfl, Own.nil _ _ _, jp, K, by simp [ob]⟩ ?_
 rintro ⟨i, all, B, m, lo⟩ wr ⟨hi, hall, hlo, ho, hfe, K, hob⟩
 dsimp only at *
 refine jS (jS (jR (jm rfl (jm rfl (je (Run.lenS rfl zaf) (jb rfl rfl (Bin.lssN _ _) (jO (jN (jv5 0 3 4 5 15 ?_)))))))))
 refine jD rfl (fun hc2 => ?_) fun hc2 => ?_
 ·
  have hrw := hr1.frm K
  have hle66 : i < l1.length := by rw [hr1.len]; exact hc2
  obtain ⟨h1e, h2e, h3e, h4e, h5e⟩ := hrw.el _ (fO hle66)
  obtain ⟨ad, hA, hel⟩ := hrw.cell hc2
  subst hA
  generalize l1.getD i bl0 = x at h1e h2e h3e h4e h5e hel
  refine jQ (jN (jv4 0 3 4 5 ?_))
  refine jS (jB (jS (jR (jm rfl (jm rfl (je (Run.indexS _ rfl rfl zaf zbl jo) (je (Run.loadA rfl Tryz.isAgg41 zbl hel (by first | rfl | (simp; done))) ?_)))))))
  refine Ops.m (qJ.alloc fF) rfl ?_
  rintro _ w1 ⟨rfl, hF1⟩
  refine Ops.st (qR.storeA rfl rfl zbl hF1.blk rfl (by intro v hv; exact BC_one [x] v (by simpa [BC] using hv))) ?_
  rintro w2 ⟨hb2, hf2, hs2⟩
  have hb2 : Blk w2 wr.heap.size 41 #[.int .u64 ((x.id : Nat) : Int), .slice x.A x.d.length x.c] := hb2
  have KZ : Frm [] wr w2 := hF1.frm.trans hf2 jp
  refine jO (jN (jv5 0 3 4 5 6 ?_))
  refine jS (jS (jR (jf rfl zag rfl zl (jl rfl zt (hb2.cell 1) (je (Run.lenS rfl ze) (jb rfl rfl (Bin.gtrN _ 4033) (jO (jN (jv6 0 3 4 5 6 25 ?_)))))))))
  refine VC.meet (σ := Bl) (fun s => [(0, .slice (some ad) n1 c1), (3, .slice B i m), (4, .int .i64 ((all : Nat) : Int)), (5, .int .i64 ((i : Nat) : Int)), (6, .pointer (some ⟨wr.heap.size, 0, none⟩))]) (fun s wz => Blk wz wr.heap.size 41 #[.int .u64 ((s.id : Nat) : Int), .slice s.A s.d.length s.c] ∧ qZs wz s ∧ Frm [] wr wz) ?_ ?_
  ·
   refine jD rfl (fun hc3 => ?_) fun hc3 => ?_
   ·
    refine jR (jf rfl zag rfl zl (jl rfl zt (hb2.cell 1) (je (Run.sliceS 0 4033 rfl ze zai evB.none_ (evB.some_ rfl) jo jo) (jf rfl zag rfl zl ?_))))
    refine Ops.st (qR.store rfl rfl zl hb2 rfl rfl) ?_
    rintro w3 ⟨hb3, hf3, hs3⟩
    have KZ3 := KZ.own hf3 jp
    have ht4 : (x.d.take 4033).length = 4033 := by rw [zj]; omega
    refine jO ?_
    refine jN ⟨⟨x.id, cP x.A x.c 0 1, x.c - 0, x.d.take 4033⟩, (js5 rfl rfl rfl rfl rfl), ?_⟩
    refine ⟨by dsimp only; rw [ht4]; exact hb3, ⟨by show (x.d.take 4033).length ≤ 4033; omega, by show (x.d.take 4033).length ≤ x.c - 0; omega, h3e, fun b hb => h4e b (zal hb), ?_⟩, KZ3⟩
    exact (qNo h5e h1e 4033 jo).frm KZ3 jp
   refine jQ ?_
   refine jN ⟨x, (js5 rfl rfl rfl rfl rfl), ?_⟩
   exact ⟨hb2, ⟨jo, h1e, h3e, h4e, h5e.frm KZ jp⟩, KZ⟩
  rintro y wz3 ⟨hb6, hfy, hKz⟩ Γ hΓ
  have hyl := hfy.1
  have hyc := hfy.2.1
  refine jN (VC.sub _ hΓ (jS (jS ?_)))
  refine VC.split1 [(0, _), (3, _), (4, _), (5, _), (6, _)] (js5 rfl rfl rfl rfl rfl) 41 (.bool (decide (1500 < all + y.d.length ∧ y.d.length ≤ 4032))) ?_ ?_
  ·
   refine jR ?_
   refine jm rfl (jf rfl zag rfl zl (jl rfl zt (hb6.cell 1) (je (Run.lenS rfl ze) (jb rfl rfl (Bin.add_i64 _ _ jo) (jb rfl rfl (Bin.gtrN _ 1500) ?_)))))
   by_cases hs35 : 1500 < all + y.d.length
   ·
    refine jM ?_
    refine jk (Run.fieldAddr rfl zag rfl zl jd) ?_
    refine jk (Run.load rfl zt (hb6.cell 1)) ?_
    refine jk (Run.lenS rfl ze) ?_
    refine jk (Run.bin rfl rfl (Bin.leqN _ 4032)) ?_
    by_cases hs40 : y.d.length ≤ 4032
    ·
     refine je (Run.pickT rfl rfl au) (jO ?_)
     refine jN ⟨(js6 (jC (by first | (simp [*]; done) | (simp; omega))) rfl rfl rfl rfl rfl), rfl⟩
    refine je (Run.pickT rfl rfl au) (jO ?_)
    refine jN ⟨(js6 (jC (by first | (simp [*]; done) | (simp; omega))) rfl rfl rfl rfl rfl), rfl⟩
   refine jM ?_
   refine jU ?_
   refine jU ?_
   refine jU ?_
   refine jU ?_
   refine je (Run.pickF rfl rfl au) (jO ?_)
   refine jN ⟨(js6 (jC (by first | (simp [*]; done) | (simp; omega))) rfl rfl rfl rfl rfl), rfl⟩
  intro Γ hΓ
  refine jN (VC.sub _ hΓ ?_)
  refine VC.meet (σ := Bl) (fun s => [(0, .slice (some ad) n1 c1), (3, .slice B i m), (4, .int .i64 ((all : Nat) : Int)), (5, .int .i64 ((i : Nat) : Int)), (6, .pointer (some ⟨wr.heap.size, 0, none⟩))]) (fun s wz => Blk wz wr.heap.size 41 #[.int .u64 ((s.id : Nat) : Int), .slice s.A s.d.length s.c] ∧ qZs wz s ∧ Frm [] wr wz) ?_ ?_
  ·
   refine jD rfl (fun hc4 => ?_) fun hc4 => ?_
   ·
    refine jR (jf rfl zag rfl zl ?_)
    refine Ops.st (qR.store rfl rfl zl hb6 rfl rfl) ?_
    rintro w4 ⟨hb4, hf4, hs4⟩
    have KZ4 := hKz.own hf4 jp
    refine jO ?_
    refine jN ⟨⟨y.id, none, 0, []⟩, (js5 rfl rfl rfl rfl rfl), ?_⟩
    exact ⟨hb4, ⟨zau _, zk _, hfy.2.2.1, jp, Rd.nil _ _ _⟩, KZ4⟩
   refine jQ ?_
   refine jN ⟨y, (js5 rfl rfl rfl rfl rfl), ?_⟩
   exact ⟨hb6, hfy, hKz⟩
  rintro z wz4 ⟨hb7, hfz, hKz4⟩ Γ hΓ
  have hzl := hfz.1
  have hzb := hfz.2.1
  refine jN (VC.sub _ hΓ (jS (jR (jm rfl (jf rfl zag rfl zl (jl rfl zt (hb7.cell 1) (je (Run.lenS rfl ze) (jb rfl rfl (Bin.add_i64 _ _ jo) (ja rfl (jO (jN (jv5 0 3 4 5 6 ?_))))))))))))
  refine jS (jR ?_)
  refine Ops.m (qJ.buildS0 ze zai) rfl ?_
  rintro _ w5 ⟨rfl, hF5⟩
  have hq5 : Own w5 5 1 (some ⟨wz4.heap.size, 0, none⟩) 0 0 (NB []) := Own.of_blk (n := 0) hF5.blk rfl jd
  have hb7' := hb7.frm hF5.frm jp
  have hKz5 := hKz4.trans hF5.frm jp
  have hzr5 := hfz.2.2.2.2.frm hF5.frm jp
  refine jf rfl zag rfl zl (jl rfl zt (hb7'.cell 1) ?_)
  refine Ops.m (qJ.app rfl rfl ze (dD) rfl jd hq5 hzr5 (dH _) jo jo) rfl ?_
  rintro _ w6 ⟨B6, c6, rfl, ho6, hf6, hob6⟩
  rw [← eE, zbm, zao] at ho6
  rw [zao]
  have hks4 := hKz4.size
  have hb8 := hb7'.frm hf6 (by
   simp only [ob, zh]
   have := hb7.lt
   omega)
  have hKz6 := hKz5.own hf6 (by simp [ob]; exact hks4)
  refine jf rfl zag rfl zl ?_
  refine Ops.st (qR.store rfl rfl zl hb8 rfl rfl) ?_
  rintro w7 ⟨hb9, hf7, hs7⟩
  have hb9 : Blk w7 wr.heap.size 41 #[.int .u64 ((z.id : Nat) : Int), .slice B6 z.d.length c6] := hb9
  have hu6 : ∀ x ∈ ob B6, wr.heap.size < x := fun x hx => by
   have h1 := hb7.lt
   rcases hob6 with h | h
   · rw [h] at hx; simp only [ob, zh] at hx; omega
   rw [h, zh] at hx
   have := hKz5.size
   have := hF5.frm.size
   omega
  have ho7 := ho6.frm hf7 (fun x hx hx2 => by have hx3 : x = wr.heap.size := zh.1 hx2; have := hu6 x hx; omega)
  have hKz7 := hKz6.own hf7 jp
  have hnew : xI w7 ⟨z.id, B6, c6, z.d⟩ := ⟨hfz.1, hfz.2.2.1, hfz.2.2.2.1, ho7⟩
  refine jO (jN (jv5 0 3 4 5 6 ?_))
  refine jR (jm rfl (je (Run.loadA rfl Tryz.isAgg41 zbl hb9.cells (by first | rfl | (simp; done))) ?_))
  refine Ops.m (qJ.buildS1 rfl zaf zbl fF jd jd rfl rfl) rfl ?_
  rintro _ w8 ⟨rfl, hF8⟩
  have hr8 : Rd w8 2 (some ⟨w7.heap.size, 0, none⟩) 1 (BC [Bl.mk z.id B6 c6 z.d]) := Rd.of_blk (n := 1) (size := 2) hF8.blk rfl
  have hKz8 := hKz7.trans hF8.frm jp
  have ho8 := ho.frm hKz8 jp
  refine Ops.m (qJ.app rfl rfl zaf (qRo) rfl jd ho8 hr8 (BC_one _) jo jo) rfl ?_
  rintro _ w9 ⟨B9, c9, rfl, ho9, hf9, hob9⟩
  rw [← qGt] at ho9
  have K8 := K.trans hKz8 jp
  have hks8 := K8.size
  have K9 := K8.own hf9 hob
  have hob9' : ∀ x ∈ ob B9, w.heap.size ≤ x := fun x hx => by
   rcases hob9 with h | h
   · rw [h] at hx; exact hob x hx
   rw [h, zh] at hx; omega
  refine ja rfl (jO ?_)
  refine qK (jN ?_)
  refine jv4 0 3 4 5 ?_
  refine jR (jm rfl (jb rfl rfl (Bin.add_i64 _ 1 jo) (ja rfl (jO ?_))))
  refine jN ⟨(i + 1, all + z.d.length, B9, c9, lo ++ [Bl.mk z.id B6 c6 z.d]), (js4 rfl rfl rfl rfl), ?_, ?_⟩
  ·
   refine ⟨hc2, by dsimp only; omega, by simp [hlo], ho9, fun q hq => ?_, K9, hob9'⟩
   have hq8 : xI w8 q := by
    rcases List.mem_append.1 hq with h | h
    · exact (hfe q h).frm hKz8 jp
    rw [zh] at h
    subst h
    exact hnew.frm hF8.frm jp
   exact hq8.frm hf9 (fun y hy hy2 => ho8.ne_own hq8.2.2.2 jd y hy2 hy)
  first | omega | (dsimp only; omega)
 refine jX ?_
 refine qZ (qZ (qP ?_))
 refine jN (jv1 3 ?_)
 refine jS (jR (jm rfl (ja rfl (jO (jN (jv1 2 ?_))))))
 refine jT ?_
 refine qD rfl ?_
 exact ⟨B, i, m, lo, rfl, jo, ⟨hlo, ho.rd, fun x hx => by
  obtain ⟨h1, h2, h3, h4⟩ := hfe x hx
  exact ⟨h4.le, jo, h2, h3, h4.rd⟩⟩, K⟩
end
section
open Go.RowKit
theorem qJo (A : Option Addr) (n c : Nat) (l : List Bl) (w : World) (hn : n ≤ 1000000) (hr : RdB w A n l) :
  Calls Tryz.prog 7 #[.slice A n c] w fun e w' => ∃ B d k X, e = .returned (.tuple #[.slice B X.length d, .int .i64 ((k : Nat) : Int)]) ∧ Own w' 5 1 B X.length d (NB X) ∧ Frm [] w w' ∧ (∀ x ∈ ob B, w.heap.size ≤ x) ∧ (fV l → X = segM (l.map Bl.b) ∧ k = 0) ∧ (¬ fV l → X = [] ∧ k = 1) := by
 by_cases h : fV l
 ·
  refine (rT A n c l w hn hr h).mono ?_
  rintro e w' ⟨B, d, rfl, ho, hf, hu⟩
  exact ⟨B, d, 0, _, rfl, ho, hf, hu, fun _ => ⟨rfl, rfl⟩, fun h2 => absurd h h2⟩
 refine (uP A n c l w hn hr h).mono ?_
 rintro e w' ⟨rfl, hf⟩
 exact ⟨none, 0, 1, [], rfl, Own.nil _ _ _, hf, by simp [ob], fun h2 => absurd h2 h, fun _ => ⟨rfl, rfl⟩⟩
end
section
open Go.RowKit
open Go.ChangeShapes Go.WideShapes Go.Deep
theorem qKv {z : Int} (h : (Lit.int .u64 z).wf = true) : ∃ n : Nat, z = (n : Int) ∧ n < 18446744073709551616 := by
 have h1 : 0 ≤ z ∧ z < 18446744073709551616 := by
  simp [Lit.wf, IntKind.min, IntKind.max, IntKind.signed, IntKind.bits] at h
  omega
 exact ⟨z.toNat, jo, jo⟩
theorem qWg {H : Type} {enc : TypeId × Value → H} {w : World} {base : Nat} {spare : Nat → Bool} {held : Bool} {fuel len cap : Nat} {a : Option Addr} {x : DataW H × List MemPlace}
  (h : DataW.trod enc Tryz.prog w base spare held fuel 22 [.slice a len cap] = some x) : ∃ l, RdB0 w a len cap l ∧ len ≤ 9223372036854775807 := by
 obtain ⟨ls, hll, hlc, hcm, hrd, hels⟩ := qK0 zaf zag jK jK jd h
 have key : ∀ i, i < len → ∃ s : Bl, ls[i]? = some (blC s) ∧ s.d.length ≤ s.c ∧ s.d.length ≤ 9223372036854775807 ∧ s.id < 18446744073709551616 ∧ (∀ b ∈ s.d, b < 256) ∧ Rd w 1 s.A s.d.length (NB s.d) := by
  intro i hi
  obtain ⟨hl4, hf⟩ := hels _ (zw (jo : i < ls.length))
  have hli : ls[i]? = some ls[i] := za jo
  generalize ls[i] = l at *
  match l, hl4 with
  | [c0, c1], _ =>
   obtain ⟨v0, y0, m0, e0, t0⟩ := hf 0 _ rfl
   obtain ⟨v1, y1, m1, e1, t1⟩ := hf 1 _ rfl
   simp only [List.getElem?_cons_zero, List.getElem?_cons_succ, Option.some.injEq] at e0 e1
   subst e0 e1
   obtain ⟨z, h0, hw⟩ := pU zaa t0
   obtain ⟨A, k, c, h1⟩ := vI ze t1
   simp only [List.cons.injEq, and_true] at h0 h1
   subst h0 h1
   obtain ⟨n, rfl, hn⟩ := qKv hw
   obtain ⟨bs, hbl, hbc, hbm, hb, hr⟩ := qHe ze zbe jK t1
   subst hbl
   exact ⟨⟨n, A, c, bs⟩, hli, hbc, by simp only; omega, hn, hb, hr⟩
 obtain ⟨ss, hsl, hq⟩ := oY len key
 have e : ls.flatMap id = BC ss := by
  have : ls = ss.map blC := by
   apply zaq
   intro i
   rw [zbf]
   by_cases hi : i < len
   ·
    have := (hq i _ (za (jo : i < ss.length))).1
    rw [this, za (jo : i < ss.length)]
    rfl
   rw [zr jo, zr jo]
   rfl
  rw [this, List.flatMap_map]
  rfl
 refine ⟨ss, ⟨hsl, hlc, ?_, fun y hy => ?_⟩, jo⟩
 ·
  rw [← e]
  exact hrd
 obtain ⟨i, hi, rfl⟩ := zbd hy
 exact (hq i _ (za hi)).2
end
section
open Go.RowKit
theorem qRk (d : List Nat) (f n : Nat) : kJ d f n ≤ n / 256 + 2 := by
 unfold kJ
 split
 · omega
 omega
theorem qG9 (d : List Nat) (f n : Nat) : kJ d f n = 0 ↔ (d.drop f).take n = [] := by
 unfold kJ
 rw [← List.length_eq_zero_iff, zj, zq]
 split <;> omega
end
section
open Go.RowKit
theorem qHa (g i : Nat) (f n : Int) (L : List Bb) (w : World) (hS : oR w g L) (hM : nN L) (hi : i < L.length) (hf : f ≤ 9223372036854775807) (hn : n ≤ 9223372036854775807) :
  Calls Tryz.prog 13 #[.pointer (some ⟨g, 0, none⟩), .int .u64 (((L.getD i b0).1 : Nat) : Int), .int .i64 f, .int .i64 n] w fun e w' => ∃ B m p ct er, e = .returned (.tuple #[.slice B (List.length p) m, .int .i64 ((ct : Nat) : Int), .int .i64 ((er : Nat) : Int)]) ∧ Rd w' 1 B p.length (NB p) ∧ Frm [] w w' ∧ ((f < 0 ∨ n < 0) → p = [] ∧ er = 1) ∧ (∀ f' n' : Nat, f = (f' : Int) → n = (n' : Int) → p = ((L.getD i b0).2.drop f').take n' ∧ ct = kJ (L.getD i b0).2 f' n' ∧ er = 0) := by
 by_cases h : f < 0 ∨ n < 0
 ·
  refine (qG3 g i f n L w hS hM hi h).mono ?_
  rintro e w' ⟨rfl, hf⟩
  exact ⟨none, 0, [], 0, 1, rfl, Rd.nil _ _ _, hf, fun _ => ⟨rfl, rfl⟩, fun f' n' h1 h2 => jo⟩
 obtain ⟨f', rfl⟩ : ∃ k : Nat, f = k := ⟨f.toNat, jo⟩
 obtain ⟨n', rfl⟩ : ∃ k : Nat, n = k := ⟨n.toNat, jo⟩
 refine (kL g i f' n' L w hS hM hi jo jo).mono ?_
 rintro e w' ⟨B, m, rfl, hr, hf⟩
 refine ⟨B, m, _, _, 0, rfl, hr, hf, fun h2 => absurd h2 h, fun f2 n2 h1 h2 => ?_⟩
 obtain rfl : f' = f2 := jo
 obtain rfl : n' = n2 := jo
 exact ⟨rfl, rfl, rfl⟩
theorem qNp (l : List Bl) (i : Nat) : (l.map Bl.b).getD i b0 = (l.getD i bl0).b := by
 rw [zc, zc, zbf]
 cases l[i]? <;> rfl
set_option maxHeartbeats 1000000 in
theorem qJp (A : Option Addr) (nn c at_ : Nat) (l : List Bl) (f n : Int) (w : World) (hn : nn ≤ 9223372036854775807) (hr : RdB0 w A nn c l) (hat : at_ < 18446744073709551616) (hfa : -9223372036854775808 ≤ f) (hfb : f ≤ 9223372036854775807) (hna : -9223372036854775808 ≤ n) (hnb : n ≤ 9223372036854775807) :
  Calls Tryz.prog 5 #[.agg #[.slice A nn c, .int .u64 ((at_ : Nat) : Int), .int .i64 f, .int .i64 n]] w fun e w' => e = .returned (.bool true) ∧ Frm [] w w' := by
 refine VC.calls (nt := 154) (res := #[.tmp 2]) Tryz.func5 rfl Tryz.ntmps5 Tryz.results5 rfl ?_
 refine jS (jR ?_)
 refine Ops.m (qJ.box rfl) rfl ?_
 rintro _ w0 ⟨rfl, hF0⟩
 have K0 := hF0.frm
 have hb0 := hF0.blk
 have hr := hr.frm K0
 refine ja rfl (jO (jN (jv1 1 ?_)))
 refine jS ?_
 refine VC.held (fun v => Frm [] w0 v ∧ Blk v w.heap.size 38 #[.slice A nn c, .int .u64 ((at_ : Nat) : Int), .int .i64 f, .int .i64 n]) jK ?_
 have hS : (fun v => Frm [] w0 v ∧ Blk v w.heap.size 38 #[.slice A nn c, .int .u64 ((at_ : Nat) : Int), .int .i64 f, .int .i64 n]) w0.drew := ⟨(qQ.drew w0).frm, hb0.drawn (qQ.drew w0)⟩
 refine jH 0 rfl hS (fun w0 hw0 => Run.fieldAddr rfl zhb rfl Tryz.sizeOf22 jd) ?_
 refine jH 1 rfl hS (fun w0 hw0 => Run.load rfl Tryz.isAgg22 (hw0.2.cell 0)) ?_
 refine jH 3 rfl hS (fun w0 hw0 => Run.fieldAddr rfl zhb rfl Tryz.sizeOf36 jd) ?_
 refine jH 4 rfl hS (fun w0 hw0 => Run.load rfl Tryz.isAgg36 (hw0.2.cell 1)) ?_
 refine jH 5 rfl hS (fun w0 hw0 => Run.fieldAddr rfl zhb rfl zd jd) ?_
 refine jH 6 rfl hS (fun w0 hw0 => Run.load rfl zg (hw0.2.cell 2)) ?_
 refine jH 7 rfl hS (fun w0 hw0 => Run.fieldAddr rfl zhb rfl zd jd) ?_
 refine jH 8 rfl hS (fun w0 hw0 => Run.load rfl zg (hw0.2.cell 3)) ?_
 refine qV.cl 2 rfl jK (jE1 Tryz.call6) (qWf A nn c l _ hn (hr.frm hS.1)) trivial rfl rfl ?_
 rintro e w1 ⟨A1, n1, c1, l1, rfl, hn1', hr1, K1⟩
 have hS := And.intro (hS.1.trans K1 jp) (hS.2.frm K1 jp)
 refine ⟨_, rfl, hS, ?_⟩
 have K := K0.trans hS.1 jp
 refine jH 9 rfl hS (fun w0 hw0 => Run.asg rfl) ?_
 refine jH 10 rfl hS (fun w0 hw0 => Run.asg rfl) ?_
 refine jH 11 rfl hS (fun w0 hw0 => Run.asg rfl) ?_
 refine jH 12 rfl hS (fun w0 hw0 => Run.asg rfl) ?_
 refine qV.done jK ?_
 refine jN (jv4 3 4 5 6 ?_)
 refine jS (jR (jM ?_))
 refine Ops.cl (jE1 Tryz.call7) (qJo A1 n1 c1 l1 _ jo hr1) rfl ?_
 rintro e w2 ⟨B, d, k, X, rfl, ho2, hf2, hu2, hy1, hy2⟩
 refine ⟨_, rfl, ?_⟩
 have K := K.trans hf2 jp
 have hr2 := hr1.frm hf2
 refine jm rfl (je (Run.extract rfl rfl) (je (Run.extract rfl rfl) (ja rfl (ja rfl (jO (jN (jv6 3 4 5 6 7 8 ?_)))))))
 refine jS (jS (jR (jm rfl (jb rfl rfl (Bin.neqN _ 0) (jO (jN (jv6 3 4 5 6 7 33 ?_)))))))
 refine jD rfl (fun hc1 => ?_) fun hc1 => ?_
 ·
  have hnm : ¬ fV l1 := fun h => hc1 (hy1 h).2
  obtain ⟨rfl, rfl⟩ := hy2 hnm
  refine jS (jR (jM ?_))
  refine Ops.cl (jE1 Tryz.call8) (qGu A1 n1 c1 l1 _ jo hr2) rfl ?_
  rintro e w3 ⟨rfl, hd3⟩
  refine ⟨_, rfl, ?_⟩
  have K := K.drawn hd3
  refine je (Run.not rfl) (jM ?_)
  refine jG ?_
  refine jk (Run.lenS rfl ze) ?_
  refine jk (Run.bin rfl rfl (Bin.eqlN _ 0)) ?_
  refine je (Run.pickT rfl rfl au) (jM ?_)
  refine Ops.clg rfl au (jE0 Tryz.call9) (nR _) rfl ?_
  rintro e w9 ⟨rfl, hf9⟩
  refine ⟨_, rfl, ?_⟩
  have K := K.trans hf9 jp
  refine je (Run.pickT rfl rfl au) (ja rfl (jO (jN (jv1 2 ?_))))
  refine jT ?_
  refine qN (qD rfl ?_)
  exact ⟨rfl, K⟩
 have hm : fV l1 := Classical.byContradiction (fun h => by have := (hy2 h).2; omega)
 obtain ⟨rfl, rfl⟩ := hy1 hm
 clear hy1 hy2
 have hM := qWe hr1 hm
 have h1l := hm.2.1
 have hL1 := hr1.len
 refine jQ (jN (jv5 3 4 5 6 7 ?_))
 refine jS (jR (jM ?_))
 refine Ops.cl (jE1 Tryz.call11) (vG B d (l1.map Bl.b) _ hM ho2.le ho2.rd) rfl ?_
 rintro e w4 ⟨g, rfl, hs4, hf4⟩
 refine ⟨_, rfl, ?_⟩
 have K := K.trans hf4 jp
 have hr4 := hr2.frm hf4
 obtain ⟨ix, hix⟩ : ∃ ix, ix = at_ % n1 := ⟨_, rfl⟩
 have hixl : ix < n1 := by rw [hix]; exact Nat.mod_lt _ jo
 obtain ⟨ad, rfl, hel⟩ := hr4.cell hixl
 obtain ⟨h1e, h2e, h3e, h4e, h5e⟩ := hr4.el _ (fO (jo : ix < l1.length))
 have hgb := qNp l1 ix
 have hlm : ix < (l1.map Bl.b).length := by rw [zu]; omega
 generalize l1.getD ix bl0 = x at hel h1e h2e h3e h4e h5e hgb
 rw [show x.b = (x.id, x.d) from rfl] at hgb
 refine jm rfl (je (Run.extract rfl rfl) (je (Run.extract rfl rfl) (ja rfl (ja rfl (jO (jN (jv6 3 4 5 6 9 10 ?_)))))))
 refine jS (jS (jR (jm rfl (je (Run.eqlNilP rfl rfl Tryz.underlying32) (jM ?_)))))
 refine jG ?_
 refine jk (Run.bin rfl rfl (Bin.neqN _ 0)) ?_
 refine je (Run.pickF rfl rfl au) (jM ?_)
 refine jG ?_
 refine jk (Run.lenS rfl zaf) ?_
 refine jk (Run.bin rfl rfl (Bin.eqlN _ 0)) ?_
 refine je (Run.pickF rfl rfl au) (jO (jN (jv6 3 4 5 6 9 60 ?_)))
 refine VC.condF rfl (decide_eq_false jo) ?_
 refine jQ (jN (jv5 3 4 5 6 9 ?_))
 refine jS (jR (jm rfl (jm rfl (jm rfl (je (Run.lenS rfl zaf) (je (Run.convN _ rfl zab Tryz.underlying36 (by simp only [bmax]; omega)) (jb rfl rfl (Bin.remN _ _ jo) ?_)))))))
 rw [← hix]
 refine je (Run.indexS _ rfl rfl zaf zbl jo) (je (Run.loadA rfl Tryz.isAgg41 zbl hel (by first | rfl | (simp; done))) ?_)
 refine Ops.m (qJ.alloc fF) rfl ?_
 rintro _ w5 ⟨rfl, hF5⟩
 refine Ops.st (qR.storeA rfl rfl zbl hF5.blk rfl (by intro v hv; exact BC_one [x] v (by simpa [BC] using hv))) ?_
 rintro w6 ⟨hb6, hf6, hz6⟩
 have hb6 : Blk w6 w4.heap.size 41 #[.int .u64 ((x.id : Nat) : Int), .slice x.A x.d.length x.c] := hb6
 have K46 : Frm [] w4 w6 := hF5.frm.trans hf6 jp
 have K := K.trans K46 jp
 have hs6 := hs4.frm K46
 have hr6 := h5e.frm K46 jp
 have hwh := qJm g ix (l1.map Bl.b) w6 hs6 hM hlm
 rw [hgb] at hwh
 dsimp only at hwh
 refine jO (jN (jv4 5 6 9 11 ?_))
 refine jS (jR (jm rfl (jf rfl zag rfl zay (jl rfl zbu (hb6.cell 0) ?_))))
 refine Ops.cl (jE2 Tryz.call12) (hwh) rfl ?_
 rintro e w7 ⟨B7, m7, rfl, hr7, hf7⟩
 refine ⟨_, rfl, ?_⟩
 have K := K.trans hf7 jp
 have hs7 := hs6.frm hf7
 have hb7 := hb6.frm hf7 jp
 have hx7 := hr6.frm hf7 jp
 have hrd := qHa g ix f n (l1.map Bl.b) w7 hs7 hM hlm hfb hnb
 rw [hgb] at hrd
 dsimp only at hrd
 refine jm rfl (je (Run.extract rfl rfl) (je (Run.extract rfl rfl) (ja rfl (ja rfl (jO (jN (jv6 5 6 9 11 12 13 ?_)))))))
 refine jS (jR (jm rfl (jf rfl zag rfl zay (jl rfl zbu (hb7.cell 0) (jm rfl (jM ?_))))))
 refine Ops.cl (jE4 Tryz.call13) (hrd) rfl ?_
 rintro e w8 ⟨B8, m8, p, ct, er, rfl, hr8, hf8, hneg, hpos⟩
 refine ⟨_, rfl, ?_⟩
 have K := K.trans hf8 jp
 have hb8 := hb7.frm hf8 jp
 have hx8 := hx7.frm hf8 jp
 have hU7 : Rd w8 1 B7 x.d.length (U8 (x.d.map UInt8.ofNat)) := by rw [← vC _ h4e]; exact hr7.frm hf8 jp
 have hUx : Rd w8 1 x.A x.d.length (U8 (x.d.map UInt8.ofNat)) := by rw [← vC _ h4e]; exact hx8
 refine jm rfl (je (Run.extract rfl rfl) (je (Run.extract rfl rfl) (je (Run.extract rfl rfl) (ja rfl (ja rfl (ja rfl (jO (jN (jv8 5 6 11 12 13 14 15 16 ?_)))))))))
 refine jS (jS (jR (jm rfl (je (Run.strOfT rfl ze zbe zdq hU7) (jf rfl zag rfl zl (jl rfl zt (hb8.cell 1) (je (Run.strOfT rfl ze zbe zdq hUx) (je (Run.neqT rfl rfl) (jM ?_)))))))))
 refine jG ?_
 refine jk (Run.bin rfl rfl (Bin.neqN _ 0)) ?_
 refine je (Run.pickF rfl rfl au) (jO (jN (jv7 5 6 11 14 15 16 95 ?_)))
 refine VC.condF rfl (decide_eq_false jo) ?_
 refine jQ (jN (jv6 5 6 11 14 15 16 ?_))
 refine jS (jS ?_)
 refine VC.split1 [(5, _), (6, _), (11, _), (14, _), (15, _), (16, _)] (js6 rfl rfl rfl rfl rfl rfl) 101 (.bool (decide (f < 0 ∨ n < 0))) ?_ ?_
 ·
  refine jR ?_
  refine jm rfl (jb rfl rfl (Bin.lss _ 0) ?_)
  by_cases hs97 : f < 0
  ·
   refine jM ?_
   refine jU ?_
   refine jU ?_
   refine je (Run.pickT rfl rfl au) (jO ?_)
   refine jN ⟨(js7 (jC (by first | (simp [*]; done) | (simp; omega))) rfl rfl rfl rfl rfl rfl), rfl⟩
  refine jM ?_
  refine jG ?_
  refine jk (Run.bin rfl rfl (Bin.lss _ 0)) ?_
  by_cases hs100 : n < 0
  ·
   refine je (Run.pickF rfl rfl au) (jO ?_)
   refine jN ⟨(js7 (jC (by first | (simp [*]; done) | (simp; omega))) rfl rfl rfl rfl rfl rfl), rfl⟩
  refine je (Run.pickF rfl rfl au) (jO ?_)
  refine jN ⟨(js7 (jC (by first | (simp [*]; done) | (simp; omega))) rfl rfl rfl rfl rfl rfl), rfl⟩
 intro Γ hΓ
 refine jN (VC.sub _ hΓ ?_)
 refine jD rfl (fun hc4 => ?_) fun hc4 => ?_
 ·
  obtain ⟨hp, he⟩ := hneg hc4
  subst hp he
  refine jS (jR (jm rfl (je (Run.lenS rfl ze) (jb rfl rfl (Bin.eqlN _ 0) (jM ?_)))))
  refine jG ?_
  refine jk (Run.bin rfl rfl (Bin.eqlN _ 1)) ?_
  refine je (Run.pickT rfl rfl au) (jM ?_)
  refine Ops.clg rfl au (jE0 Tryz.call9) (nR _) rfl ?_
  rintro e w9 ⟨rfl, hf9⟩
  refine ⟨_, rfl, ?_⟩
  have K := K.trans hf9 jp
  refine je (Run.pickT rfl rfl au) (ja rfl (jO (jN (jv1 2 ?_))))
  refine jT ?_
  refine qN (qD rfl ?_)
  exact ⟨rfl, K⟩
 obtain ⟨f', rfl⟩ : ∃ k : Nat, f = k := ⟨f.toNat, jo⟩
 obtain ⟨n', rfl⟩ : ∃ k : Nat, n = k := ⟨n.toNat, jo⟩
 obtain ⟨hp, hct, her⟩ := hpos f' n' rfl rfl
 subst hp hct her
 clear hneg hpos
 have hcle := qRk x.d f' n'
 have hpb : ∀ b ∈ (x.d.drop f').take n', b < 256 := fun b hb => h4e b (zbz (zal hb))
 have hbe : (decide (kJ x.d f' n' = 0) == decide (((x.d.drop f').take n').map UInt8.ofNat = [])) = true := by rw [beq_iff_eq, decide_eq_decide, qG9, List.map_eq_nil_iff]
 have hU8 : Rd w8 1 B8 ((x.d.drop f').take n').length (U8 (((x.d.drop f').take n').map UInt8.ofNat)) := by rw [← vC _ hpb]; exact hr8
 refine jQ (jN (jv6 5 6 11 14 15 16 ?_))
 refine jS (jR (ja rfl (jO (jN (jS (jS (jR (jm rfl (jf rfl zag rfl zl (jl rfl zt (hb8.cell 1) (je (Run.lenS rfl ze) (jb rfl rfl (Bin.lss _ _) (jO (jN (jv8 5 6 11 14 15 16 17 116 ?_)))))))))))))))
 refine VC.meet (σ := Unit) (fun s => [(6, .int .i64 ((n' : Nat) : Int)), (14, .slice B8 ((x.d.drop f').take n').length m8), (15, .int .i64 ((kJ x.d f' n' : Nat) : Int)), (16, .int .i64 ((0 : Nat) : Int)), (17, encStr (((x.d.drop f').take n').map UInt8.ofNat))]) (fun s wz => w8 = wz) ?_ ?_
 ·
  refine jD rfl (fun hc5 => ?_) fun hc5 => ?_
  ·
   have hcut := hx8.cut (l := f') (r := x.d.length) (cap := x.c) jo (zk _) h1e
   have e1 : ((NB x.d).drop (f' * 1)).take ((x.d.length - f') * 1) = U8 ((x.d.drop f').map UInt8.ofNat) := by
    rw [← vC _ (fun b hb => h4e b (zbz hb)), zcw, zcw, zm (by simp [NB])]
    simp [NB, zgj]
   rw [e1] at hcut
   have hdl : ((x.d.drop f').map UInt8.ofNat).length = x.d.length - f' := jp
   refine jS (jR (jf rfl zag rfl zl (jl rfl zt (hb8.cell 1) (jm rfl (je (Run.sliceS _ _ rfl ze zai (evB.some_ rfl) evB.none_ jo jo) (je (Run.strOfT rfl ze zbe zdq hcut) (ja rfl (jO (jN (jv5 6 14 15 16 17 ?_))))))))))
   refine jS (jR (jm rfl (jm rfl (je (Run.lenT rfl zdq) (jb rfl rfl (Bin.lss _ _) (jO (jN (jv6 6 14 15 16 17 125 ?_))))))))
   refine jD rfl (fun hc6 => ?_) fun hc6 => ?_
   ·
    refine jR (jm rfl (jm rfl (je (Run.sliceT 0 _ rfl zdq evB.none_ (evB.some_ rfl) jo jo) (ja rfl (jO ?_)))))
    refine jN ⟨(), (js5 rfl rfl rfl rfl (congrArg (fun q => some (encStr q)) (show ((((x.d.drop f').map UInt8.ofNat).drop 0).take (n' - 0)) = ((x.d.drop f').take n').map UInt8.ofNat by simp [zdu]))), ?_⟩
    exact rfl
   refine jQ ?_
   refine jN ⟨(), (js5 rfl rfl rfl rfl (congrArg (fun q => some (encStr q)) (show (x.d.drop f').map UInt8.ofNat = ((x.d.drop f').take n').map UInt8.ofNat by rw [zm (by rw [zq]; omega)]))), ?_⟩
   exact rfl
  refine jQ ?_
  refine jN ⟨(), (js5 rfl rfl rfl rfl (congrArg (fun q => some (encStr q)) (show [] = ((x.d.drop f').take n').map UInt8.ofNat by rw [zcx jo, List.take_nil]; rfl))), ?_⟩
  exact rfl
 rintro _ _ rfl Γ hΓ
 refine jN (VC.sub _ hΓ (jS (jR (jm rfl (je (Run.strOfT rfl ze zbe zdq hU8) (jm rfl (je (Run.eqlT rfl rfl) (jM ?_))))))))
 refine jG ?_
 refine jk (Run.bin rfl rfl (Bin.eqlN _ 0)) ?_
 refine je (Run.pickT rfl rfl au) (jM ?_)
 refine jG ?_
 refine jG ?_
 refine jk (Run.bin rfl rfl (Bin.quoN n' 256 jd (by show n' / 256 ≤ 9223372036854775807; omega))) ?_
 refine jk (Run.bin rfl rfl (Bin.addN _ 2 (by show n' / 256 + 2 ≤ 9223372036854775807; omega))) ?_
 refine jk (Run.bin rfl rfl (Bin.leqN _ _)) ?_
 refine je (Run.pickT rfl rfl au) (jM ?_)
 refine jG ?_
 refine jk (Run.bin rfl rfl (Bin.eqlN _ 0)) ?_
 refine jG ?_
 refine jk (Run.eqlT rfl rfl) ?_
 refine jk (Run.eqlB rfl rfl Tryz.underlying4) ?_
 refine je (Run.pickT rfl rfl au) (jM ?_)
 refine Ops.clg rfl au (jE0 Tryz.call9) (nR _) rfl ?_
 rintro e w9 ⟨rfl, hf9⟩
 refine ⟨_, rfl, ?_⟩
 have K := K.trans hf9 jp
 refine je (Run.pickT rfl rfl au) (ja rfl (jO (jN (jv1 2 ?_))))
 refine jT ?_
 refine qD rfl ?_
 exact ⟨rfl, K⟩
end
end Go.Proofs.YtndjgmbfkkgpdaaGreat
