/-
  Lemmas on the way, joined: HotQ0, HotWw.
-/
import Derived.Test.YtoniopdkbeogjaaPk3
set_option maxRecDepth 100000
set_option linter.unusedVariables false
set_option linter.unusedSimpArgs false
namespace Go.Proofs.Ytoniopdkbeogjaa
section
open Go.RowKit Go.ChangeShapes Go.WideShapes Go.Deep
section
variable {H : Type} {enc : TypeId × Value → H} {w : World} {base : Nat} {spare : Nat → Bool} {held : Bool} {n : Nat} {cs : List Value} {x : DataW H × List MemPlace}
theorem qQ8 (h : DataW.trod enc Try.prog w base spare held n 4 cs = some x) : ∃ b : Bool, cs = [.bool b] ∧ True := by
 obtain ⟨b, h1, _⟩ := DataW.trod_bool Try.underlying4 h
 exact ⟨b, h1, trivial⟩
theorem zJ (h : DataW.trod enc Try.prog w base spare held n 36 cs = some x) : ∃ (A : Option Addr) (c : Nat) (bs : List Nat), cs = [.slice A bs.length c] ∧ bs.length ≤ c ∧ c ≤ 9223372036854775807 ∧ (∀ b ∈ bs, b < 256) ∧ Rd w 1 A bs.length (NB bs) := by
 obtain ⟨A, len, c, rfl⟩ := oL ze h
 obtain ⟨bs, rfl, h1, h2, h3, h4⟩ := qXe ze zbh jK h
 exact ⟨A, c, bs, rfl, h1, h2, h3, h4⟩
end
theorem wD {H : Type} {enc : TypeId × Value → H} {w : World} {base : Nat} {spare : Nat → Bool} {held : Bool} {n : Nat} {cs : List Value} {x : DataW H × List MemPlace} (h : DataW.trod enc Try.prog w base spare held n 38 cs = some x) :
  ∃ (id : Int) (A : Option Addr) (c : Nat) (bs : List Nat) (gg : Bool), cs = ([.int .u64 id] ++ ([.slice A bs.length c] ++ ([.bool gg] ++ [] : List Value) : List Value) : List Value) ∧ ((Lit.int .u64 id).wf = true) ∧ (bs.length ≤ c ∧ c ≤ 9223372036854775807 ∧ (∀ b ∈ bs, b < 256) ∧ Rd w 1 A bs.length (NB bs)) ∧ (True) := by
 obtain ⟨hlen, n', hf⟩ := yK zp h
 have hl : cs.length = 3 := hlen.trans jK
 obtain ⟨a0, a1, a2, rfl⟩ : ∃ a0 a1 a2, cs = [a0, a1, a2] := by
  match cs, hl with
  | [a0, a1, a2], _ => exact ⟨a0, a1, a2, rfl⟩
 clear h hlen hl
 obtain ⟨y0, h0⟩ := hf 0 _ rfl
 have h0 : DataW.trod enc Try.prog w base spare held n' 35 ([a0, a1, a2].take (Try.prog.cellsOf 35)) = some y0 := h0
 rw [show Try.prog.cellsOf 35 = 1 by kernel_rfl] at h0
 have h0 : DataW.trod enc Try.prog w base spare held n' 35 [a0] = some y0 := h0
 obtain ⟨id, e0, q0⟩ := qXj zai h0
 obtain ⟨y1, h1⟩ := hf 1 _ rfl
 have h1 : DataW.trod enc Try.prog w base spare held n' 36 ([a1, a2].take (Try.prog.cellsOf 36)) = some y1 := h1
 rw [show Try.prog.cellsOf 36 = 1 by kernel_rfl] at h1
 have h1 : DataW.trod enc Try.prog w base spare held n' 36 [a1] = some y1 := h1
 obtain ⟨A, c, bs, e1, q1⟩ := zJ h1
 obtain ⟨y2, h2⟩ := hf 2 _ rfl
 have h2 : DataW.trod enc Try.prog w base spare held n' 4 ([a2].take (Try.prog.cellsOf 4)) = some y2 := h2
 rw [show Try.prog.cellsOf 4 = 1 by kernel_rfl] at h2
 have h2 : DataW.trod enc Try.prog w base spare held n' 4 [a2] = some y2 := h2
 obtain ⟨gg, e2, q2⟩ := qQ8 h2
 refine ⟨id, A, c, bs, gg, ?_, q0, q1, q2⟩
 show ([a0] ++ ([a1] ++ ([a2] ++ [] : List Value) : List Value) : List Value) = _
 rw [e0, e1, e2]
 try rfl
section
variable {H : Type} {enc : TypeId × Value → H} {w : World} {base : Nat} {spare : Nat → Bool} {held : Bool}
def zK (w : World) (y : Cq) : Prop := (y.1 < 18446744073709551616 ∧ y.2.1.2.2.length ≤ 9223372036854775807) ∧ (∀ b ∈ y.2.1.2.2, b < 256) ∧ Rd w 1 y.2.1.1 y.2.1.2.2.length (NB y.2.1.2.2) ∧ y.2.1.2.2.length ≤ y.2.1.2.1
theorem wE {n : Nat} {cs : List Value} {x : DataW H × List MemPlace} (h : DataW.trod enc Try.prog w base spare held n 38 cs = some x) : ∃ y : Cq, cs = cqC y ∧ zK w y := by
 obtain ⟨id, A, c, bs, gg, rfl, h0, ⟨h1, h2, h3, h4⟩, -⟩ := wD h
 have hid : 0 ≤ id ∧ id < 18446744073709551616 := by
  simp [Lit.wf, IntKind.min, IntKind.max, IntKind.signed, IntKind.bits] at h0
  omega
 refine ⟨(id.toNat, (A, c, bs), gg), ?_, ⟨by dsimp only; omega, by dsimp only; omega⟩, h3, h4, h1⟩
 show [Value.int .u64 id, .slice A bs.length c, .bool gg] = [.int .u64 ((id.toNat : Nat) : Int), SL (A, c, bs), .bool gg]
 rw [Int.toNat_of_nonneg hid.1]
 rfl
theorem zV {fuel len cap : Nat} {a : Option Addr} {x : DataW H × List MemPlace} (h : DataW.trod enc Try.prog w base spare held fuel 31 [.slice a len cap] = some x) :
  ∃ l : List Cq, l.length = len ∧ len ≤ cap ∧ cap ≤ 9223372036854775807 ∧ Rd w 3 a l.length (l.flatMap cqC) ∧ ∀ y ∈ l, zK w y := by
 have hC : Try.prog.cellsOf 38 = 3 := by kernel_rfl
 rcases open_slice zab h with ⟨hcs, _⟩ | ⟨ad, l, c, m, n, D, Pl, hcs, _, hl, hm, hmm, _, hi⟩
 ·
  simp only [List.cons.injEq, Value.slice.injEq, and_true] at hcs
  obtain ⟨rfl, rfl, rfl⟩ := hcs
  exact ⟨[], rfl, zm _, jo, Rd.nil _ _ _, jp⟩
 simp only [List.cons.injEq, Value.slice.injEq, and_true] at hcs
 obtain ⟨rfl, rfl, rfl⟩ := hcs
 have hml : len ≤ m := by rw [hmm]; split <;> omega
 rw [hC] at hi
 have key : ∀ i, i < len → ∃ y : Cq, (∀ j, j < 3 → w.cell? ((ad.add (i * 3)).add j) = (cqC y)[j]?) ∧ zK w y := by
  intro i hil
  obtain ⟨cs', hc, ht'⟩ := hi i jo
  obtain ⟨_, hcl, hat⟩ := World.cells?_some hc
  obtain ⟨y, rfl, h1⟩ := wE ht'
  exact ⟨y, fun j hj => hat j hj, h1⟩
 obtain ⟨ls, hll, hq⟩ := kC len key
 have hlen : (ls.flatMap cqC).length = ls.length * 3 := lC cqC 3 fO ls
 have hcell : ∀ j u, (ls.flatMap cqC)[j]? = some u → w.cell? (ad.add j) = some u := by
  intro j u hu
  rw [tZ cqC 3 jo fO] at hu
  obtain ⟨y, hy, hu'⟩ := Option.bind_eq_some_iff.1 hu
  have := (hq _ y hy).1 (j % 3) (Nat.mod_lt _ jo)
  rw [Go.Proofs.Ytoniopdkbeogjaa.add_add, zfb, Nat.div_add_mod] at this
  rw [this, hu']
 refine ⟨ls, hll, hl, by simpa [maxLen] using hm, ⟨by rw [hlen], fun hn => ⟨ad, rfl, ?_, hcell⟩⟩, fun y hy => ?_⟩
 ·
  have h0 : 0 < (ls.flatMap cqC).length := by rw [hlen]; omega
  have := World.block_lt_of_cell? w _ (hcell 0 _ (zb h0))
  rwa [dI] at this
 obtain ⟨i, hi', hli⟩ := zbl hy
 exact (hq i y (by rw [zb hi', hli])).2
theorem vH {n : Nat} {cs : List Value} {x : DataW H × List MemPlace} (h : DataW.trod enc Try.prog w base spare held n 31 cs = some x) : ∃ (A : Option Addr) (c : Nat) (l : List Cq), cs = [.slice A l.length c] ∧ l.length ≤ c ∧ c ≤ 9223372036854775807 ∧ Rd w 3 A l.length (l.flatMap cqC) ∧ ∀ y ∈ l, zK w y := by
 obtain ⟨A, len, c, rfl⟩ := oL zab h
 obtain ⟨l, rfl, h1, h4, h2, h3⟩ := zV h
 exact ⟨A, c, l, rfl, h1, h4, h2, h3⟩
end
abbrev Bt := Option Addr × Nat × List Cq
def btV (x : Bt) : Value := .slice x.1 x.2.2.length x.2.1
section
variable {H : Type} {enc : TypeId × Value → H} {w : World} {base : Nat} {spare : Nat → Bool} {held : Bool}
theorem zW {fuel len cap : Nat} {a : Option Addr} {x : DataW H × List MemPlace} (h : DataW.trod enc Try.prog w base spare held fuel 22 [.slice a len cap] = some x) :
  ∃ l : List Bt, l.length = len ∧ len ≤ cap ∧ cap ≤ 9223372036854775807 ∧ (∀ y ∈ l, y.2.2.length ≤ y.2.1 ∧ y.2.1 ≤ 9223372036854775807 ∧ RdQ w y.1 y.2.2.length y.2.2) ∧ Rd w 1 a len (l.map btV) := by
 obtain ⟨l, h1, h2, h3, h4, h5⟩ := zP btV (fun y => y.2.2.length ≤ y.2.1 ∧ y.2.1 ≤ 9223372036854775807 ∧ RdQ w y.1 y.2.2.length y.2.2) Try.underlying22 jK (fun v n y hh => by
  obtain ⟨A, c, l, hc, h1, h4, h2, h3⟩ := vH hh
  exact ⟨(A, c, l), (List.cons.inj hc).1, h1, h4, rfl, h2, fun z hz => ⟨(h3 z hz).2.2.1, (h3 z hz).2.2.2⟩, fun z hz => (h3 z hz).1, fun z hz => (h3 z hz).2.1⟩) h
 exact ⟨l, h1, h2, h3, h5, h4⟩
end
end
section
open Go.RowKit
theorem xL {x y : Cq} (h : cqC x = cqC y) : x.1 = y.1 ∧ x.2.1.1 = y.2.1.1 ∧ x.2.1.2.1 = y.2.1.2.1 ∧ x.2.1.2.2.length = y.2.1.2.2.length ∧ x.2.2 = y.2.2 := by
 simp only [cqC, SL, List.cons.injEq, Value.int.injEq, Value.slice.injEq, Value.bool.injEq, true_and, and_true] at h
 exact ⟨jo, h.2.1.1, h.2.1.2.2, h.2.1.2.1, h.2.2⟩
theorem qJd {a b : List Cq} (h : a.map cqC = b.map cqC) (i : Nat) : cqC (a.getD i cq0) = cqC (b.getD i cq0) := by
 have h1 := congrArg (·[i]?) h
 simp only [zca] at h1
 rw [zc, zc]
 cases ha : a[i]? <;> cases hb : b[i]? <;> rw [ha, hb] at h1 <;> simp at h1 ⊢
 exact h1
theorem zY {a b : List Cq} (h : a.map cqC = b.map cqC) {i : Nat} (hi : i < a.length) {x : Cq} (hx : cqC x = cqC (a.getD i cq0)) : (a.set i x).map cqC = b.map cqC := by
 rw [List.map_set, hx, ← h]
 rw [zc, zb hi]
 show (a.map cqC).set i (cqC a[i]) = _
 rw [show cqC a[i] = (a.map cqC)[i]'(by simpa using hi) by simp, List.set_getElem_self]
theorem qJe {a b : List Cq} (h : a.map cqC = b.map cqC) : a.flatMap cqC = b.flatMap cqC := by
 rw [List.flatMap, List.flatMap, h]
def bt0 : Bt := (none, 0, [])
theorem qZk {w : World} {S : Option Addr} {n : Nat} {L : List Bt} (h : Rd w 1 S n (L.map btV)) (hn : L.length = n) {k : Nat} (hk : k < n) : ∃ ad, S = some ad ∧ w.cell? (ad.add k) = some (btV (L.getD k bt0)) := by
 obtain ⟨ad, h1, _, hc⟩ := h.2 jo
 exact ⟨ad, h1, hc k _ (by simp [zc, zb (jo : k < L.length)])⟩
theorem qJx {L : List Bt} {k : Nat} (hk : k < L.length) : L.getD k bt0 ∈ L := by
 rw [zc, zb hk]
 exact zbi hk
theorem qQ9 {H : Hm} {B : Nat → List Nat} {l : List Bq} (hI : InvH H B) (h : HasI H B l) : ∀ x ∈ l, x.2.length ≤ 4032 := fun x hx => by
 obtain ⟨p, hp, he⟩ := List.mem_map.1 ((h.key x.1).2 (List.mem_map.2 ⟨x, hx, rfl⟩))
 have h1 := (hI.blob p hp).2.2.1
 rw [he, h.oct x hx] at h1
 exact h1
theorem wF (l : List Bq) (f : Bq → Nat) (k : Nat) : ((l.take k).map f).sum ≤ (l.map f).sum := by
 rw [show (l.map f).sum = ((l.take k).map f).sum + ((l.drop k).map f).sum by rw [← List.sum_append, ← zy, zbk]]
 exact Nat.le_add_right _ _
theorem qZd {H : Hm} {B : Nat → List Nat} (hI : InvH H B) : (bM H).length ≤ H.N := by rw [← (gX hI).1]; exact lG _ _
theorem OwQ.aside {b : Nat} {w w' : World} {X S : List Nat} {l : List Cq} (h : OwQ b w X l) (k : Frm S w w') (hS : ∀ y, b ≤ y → y < w.heap.size → y ∉ S) : OwQ b w' X l :=
 ⟨fun x hx => ⟨(h.1 x hx).1.frm k (fun y hy => hS y ((h.1 x hx).2 y hy).2 ((h.1 x hx).2 y hy).1.1), fun y hy => ⟨⟨zq ((h.1 x hx).2 y hy).1.1 k.size, ((h.1 x hx).2 y hy).1.2⟩, ((h.1 x hx).2 y hy).2⟩⟩, h.2⟩
structure Wq where
 i : Nat
 A : Option Addr
 m : Nat
 c : Nat
 ls : List Bq
 F : List Nat
 H : Hm
 B : Nat → List Nat
 q : HtQ
structure IsW (n0 : Nat) (w wr : World) (h g : Nat) (s : Wq) : Prop where
 hi : s.i ≤ n0
 ht : IsHt wr h g s.F s.H s.q
 inv : InvH s.H s.B
 has : HasI s.H s.B s.ls
 dir : s.H.dir.length = pagesM s.H.pairs.length
 rdb : RdB wr s.A s.m s.ls
 N : s.H.N = 58
 K : Frm [] w wr
 up : ∀ x ∈ h :: s.F, w.heap.size ≤ x
 off : ∀ y ∈ ob s.A, y < wr.heap.size ∧ y ∉ h :: s.F
set_option maxHeartbeats 4000000 in
theorem wA (S0 : Option Addr) (n0 c0 : Nat) (L : List Bt) (w : World) (hn : n0 ≤ 9223372036854775807) (hL : L.length = n0) (hrd : Rd w 1 S0 n0 (L.map btV)) (hel : ∀ y ∈ L, y.2.2.length ≤ y.2.1 ∧ y.2.1 ≤ 9223372036854775807 ∧ RdQ w y.1 y.2.2.length y.2.2) :
  Calls Try.prog 3 #[.slice S0 n0 c0] w fun e w' => e = .returned (.bool true) ∧ Frm [] w w' := by
 have hl : (Dk.new 100).has.length = 100 := by simp [Dk.new]
 have hp : Pow (Dk.new 100) := ⟨rfl, rfl⟩
 obtain ⟨f1, f2, f3, f4, f5, f6, f7, f8, f9⟩ := mM hp jo jo
 refine VC.calls (nt := 140) (res := #[.tmp 2]) Try.func3 rfl Try.ntmps3 Try.results3 rfl ?_
 refine jS (jR (ja rfl (jO (jN (jv1 0 ?_)))))
 refine jS (jR ?_)
 refine Ops.cl (jE1 Try.call4) (rT 100 w jo jo) rfl ?_
 rintro e w1 ⟨g, F, rfl, hD, K, hupF⟩
 refine ⟨_, rfl, ?_⟩
 refine jm rfl (je (Run.extract rfl rfl) (je (Run.extract rfl rfl) (ja rfl (ja rfl (jO (jN (jv3 0 3 4 ?_)))))))
 refine jS (jS (jR (jm rfl (jb rfl rfl (Bin.neqN _ 0) (jM ?_)))))
 refine Ops.rg rfl (rfl) (Run.mv rfl) rfl ?_
 refine Ops.rg rfl (rfl) (Run.eqlNilP rfl rfl Try.underlying23) rfl ?_
 refine je (Run.pickF rfl rfl (rfl)) (jO (jN (jv3 0 3 25 ?_)))
 refine VC.condF rfl (rfl) ?_
 refine jQ (jN (jv2 0 3 ?_))
 refine jS (jR (jM ?_))
 refine Ops.cl (jE1 Try.call5) (nW g F (Dk.new 100) w1 hD jo (zg _) f1 f2 f3 f4 f5) rfl ?_
 rintro e w2 ⟨h, F2, q, rfl, hH, hk2⟩
 refine ⟨_, rfl, ?_⟩
 have hup2 : ∀ x ∈ h :: F2, w.heap.size ≤ x := fun x hx => by
  rcases hk2.2 x hx with h1 | h1
  · exact hupF x h1
  exact zap K.size h1
 have K := K.own hk2.1 hupF
 obtain ⟨H0, hH0⟩ : ∃ H0, H0 = (qP (bC (bR (Dk.new 100)).2) []).2 := ⟨_, rfl⟩
 rw [← hH0] at hH f6 f7 f8 f9
 have hN0 : H0.N = 58 := by unfold Hm.N; omega
 have hI0 : HasI H0 (fun _ => []) [] := ⟨jp, fun id => ⟨fun hx => absurd hx (f9 id), fun hx => by simp at hx⟩, fun x hx => by cases hx⟩
 clear hp f1 f2 f3 f4 f5
 refine jm rfl (je (Run.extract rfl rfl) (je (Run.extract rfl rfl) (ja rfl (ja rfl (jO (jN (jv3 0 5 6 ?_)))))))
 refine jS (jS (jR (jm rfl (jb rfl rfl (Bin.neqN _ 0) (jM ?_)))))
 refine Ops.rg rfl (rfl) (Run.mv rfl) rfl ?_
 refine Ops.rg rfl (rfl) (Run.eqlNilP rfl rfl Try.underlying27) rfl ?_
 refine je (Run.pickF rfl rfl (rfl)) (jO (jN (jv3 0 5 36 ?_)))
 refine VC.condF rfl (rfl) ?_
 refine jQ (jN (jv2 0 5 ?_))
 refine jS (jR (ja rfl (jO (jN (jS (jS (jR (jz 0 (jO (jN (jB ?_)))))))))))
 refine VC.loop (σ := Wq) (fun s => [(0, .slice S0 n0 c0), (5, .pointer (some ⟨h, 0, none⟩)), (7, .slice s.A s.m s.c), (8, .int .i64 ((s.i : Nat) : Int))]) (fun s wr => IsW n0 w wr h g s) (fun s => n0 - s.i) ⟨0, none, 0, 0, [], F2, H0, fun _ => [], q⟩ (js4 rfl rfl rfl rfl) ⟨zg _, hH, f6, hI0, f8, ⟨rfl, Rd.nil _ _ _, fun x hx => by cases hx⟩, hN0, K, hup2, fun y hy => by simp [ob] at hy⟩ ?_
 rintro ⟨i, A, m, ca, ls, F, H, B, q⟩ wr ⟨hi, hH, hinv, hhas, hdir, hrb, hN, K, hup, hoff⟩
 dsimp only at hi hH hinv hhas hdir hrb hN hup hoff ⊢
 refine jS (jS ?_)
 refine VC.split1 [(0, _), (5, _), (7, _), (8, _)] (js4 rfl rfl rfl rfl) 44 (.bool (decide (i < n0 ∧ i < 6))) ?_ ?_
 ·
  refine jR ?_
  refine jm rfl (jm rfl (je (Run.lenS rfl Try.underlying22) (jb rfl rfl (Bin.lssN _ _) (jM ?_))))
  by_cases hs41 : i < n0
  ·
   refine jG ?_
   refine jk (Run.bin rfl rfl (Bin.lssN _ 6)) ?_
   by_cases hs43 : i < 6
   ·
    refine je (Run.pickT rfl rfl au) (jO ?_)
    refine jN ⟨(js5 (jC (by grind)) rfl rfl rfl rfl), rfl⟩
   refine je (Run.pickT rfl rfl au) (jO ?_)
   refine jN ⟨(js5 (jC (by grind)) rfl rfl rfl rfl), rfl⟩
  refine jU ?_
  refine jU ?_
  refine je (Run.pickF rfl rfl au) (jO ?_)
  refine jN ⟨(js5 (jC (by grind)) rfl rfl rfl rfl), rfl⟩
 intro Γ hΓ
 refine jN (VC.sub _ hΓ ?_)
 refine jD rfl (fun hc3 => ?_) fun hc3 => ?_
 ·
  obtain ⟨hin, hi6⟩ := hc3
  obtain ⟨adL, hS0, -⟩ := qZk hrd hL hin
  have hcL : ∀ V, Frm [] w V → V.cell? (adL.add i) = some (btV (L.getD i bt0)) := fun V hV => by
   obtain ⟨ad2, he, h2⟩ := qZk (hrd.frm hV jp) hL hin
   rw [hS0] at he
   cases he
   exact h2
  have hyq := hel _ (qJx (jo : i < L.length))
  subst hS0
  generalize L.getD i bt0 = y at hcL hyq
  obtain ⟨yA, yc, yl⟩ := y
  dsimp only at hyq
  have hml : m ≤ 600 := by
   have h1 := (nN hinv hhas).2
   have h2 := hH.ok.n600
   have h3 := hrb.len
   omega
  refine jQ (jN (jv4 0 5 7 8 ?_))
  refine jS (jB (jS (jR (jm rfl (jm rfl (je (Run.index1 _ rfl rfl Try.underlying22 Try.sizeOf31 jo) (jl rfl Try.isAgg31 (hcL _ K) ?_)))))))
  refine Ops.cl (jE1 Try.call6) (sC yA yl.length yc yl wr jo hyq.1 (hyq.2.2.frm K)) rfl ?_
  rintro e wb ⟨CB, cd, cl, rfl, hoC, hqC, hcC, hfb, hupC⟩
  refine ⟨_, rfl, ?_⟩
  have Kb := K.trans hfb jp
  refine ja rfl (jO (jN (jv5 0 5 7 8 9 ?_)))
  refine jS (jR (jm rfl (jm rfl (je (Run.index1 _ rfl rfl Try.underlying22 Try.sizeOf31 jo) (jl rfl Try.isAgg31 (hcL _ Kb) ?_)))))
  refine Ops.cl (jE1 Try.call6) (sC yA yl.length yc yl wb jo hyq.1 (hyq.2.2.frm Kb)) rfl ?_
  rintro e wc ⟨OB, od, ol, rfl, hoO, hqO, hcO, hfc, hupO⟩
  refine ⟨_, rfl, ?_⟩
  have Kc := Kb.trans hfc jp
  obtain ⟨cn, co, c12⟩ := qQ7 hyq.2.2 hcC
  obtain ⟨on, oo, o12⟩ := qQ7 hyq.2.2 hcO
  have hrO : RdC wc OB ol.length ol := hqO.rdc rfl hoO.rd on oo
  have hco : chL cl = chL ol := hcC.trans hcO.symm
  obtain ⟨E, hE⟩ : ∃ E, E = ol.flatMap fun x => ob x.2.1.1 := ⟨_, rfl⟩
  have hEb : ∀ y ∈ E, wb.heap.size ≤ y ∧ y < wc.heap.size ∧ y ∉ ob OB := fun y hy => by
   rw [hE] at hy
   obtain ⟨x, hx, hy⟩ := List.mem_flatMap.1 hy
   have h1 := (hqO.1 x hx).2 y hy
   exact ⟨h1.2, h1.1.1, h1.1.2⟩
  have hb1 := hfb.size
  have hb2 := hfc.size
  have hHl := hH.lt
  have hHc := (hH.frm hfb).frm hfc
  obtain ⟨m1, m2, m3⟩ := nE hinv (l := chL ol) (fun c hc => by
   obtain ⟨x, hx, rfl⟩ := List.mem_map.1 hc
   exact ⟨(on x hx).1, oo x hx⟩)
  obtain ⟨H3, hH3e⟩ : ∃ H3, H3 = (qP H (chL ol)).2 := ⟨_, rfl⟩
  obtain ⟨e3, he3⟩ : ∃ e3, e3 = (qP H (chL ol)).1 := ⟨_, rfl⟩
  refine ja rfl (jO (jN (jv6 0 5 7 8 9 10 ?_)))
  refine jS (jS (jR (jm rfl (jM ?_))))
  refine Ops.cl (jE2 Try.call7) (nV E OB ol.length od ol h g F H q wc hHc (fun y hy => (hEb y hy).2.1) (hH.off (b := wb.heap.size) hb1 (fun y hy => (hEb y hy).1)) jo hrO m1 m2) rfl ?_
  rintro e wd ⟨F3, q3, rfl, hH3, hk3, hof3⟩
  refine ⟨_, rfl, ?_⟩
  rw [← hH3e] at hH3 hof3 m2 m3
  rw [← he3] at m3 ⊢
  have hFl : ∀ x ∈ h :: F, x < wr.heap.size := hHl
  have hF3 : ∀ x ∈ h :: F3, x < wr.heap.size ∨ wc.heap.size ≤ x := fun x hx => by
   rcases hk3.2 x hx with h1 | h1
   · exact .inl (hFl x h1)
   exact .inr h1
  have hup3 : ∀ x ∈ h :: F3, w.heap.size ≤ x := fun x hx => by
   rcases hk3.2 x hx with h1 | h1
   · exact hup x h1
   have := Kc.size; omega
  have Kd := Kc.own hk3.1 hup
  have hb3 := hk3.1.size
  have hrb3 : RdB wd A m ls := ⟨hrb.len, (((hrb.rd.frm hfb jp).frm hfc jp)).frm hk3.1 (fun _ y hy => (hoff y hy).2), hrb.num⟩
  have hA3 : ∀ y ∈ ob A, y < wr.heap.size ∧ y ∉ h :: F3 := fun y hy => ⟨(hoff y hy).1, hk3.out (by have := (hoff y hy).1; omega) (hoff y hy).2⟩
  have hqO3 : OwQ wb.heap.size wd (ob OB) ol := hqO.aside hk3.1 (fun y h1 h2 hx => by have := hFl y hx; omega)
  have hoO3 : Own wd 38 3 OB ol.length od (ol.flatMap cqC) := hoO.frm hk3.1 (fun y hy hx => by have := hFl y hx; have := hupO y hy; omega)
  have hrC3 : RdC wd CB cl.length cl := ((hqC.frm hfc).aside hk3.1 (fun y h1 h2 hx => by have := hFl y hx; omega)).rdc rfl ((hoC.rd.frm hfc jp).frm hk3.1 (fun _ y hy hx => by have := hFl y hx; have := hupC y hy; omega)) cn co
  have hN3 : H3.N = 58 := by
   rcases m3 with h1 | h1
   ·
    have h2 := h1.2.2.2.2.1
    unfold Hm.N at hN ⊢
    omega
   rw [h1.2]; exact hN
  refine jb rfl rfl (Bin.eqlN _ 0) (jO (jN (jv7 0 5 7 8 9 10 60 ?_)))
  refine VC.meet (σ := Option Addr × Nat × Nat × List Bq × (Nat → List Nat)) (fun s => [(0, .slice (some adL) n0 c0), (5, .pointer (some ⟨h, 0, none⟩)), (7, .slice s.1 s.2.1 s.2.2.1), (8, .int .i64 ((i : Nat) : Int)), (10, .slice OB ol.length od)]) (fun s wz => Frm [] wd wz ∧ InvH H3 s.2.2.2.2 ∧ HasI H3 s.2.2.2.2 s.2.2.2.1 ∧ H3.dir.length = pagesM H3.pairs.length ∧ RdB wz s.1 s.2.1 s.2.2.2.1 ∧ ∀ y ∈ ob s.1, y < wz.heap.size ∧ y ∉ h :: F3 ∧ (y < wr.heap.size ∨ wd.heap.size ≤ y)) ?_ ?_
  ·
   refine jD rfl (fun hc4 => ?_) fun hc4 => ?_
   ·
    refine jR (jm rfl (jM ?_))
    refine Ops.cl (jE2 Try.call8) (qQ1 A CB m ca cl.length cd ls cl wd jo jo hrb3 hrC3) rfl ?_
    rintro e we ⟨A4, m4, c4, rfl, hrb4, hf4, hA4⟩
    refine ⟨_, rfl, ?_⟩
    have hz3 : e3 = 0 := jo
    obtain ⟨-, mm, -, minv, -, mdir, mkey⟩ := m3.resolve_right (fun hx => hx.1 hz3)
    have hs4 := hf4.size
    refine ja rfl (jO ?_)
    refine jN ⟨(A4, m4, c4, gZ ls (chL cl), dN B (chL ol)), (js5 rfl rfl rfl rfl rfl), ?_⟩
    exact ⟨hf4, minv, by rw [hco]; exact qZb hhas mm mkey, mdir, hrb4, fun y hy => by
     have hH3l := hH3.lt
     rcases hA4 y hy with h1 | h1
     ·
      have := hA3 y h1
      exact ⟨jo, this.2, .inl this.1⟩
     exact ⟨h1.2, fun hx => by have := hH3l y hx; omega, .inr h1.1⟩⟩
   refine jQ ?_
   refine jN ⟨(A, m, ca, ls, B), (js5 rfl rfl rfl rfl rfl), ?_⟩
   have he : H3 = H := (m3.resolve_left (fun hx => jo)).2
   rw [he]
   exact ⟨Frm.refl _ _, hinv, hhas, hdir, hrb3, fun y hy => ⟨by have := hA3 y hy; omega, (hA3 y hy).2, .inl (hA3 y hy).1⟩⟩
  rintro ⟨A4, m4, c4, l4, B4⟩ wz ⟨hfz, hinv4, hhas4, hdir4, hrb4, hoff4⟩ Γ hΓ
  dsimp only at hinv4 hhas4 hrb4 hoff4
  have hHz := hH3.frm hfz
  have hqz := hqO3.frm hfz
  have hoz := hoO3.frm hfz jp
  have hsz := hfz.size
  refine jN (VC.sub _ hΓ (jS (jS (jR (jz 0 (jO (jN (jB ?_))))))))
  refine VC.loop (σ := Nat × List Cq) (fun s => [(0, .slice (some adL) n0 c0), (5, .pointer (some ⟨h, 0, none⟩)), (7, .slice A4 m4 c4), (8, .int .i64 ((i : Nat) : Int)), (10, .slice OB ol.length od), (11, .int .i64 ((s.1 : Nat) : Int))]) (fun s wr => s.1 ≤ ol.length ∧ s.2.map cqC = ol.map cqC ∧ OwQ wb.heap.size wr (ob OB) s.2 ∧ Frm E wz wr) (fun s => ol.length - s.1) (0, ol) (js6 rfl rfl rfl rfl rfl rfl) ⟨zg _, rfl, hqz, Frm.refl _ _⟩ ?_
  rintro ⟨k, lq⟩ wk ⟨hk, hlq, hqk, Kk⟩
  dsimp only at hk hlq hqk ⊢
  have hlql : lq.length = ol.length := by simpa using congrArg List.length hlq
  refine jS (jS (jR (jm rfl (jm rfl (je (Run.lenS rfl zab) (jb rfl rfl (Bin.lssN _ _) (jO (jN (jv7 0 5 7 8 10 11 67 ?_)))))))))
  refine jD rfl (fun hc5 => ?_) fun hc5 => ?_
  ·
   have hok : Own wk 38 3 OB ol.length od (lq.flatMap cqC) := by
    rw [qJe hlq]
    exact hoz.frm Kk (fun y hy hx => (hEb y hx).2.2 hy)
   obtain ⟨adO, hOB, -⟩ := rdF cqC 3 fO hok.rd hlql hc5 cq0
   have hxi := qJd hlq k
   have hxm := eE (jo : k < lq.length)
   have hxE : ∀ y ∈ ob (lq.getD k cq0).2.1.1, y ∈ E ∧ y ∉ ob OB := fun y hy => by
    rw [(xL hxi).2.1] at hy
    have : y ∈ E := by rw [hE]; exact List.mem_flatMap.2 ⟨_, eE hc5, hy⟩
    exact ⟨this, (hEb y this).2.2⟩
   have helO : ∀ V, Frm (ob (lq.getD k cq0).2.1.1) wk V → ∀ j v, (cqC (lq.getD k cq0))[j]? = some v → V.cell? ((adO.add (k * 3)).add j) = some v := fun V hV => by
    obtain ⟨ad2, he, h2⟩ := rdF cqC 3 fO (hok.rd.frm hV (fun _ y hy hx => (hxE y hx).2 hy)) hlql hc5 cq0
    rw [hOB] at he
    cases he
    exact h2
   have hxo := (hqk.1 _ hxm).1
   obtain ⟨x, hx⟩ : ∃ x, x = lq.getD k cq0 := ⟨_, rfl⟩
   rw [← hx] at hxo helO hxE hxi
   obtain ⟨xa, ⟨xA, xc, xb⟩, xg⟩ := x
   dsimp only at hxo helO hxE
   have hxl : xb.length ≤ 1000000 := by
    have h1 := (xL hxi).2.2.2.1
    dsimp only at h1
    rw [h1]
    exact (on _ (eE hc5)).2
   refine jQ (jN (jv6 0 5 7 8 10 11 ?_))
   refine jS (jB (jS (jR (jz 0 (jO (jN (jB ?_)))))))
   refine VC.loop (σ := Nat × List Nat) (fun s => [(0, .slice (some adL) n0 c0), (5, .pointer (some ⟨h, 0, none⟩)), (7, .slice A4 m4 c4), (8, .int .i64 ((i : Nat) : Int)), (10, .slice OB ol.length od), (11, .int .i64 ((k : Nat) : Int)), (12, .int .i64 ((s.1 : Nat) : Int))]) (fun s wr => s.1 ≤ xb.length ∧ s.2.length = xb.length ∧ Own wr 5 1 xA xb.length xc (NB s.2) ∧ Frm (ob xA) wk wr) (fun s => xb.length - s.1) (0, xb) (js7 rfl rfl rfl rfl rfl rfl rfl) ⟨zg _, rfl, hxo, Frm.refl _ _⟩ ?_
   rintro ⟨t, ys⟩ wt ⟨ht, hyl, hot, Kt⟩
   dsimp only at ht hyl hot ⊢
   subst hOB
   refine jS (jS (jR (jm rfl (jm rfl (jm rfl (je (Run.indexS _ rfl rfl zab zaq jo) (jf rfl zp rfl zn (jl rfl zaj (helO _ Kt 1 _ rfl) (je (Run.lenS rfl ze) (jb rfl rfl (Bin.lssN _ _) (jO (jN (jv8 0 5 7 8 10 11 12 77 ?_)))))))))))))
   refine jD rfl (fun hc6 => ?_) fun hc6 => ?_
   ·
    have hc6 : t < xb.length := hc6
    obtain ⟨adx, hxA, -⟩ := hot.rd.2 jo
    subst hxA
    refine jQ (jN (jv7 0 5 7 8 10 11 12 ?_))
    refine jS (jB (jR (jm rfl (jm rfl (je (Run.indexS _ rfl rfl zab zaq jo) (jf rfl zp rfl zn (jl rfl zaj (helO _ Kt 1 _ rfl) (jm rfl (je (Run.index1 _ rfl rfl ze zaf jo) ?_)))))))))
    refine Ops.st (qS.storeOwn t rfl rfl zaf hot rfl jo rfl) ?_
    rintro wu ⟨hou, hfu, hsu⟩
    have e2 : (NB ys).set t (.int .u8 99) = NB (ys.set t 99) := by rw [NB, NB, List.map_set]; rfl
    rw [e2] at hou
    refine jO ?_
    refine qH (jN ?_)
    refine jv7 0 5 7 8 10 11 12 ?_
    refine jR (jm rfl (jb rfl rfl (Bin.add_i64 _ 1 jo) (ja rfl (jO ?_))))
    refine jN ⟨(t + 1, ys.set t 99), (js7 rfl rfl rfl rfl rfl rfl rfl), ?_, ?_⟩
    · exact ⟨hc6, by rw [List.length_set]; exact hyl, hou, Kt.trans hfu (fun y hy => .inl hy)⟩
    first | omega | (dsimp only; omega)
   refine jX ?_
   refine qJ (qJ (qR ?_))
   refine qH (jN ?_)
   refine jv6 0 5 7 8 10 11 ?_
   refine jR (jm rfl (jb rfl rfl (Bin.add_i64 _ 1 jo) (ja rfl (jO ?_))))
   refine jN ⟨(k + 1, lq.set k (xa, (xA, xc, ys), xg)), (js6 rfl rfl rfl rfl rfl rfl), ?_, ?_⟩
   ·
    have hs1 := hqk.set (w' := wt) (i := k) jo (ys := ys) (by rw [← hx]; exact hyl) (by rw [← hx]; exact hot) (by rw [← hx]; exact Kt)
    rw [← hx] at hs1
    exact ⟨hc5, zY hlq jo (by rw [← hx]; simp only [cqC, SL]; rw [hyl]), hs1, Kk.trans Kt (fun y hy => .inl (hxE y hy).1)⟩
   first | omega | (dsimp only; omega)
  have hHk := hHz.aside hof3 Kk (fun x hx hy => by have := hEb x hy; rcases hF3 x hx with h1 | h1 <;> omega)
  have hrbk : RdB wk A4 m4 l4 := ⟨hrb4.len, hrb4.rd.frm Kk (fun _ y hy hx => by have := hEb y hx; rcases (hoff4 y hy).2.2 with h1 | h1 <;> omega), hrb4.num⟩
  have Kw := (Kd.trans hfz jp).own Kk (fun y hy => by have := (hEb y hy).1; have := K.size; omega)
  have hrm := nN hinv4 hhas4
  have hpg := qQ3 hinv4 hhas4 hdir4
  have hwl := qZd hinv4
  have hsm := qQ9 hinv4 hhas4
  have hl4 := hrbk.len
  have h6 := hH3.ok.n600
  have hpl := qQ5 l4.length
  rw [hN3] at hwl
  obtain ⟨sm, hsme⟩ : ∃ sm, sm = (l4.map fun x => needsM x.2.length).sum := ⟨_, rfl⟩
  obtain ⟨pm, hpme⟩ : ∃ pm, pm = pagesM l4.length := ⟨_, rfl⟩
  rw [← hsme, ← hpme] at hpg
  rw [← hpme] at hpl
  have hsk := wF l4 (fun x => needsM x.2.length)
  rw [← hsme] at hsk
  refine jX ?_
  refine qJ (qJ (qR ?_))
  refine jN (jv4 0 5 7 8 ?_)
  refine jS (jR (jz 0 (jO (jN (jS (jS (jR (jz 0 (jO (jN (jB ?_)))))))))))
  refine VC.loop (σ := Nat) (fun s => [(0, .slice (some adL) n0 c0), (5, .pointer (some ⟨h, 0, none⟩)), (7, .slice A4 m4 c4), (8, .int .i64 ((i : Nat) : Int)), (13, .int .i64 ((((l4.take s).map fun x => needsM x.2.length).sum : Nat) : Int)), (14, .int .i64 ((s : Nat) : Int))]) (fun s wr => s ≤ m4 ∧ wk = wr) (fun s => m4 - s) 0 (js6 rfl rfl rfl rfl rfl rfl) ⟨zg _, rfl⟩ ?_
  rintro k4 _ ⟨hk4, rfl⟩
  refine jS (jS (jR (jm rfl (jm rfl (je (Run.lenS rfl zbm) (jb rfl rfl (Bin.lssN _ _) (jO (jN (jv7 0 5 7 8 13 14 90 ?_)))))))))
  refine jD rfl (fun hc7 => ?_) fun hc7 => ?_
  ·
   obtain ⟨adb, hA4, helb⟩ := hrbk.cell hc7
   subst hA4
   have hbm := vG (jo : k4 < l4.length)
   have hbs := xF (jo : k4 < l4.length)
   have hb0 := hsm _ hbm
   have hst : ((l4.take (k4 + 1)).map fun x => needsM x.2.length).sum = ((l4.take k4).map fun x => needsM x.2.length).sum + needsM (l4.getD k4 bq0).2.length := by rw [hbs]; simp
   have hsk1 := hsk (k4 + 1)
   rw [hst] at hsk1
   refine jQ (jN (jv6 0 5 7 8 13 14 ?_))
   refine jS (jB (jR (jm rfl (jm rfl (jm rfl (je (Run.indexS _ rfl rfl zbm zds jo) (jf rfl zet rfl Try.sizeOf9 (jl rfl Try.isAgg9 (helb 1 _ rfl) (je (Run.lenStr rfl zed) ?_)))))))))
   rw [zS]
   refine Ops.cl (jE1 Try.call9) (wS _ wk jo) rfl ?_
   rintro e _ ⟨rfl, rfl⟩
   refine ⟨_, rfl, ?_⟩
   refine jb rfl rfl (Bin.add_i64 _ _ jo) (ja rfl (jO ?_))
   refine qH (jN ?_)
   refine jv6 0 5 7 8 13 14 ?_
   refine jR (jm rfl (jb rfl rfl (Bin.add_i64 _ 1 jo) (ja rfl (jO ?_))))
   refine jN ⟨k4 + 1, (js6 rfl rfl rfl rfl (by rw [hst]; rfl) rfl), ?_, ?_⟩
   · exact ⟨hc7, rfl⟩
   first | omega | (dsimp only; omega)
  obtain rfl : k4 = m4 := jo
  rw [zf (jo : l4.length ≤ k4), ← hsme]
  refine jX ?_
  refine qJ (qJ (qR ?_))
  refine jN (jv5 0 5 7 8 13 ?_)
  refine jS (jR (jm rfl (je (Run.lenS rfl zbm) (jb rfl rfl (Bin.add_i64 _ 6 jo) (jb rfl rfl (Bin.quo_i64 _ 7 jo jo) (ja rfl (jO (jN (jv6 0 5 7 8 13 15 ?_)))))))))
  refine jS (jS (jR (jm rfl (jb rfl rfl (Bin.eqlN _ 0) (jO (jN (jv7 0 5 7 8 13 15 107 ?_)))))))
  refine VC.meet (σ := Nat) (fun s => [(0, .slice (some adL) n0 c0), (5, .pointer (some ⟨h, 0, none⟩)), (7, .slice A4 k4 c4), (8, .int .i64 ((i : Nat) : Int)), (13, .int .i64 ((sm : Nat) : Int)), (15, .int .i64 ((s : Nat) : Int))]) (fun s wz2 => wk = wz2 ∧ s = if (l4.length + 6) / 7 = 0 then 1 else (l4.length + 6) / 7) ?_ ?_
  ·
   refine jD rfl (fun hc8 => ?_) fun hc8 => ?_
   ·
    refine jR (jz 1 (jO ?_))
    refine jN ⟨1, (js6 rfl rfl rfl rfl rfl rfl), ?_⟩
    exact ⟨rfl, by rw [if_pos jo]⟩
   refine jQ ?_
   refine jN ⟨(k4 + 6) / 7, (js6 rfl rfl rfl rfl rfl rfl), ?_⟩
   exact ⟨rfl, by rw [if_neg jo, hl4]⟩
  rintro lv _ ⟨rfl, hlv⟩ Γ hΓ
  rw [← hlv] at hpl
  have hlv1 : 1 ≤ lv ∧ lv ≤ 100 := by rw [hlv]; split <;> omega
  refine jN (VC.sub _ hΓ (jS (jR (jm rfl (jm rfl (jb rfl rfl (Bin.add_i64 _ _ jo) (ja rfl (jO (jN (jv6 0 5 7 8 13 15 ?_))))))))))
  refine jS (jB ?_)
  refine VC.loop (σ := Nat × Nat) (fun s => [(0, .slice (some adL) n0 c0), (5, .pointer (some ⟨h, 0, none⟩)), (7, .slice A4 k4 c4), (8, .int .i64 ((i : Nat) : Int)), (13, .int .i64 ((s.2 : Nat) : Int)), (15, .int .i64 ((s.1 : Nat) : Int))]) (fun s wr => wk = wr ∧ 1 ≤ s.1 ∧ s.1 ≤ 100 ∧ s.2 + dM s.1 = sm + pm + s.1) (fun s => s.1) (lv, sm + lv) (js6 rfl rfl rfl rfl rfl rfl) ⟨rfl, hlv1.1, hlv1.2, by dsimp only; omega⟩ ?_
  rintro ⟨v, nd⟩ _ ⟨rfl, hv1, hv2, hnd⟩
  dsimp only at hv1 hv2 hnd ⊢
  refine jS (jS (jR (jm rfl (jb rfl rfl (Bin.gtrN _ 1) (jO (jN (jv7 0 5 7 8 13 15 112 ?_)))))))
  refine jD rfl (fun hc9 => ?_) fun hc9 => ?_
  ·
   have hss := qQ4 v hc9
   refine jQ (jN (jv6 0 5 7 8 13 15 ?_))
   refine jB (jS (jR (jm rfl (jb rfl rfl (Bin.add_i64 _ 11 jo) (jb rfl rfl (Bin.quo_i64 _ 12 jo jo) (ja rfl (jO (jN (jv6 0 5 7 8 13 15 ?_)))))))))
   refine jR (jm rfl (jm rfl (jb rfl rfl (Bin.add_i64 _ _ jo) (ja rfl (jO ?_)))))
   refine qH (jN ⟨((v + 11) / 12, nd + (v + 11) / 12), (js6 rfl rfl rfl rfl rfl rfl), ?_, ?_⟩)
   · exact ⟨rfl, by dsimp only; omega, by dsimp only; omega, by dsimp only; omega⟩
   first | omega | (dsimp only; omega)
  obtain rfl : v = 1 := jo
  rw [show dM 1 = 1 by rw [dM, dif_pos jo]] at hnd
  have hnw : nd = (bM H3).length := jo
  subst hnw
  refine jX ?_
  refine qJ (qJ (qR ?_))
  refine jN (jv5 0 5 7 8 13 ?_)
  refine jS (jR (jM ?_))
  refine Ops.cl (jE1 Try.call10) (mG h g F3 H3 q3 wk hHk) rfl ?_
  rintro e w5 ⟨UB, ud, rfl, hoU, hf5, hupU⟩
  refine ⟨_, rfl, ?_⟩
  have hU := qZa hinv4
  rw [hU]
  refine je (Run.lenS rfl zw) (jm rfl (jb rfl rfl (Bin.neqN _ _) (jM ?_)))
  refine Ops.rg rfl (decide_eq_false jp) (Run.mv rfl) rfl ?_
  refine Ops.clg rfl (decide_eq_false jp) (jE1 Try.call11) (mY h g F3 H3 q3 w5 (hHk.frm hf5)) rfl ?_
  rintro e w6 ⟨rfl, hf6⟩
  refine ⟨_, rfl, ?_⟩
  rw [(gX hinv4).1]
  refine Ops.rg rfl (decide_eq_false jp) (Run.mv rfl) rfl ?_
  refine Ops.clg rfl (decide_eq_false jp) (jE1 Try.call12) (eF h g F3 H3 q3 w6 ((hHk.frm hf5).frm hf6)) rfl ?_
  rintro e _ ⟨rfl, rfl⟩
  refine ⟨_, rfl, ?_⟩
  refine Ops.rg rfl (decide_eq_false jp) (Run.mv rfl) rfl ?_
  refine Ops.rg rfl (decide_eq_false jp) (Run.bin rfl rfl (Bin.sub_i64 _ _ jo jo)) rfl ?_
  refine Ops.rg rfl (decide_eq_false jp) (Run.bin rfl rfl (Bin.neqN _ _)) rfl ?_
  refine je (Run.pickF rfl rfl (decide_eq_false (by simp [hU]))) (jM ?_)
  refine jG ?_
  refine jG ?_
  refine Ops.clg rfl au (jE2 Try.call13) (wT A4 k4 c4 l4 h g F3 H3 q3 w6 ((hHk.frm hf5).frm hf6) jo ((hrbk.frm hf5).frm hf6)) rfl ?_
  rintro e w7 ⟨hf7, b, rfl, hb⟩
  obtain rfl : b = true := hb hrm.1 hrm.2
  refine ⟨_, rfl, ?_⟩
  refine jk (Run.not rfl) ?_
  refine je (Run.pickF rfl rfl (decide_eq_false jp)) (jO (jN (jv5 0 5 7 8 138 ?_)))
  refine VC.condF rfl (rfl) ?_
  refine jQ ?_
  refine qH (jN ?_)
  refine jv4 0 5 7 8 ?_
  refine jR (jm rfl (jb rfl rfl (Bin.add_i64 _ 1 jo) (ja rfl (jO ?_))))
  refine jN ⟨⟨i + 1, A4, k4, c4, l4, F3, H3, B4, q3⟩, (js4 rfl rfl rfl rfl), ?_, ?_⟩
  ·
   have kk : Frm [] wk w7 := (hf5.trans hf6 jp).trans hf7 jp
   have hq5 := Kk.size
   have hq6 := kk.size
   exact ⟨hin, hHk.frm kk, hinv4, hhas4, hdir4, hrbk.frm kk, hN3, Kw.trans kk jp, hup3, fun y hy => ⟨by have := (hoff4 y hy).1; omega, (hoff4 y hy).2.1⟩⟩
  first | omega | (dsimp only; omega)
 refine jX ?_
 refine qJ (qJ (qR ?_))
 refine jN ?_
 refine VC.sub [] .nil ?_
 refine jS (jR ?_)
 refine Ops.cl (jE0 Try.call14) (wC wr) rfl ?_
 rintro e w9 ⟨rfl, hf9⟩
 refine ⟨_, rfl, ?_⟩
 refine ja rfl (jO (jN (jv1 2 ?_)))
 refine jT ?_
 refine qB rfl ?_
 exact ⟨rfl, K.trans hf9 jp⟩
end
end Go.Proofs.Ytoniopdkbeogjaa
