/-
  Lemmas on the way, joined: HotN, HotS, HotR, HotG, HotO, HotD, HotB, HotF, HotI, HotL, HotK, HotH, HotE, HotX, HotY, HotZ, HotJ, HotWa, HotAp, HotAw, HotWb.
-/
import Derived.Test.YtoniopdkbeogjaaPk2
set_option maxRecDepth 100000
set_option linter.unusedVariables false
set_option linter.unusedSimpArgs false
namespace Go.Proofs.Ytoniopdkbeogjaa
section
open Go.RowKit
theorem jF (N : Nat) : ∀ (a b : List Nat) (U : Nat → Bool), bG N U (a ++ b) = (bG N U a).bind fun V => bG N V b
 | [], b, U => rfl
 | p :: r, b, U => by
  rw [zbu, bG, bG]
  split
  · exact jF N r b _
  rfl
structure Dw where
 puts : List Pu
 pairs : List Pr
 free : List Nat
 lies : Nat → List Nat
def bU (x : Dw) (c : Ch) : Dw :=
 if c.2.2 then { x with pairs := bH x.pairs c.1 ++ bQ x.pairs c.1 }
 else { puts := x.puts ++ cB c.2.1 (x.free.take (needsM c.2.1.length)), pairs := bH x.pairs c.1 ++ bE c.1 c.2.1 (x.free.take (needsM c.2.1.length)) :: bQ x.pairs c.1, free := x.free.drop (needsM c.2.1.length), lies := fun y => if y = c.1 then x.free.take (needsM c.2.1.length) else x.lies y }
def qF (H : Hm) (l : List Ch) (fr : List Nat) : Dw := l.foldl bU ⟨[], H.pairs, fr, H.lies⟩
theorem sW (H : Hm) (l : List Ch) (c : Ch) (fr : List Nat) : qF H (l ++ [c]) fr = bU (qF H l fr) c := by unfold qF; rw [zel]; rfl
def sumN (l : List Ch) : Nat := (l.map fun c => needsM c.2.1.length).sum
theorem sY (l : List Ch) (c : Ch) : sumN (l ++ [c]) = sumN l + needsM c.2.1.length := by simp [sumN]
theorem xN {l : List Pr} (h : Srt l) (id : Nat) : Srt (bH l id ++ bQ l id) := List.pairwise_append.2 ⟨h.sublist zdf, h.sublist zdf, fun a ha b hb => by
 have h1 := (List.mem_filter.1 ha).2
 have h2 := (List.mem_filter.1 hb).2
 simp at h1 h2
 omega⟩
theorem xP {l : List Pr} (h : Srt l) (id v : Nat) : Srt (bH l id ++ (id, v) :: bQ l id) := List.pairwise_append.2 ⟨h.sublist zdf, List.pairwise_cons.2 ⟨fun b hb => by
 have h2 := (List.mem_filter.1 hb).2
 simpa using h2, h.sublist zdf⟩, fun a ha b hb => by
 have h1 := (List.mem_filter.1 ha).2
 simp at h1
 rcases zl.1 hb with rfl | hb
 · exact h1
 have h2 := (List.mem_filter.1 hb).2
 simp at h2
 omega⟩
theorem uA {x : Dw} (h : Srt x.pairs) (c : Ch) : Srt (bU x c).pairs := by
 unfold bU
 split
 · exact xN h _
 exact xP h _ _
theorem xR {H : Hm} (h : Srt H.pairs) (l : List Ch) (fr : List Nat) : Srt (qF H l fr).pairs := by
 unfold qF
 generalize hx : (⟨[], H.pairs, fr, H.lies⟩ : Dw) = x
 have h1 : Srt x.pairs := by rw [← hx]; exact h
 clear hx
 induction l generalizing x with
 | nil => exact h1
 | cons c r ih => exact ih _ (uA h1 c)
theorem qX5 (x : Dw) (c : Ch) (y : Nat) : y ∈ (bU x c).pairs.map (·.1) ↔ (y ≠ c.1 ∧ y ∈ x.pairs.map (·.1)) ∨ (y = c.1 ∧ c.2.2 = false) := by
 have hl : ∀ (f : Pr → Bool), y ∈ (x.pairs.filter f).map (·.1) ↔ ∃ v, (y, v) ∈ x.pairs ∧ f (y, v) = true := fun f => by
  simp only [List.mem_map, List.mem_filter]
  constructor
  ·
   rintro ⟨⟨a, b⟩, h1, rfl⟩
   exact ⟨b, h1⟩
  rintro ⟨v, h1⟩
  exact ⟨(y, v), h1, rfl⟩
 have hx : y ∈ x.pairs.map (·.1) ↔ ∃ v, (y, v) ∈ x.pairs := by
  simp only [List.mem_map]
  constructor
  ·
   rintro ⟨⟨a, b⟩, h1, rfl⟩
   exact ⟨b, h1⟩
  rintro ⟨v, h1⟩
  exact ⟨(y, v), h1, rfl⟩
 unfold bU bH bQ
 split
 ·
  next hg =>
  rw [zy, zbs, hl, hl, hx]
  simp only [decide_eq_true_eq, hg]
  constructor
  ·
   rintro (⟨v, h1, h2⟩ | ⟨v, h1, h2⟩)
   · exact .inl ⟨jo, v, h1⟩
   exact .inl ⟨jo, v, h1⟩
  rintro (⟨h1, v, h2⟩ | ⟨_, h⟩)
  ·
   rcases zcw h1 with h | h
   · exact .inl ⟨v, h2, h⟩
   exact .inr ⟨v, h2, h⟩
  cases h
 next hg =>
 dsimp only
 rw [zy, zay, zbs, zl, hl, hl, hx]
 simp only [decide_eq_true_eq, bE]
 constructor
 ·
  rintro (⟨v, h1, h2⟩ | h | ⟨v, h1, h2⟩)
  · exact .inl ⟨jo, v, h1⟩
  · exact .inr ⟨h, by simpa using hg⟩
  exact .inl ⟨jo, v, h1⟩
 rintro (⟨h1, v, h2⟩ | ⟨h, _⟩)
 ·
  rcases zcw h1 with h | h
  · exact .inl ⟨v, h2, h⟩
  exact .inr (.inr ⟨v, h2, h⟩)
 exact .inr (.inl h)
theorem qZ3 (H : Hm) (l : List Ch) (fr : List Nat) {y : Nat} (h : y ∉ l.map (·.1)) : y ∈ (qF H l fr).pairs.map (·.1) ↔ y ∈ H.pairs.map (·.1) := by
 unfold qF
 generalize hx : (⟨[], H.pairs, fr, H.lies⟩ : Dw) = x
 have h1 : y ∈ x.pairs.map (·.1) ↔ y ∈ H.pairs.map (·.1) := by rw [← hx]
 clear hx
 induction l generalizing x with
 | nil => exact h1
 | cons c r ih =>
  simp only [zay, zl, not_or] at h
  refine ih h.2 _ ?_
  rw [qX5, ← h1]
  constructor
  ·
   rintro (⟨_, h2⟩ | ⟨h2, _⟩)
   · exact h2
   exact absurd h2 h.1
  exact fun h2 => .inl ⟨h.1, h2⟩
theorem uI {x : Dw} (h : Srt x.pairs) (c : Ch) : (bU x c).pairs.length + (if c.1 ∈ x.pairs.map (·.1) then 1 else 0) = x.pairs.length + (if c.2.2 = true then 0 else 1) := by
 have hs := congrArg List.length (fW h c.1)
 rw [zd, zd] at hs
 have he := qQi h c.1
 have hi := rX (l := x.pairs) c.1
 have hq : (eqP x.pairs c.1).length = if c.1 ∈ x.pairs.map (·.1) then 1 else 0 := by
  split
  ·
   next h1 =>
   have := List.length_pos_iff.2 (hi.1 h1)
   omega
  next h1 =>
  have : eqP x.pairs c.1 = [] := Classical.not_not.1 fun h => h1 (hi.2 h)
  rw [this]; rfl
 unfold bU
 split <;> simp only [zd, zz] <;> omega
theorem xS (H : Hm) (hs : Srt H.pairs) (l : List Ch) (c : Ch) (fr : List Nat) (h : c.1 ∉ l.map (·.1)) :
  (c.1 ∈ H.pairs.map (·.1) → c.2.2 = true → (qF H (l ++ [c]) fr).pairs.length + 1 = (qF H l fr).pairs.length) ∧ (c.1 ∈ H.pairs.map (·.1) → c.2.2 = false → (qF H (l ++ [c]) fr).pairs.length = (qF H l fr).pairs.length) ∧
   (c.1 ∉ H.pairs.map (·.1) → c.2.2 = false → (qF H (l ++ [c]) fr).pairs.length = (qF H l fr).pairs.length + 1) ∧ (qF H (l ++ [c]) fr).pairs.length ≤ (qF H l fr).pairs.length + 1 := by
 have h1 := uI (xR hs l fr) c
 have h2 := qZ3 H l fr h
 rw [← sW] at h1
 refine ⟨fun a b => ?_, fun a b => ?_, fun a b => ?_, ?_⟩
 · rw [if_pos (h2.2 a), if_pos b] at h1; omega
 · rw [if_pos (h2.2 a), if_neg (by simp [b])] at h1; omega
 · rw [if_neg (fun e => a (h2.1 e)), if_neg (by simp [b])] at h1; omega
 split at h1 <;> split at h1 <;> omega
end
section
open Go.RowKit
theorem uL (n : Nat) (w : World) (hn : 600 < n) (hb : n ≤ 1000000) : Calls Try.prog 40 #[.int .i64 ((n : Nat) : Int)] w fun e w' => e = .returned (.int .i64 ((0 : Nat) : Int)) ∧ w = w' := by
 refine VC.calls (nt := 21) (res := #[.tmp 2]) Try.func40 rfl Try.ntmps40 Try.results40 rfl ?_
 refine jS (jR (jz 0 (jO (jN (jv1 0 ?_)))))
 refine jS (jS ?_)
 refine VC.split1 [(0, _)] (js1 rfl) 10 (.bool (decide (True))) ?_ ?_
 ·
  refine jR ?_
  refine jm rfl (jb rfl rfl (Bin.lssN _ 0) ?_)
  by_cases hs6 : n < 0
  ·
   refine jM ?_
   refine jU ?_
   refine jU ?_
   refine je (Run.pickT rfl rfl au) (jO ?_)
   refine jN ⟨(js2 (jC (by first | (simp; done) | (simp; omega))) rfl), rfl⟩
  refine jM ?_
  refine jG ?_
  refine jk (Run.bin rfl rfl (Bin.gtrN _ 600)) ?_
  by_cases hs9 : 600 < n
  ·
   refine je (Run.pickF rfl rfl au) (jO ?_)
   refine jN ⟨(js2 (jC (by first | (simp; done) | (simp; omega))) rfl), rfl⟩
  refine je (Run.pickF rfl rfl au) (jO ?_)
  refine jN ⟨(js2 (jC (by first | (simp; done) | (simp; omega))) rfl), rfl⟩
 intro Γ hΓ
 refine jN (VC.sub _ hΓ ?_)
 refine VC.condT rfl jp ?_
 refine jS (jR (jz 0 (jO (jN (jv1 2 ?_)))))
 refine jT ?_
 refine qN (qB rfl ?_)
 exact ⟨rfl, rfl⟩
def pagesT (n : Nat) : Nat := if n ≤ 600 then pagesM n else 0
theorem uO (n : Nat) (w : World) (hb : n ≤ 1000000) : Calls Try.prog 40 #[.int .i64 ((n : Nat) : Int)] w fun e w' => e = .returned (.int .i64 ((pagesT n : Nat) : Int)) ∧ w = w' := by
 unfold pagesT
 split
 · next h => exact wX n w h
 next h => exact uL n w jo hb
theorem xU : ∀ n, ∀ lv, lv ≤ n → dM lv ≤ 2 * lv
 | 0, lv, h => by
  obtain rfl : lv = 0 := jo
  rw [dM, dif_pos jo]; omega
 | n + 1, lv, h => by
  rw [dM]
  split
  · omega
  next h1 =>
  have := xU n (abvM lv 12) (by unfold abvM; omega)
  have h2 : 2 * abvM lv 12 ≤ lv := by unfold abvM; omega
  omega
theorem sG (n : Nat) : pagesT n ≤ 172 := by
 unfold pagesT
 split
 ·
  next h =>
  have := xU _ (abvM n 7) (zm _)
  have h2 : abvM n 7 ≤ 86 := by unfold abvM; omega
  unfold pagesM
  omega
 omega
theorem rK (l : List Cq) (h : ∀ x ∈ l, x.2.1.2.2.length ≤ 1000000) : sumN (chL l) ≤ 10000 * l.length := by
 induction l with
 | nil => simp [sumN, chL]
 | cons a r ih =>
  have h1 := ih fun x hx => h x (zcm _ hx)
  have h2 := h a jp
  simp only [sumN, chL, zay, List.sum_cons, zz, chO] at h1 ⊢
  have : needsM a.2.1.2.2.length ≤ 10000 := by unfold needsM; omega
  omega
theorem oP (l : List Cq) (i : Nat) : chL (l.take i) = (chL l).take i := by rw [chL, zdj]; rfl
theorem qZi {l : List Cq} {i : Nat} (h : i < l.length) (hm : bF (chL l)) : (l.getD i cq0).1 ∉ (chL (l.take i)).map (·.1) := by
 have h1 := sV hm (i + 1)
 rw [← oP, gQ h] at h1
 exact ((sK _ _).1 h1).2.1
set_option maxHeartbeats 1000000 in
theorem wN (S : Option Addr) (n c : Nat) (l : List Cq) (fr : List Nat) (h g : Nat) (F : List Nat) (H : Hm) (q : HtQ) (w : World) (hH : IsHt w h g F H q) (hn : n ≤ 1000) (hr : RdC w S n l) (hm : bF (chL l)) (hg : ∀ x ∈ chL l, x.2.2 = true → x.1 ∈ H.pairs.map (·.1)) :
  Calls Try.prog 21 #[.pointer (some ⟨h, 0, none⟩), .slice S n c] w fun e w' => e = .returned (.tuple #[.int .i64 ((sumN (chL l) + pagesT (qF H (chL l) fr).pairs.length : Nat) : Int), .int .i64 (((qF H (chL l) fr).pairs.length : Nat) : Int)]) ∧ Frm [] w w' := by
 have h600 := hH.ok.n600
 have hln := hr.len
 have K0 := Frm.refl [] w
 have hd := qV.drew w
 refine VC.calls (nt := 55) (res := #[.tmp 4, .tmp 5]) Try.func21 rfl Try.ntmps21 Try.results21 rfl ?_
 refine jS (jR (jz 0 (jz 0 (jO (jN (jv2 0 1 ?_))))))
 refine jS ?_
 refine VC.held (fun V => Frm [] w V) jK ?_
 have hS : Frm [] w w.drew := (Frm.refl _ _).drew
 refine jH 0 rfl hS (fun w0 hw0 => Run.mv rfl) ?_
 refine jH 1 rfl hS (fun w0 hw0 => Run.nilck rfl) ?_
 refine jH 2 rfl hS (fun w0 hw0 => Run.fieldAddr rfl zaa rfl zbb jd) ?_
 refine jH 3 rfl hS (fun w0 hw0 => Run.load rfl zbx ((hH.frm hw0).blk.cell 1)) ?_
 refine jH 4 rfl hS (fun w0 hw0 => Run.lenS rfl zh) ?_
 refine qQ.take (v := .int .i64 ((0 : Nat) : Int)) 5 rfl jK jK jK hS (fun w0 hw0 => Run.asg rfl) trivial rfl rfl ?_
 refine jH 6 rfl hS (fun w0 hw0 => Run.asg rfl) ?_
 refine qQ.done jK ?_
 refine jN (jv4 0 1 6 7 ?_)
 refine jS (jS (jR (jm rfl (je (Run.lenS rfl zab) ?_))))
 refine jx .i64 0 ?_
 refine jO (jN (jv6 0 6 7 17 18 19 ?_))
 refine jB ?_
 refine VC.loop (σ := Nat) (fun s => [(0, .pointer (some ⟨h, 0, none⟩)), (6, .int .i64 ((sumN (chL (l.take s)) : Nat) : Int)), (7, .int .i64 (((qF H (chL (l.take s)) fr).pairs.length : Nat) : Int)), (17, .slice S n c), (18, .int .i64 ((n : Nat) : Int)), (19, .int .i64 ((s : Nat) : Int))]) (fun s wr => s ≤ n ∧ Frm [] w wr ∧ (qF H (chL (l.take s)) fr).pairs.length ≤ 600 + s) (fun s => n - s) 0 (js6 rfl rfl rfl rfl rfl rfl) ⟨zg _, hd.frm, h600⟩ ?_
 rintro i wr ⟨hi, K, hpl⟩
 refine jS (jR (jb rfl rfl (Bin.lssN _ _) (jO (jN (jS ?_)))))
 refine jD rfl (fun hc1 => ?_) fun hc1 => ?_
 ·
  obtain ⟨ad, hS, hel⟩ := (hr.frm K).cell hc1
  subst hS
  have hmem := eE (jo : i < l.length)
  have hxn := hr.num _ hmem
  have hsnc := gQ (jo : i < l.length)
  have hsn := sY (chL (l.take i)) (chO (l.getD i cq0))
  rw [← hsnc] at hsn
  have hsl := xS H hH.ok.srt (chL (l.take i)) (chO (l.getD i cq0)) fr (qZi (jo : i < l.length) hm)
  rw [← hsnc] at hsl
  have hgx := hg _ (List.mem_map.2 ⟨_, hmem, rfl⟩)
  have hsb := rK (l.take i) (fun x hx => (hr.num x (zr hx)).2)
  rw [zi] at hsb
  have hmi := Nat.min_le_left i l.length
  generalize l.getD i cq0 = x at hel hxn hsn hsl hgx hsnc
  obtain ⟨xa, ⟨xA, xc, xb⟩, xg⟩ := x
  dsimp only [chO] at hsn hxn hsl hgx
  obtain ⟨hl1, hl2, hl3, hl4⟩ := hsl
  refine jQ (jN (jv6 0 6 7 17 18 19 ?_))
  refine jS (jB (jS (jR (je (Run.indexS _ rfl rfl zab zaq jo) (je (Run.loadA rfl Try.isAgg38 zaq hel (by first | rfl | (simp; done))) ?_)))))
  refine Ops.m (qZ.alloc eQ) rfl ?_
  rintro _ w2 ⟨rfl, hF2⟩
  refine Ops.st (qS.storeA rfl rfl zaq hF2.blk rfl (gE (xa, (xA, xc, xb), xg))) ?_
  rintro w3 ⟨hb3, hf3, hs3⟩
  have hb3 : Blk w3 wr.heap.size 38 #[.int .u64 ((xa : Nat) : Int), .slice xA xb.length xc, .bool xg] := hb3
  have K3 : Frm [] wr w3 := hF2.frm.own hf3 jp
  have K := K.trans K3 jp
  have hH3 := hH.frm K
  refine jO (jN (jv7 0 6 7 9 17 18 19 ?_))
  refine jS ?_
  refine VC.held (fun V => Frm [] w3 V) jK ?_
  have hS : Frm [] w3 w3.drew := (Frm.refl _ _).drew
  refine jH 0 rfl hS (fun w0 hw0 => Run.mv rfl) ?_
  refine jH 1 rfl hS (fun w0 hw0 => Run.nilck rfl) ?_
  refine jH 2 rfl hS (fun w0 hw0 => Run.fieldAddr rfl zaa rfl zbb jd) ?_
  refine jH 3 rfl hS (fun w0 hw0 => Run.load rfl zbx ((hH3.frm hw0).blk.cell 1)) ?_
  refine jH 4 rfl hS (fun w0 hw0 => Run.fieldAddr rfl zp rfl zx jd) ?_
  refine jH 5 rfl hS (fun w0 hw0 => Run.load rfl zar ((hb3.frm hw0 jp).cell 0)) ?_
  refine qQ.cl 6 rfl jK (jE2 Try.call20) (gD _ _ xa _ H.pairs _ rfl jo (hH3.frm hS).pr.1 hH.ok.okp hH.ok.srt hxn.1) trivial rfl rfl ?_
  rintro e w4 ⟨rfl, hf4⟩
  have hS := hS.trans hf4 jp
  refine ⟨_, rfl, hS, ?_⟩
  have hb4 := hb3.frm hS jp
  have K := K.trans hS jp
  refine jH 7 rfl hS (fun w0 hw0 => Run.mv rfl) ?_
  refine jH 8 rfl hS (fun w0 hw0 => Run.extract rfl rfl) ?_
  refine jH 9 rfl hS (fun w0 hw0 => Run.extract rfl rfl) ?_
  refine jH 10 rfl hS (fun w0 hw0 => Run.asg rfl) ?_
  refine jH 11 rfl hS (fun w0 hw0 => Run.asg rfl) ?_
  refine qQ.done jK ?_
  refine jN (jv8 0 6 7 9 11 17 18 19 ?_)
  refine jS (jB (jS (jR (jf rfl zp rfl zco (jl rfl zep (hb4.cell 2) (ja rfl (jO (jN (jv9 0 6 7 9 11 17 18 19 33 ?_)))))))))
  refine VC.meet (σ := Unit) (fun s => [(0, .pointer (some ⟨h, 0, none⟩)), (6, .int .i64 ((sumN (chL (l.take i)) : Nat) : Int)), (7, .int .i64 (((qF H (chL (l.take (i + 1))) fr).pairs.length : Nat) : Int)), (9, .pointer (some ⟨wr.heap.size, 0, none⟩)), (17, .slice (some ad) n c), (18, .int .i64 ((n : Nat) : Int)), (19, .int .i64 ((i : Nat) : Int))]) (fun s wz => w4 = wz) ?_ ?_
  ·
   refine VC.condB rfl (fun hc2 => ?_) (fun hc2 => ?_)
   ·
    have hsl := hl1 (hgx hc2) hc2
    refine jR (jm rfl (jb rfl rfl (Bin.sub_i64 _ 1 jo jo) (ja rfl (jO ?_))))
    refine jN ⟨(), (js7 rfl rfl (by rw [show (qF H (chL (l.take (i + 1))) fr).pairs.length = (qF H (chL (l.take i)) fr).pairs.length - 1 by omega]; rfl) rfl rfl rfl rfl), ?_⟩
    rfl
   refine jS (jR (jm rfl (je (Run.not rfl) (ja rfl (jO (jN (jv8 0 6 7 9 17 18 19 38 ?_)))))))
   refine VC.meet (σ := Unit) (fun s => [(0, .pointer (some ⟨h, 0, none⟩)), (6, .int .i64 ((sumN (chL (l.take i)) : Nat) : Int)), (7, .int .i64 (((qF H (chL (l.take (i + 1))) fr).pairs.length : Nat) : Int)), (9, .pointer (some ⟨wr.heap.size, 0, none⟩)), (17, .slice (some ad) n c), (18, .int .i64 ((n : Nat) : Int)), (19, .int .i64 ((i : Nat) : Int))]) (fun s wz => w4 = wz) ?_ ?_
   ·
    refine VC.condB rfl (fun hc3 => ?_) (fun hc3 => ?_)
    ·
     have hc3 : xa ∉ H.pairs.map (·.1) := fun h => by rw [decide_eq_true h] at hc3; cases hc3
     have hsl := hl3 hc3 hc2
     refine jR (jm rfl (jb rfl rfl (Bin.add_i64 _ 1 jo) (ja rfl (jO ?_))))
     refine jN ⟨(), (js7 rfl rfl (by rw [show (qF H (chL (l.take (i + 1))) fr).pairs.length = (qF H (chL (l.take i)) fr).pairs.length + 1 by omega]; rfl) rfl rfl rfl rfl), ?_⟩
     rfl
    have hc3 : xa ∈ H.pairs.map (·.1) := Classical.byContradiction fun h => by rw [decide_eq_false h] at hc3; cases hc3
    have hsl := hl2 hc3 hc2
    refine jQ ?_
    refine jN ⟨(), (js7 rfl rfl (by rw [show (qF H (chL (l.take (i + 1))) fr).pairs.length = (qF H (chL (l.take i)) fr).pairs.length by omega]; rfl) rfl rfl rfl rfl), ?_⟩
    rfl
   rintro _ _ rfl Γ hΓ
   refine jN ⟨(), (js7 (hΓ.get _ _ rfl) (hΓ.get _ _ rfl) (hΓ.get _ _ rfl) (hΓ.get _ _ rfl) (hΓ.get _ _ rfl) (hΓ.get _ _ rfl) (hΓ.get _ _ rfl)), ?_⟩
   rfl
  rintro _ _ rfl Γ hΓ
  refine qH (jN (VC.sub _ hΓ ?_))
  refine jR (jm rfl (jf rfl zp rfl zn (jl rfl zaj (hb4.cell 1) (je (Run.lenS rfl ze) ?_))))
  refine Ops.cl (jE1 Try.call39) (oZ xb.length _ jo) rfl ?_
  rintro e _ ⟨rfl, rfl⟩
  refine ⟨_, rfl, ?_⟩
  have hnd : needsM xb.length ≤ 10000 := by unfold needsM; omega
  refine jb rfl rfl (Bin.add_i64 _ _ jo) (ja rfl (jO ?_))
  refine qH (jN ?_)
  refine jv6 0 6 7 17 18 19 ?_
  refine jR (jb rfl rfl (Bin.add_i64 _ 1 jo) (jm rfl (jO ?_)))
  refine jN ⟨i + 1, (js6 rfl (by rw [hsn]; rfl) rfl rfl rfl rfl), ?_, ?_⟩
  · exact ⟨hc1, K, jo⟩
  first | omega | (dsimp only; omega)
 refine jX ?_
 refine qJ (qJ (qR ?_))
 refine jN (jv2 6 7 ?_)
 refine jS (jR (jm rfl (jM ?_)))
 refine Ops.cl (jE1 Try.call40) (uO _ _ jo) rfl ?_
 rintro e _ ⟨rfl, rfl⟩
 refine ⟨_, rfl, ?_⟩
 obtain rfl : i = n := jo
 rw [show l.take i = l from zf jo]
 have hsb := rK l (fun x hx => (hr.num x hx).2)
 have hpt := sG (qF H (chL l) fr).pairs.length
 refine jb rfl rfl (Bin.add_i64 _ _ jo) (jm rfl (ja rfl (ja rfl (jO (jN (jv2 4 5 ?_))))))
 refine jT ?_
 refine dC rfl rfl ?_
 exact ⟨rfl, K⟩
end
section
open Go.RowKit
def cW (H : Hm) (l : List Pr) : List Nat := l.flatMap fun x => H.lies x.1
def bM (H : Hm) : List Nat := H.dir ++ cW H H.pairs
theorem vQ {N : Nat} {a b : List Nat} {U V : Nat → Bool} (h : bG N U (a ++ b) = some V) : ∃ W, bG N U a = some W := by
 rw [jF] at h
 cases hm : bG N U a with
 | none => rw [hm] at h; cases h
 | some W => exact ⟨W, rfl⟩
theorem zQ (H : Hm) {l : List Pr} {i : Nat} (h : i < l.length) : cW H (l.take (i + 1)) = cW H (l.take i) ++ H.lies (l.getD i (0, 0)).1 := by
 rw [nB h, cW, zax]
 simp [cW]
theorem qQp (H : Hm) (l : List Pr) (i : Nat) : ∃ r, cW H l = cW H (l.take i) ++ r := ⟨cW H (l.drop i), by rw [cW, cW, cW, ← zax, zbk]⟩
set_option maxHeartbeats 1000000 in
theorem wP (U : Nat → Bool) (h g : Nat) (F : List Nat) (H : Hm) (q : HtQ) (w : World) (hH : IsHt w h g F H q) (hm : bG H.N (fun _ => false) (bM H) = some U) : Calls Try.prog 25 #[.pointer (some ⟨h, 0, none⟩)] w fun e w' => ∃ B c, e = .returned (.tuple #[.agg (spV H.N B c), .bool true]) ∧ RdS w' B H.N U ∧ Frm [] w w' ∧ ∀ x ∈ ob B, w.heap.size ≤ x := by
 have h600 := hH.ok.n600
 have hd59 := hH.ok.d59
 have hbg := hH.ok.big
 have hsz := hH.ok.sz
 have hNe : H.N = H.dk.has.length - 42 := rfl
 refine VC.calls (nt := 55) (res := #[.cell 2 56, .tmp 3]) Try.func25 rfl Try.ntmps25 Try.results25 rfl ?_
 refine jS (jR ?_)
 refine Ops.m (qZ.alloc dP) rfl ?_
 rintro _ w1 ⟨rfl, hF1⟩
 have hb2 := hF1.blk
 have K := hF1.frm
 generalize hg2 : w.heap.size = g2 at *
 refine ja rfl (jO (jN (jv2 0 2 ?_)))
 refine jS (jR (jm rfl (je (Run.nilck rfl) (jf rfl zaa rfl zfc (jl rfl Try.isAgg23 ((hH.frm K).blk.cell 0) ?_)))))
 refine Ops.cl (jE1 Try.call18) (eN g F _ w1 (hH.frm K).dk) rfl ?_
 rintro e _ ⟨rfl, rfl⟩
 refine ⟨_, rfl, ?_⟩
 refine jb rfl rfl (Bin.sub_i64 _ 42 jo jo) ?_
 refine Ops.cl (jE1 Try.call17) (rE H.N w1 jo) rfl ?_
 rintro e w2 ⟨B1, c1, rfl, hr1, hf2, hup2⟩
 refine ⟨_, rfl, ?_⟩
 have ks1 := hF1.size
 have hb2 := hb2.frm hf2 jp
 have K := K.trans hf2 jp
 refine jm rfl (je (Run.extract rfl rfl) (je (Run.extract rfl rfl) ?_))
 refine Ops.m (qZ.alloc dP) rfl ?_
 rintro _ w3 ⟨rfl, hF3⟩
 have ks3 := K.size
 have hr10 := hr1
 have hr1 := hr1.frm hF3.frm jp
 have hb2 := hb2.frm hF3.frm jp
 have K := K.trans hF3.frm jp
 have hlt2 := hb2.lt
 refine Ops.st (qS.storeA rfl rfl zk hF3.blk rfl (dY H.N B1 c1)) ?_
 rintro w4 ⟨hb4, hf4, hs4⟩
 have ks := hf2.size
 have hne : g2 ≠ w2.heap.size := by have h2 := hF1.size; have h3 := hF1.blk.lt; omega
 generalize hg4 : w2.heap.size = g4 at *
 have hb4 : Blk w4 g4 56 (spV H.N B1 c1) := hb4
 have hb40 := hb4
 have K0 : Frm [] w4 w4 := Frm.refl _ _
 have hb2 := hb2.frm hf4 (by simpa using hne)
 have K := K.own hf4 (by simp; omega)
 have hr1l := hr1.lt (jo : 0 < (H.N + 7) / 8)
 have hB14 : ∀ x ∈ ob B1, x < g4 := fun x hx => by have := hr10.lt (jo : 0 < (H.N + 7) / 8) x hx; omega
 have hr1 : RdS w4 B1 H.N (fun _ => false) := hr1.frm hf4 (fun x hx h => by rw [za] at h; have := hB14 x hx; omega)
 have hH4 := hH.frm K
 obtain ⟨V0, hm0⟩ := vQ hm
 refine ja rfl (jO (jN (jv3 0 2 4 ?_)))
 refine jS ?_
 refine VC.held (fun _ => True) jK ?_
 refine jH 1 rfl trivial (fun w0 hw0 => Run.mv rfl) ?_
 refine jH 2 rfl trivial (fun w0 hw0 => Run.nilck rfl) ?_
 refine jH 3 rfl trivial (fun w0 hw0 => Run.fieldAddr rfl zaa rfl zci jd) ?_
 refine qQ.r2 0 4 rfl rfl jK jK jK jK trivial rfl rfl (Run.loadA rfl zag zk ((hb4.drawn (qV.drew _)).cells) (by first | rfl | (simp; done))) (Run.load rfl zcz ((hH4.frm (qV.drew _).frm).blk.cell 2)) (Run.load rfl zcz ((hH4.frm (qV.drew _).frm).blk.cell 2)) (Run.loadA rfl zag zk ((hb4.drawn (qV.drew _)).cells) (by first | rfl | (simp; done))) rfl rfl rfl rfl rfl ?_
 refine qQ.cl 5 rfl jK (jE2 Try.call43) (gB H.N c1 _ _ B1 _ (fun _ => false) H.dir _ jo (hr1.frm (qV.drew _).frm jp) rfl jo (hH4.frm (qV.drew _).frm).dr.1) trivial rfl rfl ?_
 rintro e w5 ⟨hf5, ho5⟩
 obtain ⟨V1, B2, c2, hmV, rfl, hr2, hup5⟩ := ho5.resolve_right (fun h => by rw [h.1] at hm0; cases hm0)
 rw [hm0] at hmV
 cases hmV
 refine ⟨_, rfl, trivial, ?_⟩
 have k5 : Frm [] w4 w5 := (qV.drew w4).frm.trans hf5 jp
 have hb4 := hb4.frm k5 jp
 have hb2 := hb2.frm k5 jp
 have hl4 := hb4.lt
 have h4w : w.heap.size ≤ g4 := jo
 have hg4l : g4 < w4.heap.size := (Array.getElem?_eq_some_iff.1 (show w4.heap[g4]? = _ from hb40)).1
 have K := K.trans k5 jp
 have kk5 := K.size
 refine jH 6 rfl trivial (fun w0 hw0 => Run.mv rfl) ?_
 refine jH 7 rfl trivial (fun w0 hw0 => Run.extract rfl rfl) ?_
 refine jH 8 rfl trivial (fun w0 hw0 => Run.extract rfl rfl) ?_
 refine qQ.st 9 rfl jK (qS.storeA rfl rfl zk hb4 rfl (dY H.N B2 c2)) trivial rfl ?_
 rintro w6 ⟨hb4, hf6, hs6⟩
 refine ⟨trivial, ?_⟩
 have hB24 : ∀ x ∈ ob B2, g4 < x := fun x hx => by have h := hup5 x hx; rw [show w4.drew.heap.size = w4.heap.size from rfl] at h; omega
 have hr2 : RdS w6 B2 H.N V0 := hr2.frm hf6 (fun x hx h => by rw [za] at h; have := hB24 x hx; omega)
 have hb2 := hb2.frm hf6 (by simpa using hne)
 have K := K.own hf6 (by simp; omega)
 have hH6 := hH.frm K
 have hb4 : Blk w6 g4 56 (spV H.N B2 c2) := hb4
 refine jH 10 rfl trivial (fun w0 hw0 => Run.asg rfl) ?_
 refine qQ.done jK ?_
 refine jN (jv4 0 2 4 6 ?_)
 refine jS (jS (jR (jm rfl (je (Run.nilck rfl) (jf rfl zaa rfl zbb (jl rfl zbx (hH6.blk.cell 1) (je (Run.lenS rfl zh) ?_)))))))
 refine jx .i64 0 ?_
 refine jO (jN (jv7 0 2 4 6 31 32 33 ?_))
 refine jB ?_
 refine VC.loop (σ := Nat × Option Addr × Nat × (Nat → Bool)) (fun s => [(0, .pointer (some ⟨h, 0, none⟩)), (2, .pointer (some ⟨g2, 0, none⟩)), (4, .pointer (some ⟨g4, 0, none⟩)), (6, .int .i64 0), (31, .slice q.pA H.pairs.length q.pc), (32, .int .i64 ((H.pairs.length : Nat) : Int)), (33, .int .i64 ((s.1 : Nat) : Int))]) (fun s wr => s.1 ≤ H.pairs.length ∧ Blk wr g4 56 (spV H.N s.2.1 s.2.2.1) ∧ RdS wr s.2.1 H.N s.2.2.2 ∧ bG H.N (fun _ => false) (H.dir ++ cW H (H.pairs.take s.1)) = some s.2.2.2 ∧ Frm [] w wr ∧ (∃ z, Blk wr g2 56 z ∧ z.size = 2) ∧ ∀ x ∈ ob s.2.1, g4 < x) (fun s => H.pairs.length - s.1) (0, B2, c2, V0) (js7 rfl rfl rfl rfl rfl rfl rfl) ⟨zg _, hb4, hr2, by simpa [cW] using hm0, K, ⟨_, hb2, rfl⟩, hB24⟩ ?_
 rintro ⟨i, B, c, V⟩ wr ⟨hi, hb4, hr, hmi, K, ⟨z, hb2, hz⟩, hup⟩
 dsimp only at hi hb4 hr hmi hup ⊢
 refine jS (jR (jb rfl rfl (Bin.lssN _ _) (jO (jN (jS ?_)))))
 refine jD rfl (fun hc1 => ?_) fun hc1 => ?_
 ·
  have g4lt := hb4.lt
  obtain ⟨ad, hA, hel⟩ := kA (hH.pr.1.frm K jp) rfl hc1
  rw [hA]
  have hmem := fB hc1
  have hsn := zQ H hc1
  obtain ⟨rr, hrr⟩ := qQp H H.pairs (i + 1)
  have hokx := (hH.ok.okp _ hmem).1
  have hpg := (hH.ok.pg _ hmem).2.1
  obtain ⟨row, hrow, hrl⟩ := hH.lyH _ hmem
  generalize H.pairs.getD i (0, 0) = x at hel hsn hokx hpg hrow hrl
  obtain ⟨xk, xv⟩ := x
  obtain ⟨rA, rc, rp⟩ := row
  dsimp only at hsn hokx hpg hrow hrl
  subst hrl
  obtain ⟨Vn, hmn⟩ : ∃ Vn, bG H.N (fun _ => false) (H.dir ++ cW H (H.pairs.take (i + 1))) = some Vn := vQ (b := rr) (V := U) (by rw [zad, ← hrr]; exact hm)
  have hmm : bG H.N V (H.lies xk) = some Vn := by
   rw [hsn, ← zad, jF, hmi] at hmn
   exact hmn
  refine jQ (jN (jv7 0 2 4 6 31 32 33 ?_))
  refine jS (jB (jS (jR (je (Run.indexS _ rfl rfl zh zo jo) (je (Run.loadA rfl Try.isAgg91 zo hel (by first | rfl | (simp; done))) ?_)))))
  refine Ops.m (qZ.alloc hG) rfl ?_
  rintro _ w2 ⟨rfl, hF2⟩
  refine Ops.st (qS.storeA rfl rfl zo hF2.blk rfl (fV (xk, xv))) ?_
  rintro w3 ⟨hb3, hf3, hs3⟩
  have hb3 : Blk w3 wr.heap.size 91 #[.int .u64 ((xk : Nat) : Int), .int .u64 ((xv : Nat) : Int)] := hb3
  have K3 : Frm [] wr w3 := hF2.frm.own hf3 jp
  have K := K.trans K3 jp
  have hb4 := hb4.frm K3 jp
  have hb2 := hb2.frm K3 jp
  have hr := hr.frm K3 jp
  have hHr := hH.frm K
  have hg4w : w.heap.size ≤ g4 := h4w
  refine jO (jN (jv8 0 2 4 6 8 31 32 33 ?_))
  refine jS (jR (jm rfl (jb rfl rfl (Bin.eqlN _ 0) (jO (jN (jv9 0 2 4 6 8 31 32 33 38 ?_))))))
  refine VC.condT rfl (rfl) ?_
  refine VC.held (fun V => Frm [g4] w3 V) jK ?_
  have hS : Frm [g4] w3 w3.drew := (Frm.refl _ _).drew
  have n3 : wr.heap.size ≠ g4 := jo
  have nm : q.l ≠ g4 := by have := hH.mp.lt; omega
  have nh : h ≠ g4 := by have := hH.blk.lt; omega
  refine jH 1 rfl hS (fun w0 hw0 => Run.mv rfl) ?_
  refine jH 2 rfl hS (fun w0 hw0 => Run.nilck rfl) ?_
  refine jH 3 rfl hS (fun w0 hw0 => Run.fieldAddr rfl zaa rfl zcq jd) ?_
  refine jH 4 rfl hS (fun w0 hw0 => Run.load rfl zey ((hHr.blk.frm hw0 (by simpa using nh)).cell 3)) ?_
  refine jH 5 rfl hS (fun w0 hw0 => Run.fieldAddr rfl zbz rfl zx jd) ?_
  refine jH 6 rfl hS (fun w0 hw0 => Run.load rfl zar ((hb3.frm hw0 (by simpa using n3)).cell 0)) ?_
  refine jH 7 rfl hS (fun w0 hw0 => Run.lookup (enc := eU) (x := xk) rfl rfl (hHr.mp.frm hw0 (by simpa using nm)) (Go.Maps.int_keyed zai) zdw tK (fL _ hokx)) ?_
  rw [show (lyV q.ly xk).getD _ = .slice rA (H.lies xk).length rc by rw [lyV, hrow]; rfl]
  refine qQ.r1 0 rfl jK hS (Run.loadA rfl zag zk ((hb4.drawn (qV.drew _)).cells) (by first | rfl | (simp; done))) trivial rfl rfl ?_
  refine qQ.cl 8 rfl jK (jE2 Try.call43) (gB H.N c _ _ B _ V (H.lies xk) _ jo (hr.frm (qV.drew _).frm jp) rfl jo ((hHr.ly _ _ hrow).1.1.frm (qV.drew _).frm jp)) trivial rfl rfl ?_
  rintro e w5 ⟨hf5, ho5⟩
  obtain ⟨V1, B5, c5, hmV, rfl, hr5, hup5⟩ := ho5.resolve_right (fun h => by rw [h.1] at hmm; cases hmm)
  rw [hmm] at hmV
  cases hmV
  have hS := hS.trans hf5 jp
  refine ⟨_, rfl, hS, ?_⟩
  have k5 : Frm [] w3 w5 := (qV.drew w3).frm.trans hf5 jp
  have hl4 := hb4.lt
  have hb4 := hb4.frm k5 jp
  have hb2 := hb2.frm k5 jp
  have K := K.trans k5 jp
  refine jH 9 rfl hS (fun w0 hw0 => Run.mv rfl) ?_
  refine jH 10 rfl hS (fun w0 hw0 => Run.extract rfl rfl) ?_
  refine jH 11 rfl hS (fun w0 hw0 => Run.extract rfl rfl) ?_
  refine qQ.st 12 rfl jK (qS.storeA rfl rfl zk hb4 rfl (dY H.N B5 c5)) trivial rfl ?_
  rintro w6 ⟨hb4, hf6, hs6⟩
  have hS := hS.trans hf6 (fun x hx => .inl hx)
  refine ⟨hS, ?_⟩
  have hB24 : ∀ x ∈ ob B5, g4 < x := fun x hx => by have h := hup5 x hx; rw [show w3.drew.heap.size = w3.heap.size from rfl] at h; omega
  have hr5 : RdS w6 B5 H.N Vn := hr5.frm hf6 (fun x hx h => by rw [za] at h; have := hB24 x hx; omega)
  have hb2 := hb2.frm hf6 (by simpa using hne)
  have K := K.own hf6 (by simp; omega)
  have hb4 : Blk w6 g4 56 (spV H.N B5 c5) := hb4
  refine jH 13 rfl hS (fun w0 hw0 => Run.asg rfl) ?_
  refine qQ.done jK ?_
  refine qH (jN ?_)
  refine jv7 0 2 4 6 31 32 33 ?_
  refine jR (jb rfl rfl (Bin.add_i64 _ 1 jo) (jm rfl (jO ?_)))
  refine jN ⟨(i + 1, B5, c5, Vn), (js7 rfl rfl rfl rfl rfl rfl rfl), ?_, ?_⟩
  · exact ⟨hc1, hb4, hr5, hmn, K, ⟨_, hb2, hz⟩, hB24⟩
  first | omega | (dsimp only; omega)
 refine jX ?_
 refine qJ (qJ (qR ?_))
 refine jN (jv3 2 4 6 ?_)
 refine jS (jR (je (Run.loadA rfl zag zk hb4.cells (by first | rfl | (simp; done))) (jm rfl (jb rfl rfl (Bin.eqlN _ 0) ?_))))
 refine Ops.st (qS.storeA rfl rfl zk hb2 (by rw [hz]; rfl) (dY H.N B c)) ?_
 rintro w7 ⟨hb2, hf7, hs7⟩
 refine ja rfl (jO (jN (jv2 2 3 ?_)))
 refine jT ?_
 refine dL ?_
 refine cX rfl zag zk (hb2.cells) (by first | rfl | (simp; done) | (simp [*]; done)) ?_
 refine cF rfl ?_
 refine bA ?_
 obtain rfl : i = H.pairs.length := jo
 rw [zcj, show H.dir ++ cW H H.pairs = bM H from rfl, hm] at hmi
 cases hmi
 exact ⟨B, c, rfl, hr.frm hf7 (fun x hx h => by rw [za] at h; have := hup x hx; omega), K.own hf7 (by simp; omega), fun x hx => by have := hup x hx; omega⟩
end
section
open Go.RowKit
theorem sH (H : Hm) (hk : H.dk.ok) : ∀ l : List Nat, (∀ p ∈ l, p < H.N) → (cD H l).length = 126 * l.length
 | [], _ => rfl
 | p :: r, h => by
  have h1 := sH H hk r (fun x hx => h x (zcm _ hx))
  have h2 := (hk.secAt (show 42 + p < H.dk.has.length by have := h p jp; unfold Hm.N at this; omega)).1
  rw [cD, zau, zd, zj, h2]
  rw [cD] at h1
  rw [h1, zz]
  omega
theorem vX (H : Hm) (hk : H.dk.ok) (l : List Nat) (h : ∀ p ∈ l, p < H.N) : ∀ b ∈ cD H l, b < 256 := fun b hb => by
 obtain ⟨p, hp, hb⟩ := List.mem_flatMap.1 hb
 exact (hk.secAt (show 42 + p < H.dk.has.length by have := h p hp; unfold Hm.N at this; omega)).2 b (zbc hb)
theorem zX (H : Hm) {l : List Nat} {i : Nat} (h : i < l.length) : cD H (l.take (i + 1)) = cD H (l.take i) ++ (H.dk.sec (42 + l.getD i 0)).drop 2 := by
 rw [zbv, zb h, zc, zb h, cD, zax]
 simp [cD]
set_option maxHeartbeats 1000000 in
theorem sM (id : Nat) (h g : Nat) (F : List Nat) (H : Hm) (q : HtQ) (w : World) (hH : IsHt w h g F H q) (hid : id < 18446744073709551616) : Calls Try.prog 28 #[.pointer (some ⟨h, 0, none⟩), .int .u64 ((id : Nat) : Int)] w fun e w' => ∃ B d, e = .returned (.tuple #[.slice B (dE H id).2.length d, .int .i64 (((dE H id).1 : Nat) : Int)]) ∧ Rd w' 1 B (dE H id).2.length (NB (dE H id).2) ∧ Frm [] w w' ∧ ∀ x ∈ ob B, w.heap.size ≤ x := by
 have h600 := hH.ok.n600
 have hbg := hH.ok.big
 have hsz := hH.ok.sz
 have hNe : H.N = H.dk.has.length - 42 := rfl
 have hdk := hH.dk.ok
 refine VC.calls (nt := 78) (res := #[.tmp 4, .tmp 5]) Try.func28 rfl Try.ntmps28 Try.results28 rfl ?_
 refine jS (jR (ja rfl (jz 0 (jO (jN (jv2 0 1 ?_))))))
 refine jS (jR (jm rfl (je (Run.nilck rfl) (jf rfl zaa rfl zbb (jl rfl zbx (hH.blk.cell 1) (jM ?_))))))
 refine Ops.cl (jE2 Try.call20) (gD _ _ id _ H.pairs w rfl jo hH.pr.1 hH.ok.okp hH.ok.srt hid) rfl ?_
 rintro e w1 ⟨rfl, K⟩
 refine ⟨_, rfl, ?_⟩
 have hH1 := hH.frm K
 refine jm rfl (je (Run.extract rfl rfl) (je (Run.extract rfl rfl) (ja rfl (ja rfl (jO (jN (jv4 0 1 6 7 ?_)))))))
 refine jS (jS (jR (jm rfl (je (Run.not rfl) (jO (jN (jv4 0 1 6 23 ?_)))))))
 refine VC.condB rfl (fun hc1 => ?_) (fun hc1 => ?_)
 ·
  have hn : id ∉ H.pairs.map (·.1) := by simpa using hc1
  have eg : dE H id = (6, []) := by unfold dE; rw [if_pos hn]
  rw [eg]
  refine jS (jR (ja rfl (jz 6 (jO (jN (jv2 4 5 ?_))))))
  refine jT ?_
  refine qN (dC rfl rfl ?_)
  exact ⟨none, 0, rfl, Rd.nil _ _ _, K, by simp [ob]⟩
 have hn : id ∈ H.pairs.map (·.1) := by simpa using hc1
 obtain ⟨hlt, hmem, hke⟩ := pP hH.ok.srt hn
 have hokx := hH.ok.okp _ hmem
 have hpg := hH.ok.pg _ hmem
 obtain ⟨row, hrow, hrl⟩ := hH.lyH _ hmem
 obtain ⟨ad, hA, hel⟩ := kA hH1.pr.1 rfl hlt
 have eoff : H.dk.off = true → dE H id = (10, []) := fun ho => by unfold dE; rw [if_neg (not_not_intro hn), if_pos ho]
 have eon : H.dk.off = false → dE H id = if crcM ((cD H (H.lies id)).take (nK (H.pairs.getD (posM H.pairs id) (0, 0)))) = (H.pairs.getD (posM H.pairs id) (0, 0)).2 / 4294967296 then (0, (cD H (H.lies id)).take (nK (H.pairs.getD (posM H.pairs id) (0, 0)))) else (9, []) := fun ho => by
  unfold dE
  rw [if_neg (not_not_intro hn), if_neg (by simp [ho])]
 have helw : ∀ V, Frm [] w V → ∀ j v, (prC (H.pairs.getD (posM H.pairs id) (0, 0)))[j]? = some v → V.cell? ((ad.add (posM H.pairs id * 2)).add j) = some v := fun V hV => by
  obtain ⟨ad2, he, h2⟩ := kA (hH.frm hV).pr.1 rfl hlt
  rw [hA] at he
  cases he
  exact h2
 generalize hx : H.pairs.getD (posM H.pairs id) (0, 0) = x at hel helw hokx hke hpg hrow hrl eon
 obtain ⟨xk, xv⟩ := x
 obtain ⟨rA, rc, rp⟩ := row
 dsimp only at hokx hke hpg hrow hrl
 subst hke hrl
 obtain ⟨hpg1, hpg2, hpg3⟩ := hpg
 have hrr := (hH.ly _ _ hrow).1.1
 dsimp only at hrr
 have K0 := K
 refine jQ (jN (jv3 0 1 6 ?_))
 refine jS (jR (ja rfl (jO (jN (jS (jS (jR (jm rfl (je (Run.nilck rfl) (jf rfl zaa rfl zcq (jl rfl zey (hH1.blk.cell 3) (jm rfl (je (Run.lookup (enc := eU) (x := xk) rfl rfl hH1.mp (Go.Maps.int_keyed zai) zdw tK (fL _ hid)) ?_)))))))))))))
 rw [show (lyV q.ly xk).getD _ = .slice rA (H.lies xk).length rc by rw [lyV, hrow]; rfl]
 refine je (Run.lenS rfl zw) ?_
 refine jx .i64 0 ?_
 refine jO (jN (jv6 0 6 8 29 30 31 ?_))
 refine jB ?_
 refine VC.loop (σ := Nat × Option Addr × Nat) (fun s => [(0, .pointer (some ⟨h, 0, none⟩)), (6, .int .i64 ((posM H.pairs xk : Nat) : Int)), (8, .slice s.2.1 (126 * s.1) s.2.2), (29, .slice rA (H.lies xk).length rc), (30, .int .i64 (((H.lies xk).length : Nat) : Int)), (31, .int .i64 ((s.1 : Nat) : Int))]) (fun s wr => s.1 ≤ (H.lies xk).length ∧ (H.dk.off = true → s.1 = 0) ∧ Own wr 5 1 s.2.1 (126 * s.1) s.2.2 (NB (cD H ((H.lies xk).take s.1))) ∧ Frm [] w wr ∧ ∀ x ∈ ob s.2.1, w.heap.size ≤ x) (fun s => (H.lies xk).length - s.1) (0, none, 0) (js6 rfl rfl rfl rfl rfl rfl) ⟨zg _, fun _ => rfl, Own.nil _ _ _, K, by simp [ob]⟩ ?_
 rintro ⟨i, B, d⟩ wr ⟨hi, ho0, ho, K, hup⟩
 dsimp only at hi ho0 ho hup ⊢
 refine jS (jR (jb rfl rfl (Bin.lssN _ _) (jO (jN (jS ?_)))))
 refine jD rfl (fun hc2 => ?_) fun hc2 => ?_
 ·
  obtain ⟨ad3, hrA, hc3⟩ := rdZ (hrr.frm K jp) rfl hc2
  subst hrA
  have hsn := zX H hc2
  have hpN := hpg1 _ (bD hc2)
  have hsec := hdk.secAt (jo : 42 + (H.lies xk).getD i 0 < H.dk.has.length)
  generalize (H.lies xk).getD i 0 = p at hc3 hsn hpN hsec
  refine jQ (jN (jv6 0 6 8 29 30 31 ?_))
  refine jS (jB (jS (jR (je (Run.index1 _ rfl rfl zw zt jo) (jl rfl zac hc3 (ja rfl (jO (jN (jv7 0 6 8 10 29 30 31 ?_)))))))))
  refine jS (jR (jm rfl (jM ?_)))
  refine Ops.cl (jE2 Try.call57) (yO p h g F H q wr (hH.frm K) hpN) rfl ?_
  rintro e w2 ⟨B2, n2, rfl, hn2, hr2, hf2, hup2⟩
  refine ⟨_, rfl, ?_⟩
  have ho := ho.frm hf2 jp
  have K := K.trans hf2 jp
  have ks := K.size
  refine jm rfl (je (Run.extract rfl rfl) (je (Run.extract rfl rfl) (ja rfl (ja rfl (jO (jN (jv8 0 6 8 11 12 29 30 31 ?_)))))))
  refine jS (jS (jR (jm rfl (je (Run.not rfl) (jO (jN (jv8 0 6 8 11 29 30 31 42 ?_)))))))
  refine VC.condB rfl (fun hc3 => ?_) (fun hc3 => ?_)
  ·
   have hoff : H.dk.off = true := by simpa using hc3
   rw [eoff hoff]
   refine jS (jR (ja rfl (jz 10 (jO (jN (jv2 4 5 ?_))))))
   refine jT ?_
   refine qN (qC (qN (qN (qC (qN (dC rfl rfl ?_))))))
   exact ⟨none, 0, rfl, Rd.nil _ _ _, K, by simp [ob]⟩
  have hoff : H.dk.off = false := by simpa using hc3
  have hrd : H.dk.read (42 + p) = (0, H.dk.sec (42 + p)) := by unfold Dk.read; rw [if_neg jo, if_neg (by simp [hoff])]
  rw [hrd] at hn2 hr2
  dsimp only at hn2 hr2
  rw [hsec.1] at hn2
  subst hn2
  have hcut := hr2.cut (l := 2) (r := 128) (cap := 128) jo (zm _) (zm _)
  rw [zf (by rw [zj, NB, zae, hsec.1]; omega), zce, (lP _ _).2] at hcut
  refine jQ (jN (jv7 0 6 8 11 29 30 31 ?_))
  refine jR (jm rfl (jm rfl (je (Run.sliceS 2 _ rfl ze zaf (evB.some_ rfl) evB.none_ jo jo) ?_)))
  refine Ops.m (qZ.app rfl rfl ze (cA) rfl jd ho hcut (cG _) jo jo) rfl ?_
  rintro _ w6 ⟨B6, d6, rfl, ho6, hf6, hob6⟩
  rw [← cZ, ← hsn] at ho6
  rw [show 126 * i + (128 - 2) = 126 * (i + 1) by omega] at ho6 ⊢
  refine ja rfl (jO ?_)
  refine qH (jN ?_)
  refine jv6 0 6 8 29 30 31 ?_
  refine jR (jb rfl rfl (Bin.add_i64 _ 1 jo) (jm rfl (jO ?_)))
  refine jN ⟨(i + 1, B6, d6), (js6 rfl rfl rfl rfl rfl rfl), ?_, ?_⟩
  · exact ⟨hc2, fun hz => absurd hz (by simp [hoff]), ho6, K.own hf6 hup, (Fk.of_app hf6 hob6).up hup ks⟩
  first | omega | (dsimp only; omega)
 refine jX ?_
 refine qJ (qJ (qR ?_))
 refine jN (jv3 0 6 8 ?_)
 refine jS (jS (jR (jm rfl (je (Run.nilck rfl) (jf rfl zaa rfl zfc (jl rfl Try.isAgg23 ((hH.frm K).blk.cell 0) ?_))))))
 refine Ops.cl (jE1 Try.call58) (vC g F H.dk wr (hH.frm K).dk) rfl ?_
 rintro e _ ⟨rfl, rfl⟩
 refine ⟨_, rfl, ?_⟩
 obtain rfl : i = (H.lies xk).length := jo
 rw [zcj] at ho
 have hHr := hH.frm K
 refine je (Run.not rfl) (jO (jN (jv4 0 6 8 53 ?_)))
 refine VC.condB rfl (fun hc4 => ?_) (fun hc4 => ?_)
 ·
  have hoff : H.dk.off = true := by simpa using hc4
  rw [eoff hoff]
  refine jS (jR (ja rfl (jz 10 (jO (jN (jv2 4 5 ?_))))))
  refine jT ?_
  refine qN (dC rfl rfl ?_)
  exact ⟨none, 0, rfl, Rd.nil _ _ _, K, by simp [ob]⟩
 have hoff : H.dk.off = false := by simpa using hc4
 rw [eon hoff]
 have hrl := sH H hdk _ hpg1
 have hlp : nK (xk, xv) = xv / 65536 % 65536 := rfl
 have hle := ho.le
 rw [hlp] at hpg3 ⊢
 refine jQ (jN (jv3 0 6 8 ?_))
 refine jS (jR (jm rfl (jm rfl (je (Run.nilck rfl) (jf rfl zaa rfl zbb (jl rfl zbx (hHr.blk.cell 1) ?_))))))
 rw [hA]
 refine jm rfl (je (Run.indexS _ rfl rfl zh zo jo) (je (Run.loadA rfl Try.isAgg91 zo (helw _ K) (by first | rfl | (simp; done))) ?_))
 refine Ops.cl (jE1 Try.call59) (uB (xk, xv) wr hokx.2) rfl ?_
 rintro e w3 ⟨rfl, K3⟩
 refine ⟨_, rfl, ?_⟩
 have K := K.trans K3 jp
 have ho := ho.frm K3 jp
 dsimp only at hle ⊢
 refine je (Run.sliceS 0 _ rfl ze zaf evB.none_ (evB.some_ rfl) jo jo) ?_
 rw [cR, zbf, zbf]
 have hob := (ho.rd.cut (l := 0) (r := xv / 65536 % 65536) (cap := d) (zg _) hpg3 hle)
 rw [cR, zbf, zdb, zbr, zce, (lP _ _).1] at hob
 have hol : ((cD H (H.lies xk)).take (xv / 65536 % 65536)).length = xv / 65536 % 65536 := by rw [zi, hrl]; omega
 have hlt8 : ∀ b ∈ (cD H (H.lies xk)).take (xv / 65536 % 65536), b < 256 := fun b hb => vX H hdk _ hpg1 b (zr hb)
 generalize (cD H (H.lies xk)).take (xv / 65536 % 65536) = out at hob hol hlt8 ⊢
 generalize xv / 65536 % 65536 = ln at *
 refine ja rfl (jO (jN (jv3 0 6 8 ?_)))
 refine jS (jS ?_)
 refine VC.held (fun V => Frm [] w V) jK ?_
 have hS : Frm [] w w3.drew := K.drawn (qV.drew _)
 have hob := hob.drawn (qV.drew w3)
 refine jH 0 rfl hS (fun w0 hw0 => Run.mv rfl) ?_
 refine jH 3 rfl hS (fun w0 hw0 => Run.mv rfl) ?_
 refine jH 4 rfl hS (fun w0 hw0 => Run.nilck rfl) ?_
 refine jH 5 rfl hS (fun w0 hw0 => Run.fieldAddr rfl zaa rfl zbb jd) ?_
 refine jH 6 rfl hS (fun w0 hw0 => Run.load rfl zbx ((hH.frm hw0).blk.cell 1)) ?_
 rw [hA]
 refine jH 7 rfl hS (fun w0 hw0 => Run.mv rfl) ?_
 refine jH 8 rfl hS (fun w0 hw0 => Run.indexS _ rfl rfl zh zo jo) ?_
 refine jH 9 rfl hS (fun w0 hw0 => Run.fieldAddr rfl zbz rfl zx jd) ?_
 refine jH 10 rfl hS (fun w0 hw0 => Run.load rfl zar (helw _ hw0 1 _ rfl)) ?_
 refine jH 11 rfl hS (fun w0 hw0 => Run.bin rfl rfl (Bin.shr_u64 _ 32 jo)) ?_
 rw [show xv / 2 ^ 32 = xv / 4294967296 from rfl]
 refine qQ.cl 1 rfl jK (jE1 Try.call60) (mD B d ln out _ hol jo hlt8 hob) trivial rfl rfl ?_
 rintro e w4 ⟨rfl, hf4⟩
 have hS := hS.trans hf4 jp
 refine ⟨_, rfl, hS, ?_⟩
 have hob := hob.frm hf4 jp
 have hc32 := lW out
 refine jH 2 rfl hS (fun w0 hw0 => Run.convN _ rfl zcf zai (by simp only [bmax]; omega)) ?_
 refine jH 12 rfl hS (fun w0 hw0 => Run.bin rfl rfl (Bin.neqN _ _)) ?_
 refine qQ.done jK ?_
 refine jN (jv2 8 76 ?_)
 refine jD rfl (fun hc5 => ?_) fun hc5 => ?_
 ·
  rw [if_neg hc5]
  refine jS (jR (ja rfl (jz 9 (jO (jN (jv2 4 5 ?_))))))
  refine jT ?_
  refine qN (dC rfl rfl ?_)
  exact ⟨none, 0, rfl, Rd.nil _ _ _, hS, by simp [ob]⟩
 rw [if_pos (Classical.not_not.1 hc5)]
 refine jQ (jN (jv1 8 ?_))
 refine jS (jR (jm rfl (ja rfl (jz 0 (jO (jN (jv2 4 5 ?_)))))))
 refine jT ?_
 refine dC rfl rfl ?_
 rw [← hol] at hob ⊢
 exact ⟨B, d, rfl, hob, hS, hup⟩
end
section
open Go.RowKit
theorem MpF.ne_own {P : Program} {k : TypeId} {κ : Type} {enc : κ → Value} {w : World} {g : Nat} {M : κ → Option Value} (h : MpF P k enc w g M) {e sz n c : Nat} {A : Option Addr} {xs : List Value} (ho : Own w e sz A n c xs) : g ∉ ob A := by
 intro hg
 rcases ho.cases with ⟨rfl, _⟩ | ⟨b, cur, rfl, hb, _⟩
 · simp [ob] at hg
 simp only [ob, za] at hg
 exact h.ne_blk hb hg
theorem Blk.ne_own {w : World} {g : Nat} {t : TypeId} {cs : Array Value} (hb : Blk w g t cs) {e sz n c : Nat} {A : Option Addr} {xs : List Value} (ho : Own w e sz A n c xs) (hne : t ≠ e) : g ∉ ob A := by
 intro hg
 rcases ho.cases with ⟨rfl, _⟩ | ⟨b, cur, rfl, hb', _⟩
 · simp [ob] at hg
 simp only [ob, za] at hg
 exact hb.ne hb' hne hg
theorem qQq (l : List Nat) (k : Nat) : (ZN l).take k = ZN (l.take k) ∧ (ZN l).drop k = ZN (l.drop k) := ⟨by simp [ZN, zdj], by simp [ZN, List.map_drop]⟩
theorem RdX.take {w : World} {X : List Nat} {A : Option Addr} {n k : Nat} {l : List Nat} (h : RdX w X 1 A n (ZN l)) (hk : k ≤ n) : RdX w X 1 A k (ZN (l.take k)) := by
 have h1 := h.1.cut (l := 0) (r := k) (cap := n + 1) (zg _) hk jo
 rw [cR, zdb, zbr, zbf, zce, (qQq _ _).1] at h1
 exact ⟨h1, fun h0 => h.2 jo⟩
theorem RdX.drop {w : World} {X : List Nat} {A : Option Addr} {n k c : Nat} {l : List Nat} (h : RdX w X 1 A n (ZN l)) (hl : l.length = n) (hk : k ≤ n) (hc : n ≤ c) : RdX w X 1 (bO A c k 1) (n - k) (ZN (l.drop k)) := by
 have h1 := h.1.cut (l := k) (r := n) (cap := c) hk (zm _) hc
 rw [(qQq _ _).2, zf (by rw [ZN, zae, zj]; omega), zce] at h1
 exact ⟨h1, fun h0 y hy => h.2 jo y (by rw [fX] at hy; exact hy)⟩
theorem RdX.more {w w1 : World} {X : List Nat} {sz n : Nat} {A : Option Addr} {xs : List Value} (h : RdX w X sz A n xs) (k : Frm [] w w1) : RdX w1 (w.heap.size :: X) sz A n xs := ⟨h.1.frm k jp, fun h0 y hy => by
 have h1 := h.2 h0 y hy
 refine ⟨zq h1.1 k.size, fun hx => ?_⟩
 rcases zl.1 hx with rfl | hx
 · exact zby _ h1.1
 exact h1.2 hx⟩
theorem RdX.less {w w1 : World} {X : List Nat} {g sz n : Nat} {A : Option Addr} {xs : List Value} (h : RdX w (g :: X) sz A n xs) (k : Frm [g] w w1) : RdX w1 X sz A n xs := ⟨h.1.frm k (fun h0 y hy hx => by
 rw [za] at hx
 subst hx
 exact (h.2 h0 _ hy).2 jp), fun h0 y hy => ⟨zq (h.2 h0 y hy).1 k.size, fun hx => (h.2 h0 y hy).2 (by simp [hx])⟩⟩
theorem xB (f : Nat → Option Lq) (x : Nat) (r : Lq) : (fun y => if y = x then some (lqV r) else lyV f y) = lyV (fun y => if y = x then some r else f y) := by
 funext y
 unfold lyV
 by_cases h : y = x <;> simp [h]
theorem qZ4 (f : Nat → Option Lq) (x : Nat) : (fun y => if y = x then none else lyV f y) = lyV (fun y => if y = x then none else f y) := by
 funext y
 unfold lyV
 by_cases h : y = x <;> simp [h]
def oR (l : List Pu) : Prop := ∀ x ∈ l, x.1 ≤ 1000000 ∧ x.2.length = 128 ∧ ∀ b ∈ x.2, b < 256
theorem oS {a b : List Pu} (h : oR a) (k : oR b) : oR (a ++ b) := fun x hx => by
 rcases zbs.1 hx with h1 | h1
 · exact h x h1
 exact k x h1
theorem pR {D pg : List Nat} (hB : ∀ b ∈ D, b < 256) (hp : ∀ p ∈ pg, p < 2048) : oR (cB D pg) := fun x hx => by
 obtain ⟨i, hi, rfl⟩ := List.mem_map.1 hx
 have h1 := hp _ (bD (List.mem_range.1 hi))
 exact ⟨by dsimp only; omega, sJ _ _ _, uU hB _ _⟩
structure DrQ where
 S : Option Addr
 sc : Nat
 ps : List Pq
 A : Option Addr
 ca : Nat
 ly : Nat → Option Lq
 fA : Option Addr
 fc : Nat
 dv : Value
def DrQ.X (g7 m : Nat) (t : DrQ) : List Nat := g7 :: m :: (ob t.S ++ ob t.A)
def plV (S : Option Addr) (n sc : Nat) (A : Option Addr) (na ca m : Nat) (dv : Value) : Array Value := #[.slice S n sc, .slice A na ca, .map (some m), dv]
structure OkD (D : Dw) : Prop where
 srt : Srt D.pairs
 okp : OkP D.pairs
 frb : ∀ p ∈ D.free, p < 2048
 pu : oR D.puts
structure IsDr (w wr : World) (X : List Nat) (g7 m : Nat) (D : Dw) (t : DrQ) (ex : List Nat) : Prop where
 ok : OkD D
 K : Frm [] w wr
 blk : Blk wr g7 72 (plV t.S t.ps.length t.sc t.A D.pairs.length t.ca m t.dv)
 S : Own wr 107 2 t.S t.ps.length t.sc (t.ps.flatMap pqC)
 pu : puL t.ps = D.puts
 ps : PuS w.heap.size wr (t.X g7 m) t.ps
 A : Own wr 91 2 t.A D.pairs.length t.ca (PC2 D.pairs)
 mp : MpU wr m t.ly
 ly : ∀ id r, t.ly id = some r → RdX w X 1 r.1 r.2.2.length (ZN r.2.2) ∧ id < 18446744073709551616
 lyD : ∀ x ∈ D.pairs, x.1 ∉ ex → ∃ r, t.ly x.1 = some r ∧ r.2.2 = D.lies x.1
 fr : RdX w X 1 t.fA D.free.length (ZN D.free)
 fc : D.free.length ≤ t.fc
 up : ∀ x ∈ t.X g7 m, w.heap.size ≤ x
section
variable {w wr w1 w2 : World} {X ex : List Nat} {g7 m : Nat} {D : Dw} {t : DrQ}
theorem IsDr.frm (d : IsDr w wr X g7 m D t ex) (k : Frm [] wr w1) : IsDr w w1 X g7 m D t ex :=
 ⟨d.ok, d.K.trans k jp, d.blk.frm k jp, d.S.frm k jp, d.pu, d.ps.frm k, d.A.frm k jp, d.mp.frm k jp, d.ly, d.lyD, d.fr, d.fc, d.up⟩
theorem IsDr.apart (d : IsDr w wr X g7 m D t ex) : g7 ≠ m ∧ g7 ∉ ob t.S ∧ g7 ∉ ob t.A ∧ m ∉ ob t.S ∧ m ∉ ob t.A ∧ (∀ x ∈ ob t.S, x ∉ ob t.A) ∧ (∀ x ∈ ob t.A, x ∉ ob t.S) :=
 ⟨fun h => d.mp.ne_blk d.blk h.symm, Blk.ne_own d.blk d.S jd, Blk.ne_own d.blk d.A jd, d.mp.ne_own d.S, d.mp.ne_own d.A, d.S.ne_own d.A jd, d.A.ne_own d.S jd⟩
theorem IsDr.base {S : List Nat} {t' : DrQ} (d : IsDr w wr X g7 m D t ex) (k : Frm S wr w2) (hS : ∀ x ∈ S, x ∈ t.X g7 m) (hX : ∀ x ∈ t'.X g7 m, x ∈ t.X g7 m ∨ wr.heap.size ≤ x) : Frm [] w w2 ∧ (∀ x ∈ t'.X g7 m, w.heap.size ≤ x) ∧ PuS w.heap.size w2 (t'.X g7 m) t.ps :=
 ⟨d.K.own k (fun x hx => d.up x (hS x hx)), fun x hx => by
  rcases hX x hx with h | h
  · exact d.up x h
  exact zap d.K.size h, d.ps.fk ⟨k.mono (fun x hx => .inl (hS x hx)), hX⟩⟩
theorem IsDr.erase (d : IsDr w wr X g7 m D t ex) (id : Nat) {n : Nat} (hn : n = (bH D.pairs id ++ bQ D.pairs id).length) (ho : Own w1 91 2 t.A n t.ca (PC2 (bH D.pairs id ++ bQ D.pairs id))) (k1 : Frm (ob t.A) wr w1)
  (hb : Blk w2 g7 72 (plV t.S t.ps.length t.sc t.A n t.ca m t.dv)) (k2 : Frm [g7] w1 w2) : IsDr w w2 X g7 m { D with pairs := bH D.pairs id ++ bQ D.pairs id } t ex := by
 subst hn
 obtain ⟨h1, h2, h3, h4, h5, h6, h7⟩ := d.apart
 have k : Frm (g7 :: ob t.A) wr w2 := (k1.mono (fun x hx => .inl (by simp [hx]))).trans k2 (fun x hx => .inl (by simp at hx; simp [hx]))
 obtain ⟨b1, b2, b3⟩ := d.base (t' := t) k (fun x hx => by rcases zl.1 hx with rfl | hx; simp [DrQ.X]; simp [DrQ.X, hx]) (fun x hx => .inl hx)
 have hmem : ∀ x ∈ bH D.pairs id ++ bQ D.pairs id, x ∈ D.pairs := fun x hx => by
  rcases zbs.1 hx with h | h <;> exact (List.mem_filter.1 h).1
 exact ⟨⟨xN d.ok.srt id, fun x hx => d.ok.okp x (hmem x hx), d.ok.frb, d.ok.pu⟩, b1, hb, d.S.frm k (fun x hx h => by
  rcases zl.1 h with rfl | h
  · exact h2 hx
  · exact h6 x hx h), d.pu, b3, ho.frm k2 (fun x hx h => by rw [za] at h; subst h; exact h3 hx), d.mp.frm k (fun h => by
  rcases zl.1 h with h | h
  · exact h1 h.symm
  exact h5 h), d.ly, fun x hx => d.lyD x (hmem x hx), d.fr, d.fc, b2⟩
theorem IsDr.unlie (d : IsDr w wr X g7 m D t ex) (id : Nat) (hid : id ∉ D.pairs.map (·.1)) (hm : MpF Try.prog 35 eU w2 m (fun y => if y = id then none else lyV t.ly y)) (k : Frm [m] wr w2) : IsDr w w2 X g7 m D { t with ly := fun y => if y = id then none else t.ly y } ex := by
 obtain ⟨h1, h2, h3, h4, h5, h6, h7⟩ := d.apart
 obtain ⟨b1, b2, b3⟩ := d.base (t' := { t with ly := fun y => if y = id then none else t.ly y }) k (fun x hx => by rw [za] at hx; subst hx; simp [DrQ.X]) (fun x hx => .inl hx)
 rw [qZ4] at hm
 refine ⟨d.ok, b1, d.blk.frm k (by simpa using h1), d.S.frm k (fun x hx h => by rw [za] at h; subst h; exact h4 hx), d.pu, b3, d.A.frm k (fun x hx h => by rw [za] at h; subst h; exact h5 hx), hm, fun y r hy => ?_, fun x hx he => ?_, d.fr, d.fc, b2⟩
 ·
  dsimp only at hy
  by_cases h : y = id
  · rw [if_pos h] at hy; cases hy
  rw [if_neg h] at hy; exact d.ly y r hy
 dsimp only
 rw [if_neg (fun h => hid (List.mem_map.2 ⟨x, hx, h⟩))]
 exact d.lyD x hx he
theorem IsDr.puts (d : IsDr w wr X g7 m D t ex) {qs : List Pq} {S1 : Option Addr} {n1 sc1 : Nat} {us : List Pu} (hn : n1 = (t.ps ++ qs).length) (ho : Own w1 107 2 S1 n1 sc1 ((t.ps ++ qs).flatMap pqC)) (k1 : Frm (ob t.S) wr w1) (hob : ob S1 = ob t.S ∨ ob S1 = [wr.heap.size])
  (hb : Blk w2 g7 72 (plV S1 n1 sc1 t.A D.pairs.length t.ca m t.dv)) (k2 : Frm [g7] w1 w2) (hus : puL qs = us) (hok : oR us) (hq : PuS w.heap.size w2 (g7 :: m :: (ob S1 ++ ob t.A)) qs) (ex' : List Nat) :
  IsDr w w2 X g7 m { D with puts := D.puts ++ us } { t with S := S1, sc := sc1, ps := t.ps ++ qs } ex := by
 subst hn hus
 obtain ⟨h1, h2, h3, h4, h5, h6, h7⟩ := d.apart
 have k : Frm (g7 :: ob t.S) wr w2 := (k1.mono (fun x hx => .inl (by simp [hx]))).trans k2 (fun x hx => .inl (by simp at hx; simp [hx]))
 obtain ⟨b1, b2, b3⟩ := d.base (t' := { t with S := S1, sc := sc1, ps := t.ps ++ qs }) k (fun x hx => by rcases zl.1 hx with rfl | hx; simp [DrQ.X]; simp [DrQ.X, hx]) (fun x hx => by
  simp only [DrQ.X, zl, zbs] at hx ⊢
  rcases hx with h | h | h | h
  · exact .inl (.inl h)
  · exact .inl (.inr (.inl h))
  ·
   rcases hob with e | e
   · rw [e] at h; exact .inl (.inr (.inr (.inl h)))
   rw [e, za] at h; exact .inr (zfe h.symm)
  exact .inl (.inr (.inr (.inr h))))
 refine ⟨⟨d.ok.srt, d.ok.okp, d.ok.frb, oS d.ok.pu hok⟩, b1, hb, ho.frm k2 (fun x hx h => ?_), ?_, b3.app hq, d.A.frm k (fun x hx h => ?_), d.mp.frm k (fun h => ?_), d.ly, d.lyD, d.fr, d.fc, b2⟩
 ·
  rw [za] at h
  subst h
  rcases hob with e | e
  · rw [e] at hx; exact h2 hx
  rw [e, za] at hx; have := d.blk.lt; omega
 ·
  show puL (t.ps ++ qs) = D.puts ++ puL qs
  rw [puL, zy, ← d.pu]
  rfl
 ·
  rcases zl.1 h with rfl | h
  · exact h3 hx
  exact h7 x hx h
 rcases zl.1 h with h | h
 · exact h1 h.symm
 exact h4 h
theorem IsDr.ins (d : IsDr w wr X g7 m D t []) (id v : Nat) {A1 : Option Addr} {n1 ca1 : Nat} (hid : id < 18446744073709551616) (hv : v < 18446744073709551616) (hn : n1 = (bH D.pairs id ++ (id, v) :: bQ D.pairs id).length) (ho : Own w1 91 2 A1 n1 ca1 (PC2 (bH D.pairs id ++ (id, v) :: bQ D.pairs id))) (k1 : Frm (ob t.A) wr w1) (hob : ∀ x ∈ ob A1, x ∈ ob t.A ∨ wr.heap.size ≤ x)
  (hb : Blk w2 g7 72 (plV t.S t.ps.length t.sc A1 n1 ca1 m t.dv)) (k2 : Frm [g7] w1 w2) : IsDr w w2 X g7 m { D with pairs := bH D.pairs id ++ (id, v) :: bQ D.pairs id } { t with A := A1, ca := ca1 } [id] := by
 subst hn
 obtain ⟨h1, h2, h3, h4, h5, h6, h7⟩ := d.apart
 have k : Frm (g7 :: ob t.A) wr w2 := (k1.mono (fun x hx => .inl (by simp [hx]))).trans k2 (fun x hx => .inl (by simp at hx; simp [hx]))
 obtain ⟨b1, b2, b3⟩ := d.base (t' := { t with A := A1, ca := ca1 }) k (fun x hx => by rcases zl.1 hx with rfl | hx; simp [DrQ.X]; simp [DrQ.X, hx]) (fun x hx => by
  simp only [DrQ.X, zl, zbs] at hx ⊢
  rcases hx with h | h | h | h
  · exact .inl (.inl h)
  · exact .inl (.inr (.inl h))
  · exact .inl (.inr (.inr (.inl h)))
  rcases hob x h with e | e
  · exact .inl (.inr (.inr (.inr e)))
  exact .inr e)
 have hmem : ∀ x ∈ bH D.pairs id ++ (id, v) :: bQ D.pairs id, x = (id, v) ∨ x ∈ D.pairs := fun x hx => by
  rcases zbs.1 hx with h | h
  · exact .inr (List.mem_filter.1 h).1
  rcases zl.1 h with h | h
  · exact .inl h
  exact .inr (List.mem_filter.1 h).1
 refine ⟨⟨xP d.ok.srt id v, fun x hx => ?_, d.ok.frb, d.ok.pu⟩, b1, hb, d.S.frm k (fun x hx h => ?_), d.pu, b3, ho.frm k2 (fun x hx h => ?_), d.mp.frm k (fun h => ?_), d.ly, fun x hx he => ?_, d.fr, d.fc, b2⟩
 ·
  rcases hmem x hx with rfl | h
  · exact ⟨hid, hv⟩
  exact d.ok.okp x h
 ·
  rcases zl.1 h with rfl | h
  · exact h2 hx
  exact h6 x hx h
 ·
  rw [za] at h
  subst h
  rcases hob _ hx with e | e
  · exact h3 e
  have := d.blk.lt; omega
 ·
  rcases zl.1 h with h | h
  · exact h1 h.symm
  exact h5 h
 rcases hmem x hx with rfl | h
 · exact absurd (za.2 rfl) he
 exact d.lyD x h jp
theorem IsDr.lie {id : Nat} (d : IsDr w wr X g7 m D t [id]) {r : Lq} (hid : id < 18446744073709551616) (hr : RdX w X 1 r.1 r.2.2.length (ZN r.2.2)) (hm : MpF Try.prog 35 eU w2 m (fun y => if y = id then some (lqV r) else lyV t.ly y)) (k : Frm [m] wr w2) : IsDr w w2 X g7 m { D with lies := fun y => if y = id then r.2.2 else D.lies y } { t with ly := fun y => if y = id then some r else t.ly y } [] := by
 obtain ⟨h1, h2, h3, h4, h5, h6, h7⟩ := d.apart
 obtain ⟨b1, b2, b3⟩ := d.base (t' := { t with ly := fun y => if y = id then some r else t.ly y }) k (fun x hx => by rw [za] at hx; subst hx; simp [DrQ.X]) (fun x hx => .inl hx)
 rw [xB] at hm
 refine ⟨⟨d.ok.srt, d.ok.okp, d.ok.frb, d.ok.pu⟩, b1, d.blk.frm k (by simpa using h1), d.S.frm k (fun x hx h => by rw [za] at h; subst h; exact h4 hx), d.pu, b3, d.A.frm k (fun x hx h => by rw [za] at h; subst h; exact h5 hx), hm, fun y r' hy => ?_, fun x hx _ => ?_, d.fr, d.fc, b2⟩
 ·
  dsimp only at hy
  by_cases h : y = id
  · rw [if_pos h] at hy; cases hy; subst h; exact ⟨hr, hid⟩
  rw [if_neg h] at hy; exact d.ly y r' hy
 dsimp only
 by_cases h : x.1 = id
 · rw [if_pos h, if_pos h]; exact ⟨r, rfl, rfl⟩
 rw [if_neg h, if_neg h]; exact d.lyD x hx (by simpa using h)
theorem IsDr.less (d : IsDr w wr X g7 m D t ex) {k : Nat} (hk : k ≤ D.free.length) : IsDr w wr X g7 m { D with free := D.free.drop k } { t with fA := bO t.fA t.fc k 1, fc := t.fc - k } ex :=
 ⟨⟨d.ok.srt, d.ok.okp, fun p hp => d.ok.frb p (zbc hp), d.ok.pu⟩, d.K, d.blk, d.S, d.pu, d.ps, d.A, d.mp, d.ly, d.lyD, by
  have := d.fr.drop rfl hk d.fc
  rw [← zj] at this
  exact this, by have := d.fc; dsimp only; rw [zj]; omega, d.up⟩
theorem IsDr.lt (d : IsDr w wr X g7 m D t ex) : ∀ x ∈ t.X g7 m, x < wr.heap.size := fun x hx => by
 simp only [DrQ.X, zl, zbs] at hx
 rcases hx with rfl | rfl | h | h
 · exact d.blk.lt
 · exact d.mp.lt
 · exact d.S.lt x h
 exact d.A.lt x h
theorem IsDr.past {S : List Nat} (d : IsDr w wr X g7 m D t ex) (k : Frm S wr w2) (hS : ∀ x ∈ t.X g7 m, x ∉ S) (hup : ∀ x ∈ S, w.heap.size ≤ x) (hps : t.ps = []) : IsDr w w2 X g7 m D t ex :=
 ⟨d.ok, d.K.own k hup, d.blk.frm k (hS _ (by simp [DrQ.X])), d.S.frm k (fun x hx => hS _ (by simp [DrQ.X, hx])), d.pu, (by rw [hps]; exact PuS.nil _ _ _), d.A.frm k (fun x hx => hS _ (by simp [DrQ.X, hx])), d.mp.frm k (hS _ (by simp [DrQ.X])), d.ly, d.lyD, d.fr, d.fc, d.up⟩
theorem qQr (l : List Ch) (i : Nat) : sumN (l.take i) ≤ sumN l := by
 have h : sumN l = sumN (l.take i) + sumN (l.drop i) := by
  unfold sumN
  rw [← List.sum_append, ← zy, zbk]
 omega
theorem IsDr.copy (d : IsDr w wr X g7 m D t ex) {y : Nat} {r : Lq} (hex : ∀ x ∈ D.pairs, x.1 ∈ ex) (hid : y < 18446744073709551616) (hr : RdX w X 1 r.1 r.2.2.length (ZN r.2.2)) (hm : MpF Try.prog 35 eU w2 m (fun z => if z = y then some (lqV r) else lyV t.ly z)) (k : Frm [m] wr w2) : IsDr w w2 X g7 m D { t with ly := fun z => if z = y then some r else t.ly z } ex := by
 obtain ⟨h1, h2, h3, h4, h5, h6, h7⟩ := d.apart
 obtain ⟨b1, b2, b3⟩ := d.base (t' := { t with ly := fun z => if z = y then some r else t.ly z }) k (fun x hx => by rw [za] at hx; subst hx; simp [DrQ.X]) (fun x hx => .inl hx)
 rw [xB] at hm
 refine ⟨d.ok, b1, d.blk.frm k (by simpa using h1), d.S.frm k (fun x hx h => by rw [za] at h; subst h; exact h4 hx), d.pu, b3, d.A.frm k (fun x hx h => by rw [za] at h; subst h; exact h5 hx), hm, fun z r' hz => ?_, fun x hx he => absurd (hex x hx) he, d.fr, d.fc, b2⟩
 dsimp only at hz
 by_cases h : z = y
 · rw [if_pos h] at hz; cases hz; subst h; exact ⟨hr, hid⟩
 rw [if_neg h] at hz; exact d.ly z r' hz
theorem IsDr.told (d : IsDr w wr X g7 m D t ex) (h : ∀ x ∈ D.pairs, ∃ r, t.ly x.1 = some r ∧ r.2.2 = D.lies x.1) : IsDr w wr X g7 m D t [] := ⟨d.ok, d.K, d.blk, d.S, d.pu, d.ps, d.A, d.mp, d.ly, fun x hx _ => h x hx, d.fr, d.fc, d.up⟩
theorem IsDr.dirs (d : IsDr w wr X g7 m D t ex) {dv : Value} (hb : Blk w2 g7 72 (plV t.S t.ps.length t.sc t.A D.pairs.length t.ca m dv)) (k : Frm [g7] wr w2) : IsDr w w2 X g7 m D { t with dv := dv } ex := by
 obtain ⟨h1, h2, h3, h4, h5, h6, h7⟩ := d.apart
 obtain ⟨b1, b2, b3⟩ := d.base (t' := { t with dv := dv }) k (fun x hx => by rw [za] at hx; subst hx; simp [DrQ.X]) (fun x hx => .inl hx)
 exact ⟨d.ok, b1, hb, d.S.frm k (fun x hx h => by rw [za] at h; subst h; exact h2 hx), d.pu, b3, d.A.frm k (fun x hx h => by rw [za] at h; subst h; exact h3 hx), d.mp.frm k (by simpa using Ne.symm h1), d.ly, d.lyD, d.fr, d.fc, b2⟩
theorem IsDr.fkS (d : IsDr w wr X g7 m D t ex) {S1 : Option Addr} {sc1 : Nat} {ps1 : List Pq} (k1 : Frm (ob t.S) wr w1) (k2 : Frm [g7] w1 w2) (hob : ob S1 = ob t.S ∨ ob S1 = [wr.heap.size]) : Fk (t.X g7 m) wr w2 ((({ t with S := S1, sc := sc1, ps := ps1 } : DrQ)).X g7 m) := by
 refine ⟨(k1.mono (fun x hx => .inl (by simp [DrQ.X, hx]))).trans k2 (fun x hx => .inl (by simp at hx; simp [DrQ.X, hx])), fun x hx => ?_⟩
 simp only [DrQ.X, zl, zbs] at hx ⊢
 rcases hx with h | h | h | h
 · exact .inl (.inl h)
 · exact .inl (.inr (.inl h))
 ·
  rcases hob with e | e
  · rw [e] at h; exact .inl (.inr (.inr (.inl h)))
  rw [e, za] at h; exact .inr (zfe h.symm)
 exact .inl (.inr (.inr (.inr h)))
end
theorem qZ5 (f : Nat → Option Lq) (T : List Nat) {y : Nat} {r : Lq} (h : f y = some r) : (fun z => if z = y then some r else (if z ∈ T then f z else none)) = fun z => if z ∈ y :: T then f z else none := by
 funext z
 by_cases hz : z = y
 · subst hz; simp [h]
 simp [hz]
theorem fY {l : List Pr} (id : Nat) : bH (bH l id ++ bQ l id) id = bH l id ∧ bQ (bH l id ++ bQ l id) id = bQ l id := by
 unfold bH bQ
 rw [zdh, zdh, zeg, zeg, zeg, zeg]
 refine ⟨?_, ?_⟩
 ·
  rw [show (l.filter fun a => (decide (a.1 < id) && decide (id < a.1))) = [] from List.filter_eq_nil_iff.2 fun x _ => by simp; omega, zbg]
  exact zem fun x _ => jp
 rw [show (l.filter fun a => (decide (id < a.1) && decide (a.1 < id))) = [] from List.filter_eq_nil_iff.2 fun x _ => by simp; omega, zam]
 exact zem fun x _ => jp
theorem qZ6 {l : List Pr} (h : Srt l) {id : Nat} (hm : id ∈ l.map (·.1)) : l.take (posM l id) ++ l.drop (posM l id + 1) = bH l id ++ bQ l id ∧ l.length - 1 = (bH l id ++ bQ l id).length := by
 obtain ⟨h1, h2⟩ := qX2 h id
 have h3 : (eqP l id).length = 1 := by
  have := qQi h id
  have := List.length_pos_iff.2 (rX id |>.1 hm)
  omega
 have h4 := congrArg List.length (fW h id)
 rw [zd, zd] at h4
 refine ⟨?_, by rw [zd]; omega⟩
 rw [h1, ← List.drop_drop, h2, List.drop_left' h3]
theorem qJu {l : List Pr} (h : Srt l) {id : Nat} (hm : id ∉ l.map (·.1)) : l = bH l id ++ bQ l id := by
 have h1 := fW h id
 have h2 : eqP l id = [] := Classical.not_not.1 fun h => hm (rX id |>.2 h)
 rw [h2, zam] at h1
 exact h1
theorem qZ7 (l : List Pr) (id : Nat) (x : Pr) : (bH l id ++ bQ l id).take (posM l id) ++ x :: (bH l id ++ bQ l id).drop (posM l id) = bH l id ++ x :: bQ l id := by
 unfold posM
 rw [zec rfl, List.drop_left' rfl]
def cK (dir : List Nat) (ps : List (List Nat)) (k : Nat) : List Pu := (List.range k).map fun i => (42 + dir.getD i 0, ps.getD i [])
theorem vZ (dir : List Nat) (ps : List (List Nat)) (k : Nat) : cK dir ps (k + 1) = cK dir ps k ++ [(42 + dir.getD k 0, ps.getD k [])] := by unfold cK; rw [zdc, zy]; rfl
structure Pln where
 puts : List Pu
 pairs : List Pr
 lies : Nat → List Nat
 dir : List Nat
def qL (D : Dw) : Pln := ⟨D.puts ++ cK (D.free.take (bW D.pairs).length) (bW D.pairs) (bW D.pairs).length ++ [(41, bI (D.free.take (bW D.pairs).length))], D.pairs, D.lies, D.free.take (bW D.pairs).length⟩
structure PlQ where
 S : Option Addr
 sc : Nat
 ps : List Pq
 A : Option Addr
 ca : Nat
 m : Nat
 ly : Nat → Option Lq
 dA : Option Addr
 dc : Nat
structure IsPl (w w' : World) (X : List Nat) (P : Pln) (t : PlQ) : Prop where
 K : Frm [] w w'
 rp : RdP w' t.S t.ps.length t.ps
 pu : puL t.ps = P.puts
 off : ∀ x ∈ t.ps, ∀ y ∈ ob x.2.1, w.heap.size ≤ y
 pr : Rd w' 2 t.A P.pairs.length (PC2 P.pairs)
 pc : P.pairs.length ≤ t.ca
 A : ∀ y ∈ ob t.A, w.heap.size ≤ y
 mp : MpU w' t.m t.ly
 ml : w.heap.size ≤ t.m
 ly : ∀ id r, t.ly id = some r → RdX w' X 1 r.1 r.2.2.length (ZN r.2.2) ∧ id < 18446744073709551616
 lyD : ∀ x ∈ P.pairs, ∃ r, t.ly x.1 = some r ∧ r.2.2 = P.lies x.1
 dr : RdX w' X 1 t.dA P.dir.length (ZN P.dir)
theorem qZ8 {l : List Pr} (h : Srt l) (hl : l.length ≤ 600) : kF l := ⟨fun i hi => by
 rw [zc, zc, zb jo, zb hi]
 exact List.pairwise_iff_getElem.1 h i (i + 1) jo hi jo, hl⟩
theorem qZ.nextM2 {P : Program} {k : TypeId} {κ : Type} {enc : κ → Value} {w : World} {g r n : Nat} {M : κ → Option Value} {T : List κ} {Γ : Env} {dst : Option Tmp} {T0 : TypeId} {pos : String} {after : Array Edge} {gd : Option (Nat × Bool)} {a : Operand} (ha : ev? Γ a = some (.pointer (some ⟨r, 0, none⟩))) (h : MpI P k enc w g r M T n) (inv : ∀ key kl, keyOf P k key = some kl → ∃ x, key = enc x) (henc : ∀ a b, enc a = enc b → a = b) :
  qZ P ⟨dst, .next a false, T0, pos, after, gd⟩ Γ w (fun v w' => ∃ (b : Bool) (rest : List Value), v = .tuple (.bool b :: rest).toArray ∧ (b = false → w' = w ∧ ∀ x u, M x = some u → x ∈ T) ∧ (b = true → ∃ (x : κ) (u : Value) (m : Nat), M x = some u ∧ x ∉ T ∧ MpI P k enc w' g r M (x :: T) m ∧ m < n ∧ (∃ w1, qV w w1 ∧ Frm [r] w1 w') ∧ w'.heap.size = w.heap.size ∧ (Instr.entry (.pointer (some ⟨r, 0, none⟩))).run P w' = .ok (.tuple #[enc x, u]) w')) := fun ρ hρ => by
 obtain ⟨v, w', h1, h2⟩ := qZ.nextM (dst := dst) (T0 := T0) (pos := pos) (after := after) (gd := gd) ha h inv henc ρ hρ
 refine ⟨v, w', h1, ?_⟩
 rcases h2 with ⟨rfl, h3, h4⟩ | ⟨x, u, m, rfl, h3⟩
 · exact ⟨false, [], rfl, fun _ => ⟨h3, h4⟩, fun h => by cases h⟩
 exact ⟨true, [enc x, u], rfl, fun h => (by cases h), fun _ => ⟨x, u, m, h3⟩⟩
end
section
open Go.RowKit
set_option maxHeartbeats 4000000 in
theorem zZ (SC : Option Addr) (n c : Nat) (l : List Cq) (L : Option Addr) (nf cf : Nat) (fr : List Nat) (h g : Nat) (F : List Nat) (H : Hm) (q : HtQ) (w : World) (hH : IsHt w h g F H q) (Y : List Nat) (hYl : ∀ id x, q.ly id = some x → RdX w Y 1 x.1 x.2.2.length (ZN x.2.2)) (hn : n ≤ 1000) (hr : RdC w SC n l) (hm : bF (chL l)) (hfl : fr.length = nf) (hfr : RdX w Y 1 L nf (ZN fr)) (hfc : nf ≤ cf) (hfb : ∀ p ∈ fr, p < 2048) (hnf : nf ≤ 1000000) (hp6 : (qF H (chL l) fr).pairs.length ≤ 600) (hsum : sumN (chL l) + (bW (qF H (chL l) fr).pairs).length ≤ nf) (ht59 : (bW (qF H (chL l) fr).pairs).length ≤ 59) :
  Calls Try.prog 23 #[.pointer (some ⟨h, 0, none⟩), .slice SC n c, .slice L nf cf] w fun e w' => ∃ (t : PlQ) (np nq dn : Nat), e = .returned (.agg #[.slice t.S np t.sc, .slice t.A nq t.ca, .map (some t.m), .slice t.dA dn t.dc]) ∧ np = t.ps.length ∧ nq = (qL (qF H (chL l) fr)).pairs.length ∧ dn = (qL (qF H (chL l) fr)).dir.length ∧ IsPl w w' Y (qL (qF H (chL l) fr)) t := by
 have h600 := hH.ok.n600
 have hln := hr.len
 subst hfl
 refine VC.calls (nt := 147) (res := #[.cell 6 72]) Try.func23 rfl Try.ntmps23 Try.results23 rfl ?_
 refine jS (jR ?_)
 refine Ops.m (qZ.alloc oF) rfl ?_
 rintro _ w1 ⟨rfl, hF1⟩
 have hb6 := hF1.blk
 have KW := hF1.frm
 have ksW := hF1.size
 have hfr1 := hfr.more KW
 have hly1 := fun id x (hx : q.ly id = some x) => (hYl id x hx).more KW
 generalize hg6 : w.heap.size = g6 at *
 have hH1 := hH.frm KW
 have hr1 := hr.frm KW
 refine jO (jN (jS (jR (jm rfl (je (Run.nilck rfl) (jf rfl zaa rfl zbb (jl rfl zbx (hH1.blk.cell 1) ?_)))))))
 refine Ops.cl (jE1 Try.call44) (wM q.pA q.pc H.pairs w1 hH1.pr.1 jo) rfl ?_
 rintro e w2 ⟨PA, PC, rfl, hoA, hupA, hf2⟩
 refine ⟨_, rfl, ?_⟩
 refine Ops.m (qZ.makeMap (k := 35) (enc := eU)) rfl ?_
 rintro _ w3 ⟨rfl, hmp, hf3, hs3⟩
 have hoA := hoA.frm hf3 jp
 have q2 := hf2.size
 generalize hgm : w2.heap.size = m at *
 refine je (Run.build (evs.cons rfl (evs.cons rfl evs.nil)) oF (tM).choose_spec.1 (tM).choose_spec.2 (cells := plV none 0 0 PA H.pairs.length PC m (.slice none 0 0)) rfl) ?_
 refine Ops.m (qZ.alloc oF) rfl ?_
 rintro _ w4 ⟨rfl, hF4⟩
 have q4 := hF4.size
 refine Ops.st (qS.storeA rfl rfl Try.sizeOf72 hF4.blk rfl (by intro u hu; simp only [plV, zl, zu, or_false] at hu; rcases hu with rfl | rfl | rfl | rfl <;> rfl)) ?_
 rintro w5 ⟨hb7, hf5, hs5⟩
 generalize hg7 : w3.heap.size = g7 at *
 have hb7 : Blk w5 g7 72 (plV none 0 0 PA H.pairs.length PC m (.slice none 0 0)) := hb7
 have hAl := hoA.lt
 have k35 : Frm [] w3 w5 := hF4.frm.own hf5 (by simp; omega)
 have hml := hmp.lt
 have hd5 : IsDr w1 w5 (g6 :: Y) g7 m ⟨[], H.pairs, fr, H.lies⟩ ⟨none, 0, [], PA, PC, fun _ => none, L, cf, .slice none 0 0⟩ (H.pairs.map (·.1)) :=
  ⟨⟨hH.ok.srt, hH.ok.okp, hfb, fun x hx => by cases hx⟩, (hf2.trans hf3 jp).trans k35 jp, hb7, Own.nil _ _ _, rfl, PuS.nil _ _ _, hoA.frm k35 jp, hmp.frm k35 jp, fun id r hid => (by cases hid), fun x hx hne => absurd (List.mem_map.2 ⟨x, hx, rfl⟩) hne, hfr1, hfc, fun x hx => by
   simp only [DrQ.X, ob, zl, zam] at hx
   rcases hx with rfl | rfl | hx
   · omega
   · omega
   exact hupA x hx⟩
 refine jO (jN (jv5 0 1 2 6 7 ?_))
 refine jS (jS (jR (jm rfl (je (Run.nilck rfl) (jf rfl zaa rfl zcq (jl rfl zey ((hH1.frm hd5.K).blk.cell 3) ?_))))))
 refine Ops.m (qZ.rangeM rfl (hH1.frm hd5.K).mp zdw) rfl ?_
 rintro _ w6 ⟨cnt, rfl, hI, hf6, hs6⟩
 have hd6 := hd5.frm hf6
 have hXl := hd5.lt
 have q5 := hd5.K.size
 generalize hgr : w5.heap.size = gr at *
 refine jO (jN (jv5 1 2 6 7 31 ?_))
 refine jB ?_
 refine VC.loop (σ := List Nat × Nat) (fun s => [(1, .slice SC n c), (2, .slice L fr.length cf), (6, .pointer (some ⟨g6, 0, none⟩)), (7, .pointer (some ⟨g7, 0, none⟩)), (31, .pointer (some ⟨gr, 0, none⟩))]) (fun s wr => MpI Try.prog 35 eU wr q.l gr (lyV q.ly) s.1 s.2 ∧ IsDr w1 wr (g6 :: Y) g7 m ⟨[], H.pairs, fr, H.lies⟩ ⟨none, 0, [], PA, PC, fun z => if z ∈ s.1 then q.ly z else none, L, cf, .slice none 0 0⟩ (H.pairs.map (·.1))) (fun s => s.2) ([], cnt) (js5 rfl rfl rfl rfl rfl) ⟨hI, by simpa using hd6⟩ ?_
 rintro ⟨T, cn⟩ wr ⟨hI, hd⟩
 dsimp only at hI hd ⊢
 refine jS (jR ?_)
 refine Ops.m (qZ.nextM2 rfl hI qZ1 jE) rfl ?_
 rintro _ wn ⟨bn, rest, rfl, hbF, hbT⟩
 refine je (Run.extract rfl rfl) (jO (jN (jv6 1 2 6 7 31 33 ?_)))
 refine jS ?_
 refine VC.condB rfl (fun hc1 => ?_) (fun hc1 => ?_)
 ·
  obtain ⟨xk, u, mn, hMx, hxT, hI, hmn, ⟨wd, hdd, hfd⟩, hsn, hent⟩ := hbT hc1
  obtain ⟨row, hrow, rfl⟩ : ∃ row, q.ly xk = some row ∧ lqV row = u := by
   unfold lyV at hMx
   cases hc : q.ly xk with
   | none => rw [hc] at hMx; cases hMx
   | some r => rw [hc] at hMx; exact ⟨r, rfl, Option.some.inj hMx⟩
  have hlyr := hH1.ly _ _ hrow
  have hd := (hd.frm hdd.frm).past hfd (fun x hx h => by rw [za] at h; subst h; exact zby _ (hXl _ hx)) (by simp; omega) rfl
  refine jQ (jN (jv5 1 2 6 7 31 ?_))
  refine jB (jS (jR (je (Run.entryM rfl hent) (je (Run.extract rfl rfl) (je (Run.extract rfl rfl) (ja rfl (ja rfl (jO (jN (jv7 1 2 6 7 8 9 31 ?_))))))))))
  refine jR (jf rfl zah rfl zcq (jl rfl zey (hd.blk.cell 2) (jm rfl (jM ?_))))
  refine Ops.st (qS.mapUpd (x := xk) rfl rfl rfl hd.mp (Go.Maps.int_keyed zai) jE zdw (fL _ hlyr.2)) ?_
  rintro w8 ⟨hmp8, hf8, hs8⟩
  have hd := hd.copy (r := row) (fun x hx => List.mem_map.2 ⟨x, hx, rfl⟩) hlyr.2 (hly1 _ _ hrow) hmp8 hf8
  dsimp only at hd
  rw [qZ5 q.ly T hrow] at hd
  have hqm := hH1.mp.lt
  have hI := hI.frm hf8 (by simp; omega) (by simp; have := hXl m (by simp [DrQ.X]); omega)
  refine jO ?_
  refine qH (jN ⟨(xk :: T, mn), (js5 rfl rfl rfl rfl rfl), ?_, ?_⟩)
  · exact ⟨hI, hd⟩
  first | omega | (dsimp only; omega)
 obtain ⟨rfl, hall⟩ := hbF hc1
 refine jX ?_
 refine qJ (qJ (qR ?_))
 refine jN (jv4 1 2 6 7 ?_)
 refine jS (jS (jR (jm rfl (je (Run.lenS rfl zab) ?_))))
 have hd := hd.told (fun x hx => by
  obtain ⟨r, hr1, hr2⟩ := hH1.lyH x hx
  exact ⟨r, (by dsimp only; rw [if_pos (hall x.1 (lqV r) (by unfold lyV; rw [hr1]; rfl))]; exact hr1), hr2⟩)
 have hraw0 : qF H (chL (l.take 0)) fr = ⟨[], H.pairs, fr, H.lies⟩ := rfl
 have hb60 := hb6
 refine jx .i64 0 ?_
 refine jO (jN (jv6 2 6 7 41 42 43 ?_))
 refine jB ?_
 refine VC.loop (σ := Nat × DrQ) (fun s => [(2, .slice s.2.fA (qF H (chL (l.take s.1)) fr).free.length s.2.fc), (6, .pointer (some ⟨g6, 0, none⟩)), (7, .pointer (some ⟨g7, 0, none⟩)), (41, .slice SC n c), (42, .int .i64 ((n : Nat) : Int)), (43, .int .i64 ((s.1 : Nat) : Int))]) (fun s wr => s.1 ≤ n ∧ IsDr w1 wr (g6 :: Y) g7 m (qF H (chL (l.take s.1)) fr) s.2 [] ∧ s.2.dv = .slice none 0 0 ∧ (qF H (chL (l.take s.1)) fr).free.length + sumN (chL (l.take s.1)) = fr.length ∧ (qF H (chL (l.take s.1)) fr).pairs.length ≤ 600 + s.1 ∧ s.2.ps.length ≤ 100 * s.1) (fun s => n - s.1) (0, ⟨none, 0, [], PA, PC, fun z => if z ∈ T then q.ly z else none, L, cf, .slice none 0 0⟩) (js6 rfl rfl rfl rfl rfl rfl) ⟨zg _, hd, rfl, rfl, h600, zg _⟩ ?_
 rintro ⟨i, t⟩ wr ⟨hi, hd, hdv, hfs, hpl, hps⟩
 dsimp only at hi hd hdv hfs hpl hps ⊢
 obtain ⟨D, hD⟩ : ∃ D, D = qF H (chL (l.take i)) fr := ⟨_, rfl⟩
 rw [← hD] at hd hfs hpl ⊢
 refine jS (jR (jb rfl rfl (Bin.lssN _ _) (jO (jN (jS ?_)))))
 refine jD rfl (fun hc2 => ?_) fun hc2 => ?_
 ·
  obtain ⟨ad, hS, hel⟩ := (hr1.frm hd.K).cell hc2
  subst hS
  have hmem := eE (jo : i < l.length)
  have hxn := hr.num _ hmem
  have hxo := hr.oct _ hmem
  have hxe := hr1.el _ hmem
  have hsnc := gQ (jo : i < l.length)
  have hrs := sW H (chL (l.take i)) (chO (l.getD i cq0)) fr
  rw [← hsnc, ← hD] at hrs
  have hsn := sY (chL (l.take i)) (chO (l.getD i cq0))
  rw [← hsnc] at hsn
  have hstk := qQr (chL l) (i + 1)
  rw [← oP] at hstk
  have hmx := hm.2 _ (List.mem_map.2 ⟨_, hmem, rfl⟩)
  have hrl := xS H hH.ok.srt (chL (l.take i)) (chO (l.getD i cq0)) fr (qZi (jo : i < l.length) hm)
  rw [← hsnc, ← hD] at hrl
  replace hrl := hrl.2.2.2
  generalize l.getD i cq0 = x at hel hxn hxo hxe hrs hsn hmx hrl
  obtain ⟨xa, ⟨xA, xc, xb⟩, xg⟩ := x
  dsimp only [chO] at hxn hxo hxe hrs hsn hmx hrl
  have h11 := hd.lt
  refine jQ (jN (jv6 2 6 7 41 42 43 ?_))
  refine jS (jB (jS (jR (je (Run.indexS _ rfl rfl zab zaq jo) (je (Run.loadA rfl Try.isAgg38 zaq hel (by first | rfl | (simp; done))) ?_)))))
  refine Ops.m (qZ.alloc eQ) rfl ?_
  rintro _ w2 ⟨rfl, hF2⟩
  refine Ops.st (qS.storeA rfl rfl zaq hF2.blk rfl (gE (xa, (xA, xc, xb), xg))) ?_
  rintro w3 ⟨hb11, hf3, hs3⟩
  have hb11 : Blk w3 wr.heap.size 38 #[.int .u64 ((xa : Nat) : Int), .slice xA xb.length xc, .bool xg] := hb11
  have hd := hd.frm (hF2.frm.own hf3 jp)
  generalize hg11 : wr.heap.size = g11 at *
  refine jO (jN (jv7 2 6 7 11 41 42 43 ?_))
  refine jS (jR (jf rfl zah rfl zbb (jl rfl zbx (hd.blk.cell 1) (jf rfl zp rfl zx (jl rfl zar (hb11.cell 0) ?_)))))
  refine Ops.cl (jE2 Try.call20) (gD _ _ xa _ D.pairs _ rfl jo hd.A.rd hd.ok.okp hd.ok.srt hxn.1) rfl ?_
  rintro e w4 ⟨rfl, hf4⟩
  refine ⟨_, rfl, ?_⟩
  have hd := hd.frm hf4
  have hb11 := hb11.frm hf4 jp
  refine jm rfl (je (Run.extract rfl rfl) (je (Run.extract rfl rfl) (ja rfl (ja rfl (jO (jN (jv9 2 6 7 11 12 13 41 42 43 ?_)))))))
  refine jS (jS (jR (jm rfl (jO (jN (jv9 2 6 7 11 12 41 42 43 55 ?_))))))
  refine VC.meet (σ := Nat → Option Lq) (fun s => [(2, .slice t.fA D.free.length t.fc), (6, .pointer (some ⟨g6, 0, none⟩)), (7, .pointer (some ⟨g7, 0, none⟩)), (11, .pointer (some ⟨g11, 0, none⟩)), (12, .int .i64 ((posM D.pairs xa : Nat) : Int)), (41, .slice (some ad) n c), (42, .int .i64 ((n : Nat) : Int)), (43, .int .i64 ((i : Nat) : Int))]) (fun s wz => IsDr w1 wz (g6 :: Y) g7 m { D with pairs := bH D.pairs xa ++ bQ D.pairs xa } { t with ly := s } [] ∧ Blk wz g11 38 #[.int .u64 ((xa : Nat) : Int), .slice xA xb.length xc, .bool xg]) ?_ ?_
  ·
   refine VC.condB rfl (fun hc3 => ?_) (fun hc3 => ?_)
   ·
    have hin : xa ∈ D.pairs.map (·.1) := of_decide_eq_true hc3
    obtain ⟨hlt, -, -⟩ := pP hd.ok.srt hin
    obtain ⟨hdp1, hdp2⟩ := qZ6 hd.ok.srt hin
    obtain ⟨a1, a2, a3, a4, a5, a6, a7⟩ := hd.apart
    have nA11 : g11 ∉ ob t.A := fun hx => zby _ (h11 _ (by simp [DrQ.X, hx]))
    have n711 : g11 ≠ g7 := fun hx => zby _ (hx ▸ h11 g7 (by simp [DrQ.X]))
    have nm11 : g11 ≠ m := fun hx => zby _ (hx ▸ h11 m (by simp [DrQ.X]))
    refine jS (jR (jf rfl zah rfl zbb (jl rfl zbx (hd.blk.cell 1) (jm rfl (jm rfl (jb rfl rfl (Bin.add_i64 _ 1 jo) ?_))))))
    refine Ops.cl (jE3 Try.call45) (uE t.A t.ca (posM D.pairs xa) D.pairs _ hd.A jo hlt) rfl ?_
    rintro e w5 ⟨rfl, hoA, hf5⟩
    refine ⟨_, rfl, ?_⟩
    rw [hdp1] at hoA
    have hb11 := hb11.frm hf5 nA11
    have hb7 := hd.blk.frm hf5 a3
    refine jf rfl zah rfl zbb ?_
    refine Ops.st (qS.store rfl rfl zbb hb7 rfl rfl) ?_
    rintro w6 ⟨hb7, hf6, hs6⟩
    have hd := hd.erase xa hdp2 hoA hf5 hb7 hf6
    have hb11 := hb11.frm hf6 (by simpa using n711)
    refine jO (jN (jv8 2 6 7 11 12 41 42 43 ?_))
    refine jR (jf rfl zah rfl zcq (jl rfl zey (hd.blk.cell 2) (jf rfl zp rfl zx (jl rfl zar (hb11.cell 0) ?_))))
    refine Ops.m0 (qZ.deleteM (x := xa) rfl rfl hd.mp (Go.Maps.int_keyed zai) jE zdw (fL _ hxn.1)) ?_
    rintro _ w7 ⟨hmp7, hf7, hs7⟩
    have hd := hd.unlie xa (fun hx => by
     rw [zy, zbs] at hx
     rcases hx with hx | hx <;> obtain ⟨y, hy, he⟩ := List.mem_map.1 hx <;> have := (List.mem_filter.1 hy).2 <;> simp at this <;> omega) hmp7 hf7
    have hb11 := hb11.frm hf7 (by simpa using nm11)
    refine jO ?_
    refine jN ⟨fun y => if y = xa then none else t.ly y, (js8 rfl rfl rfl rfl rfl rfl rfl rfl), ?_⟩
    exact ⟨hd, hb11⟩
   have hin : xa ∉ D.pairs.map (·.1) := of_decide_eq_false hc3
   have hd : IsDr w1 w4 (g6 :: Y) g7 m { D with pairs := bH D.pairs xa ++ bQ D.pairs xa } { t with ly := t.ly } [] := by rw [← qJu hd.ok.srt hin]; exact hd
   refine jQ ?_
   refine jN ⟨t.ly, (js8 rfl rfl rfl rfl rfl rfl rfl rfl), ?_⟩
   exact ⟨hd, hb11⟩
  rintro ly1 wz ⟨hd, hb11⟩ Γ hΓ
  refine jN (VC.sub _ hΓ (jS (jS (jR (jf rfl zp rfl zco (jl rfl zep (hb11.cell 2) (jO (jN (jv9 2 6 7 11 12 41 42 43 68 ?_)))))))))
  refine VC.condB rfl (fun hc4 => ?_) (fun hc4 => ?_)
  ·
   have hst : qF H (chL (l.take (i + 1))) fr = { D with pairs := bH D.pairs xa ++ bQ D.pairs xa } := by rw [hrs, bU, if_pos hc4]
   have hz := hmx.2 hc4
   have hnz : needsM xb.length = 0 := by rw [hz]; rfl
   refine jX ?_
   refine qJ (qR ?_)
   refine jN (jv6 2 6 7 41 42 43 ?_)
   refine jR (jb rfl rfl (Bin.add_i64 _ 1 jo) (jm rfl (jO ?_)))
   refine jN ⟨(i + 1, { t with ly := ly1 }), (js6 (by dsimp only; rw [hst]; rfl) rfl rfl rfl rfl rfl), ?_, ?_⟩
   · refine ⟨hc2, by dsimp only; rw [hst]; exact hd, hdv, by dsimp only; rw [hst]; dsimp only; omega, by dsimp only; rw [hst] at hrl ⊢; dsimp only at hrl ⊢; omega, by dsimp only; omega⟩
   first | omega | (dsimp only; omega)
  have hnn : needsM xb.length ≤ D.free.length := jo
  obtain ⟨nn, hnne⟩ : ∃ nn, nn = needsM xb.length := ⟨_, rfl⟩
  obtain ⟨own, howne⟩ : ∃ own, own = D.free.take nn := ⟨_, rfl⟩
  have hownl : own.length = nn := by rw [howne, zi, hnne]; omega
  have hst : qF H (chL (l.take (i + 1))) fr = { puts := D.puts ++ cB xb own, pairs := bH D.pairs xa ++ bE xa xb own :: bQ D.pairs xa, free := D.free.drop nn, lies := fun y => if y = xa then own else D.lies y } := by
   rw [hrs, bU, if_neg (by simp [hc4]), howne, hnne]
  rw [← hnne] at hnn hsn
  have hown : RdX w1 (g6 :: Y) 1 t.fA nn (ZN own) := by rw [howne]; exact hd.fr.take hnn
  have hfc1 := hd.fc
  dsimp only at hfc1
  have hofb : ∀ p ∈ own, p < 2048 := fun p hp => hd.ok.frb p (by rw [howne] at hp; exact zr hp)
  have hnn8 : nn ≤ 100 := by rw [hnne]; unfold needsM; omega
  refine jQ (jN (jv8 2 6 7 11 12 41 42 43 ?_))
  refine jS (jR (jf rfl zp rfl zn (jl rfl zaj (hb11.cell 1) (je (Run.lenS rfl ze) ?_))))
  refine Ops.cl (jE1 Try.call39) (oZ xb.length _ jo) rfl ?_
  rintro e _ ⟨rfl, rfl⟩
  refine ⟨_, rfl, ?_⟩
  rw [← hnne]
  refine ja rfl (jO (jN (jv9 2 6 7 11 12 14 41 42 43 ?_)))
  refine jS (jR (jm rfl (jm rfl (je (Run.sliceS 0 _ rfl zw zt evB.none_ (evB.some_ rfl) jo jo) ?_))))
  rw [cR, zbf, zbf]
  refine ja rfl (jO (jN (jv10 2 6 7 11 12 14 15 41 42 43 ?_)))
  refine jS (jR (jm rfl (jm rfl (je (Run.sliceS _ _ rfl zw zt (evB.some_ rfl) evB.none_ jo jo) ?_))))
  have hd := hd.less (k := nn) hnn
  obtain ⟨t2, ht2⟩ : ∃ t2 : DrQ, t2 = { t with ly := ly1, fA := bO t.fA t.fc nn 1, fc := t.fc - nn } := ⟨_, rfl⟩
  have e2S : t2.S = t.S := by rw [ht2]
  have e2p : t2.ps = t.ps := by rw [ht2]
  have hps2 : t2.ps.length ≤ 100 * i := by rw [e2p]; exact hps
  have e2A : t2.A = t.A := by rw [ht2]
  rw [← ht2] at hd
  have h112 : ∀ x ∈ t2.X g7 m, x < g11 := fun x hx => h11 x (by unfold DrQ.X at hx ⊢; rw [e2S, e2A] at hx; exact hx)
  obtain ⟨a1, a2, a3, a4, a5, a6, a7⟩ := hd.apart
  have nS11 : g11 ∉ ob t2.S := fun hx => zby _ (h112 _ (by simp [DrQ.X, hx]))
  have nA11 : g11 ∉ ob t2.A := fun hx => zby _ (h112 _ (by simp [DrQ.X, hx]))
  have n711 : g11 ≠ g7 := fun hx => zby _ (hx ▸ h112 g7 (by simp [DrQ.X]))
  have nm11 : g11 ≠ m := fun hx => zby _ (hx ▸ h112 m (by simp [DrQ.X]))
  refine ja rfl (jO (jN (jv9 2 6 7 11 12 15 41 42 43 ?_)))
  refine jS ?_
  refine VC.heldL 8 (fun V => Frm (ob t2.S) wz V) jK ?_
  have hS : Frm (ob t2.S) wz wz.drew := (Frm.refl _ _).drew
  have hxl : xb.length ≤ xc := hxe.2
  refine jH 0 rfl hS (fun w0 hw0 => Run.fieldAddr rfl zah rfl zcr jd) ?_
  refine jH 1 rfl hS (fun w0 hw0 => Run.load rfl Try.isAgg70 ((hd.blk.frm hw0 a2).cell 0)) ?_
  refine jH 2 rfl hS (fun w0 hw0 => Run.fieldAddr rfl zp rfl zn jd) ?_
  refine jH 3 rfl hS (fun w0 hw0 => Run.load rfl zaj ((hb11.frm hw0 nS11).cell 1)) ?_
  refine qQ.r1 4 rfl jK hS (Run.mv rfl) trivial rfl rfl ?_
  refine qQ.cl 5 rfl jK (jE2 Try.call46) (wH xA t.fA xb.length xc nn t.fc xb own _ rfl jo hxl hxo ((hxe.1.frm hd.K jp).drawn (qV.drew _)) hownl jo ((hown.1.frm hd.K jp).drawn (qV.drew _)) hofb) trivial rfl rfl ?_
  rintro e w9 ⟨CB, cd, qs, rfl, hoC, hqs, hpuC, hf9, hupC⟩
  have hS := hS.trans hf9 jp
  refine ⟨_, rfl, hS, ?_⟩
  have hd9 := (hd.frm (qV.drew _).frm).frm hf9
  have hb11 := hb11.frm hS nS11
  have hql : qs.length = nn := by
   have := congrArg List.length hqs
   rwa [cT, cB, pN, hownl] at this
  refine qQ.m 6 rfl jK (qZ.app rfl rfl zan (nP) rfl jd hd9.S hoC.rd (qZ2 _) jo jo) trivial rfl rfl ?_
  rintro _ w10 ⟨S10, sc10, rfl, hoS, hf10, hob10⟩
  have hS := hS.trans hf10 (fun x hx => .inl hx)
  rw [← zax] at hoS
  refine ⟨hS, ?_⟩
  have hb7 := hd9.blk.frm hf10 a2
  have hb11 := hb11.frm hf10 nS11
  refine qQ.r1 7 rfl jK hS (Run.fieldAddr rfl zah rfl zcr jd) trivial rfl rfl ?_
  refine qQ.stL rfl jK (qS.store rfl rfl zcr hb7 rfl rfl) trivial rfl ?_
  rintro w11 ⟨hb7, hf11, hs11⟩
  have hb11 := hb11.frm hf11 (by simpa using n711)
  have hq11 : PuS w1.heap.size w11 (g7 :: m :: (ob S10 ++ ob t2.A)) qs := ((hpuC.off (X' := t2.X g7 m) (fun y hy => .inr (.inl (hd.lt y hy)))).fk (hd9.fkS (sc1 := sc10) (ps1 := t2.ps ++ qs) hf10 hf11 hob10)).low hd.K.size
  have hd := hd9.puts (qs := qs) (us := cB xb own) (by rw [zd, hql]) hoS hf10 hob10 hb7 hf11 hqs (pR hxo hofb) hq11 []
  obtain ⟨t3, ht3⟩ : ∃ t3 : DrQ, t3 = { t2 with S := S10, sc := sc10, ps := t2.ps ++ qs } := ⟨_, rfl⟩
  have e3A : t3.A = t2.A := by rw [ht3]
  rw [← ht3] at hd
  rw [← e3A] at nA11
  obtain ⟨c1, c2, c3, c4, c5, c6, c7⟩ := hd.apart
  refine qQ.done jK ?_
  refine jN (jv9 2 6 7 11 12 15 41 42 43 ?_)
  refine jS ?_
  refine VC.heldL 12 (fun V => Frm (ob t3.A) w11 V) jK ?_
  have hS : Frm (ob t3.A) w11 w11.drew := (Frm.refl _ _).drew
  refine jH 0 rfl hS (fun w0 hw0 => Run.fieldAddr rfl zah rfl zbb jd) ?_
  refine jH 1 rfl hS (fun w0 hw0 => Run.load rfl zbx ((hd.blk.frm hw0 c3).cell 1)) ?_
  refine jH 2 rfl hS (fun w0 hw0 => Run.mv rfl) ?_
  refine jH 3 rfl hS (fun w0 hw0 => Run.fieldAddr rfl zp rfl zx jd) ?_
  refine jH 4 rfl hS (fun w0 hw0 => Run.load rfl zar ((hb11.frm hw0 nA11).cell 0)) ?_
  refine jH 5 rfl hS (fun w0 hw0 => Run.fieldAddr rfl zp rfl zn jd) ?_
  refine jH 6 rfl hS (fun w0 hw0 => Run.load rfl zaj ((hb11.frm hw0 nA11).cell 1)) ?_
  refine qQ.r1 7 rfl jK hS (Run.mv rfl) trivial rfl rfl ?_
  refine qQ.cl 8 rfl jK (jE3 Try.call48) (yL xa xb.length xc nn t.fc xA t.fA xb own _ hxn.1 rfl hmx.1 hxo ((hxe.1.frm hd.K jp).drawn (qV.drew _)) hownl jo ((hown.1.frm hd.K jp).drawn (qV.drew _)) hofb) trivial rfl rfl ?_
  rintro e w12 ⟨rfl, hf12⟩
  have hS := hS.trans hf12 jp
  refine ⟨_, rfl, hS, ?_⟩
  have hd12 := (hd.frm (qV.drew _).frm).frm hf12
  refine qQ.m 9 rfl jK (qZ.buildS1 rfl zh zo hG jd jd rfl rfl) trivial rfl rfl ?_
  rintro _ w13 ⟨rfl, hF13⟩
  have hS := hS.trans hF13.frm jp
  refine ⟨hS, ?_⟩
  have hlt12 := hd12.lt
  have hd13 := hd12.frm hF13.frm
  have hgvA : w12.heap.size ∉ ob t3.A := fun hx => zby _ (hlt12 _ (by simp [DrQ.X, hx]))
  refine qQ.cl 10 rfl jK (jE3 Try.call47) (uF t3.A t3.ca (posM D.pairs xa) w12.heap.size (bH D.pairs xa ++ bQ D.pairs xa) (bE xa xb own) _ hd13.A (by have h1 := qQj (l := D.pairs) xa; have h2 : (bQ D.pairs xa).length ≤ D.pairs.length := zcx _ _; rw [zd]; unfold posM at h1; omega) (by rw [zd]; exact Nat.le_add_right _ _) hF13.blk hgvA) trivial rfl rfl ?_
  rintro e w14 ⟨A14, c14, rfl, hoA, hf14, hupA14⟩
  have hS := hS.trans hf14 (fun x hx => .inl hx)
  refine ⟨_, rfl, hS, ?_⟩
  rw [qZ7] at hoA
  have hb7 := hd13.blk.frm hf14 c3
  have hb11 := hb11.frm hS nA11
  refine qQ.r1 11 rfl jK hS (Run.fieldAddr rfl zah rfl zbb jd) trivial rfl rfl ?_
  refine qQ.stL rfl jK (qS.store rfl rfl zbb hb7 rfl rfl) trivial rfl ?_
  rintro w15 ⟨hb7, hf15, hs15⟩
  have hb11 := hb11.frm hf15 (by simpa using n711)
  have hc32 := lW xb
  have hat : atP own ≤ 2048 := by
   unfold atP
   split
   · omega
   have := hofb _ (bD (jo : 0 < own.length)); omega
  have hd := hd13.ins xa (bE xa xb own).2 hxn.1 (by unfold bE; dsimp only; omega) (by simp only [(fY _).1, (fY _).2, zd, zz]; omega) (by rw [(fY xa).1, (fY xa).2]; exact hoA) hf14 hupA14 hb7 hf15
  refine qQ.done jK ?_
  refine jN (jv8 2 6 7 11 15 41 42 43 ?_)
  refine jR (jf rfl zah rfl zcq (jl rfl zey (hd.blk.cell 2) (jf rfl zp rfl zx (jl rfl zar (hb11.cell 0) (jM ?_)))))
  refine Ops.st (qS.mapUpd (x := xa) rfl rfl rfl hd.mp (Go.Maps.int_keyed zai) jE zdw (fL _ hxn.1)) ?_
  rintro w16 ⟨hmp16, hf16, hs16⟩
  rw [show Value.slice t.fA nn t.fc = lqV (t.fA, t.fc, own) by rw [lqV, hownl]] at hmp16
  have hd := hd.lie (r := (t.fA, t.fc, own)) hxn.1 (by dsimp only; rw [hownl]; exact hown) hmp16 hf16
  obtain ⟨t5, ht5⟩ : ∃ t5 : DrQ, t5 = { t3 with A := A14, ca := c14, ly := fun y => if y = xa then some (t.fA, t.fc, own) else t3.ly y } := ⟨_, rfl⟩
  have e5f : t5.fA = bO t.fA t.fc nn 1 := by rw [ht5, ht3, ht2]
  have e5c : t5.fc = t.fc - nn := by rw [ht5, ht3, ht2]
  have e5d : t5.dv = t.dv := by rw [ht5, ht3, ht2]
  have e5p : t5.ps = t.ps ++ qs := by rw [ht5, ht3, ht2]
  have hd5 : IsDr w1 w16 (g6 :: Y) g7 m { puts := D.puts ++ cB xb own, pairs := bH D.pairs xa ++ bE xa xb own :: bQ D.pairs xa, free := D.free.drop nn, lies := fun y => if y = xa then own else D.lies y } t5 [] := by
   dsimp only at hd
   rw [(fY xa).1, (fY xa).2] at hd
   rw [ht5]
   exact hd
  refine jO ?_
  refine qH (jN ?_)
  refine jv6 2 6 7 41 42 43 ?_
  refine jR (jb rfl rfl (Bin.add_i64 _ 1 jo) (jm rfl (jO ?_)))
  refine jN ⟨(i + 1, t5), (js6 (by dsimp only; rw [hst]; dsimp only; rw [zj, e5f, e5c]; rfl) rfl rfl rfl rfl rfl), ?_, ?_⟩
  · refine ⟨hc2, by dsimp only; rw [hst]; exact hd5, e5d.trans hdv, by dsimp only; rw [hst]; dsimp only; rw [zj]; omega, by dsimp only; rw [hst] at hrl ⊢; dsimp only at hrl ⊢; omega, by dsimp only; rw [e5p, zd, hql]; omega⟩
  first | omega | (dsimp only; omega)
 obtain rfl : i = n := jo
 have hDl : D = qF H (chL l) fr := by rw [hD, zf jo]
 rw [← hDl] at hp6 hsum ht59 ⊢
 rw [zf (jo : l.length ≤ i)] at hfs
 have hlt := hd.lt
 obtain ⟨b0, hb0⟩ : ∃ b0, b0 = wr.heap.size := ⟨_, rfl⟩
 have hb0w : w1.heap.size ≤ b0 := by rw [hb0]; exact hd.K.size
 have hmt := qZ8 hd.ok.srt hp6
 refine jX ?_
 refine qJ (qJ (qR ?_))
 refine jN (jv3 2 6 7 ?_)
 refine jS (jR (jf rfl zah rfl zbb (jl rfl zbx (hd.blk.cell 1) ?_)))
 refine Ops.cl (jE1 Try.call49) (wV t.A _ t.ca D.pairs _ rfl jo hd.A.le hd.A.rd hd.ok.okp) rfl ?_
 rintro e w20 ⟨hf20, ho20⟩
 rw [if_pos hmt] at ho20
 obtain ⟨TB, td, bs, rfl, hoT, hbs, hpgT, hupT⟩ := ho20
 refine ⟨_, rfl, ?_⟩
 rw [← hb0] at hpgT hupT hlt
 have hTX : RdX w20 (t.X g7 m) 1 TB (bW D.pairs).length (bs.map SL) := ⟨hoT.rd, fun _ y hy => ⟨hoT.lt y hy, fun hx => by have := hlt y hx; have := hupT y hy; omega⟩⟩
 have hPX : PgS b0 w20 (t.X g7 m) bs := fun x hx => ⟨(hpgT x hx).1, fun y hy => ⟨⟨((hpgT x hx).2 y hy).1.1, fun k => by have := hlt y k; have := ((hpgT x hx).2 y hy).2; omega⟩, ((hpgT x hx).2 y hy).2⟩⟩
 have hd := hd.frm hf20
 have htok := uY D.pairs
 have hbl : bs.length = (bW D.pairs).length := by rw [← hbs, zae]
 obtain ⟨nb, hnb⟩ : ∃ nb, nb = (bW D.pairs).length := ⟨_, rfl⟩
 rw [← hnb] at hTX hbl hsum ht59 ⊢
 have hfc1 := hd.fc
 obtain ⟨dir, hdir⟩ : ∃ dir, dir = D.free.take nb := ⟨_, rfl⟩
 have hdl : dir.length = nb := by rw [hdir, zi]; omega
 have hdR : RdX w1 (g6 :: Y) 1 t.fA nb (ZN dir) := by rw [hdir]; exact hd.fr.take jo
 have hdp : ∀ p ∈ dir, p < 2048 := fun p hp => hd.ok.frb p (by rw [hdir] at hp; exact zr hp)
 refine jm rfl (je (Run.extract rfl rfl) (je (Run.extract rfl rfl) (ja rfl (ja rfl (jO (jN (jv4 2 6 7 16 ?_)))))))
 refine jS (jR (jm rfl (jm rfl (je (Run.lenS rfl zas) (je (Run.sliceS 0 _ rfl zw zt evB.none_ (evB.some_ rfl) jo jo) ?_)))))
 rw [cR, zbf, zbf]
 refine jf rfl zah rfl zci ?_
 refine Ops.st (qS.store rfl rfl zci hd.blk rfl rfl) ?_
 rintro w21 ⟨hb7, hf21, hs21⟩
 have hd := hd.dirs (dv := .slice t.fA nb t.fc) hb7 hf21
 have hTX := hTX.fk (Fk.self hf21 (by simp [DrQ.X]))
 have hPX := hPX.fk (Fk.self hf21 (by simp [DrQ.X]))
 have hdp0 : D.puts = D.puts ++ cK dir (bW D.pairs) 0 := by simp [cK]
 refine jO (jN (jv3 6 7 16 ?_))
 refine jS (jS (jR (jm rfl (je (Run.lenS rfl zas) ?_))))
 refine jx .i64 0 ?_
 refine jO (jN (jv5 6 7 116 117 118 ?_))
 refine jB ?_
 refine VC.loop (σ := Nat × Option Addr × Nat × List Pq) (fun s => [(6, .pointer (some ⟨g6, 0, none⟩)), (7, .pointer (some ⟨g7, 0, none⟩)), (116, .slice TB nb td), (117, .int .i64 ((nb : Nat) : Int)), (118, .int .i64 ((s.1 : Nat) : Int))]) (fun s wr => s.1 ≤ nb ∧ IsDr w1 wr (g6 :: Y) g7 m { D with puts := D.puts ++ cK dir (bW D.pairs) s.1 } { t with S := s.2.1, sc := s.2.2.1, ps := s.2.2.2, dv := .slice t.fA nb t.fc } [] ∧ RdX wr (({ t with S := s.2.1, sc := s.2.2.1, ps := s.2.2.2, dv := .slice t.fA nb t.fc } : DrQ).X g7 m) 1 TB nb (bs.map SL) ∧ PgS b0 wr (({ t with S := s.2.1, sc := s.2.2.1, ps := s.2.2.2, dv := .slice t.fA nb t.fc } : DrQ).X g7 m) bs ∧ s.2.2.2.length ≤ 100000 + s.1) (fun s => nb - s.1) (0, t.S, t.sc, t.ps) (js5 rfl rfl rfl rfl rfl) ⟨zg _, by rw [← hdp0]; exact hd, hTX, hPX, by dsimp only; omega⟩ ?_
 rintro ⟨k, SS, ss, ps⟩ wr ⟨hk, hd, hTX, hPX, hpsl⟩
 dsimp only at hk hd hTX hPX hpsl ⊢
 obtain ⟨tt, htt⟩ : ∃ tt : DrQ, tt = { t with S := SS, sc := ss, ps := ps, dv := .slice t.fA nb t.fc } := ⟨_, rfl⟩
 rw [← htt] at hd hTX hPX
 have ettS : tt.S = SS := by rw [htt]
 have ettp : tt.ps = ps := by rw [htt]
 have ettd : tt.dv = .slice t.fA nb t.fc := by rw [htt]
 have hpsl2 : tt.ps.length ≤ 100000 + k := by rw [ettp]; exact hpsl
 obtain ⟨a1, a2, a3, a4, a5, a6, a7⟩ := hd.apart
 have hzl : ∀ V, Frm (ob tt.S) wr V → ∀ j, j < nb → ∃ ad, t.fA = some ad ∧ V.cell? (ad.add j) = some (.int .i64 ((dir.getD j 0 : Nat) : Int)) := fun V hV j hj => rdZ (hdR.1.frm (hd.K.own hV (fun x hx => hd.up x (by simp [DrQ.X, hx]))) jp) hdl hj
 refine jS (jR (jb rfl rfl (Bin.lssN _ _) (jO (jN (jS ?_)))))
 refine jD rfl (fun hc5 => ?_) fun hc5 => ?_
 ·
  obtain ⟨adT, hTe, helT⟩ := yS hTX.1 hbl hc5
  subst hTe
  obtain ⟨adD, hDe, -⟩ := hzl wr (Frm.refl _ _) k hc5
  have hzc : ∀ V, Frm (ob tt.S) wr V → V.cell? (adD.add k) = some (.int .i64 ((dir.getD k 0 : Nat) : Int)) := fun V hV => by
   obtain ⟨ad2, he2, hc2⟩ := hzl V hV k hc5
   rw [hDe] at he2
   cases he2
   exact hc2
  have hdps := vZ dir (bW D.pairs) k
  have hbm := gG (jo : k < bs.length)
  have hbe : (bW D.pairs).getD k [] = (bs.getD k (none, 0, [])).2.2 := by
   rw [← hbs, zc, zca, zb jo, zc, zb jo]
   rfl
  rw [hbe] at hdps
  have hPk := hPX _ hbm
  have hdk := hdp _ (bD (jo : k < dir.length))
  have htk := htok _ (show (bs.getD k (none, 0, [])).2.2 ∈ bW D.pairs by rw [← hbs]; exact List.mem_map.2 ⟨_, hbm, rfl⟩)
  generalize bs.getD k (none, 0, []) = pg at helT hdps hPk htk hbm
  obtain ⟨gA, gc, gb⟩ := pg
  generalize dir.getD k 0 = p at hdps hdk hzc
  dsimp only at hdps hPk htk
  refine jQ (jN (jv5 6 7 116 117 118 ?_))
  refine jS (jB (jS (jR (jm rfl (je (Run.index1 _ rfl rfl zas zn jo) (jl rfl zaj helT (ja rfl (ja rfl (jO (jN (jv7 6 7 18 19 116 117 118 ?_)))))))))))
  refine VC.heldL 13 (fun V => Frm (ob tt.S) wr V) jK ?_
  have hS : Frm (ob tt.S) wr wr.drew := (Frm.refl _ _).drew
  refine jH 0 rfl hS (fun w0 hw0 => Run.fieldAddr rfl zah rfl zcr jd) ?_
  refine jH 1 rfl hS (fun w0 hw0 => Run.load rfl Try.isAgg70 ((hd.blk.frm hw0 a2).cell 0)) ?_
  refine jH 2 rfl hS (fun w0 hw0 => Run.fieldAddr rfl zah rfl zci jd) ?_
  refine jH 3 rfl hS (fun w0 hw0 => Run.load rfl zcz ((hd.blk.frm hw0 a2).cell 3)) ?_
  rw [ettd, hDe]
  refine jH 4 rfl hS (fun w0 hw0 => Run.mv rfl) ?_
  refine jH 5 rfl hS (fun w0 hw0 => Run.index1 _ rfl rfl zw zt jo) ?_
  refine jH 6 rfl hS (fun w0 hw0 => Run.load rfl zac (hzc w0 hw0)) ?_
  refine jH 7 rfl hS (fun w0 hw0 => Run.bin rfl rfl (Bin.add_i64 42 _ jo)) ?_
  refine qQ.r1 8 rfl jK hS (Run.mv rfl) trivial rfl rfl ?_
  refine qQ.r1 9 rfl jK hS (Run.build (evs.cons rfl (evs.cons rfl evs.nil)) dK (fZ).choose_spec.1 (fZ).choose_spec.2 (cells := (pqC (42 + p, (gA, gc, gb))).toArray) rfl) trivial rfl rfl ?_
  refine qQ.m 10 rfl jK (qZ.buildS1 rfl zan zbj dK jd jd rfl rfl) trivial rfl rfl ?_
  rintro _ w22 ⟨rfl, hF22⟩
  have hS := hS.trans hF22.frm jp
  refine ⟨hS, ?_⟩
  have hr22 : Rd w22 2 (some ⟨wr.drew.heap.size, 0, none⟩) 1 (pqC (42 + p, (gA, gc, gb))) := Rd.of_blk (n := 1) (size := 2) hF22.blk rfl
  have kf22 : Frm [] wr w22 := (qV.drew wr).frm.trans hF22.frm jp
  have hd := hd.frm kf22
  have hTX := hTX.frm kf22
  have hPX := hPX.frm kf22
  have hPk := hPX _ hbm
  refine qQ.m 11 rfl jK (qZ.app rfl rfl zan (nP) rfl jd hd.S hr22 (eS _) jo jo) trivial rfl rfl ?_
  rintro _ w23 ⟨S23, sc23, rfl, hoS, hf23, hob23⟩
  have hS := hS.trans hf23 (fun x hx => .inl hx)
  refine ⟨hS, ?_⟩
  have e23 : tt.ps.flatMap pqC ++ pqC (42 + p, (gA, gc, gb)) = (tt.ps ++ [(42 + p, (gA, gc, gb))]).flatMap pqC := jp
  rw [e23] at hoS
  have hb7 := hd.blk.frm hf23 a2
  refine qQ.r1 12 rfl jK hS (Run.fieldAddr rfl zah rfl zcr jd) trivial rfl rfl ?_
  refine qQ.stL rfl jK (qS.store rfl rfl zcr hb7 rfl rfl) trivial rfl ?_
  rintro w24 ⟨hb7, hf24, hs24⟩
  have kfk := hd.fkS (sc1 := sc23) (ps1 := tt.ps ++ [(42 + p, (gA, gc, gb))]) hf23 hf24 hob23
  have hTX := hTX.fk kfk
  have hPX := hPX.fk kfk
  have hd := hd.puts (qs := [(42 + p, (gA, gc, gb))]) (us := [(42 + p, gb)]) (by rw [zd]; rfl) hoS hf23 hob23 hb7 hf24 rfl (fun x hx => by rw [za] at hx; subst hx; exact ⟨by dsimp only; omega, htk.1, htk.2⟩) (fun x hx => by rw [za] at hx; subst hx; exact ⟨(hPX _ hbm).1, fun y hy => ⟨((hPX _ hbm).2 y hy).1, zap hb0w ((hPX _ hbm).2 y hy).2⟩⟩) []
  have hd9 : IsDr w1 w24 (g6 :: Y) g7 m { D with puts := D.puts ++ cK dir (bW D.pairs) (k + 1) } { t with S := S23, sc := sc23, ps := tt.ps ++ [(42 + p, (gA, gc, gb))], dv := .slice t.fA nb t.fc } [] := by
   rw [hdps, ← zad]
   rw [htt] at hd ⊢
   exact hd
  rw [htt] at hTX hPX
  refine qQ.done jK ?_
  refine qH (jN ?_)
  refine jv5 6 7 116 117 118 ?_
  refine jR (jb rfl rfl (Bin.add_i64 _ 1 jo) (jm rfl (jO ?_)))
  refine jN ⟨(k + 1, S23, sc23, tt.ps ++ [(42 + p, (gA, gc, gb))]), (js5 rfl rfl rfl rfl rfl), ?_, ?_⟩
  ·
   rw [← hDe]
   refine ⟨hc5, hd9, by rw [htt]; exact hTX, by rw [htt]; exact hPX, by dsimp only; rw [zd, ettp, zch]; omega⟩
  first | omega | (dsimp only; omega)
 have hkn : k = nb := jo
 rw [hkn] at hd
 have hsl : (bI dir).length = 128 := gH (by rw [gC]; omega)
 have hslt : ∀ b ∈ bI dir, b < 256 := mJ (nX dir)
 refine jX ?_
 refine qJ (qJ (qR ?_))
 refine jN (jv2 6 7 ?_)
 refine jS ?_
 refine VC.heldL 9 (fun V => Frm (ob tt.S) wr V) jK ?_
 have hS : Frm (ob tt.S) wr wr.drew := (Frm.refl _ _).drew
 refine jH 0 rfl hS (fun w0 hw0 => Run.fieldAddr rfl zah rfl zcr jd) ?_
 refine jH 1 rfl hS (fun w0 hw0 => Run.load rfl Try.isAgg70 ((hd.blk.frm hw0 a2).cell 0)) ?_
 refine qQ.r1 2 rfl jK hS (Run.fieldAddr rfl zah rfl zci jd) trivial rfl rfl ?_
 refine qQ.r1 3 rfl jK hS (Run.load rfl zcz ((hd.blk.frm hS a2).cell 3)) trivial rfl rfl ?_
 rw [ettd]
 refine qQ.cl 4 rfl jK (jE1 Try.call50) (wG t.fA nb t.fc dir _ hdl jo ((hdR.1.frm hd.K jp).drawn (qV.drew _)) (fun p hp => by have := hdp p hp; omega)) trivial rfl rfl ?_
 rintro e w25 ⟨SB, sd, rfl, hoB, hf25, hupB⟩
 have hS := hS.trans hf25 jp
 refine ⟨_, rfl, hS, ?_⟩
 have kf25 : Frm [] wr w25 := (qV.drew wr).frm.trans hf25 jp
 refine qQ.r1 5 rfl jK hS (Run.build (evs.cons rfl (evs.cons rfl evs.nil)) dK (fZ).choose_spec.1 (fZ).choose_spec.2 (cells := (pqC (41, (SB, sd, bI dir))).toArray) (by rw [pqC, SL, hsl]; rfl)) trivial rfl rfl ?_
 refine qQ.m 6 rfl jK (qZ.buildS1 rfl zan zbj dK jd jd rfl rfl) trivial rfl rfl ?_
 rintro _ w26 ⟨rfl, hF26⟩
 have hS := hS.trans hF26.frm jp
 refine ⟨hS, ?_⟩
 have hr26 : Rd w26 2 (some ⟨w25.heap.size, 0, none⟩) 1 (pqC (41, (SB, sd, bI dir))) := Rd.of_blk (n := 1) (size := 2) hF26.blk rfl
 have kf26 : Frm [] wr w26 := kf25.trans hF26.frm jp
 have hltX := hd.lt
 have hdK0 := hd.K
 have hd := hd.frm kf26
 have hBl := hoB.lt
 have hoB := hoB.frm hF26.frm jp
 have s25 := hF26.frm.size
 refine qQ.m 7 rfl jK (qZ.app rfl rfl zan (nP) rfl jd hd.S hr26 (eS _) jo jo) trivial rfl rfl ?_
 rintro _ w27 ⟨S27, sc27, rfl, hoS, hf27, hob27⟩
 have hS := hS.trans hf27 (fun x hx => .inl hx)
 refine ⟨hS, ?_⟩
 have e27 : tt.ps.flatMap pqC ++ pqC (41, (SB, sd, bI dir)) = (tt.ps ++ [(41, (SB, sd, bI dir))]).flatMap pqC := jp
 rw [e27] at hoS
 have hb7 := hd.blk.frm hf27 a2
 refine qQ.r1 8 rfl jK hS (Run.fieldAddr rfl zah rfl zcr jd) trivial rfl rfl ?_
 refine qQ.stL rfl jK (qS.store rfl rfl zcr hb7 rfl rfl) trivial rfl ?_
 rintro w28 ⟨hb7, hf28, hs28⟩
 have kfk := hd.fkS (sc1 := sc27) (ps1 := tt.ps ++ [(41, (SB, sd, bI dir))]) hf27 hf28 hob27
 have hq28 : PuS w1.heap.size w28 (g7 :: m :: (ob S27 ++ ob tt.A)) [(41, (SB, sd, bI dir))] := by
  have h0 : PuS w1.heap.size w26 (tt.X g7 m) [(41, (SB, sd, bI dir))] := fun x hx => by
   rw [za] at hx
   subst hx
   refine ⟨by dsimp only; rw [hsl]; exact hoB.rd, fun y hy => ?_⟩
   have h1 := hupB y hy
   have h2 := hBl y hy
   rw [show wr.drew.heap.size = wr.heap.size from rfl] at h1
   have h3 := hdK0.size
   exact ⟨⟨jo, fun hx => by have := hltX y hx; omega⟩, jo⟩
  exact h0.fk kfk
 have hd := hd.puts (qs := [(41, (SB, sd, bI dir))]) (us := [(41, bI dir)]) (by rw [zd]; rfl) hoS hf27 hob27 hb7 hf28 rfl (fun x hx => by rw [za] at hx; subst hx; exact ⟨by dsimp only; omega, hsl, hslt⟩) hq28 []
 refine qQ.done jK ?_
 refine jN (jv2 6 7 ?_)
 refine jS (jR (je (Run.loadA rfl Try.isAgg72 Try.sizeOf72 hd.blk.cells (by first | rfl | (simp; done))) ?_))
 refine Ops.st (qS.storeA rfl rfl Try.sizeOf72 (hb60.frm hd.K jp) rfl (by intro u hu; simp only [plV, zl, zu, or_false] at hu; rcases hu with rfl | rfl | rfl | rfl; rfl; rfl; rfl; rw [ettd]; rfl)) ?_
 rintro w30 ⟨hb6, hf30, hs30⟩
 refine jO (jN (jv1 6 ?_))
 refine jT ?_
 refine dL ?_
 refine cX rfl Try.isAgg72 Try.sizeOf72 (hb6.cells) (by first | rfl | (simp; done) | (simp [*]; done)) ?_
 refine bA ?_
 have hpe : qL D = ⟨(D.puts ++ cK dir (bW D.pairs) nb) ++ [(41, bI dir)], D.pairs, D.lies, dir⟩ := by
  unfold qL
  rw [← hnb, ← hdir]
 have hup := hd.up
 have ng : ∀ y ∈ DrQ.X g7 m { tt with S := S27, sc := sc27, ps := tt.ps ++ [(41, (SB, sd, bI dir))] }, y ∉ [g6] := fun y hy h => by
  rw [za] at h
  have := hup y hy
  omega
 have hfw : Frm [g6] w1 w30 := (hd.K.mono jp).trans hf30 (fun x hx => .inl hx)
 refine ⟨⟨S27, sc27, tt.ps ++ [(41, (SB, sd, bI dir))], tt.A, tt.ca, m, tt.ly, t.fA, t.fc⟩, (tt.ps ++ [(41, (SB, sd, bI dir))]).length, D.pairs.length, nb, by rw [← ettd]; rfl, rfl, by rw [hpe], by rw [hpe]; exact hdl.symm, ?_⟩
 rw [hpe]
 exact ⟨(KW.trans hd.K jp).own hf30 (by simp; omega), ⟨rfl, (hd.S.frm hf30 (fun y hy => ng y (by simp [DrQ.X, hy]))).rd, fun x hx => (hd.ps x hx).1.frm hf30 (fun _ y hy h => by rw [za] at h; have := ((hd.ps x hx).2 y hy).2; omega), fun x hx => by
   have := (hd.ok.pu (x.1, x.2.2.2) (by rw [← hd.pu]; exact List.mem_map.2 ⟨x, hx, rfl⟩)).1
   dsimp only at this
   omega, fun x hx => (hd.ok.pu (x.1, x.2.2.2) (by rw [← hd.pu]; exact List.mem_map.2 ⟨x, hx, rfl⟩)).2.2⟩, hd.pu, fun x hx y hy => by have := ((hd.ps x hx).2 y hy).2; omega,
  (hd.A.frm hf30 (fun y hy => ng y (by simp [DrQ.X, hy]))).rd, hd.A.le, fun y hy => by have := hup y (by simp [DrQ.X, hy]); omega, hd.mp.frm hf30 (ng m (by simp [DrQ.X])), by have := hup m (by simp [DrQ.X]); show w.heap.size ≤ m; omega, fun id r hid => ⟨(hd.ly id r hid).1.less hfw, (hd.ly id r hid).2⟩, fun x hx => hd.lyD x hx jp, by
   show RdX w30 Y 1 t.fA dir.length (ZN dir)
   rw [hdl]
   exact hdR.less hfw⟩
end
section
open Go.RowKit
theorem oJ (l : List Pr) (p : Nat → Bool) : (l.filter fun x => p x.1).map (·.1) = (l.map (·.1)).filter p := by
 rw [List.filter_map]
 rfl
theorem sN (x : Dw) (c : Ch) : (bU x c).pairs.map (·.1) = ((x.pairs.map (·.1)).filter fun y => decide (y < c.1)) ++ (if c.2.2 then [] else [c.1]) ++ ((x.pairs.map (·.1)).filter fun y => decide (c.1 < y)) := by
 rw [← oJ, ← oJ]
 unfold bU
 split
 · next h => simp [bH, bQ]
 next h => simp [bH, bQ, bE]
theorem qX6 (H : Hm) (l : List Ch) (fr fr' : List Nat) : (qF H l fr).pairs.map (·.1) = (qF H l fr').pairs.map (·.1) := by
 unfold qF
 generalize hx : (⟨[], H.pairs, fr, H.lies⟩ : Dw) = x
 generalize hx' : (⟨[], H.pairs, fr', H.lies⟩ : Dw) = x'
 have h1 : x.pairs.map (·.1) = x'.pairs.map (·.1) := by rw [← hx, ← hx']
 clear hx hx'
 induction l generalizing x x' with
 | nil => exact h1
 | cons c r ih => exact ih _ _ (by rw [sN, sN, h1])
theorem sO (H : Hm) (l : List Ch) (fr fr' : List Nat) : (qF H l fr).pairs.length = (qF H l fr').pairs.length := by
 have := congrArg List.length (qX6 H l fr fr')
 simpa using this
def cL (H : Hm) (l : List Ch) : Prop := ∀ x ∈ l, x.2.2 = true → x.1 ∈ H.pairs.map (·.1)
instance (H : Hm) (l : List Ch) : Decidable (cL H l) := by unfold cL; infer_instance
def cV (H : Hm) (l : List Ch) : Nat := (qF H l []).pairs.length
def qO (H : Hm) (l : List Ch) : Nat := sumN l + pagesT (cV H l)
def bJ (H : Hm) (l : List Ch) : Pln := qL (qF H l ((bZ H.N H.used).take (qO H l)))
def Hm.plan (H : Hm) (dk : Dk) (P : Pln) : Hm := ⟨dk, P.pairs, P.dir, P.lies, H.used⟩
def Hm.count (H : Hm) : Hm := { H with used := (bG H.N (fun _ => false) (bM H)).getD (fun _ => false) }
def qP (H : Hm) (l : List Ch) : Nat × Hm :=
 if ¬ bF l then (1, H)
 else if ¬ cL H l then (6, H)
 else if 600 < cV H l ∨ 40 < qO H l + 1 then (5, H)
 else if H.N - cntS H.N H.used < qO H l then (5, H)
 else if (bX H.dk (bJ H l).puts).1 ≠ 0 then ((bX H.dk (bJ H l).puts).1, { H with dk := (bX H.dk (bJ H l).puts).2 })
 else (0, (H.plan (bX H.dk (bJ H l).puts).2 (bJ H l)).count)
def lR (H : Hm) (l : List Ch) : Prop := bF l → cL H l → cV H l ≤ 600 → qO H l ≤ 39 → qO H l ≤ H.N - cntS H.N H.used → (bX H.dk (bJ H l).puts).1 = 0 →
 (H.plan (bX H.dk (bJ H l).puts).2 (bJ H l)).ok ∧ (bX H.dk (bJ H l).puts).2.has.length = H.dk.has.length ∧ ∃ U, bG H.N (fun _ => false) (bM (H.plan (bX H.dk (bJ H l).puts).2 (bJ H l))) = some U
theorem IsHt.lt {w : World} {h g : Nat} {F : List Nat} {H : Hm} {q : HtQ} (a : IsHt w h g F H q) : ∀ x ∈ h :: F, x < w.heap.size := fun x hx => by
 rcases zl.1 hx with rfl | hx
 · exact a.blk.lt
 exact a.dk.lt x hx
theorem RdX.of_new {w w' : World} {X : List Nat} {A : Option Addr} {sz n : Nat} {xs : List Value} (h : Rd w' sz A n xs) (hA : ∀ x ∈ ob A, w.heap.size ≤ x) (hX : ∀ x ∈ X, x < w.heap.size) : RdX w' X sz A n xs := ⟨h, fun h0 y hy => ⟨h.lt h0 y hy, fun hx => by
 have h1 := hX y hx
 have h2 := hA y hy
 omega⟩⟩
theorem qJv (H : Hm) (hs : Srt H.pairs) (l : List Ch) (fr : List Nat) : (qF H l fr).pairs.length ≤ H.pairs.length + l.length := by
 have key : ∀ (l : List Ch) (x : Dw), Srt x.pairs → (l.foldl bU x).pairs.length ≤ x.pairs.length + l.length := by
  intro l
  induction l with
  | nil => intro x _; simp
  | cons c r ih =>
   intro x hx
   have h1 := ih _ (uA hx c)
   have h2 := uI hx c
   rw [zdi, zz]
   have h3 : (bU x c).pairs.length ≤ x.pairs.length + 1 := by split at h2 <;> split at h2 <;> omega
   omega
 exact key l _ hs
theorem eA (d : Dk) (l : List Pu) : (bX d l).2.has.length = d.has.length := by
 unfold bX
 split
 · rfl
 exact oG _ _
theorem qX7 (H : Hm) (l : List Ch) (fr : List Nat) : (qF H l fr).puts.length ≤ sumN l := by
 have key : ∀ (l : List Ch) (x : Dw), (l.foldl bU x).puts.length ≤ x.puts.length + sumN l := by
  intro l
  induction l with
  | nil => intro x; simp [sumN]
  | cons c r ih =>
   intro x
   have h1 := ih (bU x c)
   have h2 : (bU x c).puts.length ≤ x.puts.length + needsM c.2.1.length := by
    unfold bU
    split
    · exact Nat.le_add_right _ _
    dsimp only
    rw [zd, cB, pN, zi]
    omega
   have h3 : sumN (c :: r) = needsM c.2.1.length + sumN r := by simp [sumN]
   rw [zdi]
   omega
 have := key l ⟨[], H.pairs, fr, H.lies⟩
 unfold qF
 simpa using this
theorem qQs (D : Dw) : (qL D).puts.length = D.puts.length + (bW D.pairs).length + 1 := by
 unfold qL cK
 simp
 omega
theorem Own.blk1 {w : World} {e sz g : Nat} {xs : List Value} (h : Own w e sz (some ⟨g, 0, none⟩) 1 1 xs) : Blk w g e xs.toArray := by
 rcases h.cases with ⟨h0, _⟩ | ⟨g', cur, hA, hb, _, _, h3, h4⟩
 · cases h0
 cases hA
 rw [← h4, zf (by rw [zba]; omega)]
 exact hb
theorem IsPl.frm {w w' w2 : World} {X : List Nat} {P : Pln} {t : PlQ} (p : IsPl w w' X P t) (k : Frm [] w' w2) : IsPl w w2 X P t :=
 ⟨p.K.trans k jp, p.rp.frm k, p.pu, p.off, p.pr.frm k jp, p.pc, p.A, p.mp.frm k jp, p.ml, fun id r hr => ⟨(p.ly id r hr).1.frm k, (p.ly id r hr).2⟩, p.lyD, p.dr.frm k⟩
theorem IsHt.dks {w w' : World} {h g : Nat} {F F' : List Nat} {H : Hm} {q : HtQ} {d' : Dk} (a : IsHt w h g F H q) (hD : IsDk w' g F' d') (k : Fk F w w' F') (hok : ({ H with dk := d' } : Hm).ok) (hl : d'.has.length = H.dk.has.length) : IsHt w' h g F' { H with dk := d' } q := by
 have kk : Fk (h :: F) w w' (h :: F') := Fk.left (X := [h]) k
 have hN : ({ H with dk := d' } : Hm).N = H.N := by unfold Hm.N; dsimp only; rw [hl]
 exact ⟨hok, hD, k.out a.blk.lt a.hF, by rw [hN]; exact a.blk.frm k.1 a.hF, a.pr.fk kk, a.pcap, a.dr.fk kk, a.mp.frm kk.1 a.ml, kk.out a.mp.lt a.ml, fun id x hx => ⟨(a.ly id x hx).1.fk kk, (a.ly id x hx).2⟩, a.lyH, by rw [hN]; exact a.us.fk kk⟩
theorem IsHt.planned {w0 w w' : World} {h g : Nat} {F F' : List Nat} {H : Hm} {q : HtQ} {d' : Dk} {P : Pln} {t : PlQ} (a : IsHt w h g F H q) (p : IsPl w0 w (h :: F) P t) (h0 : ∀ x ∈ h :: F, x < w0.heap.size) (hD : IsDk w' g F' d') (k : Fk (h :: F) w w' (h :: F')) (hhF : h ∉ F')
  (hb : Blk w' h 62 #[.pointer (some ⟨g, 0, none⟩), .slice t.A P.pairs.length t.ca, .slice t.dA P.dir.length t.dc, .map (some t.m), .int .i64 ((H.N : Nat) : Int), .slice q.sB ((H.N + 7) / 8) q.sc]) (hok : (H.plan d' P).ok) (hl : d'.has.length = H.dk.has.length) : IsHt w' h g F' (H.plan d' P) ⟨t.A, t.ca, t.dA, t.dc, t.m, q.sB, q.sc, t.ly⟩ := by
 have hN : (H.plan d' P).N = H.N := by unfold Hm.N Hm.plan; dsimp only; rw [hl]
 have hm : t.m ∉ h :: F := fun hx => by have := h0 _ hx; have := p.ml; omega
 exact ⟨hok, hD, hhF, by rw [hN]; exact hb, (RdX.of_new p.pr p.A h0).fk k, p.pc, p.dr.fk k, p.mp.frm k.1 hm, k.out p.mp.lt hm, fun id x hx => ⟨(p.ly id x hx).1.fk k, (p.ly id x hx).2⟩, p.lyD, by rw [hN]; exact a.us.fk k⟩
theorem IsHt.counted {w w' : World} {h g : Nat} {F : List Nat} {H : Hm} {q : HtQ} {U : Nat → Bool} {B : Option Addr} {c : Nat} (a : IsHt w h g F H q) (hb : Blk w' h 62 #[.pointer (some ⟨g, 0, none⟩), .slice q.pA H.pairs.length q.pc, .slice q.dA H.dir.length q.dc, .map (some q.l), .int .i64 ((H.N : Nat) : Int), .slice B ((H.N + 7) / 8) c]) (k : Frm [h] w w')
  (hr : RdX w (h :: F) 1 B ((H.N + 7) / 8) (NB (bB H.N U))) : IsHt w' h g F { H with used := U } { q with sB := B, sc := c } := by
 have kk : Fk (h :: F) w w' (h :: F) := Fk.self k jp
 exact ⟨⟨a.ok.srt, a.ok.okp, a.ok.n600, a.ok.sz, a.ok.big, a.ok.wts, a.ok.d59, a.ok.dirp, a.ok.pg⟩, a.dk.frm k (fun x hx h => by rw [za] at h; subst h; exact a.hF hx), a.hF, hb, a.pr.fk kk, a.pcap, a.dr.fk kk, a.mp.frm kk.1 a.ml, a.ml, fun id x hx => ⟨(a.ly id x hx).1.fk kk, (a.ly id x hx).2⟩, a.lyH, hr.fk kk⟩
theorem RdX.mono {w : World} {X Y : List Nat} {A : Option Addr} {sz n : Nat} {xs : List Value} (h : RdX w X sz A n xs) (hY : ∀ y ∈ Y, y ∈ X) : RdX w Y sz A n xs := ⟨h.1, fun h0 y hy => ⟨(h.2 h0 y hy).1, fun hx => (h.2 h0 y hy).2 (hY y hx)⟩⟩
theorem IsPl.mono {w w' : World} {X Y : List Nat} {P : Pln} {t : PlQ} (p : IsPl w w' X P t) (hY : ∀ y ∈ Y, y ∈ X) : IsPl w w' Y P t :=
 ⟨p.K, p.rp, p.pu, p.off, p.pr, p.pc, p.A, p.mp, p.ml, fun id r hr => ⟨(p.ly id r hr).1.mono hY, (p.ly id r hr).2⟩, p.lyD, p.dr.mono hY⟩
structure OffQ (E : List Nat) (H : Hm) (q : HtQ) : Prop where
 pr : 0 < H.pairs.length → ∀ y ∈ ob q.pA, y ∉ E
 dr : 0 < H.dir.length → ∀ y ∈ ob q.dA, y ∉ E
 ml : q.l ∉ E
 ly : ∀ id x, q.ly id = some x → 0 < x.2.2.length → ∀ y ∈ ob x.1, y ∉ E
 us : 0 < (H.N + 7) / 8 → ∀ y ∈ ob q.sB, y ∉ E
theorem IsHt.off {w : World} {h g b : Nat} {F E : List Nat} {H : Hm} {q : HtQ} (a : IsHt w h g F H q) (hb : w.heap.size ≤ b) (hE : ∀ y ∈ E, b ≤ y) : OffQ E H q :=
 ⟨fun h0 y hy hx => by have := (a.pr.2 h0 y hy).1; have := hE y hx; omega, fun h0 y hy hx => by have := (a.dr.2 h0 y hy).1; have := hE y hx; omega, fun hx => by have := a.mp.lt; have := hE _ hx; omega,
  fun id x hx h0 y hy hx2 => by have := ((a.ly id x hx).1.2 h0 y hy).1; have := hE y hx2; omega, fun h0 y hy hx => by have := (a.us.2 h0 y hy).1; have := hE y hx; omega⟩
theorem OffQ.nil (H : Hm) (q : HtQ) : OffQ [] H q := ⟨fun _ _ _ => jp, fun _ _ _ => jp, jp, fun _ _ _ _ _ _ => jp, fun _ _ _ => jp⟩
theorem IsHt.aside {w w' : World} {h g : Nat} {F E : List Nat} {H : Hm} {q : HtQ} (a : IsHt w h g F H q) (o : OffQ E H q) (k : Frm E w w') (hE : ∀ x ∈ h :: F, x ∉ E) : IsHt w' h g F H q :=
 have tr : ∀ {A : Option Addr} {sz n : Nat} {xs : List Value}, RdX w (h :: F) sz A n xs → (0 < n → ∀ y ∈ ob A, y ∉ E) → RdX w' (h :: F) sz A n xs := fun hr ho => ⟨hr.1.frm k ho, fun h0 y hy => ⟨zq (hr.2 h0 y hy).1 k.size, (hr.2 h0 y hy).2⟩⟩
 ⟨a.ok, a.dk.frm k (fun x hx => hE x (by simp [hx])), a.hF, a.blk.frm k (hE h jp), tr a.pr o.pr, a.pcap, tr a.dr o.dr, a.mp.frm k o.ml, a.ml, fun id x hx => ⟨tr (a.ly id x hx).1 (o.ly id x hx), (a.ly id x hx).2⟩, a.lyH, tr a.us o.us⟩
theorem wR {H : Hm} (_ : H.ok) : ∀ p ∈ bZ H.N H.used, p < H.N := fun p hp => List.mem_range.1 (List.mem_filter.1 hp).1
set_option maxHeartbeats 4000000 in
theorem nV (E : List Nat) (S : Option Addr) (n c : Nat) (l : List Cq) (h g : Nat) (F : List Nat) (H : Hm) (q : HtQ) (w : World) (hH : IsHt w h g F H q) (hE : ∀ y ∈ E, y < w.heap.size) (hqE : OffQ E H q) (hn : n ≤ 1000) (hr : RdC w S n l) (hmk : lR H (chL l)) (hok' : (qP H (chL l)).2.ok) :
  Calls Try.prog 7 #[.pointer (some ⟨h, 0, none⟩), .slice S n c] w fun e w' => ∃ F' q', e = .returned (.int .i64 (((qP H (chL l)).1 : Nat) : Int)) ∧ IsHt w' h g F' (qP H (chL l)).2 q' ∧ Fk (h :: F) w w' (h :: F') ∧ OffQ E (qP H (chL l)).2 q' := by
 have h600 := hH.ok.n600
 have hbg := hH.ok.big
 have hsz := hH.ok.sz
 have hNe : H.N = H.dk.has.length - 42 := rfl
 have hln := hr.len
 have K0 := Frm.refl [] w
 have hX := hH.lt
 refine VC.calls (nt := 105) (res := #[.tmp 4]) Try.func7 rfl Try.ntmps7 Try.results7 rfl ?_
 refine jS (jR (jz 0 (jO (jN (jv2 0 1 ?_)))))
 refine jS (jS (jR (jM ?_)))
 refine Ops.cl (jE1 Try.call19) (qQm S n c l w jo hr) rfl ?_
 rintro e w1 ⟨rfl, K⟩
 refine ⟨_, rfl, ?_⟩
 refine je (Run.not rfl) (jO (jN (jv3 0 1 18 ?_)))
 refine VC.condB rfl (fun hc1 => ?_) (fun hc1 => ?_)
 ·
  have hm : ¬ bF (chL l) := by simpa using hc1
  have eB : qP H (chL l) = (1, H) := by unfold qP; rw [if_pos hm]
  rw [eB]
  refine jS (jR (jz 1 (jO (jN (jv1 4 ?_)))))
  refine jT ?_
  refine qN (qB rfl ?_)
  exact ⟨F, q, rfl, hH.frm K, Fk.self K jp, hqE⟩
 have hm : bF (chL l) := by simpa using hc1
 refine jQ (jN (jv2 0 1 ?_))
 refine jS (jS (jR (jm rfl (je (Run.lenS rfl zab) ?_))))
 refine jx .i64 0 ?_
 refine jO (jN (jB ?_))
 refine VC.loop (σ := Nat) (fun s => [(0, .pointer (some ⟨h, 0, none⟩)), (1, .slice S n c), (19, .slice S n c), (20, .int .i64 ((n : Nat) : Int)), (21, .int .i64 ((s : Nat) : Int))]) (fun s wr => s ≤ n ∧ cL H (chL (l.take s)) ∧ Frm [] w wr) (fun s => n - s) 0 (js5 rfl rfl rfl rfl rfl) ⟨zg _, fun x hx => (by cases hx), K⟩ ?_
 rintro i wr ⟨hi, hgo, K⟩
 refine jS (jR (jb rfl rfl (Bin.lssN _ _) (jO (jN (jS ?_)))))
 refine jD rfl (fun hc2 => ?_) fun hc2 => ?_
 ·
  obtain ⟨ad, hS, hel⟩ := (hr.frm K).cell hc2
  subst hS
  have hmem := eE (jo : i < l.length)
  have hxn := hr.num _ hmem
  have hsnc := gQ (jo : i < l.length)
  have hcm : chO (l.getD i cq0) ∈ chL l := List.mem_map.2 ⟨_, hmem, rfl⟩
  generalize l.getD i cq0 = x at hel hxn hsnc hcm
  obtain ⟨xa, ⟨xA, xc, xb⟩, xg⟩ := x
  dsimp only [chO] at hxn hsnc hcm
  refine jQ (jN (jv5 0 1 19 20 21 ?_))
  refine jS (jB (jS (jR (je (Run.indexS _ rfl rfl zab zaq jo) (je (Run.loadA rfl Try.isAgg38 zaq hel (by first | rfl | (simp; done))) ?_)))))
  refine Ops.m (qZ.alloc eQ) rfl ?_
  rintro _ w2 ⟨rfl, hF2⟩
  refine Ops.st (qS.storeA rfl rfl zaq hF2.blk rfl (gE (xa, (xA, xc, xb), xg))) ?_
  rintro w3 ⟨hb3, hf3, hs3⟩
  have hb3 : Blk w3 wr.heap.size 38 #[.int .u64 ((xa : Nat) : Int), .slice xA xb.length xc, .bool xg] := hb3
  have K := K.trans (hF2.frm.own hf3 jp) jp
  have hH3 := hH.frm K
  refine jO (jN (jv6 0 1 6 19 20 21 ?_))
  refine jS ?_
  refine VC.held (fun V => Frm [] w3 V) jK ?_
  have hS : Frm [] w3 w3.drew := (Frm.refl _ _).drew
  refine jH 0 rfl hS (fun w0 hw0 => Run.mv rfl) ?_
  refine jH 1 rfl hS (fun w0 hw0 => Run.nilck rfl) ?_
  refine jH 2 rfl hS (fun w0 hw0 => Run.fieldAddr rfl zaa rfl zbb jd) ?_
  refine jH 3 rfl hS (fun w0 hw0 => Run.load rfl zbx ((hH3.frm hw0).blk.cell 1)) ?_
  refine jH 4 rfl hS (fun w0 hw0 => Run.fieldAddr rfl zp rfl zx jd) ?_
  refine jH 5 rfl hS (fun w0 hw0 => Run.load rfl zar ((hb3.frm hw0 jp).cell 0)) ?_
  refine qQ.cl 6 rfl jK (jE2 Try.call20) (gD _ _ xa _ H.pairs _ rfl jo (hH3.frm hS).pr.1 hH.ok.okp hH.ok.srt hxn.1) trivial rfl rfl ?_
  rintro e w4 ⟨rfl, hf4⟩
  have hS := hS.trans hf4 jp
  refine ⟨_, rfl, hS, ?_⟩
  have hb4 := hb3.frm hS jp
  have K := K.trans hS jp
  generalize hg6 : wr.heap.size = g6 at *
  refine jH 7 rfl hS (fun w0 hw0 => Run.mv rfl) ?_
  refine jH 8 rfl hS (fun w0 hw0 => Run.extract rfl rfl) ?_
  refine jH 9 rfl hS (fun w0 hw0 => Run.extract rfl rfl) ?_
  refine jH 10 rfl hS (fun w0 hw0 => Run.asg rfl) ?_
  refine jH 11 rfl hS (fun w0 hw0 => Run.asg rfl) ?_
  refine qQ.done jK ?_
  refine jN (jv7 0 1 6 8 19 20 21 ?_)
  refine jS ?_
  refine VC.split1 [(0, _), (1, _), (19, _), (20, _), (21, _)] (js5 rfl rfl rfl rfl rfl) 40 (.bool (decide (xg = true ∧ xa ∉ H.pairs.map (·.1)))) ?_ ?_
  ·
   refine jR (jf rfl zp rfl zco (jl rfl zep (hb4.cell 2) ?_))
   by_cases hs36 : xg = true
   ·
    refine jM ?_
    refine jG ?_
    refine jk (Run.not rfl) ?_
    by_cases hs39 : xa ∉ H.pairs.map (·.1)
    ·
     refine je (Run.pickT rfl rfl au) (jO ?_)
     refine jN ⟨(js6 (jC (by grind)) rfl rfl rfl rfl rfl), rfl⟩
    refine je (Run.pickT rfl rfl au) (jO ?_)
    refine jN ⟨(js6 (jC (by grind)) rfl rfl rfl rfl rfl), rfl⟩
   refine jM ?_
   refine jU ?_
   refine jU ?_
   refine je (Run.pickF rfl rfl au) (jO ?_)
   refine jN ⟨(js6 (jC (by grind)) rfl rfl rfl rfl rfl), rfl⟩
  intro Γ hΓ
  refine jN (VC.sub _ hΓ ?_)
  refine jD rfl (fun hc3 => ?_) fun hc3 => ?_
  ·
   have hng : ¬ cL H (chL l) := fun hg => hc3.2 (hg _ hcm hc3.1)
   have eB : qP H (chL l) = (6, H) := by unfold qP; rw [if_neg (not_not_intro hm), if_pos hng]
   rw [eB]
   refine jS (jR (jz 6 (jO (jN (jv1 4 ?_)))))
   refine jT ?_
   refine qC (qN (qN (qC (qN (qB rfl ?_)))))
   exact ⟨F, q, rfl, hH.frm K, Fk.self K jp, hqE⟩
  refine jQ ?_
  refine qH (jN ?_)
  refine jv5 0 1 19 20 21 ?_
  refine jR (jb rfl rfl (Bin.add_i64 _ 1 jo) (jm rfl (jO ?_)))
  refine jN ⟨i + 1, (js5 rfl rfl rfl rfl rfl), ?_, ?_⟩
  ·
   exact ⟨hc2, by
    rw [hsnc]
    intro x hx hg
    rcases zbs.1 hx with hx | hx
    · exact hgo x hx hg
    rw [za] at hx
    subst hx
    exact Classical.byContradiction fun hn => hc3 ⟨hg, hn⟩, K⟩
  first | omega | (dsimp only; omega)
 rw [zf (jo : l.length ≤ i)] at hgo
 have hgo2 : cL H (chL l) := hgo
 have hbp0 : cV H (chL l) ≤ 100000 := by
  have := qJv H hH.ok.srt (chL l) []
  rw [gF] at this
  unfold cV
  omega
 refine jX ?_
 refine qJ (qJ (qR ?_))
 refine jN (jv2 0 1 ?_)
 refine jS (jR (jm rfl (jM ?_)))
 refine Ops.cl (jE2 Try.call21) (wN S n c l [] h g F H q wr (hH.frm K) hn (hr.frm K) hm hgo2) rfl ?_
 rintro e w5 ⟨rfl, K5⟩
 refine ⟨_, rfl, ?_⟩
 have K := K.trans K5 jp
 rw [show (qF H (chL l) []).pairs.length = cV H (chL l) from rfl, show sumN (chL l) + pagesT (cV H (chL l)) = qO H (chL l) from rfl]
 have hbn : qO H (chL l) ≤ 100000000 := by
  have h1 := rK l (fun x hx => (hr.num x hx).2)
  have h2 := sG (cV H (chL l))
  unfold qO
  omega
 have hbp : cV H (chL l) ≤ 100000 := hbp0
 refine jm rfl (je (Run.extract rfl rfl) (je (Run.extract rfl rfl) (ja rfl (ja rfl (jO (jN (jv4 0 1 9 10 ?_)))))))
 refine jS (jS ?_)
 refine VC.split1 [(0, _), (1, _), (9, _)] (js3 rfl rfl rfl) 54 (.bool (decide (600 < cV H (chL l) ∨ 40 < qO H (chL l) + 1))) ?_ ?_
 ·
  refine jR ?_
  refine jm rfl (jb rfl rfl (Bin.gtrN _ 600) ?_)
  by_cases hs49 : 600 < cV H (chL l)
  ·
   refine jM ?_
   refine jU ?_
   refine jU ?_
   refine jU ?_
   refine je (Run.pickT rfl rfl au) (jO ?_)
   refine jN ⟨(js4 (jC (by grind)) rfl rfl rfl), rfl⟩
  refine jM ?_
  refine jG ?_
  refine jk (Run.bin rfl rfl (Bin.add_i64 _ 1 jo)) ?_
  refine jk (Run.bin rfl rfl (Bin.gtrN _ 40)) ?_
  by_cases hs53 : 40 < qO H (chL l) + 1
  ·
   refine je (Run.pickF rfl rfl au) (jO ?_)
   refine jN ⟨(js4 (jC (by grind)) rfl rfl rfl), rfl⟩
  refine je (Run.pickF rfl rfl au) (jO ?_)
  refine jN ⟨(js4 (jC (by grind)) rfl rfl rfl), rfl⟩
 intro Γ hΓ
 refine jN (VC.sub _ hΓ ?_)
 refine jD rfl (fun hc4 => ?_) fun hc4 => ?_
 ·
  have eB : qP H (chL l) = (5, H) := by unfold qP; rw [if_neg (not_not_intro hm), if_neg (not_not_intro hgo2), if_pos hc4]
  rw [eB]
  refine jS (jR (jz 5 (jO (jN (jv1 4 ?_)))))
  refine jT ?_
  refine qN (qB rfl ?_)
  exact ⟨F, q, rfl, hH.frm K, Fk.self K jp, hqE⟩
 have hnb : qO H (chL l) ≤ 39 := jo
 have hpb : cV H (chL l) ≤ 600 := jo
 refine jQ (jN (jv3 0 1 9 ?_))
 refine jS (jR (jm rfl (je (Run.nilck rfl) (jf rfl zaa rfl zk (je (Run.loadA rfl zag zk ((hH.frm K).blk.sub 4 (spV H.N q.sB q.sc).toList rfl) (by first | rfl | (simp; done))) (jM ?_))))))
 refine Ops.cl (jE2 Try.call22) (yE H.N q.sc (qO H (chL l)) q.sB H.used w5 jo jo jo (hH.frm K).us.1) rfl ?_
 rintro e w6 ⟨K6, ho6⟩
 have ks5 := K.size
 obtain ⟨vs, LA, ln, cl, er, rfl, hvs, hv1, hor⟩ : ∃ vs LA ln cl, ∃ er : Nat, e = .returned (.tuple #[.agg vs, .slice LA ln cl, .int .i64 ((er : Nat) : Int)]) ∧ vs.size = 2 ∧ (∀ u ∈ vs.toList, u.oneCell' = true) ∧ ((H.N - cntS H.N H.used < qO H (chL l) ∧ er = 5) ∨ (¬ H.N - cntS H.N H.used < qO H (chL l) ∧ er = 0 ∧ ln = qO H (chL l) ∧ Rd w6 1 LA (qO H (chL l)) (ZN ((bZ H.N H.used).take (qO H (chL l)))) ∧ qO H (chL l) ≤ cl ∧ ∀ x ∈ ob LA, w5.heap.size ≤ x)) := by
  split at ho6
  · next hlt => obtain ⟨vs, he, h2, h3⟩ := ho6; exact ⟨vs, none, 0, 0, 5, he, h2, h3, .inl ⟨hlt, rfl⟩⟩
  next hlt => obtain ⟨vs, L, cl, he, ⟨h2, h3⟩, h4, h5, h6⟩ := ho6; exact ⟨vs, L, _, cl, 0, he, h2, h3, .inr ⟨hlt, rfl, rfl, h4, h5, h6⟩⟩
 refine ⟨_, rfl, ?_⟩
 have K := K.trans K6 jp
 refine jm rfl (je (Run.extract rfl rfl) (je (Run.extract rfl rfl) (je (Run.extract rfl rfl) ?_)))
 refine Ops.m (qZ.alloc dP) rfl ?_
 rintro _ w7 ⟨rfl, hF7⟩
 refine Ops.st (qS.storeA rfl rfl (by rw [hvs]; exact zk) hF7.blk (by rw [hvs]; rfl) hv1) ?_
 rintro w8 ⟨hb8, hf8, hs8⟩
 have k68 : Frm [] w6 w8 := hF7.frm.own hf8 jp
 have K := K.trans k68 jp
 refine ja rfl (ja rfl (jO (jN (jv4 0 1 12 13 ?_))))
 refine jS (jS (jR (jm rfl (jb rfl rfl (Bin.neqN _ 0) (jO (jN (jv5 0 1 12 13 66 ?_)))))))
 refine jD rfl (fun hc5 => ?_) fun hc5 => ?_
 ·
  obtain ⟨hfu, rfl⟩ : H.N - cntS H.N H.used < qO H (chL l) ∧ er = 5 := by
   rcases hor with h | h
   · exact h
   exact absurd h.2.1 jo
  have eB : qP H (chL l) = (5, H) := by unfold qP; rw [if_neg (not_not_intro hm), if_neg (not_not_intro hgo2), if_neg hc4, if_pos hfu]
  rw [eB]
  refine jS (jR (jm rfl (ja rfl (jO (jN (jv1 4 ?_))))))
  refine jT ?_
  refine qN (qB rfl ?_)
  exact ⟨F, q, rfl, hH.frm K, Fk.self K jp, hqE⟩
 obtain ⟨hnf, -, hlne, hrL, hcl, hupL⟩ := hor.resolve_left (fun h => jo)
 subst hlne
 obtain ⟨fr, hfr⟩ : ∃ fr, fr = (bZ H.N H.used).take (qO H (chL l)) := ⟨_, rfl⟩
 rw [← hfr] at hrL
 have hfl : fr.length = qO H (chL l) := by rw [hfr, zi, kY]; omega
 have hrn : (qF H (chL l) fr).pairs.length = cV H (chL l) := sO _ _ _ _
 have htl : (bW (qF H (chL l) fr).pairs).length = pagesM (cV H (chL l)) := by rw [mL, hrn]
 have hpt : pagesT (cV H (chL l)) = pagesM (cV H (chL l)) := if_pos hpb
 have hbe : qO H (chL l) = sumN (chL l) + pagesM (cV H (chL l)) := by unfold qO; rw [hpt]
 have hplan : qL (qF H (chL l) fr) = bJ H (chL l) := by rw [hfr]; rfl
 have hH8 := hH.frm K
 have hX8 : ∀ x ∈ h :: F, x < w8.heap.size := fun x hx => by have := hX x hx; have := K.size; omega
 have hEX : ∀ x ∈ h :: F ++ E, x < w.heap.size := fun x hx => by
  rcases zbs.1 hx with hx | hx
  · exact hX x hx
  exact hE x hx
 have hE8 : ∀ y ∈ E, y < w8.heap.size := fun y hy => by have := hE y hy; have := K.size; omega
 have hLX : RdX w8 (h :: F ++ E) 1 LA (qO H (chL l)) (ZN fr) := (RdX.of_new (w := w5) hrL hupL (fun x hx => by have := hEX x hx; omega)).frm k68
 have hYl : ∀ id x, q.ly id = some x → RdX w8 (h :: F ++ E) 1 x.1 x.2.2.length (ZN x.2.2) := fun id x hx => ⟨(hH8.ly id x hx).1.1, fun h0 y hy => ⟨((hH8.ly id x hx).1.2 h0 y hy).1, fun hy2 => by
  rcases zbs.1 hy2 with hy2 | hy2
  · exact ((hH8.ly id x hx).1.2 h0 y hy).2 hy2
  exact hqE.ly id x hx h0 y hy hy2⟩⟩
 have eB1 : ∀ e d, bX H.dk (bJ H (chL l)).puts = (e, d) → qP H (chL l) = if e ≠ 0 then (e, { H with dk := d }) else (0, (H.plan d (bJ H (chL l))).count) := fun e d he => by
  unfold qP
  rw [if_neg (not_not_intro hm), if_neg (not_not_intro hgo2), if_neg hc4, if_neg hnf, he]
 refine jQ (jN (jv3 0 1 12 ?_))
 refine jS (jR (jm rfl (jm rfl (jM ?_))))
 refine Ops.cl (jE3 Try.call23) (zZ S n c l LA (qO H (chL l)) cl fr h g F H q w8 hH8 (h :: F ++ E) hYl hn (hr.frm K) hm hfl hLX hcl (fun p hp => by have := wR hH.ok p (by rw [hfr] at hp; exact zr hp); omega) jo jo jo jo) rfl ?_
 rintro e w9 ⟨t, np, nq, dn, rfl, hnp, hnq, hdn, hP⟩
 rw [hplan] at hnq hdn hP
 have hKP := hP.K
 have hputs : (bJ H (chL l)).puts.length ≤ 1000000 := by
  have h1 := qX7 H (chL l) fr
  rw [← hplan, qQs]
  omega
 refine ⟨_, rfl, ?_⟩
 refine Ops.m (qZ.alloc oF) rfl ?_
 rintro _ w10 ⟨rfl, hF10⟩
 refine Ops.st (qS.storeA rfl rfl Try.sizeOf72 hF10.blk rfl (by intro u hu; simp only [zl, zu, or_false] at hu; rcases hu with rfl | rfl | rfl | rfl <;> rfl)) ?_
 rintro w11 ⟨hb14, hf11, hs11⟩
 have hb14 : Blk w11 w9.heap.size 72 #[.slice t.S np t.sc, .slice t.A nq t.ca, .map (some t.m), .slice t.dA dn t.dc] := hb14
 have hP := hP.frm (hF10.frm.own hf11 jp)
 have hPE := hP.mono (Y := E) (fun y hy => List.mem_append_right _ hy)
 have hP := hP.mono (Y := h :: F) (fun y hy => zdp _ hy)
 have K := K.trans hP.K jp
 have hg14 : ∀ x ∈ h :: F, x < w9.heap.size := fun x hx => by have := hX8 x hx; have := hKP.size; omega
 generalize hg14e : w9.heap.size = g14 at *
 have n14F : g14 ∉ F := fun hx => zby _ (hg14 _ (by simp [hx]))
 have n14h : g14 ∉ [h] := fun hx => by rw [za] at hx; exact zby _ (hg14 g14 (by simp [hx]))
 have hH11 := hH.frm K
 have hoff : qXz t.ps F := fun x hx _ y hy hF => by have := hP.off x hx y hy; have := hX8 y (by simp [hF]); omega
 subst hnp hnq hdn
 have hpn : t.ps.length ≤ 1000000 := by
  have h1 := congrArg List.length hP.pu
  rw [cT] at h1
  rw [h1]
  exact hputs
 refine jO (jN (jv2 0 14 ?_))
 refine jS (jS ?_)
 refine VC.held (fun V => Frm F w11 V) jK ?_
 have hS : Frm F w11 w11.drew := (Frm.refl _ _).drew
 refine jH 0 rfl hS (fun w0 hw0 => Run.mv rfl) ?_
 refine jH 1 rfl hS (fun w0 hw0 => Run.nilck rfl) ?_
 refine jH 2 rfl hS (fun w0 hw0 => Run.fieldAddr rfl zaa rfl zfc jd) ?_
 refine jH 3 rfl hS (fun w0 hw0 => Run.load rfl Try.isAgg23 ((hH11.blk.frm hw0 hH.hF).cell 0)) ?_
 refine jH 4 rfl hS (fun w0 hw0 => Run.fieldAddr rfl zah rfl zcr jd) ?_
 refine jH 5 rfl hS (fun w0 hw0 => Run.load rfl Try.isAgg70 ((hb14.frm hw0 n14F).cell 0)) ?_
 refine qQ.cl 6 rfl jK (jE2 Try.call24) (uP g _ _ F t.S t.ps H.dk _ (hH11.dk.drawn (qV.drew _)) (by have := hH.ok.wts; omega) hpn (hP.rp.frm (qV.drew _).frm) hoff) trivial rfl rfl ?_
 rintro e w12 ⟨F', rfl, hD', hFk⟩
 rw [hP.pu] at hD' ⊢
 have hS := hS.trans hFk.1 (fun x hx => .inl hx)
 refine ⟨_, rfl, hS, ?_⟩
 have hFk : Fk F w11 w12 F' := Fk.pre (qV.drew w11).frm hFk
 obtain ⟨ce, cd, hce⟩ : ∃ ce cd, bX H.dk (bJ H (chL l)).puts = (ce, cd) := ⟨_, _, rfl⟩
 have hclen : cd.has.length = H.dk.has.length := by have := eA H.dk (bJ H (chL l)).puts; rw [hce] at this; exact this
 rw [hce] at hD' ⊢
 have eB := eB1 ce cd hce
 refine jH 7 rfl hS (fun w0 hw0 => Run.asg rfl) ?_
 refine qQ.done jK ?_
 refine jN (jv3 0 14 15 ?_)
 refine jS (jR (jm rfl (jb rfl rfl (Bin.neqN _ 0) (jO (jN (jv4 0 14 15 80 ?_))))))
 refine jD rfl (fun hc6 => ?_) fun hc6 => ?_
 ·
  rw [eB, if_pos hc6] at hok' ⊢
  refine jS (jR (jm rfl (ja rfl (jO (jN (jv1 4 ?_))))))
  refine jT ?_
  refine qN (qB rfl ?_)
  exact ⟨F', q, rfl, hH11.dks hD' hFk hok' hclen, Fk.pre K (Fk.left (X := [h]) hFk), hqE.pr, hqE.dr, hqE.ml, hqE.ly, by rw [show ({ H with dk := cd } : Hm).N = H.N by unfold Hm.N; dsimp only; rw [hclen]]; exact hqE.us⟩
 have hc6 : ce = 0 := jo
 subst hc6
 rw [eB, if_neg jp] at hok' ⊢
 obtain ⟨hok1, -, U, hU⟩ := hmk hm hgo2 hpb hnb jo (by rw [hce])
 rw [hce] at hok1 hU
 dsimp only at hok1 hU
 have n12h : h ∉ F' := hFk.out hH11.blk.lt hH.hF
 have hb14 := hb14.frm hFk.1 n14F
 have hbh := hH11.blk.frm hFk.1 hH.hF
 refine jQ (jN (jv2 0 14 ?_))
 refine jS ?_
 refine VC.held (fun V => Frm [h] w12 V) jK ?_
 have hS : Frm [h] w12 w12.drew := (Frm.refl _ _).drew
 have hbh := hbh.drawn (qV.drew _)
 refine jH 0 rfl hS (fun w0 hw0 => Run.mv rfl) ?_
 refine jH 1 rfl hS (fun w0 hw0 => Run.mv rfl) ?_
 refine jH 2 rfl hS (fun w0 hw0 => Run.mv rfl) ?_
 refine jH 3 rfl hS (fun w0 hw0 => Run.fieldAddr rfl zah rfl zbb jd) ?_
 refine jH 4 rfl hS (fun w0 hw0 => Run.load rfl zbx ((hb14.frm hw0 n14h).cell 1)) ?_
 refine jH 5 rfl hS (fun w0 hw0 => Run.fieldAddr rfl zah rfl zcq jd) ?_
 refine jH 6 rfl hS (fun w0 hw0 => Run.load rfl zey ((hb14.frm hw0 n14h).cell 2)) ?_
 refine jH 7 rfl hS (fun w0 hw0 => Run.fieldAddr rfl zah rfl zci jd) ?_
 refine jH 8 rfl hS (fun w0 hw0 => Run.load rfl zcz ((hb14.frm hw0 n14h).cell 3)) ?_
 refine jH 9 rfl hS (fun w0 hw0 => Run.nilck rfl) ?_
 refine jH 10 rfl hS (fun w0 hw0 => Run.fieldAddr rfl zaa rfl zbb jd) ?_
 refine qQ.st 11 rfl jK (qS.store rfl rfl zbb hbh rfl rfl) trivial rfl ?_
 rintro w13 ⟨hbh, hf13, hs13⟩
 have hS := hS.trans hf13 (fun x hx => .inl hx)
 refine ⟨hS, ?_⟩
 refine jH 12 rfl hS (fun w0 hw0 => Run.nilck rfl) ?_
 refine jH 13 rfl hS (fun w0 hw0 => Run.fieldAddr rfl zaa rfl zcq jd) ?_
 refine qQ.st 14 rfl jK (qS.store rfl rfl zcq hbh rfl rfl) trivial rfl ?_
 rintro w14 ⟨hbh, hf14, hs14⟩
 have hS := hS.trans hf14 (fun x hx => .inl hx)
 refine ⟨hS, ?_⟩
 refine jH 15 rfl hS (fun w0 hw0 => Run.nilck rfl) ?_
 refine jH 16 rfl hS (fun w0 hw0 => Run.fieldAddr rfl zaa rfl zci jd) ?_
 refine qQ.st 17 rfl jK (qS.store rfl rfl zci hbh rfl rfl) trivial rfl ?_
 rintro w15 ⟨hbh, hf15, hs15⟩
 have hS := hS.trans hf15 (fun x hx => .inl hx)
 refine ⟨hS, ?_⟩
 have hbh : Blk w15 h 62 #[.pointer (some ⟨g, 0, none⟩), .slice t.A (bJ H (chL l)).pairs.length t.ca, .slice t.dA (bJ H (chL l)).dir.length t.dc, .map (some t.m), .int .i64 ((H.N : Nat) : Int), .slice q.sB ((H.N + 7) / 8) q.sc] := hbh
 have kf : Fk (h :: F) w11 w15 (h :: F') := (Fk.left (X := [h]) hFk).frm hS (fun x hx => .inl (by rw [za] at hx; simp [hx]))
 have hH15 := hH11.planned hP hX8 (hD'.frm hS (fun x hx h => by rw [za] at h; subst h; exact n12h hx)) kf n12h hbh hok1 hclen
 have hN : (H.plan cd (bJ H (chL l))).N = H.N := by unfold Hm.N Hm.plan; dsimp only; rw [hclen]
 have hcnt : (H.plan cd (bJ H (chL l))).count = { H.plan cd (bJ H (chL l)) with used := U } := by
  unfold Hm.count
  rw [hN, hU]
  rfl
 refine qQ.done jK ?_
 refine jN (jv1 0 ?_)
 refine jS (jR (jm rfl (jM ?_)))
 refine Ops.cl (jE1 Try.call25) (wP U h g F' (H.plan cd (bJ H (chL l))) _ w15 hH15 (by rw [hN]; exact hU)) rfl ?_
 rintro e w16 ⟨UB, uc, rfl, hrU, hf16, hupU⟩
 refine ⟨_, rfl, ?_⟩
 have ho16 : Own w16 62 6 (some ⟨h, 0, none⟩) 1 1 _ := Own.of_blk (hbh.frm hf16 jp) rfl jd
 have hrX : RdX w16 (h :: F') 1 UB (((H.plan cd (bJ H (chL l))).N + 7) / 8) (NB (bB (H.plan cd (bJ H (chL l))).N U)) := RdX.of_new (w := w15) hrU hupU hH15.lt
 refine jm rfl (je (Run.extract rfl rfl) (je (Run.extract rfl rfl) (je (Run.nilck rfl) (jf rfl zaa rfl zk ?_))))
 refine Ops.st (qS.storeSub (o := 4) rfl rfl zk ho16 (zm 6) (dY _ _ _)) ?_
 rintro w17 ⟨ho17, hf17, hs17⟩
 have hb17 := ho17.blk1
 have kf17 : Fk (h :: F) w w17 (h :: F') := Fk.pre K ((kf.frm hf16 jp).frm hf17 (fun x hx => .inl (by rw [za] at hx; simp [hx])))
 refine jO (jN ?_)
 refine VC.sub [] .nil ?_
 refine jS (jR (jz 0 (jO (jN (jT ?_)))))
 refine qB rfl ?_
 rw [hcnt]
 exact ⟨F', _, rfl, (hH15.frm hf16).counted (U := U) (B := UB) (c := uc) (by rw [hN] at hb17 ⊢; exact hb17) hf17 hrX, kf17, fun h0 y hy hx => by have := hE8 y hx; have := hPE.A y hy; omega, fun h0 y hy => (hPE.dr.2 h0 y hy).2, fun hx => zby _ (zq (hE8 _ hx) hPE.ml), fun id x hx h0 y hy => ((hPE.ly id x hx).1.2 h0 y hy).2, fun h0 y hy hx => by have := hE8 y hx; have := hP.K.size; have := kf.1.size; have := hupU y hy; omega⟩
theorem kL (S : Option Addr) (n c : Nat) (l : List Cq) (h g : Nat) (F : List Nat) (H : Hm) (q : HtQ) (w : World) (hH : IsHt w h g F H q) (hn : n ≤ 1000) (hr : RdC w S n l) (hmk : lR H (chL l)) (hok' : (qP H (chL l)).2.ok) :
  Calls Try.prog 7 #[.pointer (some ⟨h, 0, none⟩), .slice S n c] w fun e w' => ∃ F' q', e = .returned (.int .i64 (((qP H (chL l)).1 : Nat) : Int)) ∧ IsHt w' h g F' (qP H (chL l)).2 q' ∧ Fk (h :: F) w w' (h :: F') :=
 Calls.mono (nV [] S n c l h g F H q w hH jp (OffQ.nil H q) hn hr hmk hok') fun e w' ⟨F', q', h1, h2, h3, _⟩ => ⟨F', q', h1, h2, h3⟩
end
section
open Go.RowKit
def bC (d : Dk) : Hm := ⟨d, [], [], fun _ => [], fun _ => false⟩
theorem xC {d : Dk} (h1 : 44 ≤ d.has.length) (h2 : d.has.length ≤ 2048) (h3 : d.wts.length ≤ 100000) : (bC d).ok :=
 ⟨List.Pairwise.nil, (fun x hx => by cases hx), zg _, h1, h2, h3, zg _, (fun x hx => by cases hx), (fun x hx => by cases hx)⟩
theorem RdC.nil (w : World) : RdC w none 0 [] := ⟨rfl, Rd.nil _ _ _, (fun x hx => by cases hx), (fun x hx => by cases hx), (fun x hx => by cases hx)⟩
theorem oT (d : Dk) : (bR d).2.has.length = d.has.length := by
 unfold bR
 split
 · rfl
 exact oG _ _
set_option maxHeartbeats 2000000 in
theorem nW (g : Nat) (F : List Nat) (d : Dk) (w : World) (hD : IsDk w g F d) (hsz : 44 ≤ d.has.length) (hwl : d.wts.length ≤ 100000) (hf : (bR d).1 = 0) (hwl2 : (bR d).2.wts.length ≤ 100000) (hmk : lR (bC (bR d).2) []) (hok' : (qP (bC (bR d).2) []).2.ok) (hb0 : (qP (bC (bR d).2) []).1 = 0) :
  Calls Try.prog 5 #[.pointer (some ⟨g, 0, none⟩)] w fun e w' => ∃ h F' q, e = .returned (.tuple #[.pointer (some ⟨h, 0, none⟩), .int .i64 0]) ∧ IsHt w' h g F' (qP (bC (bR d).2) []).2 q ∧ Fk F w w' (h :: F') := by
 have hbg := hD.ok.big
 have hl := oT d
 have hN : (bC (bR d).2).N = d.has.length - 42 := by unfold Hm.N bC; dsimp only; rw [hl]
 refine VC.calls (nt := 34) (res := #[.tmp 2, .tmp 3]) Try.func5 rfl Try.ntmps5 Try.results5 rfl ?_
 refine jS (jR (ja rfl (jz 0 (jO (jN (jv1 0 ?_))))))
 refine jS (jS (jR (jM ?_)))
 refine Ops.cl (jE1 Try.call15) (wY g F d w hD) rfl ?_
 rintro e _ ⟨rfl, rfl⟩
 refine ⟨_, rfl, ?_⟩
 refine jO (jN (jv2 0 10 ?_))
 refine VC.condF rfl (decide_eq_false jo) ?_
 refine jQ (jN (jv1 0 ?_))
 refine jS (jS (jR (jM ?_)))
 refine Ops.cl (jE1 Try.call16) (uN g F d w hD jo) rfl ?_
 rintro e w1 ⟨F1, rfl, hD1, hk1⟩
 refine ⟨_, rfl, ?_⟩
 rw [hf]
 refine ja rfl (jO (jN (jv2 0 4 ?_)))
 refine jS (jR (jm rfl (jb rfl rfl (Bin.neqN _ 0) (jO (jN (jv3 0 4 14 ?_))))))
 refine VC.condF rfl jp ?_
 refine jQ (jN (jv1 0 ?_))
 refine jS (jR (jM ?_))
 refine Ops.cl (jE1 Try.call18) (eN g F1 _ w1 hD1) rfl ?_
 rintro e _ ⟨rfl, rfl⟩
 refine ⟨_, rfl, ?_⟩
 rw [hl]
 refine jb rfl rfl (Bin.sub_i64 _ 42 jo jo) ?_
 refine Ops.cl (jE1 Try.call17) (rE (d.has.length - 42) w1 jo) rfl ?_
 rintro e w2 ⟨SB, sc, rfl, hrS, hf2, hupS⟩
 refine ⟨_, rfl, ?_⟩
 refine jm rfl (je (Run.extract rfl rfl) (je (Run.extract rfl rfl) ?_))
 refine Ops.m (qZ.alloc dP) rfl ?_
 rintro _ w3 ⟨rfl, hF3⟩
 refine Ops.st (qS.storeA rfl rfl zk hF3.blk rfl (dY _ _ _)) ?_
 rintro w4 ⟨hb5, hf4, hs4⟩
 have k24 : Frm [] w2 w4 := hF3.frm.own hf4 jp
 have hb5 : Blk w4 w2.heap.size 56 (spV (d.has.length - 42) SB sc) := hb5
 refine ja rfl (jO (jN (jv2 0 5 ?_)))
 refine jS (jR (jM ?_))
 refine Ops.m (qZ.makeMap (k := 35) (enc := eU)) rfl ?_
 rintro _ w5 ⟨rfl, hmp, hf5, hs5⟩
 have k14 : Frm [] w1 w4 := hf2.trans k24 jp
 have q14 := k14.size
 generalize hgm : w4.heap.size = m at *
 refine je (Run.loadA rfl zag zk ((hb5.frm hf5 jp).cells) (by first | rfl | (simp; done))) (je (Run.build (evs.cons rfl (evs.cons rfl (evs.cons rfl evs.nil))) qJk (tH).choose_spec.1 (tH).choose_spec.2 (cells := #[.pointer (some ⟨g, 0, none⟩), .slice none 0 0, .slice none 0 0, .map (some m), .int .i64 ((d.has.length - 42 : Nat) : Int), .slice SB ((d.has.length - 42 + 7) / 8) sc]) rfl) ?_)
 refine Ops.m (qZ.box rfl) rfl ?_
 rintro _ w6 ⟨rfl, hF6⟩
 have hb7 : Blk w6 w5.heap.size 62 #[.pointer (some ⟨g, 0, none⟩), .slice none 0 0, .slice none 0 0, .map (some m), .int .i64 ((d.has.length - 42 : Nat) : Int), .slice SB ((d.has.length - 42 + 7) / 8) sc] := hF6.blk
 have k16 : Frm [] w1 w6 := (k14.trans hf5 jp).trans hF6.frm jp
 have hF1l := hD1.lt
 have hSl := hrS.lt (jo : 0 < (d.has.length - 42 + 7) / 8)
 have ks2 := hf2.size
 have ks24 := k24.size
 generalize hgh : w5.heap.size = h at *
 have hH : IsHt w6 h g F1 (bC (bR d).2) ⟨none, 0, none, 0, m, SB, sc, fun _ => none⟩ := by
  refine ⟨xC jo jo hwl2, hD1.frm k16 jp, fun hx => by have := hF1l _ hx; omega, by rw [hN]; exact hb7, ⟨Rd.nil _ _ _, fun h0 => absurd h0 (zby 0)⟩, zm _, ⟨Rd.nil _ _ _, fun h0 => absurd h0 (zby 0)⟩, hmp.frm hF6.frm jp, fun hx => ?_, (fun id x hx => by cases hx), (fun x hx => by cases hx), ?_⟩
  ·
   rcases zl.1 hx with hx | hx
   ·
    have := hmp.lt
    dsimp only at hx
    omega
   have := hF1l _ hx
   dsimp only at this
   omega
  rw [hN]
  refine ⟨((hrS.frm k24 jp).frm hf5 jp).frm hF6.frm jp, fun h0 y hy => ?_⟩
  have h1 := hSl y hy
  have h2 := hupS y hy
  have h3 := hF6.size
  have h4 := hmp.lt
  refine ⟨jo, fun hx => ?_⟩
  rcases zl.1 hx with hx | hx
  · omega
  have := hF1l _ hx; omega
 refine ja rfl (jO (jN (jv1 7 ?_)))
 refine jS (jS (jR (jM ?_)))
 refine Ops.cl (jE2 Try.call7) (kL none 0 0 [] h g F1 (bC (bR d).2) _ w6 hH jo (RdC.nil w6) hmk hok') rfl ?_
 rintro e w7 ⟨F', q', rfl, hH', hk7⟩
 refine ⟨_, rfl, ?_⟩
 rw [show chL [] = [] from rfl] at hH' ⊢
 rw [hb0]
 refine ja rfl (jO (jN (jv2 7 8 ?_)))
 refine jS (jR (jm rfl (jb rfl rfl (Bin.neqN _ 0) (jO (jN (jv3 7 8 31 ?_))))))
 refine VC.condF rfl jp ?_
 refine jQ (jN (jv1 7 ?_))
 refine jS (jR (jm rfl (ja rfl (jz 0 (jO (jN (jv2 2 3 ?_)))))))
 refine jT ?_
 refine dC rfl rfl ?_
 refine ⟨h, F', q', rfl, hH', ?_⟩
 have k1 : Fk F w w6 F1 := hk1.frm k16 jp
 refine ⟨k1.1.trans hk7.1 (fun x hx => ?_), fun x hx => ?_⟩
 ·
  rcases zl.1 hx with rfl | hx
  · right; have := hk1.1.size; have := hmp.lt; omega
  exact k1.2 x hx
 rcases hk7.2 x hx with h1 | h1
 ·
  rcases zl.1 h1 with rfl | h1
  · right; have := hk1.1.size; omega
  exact k1.2 x h1
 right; have := k1.1.size; omega
end
section
open Go.RowKit
theorem sP (N : Nat) : ∀ (l : List Nat) (U : Nat → Bool), (∀ p ∈ l, p < N) → l.Nodup → (∀ p ∈ l, U p = false) → ∃ V, bG N U l = some V ∧ ∀ p, V p = (U p || decide (p ∈ l))
 | [], U, _, _, _ => ⟨U, rfl, fun p => jp⟩
 | x :: r, U, h1, h2, h3 => by
  obtain ⟨h4, h5⟩ := List.nodup_cons.1 h2
  have hx : x < N ∧ U x = false := ⟨h1 x jp, h3 x jp⟩
  obtain ⟨V, hV, hp⟩ := sP N r (dQ U x) (fun p hp => h1 p (by simp [hp])) h5 (fun p hp => by
   unfold dQ
   rw [if_neg (fun e : p = x => h4 (e ▸ hp))]
   exact h3 p (by simp [hp]))
  refine ⟨V, by rw [bG, if_pos hx]; exact hV, fun p => ?_⟩
  rw [hp p]
  unfold dQ
  by_cases e : p = x
  · simp [e]
  simp [e]
theorem vJ (N : Nat) : ∀ (l : List Nat) (U : Nat → Bool), (∀ p ∈ l, p < N) → l.Nodup → (∀ p ∈ l, U p = false) → ∀ V, (∀ p, p < N → V p = (U p || decide (p ∈ l))) → cntS N V = cntS N U + l.length
 | [], U, _, _, _, V, hV => by
  unfold cntS
  rw [List.length_nil, Nat.add_zero]
  exact zfi fun p hp => by rw [hV p (List.mem_range.1 hp)]; simp
 | x :: r, U, h1, h2, h3, V, hV => by
  obtain ⟨h4, h5⟩ := List.nodup_cons.1 h2
  have h6 := vJ N r (dQ U x) (fun p hp => h1 p (by simp [hp])) h5 (fun p hp => by
   unfold dQ
   rw [if_neg (fun e : p = x => h4 (e ▸ hp))]
   exact h3 p (by simp [hp])) V (fun p hp => by
    rw [hV p hp]
    unfold dQ
    by_cases e : p = x
    · simp [e]
    simp [e])
  rw [h6, qXs N U (h1 x jp) (h3 x jp), zz]
  omega
abbrev Nw := Nat × List Nat × List Nat
def bT : List Ch → List Nat → List Nw
 | [], _ => []
 | c :: r, fr => if c.2.2 then bT r fr else (c.1, c.2.1, fr.take (needsM c.2.1.length)) :: bT r (fr.drop (needsM c.2.1.length))
def kP (l : List Ch) : Prop := ∀ x ∈ l, x.2.2 = true → x.2.1.length = 0
theorem kR (c : Ch) (l : List Ch) : sumN (c :: l) = needsM c.2.1.length + sumN l := by simp [sumN]
theorem kO : ∀ (l : List Ch) (fr : List Nat), kP l → sumN l ≤ fr.length → (bT l fr).flatMap (·.2.2) = fr.take (sumN l)
 | [], fr, _, _ => by simp [bT, sumN]
 | c :: r, fr, h, hs => by
  have hr : kP r := fun x hx => h x (by simp [hx])
  rw [kR] at hs ⊢
  rw [bT]
  split
  ·
   next hg =>
   have hz : needsM c.2.1.length = 0 := by rw [h c jp hg]; rfl
   rw [hz, zbe, kO r fr hr jo]
  rw [zau, kO r _ hr (by rw [zj]; omega), List.take_add]
theorem kS : ∀ (l : List Ch) (fr : List Nat), (bT l fr).map (fun e => (e.1, e.2.1)) = (l.filter fun c => ! c.2.2).map fun c => (c.1, c.2.1)
 | [], fr => rfl
 | c :: r, fr => by
  rw [bT]
  split
  · next hg => rw [kS r fr, zdd (by simp [hg])]
  next hg => rw [zay, kS r _, zea (by simpa using hg), zay]
theorem nY : ∀ (l : List Ch) (fr : List Nat), kP l → sumN l ≤ fr.length → ∀ e ∈ bT l fr, e.2.2.length = needsM e.2.1.length
 | [], fr, _, _ => fun e he => by cases he
 | c :: r, fr, h, hs => fun e he => by
  have hr : kP r := fun x hx => h x (by simp [hx])
  rw [kR] at hs
  rw [bT] at he
  split at he
  · exact nY r fr hr jo e he
  rcases zl.1 he with rfl | he
  · dsimp only; rw [zi]; omega
  exact nY r _ hr (by rw [zj]; omega) e he
theorem nG {l : List Ch} {fr : List Nat} {e : Nw} (h : e ∈ bT l fr) : ∃ c ∈ l, c.2.2 = false ∧ c.1 = e.1 ∧ c.2.1 = e.2.1 := by
 have h1 : (e.1, e.2.1) ∈ (bT l fr).map (fun e => (e.1, e.2.1)) := List.mem_map.2 ⟨e, h, rfl⟩
 rw [kS] at h1
 obtain ⟨c, hc, he⟩ := List.mem_map.1 h1
 obtain ⟨h2, h3⟩ := List.mem_filter.1 hc
 injection he with e1 e2
 exact ⟨c, h2, by simpa using h3, e1, e2⟩
theorem kT : ∀ (l : List Ch) (x : Dw), (l.map (·.1)).Nodup → kP l → sumN l ≤ x.free.length →
  (l.foldl bU x).puts = x.puts ++ (bT l x.free).flatMap (fun e => cB e.2.1 e.2.2) ∧ (l.foldl bU x).free = x.free.drop (sumN l) ∧
  (∀ y, y ∈ (l.foldl bU x).pairs ↔ (y ∈ x.pairs ∧ y.1 ∉ l.map (·.1)) ∨ ∃ e ∈ bT l x.free, y = bE e.1 e.2.1 e.2.2) ∧
  (∀ id, id ∉ l.map (·.1) → (l.foldl bU x).lies id = x.lies id) ∧ (∀ e ∈ bT l x.free, (l.foldl bU x).lies e.1 = e.2.2)
 | [], x, _, _, _ => by simp [bT, sumN]
 | c :: r, x, hn, hg, hs => by
  rw [zay, List.nodup_cons] at hn
  obtain ⟨hn1, hn2⟩ := hn
  have hr : kP r := fun x hx => hg x (by simp [hx])
  rw [kR] at hs
  rw [zdi, kR]
  cases hc : c.2.2 with
  | true =>
   have hz : needsM c.2.1.length = 0 := by rw [hg c jp hc]; rfl
   have hst : bU x c = { x with pairs := bH x.pairs c.1 ++ bQ x.pairs c.1 } := by unfold bU; rw [if_pos hc]
   have hnw : bT (c :: r) x.free = bT r x.free := by rw [bT, if_pos hc]
   obtain ⟨i1, i2, i3, i4, i5⟩ := kT r (bU x c) hn2 hr (by rw [hst]; dsimp only; omega)
   rw [hst] at i1 i2 i3 i4 i5 ⊢
   dsimp only at i1 i2 i3 i4 i5
   rw [hnw, hz, zbe]
   refine ⟨i1, i2, fun y => ?_, fun id hid => ?_, i5⟩
   ·
    rw [i3 y]
    simp only [zbs, bH, bQ, List.mem_filter, decide_eq_true_eq, zay, zl, not_or]
    constructor
    ·
     rintro (⟨h1 | h1, h2⟩ | h)
     · exact .inl ⟨h1.1, jo, h2⟩
     · exact .inl ⟨h1.1, jo, h2⟩
     exact .inr h
    rintro (⟨h1, h2, h3⟩ | h)
    ·
     rcases zcw h2 with h | h
     · exact .inl ⟨.inl ⟨h1, h⟩, h3⟩
     exact .inl ⟨.inr ⟨h1, h⟩, h3⟩
    exact .inr h
   rw [zay, zl, not_or] at hid
   exact i4 id hid.2
  | false =>
   have hst : bU x c = { puts := x.puts ++ cB c.2.1 (x.free.take (needsM c.2.1.length)), pairs := bH x.pairs c.1 ++ bE c.1 c.2.1 (x.free.take (needsM c.2.1.length)) :: bQ x.pairs c.1, free := x.free.drop (needsM c.2.1.length), lies := fun y => if y = c.1 then x.free.take (needsM c.2.1.length) else x.lies y } := by unfold bU; rw [if_neg (by simp [hc])]
   have hnw : bT (c :: r) x.free = (c.1, c.2.1, x.free.take (needsM c.2.1.length)) :: bT r (x.free.drop (needsM c.2.1.length)) := by rw [bT, if_neg (by simp [hc])]
   obtain ⟨i1, i2, i3, i4, i5⟩ := kT r (bU x c) hn2 hr (by rw [hst]; dsimp only; rw [zj]; omega)
   rw [hst] at i1 i2 i3 i4 i5 ⊢
   dsimp only at i1 i2 i3 i4 i5
   rw [hnw]
   refine ⟨?_, ?_, fun y => ?_, fun id hid => ?_, fun e he => ?_⟩
   · rw [i1, zau, zad]
   · rw [i2, List.drop_drop]
   ·
    rw [i3 y]
    simp only [zbs, bH, bQ, List.mem_filter, decide_eq_true_eq, zay, zl, not_or, exists_eq_or_imp]
    constructor
    ·
     rintro (⟨h1 | h1 | h1, h2⟩ | h)
     · exact .inl ⟨h1.1, jo, h2⟩
     · exact .inr (.inl h1)
     · exact .inl ⟨h1.1, jo, h2⟩
     exact .inr (.inr h)
    rintro (⟨h1, h2, h3⟩ | h | h)
    ·
     rcases zcw h2 with h | h
     · exact .inl ⟨.inl ⟨h1, h⟩, h3⟩
     exact .inl ⟨.inr (.inr ⟨h1, h⟩), h3⟩
    ·
     refine .inl ⟨.inr (.inl h), ?_⟩
     rw [h]
     exact hn1
    exact .inr h
   ·
    rw [zay, zl, not_or] at hid
    rw [i4 id hid.2, if_neg hid.1]
   rcases zl.1 he with rfl | he
   · rw [i4 _ hn1, if_pos rfl]
   exact i5 e he
end
section
open Go.RowKit
structure Pow (d : Dk) : Prop where
 off : d.off = false
 bud : d.bud = -1
theorem Pow.fails {d : Dk} (h : Pow d) : ¬ d.fails := fun hf => by
 rcases hf with hf | hf
 · rw [h.off] at hf; cases hf
 rw [h.bud] at hf; omega
theorem Pow.less {d : Dk} (h : Pow d) : d.less = d := by
 unfold Dk.less
 rw [if_neg (by rw [h.bud]; omega)]
def vK (n : Nat) : Stp → Prop
 | .wr i b => i < n ∧ b.length = 128
 | .fl => True
def cN (f : Nat → List Nat) : List Stp → Nat → List Nat
 | [] => f
 | .wr i b :: r => cN (fun j => if j = i then b else f j) r
 | .fl :: r => cN f r
theorem gV : ∀ (a b : List Stp) (f : Nat → List Nat), cN f (a ++ b) = cN (cN f a) b
 | [], b, f => rfl
 | .wr i x :: a, b, f => by rw [zbu, cN, cN, gV a b]
 | .fl :: a, b, f => by rw [zbu, cN, cN, gV a b]
theorem sR : ∀ (r : List (Nat × List Nat)) (k : Nat) (h : List (List Nat)) (j : Nat), j < h.length → (bL (fun _ => true) k h r).getD j [] = (cP j r).getD (h.getD j [])
 | [], _, h, j, _ => rfl
 | (a, b) :: r, k, h, j, hj => by
  rw [bL, if_pos rfl, sR r (k + 1) (h.set a b) j (by rw [List.length_set]; exact hj), cP]
  cases cP j r with
  | some s => rfl
  | none =>
   show (h.set a b).getD j [] = _
   rw [zc, List.getElem?_set]
   by_cases e : a = j
   ·
    subst e
    rw [if_pos rfl, if_pos hj, if_pos rfl]
    rfl
   rw [if_neg e, if_neg e, zc]
   rfl
theorem lS : ∀ (l : List Stp) {d : Dk}, Pow d → (∀ s ∈ l, vK d.has.length s) → (bV d l).1 = 0 ∧ Pow (bV d l).2 ∧ ∀ j, j < d.has.length → (bV d l).2.sec j = cN d.sec l j
 | [], d, h, _ => ⟨rfl, h, fun j _ => rfl⟩
 | .wr i b :: r, d, h, hf => by
  have h1 : i < d.has.length ∧ b.length = 128 := hf (.wr i b) jp
  have hw : d.write i b = (0, { d with wts := d.wts ++ [(i, b)] }) := by
   unfold Dk.write
   rw [if_neg (not_not_intro h1.1), if_neg (by simp [h1.2]), if_neg h.fails, h.less]
  have hs : (fun j => ({ d with wts := d.wts ++ [(i, b)] } : Dk).sec j) = fun j => if j = i then b else d.sec j := by
   funext j
   unfold Dk.sec
   dsimp only
   rw [fN]
   by_cases e : i = j
   · rw [if_pos e, if_pos e.symm]; rfl
   rw [if_neg e, if_neg (Ne.symm e)]
  obtain ⟨i1, i2, i3⟩ := lS r (d := { d with wts := d.wts ++ [(i, b)] }) ⟨h.off, h.bud⟩ (fun s hs => hf s (by simp [hs]))
  have hr : bV d (.wr i b :: r) = bV { d with wts := d.wts ++ [(i, b)] } r := by
   rw [bV]
   show (if (d.write i b).1 ≠ 0 then _ else bV (d.write i b).2 r) = _
   rw [hw, if_neg jp]
  rw [hr]
  refine ⟨i1, i2, fun j hj => ?_⟩
  rw [i3 j hj, cN]
  exact congrArg (fun f => cN f r j) hs
 | .fl :: r, d, h, hf => by
  have hw : d.flush = (0, { d with has := bL (fun _ => true) 0 d.has d.wts, wts := [] }) := by
   unfold Dk.flush
   rw [if_neg h.fails, h.less]
  have hl : (bL (fun _ => true) 0 d.has d.wts).length = d.has.length := gW _ _ _ _
  obtain ⟨i1, i2, i3⟩ := lS r (d := { d with has := bL (fun _ => true) 0 d.has d.wts, wts := [] }) ⟨h.off, h.bud⟩ (fun s hs => by dsimp only; rw [hl]; exact hf s (by simp [hs]))
  have hr : bV d (.fl :: r) = bV { d with has := bL (fun _ => true) 0 d.has d.wts, wts := [] } r := by
   rw [bV]
   show (if d.flush.1 ≠ 0 then _ else bV d.flush.2 r) = _
   rw [hw, if_neg jp]
  rw [hr]
  have key : ∀ (r : List Stp) (f f' : Nat → List Nat) (n : Nat), (∀ j, j < n → f j = f' j) → ∀ j, j < n → cN f r j = cN f' r j := by
   intro r
   induction r with
   | nil => intro f f' n hff j hj; exact hff j hj
   | cons s r ih =>
    intro f f' n hff j hj
    cases s with
    | wr i b => exact ih _ _ n (fun k hk => by split; rfl; exact hff k hk) j hj
    | fl => exact ih _ _ n hff j hj
  refine ⟨i1, i2, fun j hj => ?_⟩
  rw [i3 j (by dsimp only; rw [hl]; exact hj), cN]
  refine key r _ _ d.has.length (fun k hk => ?_) j hj
  show ((cP k []).getD ((bL (fun _ => true) 0 d.has d.wts).getD k [])) = _
  rw [sR _ _ _ _ hk]
  rfl
theorem eO : ∀ (l : List Stp) (f : Nat → List Nat) (j : Nat), (∀ i b, Stp.wr i b ∈ l → i ≠ j) → cN f l j = f j
 | [], _, _, _ => rfl
 | .wr i b :: r, f, j, h => by
  rw [cN, eO r _ j (fun a c hc => h a c (by simp [hc])), if_neg (Ne.symm (h i b jp))]
 | .fl :: r, f, j, h => by rw [cN, eO r _ j (fun a c hc => h a c (by simp [hc]))]
theorem mH : ∀ (l : List Pu) (f : Nat → List Nat) (x : Pu), (l.map (·.1)).Nodup → x ∈ l → cN f (l.map fun x => Stp.wr x.1 x.2) x.1 = x.2
 | y :: l, f, x, hn, hx => by
  rw [zay, List.nodup_cons] at hn
  rw [zay, cN]
  rcases zl.1 hx with rfl | hx
  ·
   rw [eO _ _ _ (fun i b hb e => by
    obtain ⟨z, hz, he⟩ := List.mem_map.1 hb
    injection he with e1 e2
    exact hn.1 (List.mem_map.2 ⟨z, hz, e1.trans e⟩)), if_pos rfl]
  exact mH l _ x hn.2 hx
theorem rV : ∀ (l : List Pu) (k i : Nat) (b : List Nat), Stp.wr i b ∈ dD k l → (1 + k ≤ i ∧ i < 1 + k + l.length) ∧ ∃ x ∈ l, x.2 = b
 | y :: l, k, i, b, h => by
  rw [dD] at h
  rcases zl.1 h with h | h
  ·
   injection h with e1 e2
   subst e1 e2
   exact ⟨⟨zm _, by rw [zz]; omega⟩, y, jp, rfl⟩
  obtain ⟨h1, x, hx, hb⟩ := rV l (k + 1) i b h
  exact ⟨⟨jo, by rw [zz]; omega⟩, x, by simp [hx], hb⟩
theorem pS {l : List Pu} {n : Nat} (h : cH l n) (hn : 41 < n) : ∀ s ∈ cS l, vK n s := fun s hs => by
 obtain ⟨⟨h1, h2⟩, h3, h4⟩ := h
 have hhd : vK n (.wr 0 (eP l)) := ⟨jo, rU h2⟩
 have hno : vK n (.wr 0 (noM 128)) := ⟨jo, by simp [noM]⟩
 simp only [cS, fK, zbs, zl, zu, or_false] at hs
 rcases hs with (hs | rfl | rfl | rfl) | hs | rfl | rfl | rfl
 ·
  cases s with
  | fl => trivial
  | wr i b =>
   obtain ⟨h5, x, hx, rfl⟩ := rV l 0 i b hs
   exact ⟨jo, (h3 x hx).2⟩
 · trivial
 · exact hhd
 · trivial
 ·
  obtain ⟨x, hx, rfl⟩ := List.mem_map.1 hs
  exact ⟨(h3 x hx).1.2, (h3 x hx).2⟩
 · trivial
 · exact hno
 trivial
theorem qQt {d : Dk} {l : List Pu} (h : Pow d) (hn : 41 < d.has.length) (hm : cH l d.has.length) :
  (bX d l).1 = 0 ∧ Pow (bX d l).2 ∧ (bX d l).2.wts = [] ∧ (∀ x ∈ l, (bX d l).2.sec x.1 = x.2) ∧ ∀ j, 41 ≤ j → j < d.has.length → j ∉ l.map (·.1) → (bX d l).2.sec j = d.sec j := by
 have he : bX d l = bV d (cS l) := by unfold bX; rw [if_neg (fun hx => by rcases hx with hx | hx; omega; exact hx hm)]
 obtain ⟨r1, r2, r3⟩ := lS (cS l) h (pS hm hn)
 have hsec : ∀ j, 41 ≤ j → cN d.sec (cS l) j = cN d.sec (l.map fun x => Stp.wr x.1 x.2) j := fun j hj => by
  have e1 : ∀ (f : Nat → List Nat), cN f (dD 0 l ++ [.fl, .wr 0 (eP l), .fl]) j = f j := fun f => eO _ _ _ (fun i b hb => by
   rcases zbs.1 hb with hb | hb
   ·
    obtain ⟨h5, _⟩ := rV l 0 i b hb
    have := hm.1.2
    omega
   simp only [zl, zu, or_false, reduceCtorEq, false_or, or_false] at hb
   injection hb with e2 e3
   omega)
  have e2 : ∀ (f : Nat → List Nat), cN f [.fl, .wr 0 (noM 128), .fl] j = f j := fun f => eO _ _ _ (fun i b hb => by
   simp only [zl, zu, or_false, reduceCtorEq, false_or, or_false] at hb
   injection hb with e2 e3
   omega)
  rw [cS, fK, gV, gV, e2]
  by_cases hj2 : j ∈ l.map (·.1)
  ·
   obtain ⟨x, hx, rfl⟩ := List.mem_map.1 hj2
   rw [mH l _ x hm.2.2 hx, mH l _ x hm.2.2 hx]
  have off : ∀ (f : Nat → List Nat), cN f (l.map fun x => Stp.wr x.1 x.2) j = f j := fun f => eO _ _ _ (fun i b hb e => by
   obtain ⟨z, hz, he⟩ := List.mem_map.1 hb
   injection he with e1 e2
   exact hj2 (List.mem_map.2 ⟨z, hz, e1.trans e⟩))
  rw [off, off, e1]
 have hw : (bV d (cS l)).2.wts = [] := by
  have e : cS l = (dD 0 l ++ [.fl, .wr 0 (eP l), .fl] ++ (l.map (fun x => Stp.wr x.1 x.2) ++ [.fl, .wr 0 (noM 128)])) ++ [.fl] := by simp [cS, fK]
  obtain ⟨q1, q2, _⟩ := lS (dD 0 l ++ [.fl, .wr 0 (eP l), .fl] ++ (l.map (fun x => Stp.wr x.1 x.2) ++ [.fl, .wr 0 (noM 128)])) h (fun s hs => pS hm hn s (by rw [e]; exact zdp _ hs))
  rw [e, kJ _ _ _ q1]
  show ((bV d _).2.flush).2.wts = []
  unfold Dk.flush
  rw [if_neg q2.fails]
 rw [he]
 refine ⟨r1, r2, hw, fun x hx => ?_, fun j hj hjn hjl => ?_⟩
 ·
  have := (hm.2.1 x hx).1
  rw [r3 _ this.2, hsec _ this.1, mH l _ x hm.2.2 hx]
 rw [r3 j hjn, hsec j hj]
 exact eO _ _ _ (fun i b hb e => by
  obtain ⟨z, hz, he⟩ := List.mem_map.1 hb
  injection he with e1 e2
  exact hjl (List.mem_map.2 ⟨z, hz, e1.trans e⟩))
end
section
open Go.RowKit
structure InvH (H : Hm) (B : Nat → List Nat) : Prop where
 ok : H.ok
 pow : Pow H.dk
 wts : H.dk.wts = []
 dnod : H.dir.Nodup
 lnod : ∀ x ∈ H.pairs, (H.lies x.1).Nodup
 dl : ∀ x ∈ H.pairs, ∀ p ∈ H.lies x.1, p ∉ H.dir
 ll : ∀ x ∈ H.pairs, ∀ y ∈ H.pairs, x.1 ≠ y.1 → ∀ p ∈ H.lies x.1, p ∉ H.lies y.1
 used : ∀ p, p < H.N → H.used p = decide (p ∈ bM H)
 blob : ∀ x ∈ H.pairs, x = bE x.1 (B x.1) (H.lies x.1) ∧ (H.lies x.1).length = needsM (B x.1).length ∧ (B x.1).length ≤ 4032 ∧ (∀ b ∈ B x.1, b < 256) ∧ ∀ i, i < (H.lies x.1).length → H.dk.sec (42 + (H.lies x.1).getD i 0) = cC (B x.1) (H.lies x.1) i
theorem nH (H : Hm) (p : Nat) : p ∈ bM H ↔ p ∈ H.dir ∨ ∃ x ∈ H.pairs, p ∈ H.lies x.1 := by
 unfold bM cW
 rw [zbs, List.mem_flatMap]
theorem oK {H : Hm} (hs : Srt H.pairs) (h1 : H.dir.Nodup) (h2 : ∀ x ∈ H.pairs, (H.lies x.1).Nodup) (h3 : ∀ x ∈ H.pairs, ∀ p ∈ H.lies x.1, p ∉ H.dir) (h4 : ∀ x ∈ H.pairs, ∀ y ∈ H.pairs, x.1 ≠ y.1 → ∀ p ∈ H.lies x.1, p ∉ H.lies y.1) : (bM H).Nodup := by
 unfold bM cW
 rw [zdn]
 refine ⟨h1, ?_, fun a ha b hb e => ?_⟩
 ·
  rw [zcu, List.pairwise_flatMap]
  refine ⟨fun x hx => zcu.1 (h2 x hx), ?_⟩
  refine (List.Pairwise.and_mem.1 hs).imp (fun ⟨ha, hb, hlt⟩ p hp q hq e => ?_)
  subst e
  exact h4 _ ha _ hb jo p hp hq
 subst e
 obtain ⟨x, hx, hp⟩ := List.mem_flatMap.1 hb
 exact h3 x hx a hp ha
theorem qQu (D pg : List Nat) : (cB D pg).map (·.1) = pg.map (42 + ·) := by
 unfold cB gN
 rw [zcp]
 apply List.ext_getElem
 · simp
 intro i h1 h2
 simp at h1 h2
 simp [zc, h1]
theorem qZ9 (dir : List Nat) (ps : List (List Nat)) : (cK dir ps dir.length).map (·.1) = dir.map (42 + ·) := by
 unfold cK
 rw [zcp]
 apply List.ext_getElem
 · simp
 intro i h1 h2
 simp at h1 h2
 simp [zc, h1]
theorem qQv (D pg : List Nat) {i : Nat} (h : i < pg.length) : (42 + pg.getD i 0, cC D pg i) ∈ cB D pg := List.mem_map.2 ⟨i, List.mem_range.2 h, rfl⟩
theorem vV (l : List Nw) : (l.flatMap fun e => cB e.2.1 e.2.2).map (·.1) = (l.flatMap (·.2.2)).map (42 + ·) := by
 rw [List.map_flatMap, List.map_flatMap]
 congr 1
 funext e
 exact qQu _ _
def dN (B : Nat → List Nat) (l : List Ch) : Nat → List Nat := fun id => match l.find? (fun c => decide (c.1 = id) && ! c.2.2) with
 | some c => c.2.1
 | none => B id
theorem qZj : ∀ {l : List Ch}, (l.map (·.1)).Nodup → ∀ {c d : Ch}, c ∈ l → d ∈ l → c.1 = d.1 → c = d
 | a :: r, hn, c, d, hc, hd, h => by
  rw [zay, List.nodup_cons] at hn
  rcases zl.1 hc with e1 | hc1
  ·
   rcases zl.1 hd with e2 | hd1
   · rw [e1, e2]
   rw [e1] at h
   exact absurd (List.mem_map.2 ⟨d, hd1, h.symm⟩) hn.1
  rcases zl.1 hd with e2 | hd1
  ·
   rw [e2] at h
   exact absurd (List.mem_map.2 ⟨c, hc1, h⟩) hn.1
  exact qZj hn.2 hc1 hd1 h
theorem oU {B : Nat → List Nat} {l : List Ch} (hn : (l.map (·.1)).Nodup) {c : Ch} (hc : c ∈ l) (hg : c.2.2 = false) : dN B l c.1 = c.2.1 := by
 unfold dN
 cases hf : l.find? (fun d => decide (d.1 = c.1) && ! d.2.2) with
 | none =>
  have := List.find?_eq_none.1 hf c hc
  simp [hg] at this
 | some d =>
  have h1 := List.find?_some hf
  have h2 := List.mem_of_find?_eq_some hf
  simp at h1
  show d.2.1 = c.2.1
  rw [qZj hn h2 hc h1.1]
theorem vW {B : Nat → List Nat} {l : List Ch} {id : Nat} (h : id ∉ l.map (·.1)) : dN B l id = B id := by
 unfold dN
 cases hf : l.find? (fun d => decide (d.1 = id) && ! d.2.2) with
 | none => rfl
 | some d =>
  have h1 := List.find?_some hf
  have h2 := List.mem_of_find?_eq_some hf
  simp at h1
  exact absurd (List.mem_map.2 ⟨d, h2, h1.1⟩) h
theorem sS : ∀ {l : List Nw}, (l.flatMap (·.2.2)).Nodup → (∀ e ∈ l, e.2.2.Nodup) ∧ ∀ e ∈ l, ∀ e' ∈ l, e.1 ≠ e'.1 → ∀ p ∈ e.2.2, p ∉ e'.2.2
 | [], _ => ⟨fun e he => (by cases he), fun e he => (by cases he)⟩
 | a :: r, h => by
  rw [zau, zdn] at h
  obtain ⟨h1, h2, h3⟩ := h
  obtain ⟨i1, i2⟩ := sS h2
  refine ⟨fun e he => ?_, fun e he e' he' hne p hp hp' => ?_⟩
  ·
   rcases zl.1 he with e1 | he1
   · rw [e1]; exact h1
   exact i1 e he1
  rcases zl.1 he with e1 | he1
  ·
   rcases zl.1 he' with e2 | he2
   · exact hne (by rw [e1, e2])
   rw [e1] at hp
   exact h3 p hp p (List.mem_flatMap.2 ⟨e', he2, hp'⟩) rfl
  rcases zl.1 he' with e2 | he2
  ·
   rw [e2] at hp'
   exact h3 p hp' p (List.mem_flatMap.2 ⟨e, he1, hp⟩) rfl
  exact i2 e he1 e' he2 hne p hp hp'
theorem nM (id : Nat) (D pg : List Nat) (h : D.length ≤ 4032) (hp : ∀ p ∈ pg, p < 2048) : nK (bE id D pg) = D.length ∧ (bE id D pg).2 / 4294967296 = crcM D ∧ (bE id D pg).2 < 18446744073709551616 := by
 have hc := lW D
 have ha : atP pg ≤ 2048 := by
  unfold atP
  split
  · omega
  have := hp _ (bD (jo : 0 < pg.length)); omega
 unfold nK bE
 dsimp only
 refine ⟨jo, jo, jo⟩
theorem jI {H : Hm} {B : Nat → List Nat} {l : List Ch} (h : InvH H B) (hm : bF l) (hb : ∀ c ∈ l, c.1 < 18446744073709551616 ∧ ∀ b ∈ c.2.1, b < 256) (hp : cV H l ≤ 600) (hn : qO H l ≤ 39) (hf : qO H l ≤ H.N - cntS H.N H.used) :
  (bX H.dk (bJ H l).puts).1 = 0 ∧ (H.plan (bX H.dk (bJ H l).puts).2 (bJ H l)).ok ∧ (∃ U, bG H.N (fun _ => false) (bM (H.plan (bX H.dk (bJ H l).puts).2 (bJ H l))) = some U) ∧ InvH (H.plan (bX H.dk (bJ H l).puts).2 (bJ H l)).count (dN B l) ∧
   (∀ x, x ∈ (bJ H l).pairs ↔ (x ∈ H.pairs ∧ x.1 ∉ l.map (·.1)) ∨ ∃ e ∈ bT l ((bZ H.N H.used).take (qO H l)), x = bE e.1 e.2.1 e.2.2) ∧ (bJ H l).dir.length = pagesM (bJ H l).pairs.length := by
 obtain ⟨fr, hfr⟩ : ∃ fr, fr = (bZ H.N H.used).take (qO H l) := ⟨_, rfl⟩
 obtain ⟨D, hD⟩ : ∃ D, D = qF H l fr := ⟨_, rfl⟩
 have hP : bJ H l = qL D := by rw [hD, hfr]; rfl
 rw [← hfr, hP]
 have hsz := h.ok.sz
 have hbg := h.ok.big
 have hNe : H.N = H.dk.has.length - 42 := rfl
 have gz : kP l := fun x hx hg => (hm.2 x hx).2 hg
 have hcl := lG H.N H.used
 have hfl : fr.length = qO H l := by rw [hfr, zi, kY]; omega
 have hrn : D.pairs.length = cV H l := by rw [hD]; exact sO _ _ _ _
 have htl : (bW D.pairs).length = pagesM (cV H l) := by rw [mL, hrn]
 have hbe : qO H l = sumN l + (bW D.pairs).length := by unfold qO pagesT; rw [if_pos hp, htl]
 obtain ⟨f1, f2, f3, f4, f5⟩ := kT l ⟨[], H.pairs, fr, H.lies⟩ hm.1 gz (by dsimp only; omega)
 rw [show l.foldl bU ⟨[], H.pairs, fr, H.lies⟩ = D from hD.symm] at f1 f2 f3 f4 f5
 dsimp only at f1 f2 f3 f4 f5
 rw [zam] at f1
 have hnp := kO l fr gz jo
 have hnl := nY l fr gz jo
 have hdir : (qL D).dir = fr.drop (sumN l) := by
  unfold qL
  dsimp only
  rw [f2, zf (by rw [zj]; omega)]
 have hdl : (qL D).dir.length = (bW D.pairs).length := by rw [hdir, zj]; omega
 have frn : fr.Nodup := by rw [hfr]; exact ((List.nodup_range).sublist zdf).sublist (List.take_sublist _ _)
 have frf : ∀ p ∈ fr, p < H.N ∧ p ∉ bM H := fun p hp => by
  rw [hfr] at hp
  obtain ⟨h1, h2⟩ := List.mem_filter.1 (zr hp)
  have h1 := List.mem_range.1 h1
  refine ⟨h1, fun hw => ?_⟩
  rw [h.used p h1, decide_eq_true hw] at h2
  cases h2
 have hnod : (fr.take (sumN l) ++ fr.drop (sumN l)).Nodup := by rw [zbk]; exact frn
 obtain ⟨tn1, tn2, tn3⟩ := zdn.1 hnod
 rw [← hnp] at tn1 tn3
 obtain ⟨en1, en2⟩ := sS tn1
 have enf : ∀ e ∈ bT l fr, ∀ p ∈ e.2.2, p ∈ fr ∧ p ∉ fr.drop (sumN l) := fun e he p hp => by
  have hpt : p ∈ (bT l fr).flatMap (·.2.2) := List.mem_flatMap.2 ⟨e, he, hp⟩
  refine ⟨?_, fun hd => tn3 p hpt p hd rfl⟩
  rw [hnp] at hpt
  exact zr hpt
 have hpairs : (qL D).pairs = D.pairs := rfl
 have hlies : (qL D).lies = D.lies := rfl
 have cls : ∀ x ∈ D.pairs, (x ∈ H.pairs ∧ D.lies x.1 = H.lies x.1 ∧ dN B l x.1 = B x.1) ∨ ∃ e ∈ bT l fr, x = bE e.1 e.2.1 e.2.2 ∧ x.1 = e.1 ∧ D.lies x.1 = e.2.2 ∧ dN B l x.1 = e.2.1 ∧ e.2.1.length ≤ 4032 ∧ (∀ b ∈ e.2.1, b < 256) ∧ e.1 < 18446744073709551616 := fun x hx => by
  rcases (f3 x).1 hx with ⟨h1, h2⟩ | ⟨e, he, rfl⟩
  · exact .inl ⟨h1, f4 _ h2, vW h2⟩
  obtain ⟨c, hc, hg, e1, e2⟩ := nG he
  refine .inr ⟨e, he, rfl, rfl, f5 e he, ?_, ?_, ?_, ?_⟩
  ·
   show dN B l e.1 = e.2.1
   rw [← e1, oU hm.1 hc hg, e2]
  · rw [← e2]; exact (hm.2 c hc).1
  · rw [← e2]; exact (hb c hc).2
  rw [← e1]; exact (hb c hc).1
 have wold : ∀ x ∈ H.pairs, ∀ p ∈ H.lies x.1, p ∈ bM H := fun x hx p hp => (nH H p).2 (.inr ⟨x, hx, hp⟩)
 have elt : ∀ e ∈ bT l fr, ∀ p ∈ e.2.2, p < 2048 := fun e he p hp => by have := (frf p (enf e he p hp).1).1; omega
 have hpos : (qL D).puts.map (·.1) = fr.map (42 + ·) ++ [41] := by
  have e1 : (qL D).puts = D.puts ++ cK (qL D).dir (bW D.pairs) (qL D).dir.length ++ [(41, bI (qL D).dir)] := by rw [hdl]; rfl
  rw [e1, zy, zy, f1, vV, hnp, qZ9, hdir, ← zy, zbk]
  rfl
 have hplen : (qL D).puts.length = qO H l + 1 := by
  have := congrArg List.length hpos
  rw [zae, zd, zae, zch, hfl] at this
  exact this
 have hokp : oR (qL D).puts := by
  have e1 : (qL D).puts = D.puts ++ cK (qL D).dir (bW D.pairs) (qL D).dir.length ++ [(41, bI (qL D).dir)] := by rw [hdl]; rfl
  rw [e1]
  refine oS (oS ?_ ?_) ?_
  ·
   rw [f1]
   intro x hx
   obtain ⟨e, he, hx⟩ := List.mem_flatMap.1 hx
   obtain ⟨c, hc, hg, e1, e2⟩ := nG he
   exact pR (by rw [← e2]; exact (hb c hc).2) (elt e he) x hx
  ·
   intro x hx
   obtain ⟨i, hi, rfl⟩ := List.mem_map.1 hx
   have hi := List.mem_range.1 hi
   have h1 := (frf ((qL D).dir.getD i 0) (by have := bD hi; rw [hdir] at this ⊢; exact zbc this)).1
   have h2 := uY D.pairs ((bW D.pairs).getD i []) (by rw [zc, zb jo]; exact zbi _)
   exact ⟨by dsimp only; omega, h2.1, h2.2⟩
  intro x hx
  rw [za] at hx
  subst hx
  exact ⟨by dsimp only; omega, gH (by rw [gC]; omega), mJ (nX _)⟩
 have hmay : cH (qL D).puts H.dk.has.length := by
  refine ⟨jo, fun x hx => ?_, ?_⟩
  ·
   have hx1 : x.1 ∈ fr.map (42 + ·) ++ [41] := by rw [← hpos]; exact List.mem_map.2 ⟨x, hx, rfl⟩
   refine ⟨?_, (hokp x hx).2.1⟩
   rcases zbs.1 hx1 with h1 | h1
   ·
    obtain ⟨p, hp, he⟩ := List.mem_map.1 h1
    have := (frf p hp).1
    omega
   rw [za] at h1; omega
  rw [hpos, zdn]
  refine ⟨?_, jp, fun a ha b hb e => ?_⟩
  ·
   rw [zcu, zfj]
   exact (zcu.1 frn).imp fun hne e => hne jo
  obtain ⟨p, _, he⟩ := List.mem_map.1 ha
  rw [za] at hb
  omega
 obtain ⟨c1, c2, c3, c4, c5⟩ := qQt h.pow jo hmay
 have hclen := eA H.dk (qL D).puts
 obtain ⟨dk', hdk⟩ : ∃ dk', dk' = (bX H.dk (qL D).puts).2 := ⟨_, rfl⟩
 rw [← hdk] at c2 c3 c4 c5 hclen ⊢
 have hN : (H.plan dk' (qL D)).N = H.N := by unfold Hm.N Hm.plan; dsimp only; rw [hclen]
 have hok : (H.plan dk' (qL D)).ok := by
  refine ⟨by rw [show (H.plan dk' (qL D)).pairs = D.pairs from rfl, hD]; exact xR h.ok.srt l fr, fun x hx => ?_, by show D.pairs.length ≤ 600; omega, by show 44 ≤ dk'.has.length; omega, by show dk'.has.length ≤ 2048; omega, by show dk'.wts.length ≤ 100000; rw [c3]; exact zg _, by show (qL D).dir.length ≤ 600; omega, fun p hp => ?_, fun x hx => ?_⟩
  ·
   rcases cls x hx with ⟨h1, _⟩ | ⟨e, he, rfl, _, _, _, e4, _, e6⟩
   · exact h.ok.okp x h1
   exact ⟨e6, (nM e.1 e.2.1 e.2.2 e4 (elt e he)).2.2⟩
  ·
   rw [hN]
   exact (frf p (by have hp' : p ∈ (qL D).dir := hp; rw [hdir] at hp'; exact zbc hp')).1
  rw [hN]
  show (∀ p ∈ D.lies x.1, p < H.N) ∧ (D.lies x.1).length ≤ 600 ∧ nK x ≤ 126 * (D.lies x.1).length
  rcases cls x hx with ⟨h1, h2, _⟩ | ⟨e, he, rfl, _, e2, _, e4, _, e6⟩
  · rw [h2]; exact h.ok.pg x h1
  rw [e2]
  have h3 := hnl e he
  have h4 := (nM e.1 e.2.1 e.2.2 e4 (elt e he)).1
  refine ⟨fun p hp => (frf p (enf e he p hp).1).1, ?_, ?_⟩
  · rw [h3]; unfold needsM; omega
  rw [h4, h3]; unfold needsM; omega
 have g1 : (qL D).dir.Nodup := by rw [hdir]; exact tn2
 have g2 : ∀ x ∈ D.pairs, (D.lies x.1).Nodup := fun x hx => by
  rcases cls x hx with ⟨h1, h2, _⟩ | ⟨e, he, rfl, _, e2, _⟩
  · rw [h2]; exact h.lnod x h1
  rw [e2]; exact en1 e he
 have g3 : ∀ x ∈ D.pairs, ∀ p ∈ D.lies x.1, p ∉ (qL D).dir := fun x hx p hp => by
  rw [hdir]
  rcases cls x hx with ⟨h1, h2, _⟩ | ⟨e, he, rfl, _, e2, _⟩
  ·
   rw [h2] at hp
   exact fun hd => (frf p (zbc hd)).2 (wold x h1 p hp)
  rw [e2] at hp
  exact (enf e he p hp).2
 have g4 : ∀ x ∈ D.pairs, ∀ y ∈ D.pairs, x.1 ≠ y.1 → ∀ p ∈ D.lies x.1, p ∉ D.lies y.1 := fun x hx y hy hne p hp hp' => by
  rcases cls x hx with ⟨h1, h2, _⟩ | ⟨e, he, _, e1, e2, _⟩
  ·
   rw [h2] at hp
   rcases cls y hy with ⟨k1, k2, _⟩ | ⟨e', he', _, e1', e2', _⟩
   · rw [k2] at hp'; exact h.ll x h1 y k1 hne p hp hp'
   rw [e2'] at hp'; exact (frf p (enf e' he' p hp').1).2 (wold x h1 p hp)
  rw [e2] at hp
  rcases cls y hy with ⟨k1, k2, _⟩ | ⟨e', he', _, e1', e2', _⟩
  · rw [k2] at hp'; exact (frf p (enf e he p hp).1).2 (wold y k1 p hp')
  rw [e2'] at hp'
  exact en2 e he e' he' (by rw [← e1, ← e1']; exact hne) p hp hp'
 have hwn : (bM (H.plan dk' (qL D))).Nodup := oK hok.srt g1 g2 g3 g4
 have hwl : ∀ p ∈ bM (H.plan dk' (qL D)), p < H.N := fun p hp => by
  rw [← hN]
  rcases (nH _ p).1 hp with h1 | ⟨x, hx, h1⟩
  · exact hok.dirp p h1
  exact (hok.pg x hx).1 p h1
 obtain ⟨U, hU, hUp⟩ := sP H.N (bM (H.plan dk' (qL D))) (fun _ => false) hwl hwn (fun _ _ => rfl)
 refine ⟨c1, hok, ⟨U, hU⟩, ?_, f3, by rw [hdl, htl, hpairs, hrn]⟩
 refine ⟨⟨hok.srt, hok.okp, hok.n600, hok.sz, hok.big, hok.wts, hok.d59, hok.dirp, hok.pg⟩, c2, c3, g1, g2, g3, g4, fun p hp => ?_, fun x hx => ?_⟩
 ·
  show ((bG (H.plan dk' (qL D)).N (fun _ => false) (bM (H.plan dk' (qL D)))).getD (fun _ => false)) p = decide (p ∈ bM (H.plan dk' (qL D)))
  rw [hN, hU]
  show U p = _
  rw [hUp p, Bool.false_or]
 show x = bE x.1 (dN B l x.1) (D.lies x.1) ∧ (D.lies x.1).length = needsM (dN B l x.1).length ∧ (dN B l x.1).length ≤ 4032 ∧ (∀ b ∈ dN B l x.1, b < 256) ∧ ∀ i, i < (D.lies x.1).length → dk'.sec (42 + (D.lies x.1).getD i 0) = cC (dN B l x.1) (D.lies x.1) i
 rcases cls x hx with ⟨h1, h2, h3⟩ | ⟨e, he, ex, e1, e2, e3, e4, e5, e6⟩
 ·
  rw [h2, h3]
  obtain ⟨b1, b2, b3, b4, b5⟩ := h.blob x h1
  refine ⟨b1, b2, b3, b4, fun i hi => ?_⟩
  have hpw := wold x h1 _ (bD hi)
  have hpl := (h.ok.pg x h1).1 _ (bD hi)
  rw [← b5 i hi]
  refine c5 _ jo jo (fun hq => ?_)
  rw [hpos] at hq
  rcases zbs.1 hq with hq | hq
  ·
   obtain ⟨p, hp', he⟩ := List.mem_map.1 hq
   have : p = (H.lies x.1).getD i 0 := by omega
   rw [this] at hp'
   exact (frf _ hp').2 hpw
  rw [za] at hq; omega
 rw [e2, e3]
 refine ⟨by rw [e1]; exact ex, hnl e he, e4, e5, fun i hi => ?_⟩
 refine c4 (42 + e.2.2.getD i 0, cC e.2.1 e.2.2 i) ?_
 have e1 : (qL D).puts = D.puts ++ cK (qL D).dir (bW D.pairs) (qL D).dir.length ++ [(41, bI (qL D).dir)] := by rw [hdl]; rfl
 rw [e1, f1]
 exact zdp _ (zdp _ (List.mem_flatMap.2 ⟨e, he, qQv _ _ hi⟩))
end
section
open Go.RowKit
theorem qQw (D pg : List Nat) (i : Nat) : (cC D pg i).drop 2 = dZ D i ++ noM (126 - (dZ D i).length) := by
 have h1 := kN D i
 have h2 : Nat.min (D.length - 126 * i) 126 ≤ 126 := Nat.min_le_right _ _
 unfold cC eJ
 rw [if_neg (by rw [zd, numL_len]; omega), zad, List.drop_left' (numL_len _ _), zd, numL_len]
 rw [show 128 - (2 + (dZ D i).length) = 126 - (dZ D i).length by omega]
theorem pT (D : List Nat) : ∀ k, 126 * k ≤ D.length + 125 → ((List.range k).flatMap fun i => dZ D i ++ noM (126 - (dZ D i).length)) = D.take (126 * k) ++ noM (126 * k - D.length)
 | 0, _ => by simp [noM]
 | k + 1, h => by
  have hl := kN D k
  have hb : (dZ D k).length = Nat.min (D.length - 126 * k) 126 := hl
  rw [zdc, zax, pT D k jo, show 126 * k - D.length = 0 by omega, zau, List.flatMap_nil, zbg]
  rw [show noM 0 = [] from rfl, zbg, ← zad]
  congr 1
  ·
   rw [show 126 * (k + 1) = 126 * k + 126 by omega, List.take_add]
   rfl
  congr 1
  rw [hb]
  rcases Nat.le_total (D.length - 126 * k) 126 with h1 | h1
  · rw [show Nat.min (D.length - 126 * k) 126 = D.length - 126 * k from zal h1]; omega
  rw [show Nat.min (D.length - 126 * k) 126 = 126 from zcv h1]; omega
theorem qQx {H : Hm} {D pg : List Nat} (hs : ∀ i, i < pg.length → H.dk.sec (42 + pg.getD i 0) = cC D pg i) (hl : pg.length = needsM D.length) : (cD H pg).take D.length = D := by
 have e : cD H pg = (List.range pg.length).flatMap fun i => dZ D i ++ noM (126 - (dZ D i).length) := by
  unfold cD
  have e1 : pg = (List.range pg.length).map fun i => pg.getD i 0 := by
   apply List.ext_getElem
   · simp
   intro i h1 h2
   simp [zc, h1]
  conv => lhs; rw [e1]
  rw [List.flatMap_map]
  have key : ∀ l : List Nat, (∀ i ∈ l, i < pg.length) → (l.flatMap fun i => (H.dk.sec (42 + pg.getD i 0)).drop 2) = l.flatMap fun i => dZ D i ++ noM (126 - (dZ D i).length) := by
   intro l
   induction l with
   | nil => intro _; rfl
   | cons a r ih =>
    intro hm
    rw [zau, zau, ih (fun i hi => hm i (by simp [hi])), hs a (hm a jp), qQw]
  exact key _ (fun i hi => List.mem_range.1 hi)
 rw [e, pT D _ (by rw [hl]; unfold needsM; omega), zf (i := 126 * pg.length) (by rw [hl]; unfold needsM; omega), zec rfl]
theorem xD {H : Hm} {B : Nat → List Nat} (h : InvH H B) {id : Nat} (hk : id ∈ H.pairs.map (·.1)) : dE H id = (0, B id) := by
 obtain ⟨h1, h2, h3⟩ := pP h.ok.srt hk
 obtain ⟨b1, b2, b3, b4, b5⟩ := h.blob _ h2
 have hpg := (h.ok.pg _ h2).1
 have hbg := h.ok.big
 unfold dE
 rw [if_neg (not_not_intro hk), if_neg (by rw [h.pow.off]; simp)]
 dsimp only
 generalize H.pairs.getD (posM H.pairs id) (0, 0) = x at *
 rw [h3] at b1 b2 b3 b4 b5 hpg
 obtain ⟨p1, p2, p3⟩ := nM id (B id) (H.lies id) b3 (fun p hp => by have := hpg p hp; unfold Hm.N at this; omega)
 rw [← b1] at p1 p2
 rw [p1, qQx b5 b2, p2, if_pos rfl]
theorem nE {H : Hm} {B : Nat → List Nat} {l : List Ch} (h : InvH H B) (hb : ∀ c ∈ l, c.1 < 18446744073709551616 ∧ ∀ b ∈ c.2.1, b < 256) :
  lR H l ∧ (qP H l).2.ok ∧ ((qP H l).1 = 0 ∧ bF l ∧ cL H l ∧ InvH (qP H l).2 (dN B l) ∧ (qP H l).2.dk.has.length = H.dk.has.length ∧ (qP H l).2.dir.length = pagesM (qP H l).2.pairs.length ∧
    (∀ id, id ∈ (qP H l).2.pairs.map (·.1) ↔ (id ∈ H.pairs.map (·.1) ∧ id ∉ l.map (·.1)) ∨ ∃ c ∈ l, c.2.2 = false ∧ c.1 = id) ∨ (qP H l).1 ≠ 0 ∧ (qP H l).2 = H) := by
 have hmk : lR H l := fun hm _ hp hn hf _ => by
  obtain ⟨s1, s2, s3, s4, s5, s6⟩ := jI h hm hb hp hn hf
  exact ⟨s2, eA _ _, s3⟩
 refine ⟨hmk, ?_⟩
 by_cases hm : bF l
 ·
  by_cases hg : cL H l
  ·
   by_cases hn : 600 < cV H l ∨ 40 < qO H l + 1
   ·
    have e : qP H l = (5, H) := by unfold qP; rw [if_neg (not_not_intro hm), if_neg (not_not_intro hg), if_pos hn]
    rw [e]
    exact ⟨h.ok, .inr ⟨jp, rfl⟩⟩
   by_cases hf : H.N - cntS H.N H.used < qO H l
   ·
    have e : qP H l = (5, H) := by unfold qP; rw [if_neg (not_not_intro hm), if_neg (not_not_intro hg), if_neg hn, if_pos hf]
    rw [e]
    exact ⟨h.ok, .inr ⟨jp, rfl⟩⟩
   obtain ⟨s1, s2, s3, s4, s5, s6⟩ := jI h hm hb jo jo jo
   have e : qP H l = (0, (H.plan (bX H.dk (bJ H l).puts).2 (bJ H l)).count) := by unfold qP; rw [if_neg (not_not_intro hm), if_neg (not_not_intro hg), if_neg hn, if_neg hf, if_neg (not_not_intro s1)]
   rw [e]
   refine ⟨s4.ok, .inl ⟨rfl, hm, hg, s4, eA _ _, s6, fun id => ?_⟩⟩
   show id ∈ (bJ H l).pairs.map (·.1) ↔ _
   simp only [List.mem_map]
   constructor
   ·
    rintro ⟨x, hx, rfl⟩
    rcases (s5 x).1 hx with ⟨h1, h2⟩ | ⟨e, he, rfl⟩
    · exact .inl ⟨⟨x, h1, rfl⟩, by simpa using h2⟩
    obtain ⟨c, hc, hcg, e1, _⟩ := nG he
    exact .inr ⟨c, hc, hcg, e1⟩
   rintro (⟨⟨x, hx, rfl⟩, h2⟩ | ⟨c, hc, hcg, rfl⟩)
   · exact ⟨x, (s5 x).2 (.inl ⟨hx, by simpa using h2⟩), rfl⟩
   have h1 : (c.1, c.2.1) ∈ (bT l ((bZ H.N H.used).take (qO H l))).map (fun e => (e.1, e.2.1)) := by
    rw [kS]
    exact List.mem_map.2 ⟨c, List.mem_filter.2 ⟨hc, by simp [hcg]⟩, rfl⟩
   obtain ⟨e, he, hee⟩ := List.mem_map.1 h1
   injection hee with e1 e2
   exact ⟨_, (s5 _).2 (.inr ⟨e, he, rfl⟩), e1⟩
  have e : qP H l = (6, H) := by unfold qP; rw [if_neg (not_not_intro hm), if_pos hg]
  rw [e]
  exact ⟨h.ok, .inr ⟨jp, rfl⟩⟩
 have e : qP H l = (1, H) := by unfold qP; rw [if_pos hm]
 rw [e]
 exact ⟨h.ok, .inr ⟨jp, rfl⟩⟩
end
section
open Go.RowKit
theorem qQy {d : Dk} (h : Pow d) (hn : 41 < d.has.length) : (bR d).1 = 0 ∧ Pow (bR d).2 ∧ (bR d).2.wts = [] := by
 have he : bR d = bV d fI := by unfold bR; rw [if_neg jo]
 have hno : vK d.has.length (.wr 0 (noM 128)) := ⟨jo, by simp [noM]⟩
 obtain ⟨r1, r2, _⟩ := lS fI h (fun s hs => by
  simp only [fI, zl, zu, or_false] at hs
  rcases hs with rfl | rfl
  · exact hno
  trivial)
 obtain ⟨q1, q2, _⟩ := lS [.wr 0 (noM 128)] h (fun s hs => by rw [za] at hs; subst hs; exact hno)
 have hw : (bV d fI).2.wts = [] := by
  rw [show fI = [.wr 0 (noM 128)] ++ [.fl] from rfl, kJ _ _ _ q1]
  show ((bV d _).2.flush).2.wts = []
  unfold Dk.flush
  rw [if_neg q2.fails]
 rw [he]
 exact ⟨r1, r2, hw⟩
theorem vY {d : Dk} (h : Pow d) (hw : d.wts = []) (h1 : 44 ≤ d.has.length) (h2 : d.has.length ≤ 2048) (B : Nat → List Nat) : InvH (bC d) B :=
 ⟨xC h1 h2 (by rw [hw]; exact zg _), h, hw, List.nodup_nil, (fun x hx => by cases hx), (fun x hx => by cases hx), (fun x hx => by cases hx), (fun p hp => by simp [bC, bM, cW]), (fun x hx => by cases hx)⟩
theorem gX {H : Hm} {B : Nat → List Nat} (h : InvH H B) : cntS H.N H.used = (bM H).length ∧ (bM H).Nodup ∧ ∀ p ∈ bM H, p < H.N := by
 have hn := oK h.ok.srt h.dnod h.lnod h.dl h.ll
 have hl : ∀ p ∈ bM H, p < H.N := fun p hp => by
  rcases (nH _ p).1 hp with h1 | ⟨x, hx, h1⟩
  · exact h.ok.dirp p h1
  exact (h.ok.pg x hx).1 p h1
 have := vJ H.N (bM H) (fun _ => false) hl hn (fun _ _ => rfl) H.used (fun p hp => by rw [h.used p hp, Bool.false_or])
 refine ⟨?_, hn, hl⟩
 rw [this]
 have hz : cntS H.N (fun _ => false) = 0 := by unfold cntS; simp
 omega
theorem mM {d : Dk} (h : Pow d) (h1 : 44 ≤ d.has.length) (h2 : d.has.length ≤ 2048) :
  (bR d).1 = 0 ∧ (bR d).2.wts.length ≤ 100000 ∧ lR (bC (bR d).2) [] ∧ (qP (bC (bR d).2) []).2.ok ∧ (qP (bC (bR d).2) []).1 = 0 ∧
   InvH (qP (bC (bR d).2) []).2 (fun _ => []) ∧ (qP (bC (bR d).2) []).2.dk.has.length = d.has.length ∧ (qP (bC (bR d).2) []).2.dir.length = pagesM (qP (bC (bR d).2) []).2.pairs.length ∧ ∀ id, id ∉ (qP (bC (bR d).2) []).2.pairs.map (·.1) := by
 obtain ⟨f1, f2, f3⟩ := qQy h jo
 have hl := oT d
 have hi := vY f2 f3 jo jo (fun _ => [])
 obtain ⟨a1, a2, a3⟩ := nE hi (l := []) (fun c hc => by cases hc)
 have hbp : cV (bC (bR d).2) [] = 0 := rfl
 have hpm : pagesM 0 = 1 := by
  unfold pagesM
  rw [show abvM 0 7 = 1 from rfl, dM, dif_pos jo]
 have hbn : qO (bC (bR d).2) [] = 1 := by
  unfold qO
  rw [hbp, pagesT, if_pos jo, hpm]
  rfl
 have hc := (gX hi).1
 have hN : (bC (bR d).2).N = d.has.length - 42 := by unfold Hm.N bC; dsimp only; rw [hl]
 have hc0 : cntS (bC (bR d).2).N (bC (bR d).2).used = 0 := hc
 have hm : bF ([] : List Ch) := by simp [bF]
 have hg : cL (bC (bR d).2) [] := fun x hx => by cases hx
 have e0 : (qP (bC (bR d).2) []).1 = 0 := by
  obtain ⟨s1, _⟩ := jI hi hm (fun c hc => by cases hc) jo jo jo
  unfold qP
  rw [if_neg (not_not_intro hm), if_neg (not_not_intro hg), if_neg jo, if_neg jo, if_neg (not_not_intro s1)]
 rcases a3 with ⟨_, _, _, b1, b2, b3, b4⟩ | ⟨b1, _⟩
 ·
  have eB : dN (fun _ => []) [] = fun _ => ([] : List Nat) := rfl
  rw [eB] at b1
  refine ⟨f1, by rw [f3]; exact zg _, a1, a2, e0, b1, b2.trans hl, b3, fun id hid => ?_⟩
  rcases (b4 id).1 hid with ⟨h5, _⟩ | ⟨c, hc, _⟩
  · cases h5
  cases hc
 exact absurd e0 b1
end
section
open Go.RowKit
def gP (l : List Ch) : List Ch := (l.take 12).map fun c => (c.1, c.2.1.take 4040, c.2.2)
theorem qX8 (l : List Ch) : (gP l).length ≤ 12 := by unfold gP; rw [zae, zi]; omega
def oB (k : Nat) : List Nat := List.replicate 128 k
theorem wS (n : Nat) (w : World) (hn : n ≤ 1000000) : Calls Try.prog 9 #[.int .i64 ((n : Nat) : Int)] w fun e w' => e = .returned (.int .i64 ((needsM n : Nat) : Int)) ∧ w = w' := by
 refine VC.calls (nt := 11) (res := #[.tmp 2]) Try.func9 rfl Try.ntmps9 Try.results9 rfl ?_
 refine jS (jR (jz 0 (jO (jN (jv1 0 ?_)))))
 refine jS (jR (jz 0 (jO (jN (jS (jB ?_))))))
 refine VC.loop (σ := Nat) (fun s => [(0, .int .i64 ((n : Nat) : Int)), (3, .int .i64 ((s : Nat) : Int))]) (fun s wr => s ≤ needsM n ∧ w = wr) (fun s => needsM n - s) 0 (js2 rfl rfl) ⟨zg _, rfl⟩ ?_
 rintro s _ ⟨hs, rfl⟩
 have hnd : needsM n = (n + 125) / 126 := rfl
 refine jS (jS (jR (jm rfl (jb rfl rfl (Bin.mul_i64 126 _ jo) (jm rfl (jb rfl rfl (Bin.lssN _ _) (jO (jN (jv3 0 3 7 ?_)))))))))
 refine jD rfl (fun hc1 => ?_) fun hc1 => ?_
 ·
  refine jQ (jN (jv2 0 3 ?_))
  refine jB (jR (jm rfl (jb rfl rfl (Bin.add_i64 _ 1 jo) (ja rfl (jO ?_)))))
  refine qH (jN ⟨s + 1, (js2 rfl rfl), ?_, ?_⟩)
  · exact ⟨jo, rfl⟩
  first | omega | (dsimp only; omega)
 refine jX ?_
 refine qJ (qJ (qR ?_))
 refine jN (jv1 3 ?_)
 refine jS (jR (jm rfl (ja rfl (jO (jN (jv1 2 ?_))))))
 refine jT ?_
 refine qB rfl ?_
 rw [show s = needsM n by omega]
 exact ⟨rfl, rfl⟩
theorem sU (k : Nat) (w : World) (hk : k < 256) : Calls Try.prog 30 #[.int .u8 ((k : Nat) : Int)] w fun e w' => ∃ g, e = .returned (.slice (some ⟨g, 0, none⟩) 128 128) ∧ Own w' 5 1 (some ⟨g, 0, none⟩) 128 128 (NB (oB k)) ∧ Frm [] w w' ∧ w.heap.size ≤ g := by
 refine VC.calls (nt := 15) (res := #[.tmp 2]) Try.func30 rfl Try.ntmps30 Try.results30 rfl ?_
 refine jS (jR (ja rfl (jO (jN (jv1 0 ?_)))))
 refine jS (jR ?_)
 refine Ops.m (qZ.makeS (n := 128) rfl rfl ze (cA) rfl jo jo) rfl ?_
 rintro _ w1 ⟨rfl, ho1, hf1, hs1⟩
 rw [kK] at ho1
 have e0 : List.replicate 128 (Value.int .u8 ((0 : Nat) : Int)) = NB (List.replicate 0 k ++ List.replicate (128 - 0) 0) := by rw [NB, List.replicate_zero, zam, zef]
 rw [e0] at ho1
 generalize hg : w.heap.size = gb at *
 refine ja rfl (jO (jN (jv2 0 3 ?_)))
 refine jS (jS (jR (jz 0 (jO (jN (jB ?_))))))
 refine VC.loop (σ := Nat) (fun s => [(0, .int .u8 ((k : Nat) : Int)), (3, .slice (some ⟨gb, 0, none⟩) 128 128), (4, .int .i64 ((s : Nat) : Int))]) (fun s wr => s ≤ 128 ∧ Own wr 5 1 (some ⟨gb, 0, none⟩) 128 128 (NB (List.replicate s k ++ List.replicate (128 - s) 0)) ∧ Frm [] w wr) (fun s => 128 - s) 0 (js3 rfl rfl rfl) ⟨zg _, ho1, hf1⟩ ?_
 rintro i wr ⟨hi, ho, K⟩
 refine jS (jS (jR (jm rfl (jb rfl rfl (Bin.lssN _ 128) (jO (jN (jv4 0 3 4 7 ?_)))))))
 refine jD rfl (fun hc1 => ?_) fun hc1 => ?_
 ·
  refine jQ (jN (jv3 0 3 4 ?_))
  refine jS (jB (jR (jm rfl (jm rfl (jm rfl (je (Run.index1 _ rfl rfl ze zaf jo) ?_))))))
  refine Ops.st (qS.storeOwn i rfl rfl zaf ho rfl jo rfl) ?_
  rintro w2 ⟨ho2, hf2, hs2⟩
  have e2 : (NB (List.replicate i k ++ List.replicate (128 - i) 0)).set i (.int .u8 ((k : Nat) : Int)) = NB (List.replicate (i + 1) k ++ List.replicate (128 - (i + 1)) 0) := by
   have e3 : (List.replicate i k ++ List.replicate (128 - i) 0).set i k = List.replicate (i + 1) k ++ List.replicate (128 - (i + 1)) 0 := by
    rw [List.set_append_right _ _ (by rw [List.length_replicate]; omega), List.length_replicate, zfa, show 128 - i = (128 - (i + 1)) + 1 by omega, List.replicate_succ, List.set_cons_zero, List.replicate_succ' (n := i), zad]
    rfl
   rw [← e3, NB, NB, List.map_set]
  rw [e2] at ho2
  refine jO ?_
  refine qH (jN ?_)
  refine jv3 0 3 4 ?_
  refine jR (jm rfl (jb rfl rfl (Bin.add_i64 _ 1 jo) (ja rfl (jO ?_))))
  refine jN ⟨i + 1, (js3 rfl rfl rfl), ?_, ?_⟩
  · exact ⟨jo, ho2, K.own hf2 (by simp [ob]; omega)⟩
  first | omega | (dsimp only; omega)
 refine jX ?_
 refine qJ (qJ (qR ?_))
 refine jN (jv1 3 ?_)
 refine jS (jR (jm rfl (ja rfl (jO (jN (jv1 2 ?_))))))
 refine jT ?_
 refine qB rfl ?_
 obtain rfl : i = 128 := jo
 have ho : Own wr 5 1 (some ⟨gb, 0, none⟩) 128 128 (NB (List.replicate 128 k ++ [])) := ho
 rw [zbg] at ho
 exact ⟨gb, rfl, ho, K, jo⟩
theorem qQz {l : List Cq} {i : Nat} (h : i < l.length) (hi : i < 12) : gP (chL (l.take (i + 1))) = gP (chL (l.take i)) ++ [((l.getD i cq0).1, (l.getD i cq0).2.1.2.2.take 4040, (l.getD i cq0).2.2)] := by
 have e1 : (chL (l.take (i + 1))).take 12 = chL (l.take (i + 1)) := zf (by rw [gF, zi]; omega)
 have e2 : (chL (l.take i)).take 12 = chL (l.take i) := zf (by rw [gF, zi]; omega)
 unfold gP
 rw [e1, e2, gQ h, zy]
 rfl
structure RdQ (w : World) (S : Option Addr) (n : Nat) (l : List Cq) : Prop where
 len : l.length = n
 rd : Rd w 3 S n (l.flatMap cqC)
 el : ∀ x ∈ l, Rd w 1 x.2.1.1 x.2.1.2.2.length (NB x.2.1.2.2) ∧ x.2.1.2.2.length ≤ x.2.1.2.1
 num : ∀ x ∈ l, x.1 < 18446744073709551616 ∧ x.2.1.2.2.length ≤ 9223372036854775807
 oct : ∀ x ∈ l, ∀ b ∈ x.2.1.2.2, b < 256
theorem RdQ.frm {w w' : World} {S : Option Addr} {n : Nat} {l : List Cq} (h : RdQ w S n l) (k : Frm [] w w') : RdQ w' S n l := ⟨h.len, h.rd.frm k jp, fun x hx => ⟨(h.el x hx).1.frm k jp, (h.el x hx).2⟩, h.num, h.oct⟩
theorem RdQ.cell {w : World} {S : Option Addr} {n : Nat} {l : List Cq} (h : RdQ w S n l) {k : Nat} (hk : k < n) : ∃ ad, S = some ad ∧ ∀ j v, (cqC (l.getD k cq0))[j]? = some v → w.cell? ((ad.add (k * 3)).add j) = some v := rdF cqC 3 fO h.rd h.len hk cq0
theorem RdQ.cut {w : World} {S : Option Addr} {n k : Nat} {l : List Cq} (h : RdQ w S n l) (hk : k ≤ n) : RdQ w S k (l.take k) := by
 have h1 := h.rd.cut (l := 0) (r := k) (cap := n + 1) (zg _) hk jo
 rw [cR, zdb, zbr, zbf] at h1
 refine ⟨by rw [zi, h.len]; omega, ?_, fun x hx => h.el x (zr hx), fun x hx => h.num x (zr hx), fun x hx => h.oct x (zr hx)⟩
 have h2 := (lL cqC 3 fO l k).1
 rw [← h2]
 exact h1
def OwQ (b : Nat) (w : World) (X : List Nat) (l : List Cq) : Prop := (∀ x ∈ l, Own w 5 1 x.2.1.1 x.2.1.2.2.length x.2.1.2.1 (NB x.2.1.2.2) ∧ ∀ y ∈ ob x.2.1.1, (y < w.heap.size ∧ y ∉ X) ∧ b ≤ y) ∧ l.Pairwise fun a c => ∀ y ∈ ob a.2.1.1, y ∉ ob c.2.1.1
theorem OwQ.frm {b : Nat} {w w' : World} {X : List Nat} {l : List Cq} (h : OwQ b w X l) (k : Frm [] w w') : OwQ b w' X l := ⟨fun x hx => ⟨(h.1 x hx).1.frm k jp, fun y hy => ⟨⟨zq ((h.1 x hx).2 y hy).1.1 k.size, ((h.1 x hx).2 y hy).1.2⟩, ((h.1 x hx).2 y hy).2⟩⟩, h.2⟩
theorem OwQ.fk {b : Nat} {w w' : World} {X X' : List Nat} {l : List Cq} (h : OwQ b w X l) (k : Fk X w w' X') : OwQ b w' X' l := ⟨fun x hx => ⟨(h.1 x hx).1.frm k.1 (fun y hy => ((h.1 x hx).2 y hy).1.2), fun y hy => ⟨⟨zq ((h.1 x hx).2 y hy).1.1 k.1.size, k.out ((h.1 x hx).2 y hy).1.1 ((h.1 x hx).2 y hy).1.2⟩, ((h.1 x hx).2 y hy).2⟩⟩, h.2⟩
theorem OwQ.snoc {b : Nat} {w : World} {X : List Nat} {l : List Cq} {x : Cq} (h : OwQ b w X l) (hr : Own w 5 1 x.2.1.1 x.2.1.2.2.length x.2.1.2.1 (NB x.2.1.2.2)) (hx : ∀ y ∈ ob x.2.1.1, ((y < w.heap.size ∧ y ∉ X) ∧ b ≤ y) ∧ ∀ z ∈ l, y ∉ ob z.2.1.1) : OwQ b w X (l ++ [x]) := by
 refine ⟨fun y hy => ?_, List.pairwise_append.2 ⟨h.2, jp, fun a ha c hc y hy hy2 => ?_⟩⟩
 ·
  rcases zbs.1 hy with hy | hy
  · exact h.1 y hy
  rw [za] at hy; subst hy; exact ⟨hr, fun z hz => (hx z hz).1⟩
 rw [za] at hc
 subst hc
 exact (hx y hy2).2 a ha hy
set_option maxHeartbeats 1000000 in
theorem sC (S0 : Option Addr) (n0 c0 : Nat) (l0 : List Cq) (w : World) (hn : n0 ≤ 9223372036854775807) (hnc : n0 ≤ c0) (hr0 : RdQ w S0 n0 l0) :
  Calls Try.prog 6 #[.slice S0 n0 c0] w fun e w' => ∃ B d l, e = .returned (.slice B l.length d) ∧ Own w' 38 3 B l.length d (l.flatMap cqC) ∧ OwQ w.heap.size w' (ob B) l ∧ chL l = gP (chL l0) ∧ Frm [] w w' ∧ ∀ x ∈ ob B, w.heap.size ≤ x := by
 have K0 := Frm.refl [] w
 obtain ⟨n, hnn⟩ : ∃ n, n = (if 12 < n0 then 12 else n0) := ⟨_, rfl⟩
 have hn12 : n ≤ 12 ∧ n ≤ n0 := by rw [hnn]; split <;> omega
 have hr := hr0.cut hn12.2
 obtain ⟨l, hl⟩ : ∃ l, l = l0.take n := ⟨_, rfl⟩
 rw [← hl] at hr
 have hfe : gP (chL l) = gP (chL l0) := by
  have e1 : (chL l).take 12 = (chL l0).take 12 := by
   rw [hl, oP, zdq]
   by_cases h : 12 < n0
   ·
    rw [hnn, if_pos h]
    rfl
   rw [hnn, if_neg h, zcv jo, zf (i := n0) (by rw [gF, hr0.len]; exact zm _), zf (by rw [gF, hr0.len]; omega)]
  unfold gP
  rw [e1]
 have hln := hr.len
 refine VC.calls (nt := 39) (res := #[.tmp 2]) Try.func6 rfl Try.ntmps6 Try.results6 rfl ?_
 refine jS (jR (ja rfl (jO (jN (jv1 0 ?_)))))
 refine jS (jS (jR (jm rfl (je (Run.lenS rfl zab) (jb rfl rfl (Bin.gtrN _ 12) (jO (jN (jv2 0 8 ?_))))))))
 refine VC.meet (σ := Nat) (fun s => [(0, .slice S0 n s)]) (fun s wz => w = wz) ?_ ?_
 ·
  refine jD rfl (fun hc1 => ?_) fun hc1 => ?_
  ·
   refine jR (jm rfl (je (Run.sliceS 0 12 rfl zab zaq evB.none_ (evB.some_ rfl) jo jo) ?_))
   rw [cR]
   refine ja rfl (jO ?_)
   refine jN ⟨_, (js1 (by rw [show n = 12 - 0 by rw [hnn, if_pos hc1]]; rfl)), ?_⟩
   rfl
  refine jQ ?_
  refine jN ⟨_, (js1 (by rw [show n = n0 by rw [hnn, if_neg hc1]]; rfl)), ?_⟩
  rfl
 rintro cc _ rfl Γ hΓ
 refine jN (VC.sub _ hΓ (jS (jR (ja rfl (jO (jN (jS (jS (jR (jz 0 (jO (jN (jB ?_)))))))))))))
 refine VC.loop (σ := Nat × Option Addr × Nat × List Cq) (fun s => [(0, .slice S0 n cc), (3, .slice s.2.1 s.2.2.2.length s.2.2.1), (4, .int .i64 ((s.1 : Nat) : Int))]) (fun s wr => s.1 ≤ n ∧ Own wr 38 3 s.2.1 s.2.2.2.length s.2.2.1 (s.2.2.2.flatMap cqC) ∧ OwQ w.heap.size wr (ob s.2.1) s.2.2.2 ∧ chL s.2.2.2 = gP (chL (l.take s.1)) ∧ Frm [] w wr ∧ (∀ x ∈ ob s.2.1, w.heap.size ≤ x) ∧ s.2.2.2.length = s.1) (fun s => n - s.1) (0, none, 0, []) (js3 rfl rfl rfl) ⟨zg _, Own.nil _ _ _, ⟨fun x hx => (by cases hx), List.Pairwise.nil⟩, rfl, K0, by simp [ob], rfl⟩ ?_
 rintro ⟨i, B, d, ls⟩ wr ⟨hi, ho, hq, hch, K, hup, hll⟩
 dsimp only at hi ho hq hch hup hll ⊢
 have ks := K.size
 refine jS (jS (jR (jm rfl (jm rfl (je (Run.lenS rfl zab) (jb rfl rfl (Bin.lssN _ _) (jO (jN (jv4 0 3 4 14 ?_)))))))))
 refine jD rfl (fun hc2 => ?_) fun hc2 => ?_
 ·
  obtain ⟨ad, hS, hel⟩ := (hr.frm K).cell hc2
  subst hS
  have hmem := eE (jo : i < l.length)
  have hxn := hr.num _ hmem
  have hxo := hr.oct _ hmem
  have hxe := hr.el _ hmem
  have hsn := qQz (jo : i < l.length) jo
  generalize l.getD i cq0 = x at hel hxn hxo hxe hsn
  obtain ⟨xa, ⟨xA, xc, xb⟩, xg⟩ := x
  dsimp only at hxn hxo hxe hsn
  refine jQ (jN (jv3 0 3 4 ?_))
  refine jS (jB (jS (jR (jm rfl (jm rfl (je (Run.indexS _ rfl rfl zab zaq jo) (je (Run.loadA rfl Try.isAgg38 zaq hel (by first | rfl | (simp; done))) ?_)))))))
  refine Ops.m (qZ.alloc eQ) rfl ?_
  rintro _ w2 ⟨rfl, hF2⟩
  refine Ops.st (qS.storeA rfl rfl zaq hF2.blk rfl (gE (xa, (xA, xc, xb), xg))) ?_
  rintro w3 ⟨hb5, hf3, hs3⟩
  have hb5 : Blk w3 wr.heap.size 38 #[.int .u64 ((xa : Nat) : Int), .slice xA xb.length xc, .bool xg] := hb5
  have K3 : Frm [] wr w3 := hF2.frm.own hf3 jp
  have hwl := ho.lt
  have ho := ho.frm K3 jp
  have hwl0 := hq
  have hqr := hq
  have hq := hq.frm K3
  have K := K.trans K3 jp
  have hq0 : ∀ x ∈ ls, ∀ y ∈ ob x.2.1.1, y < wr.heap.size := fun x hx y hy => ((hqr.1 x hx).2 y hy).1.1
  have hql : ∀ x ∈ ls, ∀ y ∈ ob x.2.1.1, y < w3.heap.size := fun x hx y hy => ((hq.1 x hx).2 y hy).1.1
  generalize hg5 : wr.heap.size = g5 at *
  refine jO (jN (jv4 0 3 4 5 ?_))
  refine jS (jS (jR (jf rfl zp rfl zn (jl rfl zaj (hb5.cell 1) (je (Run.lenS rfl ze) (jb rfl rfl (Bin.gtrN _ 4040) (jO (jN (jv5 0 3 4 5 24 ?_)))))))))
  refine VC.meet (σ := Nat) (fun s => [(0, .slice (some ad) n cc), (3, .slice B ls.length d), (4, .int .i64 ((i : Nat) : Int)), (5, .pointer (some ⟨g5, 0, none⟩))]) (fun s wz => Frm [g5] w3 wz ∧ Blk wz g5 38 #[.int .u64 ((xa : Nat) : Int), .slice xA (xb.take 4040).length s, .bool xg] ∧ wz.heap.size = w3.heap.size) ?_ ?_
  ·
   refine jD rfl (fun hc3 => ?_) fun hc3 => ?_
   ·
    have hcapx := hxe.2
    have htk : (xb.take 4040).length = 4040 := by rw [zi]; omega
    refine jR (jf rfl zp rfl zn (jl rfl zaj (hb5.cell 1) (je (Run.sliceS 0 4040 rfl ze zaf evB.none_ (evB.some_ rfl) jo jo) ?_)))
    rw [cR]
    refine jf rfl zp rfl zn ?_
    refine Ops.st (qS.store rfl rfl zn hb5 rfl rfl) ?_
    rintro w4 ⟨hb5, hf4, hs4⟩
    refine jO ?_
    refine jN ⟨xc - 0, (js4 rfl rfl rfl rfl), ?_⟩
    exact ⟨hf4, by rw [htk]; exact hb5, hs4⟩
   have htk : xb.take 4040 = xb := zf jo
   refine jQ ?_
   refine jN ⟨xc, (js4 rfl rfl rfl rfl), ?_⟩
   exact ⟨Frm.refl _ _, by rw [htk]; exact hb5, rfl⟩
  rintro xc wz ⟨hfz, hb5, hsz⟩ Γ hΓ
  refine jN (VC.sub _ hΓ (jS (jR ?_)))
  refine Ops.m (qZ.buildS0 ze zaf) rfl ?_
  rintro _ w5 ⟨rfl, hF5⟩
  obtain ⟨yb, hyb⟩ : ∃ yb, yb = xb.take 4040 := ⟨_, rfl⟩
  rw [← hyb] at hb5 hsn
  have hyl : yb.length ≤ 4040 := by rw [hyb, zi]; omega
  have hyo : ∀ b ∈ yb, b < 256 := fun b hb => hxo b (by rw [hyb] at hb; exact zr hb)
  have hwl5 : g5 < wz.heap.size := hb5.lt
  have ho5 : Own w5 5 1 (some ⟨wz.heap.size, 0, none⟩) 0 0 (NB []) := Own.of_blk hF5.blk rfl (by simp [maxLen])
  have kz : Frm [g5] w3 w5 := hfz.trans hF5.frm jp
  have n5B : ∀ y ∈ ob B, y ≠ g5 := fun y hy e => by have := hwl y hy; omega
  have K5 := K.own kz (by simp; omega)
  have hyr : Rd w5 1 xA yb.length (NB yb) := by
   have h1 := hxe.1.cut (l := 0) (r := yb.length) (cap := xb.length + 1) (zg _) (by rw [hyb, zi]; omega) jo
   rw [cR, zbf, zdb, zbr, zce, (lP _ _).1, show xb.take yb.length = yb by rw [hyb]; exact mK _ _] at h1
   exact h1.frm K5 jp
  refine jf rfl zp rfl zn (jl rfl zaj ((hb5.frm hF5.frm jp).cell 1) ?_)
  refine Ops.m (qZ.app rfl rfl ze (cA) rfl jd ho5 hyr (cG _) jo jo) rfl ?_
  rintro _ w6 ⟨YA, yc, rfl, ho6, hf6, hob6⟩
  rw [← cZ, zam, zbe] at ho6
  rw [zbe]
  have hq5 := hF5.size
  have n6 : g5 ∉ ob (some (⟨wz.heap.size, 0, none⟩ : Addr)) := fun h => by simp [ob] at h; omega
  have hb6 := (hb5.frm hF5.frm jp).frm hf6 n6
  have hupY : ∀ y ∈ ob YA, wz.heap.size ≤ y := fun y hy => by
   rcases hob6 with h | h
   · rw [h] at hy; simp [ob] at hy; omega
   rw [h, za] at hy; omega
  refine jf rfl zp rfl zn ?_
  refine Ops.st (qS.store rfl rfl zn hb6 rfl rfl) ?_
  rintro w7 ⟨hb7, hf7, hs7⟩
  have hf7 : Frm [g5] w6 w7 := hf7
  have hb7 : Blk w7 g5 38 #[.int .u64 ((xa : Nat) : Int), .slice YA yb.length yc, .bool xg] := hb7
  have hYlt := ho6.lt
  have ho7 : Own w7 5 1 YA yb.length yc (NB yb) := ho6.frm hf7 (fun y hy h => by rw [za] at h; have := hupY y hy; omega)
  have k37 : Frm (g5 :: [wz.heap.size]) w3 w7 := ((kz.mono jp).trans hf6 (fun y hy => .inl (by simp [ob] at hy; simp [hy]))).trans hf7 (fun y hy => .inl (by simp at hy; simp [hy]))
  have hBw : ∀ y ∈ ob B, y < w3.heap.size := fun y hy => by have := hwl y hy; have := K3.size; omega
  have ho := ho.frm k37 (fun y hy h => by simp at h; rcases h with h | h; exact n5B y hy h; have := hBw y hy; omega)
  have K := K.own k37 (by simp; omega)
  have q7 : w3.heap.size ≤ w7.heap.size := k37.size
  have hq : OwQ w.heap.size w7 (ob B) ls := ⟨fun x hx => ⟨(hq.1 x hx).1.frm k37 (fun y hy h => by
    simp at h
    rcases h with h | h
    · have := hq0 x hx y hy; omega
    have := ((hq.1 x hx).2 y hy).1.1; omega), fun y hy => ⟨⟨zq ((hq.1 x hx).2 y hy).1.1 q7, ((hq.1 x hx).2 y hy).1.2⟩, ((hq.1 x hx).2 y hy).2⟩⟩, hq.2⟩
  refine jO (jN (jv4 0 3 4 5 ?_))
  refine jR (jm rfl (je (Run.loadA rfl Try.isAgg38 zaq (hb7.cells) (by first | rfl | (simp; done))) ?_))
  refine Ops.m (qZ.buildS1 rfl zab zaq eQ jd jd rfl rfl) rfl ?_
  rintro _ w8 ⟨rfl, hF8⟩
  have hr8 : Rd w8 3 (some ⟨w7.heap.size, 0, none⟩) 1 (cqC (xa, (YA, yc, yb), xg)) := Rd.of_blk (n := 1) (size := 3) hF8.blk rfl
  have hlt7 := ho.lt
  have ho := ho.frm hF8.frm jp
  have hq := hq.frm hF8.frm
  have ho8 := ho7.frm hF8.frm jp
  have K := K.trans hF8.frm jp
  have ks8 := K.size
  refine Ops.m (qZ.app rfl rfl zab (qJi) rfl jd ho hr8 (gE _) jo jo) rfl ?_
  rintro _ w9 ⟨B9, d9, rfl, ho9, hf9, hob9⟩
  have k9 : Fk (ob B) w8 w9 (ob B9) := Fk.of_app hf9 hob9
  have e9 : ls.flatMap cqC ++ cqC (xa, (YA, yc, yb), xg) = (ls ++ [(xa, (YA, yc, yb), xg)]).flatMap cqC := jp
  rw [e9] at ho9
  have hYB : ∀ y ∈ ob YA, y ∉ ob B := fun y hy h => by have := hwl y h; have := hupY y hy; have := K3.size; omega
  have hYl8 := ho8.lt
  have hq9 := (hq.fk k9).snoc (x := (xa, (YA, yc, yb), xg)) (ho8.frm hf9 hYB) (fun y hy => ⟨⟨⟨zq (hYl8 y hy) hf9.size, k9.out (hYl8 y hy) (hYB y hy)⟩, by have := hupY y hy; omega⟩, fun z hz hyz => by have := hql z hz y hyz; have := hupY y hy; omega⟩)
  refine ja rfl (jO ?_)
  refine qH (jN ?_)
  refine jv3 0 3 4 ?_
  refine jR (jm rfl (jb rfl rfl (Bin.add_i64 _ 1 jo) (ja rfl (jO ?_))))
  refine jN ⟨(i + 1, B9, d9, ls ++ [(xa, (YA, yc, yb), xg)]), (js3 rfl (by rw [zd]; rfl) rfl), ?_, ?_⟩
  · exact ⟨hc2, by dsimp only; rw [zd]; exact ho9, hq9, by dsimp only; rw [hsn, ← hch, chL, zy]; rfl, K.own hf9 hup, k9.up hup ks8, by dsimp only; rw [zd, hll]; rfl⟩
  first | omega | (dsimp only; omega)
 refine jX ?_
 refine qJ (qJ (qR ?_))
 refine jN (jv1 3 ?_)
 refine jS (jR (jm rfl (ja rfl (jO (jN (jv1 2 ?_))))))
 refine jT ?_
 refine qB rfl ?_
 obtain rfl : i = n := jo
 rw [zf (jo : l.length ≤ i), hfe] at hch
 exact ⟨B, d, ls, rfl, ho, hq, hch, K, hup⟩
end
section
open Go.RowKit
abbrev Bq := Nat × List Nat
def bq0 : Bq := (0, [])
def bqC (x : Bq) : List Value := [.int .u64 ((x.1 : Nat) : Int), .string (kD x.2), .slice none 0 0, .int .u32 0]
theorem qJa (x : Bq) : (bqC x).length = 4 := rfl
theorem xE (x : Bq) : ∀ u ∈ bqC x, u.oneCell' = true := by
 intro u hu
 simp only [bqC, zl, zu, or_false] at hu
 rcases hu with rfl | rfl | rfl | rfl <;> rfl
structure RdB (w : World) (S : Option Addr) (n : Nat) (l : List Bq) : Prop where
 len : l.length = n
 rd : Rd w 4 S n (l.flatMap bqC)
 num : ∀ x ∈ l, x.1 < 18446744073709551616 ∧ ∀ b ∈ x.2, b < 256
theorem RdB.frm {w w' : World} {S : Option Addr} {n : Nat} {l : List Bq} (h : RdB w S n l) (k : Frm [] w w') : RdB w' S n l := ⟨h.len, h.rd.frm k jp, h.num⟩
theorem RdB.cell {w : World} {S : Option Addr} {n : Nat} {l : List Bq} (h : RdB w S n l) {k : Nat} (hk : k < n) : ∃ ad, S = some ad ∧ ∀ j v, (bqC (l.getD k bq0))[j]? = some v → w.cell? ((ad.add (k * 4)).add j) = some v := rdF bqC 4 qJa h.rd h.len hk bq0
theorem vG {l : List Bq} {i : Nat} (h : i < l.length) : l.getD i bq0 ∈ l := by
 rw [zc, zb h]
 exact zbi h
theorem xF {l : List Bq} {i : Nat} (h : i < l.length) : l.take (i + 1) = l.take i ++ [l.getD i bq0] := by
 rw [zbv, zb h, zc, zb h]
 rfl
theorem qX9 {a b : List Nat} (ha : ∀ x ∈ a, x < 256) (hb : ∀ x ∈ b, x < 256) : (kD a).data.toList = (kD b).data.toList ↔ a = b := ⟨qX0 ha hb, fun h => by rw [h]⟩
def pU (H : Hm) (l : List Bq) : Prop := ∀ x ∈ l, dE H x.1 = (0, x.2)
theorem qJb {H : Hm} (hk : H.dk.ok) (ho : H.ok) (id : Nat) : ∀ b ∈ (dE H id).2, b < 256 := by
 unfold dE
 split
 · intro b hb; cases hb
 next hid =>
 split
 · intro b hb; cases hb
 dsimp only
 split
 ·
  intro b hb
  have h1 := pP ho.srt (Classical.not_not.1 hid)
  have h2 := (ho.pg _ h1.2.1).1
  rw [h1.2.2] at h2
  exact vX H hk _ h2 b (zr hb)
 intro b hb; cases hb
set_option maxHeartbeats 1000000 in
theorem wT (S : Option Addr) (n c : Nat) (l : List Bq) (h g : Nat) (F : List Nat) (H : Hm) (q : HtQ) (w : World) (hH : IsHt w h g F H q) (hn : n ≤ 1000000) (hr : RdB w S n l) :
  Calls Try.prog 13 #[.pointer (some ⟨h, 0, none⟩), .slice S n c] w fun e w' => Frm [] w w' ∧ ∃ b, e = .returned (.bool b) ∧ (pU H l → H.pairs.length = l.length → b = true) := by
 have hln := hr.len
 have K0 := Frm.refl [] w
 have h600 := hH.ok.n600
 refine VC.calls (nt := 42) (res := #[.tmp 4]) Try.func13 rfl Try.ntmps13 Try.results13 rfl ?_
 refine jS (jR (ja rfl (jO (jN (jv2 0 1 ?_)))))
 refine jS (jS (jR (jz 0 (jO (jN (jB ?_))))))
 refine VC.loop (σ := Nat) (fun s => [(0, .pointer (some ⟨h, 0, none⟩)), (1, .slice S n c), (5, .int .i64 ((s : Nat) : Int))]) (fun s wr => s ≤ n ∧ Frm [] w wr) (fun s => n - s) 0 (js3 rfl rfl rfl) ⟨zg _, K0⟩ ?_
 rintro i wr ⟨hi, K⟩
 refine jS (jS (jR (jm rfl (jm rfl (je (Run.lenS rfl zbm) (jb rfl rfl (Bin.lssN _ _) (jO (jN (jv4 0 1 5 11 ?_)))))))))
 refine jD rfl (fun hc1 => ?_) fun hc1 => ?_
 ·
  obtain ⟨ad, hS, hel⟩ := (hr.frm K).cell hc1
  subst hS
  have hmem := vG (jo : i < l.length)
  have hxn := hr.num _ hmem
  generalize hxe : l.getD i bq0 = x at hel hxn hmem
  obtain ⟨xk, xb⟩ := x
  dsimp only at hxn
  have helw : ∀ V, Frm [] wr V → ∀ j v, (bqC (xk, xb))[j]? = some v → V.cell? ((ad.add (i * 4)).add j) = some v := fun V hV => by
   obtain ⟨ad2, he, h2⟩ := ((hr.frm K).frm hV).cell hc1
   cases he
   rw [hxe] at h2
   exact h2
  refine jQ (jN (jv3 0 1 5 ?_))
  refine jS (jB (jS (jR (jm rfl (jm rfl (jm rfl (je (Run.indexS _ rfl rfl zbm zds jo) (jf rfl zet rfl zx (jl rfl zar (hel 0 _ rfl) ?_)))))))))
  refine Ops.cl (jE2 Try.call28) (sM xk h g F H q wr (hH.frm K) hxn.1) rfl ?_
  rintro e w2 ⟨GB, gd, rfl, hrG, hf2, hupG⟩
  refine ⟨_, rfl, ?_⟩
  have K := K.trans hf2 jp
  have hgl := qJb (hH.dk.ok) hH.ok xk
  have hgm : pU H l → dE H xk = (0, xb) := fun hm => hm _ hmem
  generalize dE H xk = gv at *
  obtain ⟨ge, gb⟩ := gv
  dsimp only at hrG hgl ⊢
  have hsi := qX9 hgl hxn.2
  refine jm rfl (je (Run.extract rfl rfl) (je (Run.extract rfl rfl) (ja rfl (ja rfl (jO (jN (jv5 0 1 5 6 7 ?_)))))))
  refine jS ?_
  refine VC.splitR [(0, .pointer (some ⟨h, 0, none⟩)), (1, .slice (some ad) n c), (5, .int .i64 ((i : Nat) : Int))] (qV w2) 35 (.bool (decide (¬ (gb = xb ∧ ge = 0)))) ?_ ?_
  ·
   refine VC.still jK jK ?_
   refine qM ?_
   refine qE (Run.strOf rfl ze zbh zed (rdU (hrG.drawn (qV.drew _)) hgl)) ?_
   refine qM ?_
   refine qM ?_
   refine qE (Run.indexS _ rfl rfl zbm zds jo) ?_
   refine qE (Run.fieldAddr rfl zet rfl Try.sizeOf9 jd) ?_
   refine qE (Run.load rfl Try.isAgg9 (helw _ (hf2.drawn (qV.drew _)) 1 _ rfl)) ?_
   refine qE (Run.neqStr rfl rfl) ?_
   by_cases hs31 : ¬ (kD gb).data.toList = (kD xb).data.toList
   ·
    refine qM ?_
    refine qU ?_
    refine qU ?_
    refine qE (Run.pickT rfl rfl au) ?_
    refine qD.nil ?_
    refine jN ⟨(js4 (jC (by simp only [hsi] at *; grind)) rfl rfl rfl), (qV.drew _)⟩
   refine qM ?_
   refine qG (Run.mv rfl) ?_
   refine qG (Run.bin rfl rfl (Bin.neqN _ 0)) ?_
   by_cases hs34 : ¬ ge = 0
   ·
    refine qE (Run.pickF rfl rfl au) ?_
    refine qD.nil ?_
    refine jN ⟨(js4 (jC (by simp only [hsi] at *; grind)) rfl rfl rfl), (qV.drew _)⟩
   refine qE (Run.pickF rfl rfl au) ?_
   refine qD.nil ?_
   refine jN ⟨(js4 (jC (by simp only [hsi] at *; grind)) rfl rfl rfl), (qV.drew _)⟩
  intro Γ w9 hΓ hd9
  refine jN (VC.sub _ hΓ ?_)
  refine jD rfl (fun hc2 => ?_) fun hc2 => ?_
  ·
   have hbad : ¬ pU H l := fun hm => hc2 ⟨congrArg (·.2) (hgm hm), congrArg (·.1) (hgm hm)⟩
   refine jS (jR (ja rfl (jO (jN (jv1 4 ?_)))))
   refine jT ?_
   refine qC (qN (qN (qC (qN (qB rfl ?_)))))
   exact ⟨K.drawn hd9, _, rfl, fun hm _ => absurd hm hbad⟩
  refine jQ ?_
  refine qH (jN ?_)
  refine jv3 0 1 5 ?_
  refine jR (jm rfl (jb rfl rfl (Bin.add_i64 _ 1 jo) (ja rfl (jO ?_))))
  refine jN ⟨i + 1, (js3 rfl rfl rfl), ?_, ?_⟩
  · exact ⟨hc1, K.drawn hd9⟩
  first | omega | (dsimp only; omega)
 refine jX ?_
 refine qJ (qJ (qR ?_))
 refine jN (jv2 0 1 ?_)
 refine jS (jR (jM ?_))
 refine Ops.cl (jE1 Try.call29) (qQo h g F H q wr (hH.frm K)) rfl ?_
 rintro e w3 ⟨IB, id, rfl, hoI, hf3, hupI⟩
 refine ⟨_, rfl, ?_⟩
 have K := K.trans hf3 jp
 refine je (Run.lenS rfl zcd) (jm rfl (je (Run.lenS rfl zbm) (jb rfl rfl (Bin.eqlN _ _) (ja rfl (jO (jN (jv1 4 ?_)))))))
 refine jT ?_
 refine qB rfl ?_
 exact ⟨K, _, rfl, fun _ hl => decide_eq_true (by rw [hl, hln])⟩
end
section
open Go.RowKit
def kU (l : List Bq) (c : Ch) : List Bq := (l.filter fun x => decide (x.1 ≠ c.1)) ++ if c.2.2 then [] else [(c.1, c.2.1)]
def gZ (l : List Bq) (cs : List Ch) : List Bq := cs.foldl kU l
theorem qQ0 (l : List Bq) (cs : List Ch) (c : Ch) : gZ l (cs ++ [c]) = kU (gZ l cs) c := by unfold gZ; rw [zel]; rfl
theorem wU {p : Bq → Bool} {l : List Bq} {i : Nat} (h : i < l.length) : (l.take (i + 1)).filter p = (l.take i).filter p ++ if p (l.getD i bq0) then [l.getD i bq0] else [] := by
 rw [xF h, zdh]
 congr 1
 by_cases hp : p (l.getD i bq0)
 · rw [if_pos hp, zea hp]; rfl
 rw [if_neg hp, zdd hp]; rfl
set_option maxHeartbeats 1000000 in
theorem qQ1 (S SC : Option Addr) (n c nc cc : Nat) (l : List Bq) (cs : List Cq) (w : World) (hn : n ≤ 1000000) (hnc : nc ≤ 100000) (hr : RdB w S n l) (hrc : RdC w SC nc cs) :
  Calls Try.prog 8 #[.slice S n c, .slice SC nc cc] w fun e w' => ∃ B m d, e = .returned (.slice B m d) ∧ RdB w' B m (gZ l (chL cs)) ∧ Frm [] w w' ∧ ∀ y ∈ ob B, y ∈ ob S ∨ (w.heap.size ≤ y ∧ y < w'.heap.size) := by
 have hln := hrc.len
 have hll := hr.len
 have K0 := Frm.refl [] w
 refine VC.calls (nt := 61) (res := #[.tmp 4]) Try.func8 rfl Try.ntmps8 Try.results8 rfl ?_
 refine jS (jR (ja rfl (jO (jN (jv2 0 1 ?_)))))
 refine jS (jS (jR (jz 0 (jO (jN (jB ?_))))))
 refine VC.loop (σ := Nat × Option Addr × Nat × Nat × List Bq) (fun s => [(0, .slice s.2.1 s.2.2.1 s.2.2.2.1), (1, .slice SC nc cc), (5, .int .i64 ((s.1 : Nat) : Int))]) (fun s wr => s.1 ≤ nc ∧ RdB wr s.2.1 s.2.2.1 s.2.2.2.2 ∧ s.2.2.2.2 = gZ l (chL (cs.take s.1)) ∧ Frm [] w wr ∧ s.2.2.1 ≤ n + s.1 ∧ ∀ y ∈ ob s.2.1, y ∈ ob S ∨ (w.heap.size ≤ y ∧ y < wr.heap.size)) (fun s => nc - s.1) (0, S, n, c, l) (js3 rfl rfl rfl) ⟨zg _, hr, rfl, K0, zm _, fun y hy => .inl hy⟩ ?_
 rintro ⟨i, A, m, ca, ls⟩ wr0 ⟨hi, hA, hls, K, hm, hAo⟩
 dsimp only at hi hA hls hm hAo ⊢
 have hAl := hA.len
 refine jS (jS (jR (jm rfl (jm rfl (je (Run.lenS rfl zab) (jb rfl rfl (Bin.lssN _ _) (jO (jN (jv4 0 1 5 11 ?_)))))))))
 refine jD rfl (fun hc1 => ?_) fun hc1 => ?_
 ·
  have hcm := eE (jo : i < cs.length)
  have hcn := hrc.num _ hcm
  have hco := hrc.oct _ hcm
  have hce := hrc.el _ hcm
  have hcs := gQ (jo : i < cs.length)
  obtain ⟨adc, hSC, -⟩ := (hrc.frm K).cell hc1
  have helc : ∀ V, Frm [] w V → ∀ j v, (cqC (cs.getD i cq0))[j]? = some v → V.cell? ((adc.add (i * 3)).add j) = some v := fun V hV => by
   obtain ⟨ad2, he, h2⟩ := (hrc.frm hV).cell hc1
   rw [hSC] at he
   cases he
   exact h2
  subst hSC
  generalize cs.getD i cq0 = x at helc hcn hco hce hcs
  obtain ⟨xa, ⟨xA, xc, xb⟩, xg⟩ := x
  dsimp only [chO] at hcn hco hce hcs
  refine jQ (jN (jv3 0 1 5 ?_))
  refine jS (jB (jS (jR (ja rfl (jO (jN (jS (jS (jR (jz 0 (jO (jN (jB ?_)))))))))))))
  refine VC.loop (σ := Nat × Option Addr × Nat × List Bq) (fun s => [(0, .slice A m ca), (1, .slice (some adc) nc cc), (5, .int .i64 ((i : Nat) : Int)), (6, .slice s.2.1 s.2.2.2.length s.2.2.1), (7, .int .i64 ((s.1 : Nat) : Int))]) (fun s wr => s.1 ≤ m ∧ Own wr 43 4 s.2.1 s.2.2.2.length s.2.2.1 (s.2.2.2.flatMap bqC) ∧ s.2.2.2 = (ls.take s.1).filter (fun x => decide (x.1 ≠ xa)) ∧ Frm [] wr0 wr ∧ ∀ y ∈ ob s.2.1, wr0.heap.size ≤ y) (fun s => m - s.1) (0, none, 0, []) (js5 rfl rfl rfl rfl rfl) ⟨zg _, Own.nil _ _ _, rfl, Frm.refl _ _, by simp [ob]⟩ ?_
  rintro ⟨k, B, d, os⟩ wr ⟨hk, ho, hos, K1, hup⟩
  dsimp only at hk ho hos hup ⊢
  have ks1 := K1.size
  have hol : os.length ≤ k := by rw [hos]; have := zcx (fun x : Bq => decide (x.1 ≠ xa)) (ls.take k); rw [zi] at this; omega
  refine jS (jS (jR (jm rfl (jm rfl (je (Run.lenS rfl zbm) (jb rfl rfl (Bin.lssN _ _) (jO (jN (jv6 0 1 5 6 7 17 ?_)))))))))
  refine jD rfl (fun hc2 => ?_) fun hc2 => ?_
  ·
   obtain ⟨adb, hAA, -⟩ := (hA.frm K1).cell hc2
   have helb : ∀ V, Frm [] wr0 V → ∀ j v, (bqC (ls.getD k bq0))[j]? = some v → V.cell? ((adb.add (k * 4)).add j) = some v := fun V hV => by
    obtain ⟨ad2, he, h2⟩ := (hA.frm hV).cell hc2
    rw [hAA] at he
    cases he
    exact h2
   subst hAA
   have hyn := (hA.num _ (vG (jo : k < ls.length))).1
   have hfs := wU (p := fun x => decide (x.1 ≠ xa)) (jo : k < ls.length)
   generalize ls.getD k bq0 = y at helb hyn hfs
   obtain ⟨yk, yb⟩ := y
   dsimp only at hyn
   have hd := qV.drew wr
   have K1d := K1.drawn hd
   have hod := ho.drawn hd
   refine jQ (jN (jv5 0 1 5 6 7 ?_))
   refine jS (jB (jS ?_))
   refine VC.still jK jK ?_
   refine qM ?_
   refine qM ?_
   refine qE (Run.indexS _ rfl rfl zbm zds jo) ?_
   refine qE (Run.fieldAddr rfl zet rfl zx jd) ?_
   refine qE (Run.load rfl zar (helb _ K1d 0 _ rfl)) ?_
   refine qM ?_
   refine qM ?_
   refine qE (Run.indexS _ rfl rfl zab zaq jo) ?_
   refine qE (Run.fieldAddr rfl zp rfl zx jd) ?_
   refine qE (Run.load rfl zar (helc _ (K.trans K1d jp) 0 _ rfl)) ?_
   refine qE (Run.bin rfl rfl (Bin.neqN _ _)) ?_
   refine qD.nil ?_
   refine jN (jv6 0 1 5 6 7 30 ?_)
   refine jD rfl (fun hc3 => ?_) fun hc3 => ?_
   ·
    rw [if_pos (decide_eq_true hc3)] at hfs
    refine jR (jm rfl (jm rfl (jm rfl (je (Run.indexS _ rfl rfl zbm zds jo) (je (Run.loadA rfl Try.isAgg43 zds (helb _ K1d) (by first | rfl | (simp; done))) ?_)))))
    refine Ops.m (qZ.buildS1 rfl zbm zds tV jd jd rfl rfl) rfl ?_
    rintro _ w5 ⟨rfl, hF5⟩
    have hr5 : Rd w5 4 (some ⟨wr.drew.heap.size, 0, none⟩) 1 (bqC (yk, yb)) := Rd.of_blk (n := 1) (size := 4) hF5.blk rfl
    have hod := hod.frm hF5.frm jp
    have K1d := K1d.trans hF5.frm jp
    have ks5 := K1d.size
    refine Ops.m (qZ.app rfl rfl zbm (zN) rfl jd hod hr5 (xE _) jo jo) rfl ?_
    rintro _ w6 ⟨B6, d6, rfl, ho6, hf6, hob6⟩
    have e6 : os.flatMap bqC ++ bqC (yk, yb) = (os ++ [(yk, yb)]).flatMap bqC := jp
    rw [e6] at ho6
    refine ja rfl (jO ?_)
    refine qH (jN ?_)
    refine jv5 0 1 5 6 7 ?_
    refine jR (jm rfl (jb rfl rfl (Bin.add_i64 _ 1 jo) (ja rfl (jO ?_))))
    refine jN ⟨(k + 1, B6, d6, os ++ [(yk, yb)]), (js5 rfl rfl rfl (by rw [zd]; rfl) rfl), ?_, ?_⟩
    · exact ⟨hc2, by dsimp only; rw [zd]; exact ho6, by dsimp only; rw [hfs, hos], K1d.own hf6 hup, (Fk.of_app hf6 hob6).up hup ks5⟩
    first | omega | (dsimp only; omega)
   rw [if_neg (by simpa using hc3), zbg] at hfs
   refine jQ ?_
   refine qH (jN ?_)
   refine jv5 0 1 5 6 7 ?_
   refine jR (jm rfl (jb rfl rfl (Bin.add_i64 _ 1 jo) (ja rfl (jO ?_))))
   refine jN ⟨(k + 1, B, d, os), (js5 rfl rfl rfl rfl rfl), ?_, ?_⟩
   · exact ⟨hc2, hod, by dsimp only; rw [hfs, hos], K1d, hup⟩
   first | omega | (dsimp only; omega)
  refine jX ?_
  refine qJ (qJ (qR ?_))
  refine jN (jv3 1 5 6 ?_)
  refine jS (jR (jM ?_))
  have hkm : k = m := jo
  rw [hkm, zf (jo : ls.length ≤ m)] at hos
  have Kw := K.trans K1 jp
  have hst : gZ l (chL (cs.take (i + 1))) = os ++ if xg then [] else [(xa, xb)] := by rw [hcs, qQ0, ← hls, hos]; rfl
  have hosn : ∀ z ∈ os, z.1 < 18446744073709551616 ∧ ∀ b ∈ z.2, b < 256 := fun z hz => by rw [hos] at hz; exact hA.num z (List.mem_filter.1 hz).1
  have hupw : ∀ y ∈ ob B, w.heap.size ≤ y := fun y hy => by have := hup y hy; have := K.size; omega
  refine ja rfl (jO (jN (jv3 0 1 5 ?_)))
  refine jS (jR (jm rfl (jm rfl (je (Run.indexS _ rfl rfl zab zaq jo) (jf rfl zp rfl zco (jl rfl zep (helc _ Kw 2 _ rfl) (je (Run.not rfl) (jO (jN (jv4 0 1 5 44 ?_))))))))))
  refine VC.condB rfl (fun hc4 => ?_) (fun hc4 => ?_)
  ·
   have hgg : xg = false := by simpa using hc4
   rw [if_neg (by simp [hgg])] at hst
   refine VC.held (fun V => Frm (ob B) wr V) jK ?_
   have hS : Frm (ob B) wr wr.drew := (Frm.refl _ _).drew
   have hrx : ∀ V, Frm (ob B) wr V → Rd V 1 xA xb.length (U8 (xb.map UInt8.ofNat)) := fun V hV => rdU (hce.1.frm (Kw.own hV hupw) jp) hco
   refine jH 0 rfl hS (fun w0 hw0 => Run.mv rfl) ?_
   refine jH 1 rfl hS (fun w0 hw0 => Run.mv rfl) ?_
   refine jH 2 rfl hS (fun w0 hw0 => Run.mv rfl) ?_
   refine jH 3 rfl hS (fun w0 hw0 => Run.indexS _ rfl rfl zab zaq jo) ?_
   refine jH 4 rfl hS (fun w0 hw0 => Run.fieldAddr rfl zp rfl zx jd) ?_
   refine jH 5 rfl hS (fun w0 hw0 => Run.load rfl zar (helc w0 (Kw.own hw0 hupw) 0 _ rfl)) ?_
   refine jH 6 rfl hS (fun w0 hw0 => Run.mv rfl) ?_
   refine jH 7 rfl hS (fun w0 hw0 => Run.mv rfl) ?_
   refine jH 8 rfl hS (fun w0 hw0 => Run.indexS _ rfl rfl zab zaq jo) ?_
   refine jH 9 rfl hS (fun w0 hw0 => Run.fieldAddr rfl zp rfl zn jd) ?_
   refine jH 10 rfl hS (fun w0 hw0 => Run.load rfl zaj (helc w0 (Kw.own hw0 hupw) 1 _ rfl)) ?_
   refine jH 11 rfl hS (fun w0 hw0 => Run.strOf rfl ze zbh zed (hrx w0 hw0)) ?_
   refine jH 12 rfl hS (fun w0 hw0 => Run.build (evs.cons rfl (evs.cons rfl evs.nil)) tV (tY).choose_spec.1 (tY).choose_spec.2 (cells := (bqC (xa, xb)).toArray) rfl) ?_
   refine qQ.m 13 rfl jK (qZ.buildS1 rfl zbm zds tV jd jd rfl rfl) trivial rfl rfl ?_
   rintro _ w5 ⟨rfl, hF5⟩
   have hS := hS.trans hF5.frm jp
   refine ⟨hS, ?_⟩
   have hr5 : Rd w5 4 (some ⟨wr.drew.heap.size, 0, none⟩) 1 (bqC (xa, xb)) := Rd.of_blk (n := 1) (size := 4) hF5.blk rfl
   have ho := (ho.drawn (qV.drew _)).frm hF5.frm jp
   refine qQ.m 14 rfl jK (qZ.app rfl rfl zbm (zN) rfl jd ho hr5 (xE _) jo jo) trivial rfl rfl ?_
   rintro _ w6 ⟨B6, d6, rfl, ho6, hf6, hob6⟩
   have ks5 := (Kw.own hS hupw).size
   have hS := hS.trans hf6 (fun y hy => .inl hy)
   refine ⟨hS, ?_⟩
   have e6 : os.flatMap bqC ++ bqC (xa, xb) = (os ++ [(xa, xb)]).flatMap bqC := jp
   rw [e6] at ho6
   refine jH 15 rfl hS (fun w0 hw0 => Run.asg rfl) ?_
   refine qQ.done jK ?_
   refine qH (jN ?_)
   refine jv3 0 1 5 ?_
   refine jR (jm rfl (jb rfl rfl (Bin.add_i64 _ 1 jo) (ja rfl (jO ?_))))
   refine jN ⟨(i + 1, B6, os.length + 1, d6, os ++ [(xa, xb)]), (js3 rfl rfl rfl), ?_, ?_⟩
   ·
    exact ⟨hc1, ⟨jp, ho6.rd, fun z hz => by
     rcases zbs.1 hz with hz | hz
     · exact hosn z hz
     rw [za] at hz; subst hz; exact ⟨hcn.1, hco⟩⟩, hst.symm, Kw.own hS hupw, by dsimp only; omega, fun y hy => .inr ⟨(Fk.of_app hf6 hob6).up hupw ks5 y hy, ho6.lt y hy⟩⟩
   first | omega | (dsimp only; omega)
  have hgg : xg = true := by simpa using hc4
  rw [if_pos hgg, zbg] at hst
  refine jQ ?_
  refine qH (jN ?_)
  refine jv3 0 1 5 ?_
  refine jR (jm rfl (jb rfl rfl (Bin.add_i64 _ 1 jo) (ja rfl (jO ?_))))
  refine jN ⟨(i + 1, B, os.length, d, os), (js3 rfl rfl rfl), ?_, ?_⟩
  · exact ⟨hc1, ⟨rfl, ho.rd, hosn⟩, hst.symm, Kw, by dsimp only; omega, fun y hy => .inr ⟨hupw y hy, ho.lt y hy⟩⟩
  first | omega | (dsimp only; omega)
 refine jX ?_
 refine qJ (qJ (qR ?_))
 refine jN (jv1 0 ?_)
 refine jS (jR (jm rfl (ja rfl (jO (jN (jv1 4 ?_))))))
 refine jT ?_
 refine qB rfl ?_
 obtain rfl : i = nc := jo
 rw [zf (jo : cs.length ≤ i)] at hls
 exact ⟨A, m, ca, rfl, by rw [← hls]; exact hA, K, hAo⟩
end
section
open Go.RowKit
theorem sD {H : Hm} {B : Nat → List Nat} {l : List Ch} (h : InvH H B) (h0 : (qP H l).1 = 0) (hb : ∀ c ∈ l, c.1 < 18446744073709551616 ∧ ∀ b ∈ c.2.1, b < 256) :
  (qP H l).2.dir = ((bZ H.N H.used).take (qO H l)).drop (sumN l) ∧ (∀ x, x ∈ (qP H l).2.pairs ↔ (x ∈ H.pairs ∧ x.1 ∉ l.map (·.1)) ∨ ∃ e ∈ bT l ((bZ H.N H.used).take (qO H l)), x = bE e.1 e.2.1 e.2.2) ∧
   (∀ id, id ∉ l.map (·.1) → (qP H l).2.lies id = H.lies id) ∧ ∀ e ∈ bT l ((bZ H.N H.used).take (qO H l)), (qP H l).2.lies e.1 = e.2.2 := by
 by_cases hm : bF l
 ·
  by_cases hg : cL H l
  ·
   by_cases hn : 600 < cV H l ∨ 40 < qO H l + 1
   ·
    have e : qP H l = (5, H) := by unfold qP; rw [if_neg (not_not_intro hm), if_neg (not_not_intro hg), if_pos hn]
    rw [e] at h0; cases h0
   by_cases hf : H.N - cntS H.N H.used < qO H l
   ·
    have e : qP H l = (5, H) := by unfold qP; rw [if_neg (not_not_intro hm), if_neg (not_not_intro hg), if_neg hn, if_pos hf]
    rw [e] at h0; cases h0
   obtain ⟨s1, s2, s3, s4, s5, s6⟩ := jI h hm hb jo jo jo
   have e : qP H l = (0, (H.plan (bX H.dk (bJ H l).puts).2 (bJ H l)).count) := by unfold qP; rw [if_neg (not_not_intro hm), if_neg (not_not_intro hg), if_neg hn, if_neg hf, if_neg (not_not_intro s1)]
   rw [e]
   have gz : kP l := fun x hx hg => (hm.2 x hx).2 hg
   have hcl := lG H.N H.used
   have hfl : ((bZ H.N H.used).take (qO H l)).length = qO H l := by rw [zi, kY]; omega
   have hsn : sumN l ≤ qO H l := by unfold qO; omega
   obtain ⟨f1, f2, f3, f4, f5⟩ := kT l ⟨[], H.pairs, (bZ H.N H.used).take (qO H l), H.lies⟩ hm.1 gz (by dsimp only; omega)
   refine ⟨?_, s5, f4, f5⟩
   show (bJ H l).dir = _
   have htl : (bW (bJ H l).pairs).length = pagesM (cV H l) := by
    rw [mL]
    exact congrArg pagesM (sO _ _ _ _)
   have e2 : (bJ H l).dir = (qF H l ((bZ H.N H.used).take (qO H l))).free.take (bW (bJ H l).pairs).length := rfl
   rw [e2, show (qF H l ((bZ H.N H.used).take (qO H l))).free = ((bZ H.N H.used).take (qO H l)).drop (sumN l) from f2, zf]
   rw [zj, hfl, htl]
   unfold qO pagesT
   rw [if_pos jo]
   omega
  have e : qP H l = (6, H) := by unfold qP; rw [if_neg (not_not_intro hm), if_pos hg]
  rw [e] at h0; cases h0
 have e : qP H l = (1, H) := by unfold qP; rw [if_pos hm]
 rw [e] at h0; cases h0
theorem qJc {H : Hm} {B : Nat → List Nat} (h : InvH H B) : bZ H.N H.used = (List.range H.N).filter fun p => decide (p ∉ bM H) := by
 unfold bZ
 exact zem fun p hp => by rw [h.used p (List.mem_range.1 hp)]; simp
theorem xI {H : Hm} {B : Nat → List Nat} (h : InvH H B) : (List.range H.N).filter H.used = (List.range H.N).filter fun p => decide (p ∈ bM H) :=
 zem fun p hp => by rw [h.used p (List.mem_range.1 hp)]
theorem qZa {H : Hm} {B : Nat → List Nat} (h : InvH H B) : ((List.range H.N).filter H.used).length = (bM H).length := by
 rw [← (gX h).1, cntS, List.countP_eq_length_filter]
end
section
open Go.RowKit
theorem qQ2 (l : List Bq) (c : Ch) (x : Bq) : x ∈ kU l c ↔ (x ∈ l ∧ x.1 ≠ c.1) ∨ (c.2.2 = false ∧ x = (c.1, c.2.1)) := by
 unfold kU
 rw [zbs, List.mem_filter, decide_eq_true_eq]
 cases h : c.2.2 <;> simp
theorem wB {l : List Bq} (h : (l.map (·.1)).Nodup) (c : Ch) : ((kU l c).map (·.1)).Nodup := by
 unfold kU
 rw [zy, zdn]
 refine ⟨h.sublist (zdf.map _), ?_, fun a ha b hb e => ?_⟩
 · cases c.2.2 <;> simp
 obtain ⟨x, hx, rfl⟩ := List.mem_map.1 ha
 have h1 := (List.mem_filter.1 hx).2
 rw [decide_eq_true_eq] at h1
 cases hc : c.2.2 with
 | true => rw [hc] at hb; simp at hb
 | false =>
  rw [hc] at hb
  simp at hb
  exact h1 (by rw [e, hb])
theorem jL : ∀ (cs : List Ch) (l : List Bq), (cs.map (·.1)).Nodup → ∀ x, x ∈ gZ l cs ↔ (x ∈ l ∧ x.1 ∉ cs.map (·.1)) ∨ ∃ c ∈ cs, c.2.2 = false ∧ x = (c.1, c.2.1)
 | [], l, _, x => by simp [gZ]
 | c :: r, l, hn, x => by
  rw [zay, List.nodup_cons] at hn
  rw [show gZ l (c :: r) = gZ (kU l c) r from rfl, jL r (kU l c) hn.2 x, qQ2]
  simp only [zay, zl, not_or, exists_eq_or_imp]
  constructor
  ·
   rintro (⟨h1 | h1, h2⟩ | h1)
   · exact .inl ⟨h1.1, h1.2, h2⟩
   · exact .inr (.inl h1)
   exact .inr (.inr h1)
  rintro (⟨h1, h2, h3⟩ | h1 | h1)
  · exact .inl ⟨.inl ⟨h1, h2⟩, h3⟩
  ·
   refine .inl ⟨.inr h1, ?_⟩
   rw [h1.2]
   exact hn.1
  exact .inr h1
theorem pB : ∀ (cs : List Ch) {l : List Bq}, (l.map (·.1)).Nodup → ((gZ l cs).map (·.1)).Nodup
 | [], l, h => h
 | c :: r, l, h => pB r (wB h c)
structure HasI (H : Hm) (B : Nat → List Nat) (l : List Bq) : Prop where
 nod : (l.map (·.1)).Nodup
 key : ∀ id, id ∈ H.pairs.map (·.1) ↔ id ∈ l.map (·.1)
 oct : ∀ x ∈ l, B x.1 = x.2
theorem qZb {H H' : Hm} {B : Nat → List Nat} {l : List Bq} {cs : List Ch} (h : HasI H B l) (hm : bF cs) (hk : ∀ id, id ∈ H'.pairs.map (·.1) ↔ (id ∈ H.pairs.map (·.1) ∧ id ∉ cs.map (·.1)) ∨ ∃ c ∈ cs, c.2.2 = false ∧ c.1 = id) : HasI H' (dN B cs) (gZ l cs) := by
 refine ⟨pB cs h.nod, fun id => ?_, fun x hx => ?_⟩
 ·
  rw [hk id, h.key id]
  constructor
  ·
   rintro (⟨h1, h2⟩ | ⟨c, hc, hg, rfl⟩)
   ·
    obtain ⟨x, hx, rfl⟩ := List.mem_map.1 h1
    exact List.mem_map.2 ⟨x, (jL cs l hm.1 x).2 (.inl ⟨hx, h2⟩), rfl⟩
   exact List.mem_map.2 ⟨(c.1, c.2.1), (jL cs l hm.1 _).2 (.inr ⟨c, hc, hg, rfl⟩), rfl⟩
  intro h1
  obtain ⟨x, hx, rfl⟩ := List.mem_map.1 h1
  rcases (jL cs l hm.1 x).1 hx with ⟨h2, h3⟩ | ⟨c, hc, hg, rfl⟩
  · exact .inl ⟨List.mem_map.2 ⟨x, h2, rfl⟩, h3⟩
  exact .inr ⟨c, hc, hg, rfl⟩
 rcases (jL cs l hm.1 x).1 hx with ⟨h2, h3⟩ | ⟨c, hc, hg, rfl⟩
 · rw [vW h3, h.oct x h2]
 exact oU hm.1 hc hg
theorem nN {H : Hm} {B : Nat → List Nat} {l : List Bq} (hI : InvH H B) (h : HasI H B l) : pU H l ∧ H.pairs.length = l.length := by
 refine ⟨fun x hx => ?_, ?_⟩
 · rw [xD hI ((h.key x.1).2 (List.mem_map.2 ⟨x, hx, rfl⟩)), h.oct x hx]
 have hn : (H.pairs.map (·.1)).Nodup := by
  rw [zcu, zfj]
  exact hI.ok.srt.imp fun hlt => jo
 have := ((List.perm_ext_iff_of_nodup hn h.nod).2 h.key).length_eq
 simpa using this
theorem qQ3 {H : Hm} {B : Nat → List Nat} {l : List Bq} (hI : InvH H B) (h : HasI H B l) (hd : H.dir.length = pagesM H.pairs.length) : (bM H).length = (l.map fun x => needsM x.2.length).sum + pagesM l.length := by
 have hn : (H.pairs.map (·.1)).Nodup := by
  rw [zcu, zfj]
  exact hI.ok.srt.imp fun hlt => jo
 have hp := (List.perm_ext_iff_of_nodup hn h.nod).2 h.key
 have h1 : (cW H H.pairs).length = ((H.pairs.map (·.1)).map fun id => needsM (B id).length).sum := by
  unfold cW
  rw [List.length_flatMap, zcp]
  congr 1
  exact zde fun x hx => (hI.blob x hx).2.1
 have h2 : (l.map fun x => needsM x.2.length) = (l.map (·.1)).map fun id => needsM (B id).length := by
  rw [zcp]
  exact zde fun x hx => by simp only [Function.comp]; rw [h.oct x hx]
 unfold bM
 rw [zd, h1, h2, hd, (nN hI h).2, (hp.map _).sum_nat]
 omega
theorem qQ4 (lv : Nat) (h : 1 < lv) : dM lv = lv + dM ((lv + 11) / 12) := by
 rw [dM, dif_neg jo]
 have : abvM lv 12 = (lv + 11) / 12 := by unfold abvM; omega
 rw [this]
theorem qQ5 (n : Nat) : pagesM n = dM (if (n + 6) / 7 = 0 then 1 else (n + 6) / 7) := by
 unfold pagesM
 have : abvM n 7 = if (n + 6) / 7 = 0 then 1 else (n + 6) / 7 := by unfold abvM; split <;> omega
 rw [this]
end
section
open Go.RowKit
theorem qZc {H : Hm} {l : List Ch} (hm : bF l) (hg : ¬ cL H l) : (qP H l).1 = 6 := by
 unfold qP
 rw [if_neg (not_not_intro hm), if_pos hg]
def qI : Hm := (qP (bC (bR (Dk.new 51)).2) []).2
def exL (D : List Nat) : List Ch := [(5, D, false)]
theorem qQ6 : (∃ B, InvH qI B) ∧ qI.N = 9 ∧ bM qI = [0] ∧ qI.pairs = [] := by
 have hl : (Dk.new 51).has.length = 51 := by simp [Dk.new]
 have hp : Pow (Dk.new 51) := ⟨rfl, rfl⟩
 obtain ⟨f1, f2, f3, f4, f5, f6, f7, f8, f9⟩ := mM hp jo jo
 obtain ⟨u1, u2, u3⟩ := qQy hp jo
 have hlf := oT (Dk.new 51)
 have hi := vY u2 u3 jo jo (fun _ => [])
 obtain ⟨g1, -⟩ := sD hi f5 (fun c hc => by cases hc)
 have hN0 : (bC (bR (Dk.new 51)).2).N = 9 := by unfold Hm.N bC; dsimp only; omega
 have hbn : qO (bC (bR (Dk.new 51)).2) [] = 1 := by
  have hpm : pagesM 0 = 1 := by unfold pagesM; rw [show abvM 0 7 = 1 from rfl, dM, dif_pos jo]
  unfold qO
  rw [show cV (bC (bR (Dk.new 51)).2) [] = 0 from rfl, pagesT, if_pos jo, hpm]
  rfl
 have hps : qI.pairs = [] := by
  cases hc : qI.pairs with
  | nil => rfl
  | cons a r => exact absurd (List.mem_map.2 ⟨a, by rw [show (qP (bC (bR (Dk.new 51)).2) []).2.pairs = a :: r from hc]; simp, rfl⟩) (f9 a.1)
 have hN : qI.N = 9 := by unfold Hm.N qI; omega
 have hd : qI.dir = [0] := by
  unfold qI
  rw [g1, hN0, hbn]
  rfl
 refine ⟨⟨_, f6⟩, hN, ?_, hps⟩
 unfold bM
 rw [hd, hps]
 rfl
theorem qJw {D : List Nat} (hD : D.length = 200) (hb : ∀ b ∈ D, b < 256) : ∃ B, InvH (qP qI (exL D)).2 B ∧ (qP qI (exL D)).1 = 0 ∧ (qP qI (exL D)).2.N = 9 ∧ bM (qP qI (exL D)).2 = [3, 1, 2] ∧ dE (qP qI (exL D)).2 5 = (0, D) ∧ (qP (qP qI (exL D)).2 [(5, [], true), (6, [], true)]).1 = 6 := by
 obtain ⟨⟨B, hi⟩, hN, hw, hps⟩ := qQ6
 have hm : bF (exL D) := ⟨by simp [exL], fun x hx => by rw [exL, za] at hx; subst hx; exact ⟨by dsimp only; omega, fun h => by cases h⟩⟩
 have hg : cL qI (exL D) := fun x hx h => by rw [exL, za] at hx; subst hx; cases h
 have hbb : ∀ c ∈ exL D, c.1 < 18446744073709551616 ∧ ∀ b ∈ c.2.1, b < 256 := fun c hc => by rw [exL, za] at hc; subst hc; exact ⟨by dsimp only; omega, hb⟩
 have hnd : needsM D.length = 2 := by rw [hD]; rfl
 have hbp : cV qI (exL D) = 1 := by
  unfold cV qF exL
  rw [hps]
  rfl
 have hsn : sumN (exL D) = 2 := by simp [sumN, exL, hnd]
 have hbn : qO qI (exL D) = 3 := by
  have hpm : pagesM 1 = 1 := by unfold pagesM; rw [show abvM 1 7 = 1 from rfl, dM, dif_pos jo]
  unfold qO
  rw [hbp, hsn, pagesT, if_pos jo, hpm]
 have hc : cntS qI.N qI.used = 1 := by rw [(gX hi).1, hw]; rfl
 obtain ⟨s1, s2, s3, s4, s5, s6⟩ := jI hi hm hbb jo jo jo
 have e : qP qI (exL D) = (0, (qI.plan (bX qI.dk (bJ qI (exL D)).puts).2 (bJ qI (exL D))).count) := by unfold qP; rw [if_neg (not_not_intro hm), if_neg (not_not_intro hg), if_neg jo, if_neg jo, if_neg (not_not_intro s1)]
 have h0 : (qP qI (exL D)).1 = 0 := by rw [e]
 obtain ⟨g1, g2, g3, g4⟩ := sD hi h0 hbb
 have hfr : (bZ qI.N qI.used).take (qO qI (exL D)) = [1, 2, 3] := by
  rw [qJc hi, hw, hN, hbn]
  rfl
 rw [hfr, hsn] at g1
 rw [hfr] at g2 g4
 have hnw : bT (exL D) [1, 2, 3] = [(5, D, [1, 2])] := by
  rw [exL, bT, if_neg jp]
  dsimp only
  rw [hnd]
  rfl
 rw [hnw] at g2 g4
 have hl5 := g4 (5, D, [1, 2]) jp
 have hmem : bE 5 D [1, 2] ∈ (qP qI (exL D)).2.pairs := (g2 _).2 (.inr ⟨(5, D, [1, 2]), jp, rfl⟩)
 have hI2 : InvH (qP qI (exL D)).2 (dN B (exL D)) := by rw [e]; exact s4
 have hp2 : (qP qI (exL D)).2.pairs = [bE 5 D [1, 2]] := by
  have hln : (qP qI (exL D)).2.pairs.length = 1 := by
   rw [e]
   show (bJ qI (exL D)).pairs.length = 1
   exact (sO qI (exL D) _ []).trans hbp
  match hq : (qP qI (exL D)).2.pairs with
  | [] => rw [hq] at hln; cases hln
  | [a] => rw [hq] at hmem; rw [za] at hmem; rw [hmem]
  | a :: b :: r => rw [hq] at hln; simp at hln
 have hk5 : 5 ∈ (qP qI (exL D)).2.pairs.map (·.1) := List.mem_map.2 ⟨_, hmem, rfl⟩
 refine ⟨_, hI2, h0, ?_, ?_, ?_, ?_⟩
 ·
  rw [e]
  show (bX qI.dk (bJ qI (exL D)).puts).2.has.length - 42 = 9
  rw [eA]
  exact hN
 ·
  unfold bM cW
  rw [g1, hp2]
  show [3] ++ ((qP qI (exL D)).2.lies 5 ++ []) = _
  rw [hl5]
  rfl
 ·
  rw [xD hI2 hk5]
  have := oU (B := B) (l := exL D) hm.1 (c := (5, D, false)) (by simp [exL]) rfl
  rw [show dN B (exL D) 5 = D from this]
 have hm2 : bF [(5, [], true), (6, [], true)] := ⟨jp, fun x hx => by simp at hx; rcases hx with rfl | rfl <;> exact ⟨jp, fun _ => rfl⟩⟩
 have hg2 : ¬ cL (qP qI (exL D)).2 [(5, [], true), (6, [], true)] := fun hg => by
  have := hg (6, [], true) jp rfl
  rw [hp2] at this
  simp [bE] at this
 exact qZc hm2 hg2
end
section
open Go.RowKit
set_option maxHeartbeats 1000000 in
theorem wC (w : World) : Calls Try.prog 14 #[] w fun e w' => e = .returned (.bool true) ∧ Frm [] w w' := by
 have hl : (Dk.new 51).has.length = 51 := by simp [Dk.new]
 have hp : Pow (Dk.new 51) := ⟨rfl, rfl⟩
 obtain ⟨f1, f2, f3, f4, f5, f6, f7, f8, f9⟩ := mM hp jo jo
 obtain ⟨⟨B1, hi1⟩, hN1, hw1, hps1⟩ := qQ6
 refine VC.calls (nt := 124) (res := #[.tmp 0]) Try.func14 rfl Try.ntmps14 Try.results14 rfl ?_
 refine jS (jR (ja rfl (jO (jN ?_))))
 refine VC.sub [] .nil ?_
 refine jS (jR ?_)
 refine Ops.cl (jE1 Try.call4) (rT 51 w jo jo) rfl ?_
 rintro e w1 ⟨g, F, rfl, hD, K, hupF⟩
 refine ⟨_, rfl, ?_⟩
 have K0 := K
 refine jm rfl (je (Run.extract rfl rfl) (je (Run.extract rfl rfl) (ja rfl (ja rfl (jO (jN (jv2 1 2 ?_)))))))
 refine jS (jS (jR (jm rfl (jb rfl rfl (Bin.neqN _ 0) (jM ?_)))))
 refine Ops.rg rfl (rfl) (Run.mv rfl) rfl ?_
 refine Ops.rg rfl (rfl) (Run.eqlNilP rfl rfl Try.underlying23) rfl ?_
 refine je (Run.pickF rfl rfl (rfl)) (jO (jN (jv2 1 23 ?_)))
 refine VC.condF rfl (rfl) ?_
 refine jQ (jN (jv1 1 ?_))
 refine jS (jR (jM ?_))
 refine Ops.cl (jE1 Try.call5) (nW g F (Dk.new 51) w1 hD jo (zg _) f1 f2 f3 f4 f5) rfl ?_
 rintro e w2 ⟨h, F2, q, rfl, hH, hk2⟩
 refine ⟨_, rfl, ?_⟩
 have hH : IsHt w2 h g F2 qI q := hH
 have hup2 : ∀ x ∈ h :: F2, w.heap.size ≤ x := fun x hx => by
  rcases hk2.2 x hx with h1 | h1
  · exact hupF x h1
  exact zap K.size h1
 have K := K.own hk2.1 hupF
 have hc1 : qI.N - cntS qI.N qI.used = 8 := by rw [(gX hi1).1, hw1, hN1]; rfl
 have hu1 : (List.range qI.N).filter qI.used = [0] := by rw [xI hi1, hw1, hN1]; rfl
 refine jm rfl (je (Run.extract rfl rfl) (je (Run.extract rfl rfl) (ja rfl (ja rfl (jO (jN (jv2 3 4 ?_)))))))
 refine jS (jS (jR (jm rfl (jb rfl rfl (Bin.neqN _ 0) (jM ?_)))))
 refine Ops.rg rfl (rfl) (Run.mv rfl) rfl ?_
 refine Ops.rg rfl (rfl) (Run.eqlNilP rfl rfl Try.underlying27) rfl ?_
 refine je (Run.pickF rfl rfl (rfl)) (jO (jN (jv2 3 34 ?_)))
 refine VC.condF rfl (rfl) ?_
 refine jQ (jN (jv1 3 ?_))
 refine jS (jR (jM ?_))
 refine Ops.cl (jE1 Try.call12) (eF h g F2 _ q w2 hH) rfl ?_
 rintro e _ ⟨rfl, rfl⟩
 refine ⟨_, rfl, ?_⟩
 rw [hN1]
 refine jM ?_
 refine Ops.cl (jE1 Try.call11) (mY h g F2 _ q w2 hH) rfl ?_
 rintro e w3 ⟨rfl, hf3⟩
 refine ⟨_, rfl, ?_⟩
 rw [hc1]
 refine jM ?_
 refine Ops.cl (jE1 Try.call10) (mG h g F2 _ q w3 (hH.frm hf3)) rfl ?_
 rintro e w4 ⟨UB, ud, rfl, hoU, hf4, hupU⟩
 refine ⟨_, rfl, ?_⟩
 rw [hu1, show ([0] : List Nat).length = 1 from rfl] at hoU
 rw [hu1, show ([0] : List Nat).length = 1 from rfl]
 have hf24 : Frm [] w2 w4 := hf3.trans hf4 jp
 refine ja rfl (ja rfl (ja rfl (jO (jN (jv4 3 5 6 7 ?_)))))
 refine jS (jR ?_)
 refine Ops.cl (jE1 Try.call30) (sU 7 w4 jo) rfl ?_
 rintro e w5 ⟨ga, rfl, hoa, hf5, hga⟩
 refine ⟨_, rfl, ?_⟩
 refine Ops.cl (jE1 Try.call30) (sU 8 w5 jo) rfl ?_
 rintro e w6 ⟨gb, rfl, hob8, hf6, hgb⟩
 refine ⟨_, rfl, ?_⟩
 refine Ops.m (qZ.app rfl rfl ze (cA) rfl jd (hoa.frm hf6 jp) hob8.rd (cG _) jo jo) rfl ?_
 rintro _ w7 ⟨DA, dc, rfl, hoD, hf7, hobD⟩
 rw [← cZ] at hoD
 obtain ⟨Dx, hDx⟩ : ∃ Dx, Dx = (oB 7 ++ oB 8).take 200 := ⟨_, rfl⟩
 have hDl : Dx.length = 200 := by rw [hDx, oB, oB]; simp
 have hDb : ∀ b ∈ Dx, b < 256 := fun b hb => by
  rw [hDx, oB, oB] at hb
  rcases zbs.1 (zr hb) with hb | hb <;> have := List.eq_of_mem_replicate hb <;> omega
 have hDc := hoD.le
 have hDr : Rd w7 1 DA 200 (NB Dx) := by
  have h1 := hoD.rd.cut (l := 0) (r := 200) (cap := dc) jo jo hDc
  rw [cR, zdb, zbr, zbf, zce, (lP _ _).1, ← hDx] at h1
  exact h1
 have hf57 : Frm [] w4 w7 := (hf5.trans hf6 jp).own hf7 (by simp [ob]; have := hf5.size; omega)
 have hf27 : Frm [] w2 w7 := hf24.trans hf57 jp
 obtain ⟨B2, hi2, hz2, hN2, hw2, hg2, hz3⟩ := qJw hDl hDb
 obtain ⟨m1, m2, -⟩ := nE hi1 (l := exL Dx) (fun c hc => by rw [exL, za] at hc; subst hc; exact ⟨by dsimp only; omega, hDb⟩)
 obtain ⟨m3, m4, m5⟩ := nE hi2 (l := [(5, [], true), (6, [], true)]) (fun c hc => by simp at hc; rcases hc with rfl | rfl <;> exact ⟨by dsimp only; omega, fun b hb => by cases hb⟩)
 refine je (Run.sliceS 0 200 rfl ze zaf evB.none_ (evB.some_ rfl) jo jo) ?_
 rw [cR]
 refine ja rfl (jO (jN (jv5 3 5 6 7 8 ?_)))
 refine jS (jR (jm rfl (jm rfl (je (Run.build (evs.cons rfl (evs.cons rfl evs.nil)) eQ (fE).choose_spec.1 (fE).choose_spec.2 (cells := (cqC (5, (DA, dc - 0, Dx), false)).toArray) (by rw [cqC, SL, hDl]; rfl)) ?_))))
 refine Ops.m (qZ.buildS1 rfl zab zaq eQ jd jd rfl rfl) rfl ?_
 rintro _ w8 ⟨rfl, hF8⟩
 have hr8 : RdC w8 (some ⟨w7.heap.size, 0, none⟩) 1 [(5, (DA, dc - 0, Dx), false)] := ⟨rfl, Rd.of_blk (n := 1) (size := 3) hF8.blk rfl, fun x hx => by rw [za] at hx; subst hx; exact ⟨by dsimp only; rw [hDl]; exact hDr.frm hF8.frm jp, by dsimp only; omega⟩, fun x hx => by rw [za] at hx; subst hx; exact ⟨by dsimp only; omega, by dsimp only; omega⟩, fun x hx => by rw [za] at hx; subst hx; exact hDb⟩
 have hf28 : Frm [] w2 w8 := hf27.trans hF8.frm jp
 refine Ops.cl (jE2 Try.call7) (kL (some ⟨w7.heap.size, 0, none⟩) 1 1 [(5, (DA, dc - 0, Dx), false)] h g F2 qI q w8 (hH.frm hf28) jo hr8 m1 m2) rfl ?_
 rintro e w9 ⟨F3, q3, rfl, hH3, hk9⟩
 refine ⟨_, rfl, ?_⟩
 have hH3 : IsHt w9 h g F3 (qP qI (exL Dx)).2 q3 := hH3
 rw [show (qP qI (chL [(5, (DA, dc - 0, Dx), false)])).1 = 0 from hz2]
 have K := (K.trans hf28 jp).own hk9.1 hup2
 have hup3 : ∀ x ∈ h :: F3, w.heap.size ≤ x := fun x hx => by
  rcases hk9.2 x hx with h1 | h1
  · exact hup2 x h1
  have h2 := hk2.1.size; have h3 := hf28.size; have h4 := K0.size; omega
 refine ja rfl (jO (jN (jv6 3 5 6 7 8 9 ?_)))
 refine jS (jR (jM ?_))
 refine Ops.cl (jE2 Try.call28) (sM 5 h g F3 _ q3 w9 hH3 jo) rfl ?_
 rintro e w10 ⟨GB, gd, rfl, hrG, hf10, hupG⟩
 refine ⟨_, rfl, ?_⟩
 rw [hg2] at hrG ⊢
 refine jm rfl (je (Run.extract rfl rfl) (je (Run.extract rfl rfl) (ja rfl (ja rfl (jO (jN (jv8 3 5 6 7 8 9 10 11 ?_)))))))
 refine jS (jR (jM ?_))
 refine Ops.cl (jE1 Try.call10) (mG h g F3 _ q3 w10 (hH3.frm hf10)) rfl ?_
 rintro e w11 ⟨VB, vd, rfl, hoV, hf11, hupV⟩
 refine ⟨_, rfl, ?_⟩
 have hu2 : (List.range (qP qI (exL Dx)).2.N).filter (qP qI (exL Dx)).2.used = [1, 2, 3] := by rw [xI hi2, hw2, hN2]; rfl
 rw [hu2, show ([1, 2, 3] : List Nat).length = 3 from rfl] at hoV
 rw [hu2, show ([1, 2, 3] : List Nat).length = 3 from rfl]
 have hf911 : Frm [] w9 w11 := hf10.trans hf11 jp
 refine ja rfl (jO (jN (jv9 3 5 6 7 8 9 10 11 12 ?_)))
 refine jS (jR (jm rfl (je (Run.build (evs.cons rfl (evs.cons rfl evs.nil)) eQ (fE).choose_spec.1 (fE).choose_spec.2 (cells := (cqC (5, (none, 0, []), true)).toArray) rfl) (je (Run.build (evs.cons rfl (evs.cons rfl evs.nil)) eQ (fE).choose_spec.1 (fE).choose_spec.2 (cells := (cqC (6, (none, 0, []), true)).toArray) rfl) ?_))))
 refine Ops.m (qZ.buildN (cells := #[.int .u64 ((5 : Nat) : Int), .slice none 0 0, .bool true, .int .u64 ((6 : Nat) : Int), .slice none 0 0, .bool true]) (evs.cons rfl (evs.cons rfl evs.nil)) zab zaq eQ rfl rfl jK) rfl ?_
 rintro _ w12 ⟨rfl, hF12⟩
 have hr12 : RdC w12 (some ⟨w11.heap.size, 0, none⟩) 2 [(5, (none, 0, []), true), (6, (none, 0, []), true)] := ⟨rfl, Rd.of_blk (n := 2) (size := 3) hF12.blk rfl, fun x hx => by simp at hx; rcases hx with rfl | rfl <;> exact ⟨Rd.nil _ _ _, zm _⟩, fun x hx => by simp at hx; rcases hx with rfl | rfl <;> exact ⟨by dsimp only; omega, jp⟩, fun x hx => by simp at hx; rcases hx with rfl | rfl <;> exact fun b hb => (by cases hb)⟩
 have hf912 : Frm [] w9 w12 := hf911.trans hF12.frm jp
 refine Ops.cl (jE2 Try.call7) (kL (some ⟨w11.heap.size, 0, none⟩) 2 2 [(5, (none, 0, []), true), (6, (none, 0, []), true)] h g F3 _ q3 w12 (hH3.frm hf912) jo hr12 m3 m4) rfl ?_
 rintro e w13 ⟨F4, q4, rfl, hH4, hk13⟩
 refine ⟨_, rfl, ?_⟩
 have e4 : (qP (qP qI (exL Dx)).2 [(5, [], true), (6, [], true)]).2 = (qP qI (exL Dx)).2 := by
  rcases m5 with ⟨h1, _⟩ | ⟨_, h1⟩
  · rw [hz3] at h1; cases h1
  exact h1
 have hH4 : IsHt w13 h g F4 (qP qI (exL Dx)).2 q4 := by rw [← e4]; exact hH4
 rw [show (qP (qP qI (exL Dx)).2 (chL [(5, (none, 0, []), true), (6, (none, 0, []), true)])).1 = 6 from hz3]
 have K := (K.trans hf912 jp).own hk13.1 hup3
 have hF2l := hH.lt
 have hF3l := hH3.lt
 have s24 := hf24.size
 have s28 := hf28.size
 have offU : ∀ y, w2.heap.size ≤ y → y < w8.heap.size → y ∉ h :: F2 ∧ y ∉ h :: F3 := fun y h1 h2 => by
  have h3 : y ∉ h :: F2 := fun hx => by have := hF2l y hx; omega
  exact ⟨h3, hk9.out h2 h3⟩
 have hUl := hoU.lt
 have hDl7 := hoD.lt
 have hf48 : Frm [] w4 w8 := hf57.trans hF8.frm jp
 have s48 := hf48.size
 have s78 := hF8.frm.size
 have s3 := hf3.size
 have s46 := (hf5.trans hf6 jp).size
 have s5 := hf5.size
 have hoU13 : Own w13 3 1 UB [0].length ud (ZN [0]) := (((hoU.frm hf48 jp).frm hk9.1 (fun y hy => (offU y (by have := hupU y hy; omega) (by have := hUl y hy; omega)).1)).frm hf912 jp).frm hk13.1 (fun y hy => (offU y (by have := hupU y hy; omega) (by have := hUl y hy; omega)).2)
 have hDA : ∀ y ∈ ob DA, w4.heap.size ≤ y := fun y hy => by
  rcases hobD with h1 | h1
  · rw [h1] at hy; simp [ob] at hy; omega
  rw [h1, za] at hy; omega
 have hDr13 : Rd w13 1 DA 200 (NB Dx) := (((hDr.frm hF8.frm jp).frm hk9.1 (fun _ y hy => (offU y (by have := hDA y hy; omega) (by have := hDl7 y hy; omega)).1)).frm hf912 jp).frm hk13.1 (fun _ y hy => (offU y (by have := hDA y hy; omega) (by have := hDl7 y hy; omega)).2)
 have hoV13 : Own w13 3 1 VB [1, 2, 3].length vd (ZN [1, 2, 3]) := (hoV.frm hF12.frm jp).frm hk13.1 (fun y hy hx => by have := hF3l y hx; have := hupV y hy; have := hf10.size; omega)
 have hrG13 : Rd w13 1 GB Dx.length (NB Dx) := ((hrG.frm hf11 jp).frm hF12.frm jp).frm hk13.1 (fun _ y hy hx => by have := hF3l y hx; have := hupG y hy; omega)
 obtain ⟨adU, hUA, hUc⟩ := rdZ hoU13.rd rfl (show 0 < [0].length by decide)
 obtain ⟨adV, hVA, hVc⟩ := rdZ hoV13.rd rfl (show 0 < [1, 2, 3].length by decide)
 obtain ⟨adV2, hVA2, hVc2⟩ := rdZ hoV13.rd rfl (show 2 < [1, 2, 3].length by decide)
 subst hUA hVA
 cases hVA2
 rw [hDl] at hrG13
 have hc2 : (qP qI (exL Dx)).2.N - cntS (qP qI (exL Dx)).2.N (qP qI (exL Dx)).2.used = 6 := by rw [(gX hi2).1, hw2, hN2]; rfl
 refine ja rfl (jO (jN (jv10 3 5 6 7 8 9 10 11 12 13 ?_)))
 refine jS (jR (jm rfl (jb rfl rfl (Bin.eqlN _ 9) (jM ?_))))
 refine jG ?_
 refine jk (Run.bin rfl rfl (Bin.eqlN _ 8)) ?_
 refine je (Run.pickT rfl rfl (rfl)) (jM ?_)
 refine jG ?_
 refine jk (Run.lenS rfl zw) ?_
 refine jk (Run.bin rfl rfl (Bin.eqlN _ 1)) ?_
 refine je (Run.pickT rfl rfl (rfl)) (jM ?_)
 refine jG ?_
 refine jk (Run.index1 0 rfl rfl zw zt jo) ?_
 refine jk (Run.load rfl zac hUc) ?_
 refine jk (Run.bin rfl rfl (Bin.eqlN _ 0)) ?_
 refine je (Run.pickT rfl rfl (rfl)) (jM ?_)
 refine jG ?_
 refine jk (Run.bin rfl rfl (Bin.eqlN _ 0)) ?_
 refine je (Run.pickT rfl rfl (rfl)) (jM ?_)
 refine jG ?_
 refine Ops.clg rfl au (jE1 Try.call11) (mY h g F4 _ q4 w13 hH4) rfl ?_
 rintro e w14 ⟨rfl, hf14⟩
 refine ⟨_, rfl, ?_⟩
 rw [hc2]
 refine jk (Run.bin rfl rfl (Bin.eqlN _ 6)) ?_
 refine je (Run.pickT rfl rfl (rfl)) (jM ?_)
 refine jG ?_
 refine jk (Run.lenS rfl zw) ?_
 refine jk (Run.bin rfl rfl (Bin.eqlN _ 3)) ?_
 refine je (Run.pickT rfl rfl (rfl)) (jM ?_)
 refine jG ?_
 refine jk (Run.index1 0 rfl rfl zw zt jo) ?_
 refine jk (Run.load rfl zac (by have := (hoV13.frm hf14 jp).rd; obtain ⟨a, e1, e2⟩ := rdZ this rfl (show 0 < [1, 2, 3].length by decide); cases e1; exact e2)) ?_
 refine jk (Run.bin rfl rfl (Bin.eqlN _ 1)) ?_
 refine je (Run.pickT rfl rfl (rfl)) (jM ?_)
 refine jG ?_
 refine jk (Run.index1 2 rfl rfl zw zt jo) ?_
 refine jk (Run.load rfl zac (by have := (hoV13.frm hf14 jp).rd; obtain ⟨a, e1, e2⟩ := rdZ this rfl (show 2 < [1, 2, 3].length by decide); cases e1; exact e2)) ?_
 refine jk (Run.bin rfl rfl (Bin.eqlN _ 3)) ?_
 refine je (Run.pickT rfl rfl (rfl)) (jM ?_)
 refine jG ?_
 refine jk (Run.strOf rfl ze zbh zed (rdU (hDl ▸ hrG13.frm hf14 jp) hDb)) ?_
 refine jG ?_
 refine jk (Run.strOf rfl ze zbh zed (rdU (hDr13.frm hf14 jp) hDb)) ?_
 refine jk (Run.eqlStr rfl rfl) ?_
 refine je (Run.pickT rfl rfl (rfl)) (jM ?_)
 refine jG ?_
 refine jk (Run.bin rfl rfl (Bin.eqlN _ 0)) ?_
 refine je (Run.pickT rfl rfl (decide_eq_true rfl)) (jM ?_)
 refine jG ?_
 refine jk (Run.bin rfl rfl (Bin.eqlN _ 6)) ?_
 refine je (Run.pickT rfl rfl (rfl)) (jm rfl (je (Run.pickT rfl rfl (rfl)) (jm rfl (je (Run.pickT rfl rfl (rfl)) (ja rfl (jO (jN (jv1 0 ?_))))))))
 refine jT ?_
 refine qB rfl ?_
 exact ⟨rfl, K.trans hf14 jp⟩
end
section
open Go.RowKit
theorem OwQ.rdc {b : Nat} {w : World} {X : List Nat} {S : Option Addr} {n : Nat} {l : List Cq} (h : OwQ b w X l) (hl : l.length = n) (hr : Rd w 3 S n (l.flatMap cqC)) (hn : ∀ x ∈ l, x.1 < 18446744073709551616 ∧ x.2.1.2.2.length ≤ 1000000) (ho : ∀ x ∈ l, ∀ b ∈ x.2.1.2.2, b < 256) : RdC w S n l :=
 ⟨hl, hr, fun x hx => ⟨(h.1 x hx).1.rd, (h.1 x hx).1.le⟩, hn, ho⟩
theorem OwQ.set {b : Nat} {w w' : World} {X : List Nat} {l : List Cq} (h : OwQ b w X l) {i : Nat} (hi : i < l.length) {ys : List Nat} (hy : ys.length = (l.getD i cq0).2.1.2.2.length)
  (ho : Own w' 5 1 (l.getD i cq0).2.1.1 (l.getD i cq0).2.1.2.2.length (l.getD i cq0).2.1.2.1 (NB ys)) (k : Frm (ob (l.getD i cq0).2.1.1) w w') :
  OwQ b w' X (l.set i ((l.getD i cq0).1, ((l.getD i cq0).2.1.1, (l.getD i cq0).2.1.2.1, ys), (l.getD i cq0).2.2)) := by
 have hg : l.getD i cq0 = l[i] := by rw [zc, zb hi]; rfl
 have hp := List.pairwise_iff_getElem.1 h.2
 have hob : ∀ j (hj : j < l.length), ob ((l.set i ((l.getD i cq0).1, ((l.getD i cq0).2.1.1, (l.getD i cq0).2.1.2.1, ys), (l.getD i cq0).2.2))[j]'(by simpa using hj)).2.1.1 = ob (l[j]).2.1.1 := fun j hj => by
  rw [zeu]
  by_cases e : i = j
  ·
   subst e
   rw [if_pos rfl, hg]
  rw [if_neg e]
 refine ⟨fun x hx => ?_, List.pairwise_iff_getElem.2 fun a c ha hc hac => ?_⟩
 ·
  obtain ⟨j, hj, rfl⟩ := zbl hx
  have hj' : j < l.length := by simpa using hj
  rw [zeu]
  by_cases e : i = j
  ·
   subst e
   rw [if_pos rfl]
   have h1 := (h.1 _ (eE hi)).2
   refine ⟨by dsimp only; rw [hy]; exact ho, fun y hy2 => ?_⟩
   have h2 := h1 y hy2
   exact ⟨⟨zq h2.1.1 k.size, h2.1.2⟩, h2.2⟩
  rw [if_neg e]
  have h1 := h.1 _ (zbi hj')
  refine ⟨h1.1.frm k (fun y hy2 hy3 => ?_), fun y hy2 => ⟨⟨zq (h1.2 y hy2).1.1 k.size, (h1.2 y hy2).1.2⟩, (h1.2 y hy2).2⟩⟩
  rw [hg] at hy3
  rcases zcw e with h3 | h3
  · exact hp i j hi hj' h3 y hy3 hy2
  exact hp j i hj' hi h3 y hy2 hy3
 have ha' : a < l.length := by simpa using ha
 have hc' : c < l.length := by simpa using hc
 rw [hob a ha', hob c hc']
 exact hp a c ha' hc' hac
theorem qQ7 {w : World} {S : Option Addr} {n : Nat} {l0 l : List Cq} (h : RdQ w S n l0) (hl : chL l = gP (chL l0)) : (∀ x ∈ l, x.1 < 18446744073709551616 ∧ x.2.1.2.2.length ≤ 1000000) ∧ (∀ x ∈ l, ∀ b ∈ x.2.1.2.2, b < 256) ∧ l.length ≤ 12 := by
 have key : ∀ x ∈ l, ∃ y ∈ l0, x.1 = y.1 ∧ x.2.1.2.2 = y.2.1.2.2.take 4040 := fun x hx => by
  have h1 : chO x ∈ gP (chL l0) := by rw [← hl]; exact List.mem_map.2 ⟨x, hx, rfl⟩
  obtain ⟨c, hc, he⟩ := List.mem_map.1 h1
  obtain ⟨y, hy, rfl⟩ := List.mem_map.1 (zr hc)
  have e1 := congrArg (·.1) he
  have e2 := congrArg (·.2.1) he
  exact ⟨y, hy, e1.symm, e2.symm⟩
 refine ⟨fun x hx => ?_, fun x hx b hb => ?_, ?_⟩
 ·
  obtain ⟨y, hy, e1, e2⟩ := key x hx
  rw [e1, e2, zi]
  exact ⟨(h.num y hy).1, jo⟩
 ·
  obtain ⟨y, hy, e1, e2⟩ := key x hx
  rw [e2] at hb
  exact h.oct y hy b (zr hb)
 rw [← gF, hl]
 exact qX8 _
end
end Go.Proofs.Ytoniopdkbeogjaa
