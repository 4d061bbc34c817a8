/-
  Lemmas on the way, joined: StoQ0, Eng16, Oct0, OctP, OctW, StoBa, OctR, StoBe, StoBf, StoBg, StoBb, StoBc, StoBd, StoBh, StoQB, StoQBo.
-/
import Derived.Lib.AppendStr
import Derived.Test.YtgmbmfpfhcekiaaGreatPk3
set_option maxRecDepth 100000
set_option linter.unusedVariables false
set_option linter.unusedSimpArgs false
namespace Go.Proofs.YtgmbmfpfhcekiaaGreat
section
open Go.RowKit Go.ChangeShapes Go.WideShapes Go.Deep
section
variable {H : Type} {enc : TypeId × Value → H} {w : World} {base : Nat} {spare : Nat → Bool} {held : Bool}
theorem yB {n : Nat} {cs : List Value} {x : DataW H × List MemPlace} (h : DataW.trod enc Tryz.prog w base spare held n 23 cs = some x) : ∃ (A : Option Addr) (c : Nat) (l : List Tx), cs = [.slice A l.length c] ∧ l.length ≤ c ∧ c ≤ 9223372036854775807 ∧ Rd w 1 A l.length (SB l) := qXf zg zk jK h
end
theorem cL.rdl {w w' w2 : World} {m a : MlC} {F : Except Nat MailP} {k : Nat} (h : cL w w' m F a k) (f : Frm [] w' w2) (hm : RdL w' m) : RdL w2 a := by
 obtain ⟨⟨S, hS⟩, _⟩ := h
 exact (hS.now hm).frm f
end
section
open Go.RowKit
section
variable {P : Program} {Γ : Env} {w : World} {dst : Option Tmp} {pos : String} {after : Array Edge} {g : Option (Nat × Bool)} {T : TypeId}
theorem Own.based {w : World} {e size n c B : Nat} {A : Option Addr} {xs : List Value} (h : Own w e size A n c xs) (hA : ∀ x ∈ ob A, B ≤ x) : w.ownsRow B e size (.slice A n c) n xs := by
 refine ⟨h.1, ?_⟩
 rcases h.cases with ⟨rfl, h1, h2, _⟩ | ⟨g, cur, rfl, h1, h2, h3, h4, h5⟩
 · exact .inl ⟨by rw [h1, h2], h1⟩
 exact .inr ⟨g, c, cur, rfl, hA g (by simp [ob]), h1, h2, h3, h4, h5⟩
theorem qK.appStr {t u e : TypeId} {x y : Operand} {n cap : Nat} (B : Nat) {A : Option Addr} {xs : List Value} {q : List UInt8} (hx : ev? Γ x = some (.slice A n cap)) (hy : ev? Γ y = some (encStr q))
  (ht : P.underlying t = some (.slice e)) (hu : P.underlying u = some .string) (hi : (P.info? e).map (fun i => (i.zero, i.size, i.bytes)) = some (some (.int .u8 0), 1, 1))
  (ho : Own w e 1 A n cap xs) (hA : ∀ x ∈ ob A, B ≤ x) (hB : B ≤ w.heap.size) (hb : n + q.length ≤ 140737488355328) :
  qK P ⟨dst, .call ⟨.builtin .append, #[x, y], #[t, u]⟩, T, pos, after, g⟩ Γ w
   (fun r w' => ∃ A' c', r = .slice A' (n + q.length) c' ∧ Own w' e 1 A' (n + q.length) c' (xs ++ U8 q) ∧ Frm (ob A) w w' ∧ ∀ x ∈ ob A', B ≤ x) := fun ρ hρ => by
 obtain ⟨i0, hi0, hz0, hz1, hz2⟩ := info_parts hi
 have ex : (execOp ρ ⟨dst, .call ⟨.builtin .append, #[x, y], #[t, u]⟩, T, pos, after, g⟩).run P w = ((Builtin.append_ #[t, u] T #[.slice A n cap, .string ⟨q.toArray⟩]).run P w).andThen fun a w => .ok (.value a) w := by
  simp [execOp, resolve, invoke, builtin, hρ _ _ hx, hρ _ _ hy, encStr]
 have hsz : (⟨q.toArray⟩ : ByteArray).size = q.length := by show q.toArray.size = _; simp
 obtain ⟨v', w', hrun, hown, hgr, hnil⟩ := Lib.run_append_own_string (P := P) (w := w) B t u T e i0 ht hu hi0 hz0 hz1 hz2 (.slice A n cap) n xs (ho.based hA) ⟨q.toArray⟩ (by rw [hsz]; unfold maxLen; omega) (by rw [hsz]; exact hb) hB
 rw [hsz] at hown
 have hc : Lib.strCells ⟨q.toArray⟩ = U8 q := by simp [Lib.strCells, U8]
 rw [hc] at hown
 have hblk : ∀ (X : Option Addr) (p q : Nat), (Value.slice X p q).ownBlock.toList = ob X := by intro X p q; cases X <;> rfl
 have hfr : Frm (ob A) w w' := by
  have := Frm.grown hgr
  rwa [hblk] at this
 rcases hown.2 with ⟨rfl, h0⟩ | ⟨g', cap', cur', rfl, h1, h2, h3, h4, h5, h6⟩
 · refine ⟨_, w', by rw [ex, hrun]; rfl, none, 0, by rw [h0], ⟨hown.1, .inl ⟨by rw [h0], h0⟩⟩, hfr, by simp [ob]⟩
 exact ⟨_, w', by rw [ex, hrun]; rfl, some ⟨g', 0, none⟩, cap', rfl, ⟨hown.1, .inr ⟨g', cap', cur', rfl, zad _, h2, h3, h4, h5, h6⟩⟩, hfr, by simp [ob]; exact h1⟩
end
end
section
open Go.RowKit
theorem pW (l : List Nat) : ∀ u ∈ NB l, u.oneCell' = true := by
 intro u hu
 obtain ⟨b, _, rfl⟩ := List.mem_map.1 hu
 rfl
theorem mR (a b : List Nat) : NB (a ++ b) = NB a ++ NB b := by simp [NB]
theorem qQr (a : List Nat) (i : Nat) (h : i < a.length) : (NB a)[i]? = some (.int .u8 ((a.getD i 0 : Nat) : Int)) := by
 simp [NB, h]
theorem sR (xs : List Nat) (h : ∀ x ∈ xs, x < 256) : NB xs = U8 (xs.map UInt8.ofNat) := by
 simp only [NB, U8, zce]
 apply zef
 intro x hx
 have := h x hx
 simp
 omega
def dY (xs : List Nat) : ByteArray := ⟨(xs.map UInt8.ofNat).toArray⟩
theorem bD (xs : List Nat) : (dY xs).size = xs.length := by simp [dY, ByteArray.size]
theorem bN (a b : List Nat) : dY a ++ dY b = dY (a ++ b) := by
 unfold dY
 rw [ByteArray.mk_append_mk, zbh]
theorem qZf {L : List Nat} {i : Nat} (h : i < L.length) : L.take (i + 1) = L.take i ++ [L.getD i 0] := by
 rw [zau, zd h, zck, zd h]
 rfl
theorem qZg {l : List Nat} (hB : ∀ b ∈ l, b < 256) (i : Nat) : l.getD i 0 < 256 := by
 rw [zck]
 cases h : l[i]? with
 | none => simp
 | some x => exact hB x (zcm h)
theorem qZh {w : World} {A : Option Addr} {n : Nat} {bs : List Nat} (hr : Rd w 1 A n (NB bs)) (hn : bs.length = n) {i : Nat} (hi : i < n) : ∃ ad, A = some ad ∧ w.cell? (ad.add i) = some (.int .u8 ((bs.getD i 0 : Nat) : Int)) := by
 obtain ⟨ad, h1, _, hc⟩ := hr.2 jo
 exact ⟨ad, h1, hc i _ (qQr bs i jo)⟩
end
section
def qL : Nat → Nat → List Nat
 | _, 0 => []
 | v, n + 1 => v % 256 :: qL (v / 256) n
def eX : List Nat → Nat
 | [] => 0
 | b :: r => b + 256 * eX r
theorem qB : ∀ v n, (qL v n).length = n
 | _, 0 => rfl
 | v, n + 1 => by rw [qL, zbi, qB]
theorem cE : ∀ v n, ∀ b ∈ qL v n, b < 256
 | _, 0, b, h => by cases h
 | v, n + 1, b, h => by
  rcases zbj.1 h with rfl | h
  · omega
  exact cE _ n b h
theorem tF : ∀ n v, v < 256 ^ n → eX (qL v n) = v
 | 0, v, h => by rw [Nat.pow_zero] at h; simp [qL, eX]; omega
 | n + 1, v, h => by
  rw [qL, eX, tF n (v / 256) (by rw [Nat.pow_succ] at h; exact Nat.div_lt_of_lt_mul (by rw [zec]; exact h))]
  omega
theorem nJ : ∀ l : List Nat, (∀ b ∈ l, b < 256) → eX l < 256 ^ l.length
 | [], _ => by simp [eX]
 | b :: r, h => by
  have h1 := nJ r (fun x hx => h x (zeu _ hx))
  have h2 := h b zfe
  rw [eX, zbi, Nat.pow_succ]
  omega
theorem mS : ∀ n v, qL v (n + 1) = qL v n ++ [v / 256 ^ n % 256]
 | 0, v => by simp [qL]
 | n + 1, v => by
  have ih := mS n (v / 256)
  rw [qL, ih, Nat.div_div_eq_div_mul, ← Nat.pow_succ']
  rfl
theorem nB : ∀ a b : List Nat, eX (a ++ b) = eX a + 256 ^ a.length * eX b
 | [], b => by simp [eX]
 | x :: a, b => by
  rw [List.cons_append, eX, eX, nB a b, zbi, Nat.pow_succ, Nat.mul_add, zec (256 ^ a.length) 256, Nat.mul_assoc, Nat.add_assoc]
end
section
open Go.RowKit
theorem qZi {v b k : Nat} (hv : v < 2 ^ k) : v ||| (b * 2 ^ k) = v + 2 ^ k * b := by
 rw [Nat.or_comm, zec b, zel, ← Nat.two_pow_add_eq_or_of_lt hv]
theorem qQs (a : List Nat) (b : Nat) : eX (a ++ [b]) = eX a + 256 ^ a.length * b := by rw [nB]; simp [eX]
theorem qQt (i : Nat) : (256 : Nat) ^ i = 2 ^ (8 * i) := by rw [show (256 : Nat) = 2 ^ 8 from rfl, ← Nat.pow_mul]
def numAt (bs : List Nat) (a n : Nat) : Nat := eX ((bs.drop a).take n)
theorem yC (bs : List Nat) (a i : Nat) (h : a + i < bs.length) : numAt bs a (i + 1) = numAt bs a i + 2 ^ (8 * i) * bs.getD (a + i) 0 := by
 have e : (bs.drop a).take (i + 1) = (bs.drop a).take i ++ [bs.getD (a + i) 0] := by
  rw [qZf (L := bs.drop a) (by rw [zaf]; omega)]
  congr 2
  rw [zck, zdi, ← zck]
 unfold numAt
 rw [e, qQs, zp, zaf, zas jo, qQt]
theorem tA (bs : List Nat) (hB : ∀ b ∈ bs, b < 256) (a i : Nat) : numAt bs a i < 2 ^ (8 * i) := by
 have h := nJ ((bs.drop a).take i) (fun b hb => hB b (zbp (zaw hb)))
 have h2 : ((bs.drop a).take i).length ≤ i := by rw [zp]; omega
 unfold numAt
 rw [← qQt]
 exact zbf h (zca jo h2)
theorem yD (v n : Nat) (w : World) (hn1 : 1 ≤ n) (hn8 : n ≤ 8) (hv : v < 256 ^ n) :
  Calls Tryz.prog 98 #[.int .u64 ((v : Nat) : Int), .int .i64 ((n : Nat) : Int)] w fun e w' => ∃ B d, e = .returned (.tuple #[.slice B n d, .int .i64 ((0 : Nat) : Int)]) ∧ Own w' 5 1 B n d (NB (qL v n)) ∧ Frm [] w w' ∧ ∀ x ∈ ob B, w.heap.size ≤ x := by
 have hv64 : v < 18446744073709551616 := zbf hv (by
  have : (256 : Nat) ^ n ≤ 256 ^ 8 := zca jo hn8
  exact this)
 refine VC.calls (nt := 29) (res := #[.tmp 4, .tmp 5]) Tryz.func98 rfl Tryz.ntmps98 Tryz.results98 rfl ?_
 refine jS (jR (ja rfl (jz 0 (jO (jN (jv2 0 1 ?_))))))
 refine jS (jS ?_)
 refine VC.split1 [(0, _), (1, _)] (js2 rfl rfl) 12 (.bool (decide (n < 1 ∨ 8 < n))) ?_ ?_
 ·
  refine jR ?_
  refine jm rfl (jb rfl rfl (Bin.lssN _ 1) ?_)
  by_cases hs8 : n < 1
  ·
   refine jM ?_
   refine jU ?_
   refine jU ?_
   refine je (Run.pickT rfl rfl au) (jO ?_)
   refine jN ⟨(js3 (jC (by first | (simp [*]; done) | (simp; omega))) rfl rfl), rfl⟩
  refine jM ?_
  refine jG ?_
  refine jk (Run.bin rfl rfl (Bin.gtrN _ 8)) ?_
  by_cases hs11 : 8 < n
  ·
   refine je (Run.pickF rfl rfl au) (jO ?_)
   refine jN ⟨(js3 (jC (by first | (simp [*]; done) | (simp; omega))) rfl rfl), rfl⟩
  refine je (Run.pickF rfl rfl au) (jO ?_)
  refine jN ⟨(js3 (jC (by first | (simp [*]; done) | (simp; omega))) rfl rfl), rfl⟩
 intro Γ hΓ
 refine jN (VC.sub _ hΓ ?_)
 refine VC.condF rfl (decide_eq_false jo) ?_
 refine jQ (jN (jv2 0 1 ?_))
 refine jS (jR (jM ?_))
 refine Ops.m (qK.make0 rfl rfl zaj (nQ) jo jo) rfl ?_
 rintro _ w1 ⟨rfl, ho1, hf1, hs1⟩
 refine ja rfl (jO (jN (jv3 0 1 6 ?_)))
 refine jS (jS (jR (jM ?_)))
 refine jx .i64 0 ?_
 refine jO (jN (jv4 0 6 15 16 ?_))
 refine jB ?_
 refine VC.loop (σ := Nat × Option Addr × Nat) (fun s => [(0, .int .u64 ((v / 256 ^ s.1 : Nat) : Int)), (6, .slice s.2.1 s.1 s.2.2), (15, .int .i64 ((n : Nat) : Int)), (16, .int .i64 ((s.1 : Nat) : Int))]) (fun s wr => s.1 ≤ n ∧ Own wr 5 1 s.2.1 s.1 s.2.2 (NB (qL v s.1)) ∧ Frm [] w wr ∧ ∀ x ∈ ob s.2.1, w.heap.size ≤ x) (fun s => n - s.1) (0, _, n) (js4 (by rw [Nat.pow_zero, Nat.div_one]; rfl) rfl rfl rfl) ⟨jo, ho1, hf1, by simp [ob]⟩ ?_
 rintro ⟨i, B, d⟩ wr ⟨hi, ho, K, hu⟩
 dsimp only at hi ho hu ⊢
 have hvl : v / 256 ^ i ≤ v := Nat.div_le_self _ _
 refine jS (jR (jb rfl rfl (Bin.lssN _ _) (jO (jN (jS ?_)))))
 refine jD rfl (fun hc2 => ?_) fun hc2 => ?_
 ·
  refine jQ (jN (jv4 0 6 15 16 ?_))
  refine jS (jB (jS (jR (jm rfl (jm rfl (je (Run.conv8 _ rfl zah zbe) ?_))))))
  refine Ops.m (qK.buildS1 rfl zaj zbv wL jd jd rfl rfl) rfl ?_
  rintro _ w2 ⟨rfl, hF2⟩
  have ho2 := ho.frm hF2.frm jp
  have hrd2 : Rd w2 1 (some ⟨_, 0, none⟩) 1 (NB [v / 256 ^ i % 256]) := Rd.of_blk (n := 1) (size := 1) hF2.blk rfl
  refine Ops.m (qK.app rfl rfl zaj (nQ) rfl jd ho2 hrd2 (pW _) jo jo) rfl ?_
  rintro _ w3 ⟨B3, d3, rfl, ho3, hf3, hob3⟩
  rw [← mR, ← mS] at ho3
  have K3 := (K.trans hF2.frm jp).own hf3 hu
  have hu3 := gK hu hob3 (by have := K.size; have := hF2.size; omega)
  refine ja rfl (jO (jN (jv4 0 6 15 16 ?_)))
  refine jR (jm rfl (jb rfl rfl (Bin.shr_u64 _ 8 jo) ?_))
  rw [Nat.div_div_eq_div_mul, show (256 : Nat) ^ i * 2 ^ 8 = 256 ^ (i + 1) from (Nat.pow_succ ..).symm]
  refine ja rfl (jO ?_)
  refine qW (jN ?_)
  refine jv4 0 6 15 16 ?_
  refine jR (jb rfl rfl (Bin.add_i64 _ 1 jo) (jm rfl (jO ?_)))
  refine jN ⟨(i + 1, B3, d3), (js4 rfl rfl rfl rfl), ?_, ?_⟩
  · exact ⟨jo, ho3, K3, hu3⟩
  first | omega | (dsimp only; omega)
 refine jX ?_
 refine qJ (qJ (qR ?_))
 refine jN (jv2 0 6 ?_)
 refine jS (jS (jR (jm rfl (jb rfl rfl (Bin.neqN _ 0) (jO (jN (jv2 6 27 ?_)))))))
 refine VC.condF rfl (decide_eq_false (by rw [show i = n by omega, zeq hv]; simp)) ?_
 refine jQ (jN (jv1 6 ?_))
 refine jS (jR (jm rfl (ja rfl (jz 0 (jO (jN (jv2 4 5 ?_)))))))
 refine jT ?_
 refine dR rfl rfl ?_
 obtain rfl : i = n := jo
 exact ⟨B, d, rfl, ho, K, hu⟩
def numE (L a n : Nat) : Nat := if L < a then 4 else if L - a < n then 2 else 0
def numV (bs : List Nat) (a n : Nat) : Nat := if numE bs.length a n = 0 then numAt bs a n else 0
theorem qKe {b i : Nat} (hb : b < 256) (hi : i < 8) : b * 2 ^ (8 * i) ≤ 18446744073709551615 := by
 have h1 : 2 ^ (8 * i) ≤ 2 ^ 56 := zca jo jo
 have h2 : b * 2 ^ (8 * i) ≤ 255 * 2 ^ 56 := Nat.mul_le_mul jo h1
 omega
theorem qZj (bs : List Nat) (hB : ∀ b ∈ bs, b < 256) (a i : Nat) (hi : i ≤ 8) : numAt bs a i < 18446744073709551616 := by
 have h1 : 2 ^ (8 * i) ≤ 2 ^ 64 := zca jo jo
 exact zbf (tA bs hB a i) h1
theorem qQu (A : Option Addr) (c L a n : Nat) (bs : List Nat) (w : World) (hL : bs.length = L) (hl : L ≤ 1000000000) (ha : a ≤ 1000000000) (hn1 : 1 ≤ n) (hn8 : n ≤ 8) (hB : ∀ b ∈ bs, b < 256) (hr : Rd w 1 A L (NB bs)) :
  Calls Tryz.prog 158 #[.slice A L c, .int .i64 ((a : Nat) : Int), .int .i64 ((n : Nat) : Int)] w fun e w' => e = .returned (.tuple #[.int .u64 ((numV bs a n : Nat) : Int), .int .i64 ((numE L a n : Nat) : Int)]) ∧ w = w' := by
 refine VC.calls (nt := 51) (res := #[.tmp 6, .tmp 7]) Tryz.func158 rfl Tryz.ntmps158 Tryz.results158 rfl ?_
 refine jS (jR ?_)
 refine jy .u64 0 ?_
 refine jz 0 (jO (jN (jv3 0 1 2 ?_)))
 refine jS (jB (jS ?_))
 refine VC.split1 [(0, _), (1, _), (2, _)] (js3 rfl rfl rfl) 10 (.bool (decide (n < 1 ∨ 8 < n))) ?_ ?_
 ·
  refine jR ?_
  refine jm rfl (jb rfl rfl (Bin.lssN _ 1) ?_)
  by_cases hs12 : n < 1
  ·
   refine jM ?_
   refine jU ?_
   refine jU ?_
   refine je (Run.pickT rfl rfl au) (ja rfl (jO ?_))
   refine jN ⟨(js4 (jC (by first | (simp [*]; done) | (simp; omega))) rfl rfl rfl), rfl⟩
  refine jM ?_
  refine jG ?_
  refine jk (Run.bin rfl rfl (Bin.gtrN _ 8)) ?_
  by_cases hs15 : 8 < n
  ·
   refine je (Run.pickF rfl rfl au) (ja rfl (jO ?_))
   refine jN ⟨(js4 (jC (by first | (simp [*]; done) | (simp; omega))) rfl rfl rfl), rfl⟩
  refine je (Run.pickF rfl rfl au) (ja rfl (jO ?_))
  refine jN ⟨(js4 (jC (by first | (simp [*]; done) | (simp; omega))) rfl rfl rfl), rfl⟩
 intro Γ hΓ
 refine jN (VC.sub _ hΓ ?_)
 refine VC.condF rfl (decide_eq_false jo) ?_
 refine jS ?_
 refine VC.split1 [(0, _), (1, _), (2, _)] (js3 rfl rfl rfl) 17 (.bool (decide (a < 0 ∨ L < a))) ?_ ?_
 ·
  refine jR ?_
  refine jm rfl (jb rfl rfl (Bin.lssN _ 0) ?_)
  by_cases hs19 : a < 0
  ·
   refine jM ?_
   refine jU ?_
   refine jU ?_
   refine jU ?_
   refine jU ?_
   refine je (Run.pickT rfl rfl au) (ja rfl (jO ?_))
   refine jN ⟨(js4 (jC (by first | (simp [*]; done) | (simp; omega))) rfl rfl rfl), rfl⟩
  refine jM ?_
  refine jG ?_
  refine jG ?_
  refine jk (Run.lenS rfl zaj) ?_
  refine jk (Run.bin rfl rfl (Bin.gtrN _ _)) ?_
  by_cases hs24 : L < a
  ·
   refine je (Run.pickF rfl rfl au) (ja rfl (jO ?_))
   refine jN ⟨(js4 (jC (by first | (simp [*]; done) | (simp; omega))) rfl rfl rfl), rfl⟩
  refine je (Run.pickF rfl rfl au) (ja rfl (jO ?_))
  refine jN ⟨(js4 (jC (by first | (simp [*]; done) | (simp; omega))) rfl rfl rfl), rfl⟩
 intro Γ hΓ
 refine jN (VC.sub _ hΓ ?_)
 refine jD rfl (fun hc2 => ?_) fun hc2 => ?_
 ·
  refine jS (jR ?_)
  refine jy .u64 0 ?_
  refine jz 4 (jO (jN (jv2 6 7 ?_)))
  refine jT ?_
  refine qV (qZ (dR rfl rfl ?_))
  have e1 : numE L a n = 4 := by unfold numE; rw [if_pos jo]
  have e2 : numV bs a n = 0 := by unfold numV; rw [hL, e1, if_neg jd]
  rw [e1, e2]
  exact ⟨rfl, rfl⟩
 refine jS (jR (jm rfl (je (Run.lenS rfl zaj) (jm rfl (jb rfl rfl (Bin.sub_i64 _ _ jo jo) (jm rfl (jb rfl rfl (Bin.lssN _ _) (ja rfl (jO (jN (jv4 0 1 2 26 ?_)))))))))))
 refine jD rfl (fun hc3 => ?_) fun hc3 => ?_
 ·
  refine jS (jR ?_)
  refine jy .u64 0 ?_
  refine jz 2 (jO (jN (jv2 6 7 ?_)))
  refine jT ?_
  refine qV (qZ (dR rfl rfl ?_))
  have e1 : numE L a n = 2 := by unfold numE; rw [if_neg jo, if_pos hc3]
  have e2 : numV bs a n = 0 := by unfold numV; rw [hL, e1, if_neg jd]
  rw [e1, e2]
  exact ⟨rfl, rfl⟩
 refine jQ ?_
 refine qW (jN ?_)
 refine jv3 0 1 2 ?_
 refine jS (jR ?_)
 refine jy .u64 0 ?_
 refine jO (jN (jS (jS (jR (jM ?_)))))
 refine jx .i64 0 ?_
 refine jO (jN (jv5 0 1 8 33 34 ?_))
 refine jB ?_
 refine VC.loop (σ := Nat) (fun s => [(0, .slice A L c), (1, .int .i64 ((a : Nat) : Int)), (8, .int .u64 ((numAt bs a s : Nat) : Int)), (33, .int .i64 ((n : Nat) : Int)), (34, .int .i64 ((s : Nat) : Int))]) (fun s wr => s ≤ n ∧ w = wr) (fun s => n - s) 0 (js5 rfl rfl rfl rfl rfl) ⟨jo, rfl⟩ ?_
 rintro i _ ⟨hi, rfl⟩
 have hlt := tA bs hB a i
 have h64 := qZj bs hB a i jo
 refine jS (jR (jb rfl rfl (Bin.lssN _ _) (jO (jN (jS ?_)))))
 refine jD rfl (fun hc4 => ?_) fun hc4 => ?_
 ·
  obtain ⟨ad, rfl, hcell⟩ := qZh hr hL (jo : a + i < L)
  have hsn := yC bs a i jo
  have hb8 := qZg hB (a + i)
  generalize bs.getD (a + i) 0 = b at hcell hsn hb8
  have hsh := qKe hb8 (jo : i < 8)
  refine jQ (jN (jv5 0 1 8 33 34 ?_))
  refine jS (jB (jS (jR (jm rfl (ja rfl (jO (jN (jv6 0 1 8 9 33 34 ?_))))))))
  refine jR (jm rfl (jm rfl (jm rfl (jm rfl (jb rfl rfl (Bin.add_i64 _ _ jo) (je (Run.index1 _ rfl rfl zaj zbv jo) (jl rfl zdy hcell (je (Run.convN _ rfl zbe zah (by simp only [bmax]; omega)) ?_))))))))
  refine jm rfl (jb rfl rfl (Bin.mul_i64 8 _ jo) (jb rfl rfl (Bin.shl_u64 _ _ jo hsh) (jb rfl rfl (Bin.or_u64 _ _ jo jo) ?_)))
  rw [qZi hlt, ← hsn]
  refine ja rfl (jO ?_)
  refine qW (jN ?_)
  refine jv5 0 1 8 33 34 ?_
  refine jR (jb rfl rfl (Bin.add_i64 _ 1 jo) (jm rfl (jO ?_)))
  refine jN ⟨i + 1, (js5 rfl rfl rfl rfl rfl), ?_, ?_⟩
  · exact ⟨jo, rfl⟩
  first | omega | (dsimp only; omega)
 refine jX ?_
 refine qJ (qJ (qR ?_))
 refine jN (jv1 8 ?_)
 refine jS (jR (jm rfl (ja rfl (jz 0 (jO (jN (jv2 6 7 ?_)))))))
 refine jT ?_
 refine dR rfl rfl ?_
 obtain rfl : i = n := jo
 have e1 : numE L a i = 0 := by unfold numE; rw [if_neg jo, if_neg hc3]
 have e2 : numV bs a i = numAt bs a i := by unfold numV; rw [hL, e1, if_pos rfl]
 rw [e1, e2]
 exact ⟨rfl, rfl⟩
def gN (w : World) (g : Nat) (A : Option Addr) (c : Nat) (bs : List Nat) (a e wh : Nat) : Prop := Blk w g 151 #[.slice A bs.length c, .int .i64 ((a : Nat) : Int), .int .i64 ((e : Nat) : Int), .int .i64 ((wh : Nat) : Int)] ∧ Own w 5 1 A bs.length c (NB bs)
theorem gN.frm {w w' : World} {g : Nat} {A : Option Addr} {c : Nat} {bs : List Nat} {a e wh : Nat} {S : List Nat} (h : gN w g A c bs a e wh) (k : Frm S w w') (hS : ∀ x ∈ g :: ob A, x ∉ S) : gN w' g A c bs a e wh := ⟨h.1.frm k (hS g jp), h.2.frm k (fun x hx => hS x (by simp [hx]))⟩
theorem gN.upd {w w' : World} {g : Nat} {A : Option Addr} {c : Nat} {bs : List Nat} {a e wh a' e' wh' : Nat} (h : gN w g A c bs a e wh) (hb : Blk w' g 151 #[.slice A bs.length c, .int .i64 ((a' : Nat) : Int), .int .i64 ((e' : Nat) : Int), .int .i64 ((wh' : Nat) : Int)]) (k : Frm [g] w w') : gN w' g A c bs a' e' wh' :=
 ⟨hb, h.2.frm k (fun x hx hx2 => by rw [zc] at hx2; subst hx2; exact h.2.ne_blk h.1 jd hx)⟩
def rdN (bs : List Nat) (a e wh n : Nat) : Nat × Nat × Nat × Nat := if e ≠ 0 then (0, a, e, wh) else if bs.length - a < n then (0, a, 2, a) else (numAt bs a n, a + n, 0, wh)
theorem qKf {bs : List Nat} {a e wh n : Nat} (h : a ≤ bs.length) : (rdN bs a e wh n).2.1 ≤ bs.length := by
 unfold rdN
 split
 · exact h
 split
 · exact h
 dsimp only; omega
theorem yE (A : Option Addr) (c n : Nat) (bs : List Nat) (w : World) (hn : bs.length = n) (hl : n ≤ 1000000000) (hr : Rd w 1 A n (NB bs)) :
  Calls Tryz.prog 90 #[.slice A n c] w fun e w' => ∃ g B d, e = .returned (.pointer (some ⟨g, 0, none⟩)) ∧ gN w' g B d bs 0 0 0 ∧ Frm [] w w' ∧ (∀ x ∈ g :: ob B, w.heap.size ≤ x) := by
 subst hn
 refine VC.calls (nt := 7) (res := #[.tmp 2]) Tryz.func90 rfl Tryz.ntmps90 Tryz.results90 rfl ?_
 refine jS (jR (ja rfl (jO (jN (jv1 0 ?_)))))
 refine jS (jR (jM ?_))
 refine Ops.m (qK.app rfl rfl zaj (nQ) rfl jd (Own.nil _ _ _) hr (pW _) jo jo) rfl ?_
 rintro _ w1 ⟨B, d, rfl, ho, hf, hob⟩
 have hf : Frm [] w w1 := hf
 rw [zcb, zdq] at ho
 rw [zdq]
 refine je (Run.build (evs.cons rfl evs.nil) qZ5 (rP).choose_spec.1 (rP).choose_spec.2 rfl) ?_
 refine Ops.m (qK.box rfl) rfl ?_
 rintro _ w2 ⟨rfl, hF2⟩
 have hs1 := hf.size
 have hu : ∀ x ∈ ob B, w.heap.size ≤ x := fun x hx => by
  rcases hob with h | h
  · rw [h] at hx; cases hx
  rw [h, zc] at hx; omega
 refine ja rfl (jO (jN (jv1 2 ?_)))
 refine jT ?_
 refine qN rfl ?_
 refine ⟨w1.heap.size, B, d, rfl, ⟨hF2.blk, ho.frm hF2.frm jp⟩, hf.trans hF2.frm jp, fun x hx => ?_⟩
 rcases zbj.1 hx with rfl | hx
 · exact hs1
 exact hu x hx
theorem pY (g : Nat) (A : Option Addr) (c : Nat) (bs : List Nat) (a wh k x : Nat) (w : World) (hO : gN w g A c bs a 0 wh) :
  Calls Tryz.prog 159 #[.pointer (some ⟨g, 0, none⟩), .int .i64 ((k : Nat) : Int), .int .i64 ((x : Nat) : Int)] w fun e w' => e = .returned (.tuple #[]) ∧ gN w' g A c bs x k x ∧ Frm [g] w w' := by
 refine VC.calls (nt := 23) (res := #[]) Tryz.func159 rfl Tryz.ntmps159 Tryz.results159 rfl ?_
 refine jS (jR (jm rfl (je (Run.nilck rfl) (jf rfl zav rfl zew (jl rfl Tryz.isAgg28 (hO.1.cell 2) (jb rfl rfl (Bin.eqlN _ 0) (jO (jN (jv4 0 1 2 10 ?_)))))))))
 refine VC.condT rfl (by rfl) ?_
 refine jS (jR (jm rfl (jm rfl (jm rfl (jm rfl (je (Run.nilck rfl) (jf rfl zav rfl zew ?_)))))))
 refine Ops.st (qH.store rfl rfl zew hO.1 rfl rfl) ?_
 rintro w1 ⟨hb1, hf1, hs1⟩
 refine je (Run.nilck rfl) (jf rfl zav rfl zj ?_)
 refine Ops.st (qH.store rfl rfl zj hb1 rfl rfl) ?_
 rintro w2 ⟨hb2, hf2, hs2⟩
 refine jO (jN (jv2 0 2 ?_))
 refine jR (jm rfl (jm rfl (je (Run.nilck rfl) (jf rfl zav rfl zj ?_))))
 refine Ops.st (qH.store rfl rfl zj hb2 rfl rfl) ?_
 rintro w3 ⟨hb3, hf3, hs3⟩
 have K : Frm [g] w w3 := (hf1.trans hf2 (fun x hx => .inl hx)).trans hf3 (fun x hx => .inl hx)
 refine jO ?_
 refine wF ?_
 exact ⟨rfl, hO.upd hb3 K, K⟩
theorem yF (g : Nat) (A : Option Addr) (c : Nat) (bs : List Nat) (a e0 wh n : Nat) (w : World) (hl : bs.length ≤ 1000000000) (ha : a ≤ bs.length) (hn1 : 1 ≤ n) (hn8 : n ≤ 8) (hB : ∀ b ∈ bs, b < 256) (hO : gN w g A c bs a e0 wh) :
  Calls Tryz.prog 129 #[.pointer (some ⟨g, 0, none⟩), .int .i64 ((n : Nat) : Int)] w fun e w' => e = .returned (.int .u64 (((rdN bs a e0 wh n).1 : Nat) : Int)) ∧ gN w' g A c bs (rdN bs a e0 wh n).2.1 (rdN bs a e0 wh n).2.2.1 (rdN bs a e0 wh n).2.2.2 ∧ Frm [g] w w' := by
 refine VC.calls (nt := 43) (res := #[.tmp 4]) Tryz.func129 rfl Tryz.ntmps129 Tryz.results129 rfl ?_
 refine jS (jR ?_)
 refine jy .u64 0 ?_
 refine jO (jN (jv2 0 1 ?_))
 refine jS (jS (jR (jm rfl (je (Run.nilck rfl) (jf rfl zav rfl zew (jl rfl Tryz.isAgg28 (hO.1.cell 2) (jb rfl rfl (Bin.neqN _ 0) (jO (jN (jv3 0 1 11 ?_))))))))))
 refine jD rfl (fun hc1 => ?_) fun hc1 => ?_
 ·
  have hR : rdN bs a e0 wh n = (0, a, e0, wh) := by unfold rdN; rw [if_pos hc1]
  refine jS (jR ?_)
  refine jy .u64 0 ?_
  refine jO (jN (jv1 4 ?_))
  refine jT ?_
  refine qZ (qN rfl ?_)
  rw [hR]
  exact ⟨rfl, hO, Frm.refl _ _⟩
 obtain rfl : e0 = 0 := jo
 have hEn := show numE bs.length a n = if bs.length - a < n then 2 else 0 by unfold numE; rw [if_neg jo]
 refine jQ (jN (jv2 0 1 ?_))
 refine jS ?_
 refine VC.held (fun v => Blk v g 151 #[.slice A bs.length c, .int .i64 ((a : Nat) : Int), .int .i64 ((0 : Nat) : Int), .int .i64 ((wh : Nat) : Int)]) jK ?_
 have hS : (fun v => Blk v g 151 #[.slice A bs.length c, .int .i64 ((a : Nat) : Int), .int .i64 ((0 : Nat) : Int), .int .i64 ((wh : Nat) : Int)]) w.drew := hO.1.drawn (qP.drew _)
 have hO := hO.frm (qP.drew w).frm jp
 refine jH 0 rfl hS (fun w0 hw0 => Run.mv rfl) ?_
 refine jH 1 rfl hS (fun w0 hw0 => Run.nilck rfl) ?_
 refine jH 2 rfl hS (fun w0 hw0 => Run.fieldAddr rfl zav rfl zeg jd) ?_
 refine jH 3 rfl hS (fun w0 hw0 => Run.load rfl zem (hw0.cell 0)) ?_
 refine jH 4 rfl hS (fun w0 hw0 => Run.mv rfl) ?_
 refine jH 5 rfl hS (fun w0 hw0 => Run.nilck rfl) ?_
 refine jH 6 rfl hS (fun w0 hw0 => Run.fieldAddr rfl zav rfl zj jd) ?_
 refine jH 7 rfl hS (fun w0 hw0 => Run.load rfl zn (hw0.cell 1)) ?_
 refine jH 8 rfl hS (fun w0 hw0 => Run.mv rfl) ?_
 refine qQ.cl 9 rfl jK (jE3 Tryz.call158) (qQu A c bs.length a n bs _ rfl hl jo hn1 hn8 hB hO.2.rd) trivial rfl rfl ?_
 rintro e _ ⟨rfl, rfl⟩
 refine ⟨_, rfl, hS, ?_⟩
 refine jH 10 rfl hS (fun w0 hw0 => Run.mv rfl) ?_
 refine jH 11 rfl hS (fun w0 hw0 => Run.extract rfl rfl) ?_
 refine jH 12 rfl hS (fun w0 hw0 => Run.extract rfl rfl) ?_
 refine jH 13 rfl hS (fun w0 hw0 => Run.asg rfl) ?_
 refine jH 14 rfl hS (fun w0 hw0 => Run.asg rfl) ?_
 refine qQ.done jK ?_
 refine jN (jv4 0 1 5 6 ?_)
 refine jS (jS (jR (jm rfl (jb rfl rfl (Bin.neqN _ 0) (jO (jN (jv5 0 1 5 6 26 ?_)))))))
 refine jD rfl (fun hc2 => ?_) fun hc2 => ?_
 ·
  have hsh : bs.length - a < n := by
   by_cases h : bs.length - a < n
   · exact h
   rw [hEn, if_neg h] at hc2; exact absurd rfl hc2
  have hR : rdN bs a 0 wh n = (0, a, 2, a) := by unfold rdN; rw [if_neg jp, if_pos hsh]
  rw [if_pos hsh] at hEn
  refine jS (jR (jm rfl (jm rfl (jm rfl (je (Run.nilck rfl) (jf rfl zav rfl zj (jl rfl zn (hO.1.cell 1) ?_)))))))
  refine Ops.cl (jE3 Tryz.call159) (pY g A c bs a wh _ a _ hO) rfl ?_
  rintro e w2 ⟨rfl, hO2, hf2⟩
  refine ⟨_, rfl, ?_⟩
  rw [hEn] at hO2
  refine jO (jN ?_)
  refine VC.sub [] .nil ?_
  refine jS (jR ?_)
  refine jy .u64 0 ?_
  refine jO (jN (jT ?_))
  refine qZ (qN rfl ?_)
  rw [hR]
  exact ⟨rfl, hO2, ((qP.drew w).frm.mono jp).trans hf2 (fun x hx => .inl hx)⟩
 have hsh : ¬ bs.length - a < n := fun h => by
  rw [hEn, if_pos h] at hc2; omega
 have hR : rdN bs a 0 wh n = (numAt bs a n, a + n, 0, wh) := by unfold rdN; rw [if_neg jp, if_neg hsh]
 rw [if_neg hsh] at hEn
 have hNv : numV bs a n = numAt bs a n := by unfold numV; rw [hEn, if_pos rfl]
 refine jQ (jN (jv3 0 1 5 ?_))
 refine jS (jR (jm rfl (je (Run.nilck rfl) (jf rfl zav rfl zj (jl rfl zn (hO.1.cell 1) (jm rfl (jb rfl rfl (Bin.add_i64 _ _ jo) (je (Run.nilck rfl) (jf rfl zav rfl zj ?_)))))))))
 refine Ops.st (qH.store rfl rfl zj hO.1 rfl rfl) ?_
 rintro w3 ⟨hb3, hf3, hs3⟩
 have hO3 := hO.upd hb3 hf3
 refine jO (jN (jv1 5 ?_))
 refine jS (jR (jm rfl (ja rfl (jO (jN (jv1 4 ?_))))))
 refine jT ?_
 refine qN rfl ?_
 rw [hR, hNv]
 exact ⟨rfl, hO3, ((qP.drew w).frm.mono jp).trans hf3 (fun x hx => .inl hx)⟩
end
section
open Go.RowKit
abbrev Oc := List Nat
def tO (s : Tx) : Oc := s.map UInt8.toNat
theorem pG (s : Tx) : (tO s).length = s.length := zal _
theorem qKy (s : Tx) : ∀ b ∈ tO s, b < 256 := fun b hb => by
 obtain ⟨u, _, rfl⟩ := List.mem_map.1 hb
 exact UInt8.toNat_lt u
theorem wK (s : Tx) : (tO s).map UInt8.ofNat = s := by
 unfold tO
 rw [zce]
 exact (zef (g := id) fun x _ => jp).trans (List.map_id _)
theorem wV {l : Oc} (h : ∀ b ∈ l, b < 256) : tO (l.map UInt8.ofNat) = l := by
 unfold tO
 rw [zce]
 exact (zef (g := id) fun x hx => by have := h x hx; simp; omega).trans (List.map_id _)
def u64 (x : Int) : Nat := (x % 18446744073709551616).toNat
theorem kN (x : Int) : u64 x < 18446744073709551616 := by unfold u64; omega
theorem gT {x : Int} (h0 : 0 ≤ x) (h : x < 18446744073709551616) : ((u64 x : Nat) : Int) = x := by unfold u64; omega
def sgn (v : Nat) : Int := if v < 9223372036854775808 then (v : Int) else (v : Int) - 18446744073709551616
theorem wW {x : Int} (h0 : -9223372036854775808 ≤ x) (h : x ≤ 9223372036854775807) : sgn (u64 x) = x := by unfold sgn u64; split <;> omega
theorem qQv {v : Nat} (h : v < 9223372036854775808) : sgn v = (v : Int) := if_pos h
def txL (s : Tx) : Oc := qL s.length 1 ++ tO s
def kJ (l : List Tx) : Oc := qL l.length 1 ++ l.flatMap txL
def rQ (m : MsgP) : Oc := qL (u64 m.uid) 4 ++ qL (u64 m.sec) 8 ++ qL (u64 (m.zone + 1440)) 2 ++ qL (u64 m.size) 8 ++ qL m.blob 4
def fS (m : MsgP) : Oc := rQ m ++ kJ m.flags
def rX (b : BoxV) : Oc := qL (u64 b.valid) 4 ++ qL (u64 b.next) 4 ++ qL b.l.length 1
def rZ (b : BoxV) : Oc := rX b ++ b.l.flatMap fS
def nmL (x : NmP) : Oc := txL x.1 ++ rZ x.2
def bF (m : MailP) : Oc := qL (u64 m.valid) 4 ++ qL (u64 m.blob) 4 ++ qL m.l.length 1 ++ m.l.flatMap nmL ++ kJ m.subs
abbrev Rs := Option Oc
def rN (n : Nat) : Rs → Nat × Rs
 | none => (0, none)
 | some r => if r.length < n then (0, none) else (eX (r.take n), some (r.drop n))
def rW (n : Nat) : Rs → Oc × Rs
 | none => ([], none)
 | some r => if r.length < n then ([], none) else (r.take n, some (r.drop n))
def rT (st : Rs) : Tx × Rs := ((rW (rN 1 st).1 (rN 1 st).2).1.map UInt8.ofNat, (rW (rN 1 st).1 (rN 1 st).2).2)
def rMany {α : Type} (f : Rs → α × Rs) : Nat → Rs → List α × Rs
 | 0, st => ([], st)
 | n + 1, st => ((rMany f n st).1 ++ [(f (rMany f n st).2).1], (f (rMany f n st).2).2)
def rTs (st : Rs) : List Tx × Rs := rMany rT (rN 1 st).1 (rN 1 st).2
def rMsg (st : Rs) : MsgP × Rs :=
 let a := rN 4 st
 let b := rN 8 a.2
 let c := rN 2 b.2
 let d := rN 8 c.2
 let e := rN 4 d.2
 let f := rTs e.2
 (⟨a.1, sgn b.1, (c.1 : Int) - 1440, sgn d.1, e.1, f.1⟩, f.2)
def rBox (st : Rs) : BoxV × Rs :=
 let a := rN 4 st
 let b := rN 4 a.2
 let c := rN 1 b.2
 let d := rMany rMsg c.1 c.2
 (⟨a.1, b.1, d.1⟩, d.2)
def rNm (st : Rs) : NmP × Rs := (((rT st).1, (rBox (rT st).2).1), (rBox (rT st).2).2)
def eW (bs : Oc) : MailP :=
 let a := rN 4 (some bs)
 let b := rN 4 a.2
 let c := rN 1 b.2
 let d := rMany rNm c.1 c.2
 let e := rTs d.2
 ⟨d.1, e.1, a.1, b.1⟩
def mT (bs : Oc) : Except Nat MailP := if bY (eW bs) ∧ bF (eW bs) = bs then .ok (eW bs) else .error 3
theorem dA {v n : Nat} (h : v < 256 ^ n) (r : Oc) : rN n (some (qL v n ++ r)) = (v, some r) := by
 have e1 : (qL v n ++ r).take n = qL v n := by rw [zax (by rw [qB]; omega), zt (by rw [qB]; omega)]
 have e2 : (qL v n ++ r).drop n = r := by rw [zdp, zbg (by rw [qB]; omega), qB, zdh]; rfl
 unfold rN
 dsimp only
 rw [if_neg (by rw [zf, qB]; omega), e1, e2, tF n v h]
theorem qKz (o r : Oc) : rW o.length (some (o ++ r)) = (o, some r) := by
 unfold rW
 dsimp only
 rw [if_neg (by rw [zf]; omega), zax jo, zt jo, zdp, zbg jo, zdh]
 rfl
theorem qZ0 {s : Tx} (h : s.length < 256) (r : Oc) : rT (some (txL s ++ r)) = (s, some r) := by
 unfold rT txL
 rw [zat, dA jo]
 dsimp only
 rw [← pG s, qKz, wK]
theorem pH {α : Type} {f : Rs → α × Rs} {enc : α → Oc} (l : List α) (h : ∀ x ∈ l, ∀ r, f (some (enc x ++ r)) = (x, some r)) (r : Oc) : ∀ k, k ≤ l.length → rMany f k (some (l.flatMap enc ++ r)) = (l.take k, some ((l.drop k).flatMap enc ++ r))
 | 0, _ => rfl
 | k + 1, hk => by
  have ih := pH l h r k jo
  have e : l.drop k = l[k] :: l.drop (k + 1) := zbd jo
  unfold rMany
  rw [ih, e, zek, zat]
  dsimp only
  rw [h _ (zw _), zau, zd jo]
  rfl
theorem mU {α : Type} {f : Rs → α × Rs} {enc : α → Oc} (l : List α) (h : ∀ x ∈ l, ∀ r, f (some (enc x ++ r)) = (x, some r)) (r : Oc) : rMany f l.length (some (l.flatMap enc ++ r)) = (l, some r) := by
 rw [pH l h r l.length (zac _), zt (zac _), List.drop_of_length_le (zac _)]
 rfl
theorem wY {l : List Tx} (hn : l.length < 256) (h : ∀ s ∈ l, s.length < 256) (r : Oc) : rTs (some (kJ l ++ r)) = (l, some r) := by
 unfold rTs kJ
 rw [zat, dA jo]
 dsimp only
 exact mU l (fun s hs r => qZ0 (h s hs) r) r
structure MsgFit (m : MsgP) : Prop where
 u0 : 0 ≤ m.uid
 u1 : m.uid < 4294967296
 s0 : -9223372036854775808 ≤ m.sec
 s1 : m.sec ≤ 9223372036854775807
 z0 : 0 ≤ m.zone + 1440
 z1 : m.zone + 1440 < 65536
 n0 : 0 ≤ m.size
 n1 : m.size ≤ 9223372036854775807
 b1 : m.blob < 4294967296
 f1 : m.flags.length < 256
 f2 : ∀ s ∈ m.flags, s.length < 256
theorem qZk {m : MsgP} (h : MsgFit m) (r : Oc) : rMsg (some (fS m ++ r)) = (m, some r) := by
 have e : fS m ++ r = qL (u64 m.uid) 4 ++ (qL (u64 m.sec) 8 ++ (qL (u64 (m.zone + 1440)) 2 ++ (qL (u64 m.size) 8 ++ (qL m.blob 4 ++ (kJ m.flags ++ r))))) := by
  unfold fS rQ
  simp only [zat]
 have hu := gT h.u0 (by have := h.u1; omega)
 have hz := gT h.z0 (by have := h.z1; omega)
 rw [e]
 unfold rMsg
 rw [dA (by have := h.u1; omega)]
 dsimp only
 rw [dA (show _ < 256 ^ 8 from kN _)]
 dsimp only
 rw [dA (by have := h.z1; omega)]
 dsimp only
 rw [dA (show _ < 256 ^ 8 from kN _)]
 dsimp only
 rw [dA (by have := h.b1; omega)]
 dsimp only
 rw [wY h.f1 h.f2 r]
 dsimp only
 rw [wW h.s0 h.s1, wW (by have := h.n0; omega) h.n1, hu, hz, show m.zone + 1440 - 1440 = m.zone by omega]
structure BoxFit (b : BoxV) : Prop where
 v0 : 0 ≤ b.valid
 v1 : b.valid < 4294967296
 n0 : 0 ≤ b.next
 n1 : b.next < 4294967296
 l1 : b.l.length < 256
 el : ∀ m ∈ b.l, MsgFit m
theorem qZl {b : BoxV} (h : BoxFit b) (r : Oc) : rBox (some (rZ b ++ r)) = (b, some r) := by
 have e : rZ b ++ r = qL (u64 b.valid) 4 ++ (qL (u64 b.next) 4 ++ (qL b.l.length 1 ++ (b.l.flatMap fS ++ r))) := by
  unfold rZ rX
  simp only [zat]
 have hv := gT h.v0 (by have := h.v1; omega)
 have hn := gT h.n0 (by have := h.n1; omega)
 rw [e]
 unfold rBox
 rw [dA (by have := h.v1; omega)]
 dsimp only
 rw [dA (by have := h.n1; omega)]
 dsimp only
 rw [dA (by have := h.l1; omega)]
 dsimp only
 rw [mU b.l (fun m hm r => qZk (h.el m hm) r) r]
 dsimp only
 rw [hv, hn]
theorem qKg {x : NmP} (h1 : x.1.length < 256) (h2 : BoxFit x.2) (r : Oc) : rNm (some (nmL x ++ r)) = (x, some r) := by
 unfold rNm nmL
 rw [zat, qZ0 h1]
 dsimp only
 rw [qZl h2]
structure MailFit (m : MailP) : Prop where
 v0 : 0 ≤ m.valid
 v1 : m.valid < 4294967296
 b0 : 0 ≤ m.blob
 b1 : m.blob < 4294967296
 l1 : m.l.length < 256
 s1 : m.subs.length < 256
 s2 : ∀ s ∈ m.subs, s.length < 256
 el : ∀ x ∈ m.l, x.1.length < 256 ∧ BoxFit x.2
theorem yA {m : MailP} (h : MailFit m) : eW (bF m) = m := by
 have e : bF m = qL (u64 m.valid) 4 ++ (qL (u64 m.blob) 4 ++ (qL m.l.length 1 ++ (m.l.flatMap nmL ++ (kJ m.subs ++ [])))) := by
  unfold bF
  simp only [zat, zcc]
 have hv := gT h.v0 (by have := h.v1; omega)
 have hb := gT h.b0 (by have := h.b1; omega)
 rw [e]
 unfold eW
 rw [dA (by have := h.v1; omega)]
 dsimp only
 rw [dA (by have := h.b1; omega)]
 dsimp only
 rw [dA (by have := h.l1; omega)]
 dsimp only
 rw [mU m.l (fun x hx r => qKg (h.el x hx).1 (h.el x hx).2 r) _]
 dsimp only
 rw [wY h.s1 h.s2 []]
 dsimp only
 rw [hv, hb]
def fT (m : MailP) : Prop := ∀ x ∈ m.l, ∀ y ∈ x.2.l, y.size ≤ 9223372036854775807
theorem pM {l : List Tx} (h : dK l) : l.length < 256 ∧ ∀ s ∈ l, s.length < 256 := by
 refine ⟨by have := h.1; omega, fun s hs => ?_⟩
 obtain ⟨i, hi, rfl⟩ := zag hs
 have := (h.2 i hi).1.1.2.1
 omega
theorem mC {next : Int} {l : List MsgP} (h : ∀ j (hj : j < l.length), bI next l j l[j]) : ∀ j (hj : j < l.length), 0 ≤ prevU l j ∧ 0 ≤ l[j].uid := by
 intro j
 induction j with
 | zero => intro hj; have := (h 0 hj).1; exact ⟨Int.le_refl _, by simp only [prevU] at this; omega⟩
 | succ j ih =>
  intro hj
  have h1 := (ih jo).2
  have h2 := (h (j + 1) hj).1
  have e : prevU l (j + 1) = l[j].uid := by show ((l[j]?).map MsgP.uid).getD 0 = _; rw [zd jo]; rfl
  rw [e] at h2 ⊢
  exact ⟨h1, jo⟩
theorem qJs {m : MailP} (h : bY m) (hz : fT m) : MailFit m := by
 obtain ⟨⟨hn, hs, hv0, hv1, hb0, hb1, _⟩, hB⟩ := h
 obtain ⟨n1, n2⟩ := pM hn
 obtain ⟨s1, s2⟩ := pM hs
 refine ⟨jo, jo, jo, jo, by rwa [zal] at n1, s1, s2, fun x hx => ⟨n2 _ (zbr hx), ?_⟩⟩
 obtain ⟨i, hi, rfl⟩ := zag hx
 obtain ⟨⟨⟨b1, b2, b3, b4, b5⟩, hG⟩, _, _, hbl⟩ := hB i hi
 refine ⟨jo, jo, jo, jo, jo, fun y hy => ?_⟩
 have hbl := hbl y hy
 have hsz := hz _ hx y hy
 obtain ⟨j, hj, rfl⟩ := zag hy
 obtain ⟨g1, g2, ⟨d1, d2, d3, d4⟩, g4, g5, g6⟩ := hG j hj
 have hu := (mC hG j hj).2
 obtain ⟨_, f1, _, f2⟩ := eN g6
 exact ⟨hu, jo, jo, jo, jo, jo, g4, hsz, jo, jo, fun s hs => by have := (gV (f2 s hs)).2; omega⟩
theorem mD {m : MailP} (h : bY m) (hz : fT m) : eW (bF m) = m := yA (qJs h hz)
theorem qZm {m : MailP} (h : bY m) (hz : fT m) : mT (bF m) = .ok m := by
 unfold mT
 rw [mD h hz, if_pos ⟨h, rfl⟩]
theorem qZn {a b : MailP} (ha : bY a) (hb : bY b) (za : fT a) (zb : fT b) (h : bF a = bF b) : a = b := by rw [← mD ha za, ← mD hb zb, h]
end
section
open Go.RowKit
theorem yI (v n : Nat) (w : World) (hn1 : 1 ≤ n) (hn8 : n ≤ 8) (hv : v < 256 ^ n) :
  Calls Tryz.prog 132 #[.int .u64 ((v : Nat) : Int), .int .i64 ((n : Nat) : Int)] w fun e w' => e = .returned (.tuple #[.string (dY (qL v n)), .int .i64 ((0 : Nat) : Int)]) ∧ Frm [] w w' := by
 have hv64 : v < 18446744073709551616 := zbf hv (by
  have : (256 : Nat) ^ n ≤ 256 ^ 8 := zca jo hn8
  exact this)
 refine VC.calls (nt := 31) (res := #[.tmp 4, .tmp 5]) Tryz.func132 rfl Tryz.ntmps132 Tryz.results132 rfl ?_
 refine jS (jR (ja rfl (jz 0 (jO (jN (jv2 0 1 ?_))))))
 refine jS (jS ?_)
 refine VC.split1 [(0, _), (1, _)] (js2 rfl rfl) 13 (.bool (decide (n < 1 ∨ 8 < n))) ?_ ?_
 ·
  refine jR ?_
  refine jm rfl (jb rfl rfl (Bin.lssN _ 1) ?_)
  by_cases hs9 : n < 1
  ·
   refine jM ?_
   refine jU ?_
   refine jU ?_
   refine je (Run.pickT rfl rfl au) (jO ?_)
   refine jN ⟨(js3 (jC (by first | (simp [*]; done) | (simp; omega))) rfl rfl), rfl⟩
  refine jM ?_
  refine jG ?_
  refine jk (Run.bin rfl rfl (Bin.gtrN _ 8)) ?_
  by_cases hs12 : 8 < n
  ·
   refine je (Run.pickF rfl rfl au) (jO ?_)
   refine jN ⟨(js3 (jC (by first | (simp [*]; done) | (simp; omega))) rfl rfl), rfl⟩
  refine je (Run.pickF rfl rfl au) (jO ?_)
  refine jN ⟨(js3 (jC (by first | (simp [*]; done) | (simp; omega))) rfl rfl), rfl⟩
 intro Γ hΓ
 refine jN (VC.sub _ hΓ ?_)
 refine VC.condF rfl (decide_eq_false jo) ?_
 refine jQ (jN (jv2 0 1 ?_))
 refine jS (jR (ja rfl (jO (jN (jS (jS (jR (jz 0 (jO (jN (jB ?_)))))))))))
 refine VC.loop (σ := Nat) (fun s => [(0, .int .u64 ((v / 256 ^ s : Nat) : Int)), (1, .int .i64 ((n : Nat) : Int)), (6, .string (dY (qL v s))), (7, .int .i64 ((s : Nat) : Int))]) (fun s wr => s ≤ n ∧ Frm [] w wr) (fun s => n - s) 0 (js4 (by rw [Nat.pow_zero, Nat.div_one]; rfl) rfl rfl rfl) ⟨jo, Frm.refl _ _⟩ ?_
 rintro i wr ⟨hi, K⟩
 have hvl : v / 256 ^ i ≤ v := Nat.div_le_self _ _
 have hsz : (dY (qL v i)).size ≤ 8 := by rw [bD, qB]; omega
 refine jS (jS (jR (jm rfl (jm rfl (jb rfl rfl (Bin.lssN _ _) (jO (jN (jv5 0 1 6 7 16 ?_))))))))
 refine jD rfl (fun hc2 => ?_) fun hc2 => ?_
 ·
  refine jQ (jN (jv4 0 1 6 7 ?_))
  refine jS (jB (jS (jR (jm rfl (jm rfl (jb rfl rfl (Bin.remN _ 256 jo) (je (Run.conv8 _ rfl zah zbe) ?_)))))))
  rw [Nat.mod_eq_of_lt (by omega : v / 256 ^ i % 256 < 256)]
  refine Ops.m (qK.buildS1 rfl zaj zbv wL jd jd rfl rfl) rfl ?_
  rintro _ w2 ⟨rfl, hF2⟩
  have hrd2 : Rd w2 1 (some ⟨wr.heap.size, 0, none⟩) 1 (U8 ([v / 256 ^ i % 256].map UInt8.ofNat)) := by
   rw [← sR [v / 256 ^ i % 256] (by intro b hb; simp at hb; omega)]
   exact Rd.of_blk (n := 1) (size := 1) hF2.blk rfl
  refine je (Run.strOf rfl zaj zbe zk hrd2) (je (Run.addStr rfl rfl (by show (dY (qL v i)).size + 1 ≤ 9223372036854775807; omega)) (ja rfl (jO (jN (jv4 0 1 6 7 ?_)))))
  refine jR (jm rfl (jb rfl rfl (Bin.quo_u64 _ 256 jo jo) ?_))
  rw [Nat.div_div_eq_div_mul, show (256 : Nat) ^ i * 256 = 256 ^ (i + 1) from (Nat.pow_succ ..).symm]
  refine ja rfl (jO ?_)
  refine qW (jN ?_)
  refine jv4 0 1 6 7 ?_
  refine jR (jm rfl (jb rfl rfl (Bin.add_i64 _ 1 jo) (ja rfl (jO ?_))))
  refine jN ⟨i + 1, (js4 rfl rfl (by rw [mS, ← bN]; rfl) rfl), ?_, ?_⟩
  · exact ⟨jo, K.trans hF2.frm jp⟩
  first | omega | (dsimp only; omega)
 refine jX ?_
 refine qJ (qJ (qR ?_))
 refine jN (jv2 0 6 ?_)
 refine jS (jS (jR (jm rfl (jb rfl rfl (Bin.gtrN _ 0) (jO (jN (jv2 6 29 ?_)))))))
 refine VC.condF rfl (decide_eq_false (by rw [show i = n by omega, zeq hv]; simp)) ?_
 refine jQ (jN (jv1 6 ?_))
 refine jS (jR (jm rfl (ja rfl (jz 0 (jO (jN (jv2 4 5 ?_)))))))
 refine jT ?_
 refine dR rfl rfl ?_
 obtain rfl : i = n := jo
 exact ⟨rfl, K⟩
theorem cP (v n : Nat) (w : World) (hn1 : 1 ≤ n) (hn8 : n ≤ 8) (hv : v < 256 ^ n) :
  Calls Tryz.prog 95 #[.int .u64 ((v : Nat) : Int), .int .i64 ((n : Nat) : Int)] w fun e w' => e = .returned (.string (dY (qL v n))) ∧ Frm [] w w' := by
 refine VC.calls (nt := 14) (res := #[.tmp 4]) Tryz.func95 rfl Tryz.ntmps95 Tryz.results95 rfl ?_
 refine jS (jR (ja rfl (jO (jN (jv2 0 1 ?_)))))
 refine jS (jR (jm rfl (jM ?_)))
 refine Ops.cl (jE2 Tryz.call132) (yI v n w hn1 hn8 hv) rfl ?_
 rintro e w1 ⟨rfl, K⟩
 refine ⟨_, rfl, ?_⟩
 refine jm rfl (je (Run.extract rfl rfl) (je (Run.extract rfl rfl) (ja rfl (ja rfl (jO (jN (jv1 5 ?_)))))))
 refine jS (jR (jm rfl (ja rfl (jO (jN (jv1 4 ?_))))))
 refine jT ?_
 refine qN rfl ?_
 exact ⟨rfl, K⟩
end
section
open Go.RowKit Go.Sort
structure Bts (w w' : World) (base : Nat) : Prop where
 blk : ∀ g t cs, t ≠ 76 → t ≠ 5 → Blk w g t cs → Blk w' g t cs
 frm : ∀ w0, w0.heap.size = base → Frm [] w0 w → Frm [] w0 w'
 le : w.heap.size ≤ w'.heap.size
theorem Bts.trans {a b c : World} {base : Nat} (h : Bts a b base) (k : Bts b c base) : Bts a c base := ⟨fun g t cs h1 h2 hb => k.blk g t cs h1 h2 (h.blk g t cs h1 h2 hb), fun w0 h0 hf => k.frm w0 h0 (h.frm w0 h0 hf), zbc h.le k.le⟩
theorem Bts.nil {w w' : World} {base : Nat} (k : Frm [] w w') : Bts w w' base := ⟨fun g t cs _ _ hb => hb.frm k jp, fun w0 _ hf => hf.trans k jp, k.size⟩
theorem Bts.one {w w' : World} {base g : Nat} {cs : Array Value} {t : TypeId} (k : Frm [g] w w') (hb : Blk w g t cs) (ht : t = 76 ∨ t = 5) (hg : base ≤ g) : Bts w w' base :=
 ⟨fun y t2 cs2 h1 h2 hy => hy.frm k (fun e => by
  rw [zc] at e
  subst e
  rcases ht with rfl | rfl
  · exact hy.ne hb h1 rfl
  exact hy.ne hb h2 rfl), fun w0 h0 hf => hf.own k (fun y hy => by rw [zc] at hy; omega), k.size⟩
theorem Bts.own {w w' : World} {base n d : Nat} {B : Option Addr} {xs : List Value} (k : Frm (ob B) w w') (ho : Own w 5 1 B n d xs) (hB : ∀ x ∈ ob B, base ≤ x) : Bts w w' base :=
 ⟨fun y t2 cs2 h1 h2 hy => hy.frm k (fun e => ho.ne_blk hy h2.symm e), fun w0 h0 hf => hf.own k (fun y hy => by have := hB y hy; omega), k.size⟩
def eZ (w : World) (g base : Nat) (bs : Oc) : Prop := base ≤ g ∧ ∃ B d, Blk w g 76 #[.slice B bs.length d] ∧ Own w 5 1 B bs.length d (NB bs) ∧ ∀ x ∈ ob B, base ≤ x
theorem eZ.blk {w w' : World} {g g2 base : Nat} {bs : Oc} {t : TypeId} {cs : Array Value} (h : eZ w g base bs) (k : Frm [g2] w w') (hb : Blk w g2 t cs) (h1 : 76 ≠ t) (h2 : 5 ≠ t) : eZ w' g base bs := by
 obtain ⟨h0, B, d, h3, h4, h5⟩ := h
 exact ⟨h0, B, d, h3.frm k (fun e => by rw [zc] at e; exact h3.ne hb h1 e), h4.frm k (fun y hy e => by rw [zc] at e; subst e; exact h4.ne_blk hb h2 hy), h5⟩
theorem eZ.nil {w w' : World} {g base : Nat} {bs : Oc} (h : eZ w g base bs) (k : Frm [] w w') : eZ w' g base bs := by
 obtain ⟨h0, B, d, h3, h4, h5⟩ := h
 exact ⟨h0, B, d, h3.frm k jp, h4.frm k jp, h5⟩
theorem qK0 (q : Tx) : NB (tO q) = U8 q := by simp [NB, U8, tO, zce, Function.comp_def]
theorem cR (v n gb base : Nat) (bs : Oc) (w : World) (hn1 : 1 ≤ n) (hn8 : n ≤ 8) (hv : v < 256 ^ n) (hl : bs.length ≤ 10000000) (hI : eZ w gb base bs) (hbase : base ≤ w.heap.size) :
  Calls Tryz.prog 97 #[.int .u64 ((v : Nat) : Int), .int .i64 ((n : Nat) : Int), .pointer (some ⟨gb, 0, none⟩)] w fun e w' => e = .returned (.tuple #[]) ∧ eZ w' gb base (bs ++ qL v n) ∧ Bts w w' base := by
 obtain ⟨h0, B, d, hb, ho, hob⟩ := hI
 refine VC.calls (nt := 16) (res := #[]) Tryz.func97 rfl Tryz.ntmps97 Tryz.results97 rfl ?_
 refine jS (jR (jm rfl (jM ?_)))
 refine Ops.cl (jE2 Tryz.call98) (yD v n _ hn1 hn8 hv) rfl ?_
 rintro e w1 ⟨C, dc, rfl, hoc, hf1, hoc1⟩
 have hb := hb.frm hf1 jp
 have ho := ho.frm hf1 jp
 have K : Bts w w1 base := .nil hf1
 refine ⟨_, rfl, ?_⟩
 refine jm rfl (je (Run.extract rfl rfl) (je (Run.extract rfl rfl) (ja rfl (ja rfl (jO (jN (jv2 2 5 ?_)))))))
 refine jR (jl rfl zem (hb.cell 0) (jM ?_))
 refine Ops.m (qK.app rfl rfl zaj (nQ) rfl jd ho (show Rd _ 1 C n (NB (qL v n)) from hoc.rd) (pW _) jo jo) rfl ?_
 rintro _ w2 ⟨B5, d5, rfl, ho5, hf5, hob5⟩
 rw [← mR] at ho5
 have hb := hb.frm hf5 (ho.ne_blk hb jd)
 have hk2 := hf1.size
 have K := K.trans (Bts.own hf5 ho hob)
 have hob6 : ∀ b ∈ ob B5, base ≤ b := fun b hb => by
  rcases hob5 with h | h
  · rw [h] at hb; exact hob b hb
  rw [h, zc] at hb; omega
 have hbo := hb
 refine Ops.st (qH.store rfl rfl zeg hb rfl rfl) ?_
 rintro w3 ⟨hbn, (hf3 : Frm [gb] _ _), hs3⟩
 have hb : Blk w3 gb 76 #[.slice B5 (bs ++ qL v n).length d5] := by rw [zf, qB]; exact hbn
 have ho6 : Own w3 5 1 B5 (bs ++ qL v n).length d5 (NB (bs ++ qL v n)) := by
  rw [zf, qB]
  exact ho5.frm hf3 (fun y hy h => by rw [zc] at h; subst h; exact ho5.ne_blk hbo jd hy)
 have K := K.trans (Bts.one hf3 hbo (.inl rfl) h0)
 refine jO ?_
 refine wF ?_
 exact ⟨rfl, ⟨h0, B5, d5, hb, ho6, hob6⟩, K⟩
theorem lN (q : Tx) (gn gb base : Nat) (bs : Oc) (w : World) (hq : q.length < 256) (hl : bs.length ≤ 10000000) (hI : eZ w gb base bs) (hN : Blk w gn 130 #[.func (.func 97) #[] #[.pointer (some ⟨gb, 0, none⟩)]]) (hbase : base ≤ w.heap.size) :
  Calls Tryz.prog 99 #[encStr q, .pointer (some ⟨gn, 0, none⟩), .pointer (some ⟨gb, 0, none⟩)] w fun e w' => e = .returned (.tuple #[]) ∧ eZ w' gb base (bs ++ txL q) ∧ Bts w w' base := by
 refine VC.calls (nt := 12) (res := #[]) Tryz.func99 rfl Tryz.ntmps99 Tryz.results99 rfl ?_
 refine jS (jR (jl rfl zci (hN.cell 0) (jm rfl (je (Run.lenT rfl zk) (je (Run.convN _ rfl zv zah (by simp only [bmax]; omega)) ?_)))))
 refine Ops.cl (bJ.dyn rfl (evs.cons rfl (evs.cons rfl evs.nil)) zcw) (cR q.length 1 gb base bs _ jo jo jo hl hI hbase) rfl ?_
 rintro e w1 ⟨rfl, hI1, K⟩
 have hbase := zbc hbase K.le
 refine ⟨_, rfl, ?_⟩
 obtain ⟨h0, B, d, hb, ho, hob⟩ := hI1
 refine jO (jN (jv2 0 2 ?_))
 refine jR (jl rfl zem (hb.cell 0) (jM ?_))
 refine Ops.m (qK.appStr base rfl rfl zaj zk (nQ) ho hob hbase (by rw [zf, qB]; omega)) rfl ?_
 rintro _ w2 ⟨B5, d5, rfl, ho5, hf5, hob5⟩
 rw [← qK0, ← mR, zat, show qL q.length 1 ++ tO q = txL q from rfl] at ho5
 have hb := hb.frm hf5 (ho.ne_blk hb jd)
 have K := K.trans (Bts.own hf5 ho hob)
 have hbo := hb
 have hL : (bs ++ txL q).length = (bs ++ qL q.length 1).length + q.length := by unfold txL; simp only [zf, pG]; omega
 refine Ops.st (qH.store rfl rfl zeg hb rfl rfl) ?_
 rintro w3 ⟨hbn, (hf3 : Frm [gb] _ _), hs3⟩
 have hb : Blk w3 gb 76 #[.slice B5 (bs ++ txL q).length d5] := by rw [hL]; exact hbn
 have ho6 : Own w3 5 1 B5 (bs ++ txL q).length d5 (NB (bs ++ txL q)) := by
  rw [hL]
  exact ho5.frm hf3 (fun y hy h => by rw [zc] at h; subst h; exact ho5.ne_blk hbo jd hy)
 have K := K.trans (Bts.one hf3 hbo (.inl rfl) h0)
 refine jO ?_
 refine wF ?_
 exact ⟨rfl, ⟨h0, B5, d5, hb, ho6, hob5⟩, K⟩
end
section
open Go.RowKit Go.Sort
theorem qKh (w : World) : (zeroValue 130).run Tryz.prog w = .ok .nilFunc w := by
 simp only [zeroValue, Sem.run_bind, Tryz.typeInfo130, Result.andThen_ok]; rfl
theorem cO (x : Int) : IntKind.u64.wrap x = ((u64 x : Nat) : Int) := by
 have h := Int.emod_nonneg x (show (18446744073709551616 : Int) ≠ 0 by decide)
 unfold u64
 simp [IntKind.wrap, IntKind.bits, IntKind.signed]
 omega
theorem fL {α : Type} {f : α → Oc} {c : Nat} : ∀ l : List α, (∀ x ∈ l, (f x).length ≤ c) → (l.flatMap f).length ≤ l.length * c
 | [], _ => jp
 | x :: r, h => by
  have h1 := fL r (fun y hy => h y (zeu _ hy))
  have h2 := h x zfe
  rw [zek, zf, zbi, Nat.succ_mul]
  omega
structure MsgRm (m : MsgP) : Prop where
 u0 : 0 ≤ m.uid
 u1 : m.uid < 4294967296
 z0 : 0 ≤ m.zone + 1440
 z1 : m.zone + 1440 < 65536
 b1 : m.blob < 4294967296
 f1 : m.flags.length ≤ 16
 f2 : ∀ s ∈ m.flags, s.length ≤ 20
structure BoxRm (b : BoxV) : Prop where
 v0 : 0 ≤ b.valid
 v1 : b.valid < 4294967296
 n0 : 0 ≤ b.next
 n1 : b.next < 4294967296
 l1 : b.l.length ≤ 128
 el : ∀ m ∈ b.l, MsgRm m
structure MailRm (m : MailP) : Prop where
 v0 : 0 ≤ m.valid
 v1 : m.valid < 4294967296
 b0 : 0 ≤ m.blob
 b1 : m.blob < 4294967296
 l1 : m.l.length ≤ 24
 s1 : m.subs.length ≤ 24
 s2 : ∀ s ∈ m.subs, s.length ≤ 60
 el : ∀ x ∈ m.l, x.1.length ≤ 60 ∧ BoxRm x.2
theorem pN {l : List Tx} (h : dK l) : l.length ≤ 24 ∧ ∀ s ∈ l, s.length ≤ 60 := by
 refine ⟨h.1, fun s hs => ?_⟩
 obtain ⟨i, hi, rfl⟩ := zag hs
 exact (h.2 i hi).1.1.2.1
theorem tI {m : MailP} (h : bY m) : MailRm m := by
 obtain ⟨⟨hn, hs, hv0, hv1, hb0, hb1, _⟩, hB⟩ := h
 obtain ⟨n1, n2⟩ := pN hn
 obtain ⟨s1, s2⟩ := pN hs
 refine ⟨jo, jo, jo, jo, by rwa [zal] at n1, s1, s2, fun x hx => ⟨n2 _ (zbr hx), ?_⟩⟩
 obtain ⟨i, hi, rfl⟩ := zag hx
 obtain ⟨⟨⟨b1, b2, b3, b4, b5⟩, hG⟩, _, _, hbl⟩ := hB i hi
 refine ⟨jo, jo, jo, jo, jo, fun y hy => ?_⟩
 have hbl := hbl y hy
 obtain ⟨j, hj, rfl⟩ := zag hy
 obtain ⟨g1, g2, ⟨d1, d2, d3, d4⟩, g4, g5, g6⟩ := hG j hj
 have hu := (mC hG j hj).2
 obtain ⟨_, f1, _, f2⟩ := eN g6
 exact ⟨hu, jo, jo, jo, jo, f1, fun s hs => (gV (f2 s hs)).2⟩
theorem bW (s : Tx) : (txL s).length = 1 + s.length := by unfold txL; rw [zf, qB, pG]
theorem tL (m : MsgP) : (rQ m).length = 26 := by unfold rQ; simp only [zf, qB]
theorem uQ (b : BoxV) : (rX b).length = 9 := by unfold rX; simp only [zf, qB]
theorem wG {m : MsgP} (h : MsgRm m) : (fS m).length ≤ 363 := by
 have h1 := fL (f := txL) (c := 21) m.flags (fun s hs => by rw [bW]; have := h.f2 s hs; omega)
 have h2 := h.f1
 have h3 : m.flags.length * 21 ≤ 16 * 21 := zaz _ h2
 unfold fS kJ
 rw [zf, tL, zf, qB]
 omega
theorem qKi {x : NmP} (h1 : x.1.length ≤ 60) (h : BoxRm x.2) : (nmL x).length ≤ 50000 := by
 have h3 := fL (f := fS) (c := 363) x.2.l (fun s hs => wG (h.el s hs))
 have h2 := h.l1
 have h4 : x.2.l.length * 363 ≤ 128 * 363 := zaz _ h2
 unfold nmL rZ
 rw [zf, bW, zf, uQ]
 omega
def eJ (m : MailP) (i : Nat) : Oc := qL (u64 m.valid) 4 ++ qL (u64 m.blob) 4 ++ qL m.l.length 1 ++ (m.l.take i).flatMap nmL
def eO (bs : Oc) (x : NmP) (k : Nat) : Oc := bs ++ (txL x.1 ++ (rX x.2 ++ (x.2.l.take k).flatMap fS))
def gP (bs : Oc) (y : MsgP) (j : Nat) : Oc := bs ++ (rQ y ++ (qL y.flags.length 1 ++ (y.flags.take j).flatMap txL))
def eK (m : MailP) (j : Nat) : Oc := eJ m m.l.length ++ (qL m.subs.length 1 ++ (m.subs.take j).flatMap txL)
theorem jE {α : Type} {f : α → Oc} {l : List α} {i : Nat} (h : i < l.length) : (l.take (i + 1)).flatMap f = (l.take i).flatMap f ++ f l[i] := by
 rw [zau, zd h, List.flatMap_append]
 simp
theorem rJ {m : MailP} (h : MailRm m) (i : Nat) : (eJ m i).length ≤ 1300000 := by
 have h1 := fL (f := nmL) (c := 50000) (m.l.take i) (fun x hx => qKi (h.el x (zaw hx)).1 (h.el x (zaw hx)).2)
 have h2 : (m.l.take i).length ≤ 24 := zbc (zev _ _) h.l1
 have h3 : (m.l.take i).length * 50000 ≤ 24 * 50000 := zaz _ h2
 unfold eJ
 simp only [zf, qB]
 omega
theorem wH {bs : Oc} {x : NmP} (h1 : x.1.length ≤ 60) (h : BoxRm x.2) (k : Nat) : (eO bs x k).length ≤ bs.length + 50000 := by
 have h3 := fL (f := fS) (c := 363) (x.2.l.take k) (fun s hs => wG (h.el s (zaw hs)))
 have h2 : (x.2.l.take k).length ≤ 128 := zbc (zev _ _) h.l1
 have h4 : (x.2.l.take k).length * 363 ≤ 128 * 363 := zaz _ h2
 unfold eO
 simp only [zf, bW, uQ]
 omega
theorem wM {bs : Oc} {y : MsgP} (h : MsgRm y) (j : Nat) : (gP bs y j).length ≤ bs.length + 363 := by
 have h1 := fL (f := txL) (c := 21) (y.flags.take j) (fun s hs => by rw [bW]; have := h.f2 s (zaw hs); omega)
 have h2 : (y.flags.take j).length ≤ 16 := zbc (zev _ _) h.f1
 have h3 : (y.flags.take j).length * 21 ≤ 16 * 21 := zaz _ h2
 unfold gP
 simp only [zf, qB, tL]
 omega
theorem rK {m : MailP} (h : MailRm m) (j : Nat) : (eK m j).length ≤ 1400000 := by
 have h0 := rJ h m.l.length
 have h1 := fL (f := txL) (c := 61) (m.subs.take j) (fun s hs => by rw [bW]; have := h.s2 s (zaw hs); omega)
 have h2 : (m.subs.take j).length ≤ 24 := zbc (zev _ _) h.s1
 have h3 : (m.subs.take j).length * 61 ≤ 24 * 61 := zaz _ h2
 unfold eK
 simp only [zf, qB]
 omega
theorem qQw (m : MailP) : qL (u64 m.valid) 4 ++ qL (u64 m.blob) 4 ++ qL m.l.length 1 = eJ m 0 := by simp [eJ]
theorem sZ {m : MailP} {i : Nat} (h : i < m.l.length) : eJ m (i + 1) = eJ m i ++ nmL m.l[i] := by unfold eJ; rw [jE h, zat _ _ (nmL _)]
theorem qQx (bs : Oc) (x : NmP) : bs ++ txL x.1 ++ qL (u64 x.2.valid) 4 ++ qL (u64 x.2.next) 4 ++ qL x.2.l.length 1 = eO bs x 0 := by simp [eO, rX, zat]
theorem sJ {bs : Oc} {x : NmP} {k : Nat} (h : k < x.2.l.length) : eO bs x (k + 1) = eO bs x k ++ fS x.2.l[k] := by unfold eO; rw [jE h]; simp only [zat]
theorem uX (bs : Oc) (x : NmP) : eO bs x x.2.l.length = bs ++ nmL x := by unfold eO nmL rZ; rw [zt (zac _)]
theorem qQy (bs : Oc) (y : MsgP) : bs ++ qL (u64 y.uid) 4 ++ qL (u64 y.sec) 8 ++ qL (u64 (y.zone + 1440)) 2 ++ qL (u64 y.size) 8 ++ qL y.blob 4 ++ qL y.flags.length 1 = gP bs y 0 := by simp [gP, rQ, zat]
theorem sK {bs : Oc} {y : MsgP} {j : Nat} (h : j < y.flags.length) : gP bs y (j + 1) = gP bs y j ++ txL y.flags[j] := by unfold gP; rw [jE h]; simp only [zat]
theorem uZ (bs : Oc) (y : MsgP) : gP bs y y.flags.length = bs ++ fS y := by unfold gP fS kJ; rw [zt (zac _)]
theorem qQz (m : MailP) : eJ m m.l.length ++ qL m.subs.length 1 = eK m 0 := by simp [eK]
theorem sV {m : MailP} {j : Nat} (h : j < m.subs.length) : eK m (j + 1) = eK m j ++ txL m.subs[j] := by unfold eK; rw [jE h]; simp only [zat]
theorem oY (m : MailP) : eK m m.subs.length = bF m := by unfold eK eJ bF kJ; rw [zt (zac _), zt (zac _)]
theorem dH {x : Int} {n : Nat} (h0 : 0 ≤ x) (h : x < (n : Int)) (hn : n ≤ 18446744073709551616) : u64 x < n := by unfold u64; omega
def dG (m : MailP) : Oc := if bY m then bF m else []
set_option maxHeartbeats 2000000 in
theorem fU (m : MlC) (w : World) (hm : RdL w m) (hv : cK w) :
  Calls Tryz.prog 43 #[m.val] w fun e w' => ∃ B d, e = .returned (.slice B (dG m.p).length d) ∧ Own w' 5 1 B (dG m.p).length d (NB (dG m.p)) ∧ Frm [] w w' := by
 refine VC.calls (nt := 137) (res := #[.tmp 2]) Tryz.func43 rfl Tryz.ntmps43 Tryz.results43 rfl ?_
 refine jS (jR ?_)
 refine Ops.m (qK.box rfl) rfl ?_
 rintro _ w1 ⟨rfl, hF_w1⟩
 have hb1 : Blk w1 w.heap.size 25 #[.slice m.A m.l.length m.c, .slice m.S m.ss.length m.d, .int .i64 m.v, .int .i64 m.b] := hF_w1.blk
 have K := hF_w1.frm
 generalize hg1 : w.heap.size = g1 at hb1 ⊢
 refine ja rfl (jO (jN (jv1 1 ?_)))
 refine jS (jS (jR (je (Run.loadA rfl zm ze hb1.cells (by first | rfl | (simp; done))) ?_)))
 refine Ops.cl (jE1 zea) (dM m _ (hm.frm K) (hv.frm K)) rfl ?_
 rintro e w2 ⟨rfl, hf2⟩
 refine ⟨_, rfl, ?_⟩
 have hb1 := hb1.frm hf2 jp
 have hKs := K.size
 have K := K.trans hf2 jp
 refine je (Run.not rfl) (jO (jN (jv2 1 16 ?_)))
 refine VC.condB rfl (fun hc1 => ?_) (fun hc1 => ?_)
 ·
  have hc1 : ¬ bY m.p := by simpa using hc1
  refine jS (jR (ja rfl (jO (jN (jv1 2 ?_)))))
  refine jT ?_
  refine qZ (qN rfl ?_)
  have hE : dG m.p = [] := if_neg hc1
  rw [hE]
  exact ⟨none, 0, rfl, Own.nil _ _ _, K⟩
 have hc1 : bY m.p := by simpa using hc1
 have hrm := tI hc1
 have hpl : m.p.l.length = m.l.length := bC m.l
 have hl24 := hrm.l1
 have hs24 : m.ss.length ≤ 24 := hrm.s1
 refine jQ (jN (jv1 1 ?_))
 refine jS (jR ?_)
 refine Ops.m (qK.alloc qJy) rfl ?_
 rintro _ w3 ⟨rfl, hF3⟩
 have hb3 := hF3.blk
 have hb1 := hb1.frm hF3.frm jp
 have hk3 := K.size
 have K := K.trans hF3.frm jp
 generalize hg3e : w2.heap.size = g3 at hb3 hk3 ⊢
 refine jO (jN (jS (jR (je (Run.mkFunc evs.nil (evs.cons rfl evs.nil)) ?_))))
 refine Ops.m (qK.alloc qKh) rfl ?_
 rintro _ w4 ⟨rfl, hF4⟩
 have hb4 := hF4.blk
 have hb1 := hb1.frm hF4.frm jp
 have hb3 := hb3.frm hF4.frm jp
 have hl3 := hb3.lt
 have hk4 := K.size
 have K := K.trans hF4.frm jp
 generalize hg4e : w3.heap.size = g4 at hb4 hk4 ⊢
 have hbo := hb4
 refine Ops.st (qH.store rfl rfl Tryz.sizeOf130 hb4 rfl rfl) ?_
 rintro w5 ⟨hbn, (hf5 : Frm [g4] _ _), hs5⟩
 have hb4 : Blk w5 g4 130 #[.func (.func 97) #[] #[.pointer (some ⟨g3, 0, none⟩)]] := hbn
 have hb1 := hb1.frm hf5 (fun e => by rw [zc] at e; exact hb1.ne hbo jd e)
 have hb3 := hb3.frm hf5 (fun e => by rw [zc] at e; exact hb3.ne hbo jd e)
 have hI : eZ w5 g3 w.heap.size [] := ⟨hk3, none, 0, hb3, Own.nil _ _ _, by simp [ob]⟩
 have K := K.own hf5 (fun y hy => by rw [zc] at hy; omega)
 refine jO (jN (jv3 1 3 4 ?_))
 refine jS (jR (je (Run.mkFunc evs.nil (evs.cons rfl (evs.cons rfl evs.nil))) (ja rfl (jO (jN (jv4 1 3 4 5 ?_))))))
 refine jS (jR (jl rfl zci (hb4.cell 0) (jf rfl zh rfl zj (jl rfl zn (hb1.cell 2) (je (Run.conv rfl zv zah _ (cO (m.v))) ?_)))))
 refine Ops.cl (bJ.dyn rfl (evs.cons rfl (evs.cons rfl evs.nil)) zcw) (cR (u64 m.v) 4 g3 w.heap.size _ _ jo jo (dH (n := 256 ^ 4) hrm.v0 hrm.v1 jd) (by first | (simp only [zf, zbk, qB, bW]; omega) | omega) hI K.size) rfl ?_
 rintro e w6 ⟨rfl, hI, hTw6⟩
 have hb1 := hTw6.blk _ _ _ jd jd hb1
 have hb4 := hTw6.blk _ _ _ jd jd hb4
 have K := hTw6.frm w rfl K
 refine ⟨_, rfl, ?_⟩
 refine jO (jN (jv4 1 3 4 5 ?_))
 refine jS (jR (jl rfl zci (hb4.cell 0) (jf rfl zh rfl zj (jl rfl zn (hb1.cell 3) (je (Run.conv rfl zv zah _ (cO (m.b))) ?_)))))
 refine Ops.cl (bJ.dyn rfl (evs.cons rfl (evs.cons rfl evs.nil)) zcw) (cR (u64 m.b) 4 g3 w.heap.size _ _ jo jo (dH (n := 256 ^ 4) hrm.b0 hrm.b1 jd) (by first | (simp only [zf, zbk, qB, bW]; omega) | omega) hI K.size) rfl ?_
 rintro e w7 ⟨rfl, hI, hTw7⟩
 have hb1 := hTw7.blk _ _ _ jd jd hb1
 have hb4 := hTw7.blk _ _ _ jd jd hb4
 have K := hTw7.frm w rfl K
 refine ⟨_, rfl, ?_⟩
 refine jO (jN (jv4 1 3 4 5 ?_))
 refine jS (jR (jl rfl zci (hb4.cell 0) (jf rfl zh rfl zae (jl rfl zap (hb1.cell 0) (je (Run.lenS rfl zi) (je (Run.convN _ rfl zv zah (by simp only [bmax]; omega)) ?_))))))
 refine Ops.cl (bJ.dyn rfl (evs.cons rfl (evs.cons rfl evs.nil)) zcw) (cR m.l.length 1 g3 w.heap.size _ _ jo jo jo (by first | (simp only [zf, zbk, qB, bW]; omega) | omega) hI K.size) rfl ?_
 rintro e w8 ⟨rfl, hI, hTw8⟩
 have hb1 := hTw8.blk _ _ _ jd jd hb1
 have hb4 := hTw8.blk _ _ _ jd jd hb4
 have K := hTw8.frm w rfl K
 refine ⟨_, rfl, ?_⟩
 refine jO (jN (jv4 1 3 4 5 ?_))
 refine jS (jS (jR (jf rfl zh rfl zae (jl rfl zap (hb1.cell 0) (je (Run.lenS rfl zi) ?_)))))
 refine jx .i64 0 ?_
 refine jO (jN (jv7 1 3 4 5 36 37 38 ?_))
 refine jB ?_
 have hI : eZ w8 g3 w.heap.size (eJ m.p 0) := by rw [← qQw, hpl]; exact hI
 refine VC.loop (σ := Nat) (fun s => [(1, .pointer (some ⟨g1, 0, none⟩)), (3, .pointer (some ⟨g3, 0, none⟩)), (4, .pointer (some ⟨g4, 0, none⟩)), (5, .func (.func 99) #[] #[.pointer (some ⟨g4, 0, none⟩), .pointer (some ⟨g3, 0, none⟩)]), (36, .slice m.A m.l.length m.c), (37, .int .i64 ((m.l.length : Nat) : Int)), (38, .int .i64 ((s : Nat) : Int))]) (fun s wr => s ≤ m.l.length ∧ Blk wr g1 25 #[.slice m.A m.l.length m.c, .slice m.S m.ss.length m.d, .int .i64 m.v, .int .i64 m.b] ∧ Blk wr g4 130 #[.func (.func 97) #[] #[.pointer (some ⟨g3, 0, none⟩)]] ∧ eZ wr g3 w.heap.size (eJ m.p s) ∧ Frm [] w wr) (fun s => m.l.length - s) 0 (js7 rfl rfl rfl rfl rfl rfl rfl) ⟨zad _, hb1, hb4, hI, K⟩ ?_
 rintro i wr ⟨hi, hb1, hb4, hI, K⟩
 have hp1 := rJ hrm i
 refine jS (jR (jb rfl rfl (Bin.lssN _ _) (jO (jN (jS ?_)))))
 refine jD rfl (fun hc2 => ?_) fun hc2 => ?_
 ·
  obtain ⟨ad, hA, hel⟩ := (hm.l.frm K).elem hc2
  have hsuc := sZ (m := m.p) (i := i) jo
  have hxR := hrm.el _ (zw (jo : i < m.p.l.length))
  have hxa := hm.l.el _ (zw hc2)
  rw [dF m hc2 jo] at hsuc hxR
  generalize hx : m.l[i] = x at *
  obtain ⟨hxn, hxB⟩ := hxR
  have hxn : x.nm.length ≤ 60 := hxn
  obtain ⟨bs, hbs⟩ : ∃ bs, bs = eJ m.p i := ⟨_, rfl⟩
  rw [← hbs] at hI hp1 hsuc
  have hxl : x.l.length ≤ 128 := by have := hxB.l1; rwa [show x.p.2.l.length = x.l.length from zal _] at this
  refine jQ (jN (jv7 1 3 4 5 36 37 38 ?_))
  refine jS (jB (jS (jR (je (Run.indexS i (show _ = some (Value.slice (some ad) m.l.length m.c) by rw [← hA]; rfl) rfl zi zu hc2) (je (Run.loadA rfl zdt zu hel (by first | rfl | (simp; done))) ?_)))))
  refine Ops.m (qK.alloc cS) rfl ?_
  rintro _ w9 ⟨rfl, hFw9⟩
  have hb7 := hFw9.blk
  have hb1 := hb1.frm hFw9.frm jp
  have hb4 := hb4.frm hFw9.frm jp
  have hI := hI.nil hFw9.frm
  have hk7 := K.size
  have K := K.trans hFw9.frm jp
  generalize hg7e : wr.heap.size = g7 at hb7 hk7 ⊢
  have hbo := hb7
  refine Ops.st (qH.storeA rfl rfl zu hb7 rfl (x.cells_one)) ?_
  rintro w10 ⟨hbn, (hfw10 : Frm [g7] _ _), hsw10⟩
  have hb7 : Blk w10 g7 45 x.cells.toArray := hbn
  have hb1 := hb1.frm hfw10 (fun e => by rw [zc] at e; exact hb1.ne hbo jd e)
  have hb4 := hb4.frm hfw10 (fun e => by rw [zc] at e; exact hb4.ne hbo jd e)
  have hI := hI.blk hfw10 hbo jd jd
  have K := K.own hfw10 (fun z hz => by rw [zc] at hz; omega)
  refine jO (jN (jv8 1 3 4 5 7 36 37 38 ?_))
  refine jS (jR (jm rfl (jf rfl zaa rfl zo (jl rfl zx (hb7.cell 0) ?_))))
  refine Ops.cl (bJ.dyn rfl (evs.cons rfl evs.nil) Tryz.call99) (lN x.nm g4 g3 w.heap.size _ _ jo (by first | (simp only [zf, zbk, qB, bW]; omega) | omega) hI hb4 K.size) rfl ?_
  rintro e w11 ⟨rfl, hI, hTw11⟩
  have hb1 := hTw11.blk _ _ _ jd jd hb1
  have hb4 := hTw11.blk _ _ _ jd jd hb4
  have hb7 := hTw11.blk _ _ _ jd jd hb7
  have K := hTw11.frm w rfl K
  refine ⟨_, rfl, ?_⟩
  refine jO (jN (jv8 1 3 4 5 7 36 37 38 ?_))
  refine jS (jR (jl rfl zci (hb4.cell 0) (jf rfl zaa rfl zq (jf rfl zl rfl zj (jl rfl zn (hb7.cell 1) (je (Run.conv rfl zv zah _ (cO (x.v))) ?_))))))
  refine Ops.cl (bJ.dyn rfl (evs.cons rfl (evs.cons rfl evs.nil)) zcw) (cR (u64 x.v) 4 g3 w.heap.size _ _ jo jo (dH (n := 256 ^ 4) hxB.v0 hxB.v1 jd) (by first | (simp only [zf, zbk, qB, bW]; omega) | omega) hI K.size) rfl ?_
  rintro e w12 ⟨rfl, hI, hTw12⟩
  have hb1 := hTw12.blk _ _ _ jd jd hb1
  have hb4 := hTw12.blk _ _ _ jd jd hb4
  have hb7 := hTw12.blk _ _ _ jd jd hb7
  have K := hTw12.frm w rfl K
  refine ⟨_, rfl, ?_⟩
  refine jO (jN (jv8 1 3 4 5 7 36 37 38 ?_))
  refine jS (jR (jl rfl zci (hb4.cell 0) (jf rfl zaa rfl zq (jf rfl zl rfl zj (jl rfl zn (hb7.cell 2) (je (Run.conv rfl zv zah _ (cO (x.n))) ?_))))))
  refine Ops.cl (bJ.dyn rfl (evs.cons rfl (evs.cons rfl evs.nil)) zcw) (cR (u64 x.n) 4 g3 w.heap.size _ _ jo jo (dH (n := 256 ^ 4) hxB.n0 hxB.n1 jd) (by first | (simp only [zf, zbk, qB, bW]; omega) | omega) hI K.size) rfl ?_
  rintro e w13 ⟨rfl, hI, hTw13⟩
  have hb1 := hTw13.blk _ _ _ jd jd hb1
  have hb4 := hTw13.blk _ _ _ jd jd hb4
  have hb7 := hTw13.blk _ _ _ jd jd hb7
  have K := hTw13.frm w rfl K
  refine ⟨_, rfl, ?_⟩
  refine jO (jN (jv8 1 3 4 5 7 36 37 38 ?_))
  refine jS (jR (jl rfl zci (hb4.cell 0) (jf rfl zaa rfl zq (jf rfl zl rfl zai (jl rfl zar (hb7.cell 3) (je (Run.lenS rfl zy) (je (Run.convN _ rfl zv zah (by simp only [bmax]; omega)) ?_)))))))
  refine Ops.cl (bJ.dyn rfl (evs.cons rfl (evs.cons rfl evs.nil)) zcw) (cR x.l.length 1 g3 w.heap.size _ _ jo jo jo (by first | (simp only [zf, zbk, qB, bW]; omega) | omega) hI K.size) rfl ?_
  rintro e w14 ⟨rfl, hI, hTw14⟩
  have hb1 := hTw14.blk _ _ _ jd jd hb1
  have hb4 := hTw14.blk _ _ _ jd jd hb4
  have hb7 := hTw14.blk _ _ _ jd jd hb7
  have K := hTw14.frm w rfl K
  refine ⟨_, rfl, ?_⟩
  refine jO (jN (jv8 1 3 4 5 7 36 37 38 ?_))
  refine jS (jR (jf rfl zaa rfl zq (jf rfl zl rfl zai (jl rfl zar (hb7.cell 3) (je (Run.lenS rfl zy) ?_)))))
  refine jx .i64 0 ?_
  refine jO (jN (jv10 1 3 4 5 36 37 38 67 68 69 ?_))
  refine jB ?_
  have hI : eZ w14 g3 w.heap.size (eO bs x.p 0) := by rw [← qQx, show x.p.2.l.length = x.l.length from zal _]; exact hI
  refine VC.loop (σ := Nat) (fun s => [(1, .pointer (some ⟨g1, 0, none⟩)), (3, .pointer (some ⟨g3, 0, none⟩)), (4, .pointer (some ⟨g4, 0, none⟩)), (5, .func (.func 99) #[] #[.pointer (some ⟨g4, 0, none⟩), .pointer (some ⟨g3, 0, none⟩)]), (36, .slice m.A m.l.length m.c), (37, .int .i64 ((m.l.length : Nat) : Int)), (38, .int .i64 ((i : Nat) : Int)), (67, .slice x.A x.l.length x.c), (68, .int .i64 ((x.l.length : Nat) : Int)), (69, .int .i64 ((s : Nat) : Int))]) (fun s wr => s ≤ x.l.length ∧ Blk wr g7 45 x.cells.toArray ∧ Blk wr g1 25 #[.slice m.A m.l.length m.c, .slice m.S m.ss.length m.d, .int .i64 m.v, .int .i64 m.b] ∧ Blk wr g4 130 #[.func (.func 97) #[] #[.pointer (some ⟨g3, 0, none⟩)]] ∧ eZ wr g3 w.heap.size (eO bs x.p s) ∧ Frm [] w wr) (fun s => x.l.length - s) 0 (js10 rfl rfl rfl rfl rfl rfl rfl rfl rfl rfl) ⟨zad _, hb7, hb1, hb4, hI, K⟩ ?_
  rintro k wr2 ⟨hk, hb7, hb1, hb4, hI, K⟩
  have hp2 := wH (bs := bs) hxn hxB k
  refine jS (jR (jb rfl rfl (Bin.lssN _ _) (jO (jN (jS ?_)))))
  refine jD rfl (fun hc3 => ?_) fun hc3 => ?_
  ·
   obtain ⟨ad2, hA2, hel2⟩ := (hxa.rd.frm K).elem hc3
   have hkl : k < x.p.2.l.length := by rw [show x.p.2.l.length = x.l.length from zal _]; exact hc3
   have hsuc2 := sJ (bs := bs) (x := x.p) (k := k) hkl
   have hyR := hxB.el _ (zw hkl)
   have hya := hxa.rd.fl _ (zw hc3)
   rw [show x.p.2.l[k] = (x.l[k]).m from zbo _] at hsuc2 hyR
   generalize hy : x.l[k] = y at *
   obtain ⟨bs2, hbs2⟩ : ∃ bs2, bs2 = eO bs x.p k := ⟨_, rfl⟩
   rw [← hbs2] at hI hp2 hsuc2
   have hyf := hyR.f1
   have hyz0 := hyR.z0
   have hyz1 := hyR.z1
   refine jQ (jN (jv10 1 3 4 5 36 37 38 67 68 69 ?_))
   refine jS (jB (jS (jR (je (Run.indexS k (show _ = some (Value.slice (some ad2) x.l.length x.c) by rw [← hA2]; rfl) rfl zy zak hc3) (je (Run.loadA rfl zct zak hel2 (by first | rfl | (simp; done))) ?_)))))
   refine Ops.m (qK.alloc dB) rfl ?_
   rintro _ w15 ⟨rfl, hFw15⟩
   have hb9 := hFw15.blk
   have hb1 := hb1.frm hFw15.frm jp
   have hb4 := hb4.frm hFw15.frm jp
   have hb7 := hb7.frm hFw15.frm jp
   have hI := hI.nil hFw15.frm
   have hk9 := K.size
   have K := K.trans hFw15.frm jp
   generalize hg9e : wr2.heap.size = g9 at hb9 hk9 ⊢
   have hbo := hb9
   refine Ops.st (qH.storeA rfl rfl zak hb9 rfl (y.cells_one)) ?_
   rintro w16 ⟨hbn, (hfw16 : Frm [g9] _ _), hsw16⟩
   have hb9 : Blk w16 g9 60 y.cells.toArray := hbn
   have hb1 := hb1.frm hfw16 (fun e => by rw [zc] at e; exact hb1.ne hbo jd e)
   have hb4 := hb4.frm hfw16 (fun e => by rw [zc] at e; exact hb4.ne hbo jd e)
   have hb7 := hb7.frm hfw16 (fun e => by rw [zc] at e; exact hb7.ne hbo jd e)
   have hI := hI.blk hfw16 hbo jd jd
   have K := K.own hfw16 (fun z hz => by rw [zc] at hz; omega)
   refine jO (jN (jv11 1 3 4 5 9 36 37 38 67 68 69 ?_))
   refine jS (jR (jl rfl zci (hb4.cell 0) (jf rfl zr rfl zj (jl rfl zn (hb9.cell 0) (je (Run.conv rfl zv zah _ (cO (y.m.uid))) ?_)))))
   refine Ops.cl (bJ.dyn rfl (evs.cons rfl (evs.cons rfl evs.nil)) zcw) (cR (u64 y.m.uid) 4 g3 w.heap.size _ _ jo jo (dH (n := 256 ^ 4) hyR.u0 hyR.u1 jd) (by first | (simp only [zf, zbk, qB, bW]; omega) | omega) hI K.size) rfl ?_
   rintro e w17 ⟨rfl, hI, hTw17⟩
   have hb1 := hTw17.blk _ _ _ jd jd hb1
   have hb4 := hTw17.blk _ _ _ jd jd hb4
   have hb7 := hTw17.blk _ _ _ jd jd hb7
   have hb9 := hTw17.blk _ _ _ jd jd hb9
   have K := hTw17.frm w rfl K
   refine ⟨_, rfl, ?_⟩
   refine jO (jN (jv11 1 3 4 5 9 36 37 38 67 68 69 ?_))
   refine jS (jR (jl rfl zci (hb4.cell 0) (jf rfl zr rfl zbz (jf rfl zay rfl zdk (jl rfl zdz (hb9.cell 1) (je (Run.conv rfl zet zah _ (cO (y.m.sec))) ?_))))))
   refine Ops.cl (bJ.dyn rfl (evs.cons rfl (evs.cons rfl evs.nil)) zcw) (cR (u64 y.m.sec) 8 g3 w.heap.size _ _ jo jo (kN _) (by first | (simp only [zf, zbk, qB, bW]; omega) | omega) hI K.size) rfl ?_
   rintro e w18 ⟨rfl, hI, hTw18⟩
   have hb1 := hTw18.blk _ _ _ jd jd hb1
   have hb4 := hTw18.blk _ _ _ jd jd hb4
   have hb7 := hTw18.blk _ _ _ jd jd hb7
   have hb9 := hTw18.blk _ _ _ jd jd hb9
   have K := hTw18.frm w rfl K
   refine ⟨_, rfl, ?_⟩
   refine jO (jN (jv11 1 3 4 5 9 36 37 38 67 68 69 ?_))
   refine jS (jR (jl rfl zci (hb4.cell 0) (jf rfl zr rfl zbz (jf rfl zay rfl zj (jl rfl zn (hb9.cell 2) (jb rfl rfl (Bin.addZ _ 1440 jo jo) (je (Run.conv rfl zv zah _ (cO (y.m.zone + 1440))) ?_)))))))
   refine Ops.cl (bJ.dyn rfl (evs.cons rfl (evs.cons rfl evs.nil)) zcw) (cR (u64 (y.m.zone + 1440)) 2 g3 w.heap.size _ _ jo jo (dH (n := 256 ^ 2) hyR.z0 hyR.z1 jd) (by first | (simp only [zf, zbk, qB, bW]; omega) | omega) hI K.size) rfl ?_
   rintro e w19 ⟨rfl, hI, hTw19⟩
   have hb1 := hTw19.blk _ _ _ jd jd hb1
   have hb4 := hTw19.blk _ _ _ jd jd hb4
   have hb7 := hTw19.blk _ _ _ jd jd hb7
   have hb9 := hTw19.blk _ _ _ jd jd hb9
   have K := hTw19.frm w rfl K
   refine ⟨_, rfl, ?_⟩
   refine jO (jN (jv11 1 3 4 5 9 36 37 38 67 68 69 ?_))
   refine jS (jR (jl rfl zci (hb4.cell 0) (jf rfl zr rfl zj (jl rfl zn (hb9.cell 3) (je (Run.conv rfl zv zah _ (cO (y.m.size))) ?_)))))
   refine Ops.cl (bJ.dyn rfl (evs.cons rfl (evs.cons rfl evs.nil)) zcw) (cR (u64 y.m.size) 8 g3 w.heap.size _ _ jo jo (kN _) (by first | (simp only [zf, zbk, qB, bW]; omega) | omega) hI K.size) rfl ?_
   rintro e w20 ⟨rfl, hI, hTw20⟩
   have hb1 := hTw20.blk _ _ _ jd jd hb1
   have hb4 := hTw20.blk _ _ _ jd jd hb4
   have hb7 := hTw20.blk _ _ _ jd jd hb7
   have hb9 := hTw20.blk _ _ _ jd jd hb9
   have K := hTw20.frm w rfl K
   refine ⟨_, rfl, ?_⟩
   refine jO (jN (jv11 1 3 4 5 9 36 37 38 67 68 69 ?_))
   refine jS (jR (jl rfl zci (hb4.cell 0) (jf rfl zr rfl zcu (jl rfl zds (hb9.cell 4) ?_))))
   refine Ops.cl (bJ.dyn rfl (evs.cons rfl (evs.cons rfl evs.nil)) zcw) (cR y.m.blob 4 g3 w.heap.size _ _ jo jo (by have := hyR.b1; omega) (by first | (simp only [zf, zbk, qB, bW]; omega) | omega) hI K.size) rfl ?_
   rintro e w21 ⟨rfl, hI, hTw21⟩
   have hb1 := hTw21.blk _ _ _ jd jd hb1
   have hb4 := hTw21.blk _ _ _ jd jd hb4
   have hb7 := hTw21.blk _ _ _ jd jd hb7
   have hb9 := hTw21.blk _ _ _ jd jd hb9
   have K := hTw21.frm w rfl K
   refine ⟨_, rfl, ?_⟩
   refine jO (jN (jv11 1 3 4 5 9 36 37 38 67 68 69 ?_))
   refine jS (jR (jl rfl zci (hb4.cell 0) (jf rfl zr rfl zab (jl rfl zan (hb9.cell 5) (je (Run.lenS rfl zg) (je (Run.convN _ rfl zv zah (by simp only [bmax]; omega)) ?_))))))
   refine Ops.cl (bJ.dyn rfl (evs.cons rfl (evs.cons rfl evs.nil)) zcw) (cR y.m.flags.length 1 g3 w.heap.size _ _ jo jo jo (by first | (simp only [zf, zbk, qB, bW]; omega) | omega) hI K.size) rfl ?_
   rintro e w22 ⟨rfl, hI, hTw22⟩
   have hb1 := hTw22.blk _ _ _ jd jd hb1
   have hb4 := hTw22.blk _ _ _ jd jd hb4
   have hb7 := hTw22.blk _ _ _ jd jd hb7
   have hb9 := hTw22.blk _ _ _ jd jd hb9
   have K := hTw22.frm w rfl K
   refine ⟨_, rfl, ?_⟩
   refine jO (jN (jv11 1 3 4 5 9 36 37 38 67 68 69 ?_))
   refine jS (jR (jf rfl zr rfl zab (jl rfl zan (hb9.cell 5) (je (Run.lenS rfl zg) ?_))))
   refine jx .i64 0 ?_
   refine jO (jN (jv13 1 3 4 5 36 37 38 67 68 69 107 108 109 ?_))
   refine jB ?_
   rw [qQy] at hI
   refine VC.loop (σ := Nat) (fun s => [(1, .pointer (some ⟨g1, 0, none⟩)), (3, .pointer (some ⟨g3, 0, none⟩)), (4, .pointer (some ⟨g4, 0, none⟩)), (5, .func (.func 99) #[] #[.pointer (some ⟨g4, 0, none⟩), .pointer (some ⟨g3, 0, none⟩)]), (36, .slice m.A m.l.length m.c), (37, .int .i64 ((m.l.length : Nat) : Int)), (38, .int .i64 ((i : Nat) : Int)), (67, .slice x.A x.l.length x.c), (68, .int .i64 ((x.l.length : Nat) : Int)), (69, .int .i64 ((k : Nat) : Int)), (107, .slice y.A y.m.flags.length y.c), (108, .int .i64 ((y.m.flags.length : Nat) : Int)), (109, .int .i64 ((s : Nat) : Int))]) (fun s wr => s ≤ y.m.flags.length ∧ Blk wr g9 60 y.cells.toArray ∧ Blk wr g7 45 x.cells.toArray ∧ Blk wr g1 25 #[.slice m.A m.l.length m.c, .slice m.S m.ss.length m.d, .int .i64 m.v, .int .i64 m.b] ∧ Blk wr g4 130 #[.func (.func 97) #[] #[.pointer (some ⟨g3, 0, none⟩)]] ∧ eZ wr g3 w.heap.size (gP bs2 y.m s) ∧ Frm [] w wr) (fun s => y.m.flags.length - s) 0 (js13 rfl rfl rfl rfl rfl rfl rfl rfl rfl rfl rfl rfl rfl) ⟨zad _, hb9, hb7, hb1, hb4, hI, K⟩ ?_
   rintro j wr3 ⟨hj, hb9, hb7, hb1, hb4, hI, K⟩
   have hp3 := wM (bs := bs2) hyR j
   refine jS (jR (jb rfl rfl (Bin.lssN _ _) (jO (jN (jS ?_)))))
   refine jD rfl (fun hc4 => ?_) fun hc4 => ?_
   ·
    obtain ⟨ad3, hA3, hcf⟩ := mP (hya.rd.frm K jp) hc4
    have hsuc3 := sK (bs := bs2) (y := y.m) (j := j) hc4
    have hfl := hyR.f2 _ (zw hc4)
    generalize hfq : y.m.flags[j] = fq at *
    refine jQ (jN (jv13 1 3 4 5 36 37 38 67 68 69 107 108 109 ?_))
    refine jS (jB (jS (jR (je (Run.indexS j (show _ = some (Value.slice (some ad3) y.m.flags.length y.c) by rw [← hA3]; rfl) rfl zg zo hc4) (jl rfl zx hcf (ja rfl (jO (jN (jv14 1 3 4 5 11 36 37 38 67 68 69 107 108 109 ?_)))))))))
    refine jR (jm rfl (jM ?_))
    refine Ops.cl (bJ.dyn rfl (evs.cons rfl evs.nil) Tryz.call99) (lN fq g4 g3 w.heap.size _ _ jo (by first | (simp only [zf, zbk, qB, bW]; omega) | omega) hI hb4 K.size) rfl ?_
    rintro e w23 ⟨rfl, hI, hTw23⟩
    have hb1 := hTw23.blk _ _ _ jd jd hb1
    have hb4 := hTw23.blk _ _ _ jd jd hb4
    have hb7 := hTw23.blk _ _ _ jd jd hb7
    have hb9 := hTw23.blk _ _ _ jd jd hb9
    have K := hTw23.frm w rfl K
    refine ⟨_, rfl, ?_⟩
    refine jO ?_
    refine qW (jN ?_)
    refine jv13 1 3 4 5 36 37 38 67 68 69 107 108 109 ?_
    refine jR (jb rfl rfl (Bin.add_i64 _ 1 jo) (jm rfl (jO ?_)))
    refine jN ⟨(j + 1), (js13 rfl rfl rfl rfl rfl rfl rfl rfl rfl rfl rfl rfl rfl), ?_, ?_⟩
    · exact ⟨hc4, hb9, hb7, hb1, hb4, by rw [hsuc3]; exact hI, K⟩
    first | omega | (dsimp only; omega)
   refine jX ?_
   refine qJ (qJ (qR ?_))
   refine qW (jN ?_)
   refine jv10 1 3 4 5 36 37 38 67 68 69 ?_
   refine jR (jb rfl rfl (Bin.add_i64 _ 1 jo) (jm rfl (jO ?_)))
   refine jN ⟨(k + 1), (js10 rfl rfl rfl rfl rfl rfl rfl rfl rfl rfl), ?_, ?_⟩
   ·
    obtain rfl : j = y.m.flags.length := jo
    rw [uZ] at hI
    exact ⟨hc3, hb7, hb1, hb4, by rw [hsuc2]; exact hI, K⟩
   first | omega | (dsimp only; omega)
  refine jX ?_
  refine qJ (qJ (qR ?_))
  refine qW (jN ?_)
  refine jv7 1 3 4 5 36 37 38 ?_
  refine jR (jb rfl rfl (Bin.add_i64 _ 1 jo) (jm rfl (jO ?_)))
  refine jN ⟨(i + 1), (js7 rfl rfl rfl rfl rfl rfl rfl), ?_, ?_⟩
  ·
   obtain rfl : k = x.l.length := jo
   rw [show x.l.length = x.p.2.l.length from (zal _).symm, uX] at hI
   exact ⟨hc2, hb1, hb4, by rw [hsuc]; exact hI, K⟩
  first | omega | (dsimp only; omega)
 obtain rfl : i = m.l.length := jo
 refine jX ?_
 refine qJ (qJ (qR ?_))
 refine jN (jv4 1 3 4 5 ?_)
 refine jS (jR (jl rfl zci (hb4.cell 0) (jf rfl zh rfl zab (jl rfl zan (hb1.cell 1) (je (Run.lenS rfl zg) (je (Run.convN _ rfl zv zah (by simp only [bmax]; omega)) ?_))))))
 refine Ops.cl (bJ.dyn rfl (evs.cons rfl (evs.cons rfl evs.nil)) zcw) (cR m.ss.length 1 g3 w.heap.size _ _ jo jo jo (by first | (simp only [zf, zbk, qB, bW]; omega) | omega) hI K.size) rfl ?_
 rintro e w24 ⟨rfl, hI, hTw24⟩
 have hb1 := hTw24.blk _ _ _ jd jd hb1
 have hb4 := hTw24.blk _ _ _ jd jd hb4
 have K := hTw24.frm w rfl K
 refine ⟨_, rfl, ?_⟩
 refine jO (jN (jv3 1 3 5 ?_))
 refine jS (jS (jR (jf rfl zh rfl zab (jl rfl zan (hb1.cell 1) (je (Run.lenS rfl zg) ?_)))))
 refine jx .i64 0 ?_
 refine jO (jN (jv5 3 5 126 127 128 ?_))
 refine jB ?_
 have hI : eZ w24 g3 w.heap.size (eK m.p 0) := by rw [← qQz, hpl]; exact hI
 refine VC.loop (σ := Nat) (fun s => [(3, .pointer (some ⟨g3, 0, none⟩)), (5, .func (.func 99) #[] #[.pointer (some ⟨g4, 0, none⟩), .pointer (some ⟨g3, 0, none⟩)]), (126, .slice m.S m.ss.length m.d), (127, .int .i64 ((m.ss.length : Nat) : Int)), (128, .int .i64 ((s : Nat) : Int))]) (fun s wr => s ≤ m.ss.length ∧ Blk wr g1 25 #[.slice m.A m.l.length m.c, .slice m.S m.ss.length m.d, .int .i64 m.v, .int .i64 m.b] ∧ Blk wr g4 130 #[.func (.func 97) #[] #[.pointer (some ⟨g3, 0, none⟩)]] ∧ eZ wr g3 w.heap.size (eK m.p s) ∧ Frm [] w wr) (fun s => m.ss.length - s) 0 (js5 rfl rfl rfl rfl rfl) ⟨zad _, hb1, hb4, hI, K⟩ ?_
 rintro j wr ⟨hj, hb1, hb4, hI, K⟩
 have hp4 := rK hrm j
 refine jS (jR (jb rfl rfl (Bin.lssN _ _) (jO (jN (jS ?_)))))
 refine jD rfl (fun hc5 => ?_) fun hc5 => ?_
 ·
  obtain ⟨ad4, hA4, hcs⟩ := mP (hm.s.frm K jp) hc5
  have hsuc4 := sV (m := m.p) (j := j) hc5
  have hsl : (m.ss[j]).length ≤ 60 := hrm.s2 _ (zw hc5)
  have hsuc4 : eK m.p (j + 1) = eK m.p j ++ txL m.ss[j] := hsuc4
  generalize hsq : m.ss[j] = sq at *
  refine jQ (jN (jv5 3 5 126 127 128 ?_))
  refine jS (jB (jS (jR (je (Run.indexS j (show _ = some (Value.slice (some ad4) m.ss.length m.d) by rw [← hA4]; rfl) rfl zg zo hc5) (jl rfl zx hcs (ja rfl (jO (jN (jv6 3 5 13 126 127 128 ?_)))))))))
  refine jR (jm rfl (jM ?_))
  refine Ops.cl (bJ.dyn rfl (evs.cons rfl evs.nil) Tryz.call99) (lN sq g4 g3 w.heap.size _ _ jo (by first | (simp only [zf, zbk, qB, bW]; omega) | omega) hI hb4 K.size) rfl ?_
  rintro e w25 ⟨rfl, hI, hTw25⟩
  have hb1 := hTw25.blk _ _ _ jd jd hb1
  have hb4 := hTw25.blk _ _ _ jd jd hb4
  have K := hTw25.frm w rfl K
  refine ⟨_, rfl, ?_⟩
  refine jO ?_
  refine qW (jN ?_)
  refine jv5 3 5 126 127 128 ?_
  refine jR (jb rfl rfl (Bin.add_i64 _ 1 jo) (jm rfl (jO ?_)))
  refine jN ⟨(j + 1), (js5 rfl rfl rfl rfl rfl), ?_, ?_⟩
  · exact ⟨hc5, hb1, hb4, by rw [hsuc4]; exact hI, K⟩
  first | omega | (dsimp only; omega)
 obtain rfl : j = m.ss.length := jo
 rw [show m.ss.length = m.p.subs.length from rfl, oY] at hI
 obtain ⟨_, B, d, hbB, hoB, hob⟩ := hI
 refine jX ?_
 refine qJ (qJ (qR ?_))
 refine jN (jv1 3 ?_)
 refine jS (jR (jl rfl zem (hbB.cell 0) (ja rfl (jO (jN (jv1 2 ?_))))))
 refine jT ?_
 refine qN rfl ?_
 have hE : dG m.p = bF m.p := if_pos hc1
 rw [hE]
 exact ⟨B, d, rfl, hoB, K⟩
end
section
open Go.RowKit Go.Sort
theorem qJt (q : Tx) : dY (tO q) = ⟨q.toArray⟩ := by unfold dY; rw [wK]
theorem mE (q : Tx) (w : World) (hq : q.length < 256) : Calls Tryz.prog 96 #[encStr q] w fun e w' => e = .returned (.string (dY (txL q))) ∧ Frm [] w w' := by
 refine VC.calls (nt := 9) (res := #[.tmp 2]) Tryz.func96 rfl Tryz.ntmps96 Tryz.results96 rfl ?_
 refine jS (jR (ja rfl (jO (jN (jv1 0 ?_)))))
 refine jS (jR (jm rfl (je (Run.lenT rfl zk) (je (Run.convN _ rfl zv zah (by simp only [bmax]; omega)) ?_))))
 refine Ops.cl (jE2 zcx) (cP q.length 1 _ jo jo jo) rfl ?_
 rintro e w1 ⟨rfl, K⟩
 refine ⟨_, rfl, ?_⟩
 refine jm rfl (je (Run.addStr (a := dY (qL q.length 1)) (b := dY (tO q)) rfl (show _ = some (Value.string (dY (tO q))) by rw [qJt]; rfl) (by simp only [bD, qB, pG]; omega)) ?_)
 rw [bN]
 refine ja rfl (jO (jN (jv1 2 ?_)))
 refine jT ?_
 refine qN rfl ?_
 exact ⟨rfl, K⟩
set_option maxHeartbeats 2000000 in
theorem uJ (m : MlC) (w : World) (hm : RdL w m) (hmay : bY m.p) :
  Calls Tryz.prog 42 #[m.val] w fun e w' => e = .returned (.string (dY (bF m.p))) ∧ Frm [] w w' := by
 have hrm := tI hmay
 have hpl : m.p.l.length = m.l.length := bC m.l
 have hl24 := hrm.l1
 have hs24 : m.ss.length ≤ 24 := hrm.s1
 refine VC.calls (nt := 147) (res := #[.tmp 2]) Tryz.func42 rfl Tryz.ntmps42 Tryz.results42 rfl ?_
 refine jS (jR ?_)
 refine Ops.m (qK.box rfl) rfl ?_
 rintro _ w1 ⟨rfl, hF_w1⟩
 have hb1 : Blk w1 w.heap.size 25 #[.slice m.A m.l.length m.c, .slice m.S m.ss.length m.d, .int .i64 m.v, .int .i64 m.b] := hF_w1.blk
 have K := hF_w1.frm
 generalize hg1 : w.heap.size = g1 at hb1 ⊢
 refine ja rfl (jO (jN (jv1 1 ?_)))
 refine jS ?_
 refine VC.held (fun W => Frm [] w1 W) jK ?_
 have hS : Frm [] w1 w1.drew := (Frm.refl _ _).drew
 refine jH 0 rfl hS (fun w0 hw0 => Run.fieldAddr rfl zh rfl zj jd) ?_
 refine jH 1 rfl hS (fun w0 hw0 => Run.load rfl zn ((hb1.frm hw0 jp).cell 2)) ?_
 refine jH 2 rfl hS (fun w0 hw0 => Run.conv rfl zv zah _ (cO (m.v))) ?_
 refine jH 4 rfl hS (fun w0 hw0 => Run.fieldAddr rfl zh rfl zj jd) ?_
 refine jH 5 rfl hS (fun w0 hw0 => Run.load rfl zn ((hb1.frm hw0 jp).cell 3)) ?_
 refine jH 6 rfl hS (fun w0 hw0 => Run.conv rfl zv zah _ (cO (m.b))) ?_
 refine jH 9 rfl hS (fun w0 hw0 => Run.fieldAddr rfl zh rfl zae jd) ?_
 refine jH 10 rfl hS (fun w0 hw0 => Run.load rfl zap ((hb1.frm hw0 jp).cell 0)) ?_
 refine jH 11 rfl hS (fun w0 hw0 => Run.lenS rfl zi) ?_
 refine jH 12 rfl hS (fun w0 hw0 => Run.convN _ rfl zv zah (by simp only [bmax]; omega)) ?_
 refine qQ.cl 3 rfl jK (jE2 zcx) (cP (u64 m.v) 4 _ jo jo (dH (n := 256 ^ 4) hrm.v0 hrm.v1 jd)) trivial rfl rfl ?_
 rintro e w2 ⟨rfl, hfw2⟩
 have hS1 := hS.trans hfw2 jp
 refine ⟨_, rfl, hS1, ?_⟩
 have hS := hS1
 refine qQ.cl 7 rfl jK (jE2 zcx) (cP (u64 m.b) 4 _ jo jo (dH (n := 256 ^ 4) hrm.b0 hrm.b1 jd)) trivial rfl rfl ?_
 rintro e w3 ⟨rfl, hfw3⟩
 have hS1 := hS.trans hfw3 jp
 refine ⟨_, rfl, hS1, ?_⟩
 have hS := hS1
 refine jH 8 rfl hS (fun w0 hw0 => Run.addStr rfl rfl (by simp only [bD, zf, qB, bW]; omega)) ?_
 rw [bN]
 refine qQ.cl 13 rfl jK (jE2 zcx) (cP (m.l.length) 1 _ jo jo jo) trivial rfl rfl ?_
 rintro e w4 ⟨rfl, hfw4⟩
 have hS1 := hS.trans hfw4 jp
 refine ⟨_, rfl, hS1, ?_⟩
 have hS := hS1
 refine jH 14 rfl hS (fun w0 hw0 => Run.addStr rfl rfl (by simp only [bD, zf, qB, bW]; omega)) ?_
 rw [bN, ← hpl, show qL (u64 m.v) 4 ++ qL (u64 m.b) 4 ++ qL m.p.l.length 1 = eJ m.p 0 from qQw m.p]
 refine jH 15 rfl hS (fun w0 hw0 => Run.asg rfl) ?_
 refine qQ.done jK ?_
 refine jN (jv2 1 3 ?_)
 refine jS (jS (jR (jz 0 (jO (jN (jB ?_))))))
 have hb1 := hb1.frm hS jp
 have K := K.trans hS jp
 refine VC.loop (σ := Nat) (fun s => [(1, .pointer (some ⟨g1, 0, none⟩)), (3, .string (dY (eJ m.p s))), (4, .int .i64 ((s : Nat) : Int))]) (fun s wr => s ≤ m.l.length ∧ Blk wr g1 25 #[.slice m.A m.l.length m.c, .slice m.S m.ss.length m.d, .int .i64 m.v, .int .i64 m.b] ∧ Frm [] w wr) (fun s => m.l.length - s) 0 (js3 rfl rfl rfl) ⟨zad _, hb1, K⟩ ?_
 rintro i wr ⟨hi, hb1, K⟩
 have hp1 := rJ hrm i
 refine jS (jS (jR (jm rfl (jf rfl zh rfl zae (jl rfl zap (hb1.cell 0) (je (Run.lenS rfl zi) (jb rfl rfl (Bin.lssN _ _) (jO (jN (jv4 1 3 4 29 ?_))))))))))
 refine jD rfl (fun hc1 => ?_) fun hc1 => ?_
 ·
  obtain ⟨ad, hA, hel⟩ := (hm.l.frm K).elem hc1
  have hsuc := sZ (m := m.p) (i := i) jo
  have hxR := hrm.el _ (zw (jo : i < m.p.l.length))
  have hxa := hm.l.el _ (zw hc1)
  rw [dF m hc1 jo] at hsuc hxR
  generalize hx : m.l[i] = x at *
  obtain ⟨hxn, hxB⟩ := hxR
  have hxn : x.nm.length ≤ 60 := hxn
  obtain ⟨bs, hbs⟩ : ∃ bs, bs = eJ m.p i := ⟨_, rfl⟩
  rw [← hbs] at hp1 hsuc ⊢
  have hxll : x.p.2.l.length = x.l.length := zal _
  have hxl : x.l.length ≤ 128 := by have := hxB.l1; rwa [hxll] at this
  refine jQ (jN (jv3 1 3 4 ?_))
  refine jS (jB (jS (jR (jf rfl zh rfl zae (jl rfl zap (hb1.cell 0) (jm rfl (je (Run.indexS i (show _ = some (Value.slice (some ad) m.l.length m.c) by rw [← hA]; rfl) rfl zi zu hc1) (jf rfl zaa rfl zq (je (Run.loadA rfl zba zq (cs := BVc x.v x.n x.A x.l.length x.c) (fun j v hj => by rw [Go.Proofs.YtgmbmfpfhcekiaaGreat.add_add]; exact hel (1 + j) v (by rw [zel]; exact hj)) (by first | rfl | (simp; done))) ?_)))))))))
  refine Ops.m (qK.alloc cQ) rfl ?_
  rintro _ w5 ⟨rfl, hFw5⟩
  have hb5 := hFw5.blk
  have hb1 := hb1.frm hFw5.frm jp
  have hk5 := K.size
  have K := K.trans hFw5.frm jp
  have hfw5 := hFw5.frm
  generalize hg5e : wr.heap.size = g5 at hb5 hk5 ⊢
  have hbo := hb5
  refine Ops.st (qH.storeA rfl rfl zq hb5 rfl (cZ x.v x.n x.A x.l.length x.c)) ?_
  rintro w6 ⟨hbn, (hfw6 : Frm [g5] _ _), hsw6⟩
  have hb5 : Blk w6 g5 43 (BVc x.v x.n x.A x.l.length x.c).toArray := hbn
  have hb1 := hb1.frm hfw6 (fun e => by rw [zc] at e; exact hb1.ne hbo jd e)
  have K := K.own hfw6 (fun z hz => by rw [zc] at hz; omega)
  refine jO (jN (jv4 1 3 4 5 ?_))
  refine jS ?_
  refine VC.held (fun W => Frm [] w6 W) jK ?_
  have hS : Frm [] w6 w6.drew := (Frm.refl _ _).drew
  have elw : ∀ W, Frm [] w W → ∀ j v, x.cells[j]? = some v → W.cell? ((ad.add (i * 4)).add j) = some v := fun W hW j v hj => by
   obtain ⟨ad', hA', h⟩ := (hm.l.frm hW).elem hc1
   rw [hA] at hA'
   cases hA'
   rw [hx] at h
   exact h j v hj
  refine jH 0 rfl hS (fun w0 hw0 => Run.mv rfl) ?_
  refine jH 1 rfl hS (fun w0 hw0 => Run.fieldAddr rfl zh rfl zae jd) ?_
  refine jH 2 rfl hS (fun w0 hw0 => Run.load rfl zap ((hb1.frm hw0 jp).cell 0)) ?_
  refine jH 3 rfl hS (fun w0 hw0 => Run.mv rfl) ?_
  refine jH 4 rfl hS (fun w0 hw0 => Run.indexS i (show _ = some (Value.slice (some ad) m.l.length m.c) by rw [← hA]; rfl) rfl zi zu hc1) ?_
  refine jH 5 rfl hS (fun w0 hw0 => Run.fieldAddr rfl zaa rfl zo jd) ?_
  refine jH 6 rfl hS (fun w0 hw0 => Run.load rfl zx (elw _ (K.trans hw0 jp) 0 (encStr x.nm) rfl)) ?_
  refine jH 8 rfl hS (fun w0 hw0 => Run.fieldAddr rfl zl rfl zj jd) ?_
  refine jH 9 rfl hS (fun w0 hw0 => Run.load rfl zn ((hb5.frm hw0 jp).cell 0)) ?_
  refine jH 10 rfl hS (fun w0 hw0 => Run.conv rfl zv zah _ (cO (x.v))) ?_
  refine jH 13 rfl hS (fun w0 hw0 => Run.fieldAddr rfl zl rfl zj jd) ?_
  refine jH 14 rfl hS (fun w0 hw0 => Run.load rfl zn ((hb5.frm hw0 jp).cell 1)) ?_
  refine jH 15 rfl hS (fun w0 hw0 => Run.conv rfl zv zah _ (cO (x.n))) ?_
  refine jH 18 rfl hS (fun w0 hw0 => Run.fieldAddr rfl zl rfl zai jd) ?_
  refine jH 19 rfl hS (fun w0 hw0 => Run.load rfl zar ((hb5.frm hw0 jp).cell 2)) ?_
  refine jH 20 rfl hS (fun w0 hw0 => Run.lenS rfl zy) ?_
  refine jH 21 rfl hS (fun w0 hw0 => Run.convN _ rfl zv zah (by simp only [bmax]; omega)) ?_
  refine qQ.cl 7 rfl jK (jE1 Tryz.call96) (mE x.nm _ jo) trivial rfl rfl ?_
  rintro e w7 ⟨rfl, hfw7⟩
  have hS1 := hS.trans hfw7 jp
  refine ⟨_, rfl, hS1, ?_⟩
  have hS := hS1
  refine qQ.cl 11 rfl jK (jE2 zcx) (cP (u64 x.v) 4 _ jo jo (dH (n := 256 ^ 4) hxB.v0 hxB.v1 jd)) trivial rfl rfl ?_
  rintro e w8 ⟨rfl, hfw8⟩
  have hS1 := hS.trans hfw8 jp
  refine ⟨_, rfl, hS1, ?_⟩
  have hS := hS1
  refine jH 12 rfl hS (fun w0 hw0 => Run.addStr rfl rfl (by simp only [bD, zf, qB, bW]; omega)) ?_
  rw [bN]
  refine qQ.cl 16 rfl jK (jE2 zcx) (cP (u64 x.n) 4 _ jo jo (dH (n := 256 ^ 4) hxB.n0 hxB.n1 jd)) trivial rfl rfl ?_
  rintro e w9 ⟨rfl, hfw9⟩
  have hS1 := hS.trans hfw9 jp
  refine ⟨_, rfl, hS1, ?_⟩
  have hS := hS1
  refine jH 17 rfl hS (fun w0 hw0 => Run.addStr rfl rfl (by simp only [bD, zf, qB, bW]; omega)) ?_
  rw [bN]
  refine qQ.cl 22 rfl jK (jE2 zcx) (cP (x.l.length) 1 _ jo jo jo) trivial rfl rfl ?_
  rintro e w10 ⟨rfl, hfw10⟩
  have hS1 := hS.trans hfw10 jp
  refine ⟨_, rfl, hS1, ?_⟩
  have hS := hS1
  refine jH 23 rfl hS (fun w0 hw0 => Run.addStr rfl rfl (by simp only [bD, zf, qB, bW]; omega)) ?_
  rw [bN]
  refine jH 24 rfl hS (fun w0 hw0 => Run.addStr rfl rfl (by simp only [bD, zf, qB, bW]; omega)) ?_
  rw [bN, show bs ++ (txL x.nm ++ qL (u64 x.v) 4 ++ qL (u64 x.n) 4 ++ qL x.l.length 1) = eO bs x.p 0 by rw [← qQx, hxll]; simp only [zat]; rfl]
  refine jH 25 rfl hS (fun w0 hw0 => Run.asg rfl) ?_
  refine qQ.done jK ?_
  refine jN (jv4 1 3 4 5 ?_)
  refine jS (jR (jz 0 (jO (jN (jB ?_)))))
  have hb1 := hb1.frm hS jp
  have hb5 := hb5.frm hS jp
  have K := K.trans hS jp
  refine VC.loop (σ := Nat) (fun s => [(1, .pointer (some ⟨g1, 0, none⟩)), (3, .string (dY (eO bs x.p s))), (4, .int .i64 ((i : Nat) : Int)), (5, .pointer (some ⟨g5, 0, none⟩)), (6, .int .i64 ((s : Nat) : Int))]) (fun s wr => s ≤ x.l.length ∧ Blk wr g5 43 (BVc x.v x.n x.A x.l.length x.c).toArray ∧ Blk wr g1 25 #[.slice m.A m.l.length m.c, .slice m.S m.ss.length m.d, .int .i64 m.v, .int .i64 m.b] ∧ Frm [] w wr) (fun s => x.l.length - s) 0 (js5 rfl rfl rfl rfl rfl) ⟨zad _, hb5, hb1, K⟩ ?_
  rintro k wr2 ⟨hk, hb5, hb1, K⟩
  have hp2 := wH (bs := bs) hxn hxB k
  refine jS (jS (jR (jm rfl (jf rfl zl rfl zai (jl rfl zar (hb5.cell 2) (je (Run.lenS rfl zy) (jb rfl rfl (Bin.lssN _ _) (jO (jN (jv6 1 3 4 5 6 67 ?_))))))))))
  refine jD rfl (fun hc2 => ?_) fun hc2 => ?_
  ·
   obtain ⟨ad2, hA2, hel2⟩ := (hxa.rd.frm K).elem hc2
   have hkl : k < x.p.2.l.length := jo
   have hsuc2 := sJ (bs := bs) (x := x.p) (k := k) hkl
   have hyR := hxB.el _ (zw hkl)
   have hya := hxa.rd.fl _ (zw hc2)
   rw [show x.p.2.l[k] = (x.l[k]).m from zbo _] at hsuc2 hyR
   generalize hy : x.l[k] = y at *
   obtain ⟨bs2, hbs2⟩ : ∃ bs2, bs2 = eO bs x.p k := ⟨_, rfl⟩
   rw [← hbs2] at hp2 hsuc2 ⊢
   have hyf := hyR.f1
   have hyz0 := hyR.z0
   have hyz1 := hyR.z1
   refine jQ (jN (jv5 1 3 4 5 6 ?_))
   refine jS (jB (jS (jR (jf rfl zl rfl zai (jl rfl zar (hb5.cell 2) (jm rfl (je (Run.indexS k (show _ = some (Value.slice (some ad2) x.l.length x.c) by rw [← hA2]; rfl) rfl zy zak hc2) (je (Run.loadA rfl zct zak hel2 (by first | rfl | (simp; done))) ?_))))))))
   refine Ops.m (qK.alloc dB) rfl ?_
   rintro _ w11 ⟨rfl, hFw11⟩
   have hb7 := hFw11.blk
   have hb1 := hb1.frm hFw11.frm jp
   have hb5 := hb5.frm hFw11.frm jp
   have hk7 := K.size
   have K := K.trans hFw11.frm jp
   have hfw11 := hFw11.frm
   generalize hg7e : wr2.heap.size = g7 at hb7 hk7 ⊢
   have hbo := hb7
   refine Ops.st (qH.storeA rfl rfl zak hb7 rfl (y.cells_one)) ?_
   rintro w12 ⟨hbn, (hfw12 : Frm [g7] _ _), hsw12⟩
   have hb7 : Blk w12 g7 60 y.cells.toArray := hbn
   have hb1 := hb1.frm hfw12 (fun e => by rw [zc] at e; exact hb1.ne hbo jd e)
   have hb5 := hb5.frm hfw12 (fun e => by rw [zc] at e; exact hb5.ne hbo jd e)
   have K := K.own hfw12 (fun z hz => by rw [zc] at hz; omega)
   refine jO (jN (jv6 1 3 4 5 6 7 ?_))
   refine jS ?_
   refine VC.held (fun W => Frm [] w12 W) jK ?_
   have hS : Frm [] w12 w12.drew := (Frm.refl _ _).drew
   refine jH 0 rfl hS (fun w0 hw0 => Run.mv rfl) ?_
   refine jH 1 rfl hS (fun w0 hw0 => Run.fieldAddr rfl zr rfl zj jd) ?_
   refine jH 2 rfl hS (fun w0 hw0 => Run.load rfl zn ((hb7.frm hw0 jp).cell 0)) ?_
   refine jH 3 rfl hS (fun w0 hw0 => Run.conv rfl zv zah _ (cO (y.m.uid))) ?_
   refine jH 5 rfl hS (fun w0 hw0 => Run.fieldAddr rfl zr rfl zbz jd) ?_
   refine jH 6 rfl hS (fun w0 hw0 => Run.fieldAddr rfl zay rfl zdk jd) ?_
   refine jH 7 rfl hS (fun w0 hw0 => Run.load rfl zdz ((hb7.frm hw0 jp).cell 1)) ?_
   refine jH 8 rfl hS (fun w0 hw0 => Run.conv rfl zet zah _ (cO (y.m.sec))) ?_
   refine jH 11 rfl hS (fun w0 hw0 => Run.fieldAddr rfl zr rfl zbz jd) ?_
   refine jH 12 rfl hS (fun w0 hw0 => Run.fieldAddr rfl zay rfl zj jd) ?_
   refine jH 13 rfl hS (fun w0 hw0 => Run.load rfl zn ((hb7.frm hw0 jp).cell 2)) ?_
   refine jH 14 rfl hS (fun w0 hw0 => Run.bin rfl rfl (Bin.addZ _ 1440 jo jo)) ?_
   refine jH 15 rfl hS (fun w0 hw0 => Run.conv rfl zv zah _ (cO (y.m.zone + 1440))) ?_
   refine jH 18 rfl hS (fun w0 hw0 => Run.fieldAddr rfl zr rfl zj jd) ?_
   refine jH 19 rfl hS (fun w0 hw0 => Run.load rfl zn ((hb7.frm hw0 jp).cell 3)) ?_
   refine jH 20 rfl hS (fun w0 hw0 => Run.conv rfl zv zah _ (cO (y.m.size))) ?_
   refine jH 23 rfl hS (fun w0 hw0 => Run.fieldAddr rfl zr rfl zcu jd) ?_
   refine jH 24 rfl hS (fun w0 hw0 => Run.load rfl zds ((hb7.frm hw0 jp).cell 4)) ?_
   refine jH 27 rfl hS (fun w0 hw0 => Run.fieldAddr rfl zr rfl zab jd) ?_
   refine jH 28 rfl hS (fun w0 hw0 => Run.load rfl zan ((hb7.frm hw0 jp).cell 5)) ?_
   refine jH 29 rfl hS (fun w0 hw0 => Run.lenS rfl zg) ?_
   refine jH 30 rfl hS (fun w0 hw0 => Run.convN _ rfl zv zah (by simp only [bmax]; omega)) ?_
   refine qQ.cl 4 rfl jK (jE2 zcx) (cP (u64 y.m.uid) 4 _ jo jo (dH (n := 256 ^ 4) hyR.u0 hyR.u1 jd)) trivial rfl rfl ?_
   rintro e w13 ⟨rfl, hfw13⟩
   have hS1 := hS.trans hfw13 jp
   refine ⟨_, rfl, hS1, ?_⟩
   have hS := hS1
   refine qQ.cl 9 rfl jK (jE2 zcx) (cP (u64 y.m.sec) 8 _ jo jo (kN _)) trivial rfl rfl ?_
   rintro e w14 ⟨rfl, hfw14⟩
   have hS1 := hS.trans hfw14 jp
   refine ⟨_, rfl, hS1, ?_⟩
   have hS := hS1
   refine jH 10 rfl hS (fun w0 hw0 => Run.addStr rfl rfl (by simp only [bD, zf, qB, bW]; omega)) ?_
   rw [bN]
   refine qQ.cl 16 rfl jK (jE2 zcx) (cP (u64 (y.m.zone + 1440)) 2 _ jo jo (dH (n := 256 ^ 2) hyR.z0 hyR.z1 jd)) trivial rfl rfl ?_
   rintro e w15 ⟨rfl, hfw15⟩
   have hS1 := hS.trans hfw15 jp
   refine ⟨_, rfl, hS1, ?_⟩
   have hS := hS1
   refine jH 17 rfl hS (fun w0 hw0 => Run.addStr rfl rfl (by simp only [bD, zf, qB, bW]; omega)) ?_
   rw [bN]
   refine qQ.cl 21 rfl jK (jE2 zcx) (cP (u64 y.m.size) 8 _ jo jo (kN _)) trivial rfl rfl ?_
   rintro e w16 ⟨rfl, hfw16⟩
   have hS1 := hS.trans hfw16 jp
   refine ⟨_, rfl, hS1, ?_⟩
   have hS := hS1
   refine jH 22 rfl hS (fun w0 hw0 => Run.addStr rfl rfl (by simp only [bD, zf, qB, bW]; omega)) ?_
   rw [bN]
   refine qQ.cl 25 rfl jK (jE2 zcx) (cP (y.m.blob) 4 _ jo jo (by have := hyR.b1; omega)) trivial rfl rfl ?_
   rintro e w17 ⟨rfl, hfw17⟩
   have hS1 := hS.trans hfw17 jp
   refine ⟨_, rfl, hS1, ?_⟩
   have hS := hS1
   refine jH 26 rfl hS (fun w0 hw0 => Run.addStr rfl rfl (by simp only [bD, zf, qB, bW]; omega)) ?_
   rw [bN]
   refine qQ.cl 31 rfl jK (jE2 zcx) (cP (y.m.flags.length) 1 _ jo jo jo) trivial rfl rfl ?_
   rintro e w18 ⟨rfl, hfw18⟩
   have hS1 := hS.trans hfw18 jp
   refine ⟨_, rfl, hS1, ?_⟩
   have hS := hS1
   refine jH 32 rfl hS (fun w0 hw0 => Run.addStr rfl rfl (by simp only [bD, zf, qB, bW]; omega)) ?_
   rw [bN]
   refine jH 33 rfl hS (fun w0 hw0 => Run.addStr rfl rfl (by simp only [bD, zf, qB, bW]; omega)) ?_
   rw [bN, show bs2 ++ (qL (u64 y.m.uid) 4 ++ qL (u64 y.m.sec) 8 ++ qL (u64 (y.m.zone + 1440)) 2 ++ qL (u64 y.m.size) 8 ++ qL y.m.blob 4 ++ qL y.m.flags.length 1) = gP bs2 y.m 0 by rw [← qQy]; simp only [zat]]
   refine jH 34 rfl hS (fun w0 hw0 => Run.asg rfl) ?_
   refine qQ.done jK ?_
   refine jN (jv6 1 3 4 5 6 7 ?_)
   refine jS (jR (jz 0 (jO (jN (jB ?_)))))
   have hb1 := hb1.frm hS jp
   have hb5 := hb5.frm hS jp
   have hb7 := hb7.frm hS jp
   have K := K.trans hS jp
   refine VC.loop (σ := Nat) (fun s => [(1, .pointer (some ⟨g1, 0, none⟩)), (3, .string (dY (gP bs2 y.m s))), (4, .int .i64 ((i : Nat) : Int)), (5, .pointer (some ⟨g5, 0, none⟩)), (6, .int .i64 ((k : Nat) : Int)), (7, .pointer (some ⟨g7, 0, none⟩)), (8, .int .i64 ((s : Nat) : Int))]) (fun s wr => s ≤ y.m.flags.length ∧ Blk wr g7 60 y.cells.toArray ∧ Blk wr g5 43 (BVc x.v x.n x.A x.l.length x.c).toArray ∧ Blk wr g1 25 #[.slice m.A m.l.length m.c, .slice m.S m.ss.length m.d, .int .i64 m.v, .int .i64 m.b] ∧ Frm [] w wr) (fun s => y.m.flags.length - s) 0 (js7 rfl rfl rfl rfl rfl rfl rfl) ⟨zad _, hb7, hb5, hb1, K⟩ ?_
   rintro j wr3 ⟨hj, hb7, hb5, hb1, K⟩
   have hp3 := wM (bs := bs2) hyR j
   refine jS (jS (jR (jm rfl (jf rfl zr rfl zab (jl rfl zan (hb7.cell 5) (je (Run.lenS rfl zg) (jb rfl rfl (Bin.lssN _ _) (jO (jN (jv8 1 3 4 5 6 7 8 113 ?_))))))))))
   refine jD rfl (fun hc3 => ?_) fun hc3 => ?_
   ·
    obtain ⟨ad3, hA3, hcf⟩ := mP (hya.rd.frm K jp) hc3
    have hsuc3 := sK (bs := bs2) (y := y.m) (j := j) hc3
    have hfl := hyR.f2 _ (zw hc3)
    generalize hfq : y.m.flags[j] = fq at *
    refine jQ (jN (jv7 1 3 4 5 6 7 8 ?_))
    refine jS (jB (jR (jm rfl (jf rfl zr rfl zab (jl rfl zan (hb7.cell 5) (jm rfl (je (Run.indexS j (show _ = some (Value.slice (some ad3) y.m.flags.length y.c) by rw [← hA3]; rfl) rfl zg zo hc3) (jl rfl zx hcf ?_))))))))
    refine Ops.cl (jE1 Tryz.call96) (mE fq _ jo) rfl ?_
    rintro e w19 ⟨rfl, hfw19⟩
    have hb1 := hb1.frm hfw19 jp
    have hb5 := hb5.frm hfw19 jp
    have hb7 := hb7.frm hfw19 jp
    have K := K.trans hfw19 jp
    refine ⟨_, rfl, ?_⟩
    refine je (Run.addStr rfl rfl (by simp only [bD, zf, qB, bW]; omega)) ?_
    rw [bN, ← hsuc3]
    refine ja rfl (jO ?_)
    refine qW (jN ?_)
    refine jv7 1 3 4 5 6 7 8 ?_
    refine jR (jm rfl (jb rfl rfl (Bin.add_i64 _ 1 jo) (ja rfl (jO ?_))))
    refine jN ⟨(j + 1), (js7 rfl rfl rfl rfl rfl rfl rfl), ?_, ?_⟩
    · exact ⟨hc3, hb7, hb5, hb1, K⟩
    first | omega | (dsimp only; omega)
   obtain rfl : j = y.m.flags.length := jo
   rw [uZ, ← hsuc2]
   refine jX ?_
   refine qJ (qJ (qR ?_))
   refine qW (jN ?_)
   refine jv5 1 3 4 5 6 ?_
   refine jR (jm rfl (jb rfl rfl (Bin.add_i64 _ 1 jo) (ja rfl (jO ?_))))
   refine jN ⟨(k + 1), (js5 rfl rfl rfl rfl rfl), ?_, ?_⟩
   · exact ⟨hc2, hb5, hb1, K⟩
   first | omega | (dsimp only; omega)
  obtain rfl : k = x.l.length := jo
  rw [show eO bs x.p x.l.length = eJ m.p (i + 1) by rw [← hxll, uX, hsuc]]
  refine jX ?_
  refine qJ (qJ (qR ?_))
  refine qW (jN ?_)
  refine jv3 1 3 4 ?_
  refine jR (jm rfl (jb rfl rfl (Bin.add_i64 _ 1 jo) (ja rfl (jO ?_))))
  refine jN ⟨(i + 1), (js3 rfl rfl rfl), ?_, ?_⟩
  · exact ⟨hc1, hb1, K⟩
  first | omega | (dsimp only; omega)
 obtain rfl : i = m.l.length := jo
 refine jX ?_
 refine qJ (qJ (qR ?_))
 refine jN (jv2 1 3 ?_)
 refine jS (jR (jm rfl (jf rfl zh rfl zab (jl rfl zan (hb1.cell 1) (je (Run.lenS rfl zg) (je (Run.convN _ rfl zv zah (by simp only [bmax]; omega)) ?_))))))
 refine Ops.cl (jE2 zcx) (cP m.ss.length 1 _ jo jo jo) rfl ?_
 rintro e w20 ⟨rfl, hf20⟩
 have hb1 := hb1.frm hf20 jp
 have K := K.trans hf20 jp
 refine ⟨_, rfl, ?_⟩
 refine je (Run.addStr rfl rfl (by simp only [bD, zf, qB, bW]; omega)) ?_
 rw [bN, show eJ m.p m.l.length ++ qL m.ss.length 1 = eK m.p 0 by rw [← qQz, hpl]; rfl]
 refine ja rfl (jO (jN (jv2 1 3 ?_)))
 refine jS (jS (jR (jz 0 (jO (jN (jB ?_))))))
 refine VC.loop (σ := Nat) (fun s => [(1, .pointer (some ⟨g1, 0, none⟩)), (3, .string (dY (eK m.p s))), (9, .int .i64 ((s : Nat) : Int))]) (fun s wr => s ≤ m.ss.length ∧ Blk wr g1 25 #[.slice m.A m.l.length m.c, .slice m.S m.ss.length m.d, .int .i64 m.v, .int .i64 m.b] ∧ Frm [] w wr) (fun s => m.ss.length - s) 0 (js3 rfl rfl rfl) ⟨zad _, hb1, K⟩ ?_
 rintro j wr ⟨hj, hb1, K⟩
 have hp4 := rK hrm j
 refine jS (jS (jR (jm rfl (jf rfl zh rfl zab (jl rfl zan (hb1.cell 1) (je (Run.lenS rfl zg) (jb rfl rfl (Bin.lssN _ _) (jO (jN (jv4 1 3 9 135 ?_))))))))))
 refine jD rfl (fun hc4 => ?_) fun hc4 => ?_
 ·
  obtain ⟨ad4, hA4, hcs⟩ := mP (hm.s.frm K jp) hc4
  have hsuc4 := sV (m := m.p) (j := j) hc4
  have hsl : (m.ss[j]).length ≤ 60 := hrm.s2 _ (zw hc4)
  have hsuc4 : eK m.p (j + 1) = eK m.p j ++ txL m.ss[j] := hsuc4
  generalize hsq : m.ss[j] = sq at *
  refine jQ (jN (jv3 1 3 9 ?_))
  refine jS (jB (jR (jm rfl (jf rfl zh rfl zab (jl rfl zan (hb1.cell 1) (jm rfl (je (Run.indexS j (show _ = some (Value.slice (some ad4) m.ss.length m.d) by rw [← hA4]; rfl) rfl zg zo hc4) (jl rfl zx hcs ?_))))))))
  refine Ops.cl (jE1 Tryz.call96) (mE sq _ jo) rfl ?_
  rintro e w21 ⟨rfl, hfw21⟩
  have hb1 := hb1.frm hfw21 jp
  have K := K.trans hfw21 jp
  refine ⟨_, rfl, ?_⟩
  refine je (Run.addStr rfl rfl (by simp only [bD, zf, qB, bW]; omega)) ?_
  rw [bN, ← hsuc4]
  refine ja rfl (jO ?_)
  refine qW (jN ?_)
  refine jv3 1 3 9 ?_
  refine jR (jm rfl (jb rfl rfl (Bin.add_i64 _ 1 jo) (ja rfl (jO ?_))))
  refine jN ⟨(j + 1), (js3 rfl rfl rfl), ?_, ?_⟩
  · exact ⟨hc4, hb1, K⟩
  first | omega | (dsimp only; omega)
 obtain rfl : j = m.ss.length := jo
 rw [show eK m.p m.ss.length = bF m.p from oY m.p]
 refine jX ?_
 refine qJ (qJ (qR ?_))
 refine jN (jv1 3 ?_)
 refine jS (jR (jm rfl (ja rfl (jO (jN (jv1 2 ?_))))))
 refine jT ?_
 refine qN rfl ?_
 exact ⟨rfl, K⟩
end
section
open Go.RowKit Go.Sort
def stO (bs : Oc) (a e : Nat) : Rs := if e = 0 then some (bs.drop a) else none
def bR (w : World) (g : Nat) (A : Option Addr) (bs : Oc) (st : Rs) : Prop := ∃ c a e wh, gN w g A c bs a e wh ∧ a ≤ bs.length ∧ st = stO bs a e
theorem bR.frm {w w' : World} {g : Nat} {A : Option Addr} {bs : Oc} {st : Rs} {S : List Nat} (h : bR w g A bs st) (k : Frm S w w') (hS : ∀ x ∈ g :: ob A, x ∉ S) : bR w' g A bs st := by
 obtain ⟨c, a, e, wh, h1, h2⟩ := h
 exact ⟨c, a, e, wh, h1.frm k hS, h2⟩
theorem bR.nil {w w' : World} {g : Nat} {A : Option Addr} {bs : Oc} {st : Rs} (h : bR w g A bs st) (k : Frm [] w w') : bR w' g A bs st := h.frm k jp
theorem bR.lt {w : World} {g : Nat} {A : Option Addr} {bs : Oc} {st : Rs} (h : bR w g A bs st) : g < w.heap.size := by
 obtain ⟨c, a, e, wh, h1, h2⟩ := h
 exact h1.1.lt
theorem bR.off {w w' : World} {g : Nat} {A : Option Addr} {bs : Oc} {st : Rs} {S : List Nat} (h : bR w g A bs st) (k : Frm S w w') (hS : ∀ x ∈ S, ∃ t cs, Blk w x t cs ∧ 151 ≠ t ∧ 5 ≠ t) : bR w' g A bs st := by
 obtain ⟨c, a, e, wh, h1, h2⟩ := h
 refine ⟨c, a, e, wh, h1.frm k (fun x hx hxS => ?_), h2⟩
 obtain ⟨t, cs, hb, n1, n2⟩ := hS x hxS
 rcases zbj.1 hx with rfl | hx
 · exact h1.1.ne hb n1 rfl
 exact h1.2.ne_blk hb n2 hx
theorem qJu {bs : Oc} {a e wh n : Nat} (ha : a ≤ bs.length) : rN n (stO bs a e) = ((rdN bs a e wh n).1, stO bs (rdN bs a e wh n).2.1 (rdN bs a e wh n).2.2.1) := by
 unfold rdN stO rN
 by_cases he : e = 0
 ·
  subst he
  simp only [ne_eq, not_true_eq_false, if_false, if_true, zaf]
  by_cases hs : bs.length - a < n
  · simp [hs]
  simp only [hs, if_false]
  rw [List.drop_drop]
  rfl
 simp [he]
theorem lP (g : Nat) (A : Option Addr) (bs : Oc) (st : Rs) (n : Nat) (w : World) (hl : bs.length ≤ 2000000) (hn1 : 1 ≤ n) (hn8 : n ≤ 8) (hB : ∀ b ∈ bs, b < 256) (hR : bR w g A bs st) :
  Calls Tryz.prog 129 #[.pointer (some ⟨g, 0, none⟩), .int .i64 ((n : Nat) : Int)] w fun e w' => e = .returned (.int .u64 (((rN n st).1 : Nat) : Int)) ∧ bR w' g A bs (rN n st).2 ∧ Frm [g] w w' := by
 obtain ⟨c, a, e, wh, hO, ha, rfl⟩ := hR
 refine Calls.mono (yF g A c bs a e wh n w jo ha hn1 hn8 hB hO) (fun e' w' h => ?_)
 obtain ⟨h1, h2, h3⟩ := h
 rw [qJu (wh := wh) ha]
 exact ⟨h1, ⟨c, _, _, _, h2, qKf ha, rfl⟩, h3⟩
theorem vG (A : Option Addr) (c n : Nat) (bs : Oc) (w : World) (hn : bs.length = n) (hl : n ≤ 2000000) (hr : Rd w 1 A n (NB bs)) :
  Calls Tryz.prog 90 #[.slice A n c] w fun e w' => ∃ g B, e = .returned (.pointer (some ⟨g, 0, none⟩)) ∧ bR w' g B bs (some bs) ∧ Frm [] w w' ∧ (∀ x ∈ g :: ob B, w.heap.size ≤ x) := by
 refine Calls.mono (yE A c n bs w hn jo hr) (fun e' w' h => ?_)
 obtain ⟨g, B, d, h1, h2, h3, h4⟩ := h
 exact ⟨g, B, h1, ⟨d, 0, 0, 0, h2, zad _, rfl⟩, h3, h4⟩
theorem wN {w : World} {A : Option Addr} {n c lo hi : Nat} {bs : Oc} (h : Rd w 1 A n (NB bs)) (hn : bs.length = n) (h1 : lo ≤ hi) (h2 : hi ≤ n) (hc : n ≤ c) : Rd w 1 (dU A c lo 1) (hi - lo) (NB ((bs.drop lo).take (hi - lo))) := by
 have := h.cut (cap := c) h1 h2 hc
 rw [zbu lo] at this
 rw [show NB ((bs.drop lo).take (hi - lo)) = ((NB bs).drop lo).take ((hi - lo) * 1) by simp [NB, zdn, List.map_drop]]
 exact this
theorem qQ0 (g : Nat) (A : Option Addr) (bs : Oc) (st : Rs) (n : Nat) (w : World) (hl : bs.length ≤ 2000000) (hn : n ≤ 1000000) (hR : bR w g A bs st) :
  Calls Tryz.prog 130 #[.pointer (some ⟨g, 0, none⟩), .int .i64 ((n : Nat) : Int)] w fun e w' => ∃ B d, e = .returned (.slice B (rW n st).1.length d) ∧ Rd w' 1 B (rW n st).1.length (NB (rW n st).1) ∧ bR w' g A bs (rW n st).2 ∧ Frm [g] w w' := by
 obtain ⟨c, a, e0, wh, hO, ha, rfl⟩ := hR
 refine VC.calls (nt := 63) (res := #[.tmp 4]) Tryz.func130 rfl Tryz.ntmps130 Tryz.results130 rfl ?_
 refine jS (jR (ja rfl (jO (jN (jv2 0 1 ?_)))))
 refine jS (jB (jS (jR (jm rfl (je (Run.nilck rfl) (jf rfl zav rfl zew (jl rfl Tryz.isAgg28 (hO.1.cell 2) (jb rfl rfl (Bin.neqN _ 0) (ja rfl (jO (jN (jv3 0 1 5 ?_))))))))))))
 refine jD rfl (fun hc1 => ?_) fun hc1 => ?_
 ·
  have hR : rW n (stO bs a e0) = ([], none) := by unfold rW stO; rw [if_neg hc1]
  have hS2 : (none : Rs) = stO bs a e0 := by unfold stO; rw [if_neg hc1]
  refine jS (jR (ja rfl (jO (jN (jv1 4 ?_)))))
  refine jT ?_
  refine qV (qZ (qN rfl ?_))
  rw [hR]
  exact ⟨_, _, rfl, Rd.nil _ _ _, ⟨c, a, e0, wh, hO, ha, hS2⟩, Frm.refl _ _⟩
 obtain rfl : e0 = 0 := jo
 refine jS (jR (jm rfl (jb rfl rfl (Bin.lssN _ 0) (ja rfl (jO (jN (jv3 0 1 11 ?_)))))))
 refine VC.condF rfl (decide_eq_false jo) ?_
 refine jS ?_
 refine VC.held (fun v => Blk v g 151 #[.slice A bs.length c, .int .i64 ((a : Nat) : Int), .int .i64 ((0 : Nat) : Int), .int .i64 ((wh : Nat) : Int)]) jK ?_
 have hS : (fun v => Blk v g 151 #[.slice A bs.length c, .int .i64 ((a : Nat) : Int), .int .i64 ((0 : Nat) : Int), .int .i64 ((wh : Nat) : Int)]) w.drew := hO.1.drawn (qP.drew _)
 have hO := hO.frm (qP.drew w).frm jp
 refine jH 0 rfl hS (fun w0 hw0 => Run.mv rfl) ?_
 refine jH 1 rfl hS (fun w0 hw0 => Run.mv rfl) ?_
 refine jH 2 rfl hS (fun w0 hw0 => Run.nilck rfl) ?_
 refine jH 3 rfl hS (fun w0 hw0 => Run.fieldAddr rfl zav rfl zeg jd) ?_
 refine jH 4 rfl hS (fun w0 hw0 => Run.load rfl zem (hw0.cell 0)) ?_
 refine jH 5 rfl hS (fun w0 hw0 => Run.lenS rfl zaj) ?_
 refine jH 6 rfl hS (fun w0 hw0 => Run.mv rfl) ?_
 refine jH 7 rfl hS (fun w0 hw0 => Run.nilck rfl) ?_
 refine jH 8 rfl hS (fun w0 hw0 => Run.fieldAddr rfl zav rfl zj jd) ?_
 refine jH 9 rfl hS (fun w0 hw0 => Run.load rfl zn (hw0.cell 1)) ?_
 refine jH 10 rfl hS (fun w0 hw0 => Run.bin rfl rfl (Bin.sub_i64 _ _ jo jo)) ?_
 refine jH 11 rfl hS (fun w0 hw0 => Run.bin rfl rfl (Bin.gtrN _ _)) ?_
 refine jH 12 rfl hS (fun w0 hw0 => Run.asg rfl) ?_
 refine qQ.done jK ?_
 refine jN (jv3 0 1 20 ?_)
 refine jD rfl (fun hc3 => ?_) fun hc3 => ?_
 ·
  have hR : rW n (stO bs a 0) = ([], none) := by unfold rW stO; rw [if_pos rfl]; dsimp only; rw [if_pos (by rw [zaf]; omega)]
  refine jS (jR (jm rfl (jm rfl (je (Run.nilck rfl) (jf rfl zav rfl zj (jl rfl zn (hO.1.cell 1) ?_))))))
  refine Ops.cl (jE3 Tryz.call159) (pY g A c bs a wh _ a _ hO) rfl ?_
  rintro e w2 ⟨rfl, hO2, hf2⟩
  refine ⟨_, rfl, ?_⟩
  refine jO (jN ?_)
  refine VC.sub [] .nil ?_
  refine jS (jR (ja rfl (jO (jN (jT ?_)))))
  refine qV (qZ (qN rfl ?_))
  rw [hR]
  exact ⟨_, _, rfl, Rd.nil _ _ _, ⟨c, _, _, _, hO2, ha, rfl⟩, ((qP.drew w).frm.mono jp).trans hf2 (fun x hx => .inl hx)⟩
 have hR : rW n (stO bs a 0) = ((bs.drop a).take n, some ((bs.drop a).drop n)) := by unfold rW stO; rw [if_pos rfl]; dsimp only; rw [if_neg (by rw [zaf]; omega)]
 refine jQ ?_
 refine qW (jN ?_)
 refine jv2 0 1 ?_
 refine jS (jR (jm rfl (je (Run.nilck rfl) (jf rfl zav rfl zj (jl rfl zn (hO.1.cell 1) (jm rfl (jb rfl rfl (Bin.add_i64 _ _ jo) (je (Run.nilck rfl) (jf rfl zav rfl zj ?_)))))))))
 refine Ops.st (qH.store rfl rfl zj hO.1 rfl rfl) ?_
 rintro w3 ⟨hb3, hf3, hs3⟩
 have hO3 := hO.upd hb3 hf3
 refine jO (jN (jv2 0 1 ?_))
 refine jS ?_
 refine VC.held (fun v => Blk v g 151 #[.slice A bs.length c, .int .i64 (((a + n) : Nat) : Int), .int .i64 ((0 : Nat) : Int), .int .i64 ((wh : Nat) : Int)]) jK ?_
 have hS : (fun v => Blk v g 151 #[.slice A bs.length c, .int .i64 (((a + n) : Nat) : Int), .int .i64 ((0 : Nat) : Int), .int .i64 ((wh : Nat) : Int)]) w3.drew := hO3.1.drawn (qP.drew _)
 have hO3 := hO3.frm (qP.drew w3).frm jp
 have hf3 := hf3.trans (qP.drew w3).frm jp
 have hlc := hO3.2.le
 refine jH 0 rfl hS (fun w0 hw0 => Run.mv rfl) ?_
 refine jH 1 rfl hS (fun w0 hw0 => Run.nilck rfl) ?_
 refine jH 2 rfl hS (fun w0 hw0 => Run.fieldAddr rfl zav rfl zeg jd) ?_
 refine jH 3 rfl hS (fun w0 hw0 => Run.load rfl zem (hw0.cell 0)) ?_
 refine jH 4 rfl hS (fun w0 hw0 => Run.mv rfl) ?_
 refine jH 5 rfl hS (fun w0 hw0 => Run.nilck rfl) ?_
 refine jH 6 rfl hS (fun w0 hw0 => Run.fieldAddr rfl zav rfl zj jd) ?_
 refine jH 7 rfl hS (fun w0 hw0 => Run.load rfl zn (hw0.cell 1)) ?_
 refine jH 8 rfl hS (fun w0 hw0 => Run.mv rfl) ?_
 refine jH 9 rfl hS (fun w0 hw0 => Run.bin rfl rfl (Bin.sub_i64 _ _ jo jo)) ?_
 refine jH 10 rfl hS (fun w0 hw0 => Run.mv rfl) ?_
 refine jH 11 rfl hS (fun w0 hw0 => Run.nilck rfl) ?_
 refine jH 12 rfl hS (fun w0 hw0 => Run.fieldAddr rfl zav rfl zj jd) ?_
 refine jH 13 rfl hS (fun w0 hw0 => Run.load rfl zn (hw0.cell 1)) ?_
 refine jH 14 rfl hS (fun w0 hw0 => Run.sliceS _ _ rfl zaj zbv (evB.some_ rfl) (evB.some_ rfl) jo jo) ?_
 refine qQ.m 15 rfl jK (qK.app rfl rfl zaj (nQ) rfl jd (Own.nil _ _ _) (wN hO3.2.rd rfl jo jo hO3.2.le) (pW _) jo jo) trivial rfl rfl ?_
 rintro _ w4 ⟨B, d, rfl, ho4, hf4, hob4⟩
 have hS : (fun v => Blk v g 151 #[.slice A bs.length c, .int .i64 (((a + n) : Nat) : Int), .int .i64 ((0 : Nat) : Int), .int .i64 ((wh : Nat) : Int)]) w4 := Blk.frm hS hf4 (by simp [ob])
 refine ⟨hS, ?_⟩
 rw [show a + n - (a + n - n) = n by omega, show a + n - n = a by omega, zcb, zdq] at ho4
 have hO4 := hO3.frm (S := []) hf4 jp
 refine jH 16 rfl hS (fun w0 hw0 => Run.asg rfl) ?_
 refine qQ.done jK ?_
 refine jN (jv1 4 ?_)
 refine jT ?_
 refine qN rfl ?_
 rw [hR]
 have hol : ((bs.drop a).take n).length = n := by rw [zp, zaf]; omega
 rw [hol]
 refine ⟨B, d, by rw [show 0 + (a + n - (a + n - n)) = n by omega], ho4.rd, ⟨c, a + n, 0, wh, hO4, jo, by unfold stO; rw [if_pos rfl, List.drop_drop]⟩, ?_⟩
 exact ((qP.drew w).frm.mono jp).trans (hf3.trans hf4 (fun x hx => by simp [ob] at hx)) (fun x hx => .inl hx)
end
section
open Go.RowKit Go.Sort
theorem pP {w : World} {g : Nat} {A : Option Addr} {bs : Oc} {st : Rs} (h : bR w g A bs st) (hB : ∀ b ∈ bs, b < 256) (n : Nat) : (rN n st).1 < 256 ^ n := by
 obtain ⟨c, a, e, wh, _, _, rfl⟩ := h
 have hp : 0 < 256 ^ n := Nat.pow_pos jo
 unfold stO
 split
 ·
  unfold rN
  dsimp only
  split
  · exact hp
  have h1 := nJ ((bs.drop a).take n) (fun b hb => hB b (zbp (zaw hb)))
  exact zbf h1 (zca jo (zcp _ _))
 exact hp
theorem qK1 {w : World} {g : Nat} {A : Option Addr} {bs : Oc} {st : Rs} (h : bR w g A bs st) (hB : ∀ b ∈ bs, b < 256) {n : Nat} (hn : n ≤ 8) : (rN n st).1 < 18446744073709551616 := zbf (pP h hB n) (show 256 ^ n ≤ 256 ^ 8 from zca jo hn)
theorem qK2 {w : World} {g : Nat} {A : Option Addr} {bs : Oc} {st : Rs} (h : bR w g A bs st) (hB : ∀ b ∈ bs, b < 256) {n : Nat} (hn : n ≤ 7) : sgn (rN n st).1 = (((rN n st).1 : Nat) : Int) := qQv (zbf (pP h hB n) (zbc (show 256 ^ n ≤ 256 ^ 7 from zca jo hn) jd))
theorem uK {v : Nat} (h : v < 18446744073709551616) : IntKind.i64.wrap (v : Int) = sgn v := by
 have e : (v : Int) % 18446744073709551616 = v := jo
 unfold sgn
 by_cases h2 : v < 9223372036854775808
 ·
  rw [if_pos h2]
  simp [IntKind.wrap, IntKind.bits, IntKind.signed, e]
  omega
 rw [if_neg h2]
 simp [IntKind.wrap, IntKind.bits, IntKind.signed, e]
 omega
theorem qKj {w : World} {g : Nat} {A : Option Addr} {bs : Oc} {st : Rs} (h : bR w g A bs st) (hB : ∀ b ∈ bs, b < 256) (n : Nat) : (∀ b ∈ (rW n st).1, b < 256) ∧ (rW n st).1.length ≤ n := by
 obtain ⟨c, a, e, wh, _, _, rfl⟩ := h
 unfold stO
 split
 ·
  unfold rW
  dsimp only
  split
  · exact ⟨fun b hb => (by cases hb), zad _⟩
  exact ⟨fun b hb => hB b (zbp (zaw hb)), zcp _ _⟩
 exact ⟨fun b hb => (by cases hb), zad _⟩
theorem eP {α : Type} (f : Rs → α × Rs) : ∀ n st, (rMany f n st).1.length = n
 | 0, _ => rfl
 | n + 1, st => by rw [rMany, zf, eP f n st]; rfl
theorem pR {α : Type} (f : Rs → α × Rs) (n : Nat) (st : Rs) : rMany f (n + 1) st = ((rMany f n st).1 ++ [(f (rMany f n st).2).1], (f (rMany f n st).2).2) := rfl
theorem mF {α : Type} (f : Rs → α × Rs) (n : Nat) (st : Rs) : (rMany f (n + 1) st).1 = (rMany f n st).1 ++ [(f (rMany f n st).2).1] := rfl
theorem bR.offO {w w' : World} {g : Nat} {A B : Option Addr} {bs : Oc} {st : Rs} {e : TypeId} {size n d : Nat} {xs : List Value} (h : bR w g A bs st) (k : Frm (ob B) w w') (hB : Own w e size B n d xs) (h1 : 151 ≠ e) (h2 : 5 ≠ e) : bR w' g A bs st := by
 obtain ⟨c, a, e, wh, h3, h4⟩ := h
 refine ⟨c, a, e, wh, h3.frm k (fun x hx hxS => ?_), h4⟩
 rcases zbj.1 hx with rfl | hx
 · exact hB.ne_blk h3.1 h1.symm hxS
 exact h3.2.ne_own hB h2 x hx hxS
theorem bR.blk {w : World} {g : Nat} {A : Option Addr} {bs : Oc} {st : Rs} (h : bR w g A bs st) : ∃ cs, Blk w g 151 cs := by
 obtain ⟨c, a, e, wh, h1, _⟩ := h
 exact ⟨_, h1.1⟩
theorem sW (g : Nat) (A : Option Addr) (bs : Oc) (st : Rs) (w : World) (hl : bs.length ≤ 2000000) (hB : ∀ b ∈ bs, b < 256) (hR : bR w g A bs st) (n : Nat) (hn1 : 1 ≤ n) (hn8 : n ≤ 8) :
  Calls Tryz.prog 91 #[.agg #[.pointer (some ⟨g, 0, none⟩)], .int .i64 ((n : Nat) : Int)] w fun e w' => e = .returned (.int .i64 (sgn (rN n st).1)) ∧ bR w' g A bs (rN n st).2 ∧ Frm [g] w w' := by
 have hgl0 := hR.lt
 have h64 := qK1 hR hB hn8
 refine VC.calls (nt := 10) (res := #[.tmp 4]) Tryz.func91 rfl Tryz.ntmps91 Tryz.results91 rfl ?_
 refine jS (jR ?_)
 refine Ops.m (qK.box rfl) rfl ?_
 rintro _ w1 ⟨rfl, hF1⟩
 have hb1 : Blk w1 w.heap.size 122 #[.pointer (some ⟨g, 0, none⟩)] := hF1.blk
 have K : Frm [g] w w1 := hF1.frm.mono jp
 have hR := hR.nil hF1.frm
 have hgl := hR.lt
 have hs1 := hF1.size
 have hg1 : w.heap.size ≤ w.heap.size := zac _
 have hgn : g ≠ w.heap.size := by have := hgl0; omega
 generalize hg1e : w.heap.size = g1 at hb1 hgn ⊢
 refine jz 0 (jO (jN (jv2 1 2 ?_)))
 refine jS (jR (jf rfl zeh rfl zff (jl rfl Tryz.isAgg119 (hb1.cell 0) (jM ?_))))
 refine Ops.cl (jE2 Tryz.call129) (lP g A bs st n _ hl hn1 hn8 hB hR) rfl ?_
 rintro e w2 ⟨rfl, hR, hfw2⟩
 have hb1 := hb1.frm hfw2 (by simp; omega)
 have K := K.trans hfw2 (fun x hx => .inl hx)
 refine ⟨_, rfl, ?_⟩
 refine je (Run.conv rfl zah zv _ (uK h64)) (ja rfl (jO (jN (jv1 4 ?_))))
 refine jT ?_
 refine qN rfl ?_
 exact ⟨rfl, hR, K⟩
theorem bU (g : Nat) (A : Option Addr) (bs : Oc) (st : Rs) (w : World) (hl : bs.length ≤ 2000000) (hB : ∀ b ∈ bs, b < 256) (hR : bR w g A bs st) (n : Nat) (hn1 : 1 ≤ n) (hn8 : n ≤ 7) :
  Calls Tryz.prog 91 #[.agg #[.pointer (some ⟨g, 0, none⟩)], .int .i64 ((n : Nat) : Int)] w fun e w' => e = .returned (.int .i64 (((rN n st).1 : Nat) : Int)) ∧ bR w' g A bs (rN n st).2 ∧ Frm [g] w w' := by
 have h := sW g A bs st w hl hB hR n hn1 jo
 rw [qK2 hR hB hn8] at h
 exact h
theorem pS (g : Nat) (A : Option Addr) (bs : Oc) (st : Rs) (w : World) (hl : bs.length ≤ 2000000) (hB : ∀ b ∈ bs, b < 256) (hR : bR w g A bs st) :
  Calls Tryz.prog 92 #[.agg #[.pointer (some ⟨g, 0, none⟩)]] w fun e w' => e = .returned (encStr (rT st).1) ∧ bR w' g A bs (rT st).2 ∧ Frm [g] w w' := by
 have hgl0 := hR.lt
 have h256 := pP hR hB 1
 refine VC.calls (nt := 9) (res := #[.tmp 2]) Tryz.func92 rfl Tryz.ntmps92 Tryz.results92 rfl ?_
 refine jS (jR ?_)
 refine Ops.m (qK.box rfl) rfl ?_
 rintro _ w1 ⟨rfl, hF1⟩
 have hb1 : Blk w1 w.heap.size 122 #[.pointer (some ⟨g, 0, none⟩)] := hF1.blk
 have K : Frm [g] w w1 := hF1.frm.mono jp
 have hR := hR.nil hF1.frm
 have hgl := hR.lt
 have hs1 := hF1.size
 have hg1 : w.heap.size ≤ w.heap.size := zac _
 have hgn : g ≠ w.heap.size := by have := hgl0; omega
 generalize hg1e : w.heap.size = g1 at hb1 hgn ⊢
 refine ja rfl (jO (jN (jv1 1 ?_)))
 refine jS ?_
 refine VC.held (fun W => Blk W g1 122 #[.pointer (some ⟨g, 0, none⟩)]) jK ?_
 have hS : (fun W => Blk W g1 122 #[.pointer (some ⟨g, 0, none⟩)]) w1.drew := hb1.drawn (qP.drew _)
 have hb1 := hb1.drawn (qP.drew w1)
 have hR := hR.nil (qP.drew w1).frm
 have K := K.trans (qP.drew w1).frm jp
 refine jH 0 rfl hS (fun w0 hw0 => Run.fieldAddr rfl zeh rfl zff jd) ?_
 refine jH 1 rfl hS (fun w0 hw0 => Run.load rfl Tryz.isAgg119 (hw0.cell 0)) ?_
 refine jH 2 rfl hS (fun w0 hw0 => Run.loadA rfl zbt zbl (fun j v hj => hw0.cells j v hj) (by first | rfl | (simp; done))) ?_
 refine qQ.cl 3 rfl jK (jE2 zch) (bU g A bs st _ hl hB hR 1 jo jo) trivial rfl rfl ?_
 rintro e w2 ⟨rfl, hR, hfw2⟩
 have hb1 := hb1.frm hfw2 (by simp; omega)
 have K := K.trans hfw2 (fun x hx => .inl hx)
 have hS : (fun W => Blk W g1 122 #[.pointer (some ⟨g, 0, none⟩)]) w2 := hb1
 have h256b := pP hR hB 1
 refine ⟨_, rfl, hb1, ?_⟩
 refine qQ.cl 4 rfl jK (jE2 Tryz.call130) (qQ0 g A bs _ _ _ hl jo hR) trivial rfl rfl ?_
 rintro e w3 ⟨B, d, rfl, ho, hR2, hfw3⟩
 have hb1 := hb1.frm hfw3 (by simp; omega)
 have K := K.trans hfw3 (fun x hx => .inl hx)
 have hS : (fun W => Blk W g1 122 #[.pointer (some ⟨g, 0, none⟩)]) w3 := hb1
 obtain ⟨hm, hlw⟩ := qKj hR hB (rN 1 st).1
 refine ⟨_, rfl, hb1, ?_⟩
 rw [sR _ hm] at ho
 refine qQ.r1 5 rfl jK hS (Run.strOfT rfl zaj zbe zk ho) trivial rfl rfl ?_
 refine jH 6 rfl hS (fun w0 hw0 => Run.asg rfl) ?_
 refine qQ.done jK ?_
 refine jN (jv1 2 ?_)
 refine jT ?_
 refine qN rfl ?_
 exact ⟨rfl, hR2, K⟩
def Oct (st : Rs) : Prop := ∀ r, st = some r → ∀ b ∈ r, b < 256
theorem bR.oct {w : World} {g : Nat} {A : Option Addr} {bs : Oc} {st : Rs} (h : bR w g A bs st) (hB : ∀ b ∈ bs, b < 256) : Oct st := by
 obtain ⟨c, a, e, wh, _, _, rfl⟩ := h
 unfold stO
 intro r hr
 split at hr
 ·
  cases hr
  exact fun b hb => hB b (zbp hb)
 cases hr
theorem Oct.rN {st : Rs} (h : Oct st) (n : Nat) : Oct (rN n st).2 ∧ (rN n st).1 < 256 ^ n := by
 have hp : 0 < 256 ^ n := Nat.pow_pos jo
 unfold Go.Proofs.YtgmbmfpfhcekiaaGreat.rN
 cases st with
 | none => exact ⟨fun r hr => (by cases hr), hp⟩
 | some r =>
  dsimp only
  have h := h r rfl
  split
  · exact ⟨fun r hr => (by cases hr), hp⟩
  refine ⟨fun r2 hr => ?_, ?_⟩
  ·
   cases hr
   exact fun b hb => h b (zbp hb)
  exact zbf (nJ (r.take n) (fun b hb => h b (zaw hb))) (zca jo (zcp _ _))
theorem Oct.rW {st : Rs} (h : Oct st) (n : Nat) : Oct (rW n st).2 ∧ (rW n st).1.length ≤ n := by
 unfold Go.Proofs.YtgmbmfpfhcekiaaGreat.rW
 cases st with
 | none => exact ⟨fun r hr => (by cases hr), zad _⟩
 | some r =>
  dsimp only
  have h := h r rfl
  split
  · exact ⟨fun r hr => (by cases hr), zad _⟩
  refine ⟨fun r2 hr => ?_, zcp _ _⟩
  cases hr
  exact fun b hb => h b (zbp hb)
theorem Oct.rT {st : Rs} (h : Oct st) : Oct (rT st).2 ∧ (rT st).1.length < 256 := by
 obtain ⟨h1, h2⟩ := h.rN 1
 obtain ⟨h3, h4⟩ := h1.rW (Go.Proofs.YtgmbmfpfhcekiaaGreat.rN 1 st).1
 refine ⟨h3, ?_⟩
 unfold Go.Proofs.YtgmbmfpfhcekiaaGreat.rT
 rw [zal]
 omega
theorem Oct.rMany {α : Type} {f : Rs → α × Rs} {Q : α → Prop} (hf : ∀ st, Oct st → Oct (f st).2 ∧ Q (f st).1) : ∀ n st, Oct st → Oct (rMany f n st).2 ∧ ∀ x ∈ (rMany f n st).1, Q x
 | 0, st, h => ⟨h, fun x hx => by cases hx⟩
 | n + 1, st, h => by
  obtain ⟨h1, h2⟩ := Oct.rMany hf n st h
  obtain ⟨h3, h4⟩ := hf _ h1
  refine ⟨h3, fun x hx => ?_⟩
  rw [pR] at hx
  rcases zfb.1 hx with hx | hx
  · exact h2 x hx
  rw [zc] at hx
  rw [hx]
  exact h4
theorem Oct.rTs {st : Rs} (h : Oct st) : Oct (rTs st).2 ∧ (rTs st).1.length < 256 ∧ ∀ q ∈ (rTs st).1, q.length < 256 := by
 obtain ⟨h1, h2⟩ := h.rN 1
 obtain ⟨h3, h4⟩ := Oct.rMany (f := Go.Proofs.YtgmbmfpfhcekiaaGreat.rT) (Q := fun q => q.length < 256) (fun st h => h.rT) (Go.Proofs.YtgmbmfpfhcekiaaGreat.rN 1 st).1 _ h1
 exact ⟨h3, by unfold Go.Proofs.YtgmbmfpfhcekiaaGreat.rTs; rw [eP]; exact h2, h4⟩
def yL (m : MsgP) : Prop := m.flags.length < 256 ∧ (∀ q ∈ m.flags, q.length < 256) ∧ m.size ≤ 9223372036854775807
theorem Oct.rMsg {st : Rs} (h : Oct st) : Oct (rMsg st).2 ∧ yL (rMsg st).1 := by
 have h1 := ((h.rN 4).1.rN 8).1.rN 2
 have h2 := h1.1.rN 8
 have h3 := (h2.1.rN 4).1.rTs
 exact ⟨h3.1, h3.2.1, h3.2.2, by have := h2.2; show sgn _ ≤ _; unfold sgn; split <;> omega⟩
def sS (b : BoxV) : Prop := b.l.length < 256 ∧ ∀ m ∈ b.l, yL m
theorem Oct.rBox {st : Rs} (h : Oct st) : Oct (rBox st).2 ∧ sS (rBox st).1 := by
 have h1 := ((h.rN 4).1.rN 4).1.rN 1
 have h2 := Oct.rMany (f := Go.Proofs.YtgmbmfpfhcekiaaGreat.rMsg) (Q := yL) (fun st h => h.rMsg) (Go.Proofs.YtgmbmfpfhcekiaaGreat.rN 1 (Go.Proofs.YtgmbmfpfhcekiaaGreat.rN 4 (Go.Proofs.YtgmbmfpfhcekiaaGreat.rN 4 st).2).2).1 _ h1.1
 exact ⟨h2.1, by show (Go.Proofs.YtgmbmfpfhcekiaaGreat.rMany _ _ _).1.length < 256; rw [eP]; exact h1.2, h2.2⟩
theorem Oct.rNm {st : Rs} (h : Oct st) : Oct (rNm st).2 ∧ (rNm st).1.1.length < 256 ∧ sS (rNm st).1.2 := ⟨h.rT.1.rBox.1, h.rT.2, h.rT.1.rBox.2⟩
theorem qZo {bs : Oc} (hB : ∀ b ∈ bs, b < 256) : (eW bs).l.length < 256 ∧ (∀ x ∈ (eW bs).l, x.1.length < 256 ∧ sS x.2) ∧ (eW bs).subs.length < 256 ∧ (∀ q ∈ (eW bs).subs, q.length < 256) := by
 have h : Oct (some bs) := fun r hr => by cases hr; exact hB
 have h1 := ((h.rN 4).1.rN 4).1.rN 1
 have h2 := Oct.rMany (f := Go.Proofs.YtgmbmfpfhcekiaaGreat.rNm) (Q := fun x => x.1.length < 256 ∧ sS x.2) (fun st h => h.rNm) (Go.Proofs.YtgmbmfpfhcekiaaGreat.rN 1 (Go.Proofs.YtgmbmfpfhcekiaaGreat.rN 4 (Go.Proofs.YtgmbmfpfhcekiaaGreat.rN 4 (some bs)).2).2).1 _ h1.1
 have h3 := h2.1.rTs
 exact ⟨by show (Go.Proofs.YtgmbmfpfhcekiaaGreat.rMany _ _ _).1.length < 256; rw [eP]; exact h1.2, h2.2, h3.2.1, h3.2.2⟩
theorem nC (g : Nat) (A : Option Addr) (bs : Oc) (st : Rs) (w : World) (hl : bs.length ≤ 2000000) (hB : ∀ b ∈ bs, b < 256) (hR : bR w g A bs st) :
  Calls Tryz.prog 94 #[.agg #[.pointer (some ⟨g, 0, none⟩)]] w fun e w' => ∃ B d, e = .returned (.slice B (rTs st).1.length d) ∧ Own w' 9 1 B (rTs st).1.length d (SB (rTs st).1) ∧ (∀ b ∈ ob B, w.heap.size ≤ b) ∧ bR w' g A bs (rTs st).2 ∧ Frm [g] w w' := by
 have hgl0 := hR.lt
 have h256 := pP hR hB 1
 have hTl : (rTs st).1.length = (rN 1 st).1 := eP ..
 refine VC.calls (nt := 15) (res := #[.tmp 2]) Tryz.func94 rfl Tryz.ntmps94 Tryz.results94 rfl ?_
 refine jS (jR ?_)
 refine Ops.m (qK.box rfl) rfl ?_
 rintro _ w1 ⟨rfl, hF1⟩
 have hb1 : Blk w1 w.heap.size 122 #[.pointer (some ⟨g, 0, none⟩)] := hF1.blk
 have K : Frm [g] w w1 := hF1.frm.mono jp
 have hR := hR.nil hF1.frm
 have hgl := hR.lt
 have hs1 := hF1.size
 have hg1 : w.heap.size ≤ w.heap.size := zac _
 have hgn : g ≠ w.heap.size := by have := hgl0; omega
 generalize hg1e : w.heap.size = g1 at hb1 hgn ⊢
 refine ja rfl (jO (jN (jv1 1 ?_)))
 refine jS (jR (ja rfl (jO (jN (jS (jS (jR (je (Run.loadA rfl zbt zbl (fun j v hj => hb1.cells j v hj) (by first | rfl | (simp; done))) ?_))))))))
 refine Ops.cl (jE2 zch) (bU g A bs st _ hl hB hR 1 jo jo) rfl ?_
 rintro e w2 ⟨rfl, hR, hfw2⟩
 have hb1 := hb1.frm hfw2 (by simp; omega)
 have K := K.trans hfw2 (fun x hx => .inl hx)
 refine ⟨_, rfl, ?_⟩
 refine jx .i64 0 ?_
 refine jO (jN (jv4 1 3 5 6 ?_))
 refine jB ?_
 refine VC.loop (σ := Nat × Option Addr × Nat) (fun s => [(1, .pointer (some ⟨g1, 0, none⟩)), (3, .slice s.2.1 s.1 s.2.2), (5, .int .i64 (((rN 1 st).1 : Nat) : Int)), (6, .int .i64 ((s.1 : Nat) : Int))]) (fun s wr => s.1 ≤ (rN 1 st).1 ∧ Blk wr g1 122 #[.pointer (some ⟨g, 0, none⟩)] ∧ bR wr g A bs (rMany rT s.1 (rN 1 st).2).2 ∧ Own wr 9 1 s.2.1 s.1 s.2.2 (SB (rMany rT s.1 (rN 1 st).2).1) ∧ (∀ b ∈ ob s.2.1, w.heap.size ≤ b) ∧ Frm [g] w wr) (fun s => (rN 1 st).1 - s.1) (0, none, 0) (js4 rfl rfl rfl rfl) ⟨zad _, hb1, hR, Own.nil _ _ _, by simp [ob], K⟩ ?_
 rintro ⟨i, B, d⟩ wr ⟨hi, hb1, hR, ho, hob, K⟩
 dsimp only at *
 refine jS (jR (jb rfl rfl (Bin.lssN _ _) (jO (jN (jS ?_)))))
 refine jD rfl (fun hc1 => ?_) fun hc1 => ?_
 ·
  refine jQ (jN (jv4 1 3 5 6 ?_))
  refine jS (jB (jR (jm rfl (je (Run.loadA rfl zbt zbl (fun j v hj => hb1.cells j v hj) (by first | rfl | (simp; done))) ?_))))
  refine Ops.cl (jE1 Tryz.call92) (pS g A bs _ _ hl hB hR) rfl ?_
  rintro e w3 ⟨rfl, hR3, hf3⟩
  have hb1 := hb1.frm hf3 (by simp; omega)
  obtain ⟨csg, hbg⟩ := hR.blk
  have hng := ho.ne_blk hbg jd
  have ho := ho.frm hf3 (fun y hy h => by rw [zc] at h; subst h; exact hng hy)
  have K := K.trans hf3 (fun x hx => .inl hx)
  refine ⟨_, rfl, ?_⟩
  refine Ops.m (qK.buildS1 rfl zg zo eT jd jd rfl rfl) rfl ?_
  rintro _ w4 ⟨rfl, hF4⟩
  have hr4 : Rd w4 1 (some ⟨w3.heap.size, 0, none⟩) 1 (SB [(rT (rMany rT i (rN 1 st).2).2).1]) := Rd.of_blk (n := 1) (size := 1) hF4.blk rfl
  have hb1 := hb1.frm hF4.frm jp
  have ho4 := ho.frm hF4.frm jp
  have hR4 := hR3.nil hF4.frm
  have K := K.trans hF4.frm jp
  have hk4 := K.size
  refine Ops.m (qK.app rfl rfl zg (gX) rfl jd ho4 hr4 (eH _) jo jo) rfl ?_
  rintro _ w5 ⟨B5, d5, rfl, ho5, hf5, hob5⟩
  rw [← cV, ← mF rT i] at ho5
  have hb1 := hb1.frm hf5 (ho4.ne_blk hb1 jd)
  have hR5 := hR4.offO hf5 ho4 jd jd
  have K5 := K.trans hf5 (fun x hx => .inr (hob x hx))
  have hob6 : ∀ b ∈ ob B5, w.heap.size ≤ b := fun b hb => by
   rcases hob5 with h | h
   · rw [h] at hb; exact hob b hb
   rw [h, zc] at hb; omega
  refine ja rfl (jO ?_)
  refine qW (jN ?_)
  refine jv4 1 3 5 6 ?_
  refine jR (jb rfl rfl (Bin.add_i64 _ 1 jo) (jm rfl (jO ?_)))
  refine jN ⟨(i + 1, B5, d5), (js4 rfl rfl rfl rfl), ?_, ?_⟩
  · exact ⟨hc1, hb1, hR5, ho5, hob6, K5⟩
  first | omega | (dsimp only; omega)
 refine jX ?_
 refine qJ (qJ (qR ?_))
 refine jN (jv1 3 ?_)
 refine jS (jR (jm rfl (ja rfl (jO (jN (jv1 2 ?_))))))
 refine jT ?_
 refine qN rfl ?_
 obtain rfl : i = (rN 1 st).1 := jo
 exact ⟨B, d, by rw [hTl], by rw [hTl]; exact ho, fun b hb => by have := hob b hb; omega, hR, K⟩
end
section
open Go.RowKit Go.Sort
theorem qKk (l : List Mc) : ∀ u ∈ MC l, u.oneCell' = true := kU Mc.cells Mc.cells_one l
theorem pT (x : Mc) : ∀ u ∈ x.cells, u.oneCell' = true := Mc.cells_one x
set_option maxHeartbeats 1000000 in
theorem qQ1 (g : Nat) (A : Option Addr) (bs : Oc) (st : Rs) (w : World) (hl : bs.length ≤ 2000000) (hB : ∀ b ∈ bs, b < 256) (hR : bR w g A bs st) :
  Calls Tryz.prog 131 #[.agg #[.pointer (some ⟨g, 0, none⟩)]] w fun e w' => ∃ x : Mc, e = .returned (.agg x.cells.toArray) ∧ x.m = (rMsg st).1 ∧ Own w' 9 1 x.A x.m.flags.length x.c (SB x.m.flags) ∧ (∀ b ∈ ob x.A, w.heap.size ≤ b) ∧ bR w' g A bs (rMsg st).2 ∧ Frm [g] w w' := by
 have hgl0 := hR.lt
 have hO := hR.oct hB
 have hv64a := zbf ((hO.rN 4).1.rN 8).2 (show 256 ^ 8 ≤ 18446744073709551616 by decide)
 have hv2 := zbf (((hO.rN 4).1.rN 8).1.rN 2).2 (show 256 ^ 2 ≤ 65536 by decide)
 refine VC.calls (nt := 29) (res := #[.cell 2 60]) Tryz.func131 rfl Tryz.ntmps131 Tryz.results131 rfl ?_
 refine jS (jR ?_)
 refine Ops.m (qK.box rfl) rfl ?_
 rintro _ w1 ⟨rfl, hF1⟩
 have hb1 : Blk w1 w.heap.size 122 #[.pointer (some ⟨g, 0, none⟩)] := hF1.blk
 have K : Frm [g] w w1 := hF1.frm.mono jp
 have hR := hR.nil hF1.frm
 have hgl := hR.lt
 have hs1 := hF1.size
 have hg1 : w.heap.size ≤ w.heap.size := zac _
 have hgn : g ≠ w.heap.size := by have := hgl0; omega
 generalize hg1e : w.heap.size = g1 at hb1 hgn ⊢
 refine Ops.m (qK.alloc dB) rfl ?_
 rintro _ w2 ⟨rfl, hF2⟩
 have hb2 := hF2.blk
 have hb1 := hb1.frm hF2.frm jp
 have hlt := hb1.lt
 have hR := hR.nil hF2.frm
 have hk1 := K.size
 have K := K.trans hF2.frm jp
 have h12 : g1 ≠ w1.heap.size := jo
 have h02 : g ≠ w1.heap.size := jo
 have hg2 : g1 ≤ w1.heap.size := jo
 generalize hg2e : w1.heap.size = g2 at hb2 h12 h02 hg2 ⊢
 have hl2 := hb2.lt
 refine jO (jN (jv2 1 2 ?_))
 refine jS (jR (je (Run.loadA rfl zbt zbl (fun j v hj => hb1.cells j v hj) (by first | rfl | (simp; done))) ?_))
 refine Ops.cl (jE2 zch) (bU g A bs st _ hl hB hR 4 jo jo) rfl ?_
 rintro e w3 ⟨rfl, hR, hfw3⟩
 have hb1 := hb1.frm hfw3 (by simp; omega)
 have hb2 := hb2.frm hfw3 (by simp; omega)
 try have hb3 := hb3.frm hfw3 (by simp; omega)
 have K := K.trans hfw3 (fun x hx => .inl hx)
 have hl1 := hb1.lt
 have hl2 := hb2.lt
 have hlr := hR.lt
 refine ⟨_, rfl, ?_⟩
 refine je (Run.build (evs.cons rfl evs.nil) dB (sD).choose_spec.1 (sD).choose_spec.2 rfl) ?_
 refine Ops.m (qK.alloc dB) rfl ?_
 rintro _ w4 ⟨rfl, hF4⟩
 have hb3 := hF4.blk
 have hb1 := hb1.frm hF4.frm jp
 have hb2 := hb2.frm hF4.frm jp
 have hR := hR.nil hF4.frm
 have hk3 := K.size
 have K := K.trans hF4.frm jp
 have h13 : g1 ≠ w3.heap.size := jo
 have h23 : g2 ≠ w3.heap.size := jo
 have h03 : g ≠ w3.heap.size := jo
 have hg3 : g1 ≤ w3.heap.size := jo
 generalize hg3e : w3.heap.size = g3 at hb3 h13 h23 h03 hg3 ⊢
 have hbo := hb3
 refine Ops.st (qH.storeA rfl rfl zak hb3 rfl (pT ⟨⟨(((rN 4 st).1 : Nat) : Int), 0, 0, 0, 0, []⟩, none, 0⟩)) ?_
 rintro w5 ⟨hbn, (hfw5 : Frm [g3] _ _), hsw5⟩
 have hb3 : Blk w5 g3 60 #[.int .i64 (((rN 4 st).1 : Nat) : Int), .int .i64 0, .int .i64 0, .int .i64 0, .int .u64 0, .slice none 0 0] := hbn
 have hb1 := hb1.frm hfw5 (by simp; omega)
 have hb2 := hb2.frm hfw5 (by simp; omega)
 have hR := hR.off hfw5 (fun y hy => by rw [zc] at hy; subst hy; exact ⟨_, _, hbo, jd, jd⟩)
 have K := K.trans hfw5 (fun y hy => .inr (by rw [zc] at hy; omega))
 refine jO (jN (jv3 1 2 3 ?_))
 refine jS (jR (jf rfl zeh rfl zff (jl rfl Tryz.isAgg119 (hb1.cell 0) ?_)))
 refine Ops.cl (jE2 Tryz.call129) (lP g A bs _ 8 _ hl jo jo hB hR) rfl ?_
 rintro e w6 ⟨rfl, hR, hfw6⟩
 have hb1 := hb1.frm hfw6 (by simp; omega)
 have hb2 := hb2.frm hfw6 (by simp; omega)
 try have hb3 := hb3.frm hfw6 (by simp; omega)
 have K := K.trans hfw6 (fun x hx => .inl hx)
 refine ⟨_, rfl, ?_⟩
 refine je (Run.conv rfl zah zet _ (uK hv64a)) (jf rfl zr rfl zbz (jf rfl zay rfl zdk ?_))
 have hbo := hb3
 refine Ops.st (qH.store rfl rfl zdk hb3 rfl rfl) ?_
 rintro w7 ⟨hbn, (hfw7 : Frm [g3] _ _), hsw7⟩
 have hb3 : Blk w7 g3 60 #[.int .i64 (((rN 4 st).1 : Nat) : Int), .int .i64 (sgn (rN 8 (rN 4 st).2).1), .int .i64 0, .int .i64 0, .int .u64 0, .slice none 0 0] := hbn
 have hb1 := hb1.frm hfw7 (by simp; omega)
 have hb2 := hb2.frm hfw7 (by simp; omega)
 have hR := hR.off hfw7 (fun y hy => by rw [zc] at hy; subst hy; exact ⟨_, _, hbo, jd, jd⟩)
 have K := K.trans hfw7 (fun y hy => .inr (by rw [zc] at hy; omega))
 refine jO (jN (jv3 1 2 3 ?_))
 refine jS (jR (je (Run.loadA rfl zbt zbl (fun j v hj => hb1.cells j v hj) (by first | rfl | (simp; done))) ?_))
 refine Ops.cl (jE2 zch) (bU g A bs _ _ hl hB hR 2 jo jo) rfl ?_
 rintro e w8 ⟨rfl, hR, hfw8⟩
 have hb1 := hb1.frm hfw8 (by simp; omega)
 have hb2 := hb2.frm hfw8 (by simp; omega)
 try have hb3 := hb3.frm hfw8 (by simp; omega)
 have K := K.trans hfw8 (fun x hx => .inl hx)
 refine ⟨_, rfl, ?_⟩
 refine jb rfl rfl (Bin.subZ _ 1440 jo jo) (jf rfl zr rfl zbz (jf rfl zay rfl zj ?_))
 have hbo := hb3
 refine Ops.st (qH.store rfl rfl zj hb3 rfl rfl) ?_
 rintro w9 ⟨hbn, (hfw9 : Frm [g3] _ _), hsw9⟩
 have hb3 : Blk w9 g3 60 #[.int .i64 (((rN 4 st).1 : Nat) : Int), .int .i64 (sgn (rN 8 (rN 4 st).2).1), .int .i64 ((((rN 2 (rN 8 (rN 4 st).2).2).1 : Nat) : Int) - 1440), .int .i64 0, .int .u64 0, .slice none 0 0] := hbn
 have hb1 := hb1.frm hfw9 (by simp; omega)
 have hb2 := hb2.frm hfw9 (by simp; omega)
 have hR := hR.off hfw9 (fun y hy => by rw [zc] at hy; subst hy; exact ⟨_, _, hbo, jd, jd⟩)
 have K := K.trans hfw9 (fun y hy => .inr (by rw [zc] at hy; omega))
 refine jO (jN (jv3 1 2 3 ?_))
 refine jS ?_
 refine VC.held (fun W => Blk W g1 122 #[.pointer (some ⟨g, 0, none⟩)]) jK ?_
 have hb1 := hb1.drawn (qP.drew w9)
 have hb2 := hb2.drawn (qP.drew w9)
 have hb3 := hb3.drawn (qP.drew w9)
 have hR := hR.nil (qP.drew w9).frm
 have K := K.trans (qP.drew w9).frm jp
 have hS : (fun W => Blk W g1 122 #[.pointer (some ⟨g, 0, none⟩)]) w9.drew := hb1
 refine jH 0 rfl hS (fun w0 hw0 => Run.loadA rfl zbt zbl (fun j v hj => hw0.cells j v hj) (by first | rfl | (simp; done))) ?_
 refine jH 2 rfl hS (fun w0 hw0 => Run.fieldAddr rfl zeh rfl zff jd) ?_
 refine jH 3 rfl hS (fun w0 hw0 => Run.load rfl Tryz.isAgg119 (hw0.cell 0)) ?_
 refine qQ.cl 1 rfl jK (jE2 zch) (sW g A bs _ _ hl hB hR 8 jo jo) trivial rfl rfl ?_
 rintro e w10 ⟨rfl, hR, hfw10⟩
 have hb1 := hb1.frm hfw10 (by simp; omega)
 have hb2 := hb2.frm hfw10 (by simp; omega)
 try have hb3 := hb3.frm hfw10 (by simp; omega)
 have K := K.trans hfw10 (fun x hx => .inl hx)
 have hS : (fun W => Blk W g1 122 #[.pointer (some ⟨g, 0, none⟩)]) w10 := hb1
 refine ⟨_, rfl, hb1, ?_⟩
 refine jH 5 rfl hS (fun w0 hw0 => Run.fieldAddr rfl zr rfl zj jd) ?_
 refine qQ.cl 4 rfl jK (jE2 Tryz.call129) (lP g A bs _ 4 _ hl jo jo hB hR) trivial rfl rfl ?_
 rintro e w11 ⟨rfl, hR, hfw11⟩
 have hb1 := hb1.frm hfw11 (by simp; omega)
 have hb2 := hb2.frm hfw11 (by simp; omega)
 try have hb3 := hb3.frm hfw11 (by simp; omega)
 have K := K.trans hfw11 (fun x hx => .inl hx)
 have hS : (fun W => Blk W g1 122 #[.pointer (some ⟨g, 0, none⟩)]) w11 := hb1
 refine ⟨_, rfl, hb1, ?_⟩
 have hbo := hb3
 refine qQ.st 6 rfl jK (qH.store rfl rfl zj hb3 rfl rfl) trivial rfl ?_
 rintro w12 ⟨hbn, (hfw12 : Frm [g3] _ _), hsw12⟩
 have hb3 : Blk w12 g3 60 #[.int .i64 (((rN 4 st).1 : Nat) : Int), .int .i64 (sgn (rN 8 (rN 4 st).2).1), .int .i64 ((((rN 2 (rN 8 (rN 4 st).2).2).1 : Nat) : Int) - 1440), .int .i64 (sgn (rN 8 (rN 2 (rN 8 (rN 4 st).2).2).2).1), .int .u64 0, .slice none 0 0] := hbn
 have hb1 := hb1.frm hfw12 (by simp; omega)
 have hb2 := hb2.frm hfw12 (by simp; omega)
 have hR := hR.off hfw12 (fun y hy => by rw [zc] at hy; subst hy; exact ⟨_, _, hbo, jd, jd⟩)
 have K := K.trans hfw12 (fun y hy => .inr (by rw [zc] at hy; omega))
 have hS : (fun W => Blk W g1 122 #[.pointer (some ⟨g, 0, none⟩)]) w12 := hb1
 refine ⟨hb1, ?_⟩
 refine jH 7 rfl hS (fun w0 hw0 => Run.fieldAddr rfl zr rfl zcu jd) ?_
 have hbo := hb3
 refine qQ.st 8 rfl jK (qH.store rfl rfl zcu hb3 rfl rfl) trivial rfl ?_
 rintro w13 ⟨hbn, (hfw13 : Frm [g3] _ _), hsw13⟩
 have hb3 : Blk w13 g3 60 #[.int .i64 (((rN 4 st).1 : Nat) : Int), .int .i64 (sgn (rN 8 (rN 4 st).2).1), .int .i64 ((((rN 2 (rN 8 (rN 4 st).2).2).1 : Nat) : Int) - 1440), .int .i64 (sgn (rN 8 (rN 2 (rN 8 (rN 4 st).2).2).2).1), .int .u64 (((rN 4 (rN 8 (rN 2 (rN 8 (rN 4 st).2).2).2).2).1 : Nat) : Int), .slice none 0 0] := hbn
 have hb1 := hb1.frm hfw13 (by simp; omega)
 have hb2 := hb2.frm hfw13 (by simp; omega)
 have hR := hR.off hfw13 (fun y hy => by rw [zc] at hy; subst hy; exact ⟨_, _, hbo, jd, jd⟩)
 have K := K.trans hfw13 (fun y hy => .inr (by rw [zc] at hy; omega))
 have hS : (fun W => Blk W g1 122 #[.pointer (some ⟨g, 0, none⟩)]) w13 := hb1
 refine ⟨hb1, ?_⟩
 refine qQ.done jK ?_
 refine jN (jv3 1 2 3 ?_)
 refine jS (jR (je (Run.loadA rfl zbt zbl (fun j v hj => hb1.cells j v hj) (by first | rfl | (simp; done))) ?_))
 refine Ops.cl (jE1 Tryz.call94) (nC g A bs _ _ hl hB hR) rfl ?_
 rintro e w14 ⟨B, d, rfl, hof, hobf, hR, hf14⟩
 have hkf := K.size
 have hb1 := hb1.frm hf14 (by simp; omega)
 have hb2 := hb2.frm hf14 (by simp; omega)
 have hb3 := hb3.frm hf14 (by simp; omega)
 have K := K.trans hf14 (fun x hx => .inl hx)
 refine ⟨_, rfl, ?_⟩
 refine jf rfl zr rfl zab ?_
 have hbo := hb3
 refine Ops.st (qH.store rfl rfl zab hb3 rfl rfl) ?_
 rintro w15 ⟨hbn, (hfw15 : Frm [g3] _ _), hsw15⟩
 have hb3 : Blk w15 g3 60 #[.int .i64 (((rN 4 st).1 : Nat) : Int), .int .i64 (sgn (rN 8 (rN 4 st).2).1), .int .i64 ((((rN 2 (rN 8 (rN 4 st).2).2).1 : Nat) : Int) - 1440), .int .i64 (sgn (rN 8 (rN 2 (rN 8 (rN 4 st).2).2).2).1), .int .u64 (((rN 4 (rN 8 (rN 2 (rN 8 (rN 4 st).2).2).2).2).1 : Nat) : Int), .slice B (rTs (rN 4 (rN 8 (rN 2 (rN 8 (rN 4 st).2).2).2).2).2).1.length d] := hbn
 have hb1 := hb1.frm hfw15 (by simp; omega)
 have hb2 := hb2.frm hfw15 (by simp; omega)
 have hR := hR.off hfw15 (fun y hy => by rw [zc] at hy; subst hy; exact ⟨_, _, hbo, jd, jd⟩)
 have K := K.trans hfw15 (fun y hy => .inr (by rw [zc] at hy; omega))
 have hof := hof.frm hfw15 (fun y hy h => by rw [zc] at h; subst h; exact hof.ne_blk hbo jd hy)
 refine jO (jN (jv2 2 3 ?_))
 refine jS (jR (je (Run.loadA rfl zct zak (fun j v hj => hb3.cells j v hj) (by first | rfl | (simp; done))) ?_))
 refine Ops.st (qH.storeA rfl rfl zak hb2 rfl (pT ⟨(rMsg st).1, B, d⟩)) ?_
 rintro w16 ⟨hbn, (hf16 : Frm [g2] _ _), hs16⟩
 have hR := hR.off hf16 (fun y hy => by rw [zc] at hy; subst hy; exact ⟨_, _, hb2, jd, jd⟩)
 have hof := hof.frm hf16 (fun y hy h => by rw [zc] at h; subst h; exact hof.ne_blk hb2 jd hy)
 have K := K.trans hf16 (fun y hy => .inr (by rw [zc] at hy; omega))
 refine jO (jN (jv1 2 ?_))
 refine jT ?_
 refine bT ?_
 refine qI rfl zct zak (fun j v hj => Blk.cells (cs := (⟨(rMsg st).1, B, d⟩ : Mc).cells.toArray) hbn j v hj) (by first | rfl | (simp; done)) ?_
 refine bZ ?_
 exact ⟨⟨(rMsg st).1, B, d⟩, rfl, rfl, hof, fun b hb => by have := hobf b hb; omega, hR, K⟩
set_option maxHeartbeats 1000000 in
theorem qQ2 (g : Nat) (A : Option Addr) (bs : Oc) (st : Rs) (w : World) (hl : bs.length ≤ 2000000) (hB : ∀ b ∈ bs, b < 256) (hR : bR w g A bs st) :
  Calls Tryz.prog 93 #[.agg #[.pointer (some ⟨g, 0, none⟩)]] w fun e w' => ∃ (v n : Int) (B : Option Addr) (d : Nat) (lm : List Mc), e = .returned (.agg (BVc v n B lm.length d).toArray) ∧ (⟨v, n, Ms lm⟩ : BoxV) = (rBox st).1 ∧ OwM w' B d lm ∧ (∀ b ∈ ob B, w.heap.size ≤ b) ∧ bR w' g A bs (rBox st).2 ∧ Frm [g] w w' := by
 have hgl0 := hR.lt
 have hO := hR.oct hB
 have hv1 := zbf (((hO.rN 4).1.rN 4).1.rN 1).2 (show 256 ^ 1 ≤ 256 by decide)
 refine VC.calls (nt := 22) (res := #[.cell 2 43]) Tryz.func93 rfl Tryz.ntmps93 Tryz.results93 rfl ?_
 refine jS (jR ?_)
 refine Ops.m (qK.box rfl) rfl ?_
 rintro _ w1 ⟨rfl, hF1⟩
 have hb1 : Blk w1 w.heap.size 122 #[.pointer (some ⟨g, 0, none⟩)] := hF1.blk
 have K : Frm [g] w w1 := hF1.frm.mono jp
 have hR := hR.nil hF1.frm
 have hgl := hR.lt
 have hs1 := hF1.size
 have hg1 : w.heap.size ≤ w.heap.size := zac _
 have hgn : g ≠ w.heap.size := by have := hgl0; omega
 generalize hg1e : w.heap.size = g1 at hb1 hgn ⊢
 refine Ops.m (qK.alloc cQ) rfl ?_
 rintro _ w2 ⟨rfl, hF2⟩
 have hb2 := hF2.blk
 have hb1 := hb1.frm hF2.frm jp
 have hlt := hb1.lt
 have hR := hR.nil hF2.frm
 have hk1 := K.size
 have K := K.trans hF2.frm jp
 have h12 : g1 ≠ w1.heap.size := jo
 have h02 : g ≠ w1.heap.size := jo
 have hg2 : g1 ≤ w1.heap.size := jo
 generalize hg2e : w1.heap.size = g2 at hb2 h12 h02 hg2 ⊢
 have hl2 := hb2.lt
 refine jO (jN (jv2 1 2 ?_))
 refine jS ?_
 refine VC.meet (σ := Nat) (fun s => [(1, .pointer (some ⟨g1, 0, none⟩)), (2, .pointer (some ⟨g2, 0, none⟩)), (3, .pointer (some ⟨s, 0, none⟩))]) (fun s wz => Blk wz g1 122 #[.pointer (some ⟨g, 0, none⟩)] ∧ Blk wz g2 43 #[.int .i64 0, .int .i64 0, .slice none 0 0] ∧ Blk wz s 43 (BVc (((rN 4 st).1 : Nat) : Int) (((rN 4 (rN 4 st).2).1 : Nat) : Int) none ([] : List Mc).length 0).toArray ∧ bR wz g A bs (rN 4 (rN 4 st).2).2 ∧ (g1 ≠ s ∧ g2 ≠ s ∧ g ≠ s ∧ g1 ≤ s) ∧ Frm [g] w wz) ?_ ?_
 ·
  refine VC.held (fun W => Blk W g1 122 #[.pointer (some ⟨g, 0, none⟩)]) jK ?_
  have hb1 := hb1.drawn (qP.drew w2)
  have hb2 := hb2.drawn (qP.drew w2)
  have hR := hR.nil (qP.drew w2).frm
  have K := K.trans (qP.drew w2).frm jp
  have hS : (fun W => Blk W g1 122 #[.pointer (some ⟨g, 0, none⟩)]) w2.drew := hb1
  refine jH 0 rfl hS (fun w0 hw0 => Run.loadA rfl zbt zbl (fun j v hj => hw0.cells j v hj) (by first | rfl | (simp; done))) ?_
  refine jH 2 rfl hS (fun w0 hw0 => Run.loadA rfl zbt zbl (fun j v hj => hw0.cells j v hj) (by first | rfl | (simp; done))) ?_
  refine qQ.or2 1 5 jK ?_ ?_
  ·
   refine cW.cl rfl (jE2 zch) (bU g A bs _ _ hl hB hR 4 jo jo) trivial rfl rfl ?_
   rintro e w3 ⟨rfl, hR, hfw3⟩
   have hb1 := hb1.frm hfw3 (by simp; omega)
   have hb2 := hb2.frm hfw3 (by simp; omega)
   try have hb3 := hb3.frm hfw3 (by simp; omega)
   have K := K.trans hfw3 (fun x hx => .inl hx)
   have hS : (fun W => Blk W g1 122 #[.pointer (some ⟨g, 0, none⟩)]) w3 := hb1
   refine ⟨_, rfl, hb1, ?_⟩
   refine qQ.or2 3 5 jK ?_ ?_
   ·
    refine cW.cl rfl (jE2 zch) (bU g A bs _ _ hl hB hR 4 jo jo) trivial rfl rfl ?_
    rintro e w4 ⟨rfl, hR, hfw4⟩
    have hb1 := hb1.frm hfw4 (by simp; omega)
    have hb2 := hb2.frm hfw4 (by simp; omega)
    try have hb3 := hb3.frm hfw4 (by simp; omega)
    have K := K.trans hfw4 (fun x hx => .inl hx)
    have hS : (fun W => Blk W g1 122 #[.pointer (some ⟨g, 0, none⟩)]) w4 := hb1
    refine ⟨_, rfl, hb1, ?_⟩
    refine jH 4 rfl hS (fun w0 hw0 => Run.build (evs.cons rfl (evs.cons rfl evs.nil)) cQ (cH).choose_spec.1 (cH).choose_spec.2 rfl) ?_
    refine qQ.m 5 rfl jK (qK.alloc cQ) trivial rfl rfl ?_
    rintro _ w5 ⟨rfl, hFw5⟩
    have hb3 := hFw5.blk
    have hlb1 := hb1.lt
    have hlb2 := hb2.lt
    have hlb0 := hR.lt
    have hk3 := K.size
    have hb1 := hb1.frm hFw5.frm jp
    have hb2 := hb2.frm hFw5.frm jp
    have hR := hR.nil hFw5.frm
    have K := K.trans hFw5.frm jp
    have h13 : g1 ≠ w4.heap.size := jo
    have h23 : g2 ≠ w4.heap.size := jo
    have h03 : g ≠ w4.heap.size := jo
    have hg3 : g1 ≤ w4.heap.size := jo
    generalize hg3e : w4.heap.size = g3 at hb3 h13 h23 h03 hg3 ⊢
    have hS : (fun W => Blk W g1 122 #[.pointer (some ⟨g, 0, none⟩)]) w5 := hb1
    refine ⟨hb1, ?_⟩
    have hbo := hb3
    refine qQ.st 6 rfl jK (qH.storeA rfl rfl zq hb3 rfl (cZ _ _ none 0 0)) trivial rfl ?_
    rintro w6 ⟨hbn, (hfw6 : Frm [g3] _ _), hsw6⟩
    have hb3 : Blk w6 g3 43 (BVc (((rN 4 st).1 : Nat) : Int) (((rN 4 (rN 4 st).2).1 : Nat) : Int) none ([] : List Mc).length 0).toArray := hbn
    have hb1 := hb1.frm hfw6 (by simp; omega)
    have hb2 := hb2.frm hfw6 (by simp; omega)
    have hR := hR.off hfw6 (fun y hy => by rw [zc] at hy; subst hy; exact ⟨_, _, hbo, jd, jd⟩)
    have K := K.trans hfw6 (fun y hy => .inr (by rw [zc] at hy; omega))
    have hS : (fun W => Blk W g1 122 #[.pointer (some ⟨g, 0, none⟩)]) w6 := hb1
    refine ⟨hb1, ?_⟩
    refine qQ.done jK ?_
    refine jN ⟨g3, (js3 rfl rfl rfl), ?_⟩
    exact ⟨hb1, hb2, hb3, hR, ⟨h13, h23, h03, hg3⟩, K⟩
   refine cW.m rfl (qK.alloc cQ) trivial rfl rfl ?_
   rintro _ w4 ⟨rfl, hFw4⟩
   have hb3 := hFw4.blk
   have hlb1 := hb1.lt
   have hlb2 := hb2.lt
   have hlb0 := hR.lt
   have hk3 := K.size
   have hb1 := hb1.frm hFw4.frm jp
   have hb2 := hb2.frm hFw4.frm jp
   have hR := hR.nil hFw4.frm
   have K := K.trans hFw4.frm jp
   have h13 : g1 ≠ w3.heap.size := jo
   have h23 : g2 ≠ w3.heap.size := jo
   have h03 : g ≠ w3.heap.size := jo
   have hg3 : g1 ≤ w3.heap.size := jo
   generalize hg3e : w3.heap.size = g3 at hb3 h13 h23 h03 hg3 ⊢
   have hS : (fun W => Blk W g1 122 #[.pointer (some ⟨g, 0, none⟩)]) w4 := hb1
   refine ⟨hb1, ?_⟩
   refine qQ.cl 3 rfl jK (jE2 zch) (bU g A bs _ _ hl hB hR 4 jo jo) trivial rfl rfl ?_
   rintro e w5 ⟨rfl, hR, hfw5⟩
   have hb1 := hb1.frm hfw5 (by simp; omega)
   have hb2 := hb2.frm hfw5 (by simp; omega)
   try have hb3 := hb3.frm hfw5 (by simp; omega)
   have K := K.trans hfw5 (fun x hx => .inl hx)
   have hS : (fun W => Blk W g1 122 #[.pointer (some ⟨g, 0, none⟩)]) w5 := hb1
   refine ⟨_, rfl, hb1, ?_⟩
   refine jH 4 rfl hS (fun w0 hw0 => Run.build (evs.cons rfl (evs.cons rfl evs.nil)) cQ (cH).choose_spec.1 (cH).choose_spec.2 rfl) ?_
   have hbo := hb3
   refine qQ.st 6 rfl jK (qH.storeA rfl rfl zq hb3 rfl (cZ _ _ none 0 0)) trivial rfl ?_
   rintro w6 ⟨hbn, (hfw6 : Frm [g3] _ _), hsw6⟩
   have hb3 : Blk w6 g3 43 (BVc (((rN 4 st).1 : Nat) : Int) (((rN 4 (rN 4 st).2).1 : Nat) : Int) none ([] : List Mc).length 0).toArray := hbn
   have hb1 := hb1.frm hfw6 (by simp; omega)
   have hb2 := hb2.frm hfw6 (by simp; omega)
   have hR := hR.off hfw6 (fun y hy => by rw [zc] at hy; subst hy; exact ⟨_, _, hbo, jd, jd⟩)
   have K := K.trans hfw6 (fun y hy => .inr (by rw [zc] at hy; omega))
   have hS : (fun W => Blk W g1 122 #[.pointer (some ⟨g, 0, none⟩)]) w6 := hb1
   refine ⟨hb1, ?_⟩
   refine qQ.done jK ?_
   refine jN ⟨g3, (js3 rfl rfl rfl), ?_⟩
   exact ⟨hb1, hb2, hb3, hR, ⟨h13, h23, h03, hg3⟩, K⟩
  refine cW.m rfl (qK.alloc cQ) trivial rfl rfl ?_
  rintro _ w3 ⟨rfl, hFw3⟩
  have hb3 := hFw3.blk
  have hlb1 := hb1.lt
  have hlb2 := hb2.lt
  have hlb0 := hR.lt
  have hk3 := K.size
  have hb1 := hb1.frm hFw3.frm jp
  have hb2 := hb2.frm hFw3.frm jp
  have hR := hR.nil hFw3.frm
  have K := K.trans hFw3.frm jp
  have h13 : g1 ≠ w2.drew.heap.size := jo
  have h23 : g2 ≠ w2.drew.heap.size := jo
  have h03 : g ≠ w2.drew.heap.size := jo
  have hg3 : g1 ≤ w2.drew.heap.size := jo
  generalize hg3e : w2.drew.heap.size = g3 at hb3 h13 h23 h03 hg3 ⊢
  have hS : (fun W => Blk W g1 122 #[.pointer (some ⟨g, 0, none⟩)]) w3 := hb1
  refine ⟨hb1, ?_⟩
  refine qQ.cl 1 rfl jK (jE2 zch) (bU g A bs _ _ hl hB hR 4 jo jo) trivial rfl rfl ?_
  rintro e w4 ⟨rfl, hR, hfw4⟩
  have hb1 := hb1.frm hfw4 (by simp; omega)
  have hb2 := hb2.frm hfw4 (by simp; omega)
  try have hb3 := hb3.frm hfw4 (by simp; omega)
  have K := K.trans hfw4 (fun x hx => .inl hx)
  have hS : (fun W => Blk W g1 122 #[.pointer (some ⟨g, 0, none⟩)]) w4 := hb1
  refine ⟨_, rfl, hb1, ?_⟩
  refine qQ.cl 3 rfl jK (jE2 zch) (bU g A bs _ _ hl hB hR 4 jo jo) trivial rfl rfl ?_
  rintro e w5 ⟨rfl, hR, hfw5⟩
  have hb1 := hb1.frm hfw5 (by simp; omega)
  have hb2 := hb2.frm hfw5 (by simp; omega)
  try have hb3 := hb3.frm hfw5 (by simp; omega)
  have K := K.trans hfw5 (fun x hx => .inl hx)
  have hS : (fun W => Blk W g1 122 #[.pointer (some ⟨g, 0, none⟩)]) w5 := hb1
  refine ⟨_, rfl, hb1, ?_⟩
  refine jH 4 rfl hS (fun w0 hw0 => Run.build (evs.cons rfl (evs.cons rfl evs.nil)) cQ (cH).choose_spec.1 (cH).choose_spec.2 rfl) ?_
  have hbo := hb3
  refine qQ.st 6 rfl jK (qH.storeA rfl rfl zq hb3 rfl (cZ _ _ none 0 0)) trivial rfl ?_
  rintro w6 ⟨hbn, (hfw6 : Frm [g3] _ _), hsw6⟩
  have hb3 : Blk w6 g3 43 (BVc (((rN 4 st).1 : Nat) : Int) (((rN 4 (rN 4 st).2).1 : Nat) : Int) none ([] : List Mc).length 0).toArray := hbn
  have hb1 := hb1.frm hfw6 (by simp; omega)
  have hb2 := hb2.frm hfw6 (by simp; omega)
  have hR := hR.off hfw6 (fun y hy => by rw [zc] at hy; subst hy; exact ⟨_, _, hbo, jd, jd⟩)
  have K := K.trans hfw6 (fun y hy => .inr (by rw [zc] at hy; omega))
  have hS : (fun W => Blk W g1 122 #[.pointer (some ⟨g, 0, none⟩)]) w6 := hb1
  refine ⟨hb1, ?_⟩
  refine qQ.done jK ?_
  refine jN ⟨g3, (js3 rfl rfl rfl), ?_⟩
  exact ⟨hb1, hb2, hb3, hR, ⟨h13, h23, h03, hg3⟩, K⟩
 rintro g3 wz ⟨hb1, hb2, hb3, hR, ⟨h13, h23, h03, hg3⟩, K⟩ Γ hΓ
 refine jN (VC.sub _ hΓ (jS (jS (jR (je (Run.loadA rfl zbt zbl (fun j v hj => hb1.cells j v hj) (by first | rfl | (simp; done))) ?_)))))
 refine Ops.cl (jE2 zch) (bU g A bs _ _ hl hB hR 1 jo jo) rfl ?_
 rintro e w7 ⟨rfl, hR, hfw7⟩
 have hb1 := hb1.frm hfw7 (by simp; omega)
 have hb2 := hb2.frm hfw7 (by simp; omega)
 try have hb3 := hb3.frm hfw7 (by simp; omega)
 have K := K.trans hfw7 (fun x hx => .inl hx)
 refine ⟨_, rfl, ?_⟩
 refine jx .i64 0 ?_
 refine jO (jN (jv5 1 2 3 10 11 ?_))
 refine jB ?_
 refine VC.loop (σ := Nat × Option Addr × Nat × List Mc) (fun s => [(1, .pointer (some ⟨g1, 0, none⟩)), (2, .pointer (some ⟨g2, 0, none⟩)), (3, .pointer (some ⟨g3, 0, none⟩)), (10, .int .i64 (((rN 1 (rN 4 (rN 4 st).2).2).1 : Nat) : Int)), (11, .int .i64 ((s.1 : Nat) : Int))]) (fun s wr => s.1 ≤ (rN 1 (rN 4 (rN 4 st).2).2).1 ∧ Blk wr g1 122 #[.pointer (some ⟨g, 0, none⟩)] ∧ Blk wr g2 43 #[.int .i64 0, .int .i64 0, .slice none 0 0] ∧ Blk wr g3 43 (BVc (((rN 4 st).1 : Nat) : Int) (((rN 4 (rN 4 st).2).1 : Nat) : Int) s.2.1 s.2.2.2.length s.2.2.1).toArray ∧ bR wr g A bs (rMany rMsg s.1 (rN 1 (rN 4 (rN 4 st).2).2).2).2 ∧ OwM wr s.2.1 s.2.2.1 s.2.2.2 ∧ Ms s.2.2.2 = (rMany rMsg s.1 (rN 1 (rN 4 (rN 4 st).2).2).2).1 ∧ (∀ b ∈ ob s.2.1, g1 ≤ b) ∧ Frm [g] w wr) (fun s => (rN 1 (rN 4 (rN 4 st).2).2).1 - s.1) (0, none, 0, []) (js5 rfl rfl rfl rfl rfl) ⟨zad _, hb1, hb2, hb3, hR, OwM.nil _, rfl, by simp [ob], K⟩ ?_
 rintro ⟨i, B, d, lm⟩ wr ⟨hi, hb1, hb2, hb3, hR, ho, hms, hob, K⟩
 dsimp only at *
 have hll : lm.length = i := by
  have h := congrArg List.length hms
  rw [zal, eP] at h
  exact h
 have hob3 := ho.own.ne_blk hb3 jd
 have hob2 := ho.own.ne_blk hb2 jd
 have hob1 := ho.own.ne_blk hb1 jd
 refine jS (jR (jb rfl rfl (Bin.lssN _ _) (jO (jN (jS ?_)))))
 refine jD rfl (fun hc1 => ?_) fun hc1 => ?_
 ·
  refine jQ (jN (jv5 1 2 3 10 11 ?_))
  refine jS (jB ?_)
  refine VC.heldL 7 (fun W => Blk W g1 122 #[.pointer (some ⟨g, 0, none⟩)] ∧ Blk W g3 43 (BVc (((rN 4 st).1 : Nat) : Int) (((rN 4 (rN 4 st).2).1 : Nat) : Int) B lm.length d).toArray) jK ?_
  have hb1 := hb1.drawn (qP.drew wr)
  have hb2 := hb2.drawn (qP.drew wr)
  have hR := hR.nil (qP.drew wr).frm
  have K := K.trans (qP.drew wr).frm jp
  have hb3 := hb3.drawn (qP.drew wr)
  have ho := ho.frm (qP.drew wr).frm
  have hS : (fun W => Blk W g1 122 #[.pointer (some ⟨g, 0, none⟩)] ∧ Blk W g3 43 (BVc (((rN 4 st).1 : Nat) : Int) (((rN 4 (rN 4 st).2).1 : Nat) : Int) B lm.length d).toArray) wr.drew := ⟨hb1, hb3⟩
  refine jH 0 rfl hS (fun w0 hw0 => Run.fieldAddr rfl zl rfl zai jd) ?_
  refine jH 1 rfl hS (fun w0 hw0 => Run.load rfl zar (hw0.2.cell 2)) ?_
  refine qQ.r1 2 rfl jK hS (Run.loadA rfl zbt zbl (fun j v hj => hb1.cells j v hj) (by first | rfl | (simp; done))) trivial rfl rfl ?_
  refine qQ.cl 3 rfl jK (jE1 Tryz.call131) (qQ1 g A bs _ _ hl hB hR) trivial rfl rfl ?_
  rintro e w9 ⟨x, rfl, hx, hox, hobx, hR9, hf9⟩
  obtain ⟨csg, hbg⟩ := hR.blk
  have ho := ho.blk hf9 hbg jd jd
  have hkk := K.size
  have hb1 := hb1.frm hf9 (by simp; omega)
  have hb2 := hb2.frm hf9 (by simp; omega)
  have hb3 := hb3.frm hf9 (by simp; omega)
  have K := K.trans hf9 (fun x hx => .inl hx)
  have hS : (fun W => Blk W g1 122 #[.pointer (some ⟨g, 0, none⟩)] ∧ Blk W g3 43 (BVc (((rN 4 st).1 : Nat) : Int) (((rN 4 (rN 4 st).2).1 : Nat) : Int) B lm.length d).toArray) w9 := ⟨hb1, hb3⟩
  refine ⟨_, rfl, ⟨hb1, hb3⟩, ?_⟩
  refine qQ.m 4 rfl jK (qK.buildS1 rfl zy zak dB jd jd rfl rfl) trivial rfl rfl ?_
  rintro _ w10 ⟨rfl, hF10⟩
  have hr10 : Rd w10 6 (some ⟨w9.heap.size, 0, none⟩) 1 (MC [x]) := Rd.of_blk (n := 1) (size := 6) hF10.blk rfl
  have hb1 := hb1.frm hF10.frm jp
  have hb2 := hb2.frm hF10.frm jp
  have hb3 := hb3.frm hF10.frm jp
  have ho := ho.frm hF10.frm
  have hox := hox.frm hF10.frm jp
  have hR10 := hR9.nil hF10.frm
  have K := K.trans hF10.frm jp
  have hk10 := K.size
  have hS : (fun W => Blk W g1 122 #[.pointer (some ⟨g, 0, none⟩)] ∧ Blk W g3 43 (BVc (((rN 4 st).1 : Nat) : Int) (((rN 4 (rN 4 st).2).1 : Nat) : Int) B lm.length d).toArray) w10 := ⟨hb1, hb3⟩
  refine ⟨⟨hb1, hb3⟩, ?_⟩
  refine qQ.m 5 rfl jK (qK.app rfl rfl zy (sC) rfl jd ho.own hr10 (qKk _) jo jo) trivial rfl rfl ?_
  rintro _ w11 ⟨B6, d6, rfl, ho6, hf6, hob6⟩
  rw [← mX] at ho6
  have hfit : x.m.flags.length ≤ 500000 ∧ ∀ q ∈ x.m.flags, q.length ≤ 1000000 := by
   obtain ⟨h1, h2, _⟩ := (Oct.rMsg (hR.oct hB)).2
   rw [← hx] at h1 h2
   exact ⟨jo, fun q hq => by have := h2 q hq; omega⟩
  have hR11 := hR10.offO hf6 ho.own jd jd
  have ho11 := ho.put (by rw [zf]; exact ho6) hf6 hox hfit
  have hb1 := hb1.frm hf6 hob1
  have hb2 := hb2.frm hf6 hob2
  have hb3 := hb3.frm hf6 hob3
  have K := K.trans hf6 (fun y hy => .inr (by have := hob y hy; omega))
  have hob7 : ∀ b ∈ ob B6, g1 ≤ b := fun b hb => by
   rcases hob6 with h | h
   · rw [h] at hb; exact hob b hb
   rw [h, zc] at hb; omega
  have hS : (fun W => Blk W g1 122 #[.pointer (some ⟨g, 0, none⟩)] ∧ Blk W g3 43 (BVc (((rN 4 st).1 : Nat) : Int) (((rN 4 (rN 4 st).2).1 : Nat) : Int) B lm.length d).toArray) w11 := ⟨hb1, hb3⟩
  refine ⟨⟨hb1, hb3⟩, ?_⟩
  refine qQ.r1 6 rfl jK hS (Run.fieldAddr rfl zl rfl zai jd) trivial rfl rfl ?_
  have hbo := hb3
  refine qQ.stL rfl jK (qH.store rfl rfl zai hb3 rfl rfl) trivial rfl ?_
  rintro w12 ⟨hbn, (hf12 : Frm [g3] _ _), hs12⟩
  have hb3 : Blk w12 g3 43 (BVc (((rN 4 st).1 : Nat) : Int) (((rN 4 (rN 4 st).2).1 : Nat) : Int) B6 (lm ++ [x]).length d6).toArray := by rw [zf]; exact hbn
  have hb1 := hb1.frm hf12 (by simp; omega)
  have hb2 := hb2.frm hf12 (by simp; omega)
  have hR := hR11.off hf12 (fun y hy => by rw [zc] at hy; subst hy; exact ⟨_, _, hbo, jd, jd⟩)
  have ho12 := ho11.blk hf12 hbo jd jd
  have K := K.trans hf12 (fun y hy => .inr (by rw [zc] at hy; omega))
  refine qQ.done jK ?_
  refine qW (jN ?_)
  refine jv5 1 2 3 10 11 ?_
  refine jR (jb rfl rfl (Bin.add_i64 _ 1 jo) (jm rfl (jO ?_)))
  refine jN ⟨(i + 1, B6, d6, lm ++ [x]), (js5 rfl rfl rfl rfl rfl), ?_, ?_⟩
  · exact ⟨hc1, hb1, hb2, hb3, hR, ho12, by rw [mF, ← hms, ← hx]; exact zbh, hob7, K⟩
  first | omega | (dsimp only; omega)
 refine jX ?_
 refine qJ (qJ (qR ?_))
 refine jN (jv2 2 3 ?_)
 refine jS (jR (je (Run.loadA rfl zba zq (fun j v hj => hb3.cells j v hj) (by first | rfl | (simp; done))) ?_))
 have hbo := hb2
 refine Ops.st (qH.storeA rfl rfl zq hb2 rfl (cZ _ _ B lm.length d)) ?_
 rintro w13 ⟨hbn, (hf13 : Frm [g2] _ _), hs13⟩
 have hR := hR.off hf13 (fun y hy => by rw [zc] at hy; subst hy; exact ⟨_, _, hbo, jd, jd⟩)
 have ho := ho.blk hf13 hbo jd jd
 have K := K.trans hf13 (fun y hy => .inr (by rw [zc] at hy; omega))
 refine jO (jN (jv1 2 ?_))
 refine jT ?_
 refine bT ?_
 refine qI rfl zba zq (fun j v hj => hbn.cells j v hj) (by first | rfl | (simp; done)) ?_
 refine bZ ?_
 obtain rfl : i = (rN 1 (rN 4 (rN 4 st).2).2).1 := jo
 exact ⟨_, _, B, d, lm, rfl, by rw [hms]; rfl, ho, fun b hb => by have := hob b hb; omega, hR, K⟩
end
section
open Go.RowKit Go.Sort
theorem uV {w : World} {A : Option Addr} {xs : Oc} (h : Rd w 1 A xs.length (NB xs)) (hB : ∀ b ∈ xs, b < 256) : Lib.BytesIn w A xs.length (xs.map fun x : Nat => (x : Int)) := by
 intro hn
 obtain ⟨ad, rfl, hlt, hc⟩ := h.2 hn
 refine Lib.BytesIn.of_cells (fun i hi => ?_) hn
 rw [hc i _ (qQr xs i hi)]
 simp [zck, zd hi]
theorem qZp {xs ys : Oc} (hx : ∀ b ∈ xs, b < 256) (hy : ∀ b ∈ ys, b < 256) : (Lib.bytesOf (xs.map fun x : Nat => (x : Int)) == Lib.bytesOf (ys.map fun x : Nat => (x : Int))) = decide (xs = ys) := by
 have e : ∀ zs : Oc, Lib.bytesOf (zs.map fun x : Nat => (x : Int)) = zs.map UInt8.ofNat := fun zs => by unfold Lib.bytesOf; rw [zce]; rfl
 rw [e, e]
 by_cases h : xs = ys
 · rw [h, decide_eq_true rfl]; simp
 rw [decide_eq_false h, beq_eq_false_iff_ne]
 intro h2
 exact h (by rw [← wV hx, ← wV hy, h2])
theorem uW (A B : Option Addr) (c d : Nat) (xs ys : Oc) (w : World) (hx : ∀ b ∈ xs, b < 256) (hy : ∀ b ∈ ys, b < 256) (h1 : Rd w 1 A xs.length (NB xs)) (h2 : Rd w 1 B ys.length (NB ys)) :
  Calls Tryz.prog 83 #[.slice A xs.length c, .slice B ys.length d] w fun e w' => e = .returned (.bool (decide (xs = ys))) ∧ w' = w := by
 refine Calls.mono (Tryz.bytes_Equal_all A B xs.length c ys.length d (xs.map fun x : Nat => (x : Int)) (ys.map fun x : Nat => (x : Int)) w (zal _) (zal _) (uV h1 hx) (uV h2 hy)) (fun e w' h => ?_)
 rw [qZp hx hy] at h
 exact h
theorem dW {a b : Oc} (ha : ∀ x ∈ a, x < 256) (hb : ∀ x ∈ b, x < 256) : ∀ x ∈ a ++ b, x < 256 := fun x hx => by
 rcases zfb.1 hx with h | h
 · exact ha x h
 exact hb x h
theorem rV {α : Type} {f : α → Oc} {l : List α} (h : ∀ x ∈ l, ∀ b ∈ f x, b < 256) : ∀ b ∈ l.flatMap f, b < 256 := fun b hb => by
 obtain ⟨x, hx, hb⟩ := List.mem_flatMap.1 hb
 exact h x hx b hb
theorem qQ3 (s : Tx) : ∀ b ∈ txL s, b < 256 := dW (cE _ _) (qKy s)
theorem wP (l : List Tx) : ∀ b ∈ kJ l, b < 256 := dW (cE _ _) (rV fun x _ => qQ3 x)
theorem qJv (m : MsgP) : ∀ b ∈ fS m, b < 256 := dW (dW (dW (dW (dW (cE _ _) (cE _ _)) (cE _ _)) (cE _ _)) (cE _ _)) (wP _)
theorem qKl (x : NmP) : ∀ b ∈ nmL x, b < 256 := dW (qQ3 _) (dW (dW (dW (cE _ _) (cE _ _)) (cE _ _)) (rV fun y _ => qJv y))
theorem oG (m : MailP) : ∀ b ∈ bF m, b < 256 := dW (dW (dW (dW (cE _ _) (cE _ _)) (cE _ _)) (rV fun x _ => qKl x)) (wP _)
theorem rY (m : MailP) : ∀ b ∈ dG m, b < 256 := by
 unfold dG
 split
 · exact oG m
 intro b hb; cases hb
def fB (a b : MailP) : Prop := bY a ∧ bY b ∧ dG a = dG b
instance (a b : MailP) : Decidable (fB a b) := by unfold fB; infer_instance
theorem yO (a b : MlC) (w : World) (ha : RdL w a) (hb : RdL w b) (hv : cK w) :
  Calls Tryz.prog 29 #[a.val, b.val] w fun e w' => e = .returned (.bool (decide (fB a.p b.p))) ∧ Frm [] w w' := by
 refine VC.calls (nt := 18) (res := #[.tmp 4]) Tryz.func29 rfl Tryz.ntmps29 Tryz.results29 rfl ?_
 refine jS (jR ?_)
 refine Ops.m (qK.box rfl) rfl ?_
 rintro _ w1 ⟨rfl, hF1⟩
 have hb1 : Blk w1 w.heap.size 25 a.cells.toArray := hF1.blk
 have K := hF1.frm
 generalize hg1 : w.heap.size = g1 at hb1 ⊢
 refine Ops.m (qK.box rfl) rfl ?_
 rintro _ w2 ⟨rfl, hF2⟩
 have hb2 : Blk w2 w1.heap.size 25 b.cells.toArray := hF2.blk
 have hb1 := hb1.frm hF2.frm jp
 have K := K.trans hF2.frm jp
 generalize hg2 : w1.heap.size = g2 at hb2 ⊢
 refine ja rfl (jO (jN (jv2 2 3 ?_)))
 refine jS ?_
 refine VC.meet (σ := Unit) (fun s => [(4, .bool (decide (fB a.p b.p)))]) (fun s wz => Frm [] w2 wz) ?_ ?_
 ·
  refine VC.held (fun W => Frm [] w2 W) jK ?_
  have hS : Frm [] w2 w2.drew := (Frm.refl _ _).drew
  refine jH 0 rfl hS (fun w0 hw0 => Run.loadA rfl zm ze (fun j v hj => (hb1.frm hw0 jp).cells j v hj) (by first | rfl | (simp; done))) ?_
  refine qQ.cl 1 rfl jK (jE1 zea) (dM a _ ((ha.frm K).frm hS) ((hv.frm K).frm hS)) trivial rfl rfl ?_
  rintro e w3 ⟨rfl, hf3⟩
  have hS := hS.trans hf3 jp
  refine ⟨_, rfl, hS, ?_⟩
  by_cases hs6 : bY a.p
  ·
   refine jH 2 rfl hS (fun w0 hw0 => Run.mv rfl) ?_
   refine qQ.take 3 rfl jK jK jK hS (fun w0 hw0 => Run.loadA rfl zm ze (fun j v hj => (hb2.frm hw0 jp).cells j v hj) (by first | rfl | (simp; done))) (Up.g rfl (by first | rfl | exact decide_eq_true hs6 | (simp [hs6]; done))) rfl rfl ?_
   refine qQ.cl 4 rfl jK (jE1 zea) (dM b _ ((hb.frm K).frm hS) ((hv.frm K).frm hS)) (Up.g rfl (by first | rfl | exact decide_eq_true hs6 | (simp [hs6]; done))) rfl rfl ?_
   rintro e w4 ⟨rfl, hf4⟩
   have hS := hS.trans hf4 jp
   refine ⟨_, rfl, hS, ?_⟩
   by_cases hs9 : bY b.p
   ·
    refine jH 5 rfl hS (fun w0 hw0 => Run.pickT rfl rfl (by first | rfl | exact decide_eq_true hs6 | exact decide_eq_true hs9 | (simp [hs6]; done) | (simp [hs9]; done))) ?_
    refine jH 6 rfl hS (fun w0 hw0 => Run.mv rfl) ?_
    refine qQ.take 7 rfl jK jK jK hS (fun w0 hw0 => Run.loadA rfl zm ze (fun j v hj => (hb1.frm hw0 jp).cells j v hj) (by first | rfl | (simp; done))) (Up.g rfl (by first | rfl | exact decide_eq_true hs6 | exact decide_eq_true hs9 | (simp [hs6]; done) | (simp [hs9]; done))) rfl rfl ?_
    refine qQ.take 9 rfl jK jK jK hS (fun w0 hw0 => Run.loadA rfl zm ze (fun j v hj => (hb2.frm hw0 jp).cells j v hj) (by first | rfl | (simp; done))) (Up.g rfl (by first | rfl | exact decide_eq_true hs6 | exact decide_eq_true hs9 | (simp [hs6]; done) | (simp [hs9]; done))) rfl rfl ?_
    refine qQ.cl 8 rfl jK (jE1 Tryz.call43) (fU a _ ((ha.frm K).frm hS) ((hv.frm K).frm hS)) (Up.g rfl (by first | rfl | exact decide_eq_true hs6 | exact decide_eq_true hs9 | (simp [hs6]; done) | (simp [hs9]; done))) rfl rfl ?_
    rintro e w5 ⟨A5, d5, rfl, ho5, hf5⟩
    have hS := hS.trans hf5 jp
    refine ⟨_, rfl, hS, ?_⟩
    refine qQ.cl 10 rfl jK (jE1 Tryz.call43) (fU b _ ((hb.frm K).frm hS) ((hv.frm K).frm hS)) (Up.g rfl (by first | rfl | exact decide_eq_true hs6 | exact decide_eq_true hs9 | (simp [hs6]; done) | (simp [hs9]; done))) rfl rfl ?_
    rintro e w6 ⟨A6, d6, rfl, ho6, hf6⟩
    have hS := hS.trans hf6 jp
    have ho5 := ho5.frm hf6 jp
    refine ⟨_, rfl, hS, ?_⟩
    refine qQ.cl 11 rfl jK (jE2 Tryz.call83) (uW A5 A6 d5 d6 (dG a.p) (dG b.p) _ (rY _) (rY _) ho5.rd ho6.rd) (Up.g rfl (by first | rfl | exact decide_eq_true hs6 | exact decide_eq_true hs9 | (simp [hs6]; done) | (simp [hs9]; done))) rfl rfl ?_
    rintro e _ ⟨rfl, rfl⟩
    refine ⟨_, rfl, hS, ?_⟩
    by_cases hs16 : dG a.p = dG b.p
    ·
     refine jH 12 rfl hS (fun w0 hw0 => Run.pickT rfl rfl (by first | rfl | exact decide_eq_true hs6 | exact decide_eq_true hs9 | exact decide_eq_true hs16 | (simp [hs6]; done) | (simp [hs9]; done) | (simp [hs16]; done))) ?_
     refine jH 13 rfl hS (fun w0 hw0 => Run.asg rfl) ?_
     refine qQ.done jK ?_
     refine jN ⟨(), (js1 (jC (by unfold fB; grind))), ?_⟩
     exact hS
    refine jH 12 rfl hS (fun w0 hw0 => Run.pickT rfl rfl (by first | rfl | exact decide_eq_true hs6 | exact decide_eq_true hs9 | exact decide_eq_false hs16 | (simp [hs6]; done) | (simp [hs9]; done) | (simp [hs16]; done))) ?_
    refine jH 13 rfl hS (fun w0 hw0 => Run.asg rfl) ?_
    refine qQ.done jK ?_
    refine jN ⟨(), (js1 (jC (by unfold fB; grind))), ?_⟩
    exact hS
   refine jH 5 rfl hS (fun w0 hw0 => Run.pickT rfl rfl (by first | rfl | exact decide_eq_true hs6 | exact decide_eq_false hs9 | (simp [hs6]; done) | (simp [hs9]; done))) ?_
   refine jH 6 rfl hS (fun w0 hw0 => Run.mv rfl) ?_
   refine qQ.skip 7 rfl jK jK jK hS rfl rfl (by first | rfl | exact decide_eq_true hs6 | exact decide_eq_false hs9 | (simp [hs6]; done) | (simp [hs9]; done)) rfl rfl ?_
   refine qQ.skip 8 rfl jK jK jK hS rfl rfl (by first | rfl | exact decide_eq_true hs6 | exact decide_eq_false hs9 | (simp [hs6]; done) | (simp [hs9]; done)) rfl rfl ?_
   refine qQ.skip 9 rfl jK jK jK hS rfl rfl (by first | rfl | exact decide_eq_true hs6 | exact decide_eq_false hs9 | (simp [hs6]; done) | (simp [hs9]; done)) rfl rfl ?_
   refine qQ.skip 10 rfl jK jK jK hS rfl rfl (by first | rfl | exact decide_eq_true hs6 | exact decide_eq_false hs9 | (simp [hs6]; done) | (simp [hs9]; done)) rfl rfl ?_
   refine qQ.skip 11 rfl jK jK jK hS rfl rfl (by first | rfl | exact decide_eq_true hs6 | exact decide_eq_false hs9 | (simp [hs6]; done) | (simp [hs9]; done)) rfl rfl ?_
   refine jH 12 rfl hS (fun w0 hw0 => Run.pickF rfl rfl (by first | rfl | exact decide_eq_true hs6 | exact decide_eq_false hs9 | (simp [hs6]; done) | (simp [hs9]; done))) ?_
   refine jH 13 rfl hS (fun w0 hw0 => Run.asg rfl) ?_
   refine qQ.done jK ?_
   refine jN ⟨(), (js1 (jC (by unfold fB; grind))), ?_⟩
   exact hS
  refine jH 2 rfl hS (fun w0 hw0 => Run.mv rfl) ?_
  refine qQ.skip 3 rfl jK jK jK hS rfl rfl (by first | rfl | exact decide_eq_false hs6 | (simp [hs6]; done)) rfl rfl ?_
  refine qQ.skip 4 rfl jK jK jK hS rfl rfl (by first | rfl | exact decide_eq_false hs6 | (simp [hs6]; done)) rfl rfl ?_
  refine jH 5 rfl hS (fun w0 hw0 => Run.pickF rfl rfl (by first | rfl | exact decide_eq_false hs6 | (simp [hs6]; done))) ?_
  refine jH 6 rfl hS (fun w0 hw0 => Run.mv rfl) ?_
  refine qQ.skip 7 rfl jK jK jK hS rfl rfl (by first | rfl | exact decide_eq_false hs6 | (simp [hs6]; done)) rfl rfl ?_
  refine qQ.skip 8 rfl jK jK jK hS rfl rfl (by first | rfl | exact decide_eq_false hs6 | (simp [hs6]; done)) rfl rfl ?_
  refine qQ.skip 9 rfl jK jK jK hS rfl rfl (by first | rfl | exact decide_eq_false hs6 | (simp [hs6]; done)) rfl rfl ?_
  refine qQ.skip 10 rfl jK jK jK hS rfl rfl (by first | rfl | exact decide_eq_false hs6 | (simp [hs6]; done)) rfl rfl ?_
  refine qQ.skip 11 rfl jK jK jK hS rfl rfl (by first | rfl | exact decide_eq_false hs6 | (simp [hs6]; done)) rfl rfl ?_
  refine jH 12 rfl hS (fun w0 hw0 => Run.pickF rfl rfl (by first | rfl | exact decide_eq_false hs6 | (simp [hs6]; done))) ?_
  refine jH 13 rfl hS (fun w0 hw0 => Run.asg rfl) ?_
  refine qQ.done jK ?_
  refine jN ⟨(), (js1 (jC (by unfold fB; grind))), ?_⟩
  exact hS
 rintro _ wz hfz Γ hΓ
 have K := K.trans hfz jp
 refine jN (VC.sub _ hΓ ?_)
 refine jT ?_
 refine qN rfl ?_
 exact ⟨rfl, K⟩
theorem uY {m : MailP} {bs : Oc} (h : ¬ bY m) : true = decide (¬ (bY m ∧ bF m = bs)) := by
 rw [eq_comm, decide_eq_true_iff]
 exact fun h2 => h h2.1
theorem uG {m : MailP} {bs : Oc} (h1 : bY m) : (!decide (dG m = bs)) = decide (¬ (bY m ∧ bF m = bs)) := by
 rw [show dG m = bF m from if_pos h1]
 by_cases h : bF m = bs
 ·
  rw [decide_eq_true h, eq_comm]
  exact decide_eq_false_iff_not.2 (fun h2 => h2 ⟨h1, h⟩)
 rw [decide_eq_false h, eq_comm]
 exact decide_eq_true_iff.2 (fun h2 => h h2.2)
structure OwD (w : World) (m : MlC) : Prop where
 l : Own w 45 4 m.A m.l.length m.c (NDC m.l)
 el : ∀ x ∈ m.l, OwM w x.A x.c x.l ∧ x.l.length ≤ 900000 ∧ x.nm.length ≤ 1000000
 s : Own w 9 1 m.S m.ss.length m.d (SB m.ss)
 ln : m.l.length ≤ 1000000
 sn : m.ss.length ≤ 1000000
 sq : ∀ q ∈ m.ss, q.length ≤ 1000000
theorem OwD.frm {w w' : World} {m : MlC} (h : OwD w m) (k : Frm [] w w') : OwD w' m := ⟨h.l.frm k jp, fun x hx => ⟨(h.el x hx).1.frm k, (h.el x hx).2⟩, h.s.frm k jp, h.ln, h.sn, h.sq⟩
theorem OwD.rdl {w : World} {m : MlC} (h : OwD w m) : RdL w m := ⟨⟨h.l.rd, fun x hx => ⟨(h.el x hx).1.rdm, (h.el x hx).2.1, (h.el x hx).2.2⟩⟩, h.s.rd, h.l.le, h.s.le, h.ln, h.sn, h.sq⟩
theorem OwD.blk {w w' : World} {m : MlC} {g : Nat} {t : TypeId} {cs : Array Value} (h : OwD w m) (k : Frm [g] w w') (hb : Blk w g t cs) (h0 : 45 ≠ t) (h1 : 60 ≠ t) (h2 : 9 ≠ t) : OwD w' m :=
 ⟨h.l.frm k (fun y hy h' => by rw [zc] at h'; subst h'; exact h.l.ne_blk hb h0 hy), fun x hx => ⟨(h.el x hx).1.blk k hb h1 h2, (h.el x hx).2⟩, h.s.frm k (fun y hy h' => by rw [zc] at h'; subst h'; exact h.s.ne_blk hb h2 hy), h.ln, h.sn, h.sq⟩
theorem gY {w w' : World} {g : Nat} {t : TypeId} {cs : Array Value} {l : List Nc} (h : ∀ x ∈ l, OwM w x.A x.c x.l) (k : Frm [g] w w') (hb : Blk w g t cs) (h1 : 60 ≠ t) (h2 : 9 ≠ t) : ∀ x ∈ l, OwM w' x.A x.c x.l := fun x hx => (h x hx).blk k hb h1 h2
theorem Own.one {w w' : World} {e size n d g : Nat} {A : Option Addr} {xs : List Value} {t : TypeId} {cs : Array Value} (h : Own w e size A n d xs) (k : Frm [g] w w') (hb : Blk w g t cs) (h1 : e ≠ t) : Own w' e size A n d xs := h.frm k (fun y hy h2 => by rw [zc] at h2; subst h2; exact h.ne_blk hb h1 hy)
set_option maxHeartbeats 2000000 in
theorem mI (A : Option Addr) (c n : Nat) (bs : Oc) (w : World) (hn : bs.length = n) (hl : bs.length ≤ 2000000) (hB : ∀ b ∈ bs, b < 256) (hr : Rd w 1 A n (NB bs)) (hv : cK w) :
  Calls Tryz.prog 41 #[.slice A n c] w fun e w' => ∃ (m' : MlC) (k : Nat), e = .returned (.tuple #[m'.val, .int .i64 ((k : Nat) : Int)]) ∧ mG w' (mT bs) m' k ∧ Frm [] w w' := by
 subst hn
 have hO : Oct (some bs) := fun r hr => by cases hr; exact hB
 have hv3 := zbf (((hO.rN 4).1.rN 4).1.rN 1).2 (show 256 ^ 1 ≤ 256 by decide)
 have hsm := qZo hB
 refine VC.calls (nt := 46) (res := #[.cell 2 25, .tmp 3]) Tryz.func41 rfl Tryz.ntmps41 Tryz.results41 rfl ?_
 refine jS (jR ?_)
 refine Ops.m (qK.alloc bK) rfl ?_
 rintro _ w1 ⟨rfl, hF1⟩
 have hb2 := hF1.blk
 have K := hF1.frm
 have hk2 : w.heap.size ≤ w.heap.size := zac _
 have hl2 := hb2.lt
 generalize hg2e : w.heap.size = g2 at hb2 hk2 hl2 ⊢
 refine jz 0 (jO (jN (jv2 0 2 ?_)))
 refine jS (jR (jM ?_))
 refine Ops.cl (jE1 Tryz.call90) (vG A c bs.length bs _ rfl jo (hr.frm K jp)) rfl ?_
 rintro e w2 ⟨g, C, rfl, hR, hf2, hfr⟩
 have hgl := hfr g jp
 have hb2 := hb2.frm hf2 jp
 have hlr := hR.lt
 have hks := K.size
 have h02 : g ≠ g2 := jo
 have hgw : w.heap.size ≤ g := jo
 have K := K.trans hf2 jp
 refine ⟨_, rfl, ?_⟩
 refine je (Run.build (evs.cons rfl evs.nil) vS (rM).choose_spec.1 (rM).choose_spec.2 rfl) ?_
 refine Ops.m (qK.alloc vS) rfl ?_
 rintro _ w3 ⟨rfl, hF3⟩
 have hb4 := hF3.blk
 have hlb2 := hb2.lt
 have hlb0 := hR.lt
 have hk4 := K.size
 have hb2 := hb2.frm hF3.frm jp
 have hR := hR.nil hF3.frm
 have K := K.trans hF3.frm jp
 have h24 : g2 ≠ w2.heap.size := jo
 have h04 : g ≠ w2.heap.size := jo
 generalize hg4e : w2.heap.size = g4 at hb4 h24 h04 hk4 ⊢
 have hbo := hb4
 refine Ops.st (qH.storeA rfl rfl zbl hb4 rfl (fun u hu => by change u ∈ [Value.pointer (some ⟨g, 0, none⟩)] at hu; rw [zc] at hu; rw [hu]; rfl)) ?_
 rintro w4 ⟨hbn, (hf4 : Frm [g4] _ _), hs4⟩
 have hb4 : Blk w4 g4 122 #[.pointer (some ⟨g, 0, none⟩)] := hbn
 have hb2 := hb2.frm hf4 (by simp; omega)
 have hR := hR.off hf4 (fun y hy => by rw [zc] at hy; subst hy; exact ⟨_, _, hbo, jd, jd⟩)
 have K := K.own hf4 (fun y hy => by rw [zc] at hy; omega)
 refine jO (jN (jv3 0 2 4 ?_))
 refine jS ?_
 refine VC.meet (σ := Nat) (fun s => [(0, .slice A bs.length c), (2, .pointer (some ⟨g2, 0, none⟩)), (4, .pointer (some ⟨g4, 0, none⟩)), (5, .pointer (some ⟨s, 0, none⟩))]) (fun s wz => Blk wz g2 25 qD.cells.toArray ∧ Blk wz g4 122 #[.pointer (some ⟨g, 0, none⟩)] ∧ Blk wz s 25 #[.slice none ([] : List Nc).length 0, .slice none ([] : List Tx).length 0, .int .i64 (((rN 4 (some bs)).1 : Nat) : Int), .int .i64 (((rN 4 (rN 4 (some bs)).2).1 : Nat) : Int)] ∧ bR wz g C bs (rN 4 (rN 4 (some bs)).2).2 ∧ (g2 ≠ s ∧ g4 ≠ s ∧ g ≠ s ∧ w.heap.size ≤ s) ∧ Frm [] w wz) ?_ ?_
 ·
  refine VC.held (fun W => Blk W g4 122 #[.pointer (some ⟨g, 0, none⟩)]) jK ?_
  have hb2 := hb2.drawn (qP.drew w4)
  have hb4 := hb4.drawn (qP.drew w4)
  have hR := hR.nil (qP.drew w4).frm
  have K := K.trans (qP.drew w4).frm jp
  have hS : (fun W => Blk W g4 122 #[.pointer (some ⟨g, 0, none⟩)]) w4.drew := hb4
  refine jH 0 rfl hS (fun w0 hw0 => Run.loadA rfl zbt zbl (fun j v hj => hw0.cells j v hj) (by first | rfl | (simp; done))) ?_
  refine jH 2 rfl hS (fun w0 hw0 => Run.loadA rfl zbt zbl (fun j v hj => hw0.cells j v hj) (by first | rfl | (simp; done))) ?_
  refine qQ.or2 1 5 jK ?_ ?_
  ·
   refine cW.cl rfl (jE2 zch) (bU g C bs _ _ hl hB hR 4 jo jo) trivial rfl rfl ?_
   rintro e w5 ⟨rfl, hR, hfw5⟩
   have hkk := K.size
   have hb2 := hb2.frm hfw5 (by simp; omega)
   have hb4 := hb4.frm hfw5 (by simp; omega)
   try have hb5 := hb5.frm hfw5 (by simp; omega)
   have K := K.own hfw5 (fun y hy => by rw [zc] at hy; omega)
   have hS : (fun W => Blk W g4 122 #[.pointer (some ⟨g, 0, none⟩)]) w5 := hb4
   refine ⟨_, rfl, hb4, ?_⟩
   refine qQ.or2 3 5 jK ?_ ?_
   ·
    refine cW.cl rfl (jE2 zch) (bU g C bs _ _ hl hB hR 4 jo jo) trivial rfl rfl ?_
    rintro e w6 ⟨rfl, hR, hfw6⟩
    have hkk := K.size
    have hb2 := hb2.frm hfw6 (by simp; omega)
    have hb4 := hb4.frm hfw6 (by simp; omega)
    try have hb5 := hb5.frm hfw6 (by simp; omega)
    have K := K.own hfw6 (fun y hy => by rw [zc] at hy; omega)
    have hS : (fun W => Blk W g4 122 #[.pointer (some ⟨g, 0, none⟩)]) w6 := hb4
    refine ⟨_, rfl, hb4, ?_⟩
    refine jH 4 rfl hS (fun w0 hw0 => Run.build (evs.cons rfl (evs.cons rfl evs.nil)) bK (qC).choose_spec.1 (qC).choose_spec.2 rfl) ?_
    refine qQ.m 5 rfl jK (qK.alloc bK) trivial rfl rfl ?_
    rintro _ w7 ⟨rfl, hFw7⟩
    have hb5 := hFw7.blk
    have hlb2 := hb2.lt
    have hlb4 := hb4.lt
    have hlb0 := hR.lt
    have hk5 := K.size
    have hb2 := hb2.frm hFw7.frm jp
    have hb4 := hb4.frm hFw7.frm jp
    have hR := hR.nil hFw7.frm
    have K := K.trans hFw7.frm jp
    have h25 : g2 ≠ w6.heap.size := jo
    have h45 : g4 ≠ w6.heap.size := jo
    have h05 : g ≠ w6.heap.size := jo
    generalize hg5e : w6.heap.size = g5 at hb5 h25 h45 h05 hk5 ⊢
    have hS : (fun W => Blk W g4 122 #[.pointer (some ⟨g, 0, none⟩)]) w7 := hb4
    refine ⟨hb4, ?_⟩
    have hbo := hb5
    refine qQ.st 6 rfl jK (qH.storeA rfl rfl ze hb5 rfl (MlC.cells_one ⟨none, 0, [], none, 0, [], (((rN 4 (some bs)).1 : Nat) : Int), (((rN 4 (rN 4 (some bs)).2).1 : Nat) : Int)⟩)) trivial rfl ?_
    rintro w8 ⟨hbn, (hfw8 : Frm [g5] _ _), hsw8⟩
    have hb5 : Blk w8 g5 25 #[.slice none ([] : List Nc).length 0, .slice none ([] : List Tx).length 0, .int .i64 (((rN 4 (some bs)).1 : Nat) : Int), .int .i64 (((rN 4 (rN 4 (some bs)).2).1 : Nat) : Int)] := hbn
    have hb2 := hb2.frm hfw8 (by simp; omega)
    have hb4 := hb4.frm hfw8 (by simp; omega)
    have hR := hR.off hfw8 (fun y hy => by rw [zc] at hy; subst hy; exact ⟨_, _, hbo, jd, jd⟩)
    have K := K.own hfw8 (fun y hy => by rw [zc] at hy; omega)
    have hS : (fun W => Blk W g4 122 #[.pointer (some ⟨g, 0, none⟩)]) w8 := hb4
    refine ⟨hb4, ?_⟩
    refine qQ.done jK ?_
    refine jN ⟨g5, (js4 rfl rfl rfl rfl), ?_⟩
    exact ⟨hb2, hb4, hb5, hR, ⟨h25, h45, h05, hk5⟩, K⟩
   refine cW.m rfl (qK.alloc bK) trivial rfl rfl ?_
   rintro _ w6 ⟨rfl, hFw6⟩
   have hb5 := hFw6.blk
   have hlb2 := hb2.lt
   have hlb4 := hb4.lt
   have hlb0 := hR.lt
   have hk5 := K.size
   have hb2 := hb2.frm hFw6.frm jp
   have hb4 := hb4.frm hFw6.frm jp
   have hR := hR.nil hFw6.frm
   have K := K.trans hFw6.frm jp
   have h25 : g2 ≠ w5.heap.size := jo
   have h45 : g4 ≠ w5.heap.size := jo
   have h05 : g ≠ w5.heap.size := jo
   generalize hg5e : w5.heap.size = g5 at hb5 h25 h45 h05 hk5 ⊢
   have hS : (fun W => Blk W g4 122 #[.pointer (some ⟨g, 0, none⟩)]) w6 := hb4
   refine ⟨hb4, ?_⟩
   refine qQ.cl 3 rfl jK (jE2 zch) (bU g C bs _ _ hl hB hR 4 jo jo) trivial rfl rfl ?_
   rintro e w7 ⟨rfl, hR, hfw7⟩
   have hkk := K.size
   have hb2 := hb2.frm hfw7 (by simp; omega)
   have hb4 := hb4.frm hfw7 (by simp; omega)
   try have hb5 := hb5.frm hfw7 (by simp; omega)
   have K := K.own hfw7 (fun y hy => by rw [zc] at hy; omega)
   have hS : (fun W => Blk W g4 122 #[.pointer (some ⟨g, 0, none⟩)]) w7 := hb4
   refine ⟨_, rfl, hb4, ?_⟩
   refine jH 4 rfl hS (fun w0 hw0 => Run.build (evs.cons rfl (evs.cons rfl evs.nil)) bK (qC).choose_spec.1 (qC).choose_spec.2 rfl) ?_
   have hbo := hb5
   refine qQ.st 6 rfl jK (qH.storeA rfl rfl ze hb5 rfl (MlC.cells_one ⟨none, 0, [], none, 0, [], (((rN 4 (some bs)).1 : Nat) : Int), (((rN 4 (rN 4 (some bs)).2).1 : Nat) : Int)⟩)) trivial rfl ?_
   rintro w8 ⟨hbn, (hfw8 : Frm [g5] _ _), hsw8⟩
   have hb5 : Blk w8 g5 25 #[.slice none ([] : List Nc).length 0, .slice none ([] : List Tx).length 0, .int .i64 (((rN 4 (some bs)).1 : Nat) : Int), .int .i64 (((rN 4 (rN 4 (some bs)).2).1 : Nat) : Int)] := hbn
   have hb2 := hb2.frm hfw8 (by simp; omega)
   have hb4 := hb4.frm hfw8 (by simp; omega)
   have hR := hR.off hfw8 (fun y hy => by rw [zc] at hy; subst hy; exact ⟨_, _, hbo, jd, jd⟩)
   have K := K.own hfw8 (fun y hy => by rw [zc] at hy; omega)
   have hS : (fun W => Blk W g4 122 #[.pointer (some ⟨g, 0, none⟩)]) w8 := hb4
   refine ⟨hb4, ?_⟩
   refine qQ.done jK ?_
   refine jN ⟨g5, (js4 rfl rfl rfl rfl), ?_⟩
   exact ⟨hb2, hb4, hb5, hR, ⟨h25, h45, h05, hk5⟩, K⟩
  refine cW.m rfl (qK.alloc bK) trivial rfl rfl ?_
  rintro _ w5 ⟨rfl, hFw5⟩
  have hb5 := hFw5.blk
  have hlb2 := hb2.lt
  have hlb4 := hb4.lt
  have hlb0 := hR.lt
  have hk5 := K.size
  have hb2 := hb2.frm hFw5.frm jp
  have hb4 := hb4.frm hFw5.frm jp
  have hR := hR.nil hFw5.frm
  have K := K.trans hFw5.frm jp
  have h25 : g2 ≠ w4.drew.heap.size := jo
  have h45 : g4 ≠ w4.drew.heap.size := jo
  have h05 : g ≠ w4.drew.heap.size := jo
  generalize hg5e : w4.drew.heap.size = g5 at hb5 h25 h45 h05 hk5 ⊢
  have hS : (fun W => Blk W g4 122 #[.pointer (some ⟨g, 0, none⟩)]) w5 := hb4
  refine ⟨hb4, ?_⟩
  refine qQ.cl 1 rfl jK (jE2 zch) (bU g C bs _ _ hl hB hR 4 jo jo) trivial rfl rfl ?_
  rintro e w6 ⟨rfl, hR, hfw6⟩
  have hkk := K.size
  have hb2 := hb2.frm hfw6 (by simp; omega)
  have hb4 := hb4.frm hfw6 (by simp; omega)
  try have hb5 := hb5.frm hfw6 (by simp; omega)
  have K := K.own hfw6 (fun y hy => by rw [zc] at hy; omega)
  have hS : (fun W => Blk W g4 122 #[.pointer (some ⟨g, 0, none⟩)]) w6 := hb4
  refine ⟨_, rfl, hb4, ?_⟩
  refine qQ.cl 3 rfl jK (jE2 zch) (bU g C bs _ _ hl hB hR 4 jo jo) trivial rfl rfl ?_
  rintro e w7 ⟨rfl, hR, hfw7⟩
  have hkk := K.size
  have hb2 := hb2.frm hfw7 (by simp; omega)
  have hb4 := hb4.frm hfw7 (by simp; omega)
  try have hb5 := hb5.frm hfw7 (by simp; omega)
  have K := K.own hfw7 (fun y hy => by rw [zc] at hy; omega)
  have hS : (fun W => Blk W g4 122 #[.pointer (some ⟨g, 0, none⟩)]) w7 := hb4
  refine ⟨_, rfl, hb4, ?_⟩
  refine jH 4 rfl hS (fun w0 hw0 => Run.build (evs.cons rfl (evs.cons rfl evs.nil)) bK (qC).choose_spec.1 (qC).choose_spec.2 rfl) ?_
  have hbo := hb5
  refine qQ.st 6 rfl jK (qH.storeA rfl rfl ze hb5 rfl (MlC.cells_one ⟨none, 0, [], none, 0, [], (((rN 4 (some bs)).1 : Nat) : Int), (((rN 4 (rN 4 (some bs)).2).1 : Nat) : Int)⟩)) trivial rfl ?_
  rintro w8 ⟨hbn, (hfw8 : Frm [g5] _ _), hsw8⟩
  have hb5 : Blk w8 g5 25 #[.slice none ([] : List Nc).length 0, .slice none ([] : List Tx).length 0, .int .i64 (((rN 4 (some bs)).1 : Nat) : Int), .int .i64 (((rN 4 (rN 4 (some bs)).2).1 : Nat) : Int)] := hbn
  have hb2 := hb2.frm hfw8 (by simp; omega)
  have hb4 := hb4.frm hfw8 (by simp; omega)
  have hR := hR.off hfw8 (fun y hy => by rw [zc] at hy; subst hy; exact ⟨_, _, hbo, jd, jd⟩)
  have K := K.own hfw8 (fun y hy => by rw [zc] at hy; omega)
  have hS : (fun W => Blk W g4 122 #[.pointer (some ⟨g, 0, none⟩)]) w8 := hb4
  refine ⟨hb4, ?_⟩
  refine qQ.done jK ?_
  refine jN ⟨g5, (js4 rfl rfl rfl rfl), ?_⟩
  exact ⟨hb2, hb4, hb5, hR, ⟨h25, h45, h05, hk5⟩, K⟩
 rintro g5 wz ⟨hb2, hb4, hb5, hR, ⟨h25, h45, h05, hk5⟩, K⟩ Γ hΓ
 refine jN (VC.sub _ hΓ (jS (jS (jR (je (Run.loadA rfl zbt zbl (fun j v hj => hb4.cells j v hj) (by first | rfl | (simp; done))) ?_)))))
 refine Ops.cl (jE2 zch) (bU g C bs _ _ hl hB hR 1 jo jo) rfl ?_
 rintro e w9 ⟨rfl, hR, hfw9⟩
 have hkk := K.size
 have hb2 := hb2.frm hfw9 (by simp; omega)
 have hb4 := hb4.frm hfw9 (by simp; omega)
 try have hb5 := hb5.frm hfw9 (by simp; omega)
 have K := K.own hfw9 (fun y hy => by rw [zc] at hy; omega)
 refine ⟨_, rfl, ?_⟩
 refine jx .i64 0 ?_
 refine jO (jN (jv6 0 2 4 5 16 17 ?_))
 refine jB ?_
 refine VC.loop (σ := Nat × Option Addr × Nat × List Nc) (fun s => [(0, .slice A bs.length c), (2, .pointer (some ⟨g2, 0, none⟩)), (4, .pointer (some ⟨g4, 0, none⟩)), (5, .pointer (some ⟨g5, 0, none⟩)), (16, .int .i64 (((rN 1 (rN 4 (rN 4 (some bs)).2).2).1 : Nat) : Int)), (17, .int .i64 ((s.1 : Nat) : Int))]) (fun s wr => s.1 ≤ (rN 1 (rN 4 (rN 4 (some bs)).2).2).1 ∧ Blk wr g2 25 qD.cells.toArray ∧ Blk wr g4 122 #[.pointer (some ⟨g, 0, none⟩)] ∧ Blk wr g5 25 #[.slice s.2.1 s.2.2.2.length s.2.2.1, .slice none ([] : List Tx).length 0, .int .i64 (((rN 4 (some bs)).1 : Nat) : Int), .int .i64 (((rN 4 (rN 4 (some bs)).2).1 : Nat) : Int)] ∧ (bR wr g C bs ((rMany rNm s.1 (rN 1 (rN 4 (rN 4 (some bs)).2).2).2).2) ∧ Own wr 45 4 s.2.1 s.2.2.2.length s.2.2.1 (NDC s.2.2.2) ∧ (∀ x ∈ s.2.2.2, OwM wr x.A x.c x.l) ∧ (∀ b ∈ ob s.2.1, w.heap.size ≤ b)) ∧ Ns s.2.2.2 = (rMany rNm s.1 (rN 1 (rN 4 (rN 4 (some bs)).2).2).2).1 ∧ Frm [] w wr) (fun s => (rN 1 (rN 4 (rN 4 (some bs)).2).2).1 - s.1) (0, none, 0, []) (js6 rfl rfl rfl rfl rfl rfl) ⟨zad _, hb2, hb4, hb5, ⟨hR, Own.nil _ _ _, jp, by simp [ob]⟩, rfl, K⟩ ?_
 rintro ⟨i, B, d, l⟩ wr ⟨hi, hb2, hb4, hb5, ⟨hR, ho, hel, hob⟩, hns, K⟩
 dsimp only at *
 have hll : l.length = i := by
  have h := congrArg List.length hns
  rw [zal, eP] at h
  exact h
 refine jS (jR (jb rfl rfl (Bin.lssN _ _) (jO (jN (jS ?_)))))
 refine jD rfl (fun hc1 => ?_) fun hc1 => ?_
 ·
  refine jQ (jN (jv6 0 2 4 5 16 17 ?_))
  refine jS (jB (jS (jR (je (Run.loadA rfl zbt zbl (fun j v hj => hb4.cells j v hj) (by first | rfl | (simp; done))) ?_))))
  refine Ops.cl (jE1 Tryz.call92) (pS g C bs _ _ hl hB hR) rfl ?_
  rintro e w10 ⟨rfl, hR2, hf10⟩
  obtain ⟨csg, hbg⟩ := hR.blk
  have hkk := K.size
  have hb2 := hb2.frm hf10 (by simp; omega)
  have hb4 := hb4.frm hf10 (by simp; omega)
  have hb5 := hb5.frm hf10 (by simp; omega)
  have ho := ho.one hf10 hbg jd
  have hel := gY hel hf10 hbg jd jd
  have K := K.own hf10 (fun y hy => by rw [zc] at hy; omega)
  refine ⟨_, rfl, ?_⟩
  refine ja rfl (jO (jN (jv7 0 2 4 5 6 16 17 ?_)))
  refine VC.heldL 9 (fun W => Blk W g4 122 #[.pointer (some ⟨g, 0, none⟩)] ∧ Blk W g5 25 #[.slice B l.length d, .slice none ([] : List Tx).length 0, .int .i64 (((rN 4 (some bs)).1 : Nat) : Int), .int .i64 (((rN 4 (rN 4 (some bs)).2).1 : Nat) : Int)]) jK ?_
  have hb2 := hb2.drawn (qP.drew w10)
  have hb4 := hb4.drawn (qP.drew w10)
  have hR := hR2.nil (qP.drew w10).frm
  have K := K.trans (qP.drew w10).frm jp
  have hb5 := hb5.drawn (qP.drew w10)
  have ho := ho.frm (qP.drew w10).frm jp
  have hel := fun x hx => (hel x hx).frm (qP.drew w10).frm
  have hob2 := ho.ne_blk hb2 jd
  have hob4 := ho.ne_blk hb4 jd
  have hob5 := ho.ne_blk hb5 jd
  have hS : (fun W => Blk W g4 122 #[.pointer (some ⟨g, 0, none⟩)] ∧ Blk W g5 25 #[.slice B l.length d, .slice none ([] : List Tx).length 0, .int .i64 (((rN 4 (some bs)).1 : Nat) : Int), .int .i64 (((rN 4 (rN 4 (some bs)).2).1 : Nat) : Int)]) w10.drew := ⟨hb4, hb5⟩
  refine jH 0 rfl hS (fun w0 hw0 => Run.fieldAddr rfl zh rfl zae jd) ?_
  refine jH 1 rfl hS (fun w0 hw0 => Run.load rfl zap (hw0.2.cell 0)) ?_
  refine jH 2 rfl hS (fun w0 hw0 => Run.mv rfl) ?_
  refine qQ.r1 3 rfl jK hS (Run.loadA rfl zbt zbl (fun j v hj => hb4.cells j v hj) (by first | rfl | (simp; done))) trivial rfl rfl ?_
  refine qQ.cl 4 rfl jK (jE1 Tryz.call93) (qQ2 g C bs _ _ hl hB hR) trivial rfl rfl ?_
  rintro e w11 ⟨v, nn, BB, dd, lm, rfl, hbx, hom, hobm, hR3, hf11⟩
  obtain ⟨csg, hbg⟩ := hR.blk
  have hkk := K.size
  have hb2 := hb2.frm hf11 (by simp; omega)
  have hb4 := hb4.frm hf11 (by simp; omega)
  have hb5 := hb5.frm hf11 (by simp; omega)
  have ho := ho.one hf11 hbg jd
  have hel := gY hel hf11 hbg jd jd
  have K := K.own hf11 (fun y hy => by rw [zc] at hy; omega)
  have hS : (fun W => Blk W g4 122 #[.pointer (some ⟨g, 0, none⟩)] ∧ Blk W g5 25 #[.slice B l.length d, .slice none ([] : List Tx).length 0, .int .i64 (((rN 4 (some bs)).1 : Nat) : Int), .int .i64 (((rN 4 (rN 4 (some bs)).2).1 : Nat) : Int)]) w11 := ⟨hb4, hb5⟩
  refine ⟨_, rfl, ⟨hb4, hb5⟩, ?_⟩
  refine qQ.r1 5 rfl jK hS (Run.build (evs.cons rfl (evs.cons rfl evs.nil)) cS (eM).choose_spec.1 (eM).choose_spec.2 rfl) trivial rfl rfl ?_
  refine qQ.m 6 rfl jK (qK.buildS1 rfl zi zu cS jd jd rfl rfl) trivial rfl rfl ?_
  rintro _ w12 ⟨rfl, hF12⟩
  have hr12 : Rd w12 4 (some ⟨w11.heap.size, 0, none⟩) 1 (NDC [⟨(rT (rMany rNm i (rN 1 (rN 4 (rN 4 (some bs)).2).2).2).2).1, v, nn, BB, dd, lm⟩]) := sN (x := ⟨(rT (rMany rNm i (rN 1 (rN 4 (rN 4 (some bs)).2).2).2).2).1, v, nn, BB, dd, lm⟩) hF12
  have hb2 := hb2.frm hF12.frm jp
  have hb4 := hb4.frm hF12.frm jp
  have hb5 := hb5.frm hF12.frm jp
  have ho := ho.frm hF12.frm jp
  have hel := fun x hx => (hel x hx).frm hF12.frm
  have hom := hom.frm hF12.frm
  have hR4 := hR3.nil hF12.frm
  have hk12 := K.size
  have K := K.trans hF12.frm jp
  have hS : (fun W => Blk W g4 122 #[.pointer (some ⟨g, 0, none⟩)] ∧ Blk W g5 25 #[.slice B l.length d, .slice none ([] : List Tx).length 0, .int .i64 (((rN 4 (some bs)).1 : Nat) : Int), .int .i64 (((rN 4 (rN 4 (some bs)).2).1 : Nat) : Int)]) w12 := ⟨hb4, hb5⟩
  refine ⟨⟨hb4, hb5⟩, ?_⟩
  refine qQ.m 7 rfl jK (qK.app rfl rfl zi (gA) rfl jd ho hr12 (fW _) jo jo) trivial rfl rfl ?_
  rintro _ w13 ⟨B6, d6, rfl, ho6, hf6, hob6⟩
  rw [← dZ] at ho6
  have hel6 : ∀ y ∈ l ++ [⟨(rT (rMany rNm i (rN 1 (rN 4 (rN 4 (some bs)).2).2).2).2).1, v, nn, BB, dd, lm⟩], OwM w13 y.A y.c y.l := fun y hy => by
   rcases zfb.1 hy with h | h
   · exact (hel y h).offO hf6 ho jd jd
   rw [zc] at h
   subst h
   exact hom.offO hf6 ho jd jd
  have hR5 := hR4.offO hf6 ho jd jd
  have hb2 := hb2.frm hf6 hob2
  have hb4 := hb4.frm hf6 hob4
  have hb5 := hb5.frm hf6 hob5
  have hk13 := K.size
  have K := K.own hf6 hob
  have hob7 : ∀ b ∈ ob B6, w.heap.size ≤ b := fun b hb => by
   rcases hob6 with h | h
   · rw [h] at hb; exact hob b hb
   rw [h, zc] at hb; omega
  have hS : (fun W => Blk W g4 122 #[.pointer (some ⟨g, 0, none⟩)] ∧ Blk W g5 25 #[.slice B l.length d, .slice none ([] : List Tx).length 0, .int .i64 (((rN 4 (some bs)).1 : Nat) : Int), .int .i64 (((rN 4 (rN 4 (some bs)).2).1 : Nat) : Int)]) w13 := ⟨hb4, hb5⟩
  refine ⟨⟨hb4, hb5⟩, ?_⟩
  refine qQ.r1 8 rfl jK hS (Run.fieldAddr rfl zh rfl zae jd) trivial rfl rfl ?_
  have hbo := hb5
  refine qQ.stL rfl jK (qH.store rfl rfl zae hb5 rfl rfl) trivial rfl ?_
  rintro w14 ⟨hbn, (hf14 : Frm [g5] _ _), hs14⟩
  have hb5 : Blk w14 g5 25 #[.slice B6 (l ++ [(⟨(rT (rMany rNm i (rN 1 (rN 4 (rN 4 (some bs)).2).2).2).2).1, v, nn, BB, dd, lm⟩ : Nc)]).length d6, .slice none ([] : List Tx).length 0, .int .i64 (((rN 4 (some bs)).1 : Nat) : Int), .int .i64 (((rN 4 (rN 4 (some bs)).2).1 : Nat) : Int)] := by rw [zf]; exact hbn
  have hb2 := hb2.frm hf14 (by simp; omega)
  have hb4 := hb4.frm hf14 (by simp; omega)
  have hR := hR5.off hf14 (fun y hy => by rw [zc] at hy; subst hy; exact ⟨_, _, hbo, jd, jd⟩)
  have ho7 := ho6.one hf14 hbo jd
  have hel7 := gY hel6 hf14 hbo jd jd
  have K := K.own hf14 (fun y hy => by rw [zc] at hy; omega)
  refine qQ.done jK ?_
  refine qW (jN ?_)
  refine jv6 0 2 4 5 16 17 ?_
  refine jR (jb rfl rfl (Bin.add_i64 _ 1 jo) (jm rfl (jO ?_)))
  refine jN ⟨(i + 1, B6, d6, l ++ [⟨(rT (rMany rNm i (rN 1 (rN 4 (rN 4 (some bs)).2).2).2).2).1, v, nn, BB, dd, lm⟩]), (js6 rfl rfl rfl rfl rfl rfl), ?_, ?_⟩
  ·
   refine ⟨hc1, hb2, hb4, hb5, ⟨by rw [pR]; exact hR, by rw [zf]; exact ho7, hel7, hob7⟩, ?_, K⟩
   rw [mF, ← hns, show Ns (l ++ [_]) = Ns l ++ [_] from zbh]
   show Ns l ++ [((rT (rMany rNm i (rN 1 (rN 4 (rN 4 (some bs)).2).2).2).2).1, (⟨v, nn, Ms lm⟩ : BoxV))] = _
   rw [hbx]
   rfl
  first | omega | (dsimp only; omega)
 obtain rfl : i = (rN 1 (rN 4 (rN 4 (some bs)).2).2).1 := by omega
 refine jX ?_
 refine qJ (qJ (qR ?_))
 refine jN (jv4 0 2 4 5 ?_)
 refine jS (jR (je (Run.loadA rfl zbt zbl (fun j v hj => hb4.cells j v hj) (by first | rfl | (simp; done))) ?_))
 refine Ops.cl (jE1 Tryz.call94) (nC g C bs _ _ hl hB hR) rfl ?_
 rintro e w15 ⟨Bs, ds, rfl, hos, hobs, hR6, hf15⟩
 obtain ⟨csg, hbg⟩ := hR.blk
 have hkk := K.size
 have hb2 := hb2.frm hf15 (by simp; omega)
 have hb5 := hb5.frm hf15 (by simp; omega)
 have ho := ho.one hf15 hbg jd
 have hel := gY hel hf15 hbg jd jd
 have K := K.own hf15 (fun y hy => by rw [zc] at hy; omega)
 refine ⟨_, rfl, ?_⟩
 refine jf rfl zh rfl zab ?_
 have hbo := hb5
 refine Ops.st (qH.store rfl rfl zab hb5 rfl rfl) ?_
 rintro w16 ⟨hbn, (hf16 : Frm [g5] _ _), hs16⟩
 have hb2 := hb2.frm hf16 (by simp; omega)
 have ho := ho.one hf16 hbo jd
 have hel := gY hel hf16 hbo jd jd
 have hos := hos.one hf16 hbo jd
 have K := K.own hf16 (fun y hy => by rw [zc] at hy; omega)
 obtain ⟨mm, hmm⟩ : ∃ mm : MlC, mm = ⟨B, d, l, Bs, ds, (rTs (rMany rNm (rN 1 (rN 4 (rN 4 (some bs)).2).2).1 (rN 1 (rN 4 (rN 4 (some bs)).2).2).2).2).1, (((rN 4 (some bs)).1 : Nat) : Int), (((rN 4 (rN 4 (some bs)).2).1 : Nat) : Int)⟩ := ⟨_, rfl⟩
 have hM : mm.p = eW bs := by
  rw [hmm]
  show (⟨Ns l, _, _, _⟩ : MailP) = _
  rw [hns]
  rfl
 have hbm : Blk w16 g5 25 mm.cells.toArray := by rw [hmm]; exact hbn
 have hsm1 := hsm.1
 have hsm3 := hsm.2.2.1
 have hml : (eW bs).l = Ns l := by rw [← hM, hmm]; rfl
 have hms : (eW bs).subs = mm.ss := by rw [← hM]; rfl
 have hRl : OwD w16 mm := by
  have hl2 : l.length = (eW bs).l.length := by rw [hml, bC]
  refine ⟨by rw [hmm]; exact ho, fun x hx => ?_, by rw [hmm]; exact hos, by rw [hmm]; dsimp only; omega, by rw [← hms]; omega, fun q hq => by have := hsm.2.2.2 q (by rw [hms]; exact hq); omega⟩
  have hx : x ∈ l := by rw [hmm] at hx; exact hx
  obtain ⟨h1, h2, _⟩ := hsm.2.1 x.p (by rw [hml]; exact zbr hx)
  have h3 : x.p.2.l.length = x.l.length := zal _
  exact ⟨hel x hx, jo, by have h1 : x.nm.length < 256 := h1; omega⟩
 have hEn : bY mm.p → dG mm.p = bF mm.p := fun h => if_pos h
 have hDec : mT bs = if bY mm.p ∧ bF mm.p = bs then .ok mm.p else .error 3 := by unfold mT; rw [hM]
 have hr16 := hr.frm K jp
 refine jO (jN (jv3 0 2 5 ?_))
 refine jS (jS ?_)
 refine VC.splitR [(2, .pointer (some ⟨g2, 0, none⟩)), (5, .pointer (some ⟨g5, 0, none⟩))] (fun wz => Frm [] w wz ∧ Blk wz g2 25 qD.cells.toArray ∧ Blk wz g5 25 mm.cells.toArray ∧ OwD wz mm) 43 (.bool (decide (¬ (bY mm.p ∧ bF mm.p = bs)))) ?_ ?_
 ·
  refine jR (je (Run.loadA rfl zm ze (fun j v hj => hbm.cells j v hj) (by first | rfl | (simp; done))) ?_)
  refine Ops.cl (jE1 zea) (dM mm _ hRl.rdl (hv.frm K)) rfl ?_
  rintro e w17 ⟨rfl, hf17⟩
  have hb2 := hb2.frm hf17 jp
  have hbm := hbm.frm hf17 jp
  have hRl := hRl.frm hf17
  have K := K.trans hf17 jp
  refine ⟨_, rfl, ?_⟩
  by_cases hs35 : bY mm.p
  ·
   refine je (Run.not rfl) (jM ?_)
   refine jk (Run.loadA rfl zm ze (fun j v hj => hbm.cells j v hj) (by first | rfl | (simp; done))) ?_
   refine Ops.clg rfl au (jE1 Tryz.call43) (fU mm _ hRl.rdl (hv.frm K)) rfl ?_
   rintro e w18 ⟨A8, d8, rfl, ho8, hf18⟩
   have hb2 := hb2.frm hf18 jp
   have hbm := hbm.frm hf18 jp
   have hRl := hRl.frm hf18
   have K := K.trans hf18 jp
   refine ⟨_, rfl, ?_⟩
   refine jG ?_
   refine Ops.clg rfl au (jE2 Tryz.call83) (uW A8 A d8 c (dG mm.p) bs _ (rY _) hB ho8.rd (hr.frm K jp)) rfl ?_
   rintro e _ ⟨rfl, rfl⟩
   refine ⟨_, rfl, ?_⟩
   by_cases hs41 : dG mm.p = bs
   ·
    refine jk (Run.not rfl) ?_
    refine je (Run.pickF rfl rfl au) (jO ?_)
    refine jN ⟨(js3 (jC (by first | exact uY hs35 | exact uG hs35)) rfl rfl), (⟨K, hb2, hbm, hRl⟩)⟩
   refine jk (Run.not rfl) ?_
   refine je (Run.pickF rfl rfl au) (jO ?_)
   refine jN ⟨(js3 (jC (by first | exact uY hs35 | exact uG hs35)) rfl rfl), (⟨K, hb2, hbm, hRl⟩)⟩
  refine je (Run.not rfl) (jM ?_)
  refine jU ?_
  refine jU ?_
  refine jU ?_
  refine jU ?_
  refine jU ?_
  refine je (Run.pickT rfl rfl au) (jO ?_)
  refine jN ⟨(js3 (jC (by first | exact uY hs35 | exact uG hs35)) rfl rfl), (⟨K, hb2, hbm, hRl⟩)⟩
 intro Γ wz hΓ ⟨K, hb2, hbm, hRl⟩
 refine jN (VC.sub _ hΓ ?_)
 refine jD rfl (fun hc2 => ?_) fun hc2 => ?_
 ·
  refine jS (jR (je (Run.build evs.nil bK (qC).choose_spec.1 (qC).choose_spec.2 rfl) ?_))
  refine Ops.st (qH.storeA rfl rfl ze hb2 rfl (MlC.cells_one qD)) ?_
  rintro w20 ⟨hbn2, (hf20 : Frm [g2] _ _), hs20⟩
  have hbn2 : Blk w20 g2 25 qD.cells.toArray := hbn2
  have K := K.own hf20 (fun y hy => by rw [zc] at hy; omega)
  refine jz 3 (jO (jN (jv2 2 3 ?_)))
  refine jT ?_
  refine qZ (bT ?_)
  refine qI rfl zm ze (fun j v hj => hbn2.cells j v hj) (by first | rfl | (simp; done)) ?_
  refine bX rfl ?_
  refine bZ ?_
  exact ⟨qD, 3, rfl, mG.err jd (by rw [hDec, if_neg hc2]), K⟩
 refine jQ (jN (jv2 2 5 ?_))
 refine jS (jR (je (Run.loadA rfl zm ze (fun j v hj => hbm.cells j v hj) (by first | rfl | (simp; done))) ?_))
 have hbo := hb2
 refine Ops.st (qH.storeA rfl rfl ze hb2 rfl (MlC.cells_one mm)) ?_
 rintro w20 ⟨hbn2, (hf20 : Frm [g2] _ _), hs20⟩
 have hbn2 : Blk w20 g2 25 mm.cells.toArray := hbn2
 have hRl := hRl.blk hf20 hbo jd jd jd
 have K := K.own hf20 (fun y hy => by rw [zc] at hy; omega)
 refine jz 0 (jO (jN (jv2 2 3 ?_)))
 refine jT ?_
 refine bT ?_
 refine qI rfl zm ze (fun j v hj => hbn2.cells j v hj) (by first | rfl | (simp; done)) ?_
 refine bX rfl ?_
 refine bZ ?_
 exact ⟨mm, 0, rfl, ⟨hRl.rdl, .inl ⟨rfl, by rw [hDec, if_pos (Classical.not_not.1 hc2)]⟩⟩, K⟩
end
section
open Go.RowKit Go.Sort
theorem qQ4 {m : MailP} (h : fT m) : fT (pO m) := by
 intro x hx y hy
 obtain ⟨x0, hx0, rfl⟩ := List.mem_map.1 hx
 have hx0 := zaw hx0
 have hy : y ∈ tE (if 20 < x0.2.l.length ∧ x0.2.l.length ≤ 128 then x0.2.l.take 20 else x0.2.l) := hy
 unfold tE at hy
 obtain ⟨y0, hy0, rfl⟩ := List.mem_map.1 hy
 have hy0 := zaw hy0
 refine h x0 hx0 y0 ?_
 split at hy0
 · exact zaw hy0
 exact hy0
theorem lU (m : MlC) (w : World) (hm : RdL w m) (hmay : bY m.p) :
  Calls Tryz.prog 42 #[m.val] w fun e w' => e = .returned (encStr ((bF m.p).map UInt8.ofNat)) ∧ Frm [] w w' := uJ m w hm hmay
theorem qZq {a b : MailP} (ha : bY a) (za : fT a) (zb : fT b) : fB a b ↔ (bY b ∧ a = b) := by
 unfold fB
 constructor
 ·
  rintro ⟨_, hb, h⟩
  rw [show dG a = bF a from if_pos ha, show dG b = bF b from if_pos hb] at h
  exact ⟨hb, qZn ha hb za zb h⟩
 rintro ⟨hb, rfl⟩
 exact ⟨ha, hb, rfl⟩
theorem qQ5 {w : World} {bs : Oc} {x : MlC} {k : Nat} (h : mG w (mT bs) x k) : (k = 0 → bY x.p ∧ bF x.p = bs) ∧ (k ≠ 0 → k = 3 ∧ x = qD) := by
 obtain ⟨_, ⟨h1, h2⟩ | ⟨h1, h2, h3⟩⟩ := h
 ·
  refine ⟨fun _ => ?_, fun h => absurd h1 h⟩
  unfold mT at h2
  split at h2
  ·
   rename_i hq
   injection h2 with h2
   rw [← h2]
   exact hq
  cases h2
 refine ⟨fun h => absurd h h1, fun _ => ?_⟩
 unfold mT at h2
 split at h2
 · cases h2
 injection h2 with h2
 exact ⟨h2.symm, h3⟩
set_option maxHeartbeats 2000000 in
theorem qQ6 (m o : MlC) (A : Option Addr) (c n : Nat) (bs0 : Oc) (w : World) (hm : RawL w m) (ho : RawL w o) (hmb : m.b ≤ 9223372036854775807) (hob : o.b ≤ 9223372036854775807) (hzm : fT m.p) (hzo : fT o.p) (hn : bs0.length = n) (hc : n ≤ c) (hnn : c ≤ 9223372036854775807) (hB : ∀ b ∈ bs0, b < 256) (hr : Rd w 1 A n (NB bs0)) (hv : cK w) :
  Calls Tryz.prog 10 #[m.val, o.val, .slice A n c] w fun e w' => e = .returned (.bool true) ∧ Frm [] w w' := by
 subst hn
 refine VC.calls (nt := 92) (res := #[.tmp 6]) Tryz.func10 rfl Tryz.ntmps10 Tryz.results10 rfl ?_
 refine jS (jR ?_)
 refine Ops.m (qK.box rfl) rfl ?_
 rintro _ w1 ⟨rfl, hF1⟩
 have hb3 : Blk w1 w.heap.size 25 m.cells.toArray := hF1.blk
 have hk3 : w.heap.size ≤ w.heap.size := zac _
 have K := hF1.frm
 have hl3 := hb3.lt
 generalize hg3e : w.heap.size = g3 at hb3 hk3 hl3 ⊢
 refine Ops.m (qK.box rfl) rfl ?_
 rintro _ w2 ⟨rfl, hF2⟩
 have hb4 : Blk w2 w1.heap.size 25 o.cells.toArray := hF2.blk
 have hb3 := hb3.frm hF2.frm jp
 have hk4 := K.size
 have h34 : g3 ≠ w1.heap.size := jo
 have K := K.trans hF2.frm jp
 generalize hg4e : w1.heap.size = g4 at hb4 hk4 h34 ⊢
 refine ja rfl (jO (jN (jv3 2 3 4 ?_)))
 refine jS ?_
 refine VC.meet (σ := MlC × MlC) (fun s => [(2, .slice A bs0.length c), (3, .pointer (some ⟨g3, 0, none⟩)), (4, .pointer (some ⟨g4, 0, none⟩))]) (fun s wz => Blk wz g3 25 s.1.cells.toArray ∧ Blk wz g4 25 s.2.cells.toArray ∧ OwL wz s.1 ∧ OwL wz s.2 ∧ (s.1.p = pO m.p ∧ s.2.p = pO o.p ∧ s.1.b = m.b ∧ s.2.b = o.b) ∧ Frm [] w wz) ?_ ?_
 ·
  refine VC.held (fun _ => True) jK ?_
  have hS : True := trivial
  have hb3 := hb3.drawn (qP.drew w2)
  have hb4 := hb4.drawn (qP.drew w2)
  have K := K.trans (qP.drew w2).frm jp
  refine qQ.or2 0 2 jK ?_ ?_
  ·
   refine cW.r1 rfl trivial (Run.loadA rfl zm ze (fun j v hj => hb3.cells j v hj) (by first | rfl | (simp; done))) trivial rfl rfl ?_
   refine qQ.or2 1 2 jK ?_ ?_
   ·
    refine cW.cl rfl (jE1 Tryz.call11) (eA m _ (hm.frm K)) trivial rfl rfl ?_
    rintro e wA ⟨m1, rfl, hp1, hO1, hv1, _, hfwA⟩
    have hb3 := hb3.frm hfwA jp
    have hb4 := hb4.frm hfwA jp
    have K := K.trans hfwA jp
    refine ⟨_, rfl, trivial, ?_⟩
    refine qQ.r1 2 rfl jK trivial (Run.loadA rfl zm ze (fun j v hj => hb4.cells j v hj) (by first | rfl | (simp; done))) trivial rfl rfl ?_
    refine qQ.cl 3 rfl jK (jE1 Tryz.call11) (eA o _ (ho.frm K)) trivial rfl rfl ?_
    rintro e wB ⟨o1, rfl, hp2, hO2, hv2, _, hfwB⟩
    have hb3 := hb3.frm hfwB jp
    have hb4 := hb4.frm hfwB jp
    try have hO1 := hO1.frm hfwB
    have K := K.trans hfwB jp
    refine ⟨_, rfl, trivial, ?_⟩
    have hbo := hb3
    refine qQ.st 4 rfl jK (qH.storeA rfl rfl ze hb3 rfl (MlC.cells_one m1)) trivial rfl ?_
    rintro wC ⟨hbn, (hfC : Frm [g3] _ _), hsC⟩
    have hb3 : Blk wC g3 25 m1.cells.toArray := hbn
    have hb4 := hb4.frm hfC (by simp; omega)
    have hO1 := hO1.blk hfC hbo jd jd jd
    have hO2 := hO2.blk hfC hbo jd jd jd
    have K := K.own hfC (fun y hy => by rw [zc] at hy; omega)
    refine ⟨trivial, ?_⟩
    have hbo := hb4
    refine qQ.st 5 rfl jK (qH.storeA rfl rfl ze hb4 rfl (MlC.cells_one o1)) trivial rfl ?_
    rintro wD ⟨hbn, (hfD : Frm [g4] _ _), hsD⟩
    have hb4 : Blk wD g4 25 o1.cells.toArray := hbn
    have hb3 := hb3.frm hfD (by simp; omega)
    have hO1 := hO1.blk hfD hbo jd jd jd
    have hO2 := hO2.blk hfD hbo jd jd jd
    have K := K.own hfD (fun y hy => by rw [zc] at hy; omega)
    refine ⟨trivial, ?_⟩
    refine qQ.done jK ?_
    refine jN ⟨(m1, o1), (js3 rfl rfl rfl), ?_⟩
    exact ⟨hb3, hb4, hO1, hO2, ⟨hp1, hp2, hv1, hv2⟩, K⟩
   refine cW.r1 rfl trivial (Run.loadA rfl zm ze (fun j v hj => hb4.cells j v hj) (by first | rfl | (simp; done))) trivial rfl rfl ?_
   refine qQ.cl 1 rfl jK (jE1 Tryz.call11) (eA m _ (hm.frm K)) trivial rfl rfl ?_
   rintro e wA ⟨m1, rfl, hp1, hO1, hv1, _, hfwA⟩
   have hb3 := hb3.frm hfwA jp
   have hb4 := hb4.frm hfwA jp
   have K := K.trans hfwA jp
   refine ⟨_, rfl, trivial, ?_⟩
   refine qQ.cl 3 rfl jK (jE1 Tryz.call11) (eA o _ (ho.frm K)) trivial rfl rfl ?_
   rintro e wB ⟨o1, rfl, hp2, hO2, hv2, _, hfwB⟩
   have hb3 := hb3.frm hfwB jp
   have hb4 := hb4.frm hfwB jp
   try have hO1 := hO1.frm hfwB
   have K := K.trans hfwB jp
   refine ⟨_, rfl, trivial, ?_⟩
   have hbo := hb3
   refine qQ.st 4 rfl jK (qH.storeA rfl rfl ze hb3 rfl (MlC.cells_one m1)) trivial rfl ?_
   rintro wC ⟨hbn, (hfC : Frm [g3] _ _), hsC⟩
   have hb3 : Blk wC g3 25 m1.cells.toArray := hbn
   have hb4 := hb4.frm hfC (by simp; omega)
   have hO1 := hO1.blk hfC hbo jd jd jd
   have hO2 := hO2.blk hfC hbo jd jd jd
   have K := K.own hfC (fun y hy => by rw [zc] at hy; omega)
   refine ⟨trivial, ?_⟩
   have hbo := hb4
   refine qQ.st 5 rfl jK (qH.storeA rfl rfl ze hb4 rfl (MlC.cells_one o1)) trivial rfl ?_
   rintro wD ⟨hbn, (hfD : Frm [g4] _ _), hsD⟩
   have hb4 : Blk wD g4 25 o1.cells.toArray := hbn
   have hb3 := hb3.frm hfD (by simp; omega)
   have hO1 := hO1.blk hfD hbo jd jd jd
   have hO2 := hO2.blk hfD hbo jd jd jd
   have K := K.own hfD (fun y hy => by rw [zc] at hy; omega)
   refine ⟨trivial, ?_⟩
   refine qQ.done jK ?_
   refine jN ⟨(m1, o1), (js3 rfl rfl rfl), ?_⟩
   exact ⟨hb3, hb4, hO1, hO2, ⟨hp1, hp2, hv1, hv2⟩, K⟩
  refine cW.r1 rfl trivial (Run.loadA rfl zm ze (fun j v hj => hb4.cells j v hj) (by first | rfl | (simp; done))) trivial rfl rfl ?_
  refine qQ.r1 0 rfl jK trivial (Run.loadA rfl zm ze (fun j v hj => hb3.cells j v hj) (by first | rfl | (simp; done))) trivial rfl rfl ?_
  refine qQ.cl 1 rfl jK (jE1 Tryz.call11) (eA m _ (hm.frm K)) trivial rfl rfl ?_
  rintro e wA ⟨m1, rfl, hp1, hO1, hv1, _, hfwA⟩
  have hb3 := hb3.frm hfwA jp
  have hb4 := hb4.frm hfwA jp
  have K := K.trans hfwA jp
  refine ⟨_, rfl, trivial, ?_⟩
  refine qQ.cl 3 rfl jK (jE1 Tryz.call11) (eA o _ (ho.frm K)) trivial rfl rfl ?_
  rintro e wB ⟨o1, rfl, hp2, hO2, hv2, _, hfwB⟩
  have hb3 := hb3.frm hfwB jp
  have hb4 := hb4.frm hfwB jp
  try have hO1 := hO1.frm hfwB
  have K := K.trans hfwB jp
  refine ⟨_, rfl, trivial, ?_⟩
  have hbo := hb3
  refine qQ.st 4 rfl jK (qH.storeA rfl rfl ze hb3 rfl (MlC.cells_one m1)) trivial rfl ?_
  rintro wC ⟨hbn, (hfC : Frm [g3] _ _), hsC⟩
  have hb3 : Blk wC g3 25 m1.cells.toArray := hbn
  have hb4 := hb4.frm hfC (by simp; omega)
  have hO1 := hO1.blk hfC hbo jd jd jd
  have hO2 := hO2.blk hfC hbo jd jd jd
  have K := K.own hfC (fun y hy => by rw [zc] at hy; omega)
  refine ⟨trivial, ?_⟩
  have hbo := hb4
  refine qQ.st 5 rfl jK (qH.storeA rfl rfl ze hb4 rfl (MlC.cells_one o1)) trivial rfl ?_
  rintro wD ⟨hbn, (hfD : Frm [g4] _ _), hsD⟩
  have hb4 : Blk wD g4 25 o1.cells.toArray := hbn
  have hb3 := hb3.frm hfD (by simp; omega)
  have hO1 := hO1.blk hfD hbo jd jd jd
  have hO2 := hO2.blk hfD hbo jd jd jd
  have K := K.own hfD (fun y hy => by rw [zc] at hy; omega)
  refine ⟨trivial, ?_⟩
  refine qQ.done jK ?_
  refine jN ⟨(m1, o1), (js3 rfl rfl rfl), ?_⟩
  exact ⟨hb3, hb4, hO1, hO2, ⟨hp1, hp2, hv1, hv2⟩, K⟩
 rintro ⟨m1, o1⟩ wz ⟨hb3, hb4, hO1, hO2, ⟨hp1, hp2, hv1, hv2⟩, K⟩ Γ hΓ
 dsimp only at *
 have hz1 : fT m1.p := by rw [hp1]; exact qQ4 hzm
 have hz2 : fT o1.p := by rw [hp2]; exact qQ4 hzo
 refine jN (VC.sub _ hΓ (jS (jS (jR (jm rfl (je (Run.lenS rfl zaj) (jb rfl rfl (Bin.gtrN _ 3000) (jO (jN (jv4 2 3 4 18 ?_))))))))))
 refine VC.meet (σ := Unit) (fun s => [(2, .slice A (bs0.take 3000).length c), (3, .pointer (some ⟨g3, 0, none⟩)), (4, .pointer (some ⟨g4, 0, none⟩))]) (fun s wm => wm = wz) ?_ ?_
 ·
  refine jD rfl (fun hc1 => ?_) fun hc1 => ?_
  ·
   refine jR (jm rfl (je (Run.sliceS 0 3000 rfl zaj zbv evB.none_ (evB.some_ rfl) jo jo) (ja rfl (jO ?_))))
   refine jN ⟨(), (js3 (by rw [eD, show (bs0.take 3000).length = 3000 by rw [zp]; omega]; rfl) rfl rfl), ?_⟩
   rfl
  refine jQ ?_
  refine jN ⟨(), (js3 (by rw [zt jo]; rfl) rfl rfl), ?_⟩
  rfl
 rintro _ _ rfl Γ hΓ
 obtain ⟨bs, hbs⟩ : ∃ bs, bs = bs0.take 3000 := ⟨_, rfl⟩
 have hB2 : ∀ b ∈ bs, b < 256 := fun b hb => hB b (zaw (by rw [← hbs]; exact hb))
 have hbl : bs.length ≤ 3000 := by rw [hbs]; exact zcp _ _
 have hr : Rd w 1 A bs.length (NB bs) := by
  rw [hbs]
  rcases Nat.le_total 3000 bs0.length with h | h
  ·
   have h1 := wN hr rfl (zad 3000) h (zac _)
   rw [eD, zcj] at h1
   rw [zp, zas h]
   exact h1
  rw [zt h]
  exact hr
 rw [← hbs] at hΓ
 refine jN (VC.sub _ hΓ (jS (jR (jM ?_))))
 refine Ops.cl (jE1 Tryz.call41) (mI A c bs.length bs _ rfl jo hB2 (hr.frm K jp) (hv.frm K)) rfl ?_
 rintro e w5 ⟨x, k, rfl, hI, hf5⟩
 have hb3 := hb3.frm hf5 jp
 have hb4 := hb4.frm hf5 jp
 have hO1 := hO1.frm hf5
 have hO2 := hO2.frm hf5
 have K := K.trans hf5 jp
 obtain ⟨hk0, hk1⟩ := qQ5 hI
 have hx := hI.1
 refine ⟨_, rfl, ?_⟩
 refine jm rfl (je (Run.extract rfl rfl) (je (Run.extract rfl rfl) ?_))
 refine Ops.m (qK.alloc bK) rfl ?_
 rintro _ w6 ⟨rfl, hFw6⟩
 have hb7 := hFw6.blk
 have hl3 := hb3.lt
 have K7 := hFw6.frm
 have hl4 := hb4.lt
 have hk7 := K.size
 have hb3 := hb3.frm hFw6.frm jp
 have hb4 := hb4.frm hFw6.frm jp
 have hO1 := hO1.frm hFw6.frm
 have hO2 := hO2.frm hFw6.frm
 have K := K.trans hFw6.frm jp
 have hsz7 : w5.heap.size ≤ w5.heap.size := zac _
 generalize hg7e : w5.heap.size = g7 at hb7 hk7 hl3 hl4 hsz7 ⊢
 have hbo := hb7
 refine Ops.st (qH.storeA rfl rfl ze hb7 rfl (MlC.cells_one x)) ?_
 rintro w7 ⟨hbn, (hfw7 : Frm [g7] _ _), hsw7⟩
 have hb7 : Blk w7 g7 25 x.cells.toArray := hbn
 have hb3 := hb3.frm hfw7 (by simp; omega)
 have hb4 := hb4.frm hfw7 (by simp; omega)
 have hO1 := hO1.blk hfw7 hbo jd jd jd
 have hO2 := hO2.blk hfw7 hbo jd jd jd
 have K := K.own hfw7 (fun y hy => by rw [zc] at hy; omega)
 have K7 : Frm [] w5 w7 := K7.own hfw7 (fun y hy => by rw [zc] at hy; omega)
 have hx := hx.frm K7
 refine ja rfl (jO (jN (jv5 2 3 4 7 8 ?_)))
 refine jS (jS (jR (jm rfl (jb rfl rfl (Bin.eqlN _ 0) (jO (jN (jv6 2 3 4 7 8 27 ?_)))))))
 refine VC.meet (σ := Unit) (fun s => [(3, .pointer (some ⟨g3, 0, none⟩)), (4, .pointer (some ⟨g4, 0, none⟩))]) (fun s wm => Blk wm g3 25 m1.cells.toArray ∧ Blk wm g4 25 o1.cells.toArray ∧ OwL wm m1 ∧ OwL wm o1 ∧ Frm [] w wm) ?_ ?_
 ·
  refine jD rfl (fun hc2 => ?_) fun hc2 => ?_
  ·
   obtain ⟨hxm, hxb⟩ := hk0 hc2
   refine jS ?_
   refine VC.held (fun W => Frm [] w7 W) jK ?_
   have hS : Frm [] w7 w7.drew := (Frm.refl _ _).drew
   refine jH 0 rfl hS (fun w0 hw0 => Run.loadA rfl zm ze (fun j v hj => (hb7.frm hw0 jp).cells j v hj) (by first | rfl | (simp; done))) ?_
   refine qQ.cl 1 rfl jK (jE1 Tryz.call26) (lM x _ (hx.frm hS) (by have := (fY hxm).2.2.2.2.1; omega)) trivial rfl rfl ?_
   rintro e w8 ⟨rfl, hfw8⟩
   have hS1 := hS.trans hfw8 jp
   rw [decide_eq_true hxm]
   refine ⟨_, rfl, hS1, ?_⟩
   have hS := hS1
   refine jH 2 rfl hS (fun w0 hw0 => Run.not rfl) ?_
   refine jH 3 rfl hS (fun w0 hw0 => Run.mv rfl) ?_
   refine qQ.take 4 rfl jK jK jK hS (fun w0 hw0 => Run.loadA rfl zm ze (fun j v hj => (hb7.frm hw0 jp).cells j v hj) (by first | rfl | (simp; done))) (Up.g rfl au) rfl rfl ?_
   refine qQ.take 6 rfl jK jK jK hS (fun w0 hw0 => Run.mv rfl) (Up.g rfl au) rfl rfl ?_
   refine qQ.take 7 rfl jK jK jK hS (fun w0 hw0 => Run.strOfT rfl zaj zbe zk (by rw [← sR _ hB2]; exact (hr.frm K jp).frm hw0 jp)) (Up.g rfl au) rfl rfl ?_
   refine qQ.cl 5 rfl jK (jE1 Tryz.call42) (lU x _ (hx.frm hS) hxm) (Up.g rfl au) rfl rfl ?_
   rintro e w9 ⟨rfl, hfw9⟩
   have hS1 := hS.trans hfw9 jp
   rw [hxb]
   refine ⟨_, rfl, hS1, ?_⟩
   have hS := hS1
   refine qQ.take 8 rfl jK jK jK hS (fun w0 hw0 => Run.neqT rfl rfl) (Up.g rfl au) rfl rfl ?_
   refine jH 9 rfl hS (fun w0 hw0 => Run.pickF rfl rfl au) ?_
   refine qQ.done jK ?_
   refine jN (jv3 3 4 37 ?_)
   refine VC.condF rfl jp ?_
   refine jQ ?_
   refine jN ⟨(), (js2 rfl rfl), ?_⟩
   exact ⟨hb3.frm hS jp, hb4.frm hS jp, hO1.frm hS, hO2.frm hS, K.trans hS jp⟩
  obtain ⟨rfl, rfl⟩ := hk1 hc2
  refine jS (jR (jm rfl (jb rfl rfl (Bin.neqN _ 3) (jM ?_))))
  refine jk (Run.loadA rfl zm ze (fun j v hj => hb7.cells j v hj) (by first | rfl | (simp; done))) ?_
  refine jk (Run.build evs.nil bK (qC).choose_spec.1 (qC).choose_spec.2 rfl) ?_
  refine Ops.clg rfl au (jE2 Tryz.call15) (kZ qD qD _ (RdL.zero _) (RdL.zero _)) rfl ?_
  rintro e w8 ⟨rfl, hf8⟩
  have hb3 := hb3.frm hf8 jp
  have hb4 := hb4.frm hf8 jp
  have hO1 := hO1.frm hf8
  have hO2 := hO2.frm hf8
  have K := K.trans hf8 jp
  rw [decide_eq_true (show qD.p = qD.p from rfl)]
  refine ⟨_, rfl, ?_⟩
  refine jk (Run.not rfl) ?_
  refine je (Run.pickF rfl rfl au) (jO (jN (jv3 3 4 45 ?_)))
  refine VC.condF rfl jp ?_
  refine jQ ?_
  refine jN ⟨(), (js2 rfl rfl), ?_⟩
  exact ⟨hb3, hb4, hO1, hO2, K⟩
 rintro _ wm ⟨hb3, hb4, hO1, hO2, K⟩ Γ hΓ
 refine jN (VC.sub _ hΓ (jS (jR (je (Run.loadA rfl zm ze (fun j v hj => hb3.cells j v hj) (by first | rfl | (simp; done))) ?_))))
 refine Ops.cl (jE1 Tryz.call43) (fU m1 _ hO1.rdl (hv.frm K)) rfl ?_
 rintro e w10 ⟨B, d, rfl, hoB, hf10⟩
 have hb3 := hb3.frm hf10 jp
 have hb4 := hb4.frm hf10 jp
 have hO1 := hO1.frm hf10
 have hO2 := hO2.frm hf10
 have K := K.trans hf10 jp
 refine ⟨_, rfl, ?_⟩
 refine ja rfl (jO (jN (jv3 3 4 9 ?_)))
 refine jS (jS (jR (je (Run.loadA rfl zm ze (fun j v hj => hb3.cells j v hj) (by first | rfl | (simp; done))) ?_)))
 refine Ops.cl (jE1 Tryz.call26) (lM m1 _ hO1.rdl (by rw [hv1]; exact hmb)) rfl ?_
 rintro e w11 ⟨rfl, hf11⟩
 have hb3 := hb3.frm hf11 jp
 have hb4 := hb4.frm hf11 jp
 have hO1 := hO1.frm hf11
 have hO2 := hO2.frm hf11
 have K := K.trans hf11 jp
 have hoB := hoB.frm hf11 jp
 refine ⟨_, rfl, ?_⟩
 refine je (Run.not rfl) (jO (jN (jv4 3 4 9 50 ?_)))
 refine VC.condB rfl (fun hc5 => ?_) (fun hc5 => ?_)
 ·
  have hc5 : ¬ bY m1.p := by simpa using hc5
  have hE : dG m1.p = [] := if_neg hc5
  rw [hE]
  refine jS (jR (jm rfl (je (Run.lenS rfl zaj) (jb rfl rfl (Bin.eqlN _ 0) (jM ?_)))))
  refine Ops.clg rfl au (jE0 Tryz.call16) (jZ _ (hv.frm K)) rfl ?_
  rintro e w12 ⟨rfl, hf12⟩
  have K := K.trans hf12 jp
  refine ⟨_, rfl, ?_⟩
  refine je (Run.pickT rfl rfl au) (ja rfl (jO (jN (jv1 6 ?_))))
  refine jT ?_
  refine qZ (qN rfl ?_)
  exact ⟨rfl, K⟩
 have hc5 : bY m1.p := by simpa using hc5
 have hE : dG m1.p = bF m1.p := if_pos hc5
 rw [hE] at hoB
 rw [hE]
 have hml := (rK (tI hc5) m1.p.subs.length)
 rw [oY] at hml
 have hq5 : decide (fB m1.p o1.p) = decide (bY o1.p ∧ m1.p = o1.p) := decide_eq_decide.2 (qZq hc5 hz1 hz2)
 refine jQ (jN (jv3 3 4 9 ?_))
 refine jS (jR (jM ?_))
 refine Ops.cl (jE1 Tryz.call41) (mI B d (bF m1.p).length (bF m1.p) _ rfl jo (oG _) hoB.rd (hv.frm K)) rfl ?_
 rintro e w13 ⟨y, k2, rfl, hJ, hf13⟩
 have hb3 := hb3.frm hf13 jp
 have hb4 := hb4.frm hf13 jp
 have hO1 := hO1.frm hf13
 have hO2 := hO2.frm hf13
 have K := K.trans hf13 jp
 have hoB := hoB.frm hf13 jp
 have hyr := hJ.1
 obtain ⟨rfl, hyp⟩ : k2 = 0 ∧ y.p = m1.p := by
  rw [qZm hc5 hz1] at hJ
  obtain ⟨_, ⟨h1, h2⟩ | ⟨_, h2, _⟩⟩ := hJ
  ·
   injection h2 with h2
   exact ⟨h1, h2.symm⟩
  cases h2
 refine ⟨_, rfl, ?_⟩
 refine jm rfl (je (Run.extract rfl rfl) (je (Run.extract rfl rfl) ?_))
 refine Ops.m (qK.alloc bK) rfl ?_
 rintro _ w14 ⟨rfl, hFw14⟩
 have hb10 := hFw14.blk
 have hl3 := hb3.lt
 have K10 := hFw14.frm
 have hoB := hoB.frm hFw14.frm jp
 have hl4 := hb4.lt
 have hk10 := K.size
 have hb3 := hb3.frm hFw14.frm jp
 have hb4 := hb4.frm hFw14.frm jp
 have hO1 := hO1.frm hFw14.frm
 have hO2 := hO2.frm hFw14.frm
 have K := K.trans hFw14.frm jp
 have hsz10 : w13.heap.size ≤ w13.heap.size := zac _
 generalize hg10e : w13.heap.size = g10 at hb10 hk10 hl3 hl4 hsz10 ⊢
 have hbo := hb10
 refine Ops.st (qH.storeA rfl rfl ze hb10 rfl (MlC.cells_one y)) ?_
 rintro w15 ⟨hbn, (hfw15 : Frm [g10] _ _), hsw15⟩
 have hb10 : Blk w15 g10 25 y.cells.toArray := hbn
 have hb3 := hb3.frm hfw15 (by simp; omega)
 have hb4 := hb4.frm hfw15 (by simp; omega)
 have hO1 := hO1.blk hfw15 hbo jd jd jd
 have hO2 := hO2.blk hfw15 hbo jd jd jd
 have K := K.own hfw15 (fun y hy => by rw [zc] at hy; omega)
 have K10 : Frm [] w13 w15 := K10.own hfw15 (fun y hy => by rw [zc] at hy; omega)
 have hyr := hyr.frm K10
 have hoB := hoB.one hfw15 hbo jd
 refine ja rfl (jO (jN (jv5 3 4 9 10 11 ?_)))
 refine jS ?_
 refine VC.meet (σ := Unit) (fun s => [(6, .bool (decide (True)))]) (fun s wz => Frm [] w15 wz) ?_ ?_
 ·
  refine VC.held (fun W => Frm [] w15 W) jK ?_
  have hS : Frm [] w15 w15.drew := (Frm.refl _ _).drew
  refine jH 0 rfl hS (fun w0 hw0 => Run.mv rfl) ?_
  refine jH 1 rfl hS (fun w0 hw0 => Run.strOfT rfl zaj zbe zk (by rw [← sR _ (oG _)]; exact hoB.rd.frm hw0 jp)) ?_
  refine jH 2 rfl hS (fun w0 hw0 => Run.loadA rfl zm ze (fun j v hj => (hb3.frm hw0 jp).cells j v hj) (by first | rfl | (simp; done))) ?_
  refine qQ.cl 3 rfl jK (jE1 Tryz.call42) (lU m1 _ (hO1.rdl.frm hS) hc5) trivial rfl rfl ?_
  rintro e w16 ⟨rfl, hfw16⟩
  have hS1 := hS.trans hfw16 jp
  refine ⟨_, rfl, hS1, ?_⟩
  have hS := hS1
  refine jH 4 rfl hS (fun w0 hw0 => Run.eqlT rfl rfl) ?_
  refine jH 5 rfl hS (fun w0 hw0 => Run.mv rfl) ?_
  refine qQ.take 6 rfl jK jK jK hS (fun w0 hw0 => Run.loadA rfl zm ze (fun j v hj => (hb10.frm hw0 jp).cells j v hj) (by first | rfl | (simp; done))) (Up.g rfl (by first | rfl | (simp [hyp, hs81]; done) | (simp [hyp]; done))) rfl rfl ?_
  refine qQ.take 7 rfl jK jK jK hS (fun w0 hw0 => Run.loadA rfl zm ze (fun j v hj => (hb3.frm hw0 jp).cells j v hj) (by first | rfl | (simp; done))) (Up.g rfl (by first | rfl | (simp [hyp, hs81]; done) | (simp [hyp]; done))) rfl rfl ?_
  refine qQ.cl 8 rfl jK (jE2 Tryz.call15) (kZ y m1 _ (hyr.frm hS) (hO1.rdl.frm hS)) (Up.g rfl (by first | rfl | (simp [hyp, hs81]; done) | (simp [hyp]; done))) rfl rfl ?_
  rintro e w17 ⟨rfl, hfw17⟩
  have hS1 := hS.trans hfw17 jp
  rw [decide_eq_true hyp]
  refine ⟨_, rfl, hS1, ?_⟩
  have hS := hS1
  refine jH 9 rfl hS (fun w0 hw0 => Run.pickT rfl rfl (by first | rfl | (simp [hyp, hs81]; done) | (simp [hyp]; done))) ?_
  refine jH 10 rfl hS (fun w0 hw0 => Run.mv rfl) ?_
  refine qQ.take 11 rfl jK jK jK hS (fun w0 hw0 => Run.mv rfl) (Up.g rfl (by first | rfl | (simp [hyp, hs81]; done) | (simp [hyp]; done))) rfl rfl ?_
  refine qQ.take 12 rfl jK jK jK hS (fun w0 hw0 => Run.bin rfl rfl (Bin.eqlN _ 0)) (Up.g rfl (by first | rfl | (simp [hyp, hs81]; done) | (simp [hyp]; done))) rfl rfl ?_
  refine jH 13 rfl hS (fun w0 hw0 => Run.pickT rfl rfl (by first | rfl | (simp [hyp, hs81]; done) | (simp [hyp]; done))) ?_
  refine jH 14 rfl hS (fun w0 hw0 => Run.mv rfl) ?_
  refine qQ.take 15 rfl jK jK jK hS (fun w0 hw0 => Run.loadA rfl zm ze (fun j v hj => (hb3.frm hw0 jp).cells j v hj) (by first | rfl | (simp; done))) (Up.g rfl (by first | rfl | (simp [hyp, hs81]; done) | (simp [hyp]; done))) rfl rfl ?_
  refine qQ.take 16 rfl jK jK jK hS (fun w0 hw0 => Run.loadA rfl zm ze (fun j v hj => (hb4.frm hw0 jp).cells j v hj) (by first | rfl | (simp; done))) (Up.g rfl (by first | rfl | (simp [hyp, hs81]; done) | (simp [hyp]; done))) rfl rfl ?_
  refine qQ.take 18 rfl jK jK jK hS (fun w0 hw0 => Run.loadA rfl zm ze (fun j v hj => (hb4.frm hw0 jp).cells j v hj) (by first | rfl | (simp; done))) (Up.g rfl (by first | rfl | (simp [hyp, hs81]; done) | (simp [hyp]; done))) rfl rfl ?_
  refine qQ.cl 17 rfl jK (jE2 Tryz.call29) (yO m1 o1 _ (hO1.rdl.frm hS) (hO2.rdl.frm hS) ((hv.frm K).frm hS)) (Up.g rfl (by first | rfl | (simp [hyp, hs81]; done) | (simp [hyp]; done))) rfl rfl ?_
  rintro e w18 ⟨rfl, hfw18⟩
  have hS1 := hS.trans hfw18 jp
  rw [hq5]
  refine ⟨_, rfl, hS1, ?_⟩
  have hS := hS1
  refine qQ.cl 19 rfl jK (jE1 Tryz.call26) (lM o1 _ (hO2.rdl.frm hS) (by rw [hv2]; exact hob)) (Up.g rfl (by first | rfl | (simp [hyp, hs81]; done) | (simp [hyp]; done))) rfl rfl ?_
  rintro e w19 ⟨rfl, hfw19⟩
  have hS1 := hS.trans hfw19 jp
  refine ⟨_, rfl, hS1, ?_⟩
  have hS := hS1
  by_cases hs81 : bY o1.p
  ·
   refine qQ.take 20 rfl jK jK jK hS (fun w0 hw0 => Run.mv rfl) (Up.g rfl (by first | rfl | exact decide_eq_true hs81 | (simp [hs81]; done) | (simp [hyp, hs81]; done) | (simp [hyp]; done))) rfl rfl ?_
   refine qQ.take 21 rfl jK jK jK hS (fun w0 hw0 => Run.loadA rfl zm ze (fun j v hj => (hb3.frm hw0 jp).cells j v hj) (by first | rfl | (simp; done))) (Up.g rfl (by first | rfl | exact decide_eq_true hs81 | (simp [hs81]; done) | (simp [hyp, hs81]; done) | (simp [hyp]; done))) rfl rfl ?_
   refine qQ.take 22 rfl jK jK jK hS (fun w0 hw0 => Run.loadA rfl zm ze (fun j v hj => (hb4.frm hw0 jp).cells j v hj) (by first | rfl | (simp; done))) (Up.g rfl (by first | rfl | exact decide_eq_true hs81 | (simp [hs81]; done) | (simp [hyp, hs81]; done) | (simp [hyp]; done))) rfl rfl ?_
   refine qQ.cl 23 rfl jK (jE2 Tryz.call15) (kZ m1 o1 _ (hO1.rdl.frm hS) (hO2.rdl.frm hS)) (Up.g rfl (by first | rfl | exact decide_eq_true hs81 | (simp [hs81]; done) | (simp [hyp, hs81]; done) | (simp [hyp]; done))) rfl rfl ?_
   rintro e w20 ⟨rfl, hfw20⟩
   have hS1 := hS.trans hfw20 jp
   refine ⟨_, rfl, hS1, ?_⟩
   have hS := hS1
   refine qQ.take 24 rfl jK jK jK hS (fun w0 hw0 => Run.pickT rfl rfl (by first | rfl | exact decide_eq_true hs81 | (simp [hs81]; done) | (simp [hyp, hs81]; done) | (simp [hyp]; done))) (Up.g rfl (by first | rfl | exact decide_eq_true hs81 | (simp [hs81]; done) | (simp [hyp, hs81]; done) | (simp [hyp]; done))) rfl rfl ?_
   refine qQ.take 25 rfl jK jK jK hS (fun w0 hw0 => Run.eqlB rfl rfl zbs) (Up.g rfl (by first | rfl | exact decide_eq_true hs81 | (simp [hs81]; done) | (simp [hyp, hs81]; done) | (simp [hyp]; done))) rfl rfl ?_
   refine jH 26 rfl hS (fun w0 hw0 => Run.pickT rfl rfl (by first | rfl | exact decide_eq_true hs81 | (simp [hs81]; done) | (simp [hyp, hs81]; done) | (simp [hyp]; done))) ?_
   refine jH 27 rfl hS (fun w0 hw0 => Run.mv rfl) ?_
   refine qQ.cl 28 rfl jK (jE0 Tryz.call16) (jZ _ ((hv.frm K).frm hS)) (Up.g rfl (by first | rfl | exact decide_eq_true hs81 | (simp [hs81]; done) | (simp [hyp, hs81]; done) | (simp [hyp]; done))) rfl rfl ?_
   rintro e w21 ⟨rfl, hfw21⟩
   have hS1 := hS.trans hfw21 jp
   refine ⟨_, rfl, hS1, ?_⟩
   have hS := hS1
   refine jH 29 rfl hS (fun w0 hw0 => Run.pickT rfl rfl (by first | rfl | exact decide_eq_true hs81 | (simp [hs81]; done) | (simp [hyp, hs81]; done) | (simp [hyp]; done))) ?_
   refine jH 30 rfl hS (fun w0 hw0 => Run.asg rfl) ?_
   refine qQ.done jK ?_
   refine jN ⟨(), (js1 (jC jp)), ?_⟩
   exact hS
  refine qQ.take 20 rfl jK jK jK hS (fun w0 hw0 => Run.mv rfl) (Up.g rfl (by first | rfl | exact decide_eq_false hs81 | (simp [hs81]; done) | (simp [hyp, hs81]; done) | (simp [hyp]; done))) rfl rfl ?_
  refine qQ.skip 21 rfl jK jK jK hS rfl rfl (by first | rfl | exact decide_eq_false hs81 | (simp [hs81]; done) | (simp [hyp, hs81]; done) | (simp [hyp]; done)) rfl rfl ?_
  refine qQ.skip 22 rfl jK jK jK hS rfl rfl (by first | rfl | exact decide_eq_false hs81 | (simp [hs81]; done) | (simp [hyp, hs81]; done) | (simp [hyp]; done)) rfl rfl ?_
  refine qQ.skip 23 rfl jK jK jK hS rfl rfl (by first | rfl | exact decide_eq_false hs81 | (simp [hs81]; done) | (simp [hyp, hs81]; done) | (simp [hyp]; done)) rfl rfl ?_
  refine qQ.take 24 rfl jK jK jK hS (fun w0 hw0 => Run.pickF rfl rfl (by first | rfl | exact decide_eq_false hs81 | (simp [hs81]; done) | (simp [hyp, hs81]; done) | (simp [hyp]; done))) (Up.g rfl (by first | rfl | exact decide_eq_false hs81 | (simp [hs81]; done) | (simp [hyp, hs81]; done) | (simp [hyp]; done))) rfl rfl ?_
  refine qQ.take 25 rfl jK jK jK hS (fun w0 hw0 => Run.eqlB rfl rfl zbs) (Up.g rfl (by first | rfl | exact decide_eq_false hs81 | (simp [hs81]; done) | (simp [hyp, hs81]; done) | (simp [hyp]; done))) rfl rfl ?_
  refine jH 26 rfl hS (fun w0 hw0 => Run.pickT rfl rfl (by first | rfl | exact decide_eq_false hs81 | (simp [hs81]; done) | (simp [hyp, hs81]; done) | (simp [hyp]; done))) ?_
  refine jH 27 rfl hS (fun w0 hw0 => Run.mv rfl) ?_
  refine qQ.cl 28 rfl jK (jE0 Tryz.call16) (jZ _ ((hv.frm K).frm hS)) (Up.g rfl (by first | rfl | exact decide_eq_false hs81 | (simp [hs81]; done) | (simp [hyp, hs81]; done) | (simp [hyp]; done))) rfl rfl ?_
  rintro e w21 ⟨rfl, hfw21⟩
  have hS1 := hS.trans hfw21 jp
  refine ⟨_, rfl, hS1, ?_⟩
  have hS := hS1
  refine jH 29 rfl hS (fun w0 hw0 => Run.pickT rfl rfl (by first | rfl | exact decide_eq_false hs81 | (simp [hs81]; done) | (simp [hyp, hs81]; done) | (simp [hyp]; done))) ?_
  refine jH 30 rfl hS (fun w0 hw0 => Run.asg rfl) ?_
  refine qQ.done jK ?_
  refine jN ⟨(), (js1 (jC jp)), ?_⟩
  exact hS
 rintro _ wz hfz Γ hΓ
 have K := K.trans hfz jp
 refine jN (VC.sub _ hΓ ?_)
 refine jT ?_
 refine qN rfl ?_
 exact ⟨rfl, K⟩
end
section
open Go.RowKit Go.ChangeShapes Go.WideShapes Go.Deep Go.Sort
structure RawZ (w : World) (A : Option Addr) (l : List Mc) : Prop where
 r : RawM w A l
 z : ∀ y ∈ l, y.m.size ≤ 9223372036854775807
section
variable {H : Type} {enc : TypeId × Value → H} {w : World} {base : Nat} {spare : Nat → Bool} {held : Bool}
theorem qQ7 {n : Nat} {cs : List Value} {x : DataW H × List MemPlace} (h : DataW.trod enc Tryz.prog w base spare held n 60 cs = some x) :
  ∃ y : Mc, cs = y.cells ∧ Rd w 1 y.A y.m.flags.length (SB y.m.flags) ∧ y.m.flags.length ≤ y.c ∧ y.m.size ≤ 9223372036854775807 := by
 obtain ⟨xs, n', _, _, hlen, hxl, hf⟩ := DataW.trod_struct zr h
 have hl : cs.length = 6 := hlen.trans jK
 obtain ⟨a0, a1, a2, a3, a4, a5, rfl⟩ : ∃ a0 a1 a2 a3 a4 a5, cs = [a0, a1, a2, a3, a4, a5] := by
  match cs, hl with
  | [a0, a1, a2, a3, a4, a5], _ => exact ⟨a0, a1, a2, a3, a4, a5, rfl⟩
 have hget : ∀ i, i < 5 → ∃ y, xs[i]? = some y := fun i hi => ⟨xs[i]'(by rw [hxl]; exact hi), zd _⟩
 have h0 := hf 0 _ rfl
 have h1 := hf 1 _ rfl
 have h2 := hf 2 _ rfl
 have h3 := hf 3 _ rfl
 have h4 := hf 4 _ rfl
 obtain ⟨y0, e0⟩ := hget 0 jd
 obtain ⟨y1, e1⟩ := hget 1 jd
 obtain ⟨y2, e2⟩ := hget 2 jd
 obtain ⟨y3, e3⟩ := hget 3 jd
 obtain ⟨y4, e4⟩ := hget 4 jd
 rw [e0] at h0
 rw [e1] at h1
 rw [e2] at h2
 rw [e3] at h3
 rw [e4] at h4
 have c1 : Tryz.prog.cellsOf 3 = 1 := by kernel_rfl
 have c2 : Tryz.prog.cellsOf 58 = 2 := by kernel_rfl
 have c3 : Tryz.prog.cellsOf 40 = 1 := by kernel_rfl
 have c4 : Tryz.prog.cellsOf 23 = 1 := by kernel_rfl
 have h0 : DataW.trod enc Tryz.prog w base spare held n' 3 ([a0, a1, a2, a3, a4, a5].take (Tryz.prog.cellsOf 3)) = some y0 := h0
 have h1 : DataW.trod enc Tryz.prog w base spare held n' 58 ([a1, a2, a3, a4, a5].take (Tryz.prog.cellsOf 58)) = some y1 := h1
 have h2 : DataW.trod enc Tryz.prog w base spare held n' 3 ([a3, a4, a5].take (Tryz.prog.cellsOf 3)) = some y2 := h2
 have h3 : DataW.trod enc Tryz.prog w base spare held n' 40 ([a4, a5].take (Tryz.prog.cellsOf 40)) = some y3 := h3
 have h4 : DataW.trod enc Tryz.prog w base spare held n' 23 ([a5].take (Tryz.prog.cellsOf 23)) = some y4 := h4
 rw [c1] at h0 h2
 rw [c2] at h1
 rw [c3] at h3
 rw [c4] at h4
 obtain ⟨z0, g0, _⟩ := DataW.trod_int zv h0
 obtain ⟨z2, g2, _, w2⟩ := DataW.trod_int zv h2
 obtain ⟨z3, g3, _, w3⟩ := DataW.trod_int zah h3
 obtain ⟨xd, nd, _, _, _, hxd, hfd⟩ := DataW.trod_struct zay h1
 have d0 := hfd 0 _ rfl
 have d1 := hfd 1 _ rfl
 have hgd : ∀ i, i < 2 → ∃ y, xd[i]? = some y := fun i hi => ⟨xd[i]'(by rw [hxd]; exact hi), zd _⟩
 obtain ⟨u0, f0⟩ := hgd 0 jd
 obtain ⟨u1, f1⟩ := hgd 1 jd
 rw [f0] at d0
 rw [f1] at d1
 have c5 : Tryz.prog.cellsOf 2 = 1 := by kernel_rfl
 have d0 : DataW.trod enc Tryz.prog w base spare held nd 2 ([a1, a2].take (Tryz.prog.cellsOf 2)) = some u0 := d0
 have d1 : DataW.trod enc Tryz.prog w base spare held nd 3 ([a2].take (Tryz.prog.cellsOf 3)) = some u1 := d1
 rw [c5] at d0
 rw [c1] at d1
 obtain ⟨zs, gs, _⟩ := DataW.trod_int zet d0
 obtain ⟨zz, gz, _⟩ := DataW.trod_int zv d1
 simp only [zdg, zeb, List.cons.injEq, and_true] at g0 g2 g3 gs gz
 subst g0 g2 g3 gs gz
 have h4 : DataW.trod enc Tryz.prog w base spare held n' 23 [a5] = some y4 := h4
 have hv : ∃ A l c, a5 = .slice A l c := by
  rcases open_slice1 zg jK h4 with ⟨hcs, _⟩ | ⟨ad, l, c, _, _, _, _, _, hcs, _⟩
  · exact ⟨_, _, _, by simpa using hcs⟩
  exact ⟨_, _, _, by simpa using hcs⟩
 obtain ⟨A, len, c, rfl⟩ := hv
 obtain ⟨fl, rfl, hlc, _, hrd⟩ := qKc zg zk jK h4
 have hz3 := bounds_u64 w3
 refine ⟨⟨⟨z0, zs, zz, z2, z3.toNat, fl⟩, A, c⟩, ?_, hrd, hlc, by simp [Lit.wf, IntKind.min, IntKind.max, IntKind.signed, IntKind.bits] at w2; dsimp only; omega⟩
 simp only [Mc.cells]
 rw [Int.toNat_of_nonneg hz3.1]
theorem qZr {fuel len cap : Nat} {a : Option Addr} {x : DataW H × List MemPlace} (h : DataW.trod enc Tryz.prog w base spare held fuel 41 [.slice a len cap] = some x) :
  ∃ l : List Mc, l.length = len ∧ len ≤ cap ∧ cap ≤ 9223372036854775807 ∧ RawZ w a l := by
 have hC : Tryz.prog.cellsOf 60 = 6 := by kernel_rfl
 rcases open_slice zy h with ⟨hcs, _⟩ | ⟨ad, l, c, m, n, D, Pl, hcs, _, hl, hm, hmm, _, hi⟩
 ·
  simp only [List.cons.injEq, Value.slice.injEq, and_true] at hcs
  obtain ⟨rfl, rfl, rfl⟩ := hcs
  exact ⟨[], rfl, zac _, jo, ⟨Rd.nil _ _ _, jp⟩, by intro y hy; cases hy⟩
 simp only [List.cons.injEq, Value.slice.injEq, and_true] at hcs
 obtain ⟨rfl, rfl, rfl⟩ := hcs
 have hml : len ≤ m := by rw [hmm]; split <;> omega
 rw [hC] at hi
 have key : ∀ i, i < len → ∃ y : Mc, (∀ j, j < 6 → w.cell? ((ad.add (i * 6)).add j) = y.cells[j]?) ∧ Rd w 1 y.A y.m.flags.length (SB y.m.flags) ∧ y.m.flags.length ≤ y.c ∧ y.m.size ≤ 9223372036854775807 := by
  intro i hil
  obtain ⟨cs', hc, ht'⟩ := hi i jo
  obtain ⟨_, hcl, hat⟩ := World.cells?_some hc
  obtain ⟨y, rfl, h1, h2, h3⟩ := qQ7 ht'
  exact ⟨y, fun j hj => hat j hj, h1, h2, h3⟩
 obtain ⟨ls, hll, hq⟩ := gQ len key
 have hcell : ∀ j u, (MC ls)[j]? = some u → w.cell? (ad.add j) = some u := by
  intro j u hu
  rw [show MC ls = ls.flatMap Mc.cells from rfl, gD Mc.cells 6 jo Mc.cells_len] at hu
  obtain ⟨y, hy, hu'⟩ := Option.bind_eq_some_iff.1 hu
  have := (hq _ y hy).1 (j % 6) (Nat.mod_lt _ jo)
  rw [Go.Proofs.YtgmbmfpfhcekiaaGreat.add_add, zec, Nat.div_add_mod] at this
  rw [this, hu']
 refine ⟨ls, hll, hl, by simpa [maxLen] using hm, ⟨⟨by rw [oD], fun hn => ⟨ad, rfl, ?_, hcell⟩⟩, fun y hy => ?_⟩, fun y hy => ?_⟩
 ·
  have h0 : 0 < (MC ls).length := by rw [oD]; omega
  have := World.block_lt_of_cell? w _ (hcell 0 _ (zd h0))
  rwa [eG] at this
 ·
  obtain ⟨i, hi', hli⟩ := zag hy
  have h := (hq i y (by rw [zd hi', hli])).2
  exact ⟨h.1, h.2.1⟩
 obtain ⟨i, hi', hli⟩ := zag hy
 exact (hq i y (by rw [zd hi', hli])).2.2.2
end
section
variable {H : Type} {enc : TypeId × Value → H} {w : World} {base : Nat} {spare : Nat → Bool} {held : Bool} {n : Nat} {cs : List Value} {x : DataW H × List MemPlace}
theorem zQ (h : DataW.trod enc Tryz.prog w base spare held n 41 cs = some x) : ∃ (A : Option Addr) (c : Nat) (l : List Mc), cs = [.slice A l.length c] ∧ l.length ≤ c ∧ RawZ w A l := by
 obtain ⟨A, len, c, rfl⟩ := kD zy h
 obtain ⟨l, rfl, h1, _, h3⟩ := qZr h
 exact ⟨A, c, l, rfl, h1, h3⟩
end
theorem qQ8 {H : Type} {enc : TypeId × Value → H} {w : World} {base : Nat} {spare : Nat → Bool} {held : Bool} {n : Nat} {cs : List Value} {x : DataW H × List MemPlace} (h : DataW.trod enc Tryz.prog w base spare held n 43 cs = some x) :
  ∃ (va : Int) (na : Int) (A : Option Addr) (c : Nat) (l : List Mc), cs = ([.int .i64 va] ++ ([.int .i64 na] ++ ([.slice A l.length c] ++ [] : List Value) : List Value) : List Value) ∧ ((Lit.int .i64 va).wf = true) ∧ ((Lit.int .i64 na).wf = true) ∧ (l.length ≤ c ∧ RawZ w A l) := by
 obtain ⟨hlen, n', hf⟩ := kB zl h
 have hl : cs.length = 3 := hlen.trans jK
 obtain ⟨a0, a1, a2, rfl⟩ : ∃ a0 a1 a2, cs = [a0, a1, a2] := by
  match cs, hl with
  | [a0, a1, a2], _ => exact ⟨a0, a1, a2, rfl⟩
 clear h hlen hl
 obtain ⟨y0, h0⟩ := hf 0 _ rfl
 have h0 : DataW.trod enc Tryz.prog w base spare held n' 3 ([a0, a1, a2].take (Tryz.prog.cellsOf 3)) = some y0 := h0
 rw [show Tryz.prog.cellsOf 3 = 1 by kernel_rfl] at h0
 have h0 : DataW.trod enc Tryz.prog w base spare held n' 3 [a0] = some y0 := h0
 obtain ⟨va, e0, q0⟩ := kC zv h0
 obtain ⟨y1, h1⟩ := hf 1 _ rfl
 have h1 : DataW.trod enc Tryz.prog w base spare held n' 3 ([a1, a2].take (Tryz.prog.cellsOf 3)) = some y1 := h1
 rw [show Tryz.prog.cellsOf 3 = 1 by kernel_rfl] at h1
 have h1 : DataW.trod enc Tryz.prog w base spare held n' 3 [a1] = some y1 := h1
 obtain ⟨na, e1, q1⟩ := kC zv h1
 obtain ⟨y2, h2⟩ := hf 2 _ rfl
 have h2 : DataW.trod enc Tryz.prog w base spare held n' 41 ([a2].take (Tryz.prog.cellsOf 41)) = some y2 := h2
 rw [show Tryz.prog.cellsOf 41 = 1 by kernel_rfl] at h2
 have h2 : DataW.trod enc Tryz.prog w base spare held n' 41 [a2] = some y2 := h2
 obtain ⟨A, c, l, e2, q2⟩ := zQ h2
 refine ⟨va, na, A, c, l, ?_, q0, q1, q2⟩
 show ([a0] ++ ([a1] ++ ([a2] ++ [] : List Value) : List Value) : List Value) = _
 rw [e0, e1, e2]
 try rfl
theorem vH {H : Type} {enc : TypeId × Value → H} {w : World} {base : Nat} {spare : Nat → Bool} {held : Bool} {n : Nat} {cs : List Value} {x : DataW H × List MemPlace} (h : DataW.trod enc Tryz.prog w base spare held n 45 cs = some x) :
  ∃ (q : Tx) (va na : Int) (A : Option Addr) (c : Nat) (l : List Mc), cs = ([encStr q] ++ (BVc va na A l.length c ++ [] : List Value) : List Value) ∧ (q.length ≤ 9223372036854775807) ∧ ((Lit.int .i64 va).wf = true ∧ (Lit.int .i64 na).wf = true ∧ l.length ≤ c ∧ RawZ w A l) := by
 obtain ⟨hlen, n', hf⟩ := kB zaa h
 have hl : cs.length = 4 := hlen.trans jK
 obtain ⟨a0, a1, a2, a3, rfl⟩ : ∃ a0 a1 a2 a3, cs = [a0, a1, a2, a3] := by
  match cs, hl with
  | [a0, a1, a2, a3], _ => exact ⟨a0, a1, a2, a3, rfl⟩
 clear h hlen hl
 obtain ⟨y0, h0⟩ := hf 0 _ rfl
 have h0 : DataW.trod enc Tryz.prog w base spare held n' 9 ([a0, a1, a2, a3].take (Tryz.prog.cellsOf 9)) = some y0 := h0
 rw [show Tryz.prog.cellsOf 9 = 1 by kernel_rfl] at h0
 have h0 : DataW.trod enc Tryz.prog w base spare held n' 9 [a0] = some y0 := h0
 obtain ⟨q, e0, q0⟩ := qXe zk h0
 obtain ⟨y1, h1⟩ := hf 1 _ rfl
 have h1 : DataW.trod enc Tryz.prog w base spare held n' 43 ([a1, a2, a3].take (Tryz.prog.cellsOf 43)) = some y1 := h1
 rw [show Tryz.prog.cellsOf 43 = 3 by kernel_rfl] at h1
 have h1 : DataW.trod enc Tryz.prog w base spare held n' 43 [a1, a2, a3] = some y1 := h1
 obtain ⟨va, na, A, c, l, e1, q1⟩ := qQ8 h1
 refine ⟨q, va, na, A, c, l, ?_, q0, q1⟩
 show ([a0] ++ ([a1, a2, a3] ++ [] : List Value) : List Value) = _
 rw [e0, e1]
 try rfl
section
variable {H : Type} {enc : TypeId × Value → H} {w : World} {base : Nat} {spare : Nat → Bool} {held : Bool}
theorem vM {n : Nat} {cs : List Value} {x : DataW H × List MemPlace} (h : DataW.trod enc Tryz.prog w base spare held n 45 cs = some x) : ∃ y : Nc, cs = y.cells ∧ RawZ w y.A y.l ∧ y.l.length ≤ y.c := by
 obtain ⟨q, va, na, A, c, l, e, _, ⟨_, _, h1, h2⟩⟩ := vH h
 exact ⟨⟨q, va, na, A, c, l⟩, e, h2, h1⟩
theorem qQ9 {fuel len cap : Nat} {a : Option Addr} {x : DataW H × List MemPlace} (h : DataW.trod enc Tryz.prog w base spare held fuel 22 [.slice a len cap] = some x) :
  ∃ l : List Nc, l.length = len ∧ len ≤ cap ∧ Rd w 4 a l.length (NDC l) ∧ ∀ y ∈ l, RawZ w y.A y.l ∧ y.l.length ≤ y.c := by
 have hC : Tryz.prog.cellsOf 45 = 4 := by kernel_rfl
 rcases open_slice zi h with ⟨hcs, _⟩ | ⟨ad, l, c, m, n, D, Pl, hcs, _, hl, hm, hmm, _, hi⟩
 ·
  simp only [List.cons.injEq, Value.slice.injEq, and_true] at hcs
  obtain ⟨rfl, rfl, rfl⟩ := hcs
  exact ⟨[], rfl, zac _, Rd.nil _ _ _, jp⟩
 simp only [List.cons.injEq, Value.slice.injEq, and_true] at hcs
 obtain ⟨rfl, rfl, rfl⟩ := hcs
 have hml : len ≤ m := by rw [hmm]; split <;> omega
 rw [hC] at hi
 have key : ∀ i, i < len → ∃ y : Nc, (∀ j, j < 4 → w.cell? ((ad.add (i * 4)).add j) = y.cells[j]?) ∧ RawZ w y.A y.l ∧ y.l.length ≤ y.c := by
  intro i hil
  obtain ⟨cs', hc, ht'⟩ := hi i jo
  obtain ⟨_, hcl, hat⟩ := World.cells?_some hc
  obtain ⟨y, rfl, h1, h2⟩ := vM ht'
  exact ⟨y, fun j hj => hat j hj, h1, h2⟩
 obtain ⟨ls, hll, hq⟩ := gQ len key
 have hcell : ∀ j u, (NDC ls)[j]? = some u → w.cell? (ad.add j) = some u := by
  intro j u hu
  rw [show NDC ls = ls.flatMap Nc.cells from rfl, gD Nc.cells 4 jo Nc.cells_len] at hu
  obtain ⟨y, hy, hu'⟩ := Option.bind_eq_some_iff.1 hu
  have := (hq _ y hy).1 (j % 4) (Nat.mod_lt _ jo)
  rw [Go.Proofs.YtgmbmfpfhcekiaaGreat.add_add, zec, Nat.div_add_mod] at this
  rw [this, hu']
 refine ⟨ls, hll, hl, ⟨by rw [eC], fun hn => ⟨ad, rfl, ?_, hcell⟩⟩, fun y hy => ?_⟩
 ·
  have h0 : 0 < (NDC ls).length := by rw [eC]; omega
  have := World.block_lt_of_cell? w _ (hcell 0 _ (zd h0))
  rwa [eG] at this
 obtain ⟨i, hi', hli⟩ := zag hy
 exact (hq i y (by rw [zd hi', hli])).2
theorem uH {n : Nat} {cs : List Value} {x : DataW H × List MemPlace} (h : DataW.trod enc Tryz.prog w base spare held n 22 cs = some x) : ∃ (A : Option Addr) (c : Nat) (l : List Nc), cs = [.slice A l.length c] ∧ l.length ≤ c ∧ Rd w 4 A l.length (NDC l) ∧ ∀ y ∈ l, RawZ w y.A y.l ∧ y.l.length ≤ y.c := by
 obtain ⟨A, len, c, rfl⟩ := kD zi h
 obtain ⟨l, rfl, h1, h2, h3⟩ := qQ9 h
 exact ⟨A, c, l, rfl, h1, h2, h3⟩
end
theorem zX {H : Type} {enc : TypeId × Value → H} {w : World} {base : Nat} {spare : Nat → Bool} {held : Bool} {n : Nat} {cs : List Value} {x : DataW H × List MemPlace} (h : DataW.trod enc Tryz.prog w base spare held n 25 cs = some x) :
  ∃ (A : Option Addr) (c : Nat) (l : List Nc) (S : Option Addr) (d : Nat) (ss : List Tx) (va : Int) (bl : Int), cs = ([.slice A l.length c] ++ ([.slice S ss.length d] ++ ([.int .i64 va] ++ ([.int .i64 bl] ++ [] : List Value) : List Value) : List Value) : List Value) ∧ (l.length ≤ c ∧ Rd w 4 A l.length (NDC l) ∧ ∀ y ∈ l, RawZ w y.A y.l ∧ y.l.length ≤ y.c) ∧ (ss.length ≤ d ∧ d ≤ 9223372036854775807 ∧ Rd w 1 S ss.length (SB ss)) ∧ ((Lit.int .i64 va).wf = true) ∧ ((Lit.int .i64 bl).wf = true) := by
 obtain ⟨hlen, n', hf⟩ := kB zh h
 have hl : cs.length = 4 := hlen.trans jK
 obtain ⟨a0, a1, a2, a3, rfl⟩ : ∃ a0 a1 a2 a3, cs = [a0, a1, a2, a3] := by
  match cs, hl with
  | [a0, a1, a2, a3], _ => exact ⟨a0, a1, a2, a3, rfl⟩
 clear h hlen hl
 obtain ⟨y0, h0⟩ := hf 0 _ rfl
 have h0 : DataW.trod enc Tryz.prog w base spare held n' 22 ([a0, a1, a2, a3].take (Tryz.prog.cellsOf 22)) = some y0 := h0
 rw [show Tryz.prog.cellsOf 22 = 1 by kernel_rfl] at h0
 have h0 : DataW.trod enc Tryz.prog w base spare held n' 22 [a0] = some y0 := h0
 obtain ⟨A, c, l, e0, q0⟩ := uH h0
 obtain ⟨y1, h1⟩ := hf 1 _ rfl
 have h1 : DataW.trod enc Tryz.prog w base spare held n' 23 ([a1, a2, a3].take (Tryz.prog.cellsOf 23)) = some y1 := h1
 rw [show Tryz.prog.cellsOf 23 = 1 by kernel_rfl] at h1
 have h1 : DataW.trod enc Tryz.prog w base spare held n' 23 [a1] = some y1 := h1
 obtain ⟨S, d, ss, e1, q1⟩ := yB h1
 obtain ⟨y2, h2⟩ := hf 2 _ rfl
 have h2 : DataW.trod enc Tryz.prog w base spare held n' 3 ([a2, a3].take (Tryz.prog.cellsOf 3)) = some y2 := h2
 rw [show Tryz.prog.cellsOf 3 = 1 by kernel_rfl] at h2
 have h2 : DataW.trod enc Tryz.prog w base spare held n' 3 [a2] = some y2 := h2
 obtain ⟨va, e2, q2⟩ := kC zv h2
 obtain ⟨y3, h3⟩ := hf 3 _ rfl
 have h3 : DataW.trod enc Tryz.prog w base spare held n' 3 ([a3].take (Tryz.prog.cellsOf 3)) = some y3 := h3
 rw [show Tryz.prog.cellsOf 3 = 1 by kernel_rfl] at h3
 have h3 : DataW.trod enc Tryz.prog w base spare held n' 3 [a3] = some y3 := h3
 obtain ⟨bl, e3, q3⟩ := kC zv h3
 refine ⟨A, c, l, S, d, ss, va, bl, ?_, q0, q1, q2, q3⟩
 show ([a0] ++ ([a1] ++ ([a2] ++ ([a3] ++ [] : List Value) : List Value) : List Value) : List Value) = _
 rw [e0, e1, e2, e3]
 try rfl
theorem pU {H : Type} {enc : TypeId × Value → H} {w : World} {base : Nat} {spare : Nat → Bool} {held : Bool} {n : Nat} {cs : List Value} {x : DataW H × List MemPlace} (h : DataW.trod enc Tryz.prog w base spare held n 25 cs = some x) :
  ∃ m : MlC, cs = m.cells ∧ RawL w m ∧ m.b ≤ 9223372036854775807 ∧ fT m.p := by
 obtain ⟨A, c, l, S, d, ss, va, bl, e, ⟨h1, h2, h3⟩, ⟨h4, _, h6⟩, _, hb⟩ := zX h
 refine ⟨⟨A, c, l, S, d, ss, va, bl⟩, e, ⟨h2, fun y hy => ⟨(h3 y hy).1.r, (h3 y hy).2⟩, h6, h1, h4⟩, by simp [Lit.wf, IntKind.min, IntKind.max, IntKind.signed, IntKind.bits] at hb; dsimp only; omega, fun x hx y hy => ?_⟩
 obtain ⟨x0, hx0, rfl⟩ := List.mem_map.1 hx
 obtain ⟨y0, hy0, rfl⟩ := List.mem_map.1 hy
 exact (h3 x0 hx0).1.z y0 hy0
end
end Go.Proofs.YtgmbmfpfhcekiaaGreat
