/-
  Lemmas on the way, joined: BackB, BackC, DefK, RefN, RefO, RefT, BackD, SegP, SegW, Eng16, SegB, Eng17, SegS, SegC, SegT, SegF, SegU, SegD, SegV, SegO, SegR, SegX.
-/
import Derived.Lib.AppendStr
import Derived.ArgAppend
import Derived.Test.YtndjgmbfkkgpdaaGreatPk3
set_option maxRecDepth 100000
set_option linter.unusedVariables false
set_option linter.unusedSimpArgs false
namespace Go.Proofs.YtndjgmbfkkgpdaaGreat
section
open Go.RowKit
theorem eT {l : List Int} {i : Nat} (h : l.getD i 0 ≠ 0) : i < l.length := by
 by_cases hi : i < l.length
 · exact hi
 rw [zc, zr jo] at h
 exact absurd rfl h
theorem qNc {L A C : List Bool} {a b : List Int} {s most p : Nat} {out : List Nat} (ha : ROk a) (hs : s < 256) (h0 : a.getD s 0 ≠ 0) (hL : L = A ++ bK a s ++ C) (hp : p = A.length) (ho : out.length < most) :
  eL L a b most p out = .ok (true, p + (bK a s).length, out ++ [s]) := by
 have h := (gT ha (eT h0) h0 ⟨A, C, hL, hp⟩).1
 unfold eL
 rw [h, qS]
 dsimp only
 rw [if_pos hs, if_pos ho]
theorem qNd {L A C : List Bool} {a b : List Int} {most p : Nat} {out : List Nat} (ha : ROk a) (h0 : a.getD 256 0 ≠ 0) (hL : L = A ++ bK a 256 ++ C) (hp : p = A.length) :
  eL L a b most p out = .ok (false, p + (bK a 256).length, out) := by
 have h := (gT ha (eT h0) h0 ⟨A, C, hL, hp⟩).1
 unfold eL
 rw [h, qS]
 rfl
theorem qV9 {L A C : List Bool} {a b : List Int} {n d most p : Nat} {out : List Nat} (ha : ROk a) (hb : ROk b) (h3 : 3 ≤ n) (h4 : n ≤ 258) (h5 : 1 ≤ d) (h6 : d ≤ 32768) (h0 : a.getD (257 + lenS n) 0 ≠ 0) (h1 : b.getD (wayS d) 0 ≠ 0)
  (hL : L = A ++ (lG a n ++ mV b d) ++ C) (hp : p = A.length) (hd : d ≤ out.length) (ho : out.length + n ≤ most) :
  eL L a b most p out = .ok (true, p + (lG a n ++ mV b d).length, cF n d out) := by
 obtain ⟨l1, l2, l3, _⟩ := hZ h3 h4
 obtain ⟨w1, w2, w3, _⟩ := jZ h5 h6
 unfold lG mV at hL ⊢
 generalize hk1 : bK a (257 + lenS n) = k1 at hL
 generalize hk2 : bK b (wayS d) = k2 at hL
 have hs1 := (gT ha (eT h0) h0 (L := L) (p := p) ⟨A, bitsL (n - (longT.getD (lenS n) (0, 0)).1) (longT.getD (lenS n) (0, 0)).2 ++ k2 ++ bitsL (d - (wayT.getD (wayS d) (0, 0)).1) (wayT.getD (wayS d) (0, 0)).2 ++ C, by rw [hL, hk1]; simp only [zj], hp⟩).1
 rw [hk1] at hs1
 have ht1 : bZ L (longT.getD (lenS n) (0, 0)).2 (p + k1.length) = .ok (n - (longT.getD (lenS n) (0, 0)).1, p + k1.length + (longT.getD (lenS n) (0, 0)).2) := by
  have := dS (L := L) (A := A ++ k1) (B := bitsL (n - (longT.getD (lenS n) (0, 0)).1) (longT.getD (lenS n) (0, 0)).2) (n := (longT.getD (lenS n) (0, 0)).2) (p := p + k1.length) ⟨k2 ++ bitsL (d - (wayT.getD (wayS d) (0, 0)).1) (wayT.getD (wayS d) (0, 0)).2 ++ C, by rw [hL]; simp only [zj]⟩ (by rw [qH]) (by rw [zb, hp])
  rw [eG _ _ l3] at this
  exact this
 have hs2 := (gT hb (eT h1) h1 (L := L) (p := p + k1.length + (longT.getD (lenS n) (0, 0)).2) ⟨A ++ k1 ++ bitsL (n - (longT.getD (lenS n) (0, 0)).1) (longT.getD (lenS n) (0, 0)).2, bitsL (d - (wayT.getD (wayS d) (0, 0)).1) (wayT.getD (wayS d) (0, 0)).2 ++ C, by rw [hL, hk2]; simp only [zj], by rw [zb, zb, qH, hp]⟩).1
 rw [hk2] at hs2
 have ht2 : bZ L (wayT.getD (wayS d) (0, 0)).2 (p + k1.length + (longT.getD (lenS n) (0, 0)).2 + k2.length) = .ok (d - (wayT.getD (wayS d) (0, 0)).1, p + k1.length + (longT.getD (lenS n) (0, 0)).2 + k2.length + (wayT.getD (wayS d) (0, 0)).2) := by
  have := dS (L := L) (A := A ++ k1 ++ bitsL (n - (longT.getD (lenS n) (0, 0)).1) (longT.getD (lenS n) (0, 0)).2 ++ k2) (B := bitsL (d - (wayT.getD (wayS d) (0, 0)).1) (wayT.getD (wayS d) (0, 0)).2) (n := (wayT.getD (wayS d) (0, 0)).2) (p := p + k1.length + (longT.getD (lenS n) (0, 0)).2 + k2.length) ⟨C, by rw [hL]; simp only [zj]⟩ (by rw [qH]) (by simp only [zb, qH, hp])
  rw [eG _ _ w3] at this
  exact this
 have e1 : 257 + lenS n - 257 = lenS n := jo
 have e2 : (longT.getD (lenS n) (0, 0)).1 + (n - (longT.getD (lenS n) (0, 0)).1) = n := jo
 have e3 : (wayT.getD (wayS d) (0, 0)).1 + (d - (wayT.getD (wayS d) (0, 0)).1) = d := jo
 unfold eL
 rw [hs1, qS]
 dsimp only
 rw [if_neg jo, if_neg jo, if_neg jo, e1, ht1, qS]
 dsimp only
 rw [hs2, qS]
 dsimp only
 rw [if_neg jo, ht2, qS]
 dsimp only
 rw [e2, e3, if_neg jo, if_neg jo]
 simp only [zb, qH, zee]
theorem zL {bs : List Nat} {d : Nat} (hd : 1 ≤ d) : ∀ n a, d ≤ a → a + n ≤ bs.length → (∀ j, j < n → bs.getD (a - d + j) 0 = bs.getD (a + j) 0) → cF n d (bs.take a) = bs.take (a + n)
 | 0, a, _, _, _ => rfl
 | n + 1, a, h1, h2, h3 => by
  have hl : (bs.take a).length = a := by rw [zi]; omega
  have e : (bs.take a).getD (a - d) 0 = bs.getD a 0 := by
   rw [zc, zao jo, ← zc]
   have := h3 0 jo
   rw [zdh, zdh] at this
   exact this
  rw [cF, hl, e, ← rW (L := bs) jo, zL hd n (a + 1) jo jo (fun j hj => by
   have := h3 (j + 1) jo
   rw [show a + 1 - d + j = a - d + (j + 1) by omega, show a + 1 + j = a + (j + 1) by omega]
   exact this), show a + 1 + n = a + (n + 1) by omega]
def tW (a b : List Int) (t : Tk) : Prop := if t.2.1 = 0 then a.getD t.1 0 ≠ 0 else a.getD (257 + lenS t.2.1) 0 ≠ 0 ∧ b.getD (wayS t.2.2) 0 ≠ 0
theorem oN {bs : List Nat} {c1 c2 : List Int} (hl : bs.length ≤ 32768) (hB : ∀ b ∈ bs, b < 256) (h1 : ROk c1) (h2 : ROk c2) (h0 : c1.getD 256 0 ≠ 0) :
  ∀ m a f (L A C : List Bool) p, bs.length - a ≤ m → a ≤ bs.length → (∀ t ∈ bJ bs a, tW c1 c2 t) → L = A ++ cN c1 c2 (bJ bs a) ++ C → p = A.length → (bJ bs a).length < f →
   dQ L c1 c2 bs.length f p (bs.take a) = .ok (p + (cN c1 c2 (bJ bs a)).length, bs)
 | m, a, 0, L, A, C, p, _, _, _, _, _, hf => jo
 | m, a, f + 1, L, A, C, p, hm, ha, hu, hL, hp, hf => by
  by_cases hend : a = bs.length
  ·
   rw [qXi bs a jo] at hL ⊢
   have ht : cN c1 c2 [] = bK c1 256 := rfl
   rw [ht] at hL ⊢
   rw [dQ, qNd h1 h0 hL hp, qS]
   dsimp only
   rw [zn jo]
   rfl
  have ha2 : a < bs.length := jo
  have htl : (bs.take a).length = a := by rw [zi]; omega
  cases m with
  | zero => omega
  | succ m =>
   by_cases hbm : (qO bs a).1 = 0
   ·
    rw [qXj bs a ha2 hbm] at hu hL hf ⊢
    have hu0 := hu _ zbf
    have htb : gK c1 c2 (bs.getD a 0, 0, 0) = bK c1 (bs.getD a 0) := rfl
    have htt : cN c1 c2 ((bs.getD a 0, 0, 0) :: bJ bs (a + 1)) = bK c1 (bs.getD a 0) ++ cN c1 c2 (bJ bs (a + 1)) := by
     unfold cN
     rw [zm, htb, zj]
    rw [htt] at hL ⊢
    have hx := qNc (b := c2) (most := bs.length) (out := bs.take a) h1 (kP hB a) hu0 (show L = A ++ bK c1 (bs.getD a 0) ++ (cN c1 c2 (bJ bs (a + 1)) ++ C) by rw [hL]; simp only [zj]) hp jo
    rw [dQ, hx, qS]
    dsimp only
    rw [← rW (L := bs) ha2, if_pos rfl, oN hl hB h1 h2 h0 m (a + 1) f L (A ++ bK c1 (bs.getD a 0)) C _ jo jo (fun t ht => hu t (zbi _ ht)) (by rw [hL]; simp only [zj]) (by rw [hp]; simp only [zb]) (by simpa using hf)]
    rw [zb, zee]
   rcases lB bs a jo with h3 | ⟨h3, h4, h5, h6, h7, h8⟩
   · rw [h3] at hbm; exact absurd rfl hbm
   rw [wY bs a ha2 hbm] at hu hL hf ⊢
   have hu0 := hu _ zbf
   unfold tW at hu0
   rw [if_neg hbm] at hu0
   have htb : gK c1 c2 (0, (qO bs a).1, (qO bs a).2) = lG c1 (qO bs a).1 ++ mV c2 (qO bs a).2 := by unfold gK; rw [if_neg hbm]
   have htt : cN c1 c2 ((0, (qO bs a).1, (qO bs a).2) :: bJ bs (a + (qO bs a).1)) = (lG c1 (qO bs a).1 ++ mV c2 (qO bs a).2) ++ cN c1 c2 (bJ bs (a + (qO bs a).1)) := by
    unfold cN
    rw [zm, htb, zj]
   rw [htt] at hL ⊢
   have hx := qV9 (most := bs.length) (out := bs.take a) (n := (qO bs a).1) (d := (qO bs a).2) (p := p) h1 h2 h3 h4 h5 jo hu0.1 hu0.2 (show L = A ++ (lG c1 (qO bs a).1 ++ mV c2 (qO bs a).2) ++ (cN c1 c2 (bJ bs (a + (qO bs a).1)) ++ C) by rw [hL]; simp only [zj]) hp jo jo
   have hcp : cF (qO bs a).1 (qO bs a).2 (bs.take a) = bs.take (a + (qO bs a).1) := by
    refine zL h5 _ a h6 h7 (fun j hj => ?_)
    have := (qXf bs 258 (a - (qO bs a).2) a (qO bs a).1 h4).1 (by
     have : longM bs (a - (qO bs a).2) a = lgM bs (a - (qO bs a).2) a 258 := rfl
     omega) j hj
    exact this.2
   rw [dQ, hx, qS]
   dsimp only
   rw [hcp, if_pos rfl, oN hl hB h1 h2 h0 m (a + (qO bs a).1) f L (A ++ (lG c1 (qO bs a).1 ++ mV c2 (qO bs a).2)) C _ jo h7 (fun t ht => hu t (zbi _ ht)) (by rw [hL]; simp only [zj]) (by rw [hp]; simp only [zb]) (by simpa using hf)]
   simp only [zb, zee]
theorem qKs {c1 c2 : List Int} (h1 : ROk c1) : ∀ L : List Tk, (∀ t ∈ L, tW c1 c2 t) → L.length ≤ (L.flatMap (gK c1 c2)).length
 | [], _ => zk _
 | t :: L, h => by
  have ih := qKs h1 L (fun t ht => h t (zbi _ ht))
  have hu := h t zbf
  have h2 : 1 ≤ (gK c1 c2 t).length := by
   unfold tW at hu
   unfold gK
   split
   ·
    rename_i h0
    rw [if_pos h0] at hu
    exact (gT h1 (eT hu) hu ⟨[], [], rfl, rfl⟩).2
   rename_i h0
   rw [if_neg h0] at hu
   have := (gT h1 (eT hu.1) hu.1 ⟨[], [], rfl, rfl⟩).2
   unfold lG
   rw [zb, zb]
   omega
  rw [zm, zb, zq]
  omega
theorem zO {bs : List Nat} {c1 c2 : List Int} {H : List Bool} {k : Nat} (hl : bs.length ≤ 32768) (hB : ∀ b ∈ bs, b < 256) (h1 : ROk c1) (h2 : ROk c2) (h0 : c1.getD 256 0 ≠ 0) (hu : ∀ t ∈ bJ bs 0, tW c1 c2 t) (hc : (k = 1 ∧ H = [] ∧ c1 = cK ∧ c2 = cH) ∨ (k = 2 ∧ ∀ C, oM (bitsL 1 1 ++ bitsL k 2 ++ H ++ cN c1 c2 (bJ bs 0) ++ C) 3 = .ok (3 + H.length, c1, c2))) :
  gV (qL (bitsL 1 1 ++ bitsL k 2 ++ H ++ cN c1 c2 (bJ bs 0))) bs.length = .ok (bs, (qL (bitsL 1 1 ++ bitsL k 2 ++ H ++ cN c1 c2 (bJ bs 0))).length) := by
 have hk : k = 1 ∨ k = 2 := hc.imp (·.1) (·.1)
 generalize hM : bitsL 1 1 ++ bitsL k 2 ++ H ++ cN c1 c2 (bJ bs 0) = M at hc
 have hL : ∃ C, ofB (qL M) = M ++ C := ⟨_, qHp M⟩
 obtain ⟨C, hL⟩ := hL
 have hMl : M.length = 3 + H.length + (cN c1 c2 (bJ bs 0)).length := by rw [← hM]; simp only [zb, qH]
 have hfew := qKs (c2 := c2) h1 (bJ bs 0) hu
 have hLl : M.length ≤ 8 * (qL M).length := by rw [← cW, hL, zb]; omega
 have ht1 : bZ (ofB (qL M)) 1 0 = .ok (1, 1) := by
  have := dS (L := ofB (qL M)) (A := []) (B := bitsL 1 1) (n := 1) (p := 0) ⟨bitsL k 2 ++ H ++ cN c1 c2 (bJ bs 0) ++ C, by rw [hL, ← hM]; simp only [zj, zbo]⟩ rfl rfl
  exact this
 have ht2 : bZ (ofB (qL M)) 2 1 = .ok (k, 3) := by
  have := dS (L := ofB (qL M)) (A := bitsL 1 1) (B := bitsL k 2) (n := 2) (p := 1) ⟨H ++ cN c1 c2 (bJ bs 0) ++ C, by rw [hL, ← hM]; simp only [zj]⟩ (by rw [qH]) rfl
  rw [eG 2 k (by rcases hk with rfl | rfl <;> decide)] at this
  exact this
 have htok := oN hl hB h1 h2 h0 bs.length 0 (8 * (qL M).length + 1) (ofB (qL M)) (bitsL 1 1 ++ bitsL k 2 ++ H) C (3 + H.length) jo jo hu (by rw [hL, ← hM]) (by simp only [zb, qH]) (by
  unfold cN at hMl
  rw [zb] at hMl
  omega)
 rw [zdo] at htok
 have hblk : gR (qL M) bs.length 0 [] = .ok (false, 3 + H.length + (cN c1 c2 (bJ bs 0)).length, bs) := by
  unfold gR
  rw [ht1, qS]
  dsimp only
  rw [ht2, qS]
  dsimp only
  rw [if_neg jo, if_neg jo]
  rcases hc with ⟨rfl, rfl, rfl, rfl⟩ | ⟨rfl, hcC⟩
  ·
   rw [if_pos rfl]
   rw [zct, zdh] at htok ⊢
   rw [htok, qS]
   rfl
  rw [if_neg jo]
  have hcC := hcC C
  rw [← hL] at hcC
  rw [hcC, qS]
  dsimp only
  rw [htok, qS]
  rfl
 unfold gV
 rw [if_neg jo, zal, gI, hblk, qS]
 dsimp only
 rw [if_neg jd, qS, cQ, hMl]
end
section
open Go.RowKit
theorem tY {α : Type} {f : List Nat → α → List Nat} (h : ∀ c t i, c.getD i 0 ≤ (f c t).getD i 0) : ∀ (l : List α) c i, c.getD i 0 ≤ (l.foldl f c).getD i 0
 | [], _, _ => zk _
 | t :: l, c, i => zo (h c t i) (tY h l _ i)
theorem nN {α : Type} {f : List Nat → α → List Nat} {n : Nat} (h : ∀ c t i, c.getD i 0 ≤ (f c t).getD i 0) (hlen : ∀ c t, (f c t).length = c.length) {t : α} {k : Nat} (hk : ∀ c, c.length = n → 0 < (f c t).getD k 0) : ∀ (l : List α) c, c.length = n → t ∈ l → 0 < (l.foldl f c).getD k 0
 | [], _, _, h => by cases h
 | u :: l, c, hc, hm => by
  rcases zcq.1 hm with rfl | hm
  · exact zat (hk c hc) (tY h l _ k)
  exact nN h hlen hk l _ (by rw [hlen]; exact hc) hm
theorem tG (c : List Nat) (k i : Nat) : c.getD i 0 ≤ (c.set k (c.getD k 0 + 1)).getD i 0 := by
 simp only [zc, zek]
 by_cases h : k = i
 ·
  subst h
  by_cases h2 : k < c.length
  · simp [h2]
  simp [h2]
 simp [h]
theorem rY (c : List Nat) (k : Nat) (h : k < c.length) : 0 < (c.set k (c.getD k 0 + 1)).getD k 0 := by
 simp [zc, h]
theorem vS (c : List Nat) (t : Tk) (i : Nat) : c.getD i 0 ≤ (dE c t).getD i 0 := by
 unfold dE
 split <;> exact tG _ _ _
theorem qNe (c : List Nat) (t : Tk) (i : Nat) : c.getD i 0 ≤ (eN c t).getD i 0 := by
 unfold eN
 split
 · exact zk _
 exact tG _ _ _
theorem qJq {lt : List Tk} (hok : ∀ t ∈ lt, pU t) : (∀ t ∈ lt, if t.2.1 = 0 then (cA lt).getD t.1 0 ≠ 0 else (cA lt).getD (257 + lenS t.2.1) 0 ≠ 0 ∧ (eW lt).getD (wayS t.2.2) 0 ≠ 0) ∧ (cA lt).getD 256 0 ≠ 0 := by
 have h0l : pF.length = 286 := by unfold pF; rw [zci, zba]
 refine ⟨fun t ht => ?_, ?_⟩
 ·
  have hq := hok t ht
  by_cases h0 : t.2.1 = 0
  ·
   rw [if_pos h0]
   have h1 : t.1 < 256 := by rcases hq with ⟨_, _, h⟩ | ⟨_, h, _⟩ <;> omega
   have := nN (n := 286) (k := t.1) vS litStep_len (fun c hc => by unfold dE; rw [if_pos h0]; exact rY _ _ jo) lt pF h0l ht
   unfold cA
   omega
  rw [if_neg h0]
  obtain ⟨q3, q4, q5, q6⟩ : 3 ≤ t.2.1 ∧ t.2.1 ≤ 258 ∧ 1 ≤ t.2.2 ∧ t.2.2 ≤ 32768 := by
   rcases hq with ⟨h, _⟩ | ⟨_, h⟩
   · exact absurd h h0
   exact h
  have hl := (hZ q3 q4).1
  have hw := (jZ q5 q6).1
  have h1 := nN (n := 286) (k := 257 + lenS t.2.1) vS litStep_len (fun c hc => by unfold dE; rw [if_neg h0]; exact rY _ _ jo) lt pF h0l ht
  have h2 := nN (n := 30) (k := wayS t.2.2) qNe wayStep_len (fun c hc => by unfold eN; rw [if_neg h0]; exact rY _ _ jo) lt (List.replicate 30 0) jp ht
  unfold cA eW
  exact ⟨jo, jo⟩
 have h1 := tY vS lt pF 256
 have h2 : pF.getD 256 0 = 1 := jd
 unfold cA
 omega
theorem uR {L : List Sd} (hok : ∀ t ∈ L, vN t) : ∀ t ∈ L, (dC L).getD t.1 0 ≠ 0 := by
 intro t ht
 have h1 := (hok t ht).1
 have := nN (f := timeStep) (n := 19) (k := t.1) (fun c t i => tG c t.1 i) (fun c t => by unfold timeStep; rw [zci]) (fun c hc => rY c t.1 jo) L (rep 19) (by simp [rep]) ht
 unfold dC
 omega
theorem xJ {L : List Bool} {v : Nat → Nat} (hv : ∀ s, v s ≤ 7) : ∀ (R : List Nat) (A C : List Bool) (p : Nat) (l : List Int), L = A ++ (R.map v).flatMap (fun n => bitsL n 3) ++ C → p = A.length → gP L R p l = .ok (p + 3 * R.length, R.foldl (fun l s => l.set s ((v s : Nat) : Int)) l)
 | [], A, C, p, l, _, _ => rfl
 | s :: R, A, C, p, l, hL, hp => by
  have ht := dS (L := L) (A := A) (B := bitsL (v s) 3) (n := 3) (p := p) ⟨(R.map v).flatMap (fun n => bitsL n 3) ++ C, by rw [hL]; simp only [zbj, zm, zj]⟩ (by rw [qH]) hp
  rw [eG 3 (v s) (by have := hv s; omega)] at ht
  rw [gP, ht, qS]
  dsimp only
  rw [xJ hv R (A ++ bitsL (v s) 3) C (p + 3) _ (by rw [hL]; simp only [zbj, zm, zj]) (by rw [zb, qH, hp]), zq, zdy]
  congr 2
  omega
theorem qZl (v : Nat → Nat) : ∀ (R : List Nat) (l : List Int), (R.foldl (fun l s => l.set s ((v s : Nat) : Int)) l).length = l.length
 | [], _ => rfl
 | s :: R, l => by rw [zdy, qZl v R, zci]
theorem qQa (v : Nat → Nat) : ∀ (R : List Nat) (l : List Int) (i : Nat), i < l.length → (R.foldl (fun l s => l.set s ((v s : Nat) : Int)) l).getD i 0 = if i ∈ R then ((v i : Nat) : Int) else l.getD i 0
 | [], _, _, _ => rfl
 | s :: R, l, i, hi => by
  rw [zdy, qQa v R _ i (by rw [zci]; exact hi)]
  by_cases h : i ∈ R
  · rw [if_pos h, if_pos (zbi _ h)]
  rw [if_neg h]
  by_cases h2 : s = i
  ·
   subst h2
   rw [if_pos zbf]
   simp [zc, hi]
  rw [if_neg (by rw [zcq]; rintro (h3 | h3); exact h2 h3.symm; exact h h3)]
  simp [zc, h2]
theorem nP : bQ.length = 19 := rfl
theorem qGt : ∀ s, s < 19 → ∃ j, j < 19 ∧ bQ.getD j 0 = s := by decide +kernel
theorem qWa {third : List Nat} (h19 : third.length = 19) (w : Nat) (hw : w = (cM (cU third) 4).length) : (bQ.take w).foldl (fun l s => l.set s ((third.getD s 0 : Nat) : Int)) (List.replicate 19 0) = toZ third := by
 apply zap
 intro i
 have hlen := qZl (fun s => third.getD s 0) (bQ.take w) (List.replicate 19 0)
 rw [zba] at hlen
 by_cases hi : i < 19
 ·
  have h1 := qQa (fun s => third.getD s 0) (bQ.take w) (List.replicate 19 0) i (by rw [zba]; exact hi)
  rw [zc, za (by rw [hlen]; exact hi), zaz] at h1
  rw [za (by rw [hlen]; exact hi), h1]
  have h2 : (toZ third)[i]? = some ((third.getD i 0 : Nat) : Int) := by
   have := lN third i
   rw [zc, za (by rw [bL, h19]; exact hi), zaz] at this
   rw [za (by rw [bL, h19]; exact hi), this]
  rw [h2]
  by_cases h3 : i ∈ bQ.take w
  · rw [if_pos h3]
  rw [if_neg h3]
  obtain ⟨j, hj, hji⟩ := qGt i hi
  have hwj : w ≤ j := by
   rcases zgs j w with h | h
   ·
    exfalso
    refine h3 ?_
    rw [← hji, zc, za (show j < bQ.length by rw [nP]; exact hj), zaz]
    exact List.mem_take_iff_getElem.2 ⟨j, by rw [nP]; omega, rfl⟩
   exact h
  have h4 := oQ (cU third) 4 (cU third).length j (by rw [← fF, ← hw]; exact hwj) (by rw [lP]; exact hj)
  have h5 : (cU third).getD j 0 = third.getD i 0 := by
   unfold cU
   rw [zc, zbk, za (show j < bQ.length by rw [nP]; exact hj)]
   rw [zc (l := bQ), za (show j < bQ.length by rw [nP]; exact hj), zaz] at hji
   simp only [zgp, zaz, hji]
  rw [← h5, h4, zc, zfk, if_pos hi]
  rfl
 rw [zr jo, zr (by rw [bL]; omega)]
theorem xK (l : List Nat) (v : Nat) : ∀ m n j, j < mW l v m n → n + j < l.length ∧ l.getD (n + j) 0 = v
 | 0, n, j, h => by simp [mW] at h
 | m + 1, n, j, h => by
  by_cases hc : n < l.length ∧ l.getD n 0 = v
  ·
   rw [xD hc.1 hc.2 jo, zfp] at h
   cases j with
   | zero => exact hc
   | succ j =>
    have := xK l v m (n + 1) j jo
    rw [show n + (j + 1) = n + 1 + j by omega]
    exact this
  rw [zY hc] at h
  omega
theorem qZm (l : List Nat) (a : Nat) : ∀ n, n ≤ runN l a → l.take (a + n) = l.take a ++ List.replicate n (l.getD a 0)
 | 0, _ => jp
 | n + 1, h => by
  have h1 := xK l (l.getD a 0) (l.length - a) a n (by unfold runN at h; omega)
  rw [← zee, rW h1.1, qZm l a n jo, h1.2, zj, List.replicate_succ']
theorem mB (a b : List Nat) : toZ (a ++ b) = toZ a ++ toZ b := by simp [toZ]
theorem qRg (n v : Nat) : toZ (List.replicate n v) = List.replicate n (v : Int) := by simp [toZ]
theorem qGu {L A C : List Bool} {third : List Int} {x : List Nat} {a p : Nat} (h3 : ROk third) (hl : third.length = 19) (hx : ∀ i, x.getD i 0 ≤ 15) (ha : a < x.length) (hu : third.getD (bT x a).1.1 0 ≠ 0) (hL : L = A ++ dR third (bT x a).1 ++ C) (hp : p = A.length) :
  lC L third p (toZ (x.take a)) x.length = .ok (p + (dR third (bT x a).1).length, toZ (x.take (a + (bT x a).2))) := by
 have hle := qXx ha
 have hal : (toZ (x.take a)).length = a := by rw [bL, zi]; omega
 obtain ⟨hs19, hn7, hv⟩ := qZf hx a
 have hsym := (gT h3 (by rw [hl]; exact hs19) hu (L := L) (p := p) ⟨A, bitsL (bT x a).1.2.2 (bT x a).1.2.1 ++ C, by rw [hL]; unfold dR; simp only [zj], hp⟩).1
 have htk : bZ L (bT x a).1.2.1 (p + (bK third (bT x a).1.1).length) = .ok ((bT x a).1.2.2, p + (bK third (bT x a).1.1).length + (bT x a).1.2.1) := by
  have := dS (L := L) (A := A ++ bK third (bT x a).1.1) (B := bitsL (bT x a).1.2.2 (bT x a).1.2.1) (n := (bT x a).1.2.1) (p := p + (bK third (bT x a).1.1).length) ⟨C, by rw [hL]; unfold dR; simp only [zj]⟩ (by rw [qH]) (by rw [zb, hp])
  rw [eG _ _ hv] at this
  exact this
 have hlen : (dR third (bT x a).1).length = (bK third (bT x a).1.1).length + (bT x a).1.2.1 := by unfold dR; rw [zb, qH]
 rw [hlen, ← zee]
 generalize hk : (bK third (bT x a).1.1).length = k at hsym htk ⊢
 have hrun : (bT x a).2 ≤ runN x a := by
  have := qXw ha
  unfold bT
  split
  · dsimp only; omega
  split
  · dsimp only; omega
  split
  · dsimp only; omega
  dsimp only; omega
 have htr := qZm x a _ hrun
 unfold lC
 rw [hsym, qS]
 dsimp only
 rw [htr, mB, qRg]
 have hsa := hle
 unfold bT at htk hsa ⊢
 by_cases c1 : x.getD a 0 = 0 ∧ 11 ≤ runN x a
 ·
  rw [if_pos c1] at htk hsa ⊢
  dsimp only at htk hsa ⊢
  rw [if_neg jo, if_neg jo, if_pos rfl, htk, qS, qS]
  dsimp only
  rw [hal, if_neg jo, show 11 + (min (runN x a) 138 - 11) = min (runN x a) 138 by omega, c1.1]
  rfl
 rw [if_neg c1] at htk hsa ⊢
 by_cases c2 : x.getD a 0 = 0 ∧ 3 ≤ runN x a
 ·
  rw [if_pos c2] at htk hsa ⊢
  dsimp only at htk hsa ⊢
  rw [if_neg jo, if_pos rfl, htk, qS, qS]
  dsimp only
  rw [hal, if_neg jo, show 3 + (min (runN x a) 10 - 3) = min (runN x a) 10 by omega, c2.1]
  rfl
 rw [if_neg c2] at htk hsa ⊢
 by_cases c3 : 0 < a ∧ x.getD (a - 1) 0 = x.getD a 0 ∧ 3 ≤ runN x a
 ·
  rw [if_pos c3] at htk hsa ⊢
  dsimp only at htk hsa ⊢
  have hlast : (toZ (x.take a)).getD (a - 1) 0 = ((x.getD a 0 : Nat) : Int) := by
   rw [lN, zc, zao jo, ← zc, c3.2.1]
  rw [if_pos rfl, hal, if_neg jo, htk, qS, qS]
  dsimp only
  rw [if_neg jo, show 3 + (min (runN x a) 6 - 3) = min (runN x a) 6 by omega, hlast]
 rw [if_neg c3] at htk hsa ⊢
 dsimp only at htk hsa ⊢
 have h15 := hx a
 rw [if_neg jo, if_neg jo, if_neg jo, qS]
 dsimp only
 rw [hal, if_neg jo]
 rfl
theorem xV {L : List Bool} {third : List Int} {x : List Nat} (h3 : ROk third) (hl : third.length = 19) (hx : ∀ i, x.getD i 0 ≤ 15) :
  ∀ m a f (A C : List Bool) p, x.length - a ≤ m → a ≤ x.length → (dL x a).length < f → (∀ t ∈ dL x a, third.getD t.1 0 ≠ 0) → L = A ++ (dL x a).flatMap (dR third) ++ C → p = A.length →
   kC L third x.length f p (toZ (x.take a)) = .ok (p + ((dL x a).flatMap (dR third)).length, toZ x)
 | m, a, 0, _, _, _, _, _, hf, _, _, _ => jo
 | m, a, f + 1, A, C, p, hm, ha, hf, hu, hL, hp => by
  have hal : (toZ (x.take a)).length = a := by rw [bL, zi]; omega
  rw [kC, hal]
  by_cases h1 : a < x.length
  ·
   rw [lL h1] at hu hL hf ⊢
   have hpos := sE (l := x) (a := a)
   have hle := qXx h1
   rw [zm] at hL ⊢
   cases m with
   | zero => omega
   | succ m =>
    rw [if_pos h1, qGu h3 hl hx h1 (hu _ zbf) (show L = A ++ dR third (bT x a).1 ++ ((dL x (a + (bT x a).2)).flatMap (dR third) ++ C) by rw [hL]; simp only [zj]) hp, qS]
    dsimp only
    rw [xV h3 hl hx m (a + (bT x a).2) f (A ++ dR third (bT x a).1) C _ jo hle (by simpa using hf) (fun t ht => hu t (zbi _ ht)) (by rw [hL]; simp only [zj]) (by rw [zb, hp]), zb, zee]
  rw [if_neg h1, qXy jo, zn jo]
  rfl
theorem qKt {third : List Int} (h : ROk third) : ∀ L : List Sd, (∀ t ∈ L, third.getD t.1 0 ≠ 0) → L.length ≤ (L.flatMap (dR third)).length
 | [], _ => zk _
 | t :: L, hu => by
  have ih := qKt h L (fun t ht => hu t (zbi _ ht))
  have h0 := hu t zbf
  have := (gT h (eT h0) h0 ⟨[], [], rfl, rfl⟩).2
  rw [zm, zb, zq]
  unfold dR at ih ⊢
  rw [zb]
  omega
theorem tH {α β : Type} {f g : α → List β} : ∀ l : List α, (∀ t ∈ l, f t = g t) → l.flatMap f = l.flatMap g
 | [], _ => rfl
 | t :: l, h => by rw [zm, zm, h t zbf, tH l (fun t ht => h t (zbi _ ht))]
end
section
open Go.RowKit
def uQ (i : Nat) : FuncId := if i = 0 then 33 else 34
noncomputable section
def rG (bs : List Nat) (i : Nat) : List Nat := if i = 0 then qL (fW bs) else qL (gS bs)
def dZ (bs : List Nat) : Nat → List Nat
 | 0 => cD bs
 | i + 1 => if (rG bs i).length < (dZ bs i).length then rG bs i else dZ bs i
end
theorem qGv (i : Nat) (args : Array Value) (w : World) : (callFunc (uQ i) args).run Tryz.prog w = .ok (.enter (uQ i) args) w := by
 unfold uQ
 split
 · exact Tryz.call33 args w
 exact Tryz.call34 args w
theorem qGw (i : Nat) (A : Option Addr) (c : Nat) (bs : List Nat) (w : World) (hl : bs.length ≤ 32768) (hc : bs.length ≤ c) (hB : ∀ b ∈ bs, b < 256) (hr : Rd w 1 A bs.length (NB bs)) :
  Calls Tryz.prog (uQ i) #[.slice A bs.length c] w fun e w' => ∃ B d, e = .returned (.tuple #[.slice B (rG bs i).length d, .int .i64 ((0 : Nat) : Int)]) ∧ Own w' 5 1 B (rG bs i).length d (NB (rG bs i)) ∧ Frm [] w w' ∧ ∀ x ∈ ob B, w.heap.size ≤ x := by
 unfold uQ rG
 split
 · exact qY3 A c bs w hl hc hB hr
 exact qGs A c bs w hl hc hB hr
def qWb : Array Value := #[.func (.func 33) #[] #[], .func (.func 34) #[] #[]]
theorem qNf (i : Nat) (h : i < 2) : qWb[i]? = some (.func (.func (uQ i)) #[] #[]) := by
 rcases (by omega : i = 0 ∨ i = 1) with rfl | rfl <;> rfl
theorem qSm (w : World) : (zeroValue 52).run Tryz.prog w = .ok .nilFunc w := by
 simp only [zeroValue, Sem.run_bind, Tryz.typeInfo52, Result.andThen_ok]; rfl
theorem qGx (A : Option Addr) (c : Nat) (bs : List Nat) (w : World) (hl : bs.length ≤ 32768) (hc : bs.length ≤ c) (hB : ∀ b ∈ bs, b < 256) (hr : Rd w 1 A bs.length (NB bs)) :
  Calls Tryz.prog 18 #[.slice A bs.length c] w fun e w' => ∃ B d, e = .returned (.tuple #[.slice B (dZ bs 2).length d, .int .i64 ((0 : Nat) : Int)]) ∧ Own w' 5 1 B (dZ bs 2).length d (NB (dZ bs 2)) ∧ Frm [] w w' ∧ ∀ x ∈ ob B, w.heap.size ≤ x := by
 refine VC.calls (nt := 34) (res := #[.tmp 2, .tmp 3]) Tryz.func18 rfl Tryz.ntmps18 Tryz.results18 rfl ?_
 refine jS (jR (ja rfl (jz 0 (jO (jN (jv1 0 ?_))))))
 refine jS (jR (jM ?_))
 refine Ops.cl (jE1 Tryz.call32) (qGr A c bs w jo hc hB hr) rfl ?_
 rintro e w1 ⟨B0, c0, rfl, ho0, K, hu0⟩
 refine ⟨_, rfl, ?_⟩
 refine ja rfl (jO (jN (jv2 0 4 ?_)))
 refine jS (jS (jR ?_))
 refine Ops.m (qJ.buildN (cells := qWb) (evs.cons rfl (evs.cons rfl evs.nil)) Tryz.underlying73 Tryz.sizeOf52 qSm rfl rfl jK) rfl ?_
 rintro _ w2 ⟨rfl, hF2⟩
 have hb2 := hF2.blk
 have ho0 := ho0.frm hF2.frm jp
 have K2 : Frm [] w w2 := K.trans hF2.frm jp
 have hgl : w.heap.size ≤ w1.heap.size := K.size
 generalize w1.heap.size = gk at hb2 hgl ⊢
 refine je (Run.lenS rfl Tryz.underlying73) ?_
 refine jx .i64 0 ?_
 refine jO (jN (jB ?_))
 refine VC.loop (σ := Nat × Option Addr × Nat) (fun s => [(0, .slice A bs.length c), (4, .slice s.2.1 (dZ bs s.1).length s.2.2), (11, .slice (some ⟨gk, 0, none⟩) 2 2), (12, .int .i64 ((2 : Nat) : Int)), (13, .int .i64 ((s.1 : Nat) : Int))]) (fun s wr => s.1 ≤ 2 ∧ Own wr 5 1 s.2.1 (dZ bs s.1).length s.2.2 (NB (dZ bs s.1)) ∧ Blk wr gk 52 qWb ∧ Frm [] w wr ∧ ∀ x ∈ ob s.2.1, w.heap.size ≤ x) (fun s => 2 - s.1) (0, B0, c0) (js5 rfl rfl rfl rfl rfl) ⟨zas _, ho0, hb2, K2, hu0⟩ ?_
 rintro ⟨i, B, d⟩ wr ⟨hi, hO, hb2, K, hu⟩
 dsimp only at hi hO hu ⊢
 refine jS (jR (jb rfl rfl (Bin.lssN _ _) (jO (jN (jS ?_)))))
 refine jD rfl (fun hc1 => ?_) fun hc1 => ?_
 ·
  refine jQ (jN (jv5 0 4 11 12 13 ?_))
  refine jS (jB (jS (jR (je (Run.index1 _ rfl rfl Tryz.underlying73 Tryz.sizeOf52 jo) (jl rfl Tryz.isAgg52 (by rw [kT, hb2.cell]; exact qNf i hc1) (ja rfl (jO (jN (jv6 0 4 6 11 12 13 ?_)))))))))
  refine jS (jR (jm rfl (jM ?_)))
  refine Ops.cl (bW.dyn rfl (evs.cons rfl evs.nil) (qGv i)) (qGw i A c bs wr hl hc hB (hr.frm K jp)) rfl ?_
  rintro e w3 ⟨B3, d3, rfl, hO3, hf3, hu3⟩
  refine ⟨_, rfl, ?_⟩
  have hO := hO.frm hf3 jp
  have hb2 := hb2.frm hf3 jp
  have hu3 : ∀ x ∈ ob B3, w.heap.size ≤ x := fun x hx => zo K.size (hu3 x hx)
  have K := K.trans hf3 jp
  refine jm rfl (je (Run.extract rfl rfl) (je (Run.extract rfl rfl) (ja rfl (ja rfl (jO (jN (jv7 0 4 7 8 11 12 13 ?_)))))))
  refine jS (jS (jR (jm rfl (jb rfl rfl (Bin.neqN _ 0) (jO (jN (jv8 0 4 7 8 11 12 13 24 ?_)))))))
  refine VC.condF rfl jd ?_
  refine jQ (jN (jv6 0 4 7 11 12 13 ?_))
  refine jS (jR (jm rfl (je (Run.lenS rfl ze) (jm rfl (je (Run.lenS rfl ze) (jb rfl rfl (Bin.lssN _ _) (jO (jN (jv7 0 4 7 11 12 13 30 ?_)))))))))
  refine jD rfl (fun hc3 => ?_) fun hc3 => ?_
  ·
   refine jR (jm rfl (ja rfl (jO ?_)))
   refine qK (jN ?_)
   refine jv5 0 4 11 12 13 ?_
   refine jR (jb rfl rfl (Bin.add_i64 _ 1 jo) (jm rfl (jO ?_)))
   refine jN ⟨(i + 1, B3, d3), (js5 rfl (by rw [dZ, if_pos hc3]; rfl) rfl rfl rfl), ?_, ?_⟩
   ·
    have e : dZ bs (i + 1) = rG bs i := by rw [dZ, if_pos hc3]
    exact ⟨hc1, by rw [e]; exact hO3, hb2, K, hu3⟩
   first | omega | (dsimp only; omega)
  refine jQ ?_
  refine qK (jN ?_)
  refine jv5 0 4 11 12 13 ?_
  refine jR (jb rfl rfl (Bin.add_i64 _ 1 jo) (jm rfl (jO ?_)))
  refine jN ⟨(i + 1, B, d), (js5 rfl (by rw [dZ, if_neg hc3]; rfl) rfl rfl rfl), ?_, ?_⟩
  ·
   have e : dZ bs (i + 1) = dZ bs i := by rw [dZ, if_neg hc3]
   exact ⟨hc1, by rw [e]; exact hO, hb2, K, hu⟩
  first | omega | (dsimp only; omega)
 refine jX ?_
 refine qZ (qZ (qP ?_))
 refine jN (jv1 4 ?_)
 refine jS (jR (jm rfl (ja rfl (jz 0 (jO (jN (jv2 2 3 ?_)))))))
 refine jT ?_
 refine cG rfl rfl ?_
 have ei : i = 2 := jo
 subst ei
 exact ⟨B, d, rfl, hO, K, hu⟩
end
section
open Go.RowKit
def IsU (w : World) (g : Nat) (A : Option Addr) (l : List Bool) : Prop := ∃ c, Blk w g 124 #[.slice A l.length c] ∧ Own w 4 1 A l.length c (BL l)
theorem IsU.frm {w w' : World} {g : Nat} {A : Option Addr} {l : List Bool} {S : List Nat} (h : IsU w g A l) (k : Frm S w w') (hS : ∀ x ∈ g :: ob A, x ∉ S) : IsU w' g A l := by
 obtain ⟨c, h1, h2⟩ := h
 exact ⟨c, h1.frm k (hS g jp), h2.frm k (fun x hx => hS x (by simp [hx]))⟩
def UR (w w' : World) (g : Nat) (A : Option Addr) (l : List Bool) : Prop := ∃ A', IsU w' g A' l ∧ Frm (g :: ob A) w w' ∧ ∀ x ∈ ob A', x ∈ ob A ∨ w.heap.size ≤ x
end
section
open Go.RowKit
theorem UR.trans {w w1 w2 : World} {g : Nat} {A A1 : Option Addr} {l2 : List Bool} (f : Frm (g :: ob A) w w1) (hA : ∀ x ∈ ob A1, x ∈ ob A ∨ w.heap.size ≤ x) (h : UR w1 w2 g A1 l2) : UR w w2 g A l2 := by
 obtain ⟨A2, h1, h2, h3⟩ := h
 refine ⟨A2, h1, f.trans h2 (fun x hx => ?_), fun x hx => ?_⟩
 ·
  rcases zcq.1 hx with rfl | hx
  · exact .inl jp
  rcases hA x hx with h | h
  · exact .inl (by simp [h])
  exact .inr h
 rcases h3 x hx with h | h
 · exact hA x h
 exact .inr (zo f.size h)
end
section
open Go.RowKit
theorem qN7 (bs : List Nat) : dZ bs 2 = if (qL (gS bs)).length < (if (qL (fW bs)).length < (cD bs).length then qL (fW bs) else cD bs).length then qL (gS bs) else (if (qL (fW bs)).length < (cD bs).length then qL (fW bs) else cD bs) := rfl
end
section
open Go.RowKit
theorem mC : (∀ i, i < 288 → cK.getD i 0 ≠ 0) ∧ ∀ i, i < 32 → cH.getD i 0 ≠ 0 := by decide +kernel
theorem qNg (bs : List Nat) (hl : bs.length ≤ 32768) (hB : ∀ b ∈ bs, b < 256) : gV (qL (fW bs)) bs.length = .ok (bs, (qL (fW bs)).length) := by
 have h := zO (bs := bs) (c1 := cK) (c2 := cH) (H := []) (k := 1) hl hB zA.1 zA.2 (mC.1 256 jo) (fun t ht => by
  have hq := oO bs 0 hl hB t ht
  unfold tW
  split
  ·
   rename_i h0
   exact mC.1 _ (by rcases hq with ⟨_, _, h⟩ | ⟨_, h, _⟩ <;> omega)
  rename_i h0
  obtain ⟨q3, q4, q5, q6⟩ : 3 ≤ t.2.1 ∧ t.2.1 ≤ 258 ∧ 1 ≤ t.2.2 ∧ t.2.2 ≤ 32768 := by
   rcases hq with ⟨h, _⟩ | ⟨_, h⟩
   · exact absurd h h0
   exact h
  have hl := (hZ q3 q4).1
  have hw := (jZ q5 q6).1
  exact ⟨mC.1 _ jo, mC.2 _ jo⟩) (.inl ⟨rfl, rfl, rfl, rfl⟩)
 rw [zcz] at h
 exact h
theorem qZn {l : List Nat} {least s : Nat} (h : l.getD s 0 ≠ 0) : s < (cM l least).length ∧ (cM l least).getD s 0 = l.getD s 0 := by
 have hs := kL h
 have h1 : s < (cM l least).length := by
  rw [fF]
  rcases zgs s (fX l least l.length) with h2 | h2
  · exact h2
  exact absurd (oQ l least l.length s h2 hs) h
 refine ⟨h1, ?_⟩
 rw [fF] at h1
 unfold cM
 rw [zc, zao h1, ← zc]
theorem qZo (bs : List Nat) (hl : bs.length ≤ 32768) (hB : ∀ b ∈ bs, b < 256) : gV (qL (gS bs)) bs.length = .ok (bs, (qL (gS bs)).length) := by
 have hok := oO bs 0 hl hB
 obtain ⟨hlo, hlr⟩ := tK (cs := cA (bJ bs 0)) (m := 15) (by rw [dW]; omega) jo jo (by rw [dW]; decide)
 obtain ⟨hwo, hwr⟩ := tK (cs := eW (bJ bs 0)) (m := 15) (by rw [eQ]; omega) jo jo (by rw [eQ]; decide)
 obtain ⟨h3o, h3r⟩ := tK (cs := dC (bH bs)) (m := 7) (by rw [fA]; omega) jo jo (by rw [fA]; decide)
 have hlo : LenOk (cA (bJ bs 0)) (dT bs) 15 := hlo
 have hwo : LenOk (eW (bJ bs 0)) (eY bs) 15 := hwo
 have h3o : LenOk (dC (bH bs)) (bD bs) 7 := h3o
 have hlr : ROk (toZ (dT bs)) := hlr
 have hwr : ROk (toZ (eY bs)) := hwr
 have h3r : ROk (toZ (bD bs)) := h3r
 obtain ⟨hL1, hL2, hM1, hM2, hF1, hF2, hLok, hLl⟩ := xZ bs hlo hwo
 have h3l : (bD bs).length = 19 := h3o.len.trans (fA _)
 obtain ⟨huse, h256⟩ := qJq hok
 have hlit : ∀ s, (cA (bJ bs 0)).getD s 0 ≠ 0 → (dT bs).getD s 0 ≠ 0 := fun s hs h0 => hs ((hlo.come s (kL hs)).1 h0)
 have hway : ∀ s, (eW (bJ bs 0)).getD s 0 ≠ 0 → (eY bs).getD s 0 ≠ 0 := fun s hs h0 => hs ((hwo.come s (kL hs)).1 h0)
 have hthi : ∀ s, (dC (bH bs)).getD s 0 ≠ 0 → (bD bs).getD s 0 ≠ 0 := fun s hs h0 => hs ((h3o.come s (kL hs)).1 h0)
 have hmr : ROk (toZ (bV bs)) := hlr.cut 257
 have hfr : ROk (toZ (bO bs)) := hwr.cut 1
 have hml : ∀ s, (cA (bJ bs 0)).getD s 0 ≠ 0 → s < (bV bs).length ∧ (bV bs).getD s 0 ≠ 0 := fun s hs => by
  have h1 := hlit s hs
  have h2 := qZn (least := 257) h1
  exact ⟨h2.1, by unfold bV; rw [h2.2]; exact h1⟩
 have hfl : ∀ s, (eW (bJ bs 0)).getD s 0 ≠ 0 → s < (bO bs).length ∧ (bO bs).getD s 0 ≠ 0 := fun s hs => by
  have h1 := hway s hs
  have h2 := qZn (least := 1) h1
  exact ⟨h2.1, by unfold bO; rw [h2.2]; exact h1⟩
 have hz : ∀ (l : List Nat) s, l.getD s 0 ≠ 0 → (toZ l).getD s 0 ≠ 0 := fun l s h => by rw [lN]; omega
 have hu : ∀ t ∈ bJ bs 0, tW (toZ (bV bs)) (toZ (bO bs)) t := fun t ht => by
  have h1 := huse t ht
  unfold tW
  split
  ·
   rename_i h0
   rw [if_pos h0] at h1
   exact hz _ _ (hml _ h1).2
  rename_i h0
  rw [if_neg h0] at h1
  exact ⟨hz _ _ (hml _ h1.1).2, hz _ _ (hfl _ h1.2).2⟩
 have htok : cN (toZ (dT bs)) (toZ (eY bs)) (bJ bs 0) = cN (toZ (bV bs)) (toZ (bO bs)) (bJ bs 0) := by
  have hc : ∀ t ∈ bJ bs 0, gK (toZ (dT bs)) (toZ (eY bs)) t = gK (toZ (bV bs)) (toZ (bO bs)) t := fun t ht => by
   have h1 := huse t ht
   unfold gK
   split
   ·
    rename_i h0
    rw [if_pos h0] at h1
    exact oX _ 257 _ (hml _ h1).1
   rename_i h0
   rw [if_neg h0] at h1
   unfold lG mV
   have e1 : bK (toZ (dT bs)) (257 + lenS t.2.1) = bK (toZ (bV bs)) (257 + lenS t.2.1) := oX _ 257 _ (hml _ h1.1).1
   have e2 : bK (toZ (eY bs)) (wayS t.2.2) = bK (toZ (bO bs)) (wayS t.2.2) := oX _ 1 _ (hfl _ h1.2).1
   rw [e1, e2]
  have e3 : bK (toZ (dT bs)) 256 = bK (toZ (bV bs)) 256 := oX _ 257 _ (hml _ h256).1
  unfold cN
  rw [e3]
  congr 1
  exact tH _ hc
 have h256m := hz _ _ (hml _ h256).2
 have hxb : ∀ i, (bV bs ++ bO bs).getD i 0 ≤ 15 := uP _ _ _ (mQ _ _ _ hlo.most) (mQ _ _ _ hwo.most)
 have hw19 : 4 ≤ (bP bs).length ∧ (bP bs).length ≤ 19 := by
  have := mT (cU (bD bs)) 4 (by rw [lP]; omega)
  rw [lP] at this
  exact this
 have hwm : bP bs = (bQ.take (bP bs).length).map (fun s => (bD bs).getD s 0) := by
  have e : bP bs = (cU (bD bs)).take (bP bs).length := by
   have h1 := pQ (cU (bD bs)) 4 (cU (bD bs)).length
   have h2 : (bP bs).length = fX (cU (bD bs)) 4 (cU (bD bs)).length := fF _ _
   rw [h2]
   rfl
  rw [zeg]
  exact e
 have hxl : (bV bs ++ bO bs).length = (bV bs).length + (bO bs).length := zb
 have h := zO (bs := bs) (c1 := toZ (bV bs)) (c2 := toZ (bO bs)) (H := bitsL ((bV bs).length - 257) 5 ++ bitsL ((bO bs).length - 1) 5 ++ bitsL ((bP bs).length - 4) 4 ++ (bP bs).flatMap (fun n => bitsL n 3) ++ (bH bs).flatMap (dR (toZ (bD bs)))) (k := 2) hl hB hmr hfr h256m hu (.inr ⟨rfl, fun C => ?_⟩)
 ·
  have e : bitsL 1 1 ++ bitsL 2 2 ++ (bitsL ((bV bs).length - 257) 5 ++ bitsL ((bO bs).length - 1) 5 ++ bitsL ((bP bs).length - 4) 4 ++ (bP bs).flatMap (fun n => bitsL n 3) ++ (bH bs).flatMap (dR (toZ (bD bs)))) ++ cN (toZ (bV bs)) (toZ (bO bs)) (bJ bs 0) = gS bs := by
   unfold gS
   rw [htok]
   simp only [zj]
  rw [e] at h
  exact h
 generalize hTC : cN (toZ (bV bs)) (toZ (bO bs)) (bJ bs 0) ++ C = TC
 rw [zj _ _ C, hTC]
 generalize hLd : bitsL 1 1 ++ bitsL 2 2 ++ (bitsL ((bV bs).length - 257) 5 ++ bitsL ((bO bs).length - 1) 5 ++ bitsL ((bP bs).length - 4) 4 ++ (bP bs).flatMap (fun n => bitsL n 3) ++ (bH bs).flatMap (dR (toZ (bD bs)))) ++ TC = L
 have ht1 := dS (L := L) (A := bitsL 1 1 ++ bitsL 2 2) (B := bitsL ((bV bs).length - 257) 5) (n := 5) (p := 3) ⟨_, by rw [← hLd]; simp only [zj]; rfl⟩ (by rw [qH]) (by simp [qH])
 have ht2 := dS (L := L) (A := bitsL 1 1 ++ bitsL 2 2 ++ bitsL ((bV bs).length - 257) 5) (B := bitsL ((bO bs).length - 1) 5) (n := 5) (p := 8) ⟨_, by rw [← hLd]; simp only [zj]; rfl⟩ (by rw [qH]) (by simp [qH])
 have ht3 := dS (L := L) (A := bitsL 1 1 ++ bitsL 2 2 ++ bitsL ((bV bs).length - 257) 5 ++ bitsL ((bO bs).length - 1) 5) (B := bitsL ((bP bs).length - 4) 4) (n := 4) (p := 13) ⟨_, by rw [← hLd]; simp only [zj]; rfl⟩ (by rw [qH]) (by simp [qH])
 rw [eG 5 _ jo] at ht1 ht2
 rw [eG 4 _ jo] at ht3
 have hth := xJ (L := L) (v := fun s => (bD bs).getD s 0) h3o.most (bQ.take (bP bs).length) (bitsL 1 1 ++ bitsL 2 2 ++ bitsL ((bV bs).length - 257) 5 ++ bitsL ((bO bs).length - 1) 5 ++ bitsL ((bP bs).length - 4) 4) ((bH bs).flatMap (dR (toZ (bD bs))) ++ TC) 17 (List.replicate 19 0) (by rw [← hwm, ← hLd]; simp only [zj]) (by simp [qH])
 rw [qWa h3l (bP bs).length rfl] at hth
 have htl : (bQ.take (bP bs).length).length = (bP bs).length := by rw [zi, nP]; omega
 rw [htl] at hth
 have hfl3 := mU (bP bs)
 have hle : bH bs = dL (bV bs ++ bO bs) 0 := rfl
 have hmo := xV (L := L) (third := toZ (bD bs)) (x := bV bs ++ bO bs) h3r (by rw [bL]; exact h3l) hxb (bV bs ++ bO bs).length 0 (L.length + 1) (bitsL 1 1 ++ bitsL 2 2 ++ bitsL ((bV bs).length - 257) 5 ++ bitsL ((bO bs).length - 1) 5 ++ bitsL ((bP bs).length - 4) 4 ++ (bP bs).flatMap (fun n => bitsL n 3)) TC (17 + 3 * (bP bs).length) jo jo ?_ (fun t ht => hz _ _ (hthi _ (uR hLok t ht))) (by rw [← hLd, ← hle]; simp only [zj]) (by simp only [zb, qH, hfl3])
 ·
  have hs0 : toZ ((bV bs ++ bO bs).take 0) = [] := rfl
  rw [hs0] at hmo
  have hH : 3 + (bitsL ((bV bs).length - 257) 5 ++ bitsL ((bO bs).length - 1) 5 ++ bitsL ((bP bs).length - 4) 4 ++ (bP bs).flatMap (fun n => bitsL n 3) ++ (bH bs).flatMap (dR (toZ (bD bs)))).length = 17 + 3 * (bP bs).length + ((dL (bV bs ++ bO bs) 0).flatMap (dR (toZ (bD bs)))).length := by
   have e : bH bs = dL (bV bs ++ bO bs) 0 := rfl
   rw [e]
   simp only [zb, qH, hfl3]
   omega
  rw [hH]
  unfold oM
  rw [ht1, qS]
  dsimp only
  rw [ht2, qS]
  dsimp only
  rw [ht3, qS]
  dsimp only
  rw [if_neg (fun hn => hn jo), show 4 + ((bP bs).length - 4) = (bP bs).length by omega, show 257 + ((bV bs).length - 257) = (bV bs).length by omega, show 1 + ((bO bs).length - 1) = (bO bs).length by omega, hth, qS]
  unfold xB
  dsimp only
  rw [if_neg (fun hn => hn h3r.2), ← hxl, hmo, qS]
  have hml2 : (toZ (bV bs)).length = (bV bs).length := bL _
  have htk : (toZ (bV bs ++ bO bs)).take (bV bs).length = toZ (bV bs) := by rw [mB, ← hml2, zgd]
  have hdr : (toZ (bV bs ++ bO bs)).drop (bV bs).length = toZ (bO bs) := by rw [mB, ← hml2, zeo]
  have hpos : 0 < (toZ (bV bs ++ bO bs)).getD 256 0 := by
   rw [mB, zc, zaf (by rw [hml2]; omega), ← zc]
   rw [lN] at h256m ⊢
   omega
  unfold xU
  dsimp only
  rw [if_neg (fun hn => hn hpos), htk, hdr, if_neg (fun hn => hn hmr.2), if_neg (fun hn => hn hfr.2)]
 have h5 := qKt h3r (bH bs) (fun t ht => hz _ _ (hthi _ (uR hLok t ht)))
 rw [← hle, ← hLd]
 simp only [zb]
 omega
theorem qQb : ∀ n (bs : List Nat), bs.length ≤ n → ∃ r last, cD bs = fQ r last ∧ r.flatten ++ last = bs ∧ (∀ x ∈ r, x.length < 65536) ∧ last.length < 65536
 | n, bs, h => by
  rw [nM]
  by_cases h1 : 65535 < bs.length
  ·
   rw [if_pos h1]
   obtain ⟨r, last, h2, h3, h4, h5⟩ := qQb (n - 1) (bs.drop 65535) (by rw [zp]; omega)
   refine ⟨bs.take 65535 :: r, last, by rw [h2]; rfl, by rw [List.flatten_cons, zj, h3, zcb], fun x hx => ?_, h5⟩
   rcases zcq.1 hx with rfl | hx
   · rw [zi]; omega
   exact h4 x hx
  rw [if_neg h1]
  exact ⟨[], bs, rfl, rfl, jp, jo⟩
 termination_by n => n
 decreasing_by omega
theorem qGy (bs : List Nat) : gV (cD bs) bs.length = .ok (bs, (cD bs).length) := by
 obtain ⟨r, last, h1, h2, h3, h4⟩ := qQb _ bs (zk _)
 have h := qM9 h3 h4
 rw [h2, ← h1] at h
 exact h
theorem qQc (bs : List Nat) (hl : bs.length ≤ 32768) (hB : ∀ b ∈ bs, b < 256) : gV (dZ bs 2) bs.length = .ok (bs, (dZ bs 2).length) ∧ (dZ bs 2).length ≤ (cD bs).length ∧ (dZ bs 2).length ≤ (qL (fW bs)).length ∧ (dZ bs 2).length ≤ (qL (gS bs)).length := by
 rw [qN7]
 by_cases h2 : (qL (fW bs)).length < (cD bs).length
 ·
  rw [if_pos h2]
  by_cases h1 : (qL (gS bs)).length < (qL (fW bs)).length
  ·
   rw [if_pos h1]
   exact ⟨qZo bs hl hB, jo, jo, jo⟩
  rw [if_neg h1]
  exact ⟨qNg bs hl hB, jo, jo, jo⟩
 rw [if_neg h2]
 by_cases h1 : (qL (gS bs)).length < (cD bs).length
 ·
  rw [if_pos h1]
  exact ⟨qZo bs hl hB, jo, jo, jo⟩
 rw [if_neg h1]
 exact ⟨qGy bs, jo, jo, jo⟩
end
section
open Go.RowKit
def mX : Nat → List Nat → List (List Nat)
 | 0, _ => []
 | m + 1, d => if d = [] then [] else d.take 256 :: mX m (d.drop 256)
def chunkL (d : List Nat) : List (List Nat) := mX d.length d
theorem uS : ∀ m n (d : List Nat), d.length ≤ m → d.length ≤ n → mX m d = mX n d
 | 0, n, d, h, _ => by
  obtain rfl : d = [] := zz jo
  cases n <;> simp [mX]
 | m + 1, 0, d, _, h => by
  obtain rfl : d = [] := zz jo
  simp [mX]
 | m + 1, n + 1, d, h1, h2 => by
  unfold mX
  split
  · rfl
  rename_i h
  have : 0 < d.length := List.length_pos_iff.2 h
  rw [uS m n (d.drop 256) (by rw [zp]; omega) (by rw [zp]; omega)]
theorem qWc : chunkL [] = [] := rfl
theorem lD {d : List Nat} (h : d ≠ []) : chunkL d = d.take 256 :: chunkL (d.drop 256) := by
 have h1 : 0 < d.length := List.length_pos_iff.2 h
 unfold chunkL
 rw [show d.length = (d.length - 1) + 1 by omega, mX, if_neg h, uS (d.length - 1) (d.drop 256).length _ (by rw [zp]; omega) (zk _)]
theorem uT : ∀ k (d : List Nat), (chunkL d).drop k = chunkL (d.drop (256 * k))
 | 0, d => jp
 | k + 1, d => by
  by_cases h : d = []
  · subst h; simp [qWc]
  rw [lD h, zdr, uT k, List.drop_drop]
  congr 2
  omega
theorem fI (d : List Nat) : (chunkL d).length = (d.length + 255) / 256 := by
 have key : ∀ n (d : List Nat), d.length ≤ n → (chunkL d).length = (d.length + 255) / 256 := by
  intro n
  induction n with
  | zero => intro d h; obtain rfl : d = [] := zz jo; rfl
  | succ n ih =>
   intro d h
   by_cases h0 : d = []
   · subst h0; rfl
   have h1 : 0 < d.length := List.length_pos_iff.2 h0
   rw [lD h0, zq, ih (d.drop 256) (by rw [zp]; omega), zp]
   omega
 exact key _ d (zk _)
theorem mD {d : List Nat} {k : Nat} (h : 256 * k < d.length) : (chunkL d).getD k [] = (d.drop (256 * k)).take 256 := by
 have h1 := uT k d
 have h2 : d.drop (256 * k) ≠ [] := fun h0 => by have := congrArg List.length h0; rw [zp] at this; simp at this; omega
 rw [lD h2] at h1
 have h3 : ((chunkL d).drop k)[0]? = some ((d.drop (256 * k)).take 256) := by rw [h1]; rfl
 rw [zda, zdh] at h3
 rw [zc, h3]
 rfl
theorem nR {d c : List Nat} (h : c ∈ chunkL d) : c.length ≤ 256 ∧ ∀ b ∈ c, b ∈ d := by
 have key : ∀ n (d : List Nat), d.length ≤ n → ∀ c ∈ chunkL d, c.length ≤ 256 ∧ ∀ b ∈ c, b ∈ d := by
  intro n
  induction n with
  | zero => intro d h c hc; obtain rfl : d = [] := zz jo; cases hc
  | succ n ih =>
   intro d h c hc
   by_cases h0 : d = []
   · subst h0; cases hc
   have h1 : 0 < d.length := List.length_pos_iff.2 h0
   rw [lD h0] at hc
   rcases zcq.1 hc with rfl | hc
   · exact ⟨by rw [zi]; omega, fun b hb => zag hb⟩
   obtain ⟨h2, h3⟩ := ih (d.drop 256) (by rw [zp]; omega) c hc
   exact ⟨h2, fun b hb => zbn (h3 b hb)⟩
 exact key _ d (zk _) c h
theorem qRh {bs : List Nat} (hB : ∀ b ∈ bs, b < 256) : ∀ b ∈ dZ bs 2, b < 256 := by
 rw [qN7]
 by_cases h1 : (qL (gS bs)).length < (if (qL (fW bs)).length < (cD bs).length then qL (fW bs) else cD bs).length
 ·
  rw [if_pos h1]
  exact tC _
 rw [if_neg h1]
 by_cases h2 : (qL (fW bs)).length < (cD bs).length
 ·
  rw [if_pos h2]
  exact tC _
 rw [if_neg h2]
 exact vR _ bs (zk _) hB
noncomputable section
def qB (c : List Nat) : List Nat := dZ c 2
end
theorem qGz {c : List Nat} (h : ∀ b ∈ c, b < 256) : ∀ b ∈ qB c, b < 256 := qRh h
theorem xW {c : List Nat} (h : c.length ≤ 256) (hB : ∀ b ∈ c, b < 256) : (qB c).length ≤ 517 := by
 have h1 := (qQc c jo hB).2.1
 have h2 := tV _ c (zk _)
 unfold qB
 omega
theorem qJr {c : List Nat} (h : c.length ≤ 256) (hB : ∀ b ∈ c, b < 256) : gV (qB c) c.length = .ok (c, (qB c).length) := (qQc c jo hB).1
noncomputable section
def dG : Nat → List (List Nat) → List Nat
 | _, [] => []
 | o, c :: cs => o :: dG (o + (qB c).length) cs
def rH : Nat → List (List Nat) → Nat
 | o, [] => o
 | o, c :: cs => rH (o + (qB c).length) cs
end
structure En where
 id : Nat
 size : Nat
 sum : Nat
 begins : List Nat
abbrev Bb := Nat × List Nat
noncomputable section
def cV : Nat → List Bb → List En
 | _, [] => []
 | o, x :: l => ⟨x.1, x.2.length, crcM x.2, dG o (chunkL x.2)⟩ :: cV (rH o (chunkL x.2)) l
def kO : Nat → List Bb → Nat
 | o, [] => o
 | o, x :: l => kO (rH o (chunkL x.2)) l
def outM (l : List Bb) : List Nat := l.flatMap fun x => (chunkL x.2).flatMap qB
end
def fJ (e : En) : List Nat := qI e.id 8 ++ qI e.size 2 ++ qI e.sum 4 ++ e.begins.flatMap (fun b => qI b 4)
noncomputable section
def bE (l : List Bb) : List Nat := qI l.length 2 ++ (cV 0 l).flatMap fJ ++ qI (kO 0 l) 4
def bF (l : List Bb) : List Nat := bE l ++ qI (kO 0 l) 4
def segM (l : List Bb) : List Nat := outM l ++ bF l ++ qI (crcM (bF l)) 4 ++ [115, 101, 97, 108]
end
def tM (l : List Bb) : Prop := (∀ x ∈ l, x.2.length ≤ 4032 ∧ x.1 < 18446744073709551616 ∧ ∀ b ∈ x.2, b < 256) ∧ l.Pairwise (fun a b => a.1 < b.1) ∧ 1 ≤ l.length ∧ l.length ≤ 64
theorem oZ : ∀ (cs : List (List Nat)) o, rH o cs = o + (cs.flatMap qB).length
 | [], o => rfl
 | c :: cs, o => by rw [rH, oZ cs, zm, zb]; omega
theorem qZp : ∀ (l : List Bb) o, kO o l = o + (outM l).length
 | [], o => rfl
 | x :: l, o => by
  rw [kO, qZp l, oZ]
  have e : outM (x :: l) = (chunkL x.2).flatMap qB ++ outM l := rfl
  rw [e, zb]
  omega
theorem kW : ∀ (l : List Bb) o, (cV o l).length = l.length
 | [], _ => rfl
 | x :: l, o => by rw [cV, zq, kW l, zq]
theorem mE {x : List Nat} (h : x.length ≤ 4032) : (chunkL x).length ≤ 16 := by rw [fI]; omega
theorem qRi {cs : List (List Nat)} (h : ∀ c ∈ cs, (qB c).length ≤ 517) : (cs.flatMap qB).length ≤ 517 * cs.length := by
 induction cs with
 | nil => simp
 | cons c cs ih =>
  have h1 := ih (fun c hc => h c (zbi _ hc))
  have h2 := h c zbf
  rw [zm, zb, zq]
  omega
theorem uX {x : Bb} (h : x.2.length ≤ 4032) (hB : ∀ b ∈ x.2, b < 256) : ((chunkL x.2).flatMap qB).length ≤ 8272 := by
 have h1 := qRi (cs := chunkL x.2) (fun c hc => xW (nR hc).1 (fun b hb => hB b ((nR hc).2 b hb)))
 have h2 := mE h
 omega
theorem lR : ∀ l : List Bb, (∀ x ∈ l, x.2.length ≤ 4032 ∧ x.1 < 18446744073709551616 ∧ ∀ b ∈ x.2, b < 256) → (outM l).length ≤ 8272 * l.length
 | [], _ => zk _
 | x :: l, h => by
  have h1 := lR l (fun y hy => h y (zbi _ hy))
  obtain ⟨h2, _, h3⟩ := h x zbf
  have h4 := uX h2 h3
  have e : outM (x :: l) = (chunkL x.2).flatMap qB ++ outM l := rfl
  rw [e, zb, zq]
  omega
theorem qRj (l : List Bb) (h : ∀ x ∈ l, ∀ b ∈ x.2, b < 256) : ∀ b ∈ outM l, b < 256 := by
 intro b hb
 obtain ⟨x, hx, hb⟩ := List.mem_flatMap.1 hb
 obtain ⟨c, hc, hb⟩ := List.mem_flatMap.1 hb
 exact qGz (fun z hz => h x hx z ((nR hc).2 z hz)) b hb
end
section
open Go.RowKit
structure Bl where
 id : Nat
 A : Option Addr
 c : Nat
 d : List Nat
def Bl.b (x : Bl) : Bb := (x.id, x.d)
def blC (x : Bl) : List Value := [.int .u64 ((x.id : Nat) : Int), .slice x.A x.d.length x.c]
def BC (l : List Bl) : List Value := l.flatMap blC
theorem qKu (x : Bl) : (blC x).length = 2 := rfl
theorem BC_one (l : List Bl) : ∀ u ∈ BC l, u.oneCell' = true := by
 intro u hu
 obtain ⟨x, _, hx⟩ := List.mem_flatMap.1 hu
 simp only [blC, zcq, zcj, or_false] at hx
 rcases hx with rfl | rfl <;> rfl
theorem qG0 (a b : List Bl) : BC (a ++ b) = BC a ++ BC b := by simp [BC]
def bl0 : Bl := ⟨0, none, 0, []⟩
theorem qZq : ∀ (L : List Bl) (s : Nat) (_ : s < L.length), ((BC L).drop (s * 2)).take 2 = blC (L.getD s bl0)
 | a :: L, 0, _ => rfl
 | a :: L, s + 1, h => by
  have := qZq L s (by simpa using h)
  rw [show BC (a :: L) = blC a ++ BC L from rfl, show (s + 1) * 2 = (blC a).length + s * 2 by rw [qKu]; omega, zcp, zdz]
  exact this
structure RdB (w : World) (A : Option Addr) (n : Nat) (l : List Bl) : Prop where
 len : l.length = n
 rd : Rd w 2 A n (BC l)
 el : ∀ x ∈ l, x.d.length ≤ x.c ∧ x.d.length ≤ 1000000 ∧ x.id < 18446744073709551616 ∧ (∀ b ∈ x.d, b < 256) ∧ Rd w 1 x.A x.d.length (NB x.d)
theorem RdB.frm {w w' : World} {A : Option Addr} {n : Nat} {l : List Bl} (h : RdB w A n l) (k : Frm [] w w') : RdB w' A n l := ⟨h.len, h.rd.frm k jp, fun x hx => by
 obtain ⟨h1, h2, h3, h4, h5⟩ := h.el x hx
 exact ⟨h1, h2, h3, h4, h5.frm k jp⟩⟩
theorem jF {l : List Bl} {i : Nat} (h : i < l.length) : l.getD i bl0 ∈ l := by
 rw [zc, za h]
 exact zw h
theorem RdB.cell {w : World} {A : Option Addr} {n : Nat} {l : List Bl} (h : RdB w A n l) {i : Nat} (hi : i < n) : ∃ ad, A = some ad ∧ ∀ j v, (blC (l.getD i bl0))[j]? = some v → w.cell? ((ad.add (i * 2)).add j) = some v := by
 obtain ⟨ad, h1, hel⟩ := h.rd.elem hi
 rw [qZq l i (by rw [h.len]; exact hi)] at hel
 exact ⟨ad, h1, hel⟩
def yZ (l : List Bl) (k : Nat) : Prop := ∀ i, i < k → (l.getD i bl0).d.length ≤ 4032 ∧ (0 < i → (l.getD (i - 1) bl0).id < (l.getD i bl0).id)
def fY (l : List Bl) : Prop := yZ l l.length ∧ 1 ≤ l.length ∧ l.length ≤ 64
def okB (l : List Bl) (i : Nat) : Prop := (l.getD i bl0).d.length ≤ 4032 ∧ (0 < i → (l.getD (i - 1) bl0).id < (l.getD i bl0).id)
theorem bR {l : List Bl} {i : Nat} : okB l i ↔ (l.getD i bl0).d.length ≤ 4032 ∧ (0 < i → (l.getD (i - 1) bl0).id < (l.getD i bl0).id) := Iff.rfl
noncomputable section
instance (l : List Bl) : Decidable (fY l) := Classical.propDecidable _
instance (l : List Bl) (i : Nat) : Decidable (okB l i) := Classical.propDecidable _
end
theorem qQd (l : List Bl) (k : Nat) : yZ l (k + 1) ↔ yZ l k ∧ (l.getD k bl0).d.length ≤ 4032 ∧ (0 < k → (l.getD (k - 1) bl0).id < (l.getD k bl0).id) := by
 unfold yZ
 constructor
 · intro h; exact ⟨fun i hi => h i jo, h k jo⟩
 rintro ⟨h1, h2⟩ i hi
 by_cases e : i = k
 · subst e; exact h2
 exact h1 i jo
theorem qG1 (A : Option Addr) (n c : Nat) (l : List Bl) (w : World) (hn : n ≤ 1000000) (hr : RdB w A n l) :
  Calls Tryz.prog 8 #[.slice A n c] w fun e w' => e = .returned (.bool (decide (fY l))) ∧ qQ w w' := by
 refine VC.calls (nt := 43) (res := #[.tmp 2]) Tryz.func8 rfl Tryz.ntmps8 Tryz.results8 rfl ?_
 refine jS (jR (ja rfl (jO (jN (jv1 0 ?_)))))
 refine jS (jS (jR (jz 0 (jO (jN (jB ?_))))))
 refine VC.loop (σ := Nat) (fun s => [(0, .slice A n c), (3, .int .i64 ((s : Nat) : Int))]) (fun s wr => s ≤ n ∧ yZ l s ∧ qQ w wr) (fun s => n - s) 0 (js2 rfl rfl) ⟨jo, fun i h => jo, qQ.refl w⟩ ?_
 rintro i wr ⟨hi, hm, hd⟩
 have hnl := hr.len
 refine jS (jS (jR (jm rfl (jm rfl (je (Run.lenS rfl zai) (jb rfl rfl (Bin.lssN _ _) (jO (jN (jv3 0 3 7 ?_)))))))))
 refine jD rfl (fun hc1 => ?_) fun hc1 => ?_
 ·
  have hrw := hr.frm (hd.trans (qQ.drew wr)).frm
  obtain ⟨ad, rfl, hel⟩ := hrw.cell hc1
  have hid := (hrw.el _ (jF (jo : i < l.length))).2.2.1
  have hsucc := qQd l i
  have hel2 : 0 < i → ∀ j v, (blC (l.getD (i - 1) bl0))[j]? = some v → wr.drew.cell? ((ad.add ((i - 1) * 2)).add j) = some v := fun h0 => by
   obtain ⟨ad2, h1, h2⟩ := hrw.cell (jo : i - 1 < n)
   cases h1
   exact h2
  refine jQ (jN (jv2 0 3 ?_))
  refine jS (jB (jS ?_))
  refine VC.splitR [(0, .slice (some ad) n c), (3, .int .i64 ((i : Nat) : Int))] (qQ wr) 34 (.bool (decide (¬ okB l i))) ?_ ?_
  ·
   refine VC.still jK jK ?_
   refine qM ?_
   refine qM ?_
   refine qE (Run.indexS _ rfl rfl zai zbw jo) ?_
   refine qE (Run.fieldAddr rfl zar rfl zl jd) ?_
   refine qE (Run.load rfl zt (hel 1 _ rfl)) ?_
   refine qE (Run.lenS rfl ze) ?_
   refine qE (Run.bin rfl rfl (Bin.gtrN _ 4032)) ?_
   by_cases hs16 : 4032 < (l.getD i bl0).d.length
   ·
    refine qM ?_
    refine qU ?_
    refine qU ?_
    refine qU ?_
    refine qW.skU rfl rfl ?_
    refine qW.skU rfl rfl ?_
    refine qW.skU rfl rfl ?_
    refine qW.skU rfl rfl ?_
    refine qW.skU rfl rfl ?_
    refine qW.skU rfl rfl ?_
    refine qW.skU rfl rfl ?_
    refine qW.skU rfl rfl ?_
    refine qW.skU rfl rfl ?_
    refine qW.skU rfl rfl ?_
    refine qW.skU rfl rfl ?_
    refine qW.skU rfl rfl ?_
    refine qU ?_
    refine qE (Run.pickT rfl rfl au) ?_
    refine qW.nil ?_
    refine jN ⟨(js3 (jC (by first | exact (decide_eq_true (show ¬ okB l i from fun h => by have := (bR.1 h).1; omega)).symm | exact (decide_eq_false (show ¬ ¬ okB l i from fun h => h (bR.2 ⟨jo, fun h0 => jo⟩))).symm | exact decide_eq_decide.2 ⟨fun h => show ¬ okB l i from fun hh => by have := (bR.1 hh).2 jo; omega, fun h => by by_cases h3 : (l.getD (i - 1) bl0).id < (l.getD i bl0).id; exact absurd (bR.2 ⟨jo, fun _ => h3⟩) h; omega⟩)) rfl rfl), (qQ.drew _)⟩
   refine qM ?_
   refine qG (Run.mv rfl) ?_
   refine qG (Run.bin rfl rfl (Bin.gtrN _ 0)) ?_
   by_cases hs19 : 0 < i
   ·
    refine qG (Run.mv rfl) ?_
    refine qG (Run.mv rfl) ?_
    refine qG (Run.mv rfl) ?_
    refine qG (Run.bin rfl rfl (Bin.sub_i64 _ 1 jo jo)) ?_
    refine qG (Run.indexS _ rfl rfl zai zbw jo) ?_
    refine qG (Run.fieldAddr rfl zar rfl zbd jd) ?_
    refine qG (Run.load rfl zcc (hel2 jo 0 _ rfl)) ?_
    refine qG (Run.mv rfl) ?_
    refine qG (Run.mv rfl) ?_
    refine qG (Run.indexS _ rfl rfl zai zbw jo) ?_
    refine qG (Run.fieldAddr rfl zar rfl zbd jd) ?_
    refine qG (Run.load rfl zcc (hel 0 _ rfl)) ?_
    refine qG (Run.bin rfl rfl (Bin.geqN _ _)) ?_
    by_cases hs32 : (l.getD i bl0).id ≤ (l.getD (i - 1) bl0).id
    ·
     refine qG (Run.pickT rfl rfl au) ?_
     refine qE (Run.pickF rfl rfl au) ?_
     refine qW.nil ?_
     refine jN ⟨(js3 (jC (by first | exact (decide_eq_true (show ¬ okB l i from fun h => by have := (bR.1 h).1; omega)).symm | exact (decide_eq_false (show ¬ ¬ okB l i from fun h => h (bR.2 ⟨jo, fun h0 => jo⟩))).symm | exact decide_eq_decide.2 ⟨fun h => show ¬ okB l i from fun hh => by have := (bR.1 hh).2 jo; omega, fun h => by by_cases h3 : (l.getD (i - 1) bl0).id < (l.getD i bl0).id; exact absurd (bR.2 ⟨jo, fun _ => h3⟩) h; omega⟩)) rfl rfl), (qQ.drew _)⟩
    refine qG (Run.pickT rfl rfl au) ?_
    refine qE (Run.pickF rfl rfl au) ?_
    refine qW.nil ?_
    refine jN ⟨(js3 (jC (by first | exact (decide_eq_true (show ¬ okB l i from fun h => by have := (bR.1 h).1; omega)).symm | exact (decide_eq_false (show ¬ ¬ okB l i from fun h => h (bR.2 ⟨jo, fun h0 => jo⟩))).symm | exact decide_eq_decide.2 ⟨fun h => show ¬ okB l i from fun hh => by have := (bR.1 hh).2 jo; omega, fun h => by by_cases h3 : (l.getD (i - 1) bl0).id < (l.getD i bl0).id; exact absurd (bR.2 ⟨jo, fun _ => h3⟩) h; omega⟩)) rfl rfl), (qQ.drew _)⟩
   refine qG (Run.mv rfl) ?_
   refine qU ?_
   refine qU ?_
   refine qU ?_
   refine qU ?_
   refine qU ?_
   refine qU ?_
   refine qU ?_
   refine qU ?_
   refine qU ?_
   refine qU ?_
   refine qU ?_
   refine qU ?_
   refine qG (Run.pickF rfl rfl au) ?_
   refine qE (Run.pickF rfl rfl au) ?_
   refine qW.nil ?_
   refine jN ⟨(js3 (jC (by first | exact (decide_eq_true (show ¬ okB l i from fun h => by have := (bR.1 h).1; omega)).symm | exact (decide_eq_false (show ¬ ¬ okB l i from fun h => h (bR.2 ⟨jo, fun h0 => jo⟩))).symm | exact decide_eq_decide.2 ⟨fun h => show ¬ okB l i from fun hh => by have := (bR.1 hh).2 jo; omega, fun h => by by_cases h3 : (l.getD (i - 1) bl0).id < (l.getD i bl0).id; exact absurd (bR.2 ⟨jo, fun _ => h3⟩) h; omega⟩)) rfl rfl), (qQ.drew _)⟩
  intro Γ w9 hΓ hd9
  refine jN (VC.sub _ hΓ ?_)
  refine jD rfl (fun hc2 => ?_) fun hc2 => ?_
  ·
   refine jS (jR (ja rfl (jO (jN (jv1 2 ?_)))))
   refine jT ?_
   refine qD (qN (qN (qD (qN (qC rfl ?_)))))
   have hno : ¬ fY l := fun h => hc2 (by
    have := h.1 i jo
    exact this)
   rw [decide_eq_false hno]
   exact ⟨rfl, hd.trans hd9⟩
  refine jQ ?_
  refine qK (jN ?_)
  refine jv2 0 3 ?_
  refine jR (jm rfl (jb rfl rfl (Bin.add_i64 _ 1 jo) (ja rfl (jO ?_))))
  refine jN ⟨i + 1, (js2 rfl rfl), ?_, ?_⟩
  · exact ⟨jo, hsucc.2 ⟨hm, Classical.not_not.1 hc2⟩, hd.trans hd9⟩
  first | omega | (dsimp only; omega)
 refine jX ?_
 refine qZ (qZ (qP ?_))
 refine jN (jv1 0 ?_)
 refine jS ?_
 refine VC.split1 [] .nil 2 (.bool (decide (1 ≤ n ∧ n ≤ 64))) ?_ ?_
 ·
  refine jR ?_
  refine jm rfl (je (Run.lenS rfl zai) (jb rfl rfl (Bin.leqN 1 _) ?_))
  by_cases hs37 : 1 ≤ n
  ·
   refine jM ?_
   refine jG ?_
   refine jk (Run.lenS rfl zai) ?_
   refine jk (Run.bin rfl rfl (Bin.leqN _ 64)) ?_
   by_cases hs41 : n ≤ 64
   ·
    refine je (Run.pickT rfl rfl au) (ja rfl (jO ?_))
    refine jN ⟨(js1 (jC (by first | (simp [*]; done) | (simp; omega)))), rfl⟩
   refine je (Run.pickT rfl rfl au) (ja rfl (jO ?_))
   refine jN ⟨(js1 (jC (by first | (simp [*]; done) | (simp; omega)))), rfl⟩
  refine jM ?_
  refine jU ?_
  refine jU ?_
  refine jU ?_
  refine je (Run.pickF rfl rfl au) (ja rfl (jO ?_))
  refine jN ⟨(js1 (jC (by first | (simp [*]; done) | (simp; omega)))), rfl⟩
 intro Γ hΓ
 refine jN (VC.sub _ hΓ ?_)
 refine jT ?_
 refine qC rfl ?_
 have ei : i = n := jo
 subst ei
 have e : decide (1 ≤ i ∧ i ≤ 64) = decide (fY l) := decide_eq_decide.2 ⟨fun h => ⟨by rw [hnl]; exact hm, jo, jo⟩, fun h => by have := h.2; omega⟩
 rw [e]
 exact ⟨rfl, hd⟩
theorem xY (A : Option Addr) (n c : Nat) (l : List Bl) (w : World) (hn : n ≤ 1000000) (hr : RdB w A n l) :
  Calls Tryz.prog 14 #[.slice A n c] w fun e w' => e = .returned (.bool (decide (fY l))) ∧ Frm [] w w' := by
 refine VC.calls (nt := 40) (res := #[.tmp 2]) Tryz.func14 rfl Tryz.ntmps14 Tryz.results14 rfl ?_
 refine jS (jR (ja rfl (jO (jN (jv1 0 ?_)))))
 refine jS (jS (jR (jm rfl (je (Run.lenS rfl zai) ?_))))
 refine jx .i64 0 ?_
 refine jO (jN (jB ?_))
 refine VC.loop (σ := Nat) (fun s => [(0, .slice A n c), (5, .slice A n c), (6, .int .i64 ((n : Nat) : Int)), (7, .int .i64 ((s : Nat) : Int))]) (fun s wr => s ≤ n ∧ yZ l s ∧ Frm [] w wr) (fun s => n - s) 0 (js4 rfl rfl rfl rfl) ⟨jo, fun i h => jo, Frm.refl _ _⟩ ?_
 rintro i wr ⟨hi, hm, hd⟩
 have hnl := hr.len
 refine jS (jR (jb rfl rfl (Bin.lssN _ _) (jO (jN (jS ?_)))))
 refine jD rfl (fun hc1 => ?_) fun hc1 => ?_
 ·
  have hrw := hr.frm hd
  obtain ⟨ad, rfl, hel⟩ := hrw.cell hc1
  have hid := (hrw.el _ (jF (jo : i < l.length))).2.2.1
  have hid2 := fun h0 : 0 < i => (hrw.el _ (jF (jo : i - 1 < l.length))).2.2.1
  have hsucc := qQd l i
  refine jQ (jN (jv4 0 5 6 7 ?_))
  refine jS (jB (jS (jR (jm rfl (je (Run.indexS _ rfl rfl zai zbw jo) (je (Run.loadA rfl Tryz.isAgg41 zbw hel (by first | rfl | (simp; done))) ?_))))))
  refine Ops.m (qJ.alloc gY) rfl ?_
  rintro _ w1 ⟨rfl, hF1⟩
  refine jA ?_
  refine Ops.st (qR.storeA rfl rfl zbw hF1.blk rfl (by intro v hv; exact BC_one [l.getD i bl0] v (by simpa [BC] using hv))) ?_
  rintro w2 ⟨hb2, hf2, hs2⟩
  have hd := (hd.trans hF1.frm jp).own hf2 (by simp; exact hd.size)
  have hel2 : 0 < i → ∀ j v, (blC (l.getD (i - 1) bl0))[j]? = some v → w2.drew.cell? ((ad.add ((i - 1) * 2)).add j) = some v := fun h0 => by
   obtain ⟨ad2, h1, h2⟩ := (hr.frm (hd.drawn (qQ.drew w2))).cell (jo : i - 1 < n)
   cases h1
   exact h2
  have hb3 := hb2.drawn (qQ.drew w2)
  refine jO (jN (jv6 0 3 4 5 6 7 ?_))
  refine jS ?_
  refine VC.splitR [(0, .slice (some ad) n c), (5, .slice (some ad) n c), (6, .int .i64 ((n : Nat) : Int)), (7, .int .i64 ((i : Nat) : Int))] (qQ w2) 30 (.bool (decide (¬ okB l i))) ?_ ?_
  ·
   refine VC.still jK jK ?_
   refine qE (Run.fieldAddr rfl zar rfl zl jd) ?_
   refine qE (Run.load rfl zt (hb3.cell 1)) ?_
   refine qE (Run.lenS rfl ze) ?_
   refine qE (Run.bin rfl rfl (Bin.gtrN _ 4032)) ?_
   by_cases hs15 : 4032 < (l.getD i bl0).d.length
   ·
    refine qM ?_
    refine qU ?_
    refine qU ?_
    refine qU ?_
    refine qW.skU rfl rfl ?_
    refine qW.skU rfl rfl ?_
    refine qW.skU rfl rfl ?_
    refine qW.skU rfl rfl ?_
    refine qW.skU rfl rfl ?_
    refine qW.skU rfl rfl ?_
    refine qW.skU rfl rfl ?_
    refine qW.skU rfl rfl ?_
    refine qW.skU rfl rfl ?_
    refine qU ?_
    refine qE (Run.pickT rfl rfl au) ?_
    refine qW.nil ?_
    refine jN ⟨(js5 (jC (by first | exact (decide_eq_true (show ¬ okB l i from fun h => by have := (bR.1 h).1; omega)).symm | exact (decide_eq_false (show ¬ ¬ okB l i from fun h => h (bR.2 ⟨jo, fun h0 => jo⟩))).symm | exact decide_eq_decide.2 ⟨fun h => show ¬ okB l i from fun hh => by have := (bR.1 hh).2 jo; omega, fun h => by by_cases h3 : (l.getD (i - 1) bl0).id < (l.getD i bl0).id; exact absurd (bR.2 ⟨jo, fun _ => h3⟩) h; omega⟩)) rfl rfl rfl rfl), (qQ.drew _)⟩
   refine qM ?_
   refine qG (Run.mv rfl) ?_
   refine qG (Run.bin rfl rfl (Bin.gtrN _ 0)) ?_
   by_cases hs18 : 0 < i
   ·
    refine qG (Run.mv rfl) ?_
    refine qG (Run.fieldAddr rfl zar rfl zbd jd) ?_
    refine qG (Run.load rfl zcc (hb3.cell 0)) ?_
    refine qG (Run.mv rfl) ?_
    refine qG (Run.mv rfl) ?_
    refine qG (Run.bin rfl rfl (Bin.sub_i64 _ 1 jo jo)) ?_
    refine qG (Run.indexS _ rfl rfl zai zbw jo) ?_
    refine qG (Run.fieldAddr rfl zar rfl zbd jd) ?_
    refine qG (Run.load rfl zcc (hel2 jo 0 _ rfl)) ?_
    refine qG (Run.bin rfl rfl (Bin.leqN _ _)) ?_
    by_cases hs28 : (l.getD i bl0).id ≤ (l.getD (i - 1) bl0).id
    ·
     refine qG (Run.pickT rfl rfl au) ?_
     refine qE (Run.pickF rfl rfl au) ?_
     refine qW.nil ?_
     refine jN ⟨(js5 (jC (by first | exact (decide_eq_true (show ¬ okB l i from fun h => by have := (bR.1 h).1; omega)).symm | exact (decide_eq_false (show ¬ ¬ okB l i from fun h => h (bR.2 ⟨jo, fun h0 => jo⟩))).symm | exact decide_eq_decide.2 ⟨fun h => show ¬ okB l i from fun hh => by have := (bR.1 hh).2 jo; omega, fun h => by by_cases h3 : (l.getD (i - 1) bl0).id < (l.getD i bl0).id; exact absurd (bR.2 ⟨jo, fun _ => h3⟩) h; omega⟩)) rfl rfl rfl rfl), (qQ.drew _)⟩
    refine qG (Run.pickT rfl rfl au) ?_
    refine qE (Run.pickF rfl rfl au) ?_
    refine qW.nil ?_
    refine jN ⟨(js5 (jC (by first | exact (decide_eq_true (show ¬ okB l i from fun h => by have := (bR.1 h).1; omega)).symm | exact (decide_eq_false (show ¬ ¬ okB l i from fun h => h (bR.2 ⟨jo, fun h0 => jo⟩))).symm | exact decide_eq_decide.2 ⟨fun h => show ¬ okB l i from fun hh => by have := (bR.1 hh).2 jo; omega, fun h => by by_cases h3 : (l.getD (i - 1) bl0).id < (l.getD i bl0).id; exact absurd (bR.2 ⟨jo, fun _ => h3⟩) h; omega⟩)) rfl rfl rfl rfl), (qQ.drew _)⟩
   refine qG (Run.mv rfl) ?_
   refine qU ?_
   refine qU ?_
   refine qU ?_
   refine qU ?_
   refine qU ?_
   refine qU ?_
   refine qU ?_
   refine qU ?_
   refine qU ?_
   refine qG (Run.pickF rfl rfl au) ?_
   refine qE (Run.pickF rfl rfl au) ?_
   refine qW.nil ?_
   refine jN ⟨(js5 (jC (by first | exact (decide_eq_true (show ¬ okB l i from fun h => by have := (bR.1 h).1; omega)).symm | exact (decide_eq_false (show ¬ ¬ okB l i from fun h => h (bR.2 ⟨jo, fun h0 => jo⟩))).symm | exact decide_eq_decide.2 ⟨fun h => show ¬ okB l i from fun hh => by have := (bR.1 hh).2 jo; omega, fun h => by by_cases h3 : (l.getD (i - 1) bl0).id < (l.getD i bl0).id; exact absurd (bR.2 ⟨jo, fun _ => h3⟩) h; omega⟩)) rfl rfl rfl rfl), (qQ.drew _)⟩
  intro Γ w9 hΓ hd9
  refine jN (VC.sub _ hΓ ?_)
  refine jD rfl (fun hc2 => ?_) fun hc2 => ?_
  ·
   refine jS (jR (ja rfl (jO (jN (jv1 2 ?_)))))
   refine jT ?_
   refine qD (qN (qN (qD (qN (qC rfl ?_)))))
   have hno : ¬ fY l := fun h => hc2 (by
    have := h.1 i jo
    exact this)
   rw [decide_eq_false hno]
   exact ⟨rfl, hd.drawn hd9⟩
  refine jQ ?_
  refine qK (jN ?_)
  refine jv4 0 5 6 7 ?_
  refine jR (jb rfl rfl (Bin.add_i64 _ 1 jo) (jm rfl (jO ?_)))
  refine jN ⟨i + 1, (js4 rfl rfl rfl rfl), ?_, ?_⟩
  · exact ⟨jo, hsucc.2 ⟨hm, Classical.not_not.1 hc2⟩, hd.drawn hd9⟩
  first | omega | (dsimp only; omega)
 refine jX ?_
 refine qZ (qZ (qP ?_))
 refine jN (jv1 0 ?_)
 refine jS ?_
 refine VC.split1 [] .nil 2 (.bool (decide (1 ≤ n ∧ n ≤ 64))) ?_ ?_
 ·
  refine jR ?_
  refine jm rfl (je (Run.lenS rfl zai) (jb rfl rfl (Bin.geqN _ 1) ?_))
  by_cases hs34 : 1 ≤ n
  ·
   refine jM ?_
   refine jG ?_
   refine jk (Run.lenS rfl zai) ?_
   refine jk (Run.bin rfl rfl (Bin.leqN _ 64)) ?_
   by_cases hs38 : n ≤ 64
   ·
    refine je (Run.pickT rfl rfl au) (ja rfl (jO ?_))
    refine jN ⟨(js1 (jC (by first | (simp [*]; done) | (simp; omega)))), rfl⟩
   refine je (Run.pickT rfl rfl au) (ja rfl (jO ?_))
   refine jN ⟨(js1 (jC (by first | (simp [*]; done) | (simp; omega)))), rfl⟩
  refine jM ?_
  refine jU ?_
  refine jU ?_
  refine jU ?_
  refine je (Run.pickF rfl rfl au) (ja rfl (jO ?_))
  refine jN ⟨(js1 (jC (by first | (simp [*]; done) | (simp; omega)))), rfl⟩
 intro Γ hΓ
 refine jN (VC.sub _ hΓ ?_)
 refine jT ?_
 refine qC rfl ?_
 have ei : i = n := jo
 subst ei
 have e : decide (1 ≤ i ∧ i ≤ 64) = decide (fY l) := decide_eq_decide.2 ⟨fun h => ⟨by rw [hnl]; exact hm, jo, jo⟩, fun h => by have := h.2; omega⟩
 rw [e]
 exact ⟨rfl, hd⟩
theorem fN (A : Option Addr) (m c v n : Nat) (bs : List Nat) (w : World) (hm : bs.length = m) (hl : m ≤ 1000000000) (hn1 : 1 ≤ n) (hn8 : n ≤ 8) (hv : v < 256 ^ n) (ho : Own w 5 1 A m c (NB bs)) :
  Calls Tryz.prog 15 #[.slice A m c, .int .u64 ((v : Nat) : Int), .int .i64 ((n : Nat) : Int)] w fun e w' => ∃ B d, e = .returned (.slice B (m + n) d) ∧ Own w' 5 1 B (m + n) d (NB (bs ++ qI v n)) ∧ Frm (ob A) w w' ∧ ∀ x ∈ ob B, x ∈ ob A ∨ w.heap.size ≤ x := by
 refine VC.calls (nt := 18) (res := #[.tmp 6]) Tryz.func15 rfl Tryz.ntmps15 Tryz.results15 rfl ?_
 refine jS (jR (ja rfl (jO (jN (jv3 0 1 2 ?_)))))
 refine jS (jR (jm rfl (jM ?_)))
 refine Ops.cl (jE2 Tryz.call29) (qVs v n _ hn1 hn8 hv) rfl ?_
 rintro e w1 ⟨B, d, rfl, hoB, hf1, _⟩
 refine ⟨_, rfl, ?_⟩
 have ho := ho.frm hf1 jp
 refine jm rfl (je (Run.extract rfl rfl) (je (Run.extract rfl rfl) (ja rfl (ja rfl (jO (jN (jv2 0 7 ?_)))))))
 refine jS (jR (jm rfl (jM ?_)))
 refine Ops.m (qJ.app rfl rfl ze (dD) rfl jd ho hoB.rd (dH _) jo jo) rfl ?_
 rintro _ w2 ⟨B2, d2, rfl, ho2, hf2, hob2⟩
 rw [← eA] at ho2
 refine ja rfl (jO (jN (jv1 6 ?_)))
 refine jT ?_
 refine qC rfl ?_
 refine ⟨B2, d2, rfl, ho2, (hf1.mono jp).trans hf2 (fun x hx => .inl hx), fun x hx => ?_⟩
 rcases hob2 with h | h
 · rw [h] at hx; exact .inl hx
 rw [h, zh] at hx; exact .inr (by have := hf1.size; omega)
def chA (A : Option Addr) (d : List Nat) (k : Nat) : Option Addr × Nat × List Nat := (cP A (256 * k + ((d.drop (256 * k)).take 256).length) (256 * k) 1, ((d.drop (256 * k)).take 256).length, (d.drop (256 * k)).take 256)
def fL (A : Option Addr) (d : List Nat) : List (Option Addr × Nat × List Nat) := (List.range (chunkL d).length).map (chA A d)
theorem qZr (A : Option Addr) (d : List Nat) : (fL A d).length = (chunkL d).length := by simp [fL]
theorem qQe (A : Option Addr) (d : List Nat) {k : Nat} (h : k < (chunkL d).length) : (fL A d).take (k + 1) = (fL A d).take k ++ [chA A d k] := by
 unfold fL
 rw [zaj]
 congr 1
 rw [zbk, zfj h]
 rfl
theorem tN (A : Option Addr) (d : List Nat) : (fL A d).map (·.2.2) = chunkL d := by
 apply zap
 intro k
 unfold fL
 rw [zdg, zbk]
 by_cases h : k < (chunkL d).length
 ·
  have h2 : 256 * k < d.length := by rw [fI] at h; omega
  have h3 := mD h2
  rw [zc, za h, zaz] at h3
  rw [zfj h, za h, h3]
  rfl
 rw [zr (by rw [zfx]; omega), zr jo]
 rfl
theorem qKv {w : World} {A : Option Addr} {c : Nat} {d : List Nat} (hr : Rd w 1 A d.length (NB d)) (hc : d.length ≤ c) : ∀ x ∈ fL A d, x.2.1 = x.2.2.length ∧ Rd w 1 x.1 x.2.2.length (NB x.2.2) := by
 intro x hx
 unfold fL at hx
 obtain ⟨k, hk, rfl⟩ := List.mem_map.1 hx
 have hk := List.mem_range.1 hk
 have h2 : 256 * k < d.length := by rw [fI] at hk; omega
 have hl : ((d.drop (256 * k)).take 256).length ≤ d.length - 256 * k := by rw [zi, zp]; omega
 have hpos : 0 < ((d.drop (256 * k)).take 256).length := by rw [zi, zp]; omega
 refine ⟨rfl, ?_⟩
 have h3 := oF d (256 * k) ((d.drop (256 * k)).take 256).length jo hr hc
 have h4 : (d.drop (256 * k)).take ((d.drop (256 * k)).take 256).length = (d.drop (256 * k)).take 256 := by
  rw [zi, zp]
  by_cases h5 : 256 ≤ d.length - 256 * k
  · rw [zbb h5]
  rw [Nat.min_eq_right jo, zn (by rw [zp]; omega), zn (by rw [zp]; omega)]
 rw [h4] at h3
 have e : cP A c (256 * k) 1 = cP A (256 * k + ((d.drop (256 * k)).take 256).length) (256 * k) 1 := by
  unfold cP
  rw [if_neg jo, if_neg jo]
 rw [e] at h3
 exact h3
theorem qWd (A : Option Addr) (c : Nat) (d : List Nat) (g1 g2 : Nat) (hs : d.length ≤ 1000000) (hc : d.length ≤ c) :
  qH9 Tryz.prog 31 #[.pointer (some ⟨g1, 0, none⟩), .pointer (some ⟨g2, 0, none⟩)] (fun x => #[.slice x.1 x.2.2.length x.2.1]) [] [g1, g2] (fun w => Blk w g1 24 #[.slice A d.length c] ∧ Blk w g2 3 #[.int .i64 ((256 : Nat) : Int)]) (fL A d) := by
 rintro l J Jx w hJ hJx ⟨hb1, hb2⟩ hY h0
 have hcl := fI d
 refine VC.calls (nt := 31) (res := #[]) Tryz.func31 rfl Tryz.ntmps31 Tryz.results31 rfl ?_
 refine jS (jR (jz 0 (jO (jN (jB ?_)))))
 refine VC.loop (σ := Nat) (fun s1 => [(0, .func (.yield l) #[] #[]), (1, .pointer (some ⟨g1, 0, none⟩)), (2, .pointer (some ⟨g2, 0, none⟩)), (4, .int .i64 ((256 * s1 : Nat) : Int))]) (fun s1 wr => s1 ≤ (chunkL d).length ∧ Blk wr g1 24 #[.slice A d.length c] ∧ Blk wr g2 3 #[.int .i64 ((256 : Nat) : Int)] ∧ J ((fL A d).take s1) wr) (fun s1 => (chunkL d).length - s1) 0 (js4 rfl rfl rfl rfl) ⟨jo, hb1, hb2, h0⟩ ?_
 rintro k wr ⟨hk, hb1, hb2, hj⟩
 refine jS (jS (jR (jm rfl (jl rfl zt (hb1.cell 0) (je (Run.lenS rfl ze) (jb rfl rfl (Bin.lssN _ _) (jO (jN (jv5 0 1 2 4 9 ?_)))))))))
 refine jD rfl (fun hc1 => ?_) fun hc1 => ?_
 ·
  have hkl : k < (chunkL d).length := jo
  have hpre : ((fL A d).take k ++ [chA A d k]) <+: fL A d := by rw [← qQe A d hkl]; exact List.take_prefix _ _
  have hcl2 : ((d.drop (256 * k)).take 256).length = min 256 (d.length - 256 * k) := by rw [zi, zp]
  have hd := qQ.drew wr
  refine jQ (jN (jv4 0 1 2 4 ?_))
  refine jS (jB (jS ?_))
  refine VC.held (fun v => Blk v g1 24 #[.slice A d.length c] ∧ Blk v g2 3 #[.int .i64 ((256 : Nat) : Int)]) jK ?_
  have hS : (fun v => Blk v g1 24 #[.slice A d.length c] ∧ Blk v g2 3 #[.int .i64 ((256 : Nat) : Int)]) wr.drew := ⟨hb1.drawn hd, hb2.drawn hd⟩
  have hj := hJ _ _ _ hj hd.frm
  have hb1 := hb1.drawn hd
  have hb2 := hb2.drawn hd
  generalize wr.drew = wr at *
  refine jH 0 rfl hS (fun w0 hw0 => Run.load rfl zg (hw0.2.cell 0)) ?_
  refine jH 1 rfl hS (fun w0 hw0 => Run.load rfl zt (hw0.1.cell 0)) ?_
  refine jH 2 rfl hS (fun w0 hw0 => Run.mv rfl) ?_
  refine jH 3 rfl hS (fun w0 hw0 => Run.sliceS _ _ rfl ze zad (evB.some_ rfl) evB.none_ jo jo) ?_
  refine jH 4 rfl hS (fun w0 hw0 => Run.lenS rfl ze) ?_
  refine jH 5 rfl hS (fun w0 hw0 => Run.minI rfl rfl) ?_
  have em : (if ((d.length - 256 * k : Nat) : Int) < ((256 : Nat) : Int) then ((d.length - 256 * k : Nat) : Int) else ((256 : Nat) : Int)) = ((((d.drop (256 * k)).take 256).length : Nat) : Int) := by rw [hcl2]; split <;> omega
  rw [em]
  refine jH 6 rfl hS (fun w0 hw0 => Run.asg rfl) ?_
  refine qV.done jK ?_
  refine jN (jv5 0 1 2 4 5 ?_)
  refine jS (jR (jm rfl (jl rfl zt (hb1.cell 0) (jm rfl (jm rfl (jm rfl (jb rfl rfl (Bin.addZ _ _ jo jo) (jm rfl (jm rfl (jb rfl rfl (Bin.addZ _ _ jo jo) (je (Run.slice3 _ _ _ rfl ze zad rfl rfl rfl jo jo jo) ?_)))))))))))
  rw [show 256 * k + ((d.drop (256 * k)).take 256).length - 256 * k = ((d.drop (256 * k)).take 256).length by omega]
  refine Ops.yield rfl rfl (evs.cons rfl evs.nil) ((by simpa using hY ((fL A d).take k) (chA A d k) wr hj hpre : kZ Tryz.prog l #[.slice (chA A d k).1 (chA A d k).2.2.length (chA A d k).2.1] wr _)) rfl rfl ?_
  rintro e w1 ⟨hoff, hR0⟩
  obtain ⟨yb, rfl, hR⟩ : ∃ yb : Bool, e = .returned (.bool yb) ∧ ((yb = true ∧ J ((fL A d).take k ++ [chA A d k]) w1) ∨ (yb = false ∧ Jx ((fL A d).take k ++ [chA A d k]) w1)) := by
   rcases hR0 with ⟨rfl, h⟩ | ⟨rfl, h⟩
   · exact ⟨true, rfl, .inl ⟨rfl, h⟩⟩
   exact ⟨false, rfl, .inr ⟨rfl, h⟩⟩
  refine ⟨_, rfl, ?_⟩
  have hb1 := hoff.blk hb1 jp
  have hb2 := hoff.blk hb2 jp
  refine je (Run.not rfl) (jO (jN (jv5 0 1 2 4 30 ?_)))
  refine VC.condB rfl (fun hc2 => ?_) (fun hc2 => ?_)
  ·
   refine jT ?_
   refine qD (qN (qN (qD (end0 ?_))))
   exact ⟨⟨_, rfl⟩, .inr ⟨_, (hR.resolve_left (fun h => by rw [h.1] at hc2; simp at hc2)).2⟩⟩
  refine jQ ?_
  refine qK (jN ?_)
  refine jv4 0 1 2 4 ?_
  refine jR (jm rfl (jl rfl zg (hb2.cell 0) (jb rfl rfl (Bin.add_i64 _ _ jo) (ja rfl (jO ?_)))))
  refine jN ⟨k + 1, (js4 rfl rfl rfl (by rw [show 256 * (k + 1) = 256 * k + 256 by omega]; rfl)), ?_, ?_⟩
  · exact ⟨jo, hb1, hb2, by rw [qQe A d hkl]; exact (hR.resolve_right (fun h => by rw [h.1] at hc2; simp at hc2)).2⟩
  first | omega | (dsimp only; omega)
 refine jX ?_
 refine qZ (qZ (qP ?_))
 refine eV ?_
 have hke : (fL A d).take k = fL A d := zn (by rw [qZr]; omega)
 rw [hke] at hj
 exact ⟨⟨_, rfl⟩, .inl hj⟩
theorem qWe (A : Option Addr) (n c : Nat) (w : World) : Calls Tryz.prog 17 #[.slice A n c, .int .i64 ((256 : Nat) : Int)] w fun e w' => Frm [] w w' ∧ ∃ g1 g2, e = .returned (.func (.func 31) #[] #[.pointer (some ⟨g1, 0, none⟩), .pointer (some ⟨g2, 0, none⟩)]) ∧ Blk w' g1 24 #[.slice A n c] ∧ Blk w' g2 3 #[.int .i64 ((256 : Nat) : Int)] ∧ w.heap.size ≤ g1 ∧ w.heap.size ≤ g2 := by
 refine VC.calls (nt := 9) (res := #[.tmp 4]) Tryz.func17 rfl Tryz.ntmps17 Tryz.results17 rfl ?_
 refine jS (jR ?_)
 refine Ops.m (qJ.box rfl) rfl ?_
 rintro _ w1 ⟨rfl, hF1⟩
 have hb1 := hF1.blk
 refine Ops.m (qJ.box rfl) rfl ?_
 rintro _ w2 ⟨rfl, hF2⟩
 have hb1 := hb1.frm hF2.frm jp
 have hb2 := hF2.blk
 refine ja rfl (jO (jN (jv2 2 3 ?_)))
 refine jS (jS (jR (jl rfl zg (hb2.cell 0) (jb rfl rfl (Bin.lssN _ 1) (jO (jN (jv3 2 3 6 ?_)))))))
 refine VC.condF rfl jd ?_
 refine jQ (jN (jv2 2 3 ?_))
 refine jS (jR (je (Run.mkFunc evs.nil (evs.cons rfl (evs.cons rfl evs.nil))) (ja rfl (jO (jN (jv1 4 ?_))))))
 refine jT ?_
 refine qC rfl ?_
 exact ⟨hF1.frm.trans hF2.frm jp, _, _, rfl, hb1, hb2, zk _, hF1.frm.size⟩
end
section
open Go.RowKit
section
variable {P : Program} {Γ : Env} {w : World} {dst : Option Tmp} {pos : String} {after : Array Edge} {g : Option (Nat × Bool)} {T : TypeId}
theorem Own.based {w : World} {e size n c B : Nat} {A : Option Addr} {xs : List Value} (h : Own w e size A n c xs) (hA : ∀ x ∈ ob A, B ≤ x) : w.ownsRow B e size (.slice A n c) n xs := by
 refine ⟨h.1, ?_⟩
 rcases h.cases with ⟨rfl, h1, h2, _⟩ | ⟨g, cur, rfl, h1, h2, h3, h4, h5⟩
 · exact .inl ⟨by rw [h1, h2], h1⟩
 exact .inr ⟨g, c, cur, rfl, hA g (by simp [ob]), h1, h2, h3, h4, h5⟩
theorem qJ.appStr {t u e : TypeId} {x y : Operand} {n cap : Nat} (B : Nat) {A : Option Addr} {xs : List Value} {q : List UInt8} (hx : ev? Γ x = some (.slice A n cap)) (hy : ev? Γ y = some (encStr q))
  (ht : P.underlying t = some (.slice e)) (hu : P.underlying u = some .string) (hi : (P.info? e).map (fun i => (i.zero, i.size, i.bytes)) = some (some (.int .u8 0), 1, 1))
  (ho : Own w e 1 A n cap xs) (hA : ∀ x ∈ ob A, B ≤ x) (hB : B ≤ w.heap.size) (hb : n + q.length ≤ 140737488355328) :
  qJ P ⟨dst, .call ⟨.builtin .append, #[x, y], #[t, u]⟩, T, pos, after, g⟩ Γ w
   (fun r w' => ∃ A' c', r = .slice A' (n + q.length) c' ∧ Own w' e 1 A' (n + q.length) c' (xs ++ U8 q) ∧ Frm (ob A) w w' ∧ ∀ x ∈ ob A', B ≤ x) := fun ρ hρ => by
 obtain ⟨i0, hi0, hz0, hz1, hz2⟩ := info_parts hi
 have ex : (execOp ρ ⟨dst, .call ⟨.builtin .append, #[x, y], #[t, u]⟩, T, pos, after, g⟩).run P w = ((Builtin.append_ #[t, u] T #[.slice A n cap, .string ⟨q.toArray⟩]).run P w).andThen fun a w => .ok (.value a) w := by
  simp [execOp, resolve, invoke, builtin, hρ _ _ hx, hρ _ _ hy, encStr]
 have hsz : (⟨q.toArray⟩ : ByteArray).size = q.length := by show q.toArray.size = _; simp
 obtain ⟨v', w', hrun, hown, hgr, hnil⟩ := Lib.run_append_own_string (P := P) (w := w) B t u T e i0 ht hu hi0 hz0 hz1 hz2 (.slice A n cap) n xs (ho.based hA) ⟨q.toArray⟩ (by rw [hsz]; unfold maxLen; omega) (by rw [hsz]; exact hb) hB
 rw [hsz] at hown
 have hc : Lib.strCells ⟨q.toArray⟩ = U8 q := by simp [Lib.strCells, U8]
 rw [hc] at hown
 have hblk : ∀ (X : Option Addr) (p q : Nat), (Value.slice X p q).ownBlock.toList = ob X := by intro X p q; cases X <;> rfl
 have hfr : Frm (ob A) w w' := by
  have := Frm.grown hgr
  rwa [hblk] at this
 rcases hown.2 with ⟨rfl, h0⟩ | ⟨g', cap', cur', rfl, h1, h2, h3, h4, h5, h6⟩
 · refine ⟨_, w', by rw [ex, hrun]; rfl, none, 0, by rw [h0], ⟨hown.1, .inl ⟨by rw [h0], h0⟩⟩, hfr, by simp [ob]⟩
 exact ⟨_, w', by rw [ex, hrun]; rfl, some ⟨g', 0, none⟩, cap', rfl, ⟨hown.1, .inr ⟨g', cap', cur', rfl, zas _, h2, h3, h4, h5, h6⟩⟩, hfr, by simp [ob]; exact h1⟩
end
end
section
open Go.RowKit
theorem qQf : ∀ (cs : List (List Nat)) (o : Nat) (c : List Nat), dG o (cs ++ [c]) = dG o cs ++ [rH o cs]
 | [], o, c => rfl
 | x :: cs, o, c => by rw [zdf, dG, qQf cs, dG, rH, zdf]
theorem qQg : ∀ (l : List Bb) (o : Nat) (x : Bb), cV o (l ++ [x]) = cV o l ++ [⟨x.1, x.2.length, crcM x.2, dG (kO o l) (chunkL x.2)⟩]
 | [], o, x => rfl
 | y :: l, o, x => by rw [zdf, cV, qQg l, cV, kO, zdf]
theorem qQh (l : List Bb) (x : Bb) : outM (l ++ [x]) = outM l ++ (chunkL x.2).flatMap qB := by simp [outM]
theorem mZ (l : List Bb) : kO 0 l = (outM l).length := by rw [qZp]; omega
noncomputable section
def lQ (n : Nat) (l : List Bb) : List Nat := qI n 2 ++ (cV 0 l).flatMap fJ
def chO (o : List Nat) (cs : List (List Nat)) : List Nat := o ++ cs.flatMap qB
def chD (o d : List Nat) (cs : List (List Nat)) : List Nat := d ++ (dG o.length cs).flatMap (fun b => qI b 4)
end
theorem qNh (o : List Nat) (cs : List (List Nat)) (c : List Nat) : chO o (cs ++ [c]) = chO o cs ++ qB c := by simp [chO]
theorem qNi (o d : List Nat) (cs : List (List Nat)) (c : List Nat) : chD o d (cs ++ [c]) = chD o d cs ++ qI (chO o cs).length 4 := by
 unfold chD chO
 rw [qQf, oZ, zaa, zdq, zj, zb]
theorem qG2 (n : Nat) (l : List Bb) (x : Bb) : lQ n (l ++ [x]) = chD (outM l) (lQ n l ++ qI x.1 8 ++ qI x.2.length 2 ++ qI (crcM x.2) 4) (chunkL x.2) := by
 unfold lQ chD
 rw [qQg, zaa, zdq, mZ]
 unfold fJ
 simp only [zj]
theorem qRk (l : List Bb) (x : Bb) : chO (outM l) (chunkL x.2) = outM (l ++ [x]) := by rw [qQh]; rfl
def Two (b : Nat) (W : World) (gO gD : Nat) (o d : List Nat) : Prop := ∃ A1 c1 A2 c2, Blk W gO 24 #[.slice A1 o.length c1] ∧ Blk W gD 24 #[.slice A2 d.length c2] ∧ Own W 5 1 A1 o.length c1 (NB o) ∧ Own W 5 1 A2 d.length c2 (NB d) ∧ (∀ x ∈ ob A1, x ∉ ob A2 ∧ b ≤ x) ∧ (∀ x ∈ ob A2, b ≤ x)
theorem Two.frm {b : Nat} {W W' : World} {gO gD : Nat} {o d : List Nat} {S : List Nat} (h : Two b W gO gD o d) (k : Frm S W W') (hS : ∀ x ∈ S, ∀ o, W.heap[x]? = some o → o.isCells = false) : Two b W' gO gD o d := by
 obtain ⟨A1, c1, A2, c2, h1, h2, h3, h4, h5, h6⟩ := h
 have hb : ∀ {g : Nat} {t : TypeId} {cs : Array Value}, Blk W g t cs → g ∉ S := fun hb hx => by
  have := hS _ hx _ hb
  cases this
 have ho : ∀ {e size n c : Nat} {A : Option Addr} {xs : List Value}, Own W e size A n c xs → ∀ x ∈ ob A, x ∉ S := fun ho x hx hx2 => by
  rcases ho.cases with ⟨rfl, _⟩ | ⟨g, cur, rfl, hb', _⟩
  · cases hx
  simp only [ob, zh] at hx
  subst hx
  exact hb hb' hx2
 exact ⟨A1, c1, A2, c2, h1.frm k (hb h1), h2.frm k (hb h2), h3.frm k (ho h3), h4.frm k (ho h4), h5, h6⟩
def MKs (b : Nat) (W : World) (ds : List Nat) : Prop := ds.Nodup ∧ ∀ d ∈ ds, dP W d ∧ b ≤ d
theorem MKs.frm {b : Nat} {W W' : World} {ds S : List Nat} (h : MKs b W ds) (k : Frm S W W') (hS : ∀ d ∈ ds, d ∉ S) : MKs b W' ds := ⟨h.1, fun d hd => ⟨(h.2 d hd).1.frm k (hS d hd), (h.2 d hd).2⟩⟩
theorem qRl (e : En) : ∀ b ∈ fJ e, b < 256 := by
 intro b hb
 unfold fJ at hb
 rcases List.mem_append.1 hb with hb | hb
 ·
  rcases List.mem_append.1 hb with hb | hb
  ·
   rcases List.mem_append.1 hb with hb | hb
   · exact gA _ _ b hb
   exact gA _ _ b hb
  exact gA _ _ b hb
 obtain ⟨x, _, hb⟩ := List.mem_flatMap.1 hb
 exact gA _ _ b hb
theorem yJ (l : List Bb) : ∀ b ∈ bF l, b < 256 := by
 intro b hb
 unfold bF bE at hb
 rcases List.mem_append.1 hb with hb | hb
 ·
  rcases List.mem_append.1 hb with hb | hb
  ·
   rcases List.mem_append.1 hb with hb | hb
   · exact gA _ _ b hb
   obtain ⟨x, _, hb⟩ := List.mem_flatMap.1 hb
   exact qRl x b hb
  exact gA _ _ b hb
 exact gA _ _ b hb
theorem cL : ∀ (cs : List (List Nat)) (o : Nat), (dG o cs).length = cs.length
 | [], _ => rfl
 | c :: cs, o => by rw [dG, zq, cL cs, zq]
theorem tP : ∀ L : List Nat, (L.flatMap fun b => qI b 4).length = 4 * L.length
 | [] => rfl
 | a :: L => by rw [zm, zb, tP L, bN, zq]; omega
theorem qZs (e : En) : (fJ e).length = 14 + 4 * e.begins.length := by
 unfold fJ
 simp only [zb, bN, tP]
theorem mF : ∀ (l : List Bb) (o : Nat), (∀ x ∈ l, x.2.length ≤ 4032) → ((cV o l).flatMap fJ).length ≤ 78 * l.length
 | [], _, _ => zk _
 | x :: l, o, h => by
  have h1 := mF l (rH o (chunkL x.2)) (fun y hy => h y (zbi _ hy))
  have h2 := mE (h x zbf)
  rw [cV, zm, zb, qZs, cL, zq]
  omega
theorem qWf (n : Nat) (l : List Bb) (h : ∀ x ∈ l, x.2.length ≤ 4032) : (lQ n l).length ≤ 2 + 78 * l.length := by
 have := mF l 0 h
 unfold lQ
 rw [zb, bN]
 omega
theorem rM {l : List Bl} (h : fY l) {i : Nat} (hi : i < l.length) : (l.getD i bl0).d.length ≤ 4032 := (h.1 i hi).1
theorem rN (A : Option Addr) (n c : Nat) (l : List Bl) (w : World) (hn : n ≤ 1000000) (hr : RdB w A n l) (hmay : fY l) :
  Calls Tryz.prog 7 #[.slice A n c] w fun e w' => ∃ B d, e = .returned (.tuple #[.slice B (segM (l.map Bl.b)).length d, .int .i64 ((0 : Nat) : Int)]) ∧ Own w' 5 1 B (segM (l.map Bl.b)).length d (NB (segM (l.map Bl.b))) ∧ Frm [] w w' ∧ ∀ x ∈ ob B, w.heap.size ≤ x := by
 have hnl := hr.len
 have h64 : n ≤ 64 := by have := hmay.2.2; omega
 have h1n : 1 ≤ n := by have := hmay.2.1; omega
 refine DV.calls (nt := 73) (res := #[.tmp 2, .tmp 3]) Tryz.func7 rfl Tryz.ntmps7 Tryz.results7 rfl ?_
 refine DV.seq ?_
 refine DV.vc ?_
 refine jR (ja rfl (jz 0 (jO ?_)))
 refine bI ?_
 refine DV.seq ?_
 refine DV.seq ?_
 refine DV.vc ?_
 refine jR (jM ?_)
 refine Ops.cl (jE1 Tryz.call14) (xY A n c l w hn hr) rfl ?_
 rintro e w1 ⟨rfl, K⟩
 refine ⟨_, rfl, ?_⟩
 rw [decide_eq_true hmay]
 refine je (Run.not rfl) (jO ?_)
 refine bI ?_
 refine DV.sub [(0, _), (2, _), (3, _), (13, _)] (js4 rfl rfl rfl rfl) ?_
 refine DV.vc ?_
 refine VC.condF rfl (rfl) ?_
 refine jQ ?_
 refine bI ?_
 refine DV.sub [(0, _), (2, _), (3, _)] (js3 rfl rfl rfl) ?_
 refine DV.seq ?_
 refine DV.vc ?_
 refine jR ?_
 refine Ops.m (qJ.alloc qQx) rfl ?_
 rintro _ w2 ⟨rfl, hF2⟩
 have hbO : Blk w2 w1.heap.size 24 #[.slice none 0 0] := hF2.blk
 have hs2 := hF2.size
 have hk1 := K.size
 have K := K.trans hF2.frm jp
 obtain ⟨gO, hgO⟩ : ∃ g, g = w1.heap.size := ⟨_, rfl⟩
 rw [← hgO] at hbO hs2
 rw [← hgO]
 have hO1 : w.heap.size ≤ gO := jo
 refine jO ?_
 refine bI ?_
 refine DV.seq ?_
 refine DV.vc ?_
 refine jR (jm rfl (je (Run.lenS rfl zai) (je (Run.convN _ rfl zx zab (by simp only [bmax]; omega)) ?_)))
 refine Ops.cl (jE3 zft) (fN none 0 0 n 2 [] w2 rfl jo jo jo jo (Own.nil _ _ _)) rfl ?_
 rintro e w3 ⟨B, d, rfl, hoB, hf3, huB⟩
 have hf3 : Frm [] w2 w3 := hf3
 rw [zbo] at hoB
 refine ⟨_, rfl, ?_⟩
 have hbO := hbO.frm hf3 jp
 have hk2 := K.size
 have hBs : ∀ x ∈ ob B, w2.heap.size ≤ x := fun x hx => by rcases huB x hx with h | h; cases h; exact h
 have K := K.trans hf3 jp
 have hlO := hbO.lt
 have hlB := hoB.lt
 refine Ops.m (qJ.alloc qQx) rfl ?_
 rintro _ w4 ⟨rfl, hF4⟩
 have hbO := hbO.frm hF4.frm jp
 have hoB := hoB.frm hF4.frm jp
 have hb4 := hF4.blk
 have hk3 := hf3.size
 have hs4 := hF4.size
 have K := K.trans hF4.frm jp
 obtain ⟨gD, hgD⟩ : ∃ g, g = w3.heap.size := ⟨_, rfl⟩
 rw [← hgD] at hb4 hs4
 rw [← hgD]
 have hOD : gO < gD := jo
 refine Ops.st (qR.store rfl rfl zl hb4 rfl rfl) ?_
 rintro w5 ⟨hbD, hf5, hs5⟩
 have hbO := hbO.frm hf5 (by simp; omega)
 have hoB := hoB.frm hf5 (fun x hx => by have := hlB x hx; simp; omega)
 have hbD : Blk w5 gD 24 #[.slice B (0 + 2) d] := hbD
 have K := K.own hf5 (by simp; omega)
 have hd0 : lQ n (((l.map Bl.b)).take 0) = qI n 2 := by simp [lQ, cV]
 have hT : Two w.heap.size w5 gO gD (outM ((l.map Bl.b).take 0)) (lQ n ((l.map Bl.b).take 0)) := by
  rw [hd0]
  refine ⟨none, 0, B, d, hbO, ?_, Own.nil _ _ _, ?_, by simp [ob], fun x hx => by have := hBs x hx; omega⟩
  · rw [bN]; exact hbD
  rw [bN]; exact hoB
 have hlD := hbD.lt
 refine jO ?_
 refine bI ?_
 refine DV.sub [(0, _), (2, _), (3, _), (4, _), (5, _)] (js5 rfl rfl rfl rfl rfl) ?_
 refine DV.seq ?_
 refine DV.seq ?_
 refine DV.vc ?_
 refine jR (jm rfl (je (Run.lenS rfl zai) ?_))
 refine jx .i64 0 ?_
 refine jO ?_
 refine bI ?_
 refine DV.sub [(2, _), (3, _), (4, _), (5, _), (18, _), (19, _), (20, _)] (js7 rfl rfl rfl rfl rfl rfl rfl) ?_
 refine DV.block ?_
 refine DV.loop (σ := Nat × List Nat) (fun s => s.2) (fun s => [(2, _), (3, _), (4, .pointer (some ⟨gO, 0, none⟩)), (5, .pointer (some ⟨gD, 0, none⟩)), (18, .slice A n c), (19, .int .i64 ((n : Nat) : Int)), (20, .int .i64 ((s.1 : Nat) : Int))]) (fun s wr => s.1 ≤ n ∧ Two w.heap.size wr gO gD (outM ((l.map Bl.b).take s.1)) (lQ n ((l.map Bl.b).take s.1)) ∧ Frm [] w wr ∧ MKs w.heap.size wr s.2 ∧ gD < wr.heap.size) (fun s => n - s.1) (0, []) rfl (js7 rfl rfl rfl rfl rfl rfl rfl) ⟨jo, hT, K, ⟨List.nodup_nil, jp⟩, hlD⟩ ?_
 rintro ⟨i, ds⟩ wr ⟨hi, hT, K, hM, hgD2⟩
 dsimp only at hi hT hM ⊢
 have hoL : (outM ((l.map Bl.b).take i)).length ≤ 8272 * i := by
  have h1 := lR ((l.map Bl.b).take i) (fun x hx => by
   obtain ⟨y, hy, rfl⟩ := List.mem_map.1 (zag hx)
   obtain ⟨q1, q2, q3, q4, _⟩ := hr.el y hy
   obtain ⟨k, hk, rfl⟩ := zbc hy
   have := rM hmay hk
   rw [zc, za hk] at this
   exact ⟨this, q3, q4⟩)
  have h2 : ((l.map Bl.b).take i).length ≤ i := by rw [zi]; omega
  have h3 : 8272 * ((l.map Bl.b).take i).length ≤ 8272 * i := Nat.mul_le_mul_left _ h2
  omega
 have hdL : (lQ n ((l.map Bl.b).take i)).length ≤ 2 + 78 * i := by
  have h1 := qWf n ((l.map Bl.b).take i) (fun x hx => by
   obtain ⟨y, hy, rfl⟩ := List.mem_map.1 (zag hx)
   obtain ⟨k, hk, rfl⟩ := zbc hy
   have := rM hmay hk
   rw [zc, za hk] at this
   exact this)
  have h2 : ((l.map Bl.b).take i).length ≤ i := by rw [zi]; omega
  have h3 : 78 * ((l.map Bl.b).take i).length ≤ 78 * i := Nat.mul_le_mul_left _ h2
  omega
 refine DV.seq ?_
 refine DV.vc ?_
 refine jR (jb rfl rfl (Bin.lssN _ _) (jO ?_))
 refine bI ?_
 refine DV.seq ?_
 refine DV.vc ?_
 refine jD rfl (fun hc2 => ?_) fun hc2 => ?_
 ·
  have hrw := hr.frm K
  obtain ⟨ad, rfl, hel⟩ := hrw.cell hc2
  have hym := jF (jo : i < l.length)
  obtain ⟨hyc, _, hyid, hyb, hyr⟩ := hr.el _ hym
  have hy40 := rM hmay (jo : i < l.length)
  have hts : (l.map Bl.b).take (i + 1) = (l.map Bl.b).take i ++ [(l.getD i bl0).b] := by
   rw [zaj, zbk, za (jo : i < l.length), zc, za (jo : i < l.length)]
   rfl
  generalize l.getD i bl0 = y at hel hym hyc hyid hyb hyr hy40 hts
  have hbl := uX (x := y.b) hy40 hyb
  have hcrc := mI y.d
  refine jQ ?_
  refine bI ?_
  refine DV.sub [(2, _), (3, _), (4, _), (5, _), (18, _), (19, _), (20, _)] (js7 rfl rfl rfl rfl rfl rfl rfl) ?_
  refine DV.seq ?_
  refine DV.block ?_
  refine DV.seq ?_
  refine DV.vc ?_
  refine jR (je (Run.indexS _ rfl rfl zai zbw jo) (je (Run.loadA rfl Tryz.isAgg41 zbw hel (by first | rfl | (simp; done))) ?_))
  refine Ops.m (qJ.alloc gY) rfl ?_
  rintro _ w6 ⟨rfl, hF6⟩
  have hk6 := K.size
  refine Ops.st (qR.storeA rfl rfl zbw hF6.blk rfl (by intro v hv; exact BC_one [y] v (by simpa [BC] using hv))) ?_
  rintro w7 ⟨hb7, hf7, hs7⟩
  have hf67 : Frm [] wr w7 := hF6.frm.own hf7 jp
  have hT := hT.frm hf67 jp
  have hM := hM.frm hf67 jp
  have K := K.trans hf67 jp
  have hgD2 : gD < w7.heap.size := zat hgD2 hf67.size
  obtain ⟨g7, hg7⟩ : ∃ g, g = wr.heap.size := ⟨_, rfl⟩
  rw [← hg7] at hb7
  rw [← hg7]
  obtain ⟨A1, c1, A2, c2, hb1, hb2, hO1, hO2, hd1, hd2⟩ := hT
  generalize hov : outM ((l.map Bl.b).take i) = o0 at *
  generalize hdv : lQ n ((l.map Bl.b).take i) = d0 at *
  refine jO ?_
  refine bI ?_
  refine DV.sub [(2, _), (3, _), (4, _), (5, _), (7, _), (18, _), (19, _), (20, _)] (js8 rfl rfl rfl rfl rfl rfl rfl rfl) ?_
  refine DV.seq ?_
  refine DV.vc ?_
  refine VC.heldL 14 (fun v => Blk v gD 24 #[.slice A2 d0.length c2] ∧ Blk v g7 41 (blC y).toArray) jK ?_
  have hS : (fun v => Blk v gD 24 #[.slice A2 d0.length c2] ∧ Blk v g7 41 (blC y).toArray) w7.drew := ⟨hb2.drawn (qQ.drew _), hb7.drawn (qQ.drew _)⟩
  have hb1 := hb1.drawn (qQ.drew w7)
  have hO1 := hO1.drawn (qQ.drew w7)
  have hO2 := hO2.drawn (qQ.drew w7)
  have hM := hM.frm (qQ.drew w7).frm jp
  have K := K.drawn (qQ.drew w7)
  have hgD2 : gD < w7.drew.heap.size := hgD2
  refine jH 0 rfl hS (fun w0 hw0 => Run.load rfl zt (hw0.1.cell 0)) ?_
  refine jH 1 rfl hS (fun w0 hw0 => Run.fieldAddr rfl zar rfl zbd jd) ?_
  refine jH 2 rfl hS (fun w0 hw0 => Run.load rfl zcc (hw0.2.cell 0)) ?_
  refine jH 4 rfl hS (fun w0 hw0 => Run.fieldAddr rfl zar rfl zl jd) ?_
  refine jH 5 rfl hS (fun w0 hw0 => Run.load rfl zt (hw0.2.cell 1)) ?_
  refine jH 6 rfl hS (fun w0 hw0 => Run.lenS rfl ze) ?_
  refine jH 7 rfl hS (fun w0 hw0 => Run.convN _ rfl zx zab (by simp only [bmax]; omega)) ?_
  refine jH 9 rfl hS (fun w0 hw0 => Run.fieldAddr rfl zar rfl zl jd) ?_
  refine jH 10 rfl hS (fun w0 hw0 => Run.load rfl zt (hw0.2.cell 1)) ?_
  refine qV.cl 3 rfl jK (jE3 zft) (fN A2 d0.length c2 y.id 8 d0 _ (by simp only [zb, bN]) jo jo jo (zat hyid jd) hO2) trivial rfl rfl ?_
  rintro e w8 ⟨B1, e1, rfl, hoB, hfB, huB⟩
  have hb1 := hb1.frm hfB (hO2.ne_blk hb1 jd)
  have hS := And.intro (hS.1.frm hfB (hO2.ne_blk hS.1 jd)) (hS.2.frm hfB (hO2.ne_blk hS.2 jd))
  have hO1l := hO1.lt
  have hO1 := hO1.frm hfB (fun x hx hx2 => (hd1 x hx).1 hx2)
  have hM := hM.frm hfB (fun d hd => (hM.2 d hd).1.ne_own hO2)
  have hks0 := K.size
  have hgD2 : gD < w8.heap.size := zat hgD2 hfB.size
  have K := K.own hfB hd2
  have hd1 : ∀ x ∈ ob A1, x ∉ ob B1 ∧ w.heap.size ≤ x := fun x hx => ⟨fun hx2 => by
   rcases huB x hx2 with h | h
   · exact (hd1 x hx).1 h
   have := hO1l x hx; omega, (hd1 x hx).2⟩
  have hd2 : ∀ x ∈ ob B1, w.heap.size ≤ x := fun x hx => by
   rcases huB x hx with h | h
   · exact hd2 x h
   omega
  have hO2 := hoB
  refine ⟨_, rfl, hS, ?_⟩
  refine qV.cl 8 rfl jK (jE3 zft) (fN B1 (d0.length + 8) e1 y.d.length 2 (d0 ++ qI y.id 8) _ (by simp only [zb, bN]) jo jo jo jo hO2) trivial rfl rfl ?_
  rintro e w9 ⟨B2, e2, rfl, hoB, hfB, huB⟩
  have hb1 := hb1.frm hfB (hO2.ne_blk hb1 jd)
  have hS := And.intro (hS.1.frm hfB (hO2.ne_blk hS.1 jd)) (hS.2.frm hfB (hO2.ne_blk hS.2 jd))
  have hO1l := hO1.lt
  have hO1 := hO1.frm hfB (fun x hx hx2 => (hd1 x hx).1 hx2)
  have hM := hM.frm hfB (fun d hd => (hM.2 d hd).1.ne_own hO2)
  have hks0 := K.size
  have hgD2 : gD < w9.heap.size := zat hgD2 hfB.size
  have K := K.own hfB hd2
  have hd1 : ∀ x ∈ ob A1, x ∉ ob B2 ∧ w.heap.size ≤ x := fun x hx => ⟨fun hx2 => by
   rcases huB x hx2 with h | h
   · exact (hd1 x hx).1 h
   have := hO1l x hx; omega, (hd1 x hx).2⟩
  have hd2 : ∀ x ∈ ob B2, w.heap.size ≤ x := fun x hx => by
   rcases huB x hx with h | h
   · exact hd2 x h
   omega
  have hO2 := hoB
  refine ⟨_, rfl, hS, ?_⟩
  refine qV.cl 11 rfl jK (jE1 Tryz.call16) (sH y.A y.c y.d.length y.d _ rfl jo hyb (hyr.frm K jp)) trivial rfl rfl ?_
  rintro e w10 ⟨rfl, hf10⟩
  have hS := And.intro (hS.1.frm hf10 jp) (hS.2.frm hf10 jp)
  have hb1 := hb1.frm hf10 jp
  have hO1 := hO1.frm hf10 jp
  have hO2 := hO2.frm hf10 jp
  have hM := hM.frm hf10 jp
  have K := K.trans hf10 jp
  have hgD2 : gD < w10.heap.size := zat hgD2 hf10.size
  refine ⟨_, rfl, hS, ?_⟩
  refine qV.r1 12 rfl jK hS (Run.convN _ rfl zfb zab (by simp only [bmax]; omega)) trivial rfl rfl ?_
  refine qV.cl 13 rfl jK (jE3 zft) (fN B2 (d0.length + 8 + 2) e2 (crcM y.d) 4 (d0 ++ qI y.id 8 ++ qI y.d.length 2) _ (by simp only [zb, bN]) jo jo jo jo hO2) trivial rfl rfl ?_
  rintro e w11 ⟨B3, e3, rfl, hoB, hfB, huB⟩
  have hb1 := hb1.frm hfB (hO2.ne_blk hb1 jd)
  have hS := And.intro (hS.1.frm hfB (hO2.ne_blk hS.1 jd)) (hS.2.frm hfB (hO2.ne_blk hS.2 jd))
  have hO1l := hO1.lt
  have hO1 := hO1.frm hfB (fun x hx hx2 => (hd1 x hx).1 hx2)
  have hM := hM.frm hfB (fun d hd => (hM.2 d hd).1.ne_own hO2)
  have hks0 := K.size
  have hgD2 : gD < w11.heap.size := zat hgD2 hfB.size
  have K := K.own hfB hd2
  have hd1 : ∀ x ∈ ob A1, x ∉ ob B3 ∧ w.heap.size ≤ x := fun x hx => ⟨fun hx2 => by
   rcases huB x hx2 with h | h
   · exact (hd1 x hx).1 h
   have := hO1l x hx; omega, (hd1 x hx).2⟩
  have hd2 : ∀ x ∈ ob B3, w.heap.size ≤ x := fun x hx => by
   rcases huB x hx with h | h
   · exact hd2 x h
   omega
  have hO2 := hoB
  refine ⟨_, rfl, hS, ?_⟩
  refine qV.stL rfl jK (qR.store rfl rfl zl hS.1 rfl rfl) trivial rfl ?_
  rintro w12 ⟨hbD, hf12, hs12⟩
  have hT : Two w.heap.size w12 gO gD o0 (d0 ++ qI y.id 8 ++ qI y.d.length 2 ++ qI (crcM y.d) 4) := by
   have hlen : (d0 ++ qI y.id 8 ++ qI y.d.length 2 ++ qI (crcM y.d) 4).length = d0.length + 8 + 2 + 4 := by simp only [zb, bN]
   refine ⟨A1, c1, B3, e3, hb1.frm hf12 (by simp; omega), ?_, hO1.frm hf12 (fun x hx hx2 => by rw [zh] at hx2; subst hx2; exact hO1.ne_blk hS.1 jd hx), ?_, hd1, hd2⟩
   · rw [hlen]; exact hbD
   rw [hlen]; exact hO2.frm hf12 (fun x hx hx2 => by rw [zh] at hx2; subst hx2; exact hO2.ne_blk hS.1 jd hx)
  have hb7 := hS.2.frm hf12 (by simp; omega)
  have hM := hM.frm hf12 (fun d hd => by simp; exact (hM.2 d hd).1.ne_blk hS.1)
  have K := K.own hf12 (by simp; omega)
  have hgD2 : gD < w12.heap.size := jo
  clear hO1 hO2 hb1
  refine qV.done jK ?_
  refine bI ?_
  refine DV.sub [(2, _), (3, _), (4, _), (5, _), (7, _), (18, _), (19, _), (20, _)] (js8 rfl rfl rfl rfl rfl rfl rfl rfl) ?_
  refine DV.seq ?_
  refine DV.vc ?_
  refine jR (jf rfl zar rfl zl (jl rfl zt (hb7.cell 1) ?_))
  refine Ops.cl (jE2 Tryz.call17) (qWe y.A y.d.length y.c w12) rfl ?_
  rintro e w13 ⟨hf13, g1, g2, rfl, hg1, hg2, hg1n, hg2n⟩
  refine ⟨_, rfl, ?_⟩
  have hT := hT.frm hf13 jp
  have hM := hM.frm hf13 jp
  have K := K.trans hf13 jp
  have hks := hf13.size
  have hl1 := hg1.lt
  have hl2 := hg2.lt
  generalize hdv2 : d0 ++ qI y.id 8 ++ qI y.d.length 2 ++ qI (crcM y.d) 4 = d1 at *
  refine jO ?_
  refine bI ?_
  refine DV.sub [(2, _), (3, _), (4, _), (5, _), (18, _), (19, _), (20, _), (40, _)] (js8 rfl rfl rfl rfl rfl rfl rfl rfl) ?_
  refine DV.block ?_
  have hMlt : ∀ d ∈ ds, d < w13.heap.size := fun d hd => (Array.getElem?_eq_some_iff.1 (hM.2 d hd).1).1
  have hKs := K.size
  refine DV.range (ps := [41]) (fun (x : Option Addr × Nat × List Nat) => [.slice x.1 x.2.2.length x.2.1]) (qWd y.A y.c y.d g1 g2 jo hyc) rfl Tryz.call31 (fun _ => rfl) rfl (fun pre W => Two w.heap.size W gO gD (chO o0 (pre.map (·.2.2))) (chD o0 d1 (pre.map (·.2.2))) ∧ Frm [] w W ∧ MKs w.heap.size W ds ∧ Blk W g1 24 #[.slice y.A y.d.length y.c] ∧ Blk W g2 3 #[.int .i64 ((256 : Nat) : Int)] ∧ w13.heap.size ≤ W.heap.size) (fun _ _ _ => False) (fun x => [(4, .pointer (some ⟨gO, 0, none⟩)), (5, .pointer (some ⟨gD, 0, none⟩)), (8, .slice x.1 x.2.2.length x.2.1)]) ?_ ?_ ?_ ?_ ?_ ?_ ?_ ?_ ?_ ?_ ?_
  ·
   rintro pre W W' S ⟨h1, h2, h3, h4, h5, h6⟩ hf hS
   exact ⟨h1.frm hf (fun x hx => ((hS x hx).resolve_left jp).2), h2.nc hf hS jp hKs, h3.frm hf (fun d hd hd2 => by have := ((hS d hd2).resolve_left jp).1; have := hMlt d hd; omega), h4.frm hf (h4.nc hS jp), h5.frm hf (h5.nc hS jp), zo h6 hf.size⟩
  · exact fun _ _ _ _ _ h => h.elim
  · exact fun W hf => ⟨hg1.frm hf jp, hg2.frm hf jp⟩
  · simp
  · simp; omega
  · exact ⟨by simpa [chO, chD, dG] using hT, K, hM, hg1, hg2, zk _⟩
  ·
   intro l x W
   refine jv3 4 5 41 ?_
   refine jR (ja rfl (jO ?_))
   refine jN ⟨rfl, (js3 rfl rfl rfl)⟩
  ·
   rintro l' pre x W ⟨hT, K, hM, hg1, hg2, hsz0⟩ hpre hsz hmk
   have hxm : x ∈ fL y.A y.d := hpre.subset jp
   obtain ⟨hxc, hxr⟩ := qKv (hyr.frm K jp) hyc x hxm
   have hxd : x.2.2 ∈ chunkL y.d := by rw [← tN y.A y.d]; exact zem hxm
   obtain ⟨hx256, hxin⟩ := nR hxd
   have hxb : ∀ b ∈ x.2.2, b < 256 := fun b hb => hyb b (hxin b hb)
   have hco : (chO o0 (pre.map (·.2.2))).length ≤ 600000 := by
    obtain ⟨t, ht⟩ := hpre
    have h1 := congrArg (List.map (·.2.2)) ht
    rw [tN, zbx, zbx] at h1
    have h2 : (((pre.map (·.2.2)).flatMap qB)).length ≤ ((chunkL y.d).flatMap qB).length := by
     rw [← h1]
     simp only [zaa, zb]
     omega
    have h3 : ((chunkL y.d).flatMap qB).length ≤ 8272 := hbl
    unfold chO
    rw [zb]
    omega
   have hcd : (chD o0 d1 (pre.map (·.2.2))).length ≤ 100000 := by
    obtain ⟨t, ht⟩ := hpre
    have h1 := congrArg List.length ht
    rw [qZr, zb, zb] at h1
    have h2 : (chunkL y.d).length ≤ 16 := mE hy40
    unfold chD
    rw [zb, tP, cL, zu, ← hdv2]
    simp only [zb, bN]
    omega
   have hsn1 := qNh o0 (pre.map (·.2.2)) x.2.2
   have hsn2 := qNi o0 d1 (pre.map (·.2.2)) x.2.2
   have hmp : (pre ++ [x]).map (·.2.2) = pre.map (·.2.2) ++ [x.2.2] := jp
   obtain ⟨A1, c1, A2, c2, hb1, hb2, hO1, hO2, hd1, hd2⟩ := hT
   generalize chO o0 (pre.map (·.2.2)) = co at *
   generalize chD o0 d1 (pre.map (·.2.2)) = cd at *
   have hbO0 := hb1
   have hbD0 := hb2
   have hO10 := hO1
   have hO20 := hO2
   have hg10 := hg1
   have hg20 := hg2
   have KB := Frm.refl (ob A1 ++ ob A2 ++ [gO, gD]) W
   have hKW := K.size
   refine jB (jS (jR (jl rfl zt (hb2.cell 0) (jl rfl zt (hb1.cell 0) (je (Run.lenS rfl ze) (je (Run.convN _ rfl zx zab (by simp only [bmax]; omega)) ?_))))))
   refine Ops.cl (jE3 zft) (fN A2 _ c2 co.length 4 cd _ rfl jo jo jo jo hO2) rfl ?_
   rintro e W1 ⟨B, e4, rfl, hoB, hfB, huB⟩
   refine ⟨_, rfl, ?_⟩
   have hb1 := hb1.frm hfB (hO20.ne_blk hbO0 jd)
   have hb2 := hb2.frm hfB (hO20.ne_blk hbD0 jd)
   have hO1 := hO1.frm hfB (fun x hx hx2 => (hd1 x hx).1 hx2)
   have hg1 := hg1.frm hfB (hO20.ne_blk hg1 jd)
   have hg2 := hg2.frm hfB (hO20.ne_blk hg2 jd)
   have hM := hM.frm hfB (fun d hd => (hM.2 d hd).1.ne_own hO20)
   have K := K.own hfB hd2
   have KB := KB.trans hfB (fun x hx => .inl (by simp [hx]))
   have hd1 : ∀ x ∈ ob A1, x ∉ ob B ∧ w.heap.size ≤ x := fun x hx => ⟨fun hx2 => by
    rcases huB x hx2 with h | h
    · exact (hd1 x hx).1 h
    have := hO10.lt x hx; omega, (hd1 x hx).2⟩
   have hdB : ∀ x ∈ ob B, w.heap.size ≤ x ∧ (x ∈ ob A2 ∨ W.heap.size ≤ x) := fun x hx => by
    rcases huB x hx with h | h
    · exact ⟨hd2 x h, .inl h⟩
    exact ⟨jo, .inr h⟩
   refine Ops.st (qR.store rfl rfl zl hb2 rfl rfl) ?_
   rintro W2 ⟨hbD, hf2, hs2⟩
   have hb1 := hb1.frm hf2 (by simp; omega)
   have hO1 := hO1.frm hf2 (fun x hx hx2 => by rw [zh] at hx2; subst hx2; exact hO1.ne_blk hb2 jd hx)
   have hoB := hoB.frm hf2 (fun x hx hx2 => by rw [zh] at hx2; subst hx2; exact hoB.ne_blk hb2 jd hx)
   have hg1 := hg1.frm hf2 (by simp; omega)
   have hg2 := hg2.frm hf2 (by simp; omega)
   have hM := hM.frm hf2 (fun d hd => by simp; exact (hM.2 d hd).1.ne_blk hb2)
   have K := K.own hf2 (by simp; omega)
   have KB := KB.trans hf2 (fun x hx => .inl (by simp at hx; simp [hx]))
   refine jO (jN (jv2 4 8 ?_))
   refine jS (jR (jM ?_))
   refine Ops.cl (jE1 Tryz.call18) (qGx x.1 x.2.1 x.2.2 W2 jo jo hxb (qKv (hyr.frm K jp) hyc x hxm).2) rfl ?_
   rintro e W3 ⟨Bs, cs, rfl, hos, hf3, _⟩
   refine ⟨_, rfl, ?_⟩
   have hb1 := hb1.frm hf3 jp
   have hbD := hbD.frm hf3 jp
   have hO1 := hO1.frm hf3 jp
   have hoB := hoB.frm hf3 jp
   have hg1 := hg1.frm hf3 jp
   have hg2 := hg2.frm hf3 jp
   have hM := hM.frm hf3 jp
   have K := K.trans hf3 jp
   have KB := KB.trans hf3 jp
   have hsl := xW hx256 hxb
   have hos : Own W3 5 1 Bs (qB x.2.2).length cs (NB (qB x.2.2)) := hos
   have es : (dZ x.2.2 2).length = (qB x.2.2).length := rfl
   rw [es]
   refine jm rfl (je (Run.extract rfl rfl) (je (Run.extract rfl rfl) (ja rfl (ja rfl (jO (jN (jv2 4 9 ?_)))))))
   refine jR (jl rfl zt (hb1.cell 0) (jM ?_))
   refine Ops.m (qJ.app rfl rfl ze (dD) rfl jd hO1 hos.rd (dH _) jo jo) rfl ?_
   rintro _ W4 ⟨B4, e5, rfl, ho4, hf4, hob4⟩
   rw [← eA] at ho4
   have hb1' := hb1.frm hf4 (hO1.ne_blk hb1 jd)
   have hbD := hbD.frm hf4 (hO1.ne_blk hbD jd)
   have hoB0 := hoB.lt
   have hoB := hoB.frm hf4 (fun x hx hx2 => (hd1 x hx2).1 hx)
   have hg1 := hg1.frm hf4 (hO1.ne_blk hg1 jd)
   have hg2 := hg2.frm hf4 (hO1.ne_blk hg2 jd)
   have hM := hM.frm hf4 (fun d hd => (hM.2 d hd).1.ne_own hO1)
   have hK3 := K.size
   have K := K.own hf4 (fun x hx => (hd1 x hx).2)
   have KB4 := KB.trans hf4 (fun x hx => .inl (by simp [hx]))
   have hd4 : ∀ x ∈ ob B4, x ∉ ob B ∧ w.heap.size ≤ x := fun x hx => by
    rcases hob4 with h | h
    · rw [h] at hx; exact hd1 x hx
    rw [h, zh] at hx
    subst hx
    refine ⟨fun hx2 => ?_, hK3⟩
    have := (hoB0 : ∀ x ∈ ob B, x < W3.heap.size) _ hx2
    omega
   refine Ops.st (qR.store rfl rfl zl hb1' rfl rfl) ?_
   rintro W5 ⟨hbO5, hf5b, hs5b⟩
   refine jO ?_
   refine qK (?_)
   have hK5 := K.own hf5b (by simp; omega)
   have hlenO : (co ++ qB x.2.2).length = co.length + (qB x.2.2).length := zb
   have hlenD : (cd ++ qI co.length 4).length = cd.length + 4 := by rw [zb, bN]
   refine ⟨⟨ob A1 ++ ob A2 ++ [gO, gD], KB4.trans hf5b (fun x hx => .inl (by simp at hx; simp [hx])), fun b hb => ?_⟩, ?_⟩
   ·
    rcases List.mem_append.1 hb with hb | hb
    ·
     rcases List.mem_append.1 hb with hb | hb
     · exact ⟨by simp; exact ⟨fun h => hO10.ne_blk hg10 jd (h ▸ hb), fun h => hO10.ne_blk hg20 jd (h ▸ hb)⟩, hO10.isC b hb⟩
     exact ⟨by simp; exact ⟨fun h => hO20.ne_blk hg10 jd (h ▸ hb), fun h => hO20.ne_blk hg20 jd (h ▸ hb)⟩, hO20.isC b hb⟩
    simp only [zcq, zcj, or_false] at hb
    rcases hb with rfl | rfl
    · exact ⟨by simp; omega, hbO0.isC⟩
    exact ⟨by simp; omega, hbD0.isC⟩
   dsimp only
   rw [hmp, hsn1, hsn2]
   refine ⟨⟨B4, e5, B, e4, ?_, ?_, ?_, ?_, hd4, fun x hx => (hdB x hx).1⟩, hK5, hM.frm hf5b (fun d hd => by simp; exact (hM.2 d hd).1.ne_blk hb1'), hg1.frm hf5b (by simp; omega), hg2.frm hf5b (by simp; omega), by have := KB4.size; omega⟩
   · rw [hlenO]; exact hbO5
   · rw [hlenD]; exact hbD.frm hf5b (by simp; omega)
   · rw [hlenO]; exact ho4.frm hf5b (fun x hx hx2 => by rw [zh] at hx2; subst hx2; exact ho4.ne_blk hb1' jd hx)
   rw [hlenD]; exact hoB.frm hf5b (fun x hx hx2 => by rw [zh] at hx2; subst hx2; exact hoB.ne_blk hb1' jd hx)
  ·
   rintro W ⟨hT, K, hM, hg1, hg2, hsz0⟩ hsz hmk
   rw [tN] at hT
   refine uO (uO (bI ?_))
   refine DV.sub [(2, _), (3, _), (4, _), (5, _), (18, _), (19, _), (20, _)] (js7 rfl rfl rfl rfl rfl rfl rfl) ?_
   refine DV.vc ?_
   refine jR (jb rfl rfl (Bin.add_i64 _ 1 jo) (jm rfl (jO ?_)))
   refine bI ⟨(i + 1, w13.heap.size :: ds), rfl, (js7 rfl rfl rfl rfl rfl rfl rfl), ?_, ?_⟩
   ·
    have e1 : outM ((l.map Bl.b).take (i + 1)) = chO o0 (chunkL y.d) := by rw [hts, ← qRk, hov]; rfl
    have e2 : lQ n ((l.map Bl.b).take (i + 1)) = chD o0 d1 (chunkL y.d) := by rw [hts, qG2, hov, hdv, ← hdv2]; rfl
    rw [← e1, ← e2] at hT
    exact ⟨by dsimp only; omega, hT, K, ⟨List.nodup_cons.2 ⟨fun h => by have := hMlt _ h; omega, hM.1⟩, fun d hd => by
     rcases zcq.1 hd with rfl | hd
     · exact ⟨hmk, hKs⟩
     exact hM.2 d hd⟩, jo⟩
   first | omega | (dsimp only; omega)
  · exact fun _ _ h => h.elim
  exact fun _ _ _ h => h.elim
 have ei : i = n := jo
 subst ei
 rw [zn (by rw [zu]; omega)] at hT hoL hdL
 have hoE := mZ (l.map Bl.b)
 obtain ⟨A1, c1, A2, c2, hb1, hb2, hO1, hO2, hd1, hd2⟩ := hT
 generalize hov : outM (l.map Bl.b) = out at *
 generalize hdv : lQ i (l.map Bl.b) = dir at *
 refine jX ?_
 refine qJ8 (qJ8 (qXk ?_))
 refine bI ?_
 refine DV.sub [(4, _), (5, _)] (js2 rfl rfl) ?_
 refine DV.seq ?_
 refine DV.vc ?_
 refine VC.heldL 9 (fun v => Blk v gD 24 #[.slice A2 dir.length c2] ∧ Blk v gO 24 #[.slice A1 out.length c1]) jK ?_
 have hS : (fun v => Blk v gD 24 #[.slice A2 dir.length c2] ∧ Blk v gO 24 #[.slice A1 out.length c1]) wr.drew := ⟨hb2.drawn (qQ.drew _), hb1.drawn (qQ.drew _)⟩
 have hO1 := hO1.drawn (qQ.drew wr)
 have hO2 := hO2.drawn (qQ.drew wr)
 have hM := hM.frm (qQ.drew wr).frm jp
 have K := K.drawn (qQ.drew wr)
 refine jH 0 rfl hS (fun w0 hw0 => Run.load rfl zt (hw0.1.cell 0)) ?_
 refine jH 1 rfl hS (fun w0 hw0 => Run.load rfl zt (hw0.2.cell 0)) ?_
 refine jH 2 rfl hS (fun w0 hw0 => Run.lenS rfl ze) ?_
 refine jH 3 rfl hS (fun w0 hw0 => Run.convN _ rfl zx zab (by simp only [bmax]; omega)) ?_
 refine jH 5 rfl hS (fun w0 hw0 => Run.load rfl zt (hw0.2.cell 0)) ?_
 refine jH 6 rfl hS (fun w0 hw0 => Run.lenS rfl ze) ?_
 refine jH 7 rfl hS (fun w0 hw0 => Run.convN _ rfl zx zab (by simp only [bmax]; omega)) ?_
 refine qV.cl 4 rfl jK (jE3 zft) (fN A2 dir.length c2 out.length 4 dir _ (by simp only [zb, bN]) jo jo jo jo hO2) trivial rfl rfl ?_
 rintro e w8 ⟨B1, e1, rfl, hoB, hfB, huB⟩
 have hS := And.intro (hS.1.frm hfB (hO2.ne_blk hS.1 jd)) (hS.2.frm hfB (hO2.ne_blk hS.2 jd))
 have hO1l := hO1.lt
 have hO1 := hO1.frm hfB (fun x hx hx2 => (hd1 x hx).1 hx2)
 have hM := hM.frm hfB (fun d hd => (hM.2 d hd).1.ne_own hO2)
 have hks0 := K.size
 have K := K.own hfB hd2
 have hd1 : ∀ x ∈ ob A1, x ∉ ob B1 ∧ w.heap.size ≤ x := fun x hx => ⟨fun hx2 => by
  rcases huB x hx2 with h | h
  · exact (hd1 x hx).1 h
  have := hO1l x hx; omega, (hd1 x hx).2⟩
 have hd2 : ∀ x ∈ ob B1, w.heap.size ≤ x := fun x hx => by
  rcases huB x hx with h | h
  · exact hd2 x h
  omega
 have hO2 := hoB
 refine ⟨_, rfl, hS, ?_⟩
 refine qV.cl 8 rfl jK (jE3 zft) (fN B1 (dir.length + 4) e1 out.length 4 (dir ++ qI out.length 4) _ (by simp only [zb, bN]) jo jo jo jo hO2) trivial rfl rfl ?_
 rintro e w9 ⟨B2, e2, rfl, hoB, hfB, huB⟩
 have hS := And.intro (hS.1.frm hfB (hO2.ne_blk hS.1 jd)) (hS.2.frm hfB (hO2.ne_blk hS.2 jd))
 have hO1l := hO1.lt
 have hO1 := hO1.frm hfB (fun x hx hx2 => (hd1 x hx).1 hx2)
 have hM := hM.frm hfB (fun d hd => (hM.2 d hd).1.ne_own hO2)
 have hks0 := K.size
 have K := K.own hfB hd2
 have hd1 : ∀ x ∈ ob A1, x ∉ ob B2 ∧ w.heap.size ≤ x := fun x hx => ⟨fun hx2 => by
  rcases huB x hx2 with h | h
  · exact (hd1 x hx).1 h
  have := hO1l x hx; omega, (hd1 x hx).2⟩
 have hd2 : ∀ x ∈ ob B2, w.heap.size ≤ x := fun x hx => by
  rcases huB x hx with h | h
  · exact hd2 x h
  omega
 have hO2 := hoB
 refine ⟨_, rfl, hS, ?_⟩
 refine qV.stL rfl jK (qR.store rfl rfl zl hS.1 rfl rfl) trivial rfl ?_
 rintro w10 ⟨hbD, hf10, hs10⟩
 have hbO := hS.2.frm hf10 (by simp; omega)
 have hO1 := hO1.frm hf10 (fun x hx hx2 => by rw [zh] at hx2; subst hx2; exact hO1.ne_blk hS.1 jd hx)
 have hO2 := hO2.frm hf10 (fun x hx hx2 => by rw [zh] at hx2; subst hx2; exact hO2.ne_blk hS.1 jd hx)
 have hM := hM.frm hf10 (fun d hd => by simp; exact (hM.2 d hd).1.ne_blk hS.1)
 have K := K.own hf10 (by simp; omega)
 have hdA : dir ++ qI out.length 4 ++ qI out.length 4 = bF (l.map Bl.b) := by
  unfold bF bE
  rw [mZ, hov, ← hdv]
  unfold lQ
  rw [zu, hnl]
 have hdl : (bF (l.map Bl.b)).length = dir.length + 4 + 4 := by rw [← hdA]; simp only [zb, bN]
 rw [hdA] at hO2
 have hdb := yJ (l.map Bl.b)
 refine qV.done jK ?_
 refine bI ?_
 refine DV.sub [(4, _), (5, _)] (js2 rfl rfl) ?_
 refine DV.seq ?_
 refine DV.vc ?_
 refine VC.held (fun v => Blk v gD 24 #[.slice B2 (dir.length + 4 + 4) e2] ∧ Blk v gO 24 #[.slice A1 out.length c1]) jK ?_
 have hS : (fun v => Blk v gD 24 #[.slice B2 (dir.length + 4 + 4) e2] ∧ Blk v gO 24 #[.slice A1 out.length c1]) w10.drew := ⟨hbD.drawn (qQ.drew _), hbO.drawn (qQ.drew _)⟩
 have hO1 := hO1.drawn (qQ.drew w10)
 have hO2 := hO2.drawn (qQ.drew w10)
 have hM := hM.frm (qQ.drew w10).frm jp
 have K := K.drawn (qQ.drew w10)
 refine jH 0 rfl hS (fun w0 hw0 => Run.load rfl zt (hw0.2.cell 0)) ?_
 refine jH 1 rfl hS (fun w0 hw0 => Run.load rfl zt (hw0.1.cell 0)) ?_
 refine jH 3 rfl hS (fun w0 hw0 => Run.load rfl zt (hw0.1.cell 0)) ?_
 refine qV.m 2 rfl jK (qJ.app rfl rfl ze (dD) rfl jd hO1 hO2.rd (dH _) jo jo) trivial rfl rfl ?_
 rintro _ w11 ⟨B3, e3, rfl, ho3, hf11, hob3⟩
 rw [← eA] at ho3
 have hS := And.intro (hS.1.frm hf11 (hO1.ne_blk hS.1 jd)) (hS.2.frm hf11 (hO1.ne_blk hS.2 jd))
 have hO2 := hO2.frm hf11 (fun x hx hx2 => (hd1 x hx2).1 hx)
 have hM := hM.frm hf11 (fun d hd => (hM.2 d hd).1.ne_own hO1)
 have hk10 := K.size
 have hu3 : ∀ x ∈ ob B3, w.heap.size ≤ x := fun x hx => by
  rcases hob3 with h | h
  · rw [h] at hx; exact (hd1 x hx).2
  rw [h, zh] at hx; omega
 have K := K.own hf11 (fun x hx => (hd1 x hx).2)
 refine ⟨hS, ?_⟩
 refine qV.cl 4 rfl jK (jE1 Tryz.call16) (sH B2 e2 (dir.length + 4 + 4) (bF (l.map Bl.b)) _ hdl jo hdb hO2.rd) trivial rfl rfl ?_
 rintro e w12 ⟨rfl, hf12⟩
 have hS := And.intro (hS.1.frm hf12 jp) (hS.2.frm hf12 jp)
 have ho3 := ho3.frm hf12 jp
 have hM := hM.frm hf12 jp
 have K := K.trans hf12 jp
 have hcl := mI (bF (l.map Bl.b))
 refine ⟨_, rfl, hS, ?_⟩
 refine jH 5 rfl hS (fun w0 hw0 => Run.convN _ rfl zfb zab (by simp only [bmax]; omega)) ?_
 refine qV.cl 6 rfl jK (jE3 zft) (fN B3 _ e3 (crcM (bF (l.map Bl.b))) 4 (out ++ bF (l.map Bl.b)) _ (by rw [zb, hdl]) jo jo jo jo ho3) trivial rfl rfl ?_
 rintro e w13 ⟨B4, e4, rfl, ho4, hf13, hu4⟩
 have hS := And.intro (hS.1.frm hf13 (ho3.ne_blk hS.1 jd)) (hS.2.frm hf13 (ho3.ne_blk hS.2 jd))
 have hM := hM.frm hf13 (fun d hd => (hM.2 d hd).1.ne_own ho3)
 have hk12 := K.size
 have hu4 : ∀ x ∈ ob B4, w.heap.size ≤ x := fun x hx => by
  rcases hu4 x hx with h | h
  · exact hu3 x h
  omega
 have K := K.own hf13 hu3
 refine ⟨_, rfl, hS, ?_⟩
 refine qV.m 7 rfl jK (qJ.appStr (q := [115, 101, 97, 108]) w.heap.size rfl rfl ze Tryz.underlying9 (dD) ho4 hu4 K.size (by simp; omega)) trivial rfl rfl ?_
 rintro _ w14 ⟨B5, e5, rfl, ho5, hf14, hu5⟩
 have hS := And.intro (hS.1.frm hf14 (ho4.ne_blk hS.1 jd)) (hS.2.frm hf14 (ho4.ne_blk hS.2 jd))
 have hM := hM.frm hf14 (fun d hd => (hM.2 d hd).1.ne_own ho4)
 have K := K.own hf14 hu4
 have hseg : out ++ bF (l.map Bl.b) ++ qI (crcM (bF (l.map Bl.b))) 4 ++ [115, 101, 97, 108] = segM (l.map Bl.b) := by unfold segM; rw [hov]
 have hsl : (segM (l.map Bl.b)).length = out.length + (dir.length + 4 + 4) + 4 + 4 := by rw [← hseg]; simp only [zb, bN, hdl]; rfl
 have hU8 : U8 [115, 101, 97, 108] = NB [115, 101, 97, 108] := rfl
 rw [hU8, ← eA, hseg] at ho5
 refine ⟨hS, ?_⟩
 refine jH 8 rfl hS (fun w0 hw0 => Run.asg rfl) ?_
 refine qV.take (v := .int .i64 ((0 : Nat) : Int)) 9 rfl jK jK jK hS (fun w0 hw0 => Run.asg rfl) trivial rfl rfl ?_
 refine qV.done jK ?_
 refine bI ?_
 refine DV.sub [(2, _), (3, _)] (js2 rfl rfl) ?_
 refine DV.vc (jT ?_)
 refine sW hM.1 (fun d hd => (hM.2 d hd).1) (fun wz hsh => ?_)
 have ho5 := ho5.frm hsh (fun x hx hx2 => (hM.2 x hx2).1.ne_own ho5 hx)
 have K := K.own hsh (fun x hx => (hM.2 x hx).2)
 refine cG rfl rfl ?_
 rw [hsl]
 exact ⟨B5, e5, rfl, ho5, K, hu5⟩
end
section
open Go.RowKit
section
variable {P : Program} {Γ : Env} {w : World} {dst : Option Tmp} {pos : String} {after : Array Edge} {g : Option (Nat × Bool)} {T : TypeId}
theorem qJ.mark {t e : TypeId} {x : Operand} {gb n c : Nat} {cs : Array Value} (hx : ev? Γ x = some (.slice (some ⟨gb, 0, none⟩) n c)) (ht : P.underlying t = some (.slice e)) (he : P.underlying e = some (.int .u8)) (hb : Blk w gb e cs) :
  qJ P ⟨dst, .convert t t x, T, pos, after, g⟩ Γ w (fun r w' => r = .slice (some ⟨gb, 0, none⟩) n c ∧ Fro w' gb e cs ∧ Frm [gb] w w') := fun ρ hρ => by
 have hsh : w.shape? gb = some (e, cs.size) := by
  unfold Blk at hb
  unfold World.shape?
  rw [hb]
 refine ⟨.slice (some ⟨gb, 0, none⟩) n c, w.freeze ⟨gb, cs.size, none⟩ 1, ?_, rfl, ?_, ?_⟩
 · simp [execOp, hρ _ _ hx, convert, run_underlying ht, run_underlying he, markStringish, hsh]
 ·
  unfold Blk at hb
  unfold Fro World.freeze
  rw [if_neg jd]
  show (w.heap.modify gb _)[gb]? = _
  rw [zge, if_pos rfl, hb]
  rfl
 refine ⟨?_, ?_, ?_, ?_, ?_⟩
 · unfold World.freeze; rw [if_neg jd]
 · unfold World.freeze; rw [if_neg jd]
 · unfold World.freeze; rw [if_neg jd]
 · unfold World.freeze; rw [if_neg jd]; simp
 intro i hi hni
 unfold World.freeze
 rw [if_neg jd]
 show (w.heap.modify gb _)[i]? = _
 rw [zge, if_neg (fun h => hni (by simp [h]))]
def lS (w : World) (e : TypeId) (A : Option Addr) (n c : Nat) (xs : List Value) : Prop := Own w e 1 A n c xs ∨ ∃ (gb : Nat) (cs : Array Value), A = some ⟨gb, 0, none⟩ ∧ c = n ∧ cs.toList = xs ∧ xs.length = n ∧ Fro w gb e cs
theorem lS.frm {w w' : World} {S : List Nat} {e n c : Nat} {A : Option Addr} {xs : List Value} (h : lS w e A n c xs) (k : Frm S w w') (hS : ∀ x ∈ ob A, x ∉ S) : lS w' e A n c xs := by
 rcases h with h | ⟨gb, cs, rfl, h1, h2, h3, h4⟩
 · exact .inl (h.frm k hS)
 exact .inr ⟨gb, cs, rfl, h1, h2, h3, h4.frm k (hS gb (by simp [ob]))⟩
theorem lS.lt {w : World} {e n c : Nat} {A : Option Addr} {xs : List Value} (h : lS w e A n c xs) : ∀ x ∈ ob A, x < w.heap.size := by
 rcases h with h | ⟨gb, cs, rfl, h1, h2, h3, h4⟩
 · exact h.lt
 simpa [ob] using h4.lt
theorem lS.cells {w : World} {e n c gb : Nat} {cs : Array Value} {xs : List Value} (h2 : cs.toList = xs) (h4 : Fro w gb e cs) : ∀ j u, xs[j]? = some u → w.cell? ((⟨gb, 0, none⟩ : Addr).add j) = some u := by
 intro j u hu
 have e1 : (⟨gb, 0, none⟩ : Addr).add j = ⟨gb, j, none⟩ := by unfold Addr.add; split <;> simp_all
 rw [e1, h4.cell, ← hu, ← h2, zgf]
theorem lS.rd {w : World} {e n c : Nat} {A : Option Addr} {xs : List Value} (h : lS w e A n c xs) : Rd w 1 A n xs := by
 rcases h with h | ⟨gb, cs, rfl, h1, h2, h3, h4⟩
 · exact h.rd
 exact ⟨jo, fun hn => ⟨_, rfl, h4.lt, lS.cells (n := n) (c := c) h2 h4⟩⟩
theorem lS.le {w : World} {e n c : Nat} {A : Option Addr} {xs : List Value} (h : lS w e A n c xs) : n ≤ c := by
 rcases h with h | ⟨gb, cs, rfl, h1, h2, h3, h4⟩
 · exact h.le
 omega
theorem lS.ne_blk {w : World} {e t n c gb : Nat} {A : Option Addr} {xs : List Value} {cs : Array Value} (h : lS w e A n c xs) (hb : Blk w gb t cs) (hne : e ≠ t) : gb ∉ ob A := by
 rcases h with h | ⟨g2, cs2, rfl, h1, h2, h3, h4⟩
 · exact h.ne_blk hb hne
 intro hm
 simp only [ob, zh] at hm
 subst hm
 unfold Fro at h4
 unfold Blk at hb
 rw [h4] at hb
 injection hb with hb
 injection hb with _ hb _
 exact hne hb
end
end
section
open Go.RowKit
structure Er where
 e : En
 A : Option Addr
 c : Nat
def er0 : Er := ⟨⟨0, 0, 0, []⟩, none, 0⟩
def ZB (l : List Nat) : List Value := l.map fun n => .int .i64 ((n : Nat) : Int)
theorem qG3 (a : List Nat) (i : Nat) (h : i < a.length) : (ZB a)[i]? = some (.int .i64 ((a.getD i 0 : Nat) : Int)) := by
 simp [ZB, zc, za h]
theorem qSn (l : List Nat) : ∀ u ∈ ZB l, u.oneCell' = true := by
 intro u hu
 obtain ⟨x, _, rfl⟩ := List.mem_map.1 hu
 rfl
theorem qRm (l : List Nat) (b : Nat) : ZB (l ++ [b]) = ZB l ++ [.int .i64 ((b : Nat) : Int)] := by simp [ZB]
def UB (l : List Nat) : List Value := l.map fun n => .int .u64 ((n : Nat) : Int)
theorem qSo (l : List Nat) : ∀ u ∈ UB l, u.oneCell' = true := by
 intro u hu
 obtain ⟨x, _, rfl⟩ := List.mem_map.1 hu
 rfl
theorem qRn (l : List Nat) (b : Nat) : UB (l ++ [b]) = UB l ++ [.int .u64 ((b : Nat) : Int)] := by simp [UB]
def erC (x : Er) : List Value := [.int .u64 ((x.e.id : Nat) : Int), .int .i64 ((x.e.size : Nat) : Int), .int .u32 ((x.e.sum : Nat) : Int), .slice x.A x.e.begins.length x.c]
def EC (l : List Er) : List Value := l.flatMap erC
theorem yK (x : Er) : (erC x).length = 4 := rfl
theorem EC_one (l : List Er) : ∀ u ∈ EC l, u.oneCell' = true := by
 intro u hu
 obtain ⟨x, _, hx⟩ := List.mem_flatMap.1 hu
 simp only [erC, zcq, zcj, or_false] at hx
 rcases hx with rfl | rfl | rfl | rfl <;> rfl
theorem qG4 (a b : List Er) : EC (a ++ b) = EC a ++ EC b := by simp [EC]
theorem qG5 : ∀ l : List Er, (EC l).length = l.length * 4
 | [] => rfl
 | x :: l => by rw [show EC (x :: l) = erC x ++ EC l from rfl, zb, yK, qG5 l, zq]; omega
theorem qG6 : ∀ (L : List Er) (s : Nat) (_ : s < L.length), ((EC L).drop (s * 4)).take 4 = erC (L.getD s er0)
 | a :: L, 0, _ => rfl
 | a :: L, s + 1, h => by
  have := qG6 L s (by simpa using h)
  rw [show EC (a :: L) = erC a ++ EC L from rfl, show (s + 1) * 4 = (erC a).length + s * 4 by rw [yK]; omega, zcp, zdz]
  exact this
theorem qKw : ∀ (l : List Er) (k : Nat), (EC l).drop (k * 4) = EC (l.drop k)
 | l, 0 => rfl
 | [], k + 1 => by simp [EC]
 | x :: l, k + 1 => by
  rw [show EC (x :: l) = erC x ++ EC l from rfl, show (k + 1) * 4 = (erC x).length + k * 4 by rw [yK]; omega, zcp, qKw l k]
  rfl
structure RdE (w : World) (A : Option Addr) (n : Nat) (l : List Er) : Prop where
 len : l.length = n
 rd : Rd w 4 A n (EC l)
 beg : ∀ x ∈ l, Rd w 1 x.A x.e.begins.length (ZB x.e.begins)
theorem RdE.frm {w w' : World} {A : Option Addr} {n : Nat} {l : List Er} (h : RdE w A n l) (k : Frm [] w w') : RdE w' A n l := ⟨h.len, h.rd.frm k jp, fun x hx => (h.beg x hx).frm k jp⟩
theorem RdE.cell {w : World} {A : Option Addr} {n : Nat} {l : List Er} (h : RdE w A n l) {i : Nat} (hi : i < n) : ∃ ad, A = some ad ∧ ∀ j v, (erC (l.getD i er0))[j]? = some v → w.cell? ((ad.add (i * 4)).add j) = some v := by
 obtain ⟨ad, h1, hel⟩ := h.rd.elem hi
 rw [qG6 l i (by rw [h.len]; exact hi)] at hel
 exact ⟨ad, h1, hel⟩
theorem RdE.cut {w : World} {A : Option Addr} {n c k : Nat} {l : List Er} (h : RdE w A n l) (hk : k ≤ n) (hc : n ≤ c) : RdE w (cP A c k 4) (n - k) (l.drop k) :=
 ⟨by rw [zp, h.len], by
  have h1 := h.rd.cut hk (zk n) hc
  rw [qKw, zn (by rw [qG5, zp, h.len]; omega)] at h1
  exact h1, fun x hx => h.beg x (zbn hx)⟩
theorem eH {l : List Er} {i : Nat} (h : i < l.length) : l.getD i er0 ∈ l := by
 rw [zc, za h]
 exact zw h
structure IsSg (w : World) (g : Nat) (bA : Option Addr) (bc : Nat) (dA : Option Addr) (dc : Nat) (bs : List Nat) (l : List Er) (e : Nat) : Prop where
 blk : Blk w g 62 #[.slice bA bs.length bc, .slice dA l.length dc, .int .i64 ((e : Nat) : Int)]
 row : Rd w 1 bA bs.length (NB bs)
 bcap : bs.length ≤ bc
 dir : RdE w dA l.length l
 dcap : l.length ≤ dc
theorem IsSg.frm {w w' : World} {g bc dc e : Nat} {bA dA : Option Addr} {bs : List Nat} {l : List Er} (h : IsSg w g bA bc dA dc bs l e) (k : Frm [] w w') : IsSg w' g bA bc dA dc bs l e :=
 ⟨h.blk.frm k jp, h.row.frm k jp, h.bcap, h.dir.frm k, h.dcap⟩
def yV (l : List Er) : Prop := l.length ≤ 64 ∧ ∀ x ∈ l, x.e.id < 18446744073709551616 ∧ x.e.size ≤ 4032 ∧ x.e.sum < 4294967296 ∧ x.e.begins.length ≤ 16 ∧ ∀ b ∈ x.e.begins, b ≤ 1000000
theorem qJs (n : Nat) (w : World) (hn : n ≤ 1000000) :
  Calls Tryz.prog 42 #[.int .i64 ((n : Nat) : Int)] w fun e w' => e = .returned (.int .i64 (((n + 255) / 256 : Nat) : Int)) ∧ w = w' := by
 refine VC.calls (nt := 7) (res := #[.tmp 2]) Tryz.func42 rfl Tryz.ntmps42 Tryz.results42 rfl ?_
 refine jS (jR (jz 0 (jO (jN (jv1 0 ?_)))))
 refine jS (jR (jm rfl (jb rfl rfl (Bin.add_i64 _ 256 jo) (jb rfl rfl (Bin.sub_i64 _ 1 jo jo) (jb rfl rfl (Bin.quo_i64 _ 256 jo jo) (ja rfl (jO (jN (jv1 2 ?_)))))))))
 refine jT ?_
 refine qC rfl ?_
 rw [show n + 256 - 1 = n + 255 by omega]
 exact ⟨rfl, rfl⟩
theorem qWg (g n bc dc e : Nat) (bA dA : Option Addr) (l : List Er) (w : World) (hb : Blk w g 62 #[.slice bA n bc, .slice dA l.length dc, .int .i64 ((e : Nat) : Int)]) (hd : RdE w dA l.length l) (hl : l.length ≤ 64)
  (h1 : ∀ i, i < l.length → (∀ j, j < i → (l.getD j er0).e.begins = []) → (l.getD i er0).e.begins ≠ [] → (l.getD i er0).e.begins.getD 0 0 = 0) (h2 : (∀ j, j < l.length → (l.getD j er0).e.begins = []) → e = 0) :
  Calls Tryz.prog 44 #[.pointer (some ⟨g, 0, none⟩)] w fun e w' => e = .returned (.bool true) ∧ Frm [] w w' := by
 have K := Frm.refl [] w
 have hdl := hd.len
 refine VC.calls (nt := 29) (res := #[.tmp 2]) Tryz.func44 rfl Tryz.ntmps44 Tryz.results44 rfl ?_
 refine jS (jR (ja rfl (jO (jN (jv1 0 ?_)))))
 refine jS (jS (jR (jm rfl (je (Run.nilck rfl) (jf rfl zam rfl zby (jl rfl zcr (hb.cell 1) (je (Run.lenS rfl zax) ?_)))))))
 refine jx .i64 0 ?_
 refine jO (jN (jv4 0 8 9 10 ?_))
 refine jB ?_
 refine VC.loop (σ := Nat) (fun s => [(0, .pointer (some ⟨g, 0, none⟩)), (8, .slice dA l.length dc), (9, .int .i64 ((l.length : Nat) : Int)), (10, .int .i64 ((s : Nat) : Int))]) (fun s wr => s ≤ l.length ∧ (∀ j, j < s → (l.getD j er0).e.begins = []) ∧ Frm [] w wr) (fun s => l.length - s) 0 (js4 rfl rfl rfl rfl) ⟨jo, fun j h => jo, K⟩ ?_
 rintro i wr ⟨hi, hem, K⟩
 have hdr := hd.frm K
 have hbr := hb.frm K jp
 refine jS (jR (jb rfl rfl (Bin.lssN _ _) (jO (jN (jS ?_)))))
 refine jD rfl (fun hc1 => ?_) fun hc1 => ?_
 ·
  have hbg := hdr.beg _ (eH hc1)
  have h1i := h1 i hc1 hem
  obtain ⟨ad, hdA, hel⟩ := hdr.cell hc1
  subst hdA
  have hsnoc : (l.getD i er0).e.begins = [] → ∀ j, j < i + 1 → (l.getD j er0).e.begins = [] := fun h j hj => by
   by_cases hji : j = i
   · subst hji; exact h
   exact hem j jo
  generalize l.getD i er0 = xx at hel hbg h1i hsnoc
  obtain ⟨x, xA, xc⟩ := xx
  dsimp only at hbg h1i hsnoc
  refine jQ (jN (jv4 0 8 9 10 ?_))
  refine jS (jB (jS (jR (je (Run.indexS _ rfl rfl zax zbm jo) (je (Run.loadA rfl Tryz.isAgg66 zbm hel (by first | rfl | (simp; done))) ?_)))))
  refine Ops.m (qJ.alloc nX) rfl ?_
  rintro _ w1 ⟨rfl, hF1⟩
  refine Ops.st (qR.storeA rfl rfl zbm hF1.blk rfl (by intro v hv; exact EC_one [⟨x, _, xc⟩] v (by simpa [EC] using hv))) ?_
  rintro w2 ⟨hb2, hf2, hs2⟩
  have K := (K.trans hF1.frm jp).own hf2 (by simp; exact K.size)
  refine jO (jN (jv5 0 4 8 9 10 ?_))
  refine jS (jR (jf rfl zaw rfl zay (jl rfl zbu (hb2.cell 3) (je (Run.lenS rfl zf) (jb rfl rfl (Bin.gtrN _ 0) (jO (jN (jv6 0 4 8 9 10 17 ?_))))))))
  refine jD rfl (fun hc2 => ?_) fun hc2 => ?_
  ·
   obtain ⟨ad2, u2, hA2, hu2, hcel⟩ := (hbg.frm (hF1.frm.trans hf2 jp) jp).at1 (jo : 0 < x.begins.length)
   subst hA2
   rw [qG3 _ 0 jo] at hu2
   cases hu2
   refine jS (jR (jf rfl zaw rfl zay (jl rfl zbu (hb2.cell 3) (je (Run.index1 0 rfl rfl zf zd jo) (jl rfl zg hcel (jb rfl rfl (Bin.eqlN _ 0) (ja rfl (jO (jN (jv1 2 ?_))))))))))
   refine jT ?_
   refine qD (qN (qN (qD (qN (qC rfl ?_)))))
   rw [h1i (fun h => by rw [h] at hc2; simp at hc2)]
   exact ⟨rfl, K⟩
  refine jQ ?_
  refine qK (jN ?_)
  refine jv4 0 8 9 10 ?_
  refine jR (jb rfl rfl (Bin.add_i64 _ 1 jo) (jm rfl (jO ?_)))
  refine jN ⟨i + 1, (js4 rfl rfl rfl rfl), ?_, ?_⟩
  · exact ⟨jo, hsnoc (zz (Nat.le_zero.1 (Nat.not_lt.1 hc2))), K⟩
  first | omega | (dsimp only; omega)
 refine jX ?_
 refine qZ (qZ (qP ?_))
 refine jN (jv1 0 ?_)
 refine jS (jR (jm rfl (je (Run.nilck rfl) (jf rfl zam rfl zd (jl rfl zg (hbr.cell 2) (jb rfl rfl (Bin.eqlN _ 0) (ja rfl (jO (jN (jv1 2 ?_))))))))))
 refine jT ?_
 refine qC rfl ?_
 rw [h2 (fun j hj => hem j jo)]
 exact ⟨rfl, K⟩
theorem qNj (g bc dc e : Nat) (bA dA : Option Addr) (bs : List Nat) (l : List Er) (w : World) (hS : IsSg w g bA bc dA dc bs l e) (hl : yV l) :
  Calls Tryz.prog 19 #[.pointer (some ⟨g, 0, none⟩)] w fun e w' => ∃ B d, e = .returned (.slice B l.length d) ∧ Own w' 39 1 B l.length d (UB (l.map fun x => x.e.id)) ∧ Frm [] w w' ∧ ∀ x ∈ ob B, w.heap.size ≤ x := by
 have K := Frm.refl [] w
 have hdl := hl.1
 refine VC.calls (nt := 22) (res := #[.tmp 2]) Tryz.func19 rfl Tryz.ntmps19 Tryz.results19 rfl ?_
 refine jS (jR (ja rfl (jO (jN (jv1 0 ?_)))))
 refine jS (jR (ja rfl (jO (jN (jS (jS (jR (jm rfl (je (Run.nilck rfl) (jf rfl zam rfl zby (jl rfl zcr (hS.blk.cell 1) (je (Run.lenS rfl zax) ?_))))))))))))
 refine jx .i64 0 ?_
 refine jO (jN (jv4 3 9 10 11 ?_))
 refine jB ?_
 refine VC.loop (σ := Nat × Option Addr × Nat) (fun s => [(3, .slice s.2.1 s.1 s.2.2), (9, .slice dA l.length dc), (10, .int .i64 ((l.length : Nat) : Int)), (11, .int .i64 ((s.1 : Nat) : Int))]) (fun s wr => s.1 ≤ l.length ∧ Own wr 39 1 s.2.1 s.1 s.2.2 (UB ((l.take s.1).map fun x => x.e.id)) ∧ Frm [] w wr ∧ ∀ x ∈ ob s.2.1, w.heap.size ≤ x) (fun s => l.length - s.1) (0, none, 0) (js4 rfl rfl rfl rfl) ⟨zas _, Own.nil _ _ _, K, by simp [ob]⟩ ?_
 rintro ⟨i, B, d⟩ wr ⟨hi, ho, K, hob⟩
 dsimp only at *
 have hSr := hS.frm K
 refine jS (jR (jb rfl rfl (Bin.lssN _ _) (jO (jN (jS ?_)))))
 refine jD rfl (fun hc1 => ?_) fun hc1 => ?_
 ·
  have hts : (l.take (i + 1)).map (fun x => x.e.id) = (l.take i).map (fun x => x.e.id) ++ [(l.getD i er0).e.id] := by
   rw [zaj, za hc1, zc, za hc1, zbx]
   rfl
  obtain ⟨ad, hdA, hel⟩ := hSr.dir.cell hc1
  subst hdA
  generalize l.getD i er0 = xx at hel hts
  obtain ⟨x, xA, xc⟩ := xx
  dsimp only at hts
  refine jQ (jN (jv4 3 9 10 11 ?_))
  refine jS (jB (jS (jR (je (Run.indexS _ rfl rfl zax zbm jo) (je (Run.loadA rfl Tryz.isAgg66 zbm hel (by first | rfl | (simp; done))) ?_)))))
  refine Ops.m (qJ.alloc nX) rfl ?_
  rintro _ w1 ⟨rfl, hF1⟩
  refine Ops.st (qR.storeA rfl rfl zbm hF1.blk rfl (by intro v hv; exact EC_one [⟨x, _, xc⟩] v (by simpa [EC] using hv))) ?_
  rintro w2 ⟨hb2, hf2, hs2⟩
  have K := (K.trans hF1.frm jp).own hf2 (by simp; exact K.size)
  refine jO (jN (jv5 3 5 9 10 11 ?_))
  refine jR (jm rfl (jf rfl zaw rfl zbd (jl rfl zcc (hb2.cell 0) ?_)))
  refine Ops.m (qJ.buildS1 rfl zhb zbd qRz jd jd rfl rfl) rfl ?_
  rintro _ w3 ⟨rfl, hF3⟩
  have hrd3 : Rd w3 1 (some ⟨w2.heap.size, 0, none⟩) 1 (UB [x.id]) := Rd.of_blk (n := 1) (size := 1) hF3.blk rfl
  have hlo := ho.lt
  have ho := ((ho.frm hF1.frm jp).frm hf2 (fun y hy hy2 => by
   have := hlo y hy
   simp at hy2
   omega)).frm hF3.frm jp
  have K := K.trans hF3.frm jp
  refine Ops.m (qJ.app rfl rfl zhb (qR0) rfl jd ho hrd3 (qSo _) jo jo) rfl ?_
  rintro _ w4 ⟨B2, d2, rfl, ho4, hf4, hob4⟩
  rw [show UB ((l.take i).map fun x => x.e.id) ++ UB [x.id] = UB ((l.take (i + 1)).map fun x => x.e.id) by rw [hts, qRn]; rfl] at ho4
  have hks := K.size
  have K := K.own hf4 hob
  have hob2 : ∀ y ∈ ob B2, w.heap.size ≤ y := fun y hy => by
   rcases hob4 with h | h
   · rw [h] at hy; exact hob y hy
   rw [h, zh] at hy; omega
  refine ja rfl (jO ?_)
  refine qK (jN ?_)
  refine jv4 3 9 10 11 ?_
  refine jR (jb rfl rfl (Bin.add_i64 _ 1 jo) (jm rfl (jO ?_)))
  refine jN ⟨(i + 1, B2, d2), (js4 rfl rfl rfl rfl), ?_, ?_⟩
  · exact ⟨hc1, ho4, K, hob2⟩
  first | omega | (dsimp only; omega)
 refine jX ?_
 refine qZ (qZ (qP ?_))
 refine jN (jv1 3 ?_)
 refine jS (jR (jm rfl (ja rfl (jO (jN (jv1 2 ?_))))))
 refine jT ?_
 refine qC rfl ?_
 obtain rfl : i = l.length := jo
 rw [zbl] at ho
 exact ⟨B, d, rfl, ho, K, hob⟩
theorem qZt (f : FuncId) (us : List Value) (n r : Nat) (w : World) (hn : n ≤ 1000000) (hr : r ≤ n) (hf : ∀ args w, (callFunc f args).run Tryz.prog w = .ok (.enter f args) w)
  (hcl : ∀ W i, Frm [] w W → i < n → Calls Tryz.prog f (.int .i64 ((i : Nat) : Int) :: us).toArray W fun e w' => e = .returned (.bool (decide (r ≤ i))) ∧ qQ W w') :
  Calls Tryz.prog 45 #[.int .i64 ((n : Nat) : Int), .func (.func f) ([] : List Value).toArray us.toArray] w fun e w' => e = .returned (.int .i64 ((r : Nat) : Int)) ∧ qQ w w' := by
 refine VC.calls (nt := 26) (res := #[.tmp 4]) Tryz.func45 rfl Tryz.ntmps45 Tryz.results45 rfl ?_
 refine jS (jR (jz 0 (jO (jN (jv2 0 1 ?_)))))
 refine jS (jR (jm rfl (jz 0 (ja rfl (jO (jN (jv3 1 5 6 ?_)))))))
 refine jS (jB ?_)
 refine VC.loop (σ := Nat × Nat) (fun s => [(1, .func (.func f) ([] : List Value).toArray us.toArray), (5, .int .i64 ((s.1 : Nat) : Int)), (6, .int .i64 ((s.2 : Nat) : Int))]) (fun s wr => s.1 ≤ r ∧ r ≤ s.2 ∧ s.2 ≤ n ∧ qQ w wr) (fun s => s.2 - s.1) (0, n) (js3 rfl rfl rfl) ⟨zas _, hr, zk _, qQ.refl _⟩ ?_
 rintro ⟨lo, hi⟩ wr ⟨hlo, hhi, hhn, hd⟩
 dsimp only at *
 refine jS (jS (jR (jm rfl (jm rfl (jb rfl rfl (Bin.lssN _ _) (jO (jN (jv4 1 5 6 11 ?_))))))))
 refine jD rfl (fun hc1 => ?_) fun hc1 => ?_
 ·
  refine jQ (jN (jv3 1 5 6 ?_))
  refine jB (jS (jR (jm rfl (jm rfl (jb rfl rfl (Bin.add_i64 _ _ jo) (je (Run.convN _ rfl zx Tryz.underlying36 (by simp only [bmax]; omega)) (jb rfl rfl (Bin.shr_u64 _ 1 jo) (je (Run.convN _ rfl Tryz.underlying36 zx (by simp only [bmax]; omega)) (ja rfl (jO (jN (jv4 1 5 6 7 ?_))))))))))))
  refine jS (jR (jm rfl (jM ?_)))
  refine Ops.cl (bW.dyn rfl (evs.cons rfl evs.nil) hf) (hcl _ _ hd.frm jo) rfl ?_
  rintro e w3 ⟨rfl, hd3⟩
  refine ⟨_, rfl, ?_⟩
  refine je (Run.not rfl) (jO (jN (jv5 1 5 6 7 21 ?_)))
  refine VC.condB rfl (fun hc2 => ?_) (fun hc2 => ?_)
  ·
   refine jR (jm rfl (jb rfl rfl (Bin.add_i64 _ 1 jo) (ja rfl (jO ?_))))
   refine qK (jN ⟨((lo + hi) / 2 + 1, hi), (js3 rfl rfl rfl), ?_, ?_⟩)
   · exact ⟨by simp at hc2; omega, hhi, hhn, hd.trans hd3⟩
   first | omega | (dsimp only; omega)
  refine jR (jm rfl (ja rfl (jO ?_)))
  refine qK (jN ⟨(lo, (lo + hi) / 2), (js3 rfl rfl rfl), ?_, ?_⟩)
  · exact ⟨hlo, by simp at hc2; omega, jo, hd.trans hd3⟩
  first | omega | (dsimp only; omega)
 refine jX ?_
 refine qZ (qZ (qP ?_))
 refine jN (jv1 5 ?_)
 refine jS (jR (jm rfl (ja rfl (jO (jN (jv1 4 ?_))))))
 refine jT ?_
 refine qC rfl ?_
 obtain rfl : lo = r := jo
 exact ⟨rfl, hd⟩
theorem qNk (i gs gi g bc dc e id r : Nat) (bA dA : Option Addr) (bs : List Nat) (l : List Er) (w : World) (hS : IsSg w g bA bc dA dc bs l e) (hl : yV l) (hi : i < l.length) (hid : id < 18446744073709551616) (hr : r ≤ i ↔ id ≤ (l.getD i er0).e.id)
  (h1 : Blk w gs 32 #[.pointer (some ⟨g, 0, none⟩)]) (h2 : Blk w gi 39 #[.int .u64 ((id : Nat) : Int)]) :
  Calls Tryz.prog 46 #[.int .i64 ((i : Nat) : Int), .pointer (some ⟨gs, 0, none⟩), .pointer (some ⟨gi, 0, none⟩)] w fun e w' => e = .returned (.bool (decide (r ≤ i))) ∧ qQ w w' := by
 have hw := (hl.2 _ (eH hi)).1
 have hdl := hl.1
 have er : decide (r ≤ i) = decide (id ≤ (l.getD i er0).e.id) := decide_eq_decide.2 hr
 have hSd := hS.frm (qQ.drew w).frm
 obtain ⟨ad, hdA, hel⟩ := hSd.dir.cell hi
 subst hdA
 refine VC.calls (nt := 15) (res := #[.tmp 4]) Tryz.func46 rfl Tryz.ntmps46 Tryz.results46 rfl ?_
 refine jS (jR (ja rfl (jO (jN (jv3 0 1 2 ?_)))))
 refine jS ?_
 refine VC.still jK jK ?_
 refine qE (Run.load rfl Tryz.isAgg32 ((h1.drawn (qQ.drew w)).cell 0)) ?_
 refine qE (Run.nilck rfl) ?_
 refine qE (Run.fieldAddr rfl zam rfl zby jd) ?_
 refine qE (Run.load rfl zcr (hSd.blk.cell 1)) ?_
 refine qM ?_
 refine qE (Run.indexS _ rfl rfl zax zbm jo) ?_
 refine qE (Run.fieldAddr rfl zaw rfl zbd jd) ?_
 refine qE (Run.load rfl zcc (hel 0 _ rfl)) ?_
 refine qE (Run.load rfl zcc ((h2.drawn (qQ.drew w)).cell 0)) ?_
 refine qE (Run.bin rfl rfl (Bin.geqN _ _)) ?_
 refine qA ?_
 refine qW.nil ?_
 refine jN (jv1 4 ?_)
 refine jT ?_
 refine qC rfl ?_
 rw [er]
 exact ⟨rfl, qQ.drew w⟩
theorem qG7 (i g bc dc e : Nat) (bA dA : Option Addr) (bs : List Nat) (l : List Er) (w : World) (hS : IsSg w g bA bc dA dc bs l e) (hl : yV l) (hi : i < l.length) (hso : ∀ a b, a < b → b < l.length → (l.getD a er0).e.id < (l.getD b er0).e.id) :
  Calls Tryz.prog 26 #[.pointer (some ⟨g, 0, none⟩), .int .u64 (((l.getD i er0).e.id : Nat) : Int)] w fun e w' => e = .returned (.int .i64 ((i : Nat) : Int)) ∧ Frm [] w w' := by
 have hw := (hl.2 _ (eH hi)).1
 have hdl := hl.1
 have hri : ∀ j, j < l.length → (i ≤ j ↔ (l.getD i er0).e.id ≤ (l.getD j er0).e.id) := fun j hj => ⟨fun h => by
  rcases Nat.lt_or_eq_of_le h with h | h
  · exact Nat.le_of_lt (hso i j h hj)
  · subst h; exact zk _, fun h => by
  rcases zgs j i with h2 | h2
  · have := hso j i h2 hi; omega
  exact h2⟩
 refine VC.calls (nt := 33) (res := #[.tmp 4]) Tryz.func26 rfl Tryz.ntmps26 Tryz.results26 rfl ?_
 refine jS (jR ?_)
 refine Ops.m (qJ.box rfl) rfl ?_
 rintro _ w1 ⟨rfl, hF1⟩
 refine Ops.m (qJ.box rfl) rfl ?_
 rintro _ w2 ⟨rfl, hF2⟩
 have h1 := hF1.blk.frm hF2.frm jp
 have h2 := hF2.blk
 have K := hF1.frm.trans hF2.frm jp
 have hS2 := hS.frm K
 refine jz 0 (jO (jN (jv2 2 3 ?_)))
 refine jS (jR (jl rfl Tryz.isAgg32 (h1.cell 0) (je (Run.nilck rfl) (jf rfl zam rfl zby (jl rfl zcr (hS2.blk.cell 1) (je (Run.lenS rfl zax) (je (Run.mkFunc evs.nil (evs.cons rfl (evs.cons rfl evs.nil))) ?_)))))))
 refine Ops.cl (jE2 Tryz.call45) (qZt _ [.pointer (some ⟨w.heap.size, 0, none⟩), .pointer (some ⟨w1.heap.size, 0, none⟩)] l.length i _ jo jo Tryz.call46 (fun W j hF hj => qNk j _ _ g bc dc e _ i bA dA bs l W (hS2.frm hF) hl hj hw (hri j hj) (h1.frm hF jp) (h2.frm hF jp))) rfl ?_
 rintro e w3 ⟨rfl, hd3⟩
 refine ⟨_, rfl, ?_⟩
 have K := K.drawn hd3
 have hS3 := hS2.frm (hd3.trans (qQ.drew w3)).frm
 have h1 := h1.drawn (hd3.trans (qQ.drew w3))
 have h2 := h2.drawn (hd3.trans (qQ.drew w3))
 obtain ⟨ad, hdA, hel⟩ := hS3.dir.cell hi
 subst hdA
 refine ja rfl (jO (jN (jv3 2 3 5 ?_)))
 refine jS (jS ?_)
 refine VC.splitR [(5, .int .i64 ((i : Nat) : Int))] (qQ w3) 31 (.bool (decide (True))) ?_ ?_
 ·
  refine VC.still jK jK ?_
  refine qM ?_
  refine qE (Run.load rfl Tryz.isAgg32 (h1.cell 0)) ?_
  refine qE (Run.nilck rfl) ?_
  refine qE (Run.fieldAddr rfl zam rfl zby jd) ?_
  refine qE (Run.load rfl zcr (hS3.blk.cell 1)) ?_
  refine qE (Run.lenS rfl zax) ?_
  refine qE (Run.bin rfl rfl (Bin.lssN _ _)) ?_
  by_cases hs19 : i < l.length
  ·
   refine qM ?_
   refine qG (Run.load rfl Tryz.isAgg32 (h1.cell 0)) ?_
   refine qG (Run.nilck rfl) ?_
   refine qG (Run.fieldAddr rfl zam rfl zby jd) ?_
   refine qG (Run.load rfl zcr (hS3.blk.cell 1)) ?_
   refine qG (Run.mv rfl) ?_
   refine qG (Run.indexS _ rfl rfl zax zbm jo) ?_
   refine qG (Run.fieldAddr rfl zaw rfl zbd jd) ?_
   refine qG (Run.load rfl zcc (hel 0 _ rfl)) ?_
   refine qG (Run.load rfl zcc (h2.cell 0)) ?_
   refine qG (Run.bin rfl rfl (Bin.eqlN _ _)) ?_
   refine qE (Run.pickT rfl rfl au) ?_
   refine qW.nil ?_
   refine jN ⟨(js2 (jC (by first | (simp [*]; done) | omega)) rfl), (qQ.drew _)⟩
  refine qM ?_
  refine qU ?_
  refine qU ?_
  refine qU ?_
  refine qU ?_
  refine qU ?_
  refine qU ?_
  refine qU ?_
  refine qU ?_
  refine qU ?_
  refine qU ?_
  refine qE (Run.pickF rfl rfl au) ?_
  refine qW.nil ?_
  refine jN ⟨(js2 (jC (by first | (simp [*]; done) | omega)) rfl), (qQ.drew _)⟩
 intro Γ w9 hΓ hd9
 refine jN (VC.sub _ hΓ ?_)
 refine VC.condT rfl (decide_eq_true trivial) ?_
 refine jS (jR (jm rfl (ja rfl (jO (jN (jv1 4 ?_))))))
 refine jT ?_
 refine qN (qC rfl ?_)
 exact ⟨rfl, K.drawn hd9⟩
end
section
open Go.RowKit
theorem Run.minN {P : Program} {Γ : Env} {w : World} {dst : Option Tmp} {pos : String} {after : Array Edge} {g : Option (Nat × Bool)} {t : TypeId} {x y : Operand} {k : IntKind} {ts : Array TypeId} (a b m : Nat) (hx : ev? Γ x = some (.int k ((a : Nat) : Int))) (hy : ev? Γ y = some (.int k ((b : Nat) : Int))) (hm : m = min a b) :
  Run P ⟨dst, .call ⟨.builtin .min, #[x, y], ts⟩, t, pos, after, g⟩ Γ w (.int k ((m : Nat) : Int)) := by
 have h := Run.minI (P := P) (w := w) (dst := dst) (t := t) (pos := pos) (after := after) (g := g) (ts := ts) hx hy
 have e : (if ((b : Nat) : Int) < ((a : Nat) : Int) then ((b : Nat) : Int) else ((a : Nat) : Int)) = ((m : Nat) : Int) := by split <;> omega
 rw [e] at h
 exact h
theorem Rd.few {w : World} {A : Option Addr} {n k : Nat} {xs : List Value} (h : Rd w 1 A n xs) (hk : k ≤ n) : Rd w 1 A k (xs.take k) := by
 refine ⟨by rw [zi]; have := h.1; omega, fun hk0 => ?_⟩
 obtain ⟨ad, h1, h2, h3⟩ := h.2 jo
 refine ⟨ad, h1, h2, fun j u hu => h3 j u ?_⟩
 rw [List.getElem?_take] at hu
 split at hu
 · exact hu
 cases hu
theorem qRo (l : List Nat) (p e : Nat) (h : p ≤ e) (he : e ≤ l.length) {w : World} {A : Option Addr} (hr : Rd w 1 A l.length (NB l)) : Rd w 1 (cP A e p 1) ((l.drop p).take (e - p)).length (NB ((l.drop p).take (e - p))) := by
 have h1 := hr.few he
 have h2 : (NB l).take e = NB (l.take e) := by simp [NB, zeg]
 have h3 : (l.take e).length = e := by rw [zi]; omega
 rw [h2] at h1
 have h4 := oF (l.take e) p (e - p) jo (A := A) (c := e) (w := w) (by rw [h3]; exact h1) jo
 have h5 : ((l.take e).drop p).take (e - p) = (l.drop p).take (e - p) := by rw [List.drop_take, zga, Nat.min_self]
 rw [h5] at h4
 exact h4
def qQr (l : List Er) (e i k E : Nat) : Prop := (k + 1 < (l.getD i er0).e.begins.length → (l.getD i er0).e.begins.getD (k + 1) 0 = E) ∧ ((l.getD i er0).e.begins.length ≤ k + 1 → (∀ j, i < j → j < l.length → (∀ m, i < m → m < j → (l.getD m er0).e.begins = []) → (l.getD j er0).e.begins ≠ [] → (l.getD j er0).e.begins.getD 0 0 = E) ∧ ((∀ m, i < m → m < l.length → (l.getD m er0).e.begins = []) → e = E))
theorem qG8 (l : List Er) (a s : Nat) : (l.drop a).getD s er0 = l.getD (a + s) er0 := by
 rw [zc, zc, zda]
theorem qZu {w : World} {A : Option Addr} {xs : List Nat} {k : Nat} (h : Rd w 1 A xs.length (ZB xs)) (hk : k < xs.length) : ∃ ad, A = some ad ∧ w.cell? (ad.add k) = some (.int .i64 ((xs.getD k 0 : Nat) : Int)) := by
 obtain ⟨ad, u, h1, h2, h3⟩ := h.at1 hk
 rw [qG3 _ _ hk] at h2
 cases h2
 exact ⟨ad, h1, h3⟩
theorem qG9 (i k E g bc dc e : Nat) (bA dA : Option Addr) (bs : List Nat) (l : List Er) (w : World) (hS : IsSg w g bA bc dA dc bs l e) (hl : yV l) (hi : i < l.length) (hk : k ≤ 100) (hE : qQr l e i k E) :
  Calls Tryz.prog 47 #[.pointer (some ⟨g, 0, none⟩), .int .i64 ((i : Nat) : Int), .int .i64 ((k : Nat) : Int)] w fun e w' => e = .returned (.int .i64 ((E : Nat) : Int)) ∧ Frm [] w w' := by
 have K := Frm.refl [] w
 have hdl := hl.1
 have hcap := hS.dcap
 have hS0 := hS
 have hbl := (hl.2 _ (eH hi)).2.2.2.1
 have hcut := hS.dir.cut (k := i + 1) jo hS.dcap
 have hbg := hS.dir.beg _ (eH hi)
 obtain ⟨ad, hdA, hel⟩ := hS.dir.cell hi
 subst hdA
 obtain ⟨hE1, hE2⟩ := hE
 generalize hgx : l.getD i er0 = xx at hel hbl hbg hE1 hE2
 obtain ⟨x, xA, xc⟩ := xx
 dsimp only at hbl hbg hE1 hE2
 refine VC.calls (nt := 58) (res := #[.tmp 6]) Tryz.func47 rfl Tryz.ntmps47 Tryz.results47 rfl ?_
 refine jS (jR (jz 0 (jO (jN (jv3 0 1 2 ?_)))))
 refine jS (jS (jR (jm rfl (jb rfl rfl (Bin.add_i64 _ 1 jo) (jm rfl (je (Run.nilck rfl) (jf rfl zam rfl zby (jl rfl zcr (hS.blk.cell 1) (jm rfl (je (Run.indexS _ rfl rfl zax zbm jo) (jf rfl zaw rfl zay (jl rfl zbu (hel 3 _ rfl) (je (Run.lenS rfl zf) (jb rfl rfl (Bin.lssN _ _) (jO (jN (jv4 0 1 2 20 ?_)))))))))))))))))
 refine jD rfl (fun hc1 => ?_) fun hc1 => ?_
 ·
  obtain ⟨ad2, hA2, hcel⟩ := qZu hbg hc1
  subst hA2
  have hE1 := hE1 hc1
  refine jS (jR (jm rfl (je (Run.nilck rfl) (jf rfl zam rfl zby (jl rfl zcr (hS.blk.cell 1) (jm rfl (je (Run.indexS _ rfl rfl zax zbm jo) (jf rfl zaw rfl zay (jl rfl zbu (hel 3 _ rfl) ?_)))))))))
  refine jm rfl (jb rfl rfl (Bin.add_i64 _ 1 jo) (je (Run.index1 _ rfl rfl zf zd jo) (jl rfl zg hcel (ja rfl (jO (jN (jv1 6 ?_)))))))
  refine jT ?_
  refine qN (qC rfl ?_)
  rw [hE1]
  exact ⟨rfl, K⟩
 obtain ⟨hE3, hE4⟩ := hE2 (Nat.not_lt.1 hc1)
 refine jQ (jN (jv2 0 1 ?_))
 refine jS (jS (jR (jm rfl (je (Run.nilck rfl) (jf rfl zam rfl zby (jl rfl zcr (hS.blk.cell 1) (jm rfl (jb rfl rfl (Bin.add_i64 _ 1 jo) (je (Run.sliceS _ _ rfl zax zbm (evB.some_ rfl) evB.none_ jo jo) (je (Run.lenS rfl zax) ?_))))))))))
 refine jx .i64 0 ?_
 refine jO (jN (jv4 0 39 40 41 ?_))
 refine jB ?_
 refine VC.loop (σ := Nat) (fun s => [(0, .pointer (some ⟨g, 0, none⟩)), (39, .slice (cP (some ad) dc (i + 1) 4) (l.length - (i + 1)) (dc - (i + 1))), (40, .int .i64 ((l.length - (i + 1) : Nat) : Int)), (41, .int .i64 ((s : Nat) : Int))]) (fun s wr => s ≤ l.length - (i + 1) ∧ (∀ m, i < m → m < i + 1 + s → (l.getD m er0).e.begins = []) ∧ Frm [] w wr) (fun s => l.length - (i + 1) - s) 0 (js4 rfl rfl rfl rfl) ⟨jo, fun j h h2 => jo, K⟩ ?_
 rintro j wr ⟨hj, hem, K⟩
 have hSr := hS.frm K
 have hcr := hcut.frm K
 refine jS (jR (jb rfl rfl (Bin.lssN _ _) (jO (jN (jS ?_)))))
 refine jD rfl (fun hc2 => ?_) fun hc2 => ?_
 ·
  have hbj := hcr.beg _ (eH (by rw [hcr.len]; exact hc2))
  obtain ⟨adj, hdj, helj⟩ := hcr.cell hc2
  rw [hdj]
  rw [qG8] at hbj helj
  have h3i := hE3 (i + 1 + j) jo jo (fun m h1 h2 => hem m h1 h2)
  have hsnoc : (l.getD (i + 1 + j) er0).e.begins = [] → ∀ m, i < m → m < i + 1 + (j + 1) → (l.getD m er0).e.begins = [] := fun h m h1 h2 => by
   by_cases hji : m = i + 1 + j
   · subst hji; exact h
   exact hem m h1 jo
  generalize l.getD (i + 1 + j) er0 = xx at helj hbj h3i hsnoc
  obtain ⟨x, xA, xc⟩ := xx
  dsimp only at hbj h3i hsnoc
  refine jQ (jN (jv4 0 39 40 41 ?_))
  refine jS (jB (jS (jR (je (Run.indexS _ rfl rfl zax zbm jo) (je (Run.loadA rfl Tryz.isAgg66 zbm helj (by first | rfl | (simp; done))) ?_)))))
  refine Ops.m (qJ.alloc nX) rfl ?_
  rintro _ w1 ⟨rfl, hF1⟩
  refine Ops.st (qR.storeA rfl rfl zbm hF1.blk rfl (by intro v hv; exact EC_one [⟨x, _, xc⟩] v (by simpa [EC] using hv))) ?_
  rintro w2 ⟨hb2, hf2, hs2⟩
  have K := (K.trans hF1.frm jp).own hf2 (by simp <;> exact K.size)
  refine jO (jN (jv5 0 8 39 40 41 ?_))
  refine jS (jR (jf rfl zaw rfl zay (jl rfl zbu (hb2.cell 3) (je (Run.lenS rfl zf) (jb rfl rfl (Bin.gtrN _ 0) (jO (jN (jv6 0 8 39 40 41 48 ?_))))))))
  refine jD rfl (fun hc3 => ?_) fun hc3 => ?_
  ·
   obtain ⟨ad2, hA2, hcel⟩ := qZu (hbj.frm (hF1.frm.trans hf2 jp) jp) hc3
   subst hA2
   refine jS (jR (jf rfl zaw rfl zay (jl rfl zbu (hb2.cell 3) (je (Run.index1 0 rfl rfl zf zd jo) (jl rfl zg hcel (ja rfl (jO (jN (jv1 6 ?_)))))))))
   refine jT ?_
   refine qD (qN (qN (qD (qN (qC rfl ?_)))))
   rw [h3i (fun h => by rw [h] at hc3; simp at hc3)]
   exact ⟨rfl, K⟩
  refine jQ ?_
  refine qK (jN ?_)
  refine jv4 0 39 40 41 ?_
  refine jR (jb rfl rfl (Bin.add_i64 _ 1 jo) (jm rfl (jO ?_)))
  refine jN ⟨j + 1, (js4 rfl rfl rfl rfl), ?_, ?_⟩
  · exact ⟨jo, hsnoc (zz (Nat.le_zero.1 (Nat.not_lt.1 hc3))), K⟩
  first | omega | (dsimp only; omega)
 refine jX ?_
 refine qZ (qZ (qP ?_))
 refine jN (jv1 0 ?_)
 refine jS (jR (jm rfl (je (Run.nilck rfl) (jf rfl zam rfl zd (jl rfl zg (hSr.blk.cell 2) (ja rfl (jO (jN (jv1 6 ?_)))))))))
 refine jT ?_
 refine qC rfl ?_
 rw [hE4 (fun m h1 h2 => hem m h1 jo)]
 exact ⟨rfl, K⟩
theorem qZv (i k E g bc dc e : Nat) (bA dA : Option Addr) (bs C : List Nat) (l : List Er) (w : World) (hS : IsSg w g bA bc dA dc bs l e) (hl : yV l) (hi : i < l.length) (hE : qQr l e i k E) (hk : k < (l.getD i er0).e.begins.length)
  (hb : bs.length ≤ 1000000) (hB : ∀ b ∈ bs, b < 256) (h1 : (l.getD i er0).e.begins.getD k 0 ≤ E) (h2 : E ≤ bs.length) (h3 : 256 * k ≤ (l.getD i er0).e.size) (hC : C.length = min 256 ((l.getD i er0).e.size - 256 * k))
  (hI : gV ((bs.drop ((l.getD i er0).e.begins.getD k 0)).take (E - (l.getD i er0).e.begins.getD k 0)) C.length = .ok (C, E - (l.getD i er0).e.begins.getD k 0)) :
  Calls Tryz.prog 27 #[.pointer (some ⟨g, 0, none⟩), .int .i64 ((i : Nat) : Int), .int .i64 ((k : Nat) : Int)] w fun e w' => ∃ B d, e = .returned (.tuple #[.slice B C.length d, .bool true]) ∧ Own w' 5 1 B C.length d (NB C) ∧ Frm [] w w' ∧ ∀ x ∈ ob B, w.heap.size ≤ x := by
 have K := Frm.refl [] w
 have hdl := hl.1
 have hcap := hS.bcap
 obtain ⟨_, hs4, _, hbl, _⟩ := hl.2 _ (eH hi)
 have hends := fun W hW => qG9 i k E g bc dc e bA dA bs l W hW hl hi jo hE
 have hbg := hS.dir.beg _ (eH hi)
 obtain ⟨ad, hdA, hel⟩ := hS.dir.cell hi
 subst hdA
 generalize hgx : l.getD i er0 = xx at hel hbl hbg h1 h3 hC hI hs4 hk
 obtain ⟨x, xA, xc⟩ := xx
 dsimp only at hbl hbg h1 h3 hC hI hs4 hk
 obtain ⟨ad2, hA2, hcel⟩ := qZu hbg hk
 subst hA2
 generalize hF : x.begins.getD k 0 = F at *
 have hrow := hS.row.cut h1 h2 hcap
 have hNB : (NB bs).drop (F * 1) = NB (bs.drop F) := by rw [zdm]; simp [NB]
 refine VC.calls (nt := 67) (res := #[.tmp 6, .tmp 7]) Tryz.func27 rfl Tryz.ntmps27 Tryz.results27 rfl ?_
 refine jS (jR (ja rfl (ja rfl (jO (jN (jv3 0 1 2 ?_))))))
 refine jS (jR (jm rfl (je (Run.nilck rfl) (jf rfl zam rfl zby (jl rfl zcr (hS.blk.cell 1) (jm rfl (je (Run.indexS _ rfl rfl zax zbm jo) (je (Run.loadA rfl Tryz.isAgg66 zbm hel (by first | rfl | (simp; done))) ?_))))))))
 refine Ops.m (qJ.alloc nX) rfl ?_
 rintro _ w1 ⟨rfl, hF1⟩
 refine Ops.st (qR.storeA rfl rfl zbm hF1.blk rfl (by intro v hv; exact EC_one [⟨x, _, xc⟩] v (by simpa [EC] using hv))) ?_
 rintro w2 ⟨hb2, hf2, hs2⟩
 have hb2 : Blk w2 w.heap.size 66 #[.int .u64 ((x.id : Nat) : Int), .int .i64 ((x.size : Nat) : Int), .int .u32 ((x.sum : Nat) : Int), .slice (some ad2) x.begins.length xc] := hb2
 have K := (K.trans hF1.frm jp).own hf2 jp
 have hS2 := hS.frm K
 have hcel := K.cell hcel jp
 refine jO (jN (jv4 0 1 2 8 ?_))
 refine jS (jR (jf rfl zaw rfl zd (jl rfl zg (hb2.cell 1) (jm rfl (jb rfl rfl (Bin.mul_i64 256 _ jo) (jb rfl rfl (Bin.sub_i64 _ _ jo jo) (je (Run.minN 256 (x.size - 256 * k) C.length rfl rfl hC) (ja rfl (jO (jN (jv5 0 1 2 8 9 ?_)))))))))))
 refine jS ?_
 refine VC.held (fun v => Frm [] w2 v) jK ?_
 have hW : (fun v => Frm [] w2 v) w2.drew := (qQ.drew w2).frm
 have hS := hW
 refine jH 0 rfl hS (fun w0 hw0 => Run.fieldAddr rfl zaw rfl zay jd) ?_
 refine jH 1 rfl hS (fun w0 hw0 => Run.load rfl zbu ((hb2.frm hw0 jp).cell 3)) ?_
 refine jH 2 rfl hS (fun w0 hw0 => Run.mv rfl) ?_
 refine jH 3 rfl hS (fun w0 hw0 => Run.index1 _ rfl rfl zf zd jo) ?_
 refine jH 4 rfl hS (fun w0 hw0 => Run.load rfl zg (hw0.cell hcel jp)) ?_
 refine jH 5 rfl hS (fun w0 hw0 => Run.mv rfl) ?_
 refine jH 6 rfl hS (fun w0 hw0 => Run.mv rfl) ?_
 refine jH 7 rfl hS (fun w0 hw0 => Run.mv rfl) ?_
 refine qV.cl 8 rfl jK (jE3 Tryz.call47) (hends _ (hS2.frm hW)) trivial rfl rfl ?_
 rintro e w3 ⟨rfl, hf3⟩
 have hW := hW.trans hf3 jp
 have hS := hW
 refine ⟨_, rfl, hS, ?_⟩
 refine jH 9 rfl hS (fun w0 hw0 => Run.asg rfl) ?_
 refine jH 10 rfl hS (fun w0 hw0 => Run.asg rfl) ?_
 refine qV.done jK ?_
 refine jN (jv4 0 9 10 11 ?_)
 refine jS (jR (jm rfl (je (Run.nilck rfl) (jf rfl zam rfl zl (jl rfl zt ((hS2.frm hW).blk.cell 0) (jm rfl (jm rfl (jm rfl (je (Run.slice3 _ _ _ rfl ze zad rfl rfl rfl jo jo jo) ?_)))))))))
 have hlen : ((bs.drop F).take (E - F)).length = E - F := by rw [zi, zp]; omega
 have hinf := qY2 (cP bA E F 1) (E - F) ((bs.drop F).take (E - F)) ((C.length : Nat) : Int) w3 jo (by rw [hlen]; omega) (fun b hb => hB b (zbn (zag hb))) (qRo bs F E h1 h2 ((hS2.frm hW).row))
 rw [hlen] at hinf
 refine jM ?_
 refine Ops.cl (jE2 Tryz.call48) (hinf) rfl ?_
 rintro e w4 ⟨hf4, hin⟩
 rw [hI] at hin
 obtain ⟨B, d, rfl, ho4, hu4, _, _, _⟩ := hin
 refine ⟨_, rfl, ?_⟩
 dsimp only at *
 refine jm rfl (je (Run.extract rfl rfl) (je (Run.extract rfl rfl) (je (Run.extract rfl rfl) (ja rfl (ja rfl (ja rfl (jO (jN (jv6 9 10 11 12 13 14 ?_)))))))))
 refine jS (jR (jm rfl (jm rfl (jb rfl rfl (Bin.eqlN _ 0) (jM ?_)))))
 refine jG ?_
 refine jG ?_
 refine jG ?_
 refine jk (Run.bin rfl rfl (Bin.sub_i64 _ _ jo jo)) ?_
 refine jk (Run.bin rfl rfl (Bin.eqlN _ _)) ?_
 refine je (Run.pickT rfl rfl au) (jM ?_)
 refine jG ?_
 refine jk (Run.lenS rfl ze) ?_
 refine jG ?_
 refine jk (Run.bin rfl rfl (Bin.eql _ _)) ?_
 refine je (Run.pickT rfl rfl au) (ja rfl (ja rfl (jO (jN (jv2 6 7 ?_)))))
 refine jT ?_
 refine cG rfl rfl ?_
 rw [decide_eq_true (rfl : ((C.length : Nat) : Int) = ((C.length : Nat) : Int))]
 exact ⟨B, d, rfl, ho4, (K.trans hW jp).trans hf4 jp, fun y hy => by have := (K.trans hW jp).size; have := hu4 y hy; omega⟩
end
section
open Go.RowKit
def en0 : En := ⟨0, 0, 0, []⟩
def b0 : Bb := (0, [])
theorem pX {L : List Bb} {i : Nat} (h : i < L.length) : L.getD i b0 ∈ L := by
 rw [zc, za h]
 exact zw h
theorem qSp {cs : List (List Nat)} {k : Nat} (h : k < cs.length) : cs.getD k [] ∈ cs := by
 rw [zc, za h]
 exact zw h
theorem lT : ∀ (L : List Bb) (o i : Nat), i < L.length → (cV o L).getD i en0 = ⟨(L.getD i b0).1, (L.getD i b0).2.length, crcM (L.getD i b0).2, dG (o + (outM (L.take i)).length) (chunkL (L.getD i b0).2)⟩
 | x :: L, o, 0, _ => rfl
 | x :: L, o, i + 1, h => by
  have h1 := lT L (rH o (chunkL x.2)) i (by simpa using h)
  have e : outM (x :: L.take i) = (chunkL x.2).flatMap qB ++ outM (L.take i) := rfl
  rw [cV, zdz, zdz, zac, h1, oZ, e, zb]
  congr 2
  omega
theorem gU : ∀ (cs : List (List Nat)) (o k : Nat), k < cs.length → (dG o cs).getD k 0 = o + ((cs.take k).flatMap qB).length
 | c :: cs, o, 0, _ => by simp [dG]
 | c :: cs, o, k + 1, h => by
  have h1 := gU cs (o + (qB c).length) k (by simpa using h)
  rw [dG, zdz, h1, zac, zm, zb]
  omega
def jJ (l : List Er) (L : List Bb) : Prop := l.map Er.e = cV 0 L
theorem jJ.len {l : List Er} {L : List Bb} (h : jJ l L) : l.length = L.length := by
 have := congrArg List.length h
 rw [zu, kW] at this
 exact this
theorem jJ.get {l : List Er} {L : List Bb} (h : jJ l L) {i : Nat} (hi : i < L.length) : (l.getD i er0).e = ⟨(L.getD i b0).1, (L.getD i b0).2.length, crcM (L.getD i b0).2, dG (outM (L.take i)).length (chunkL (L.getD i b0).2)⟩ := by
 have h1 := lT L 0 i hi
 rw [← h, zan] at h1
 rw [← h1]
 have hl := h.len
 rw [zc, zc, zbk, za jo]
 rfl
theorem oJ {L : List Bb} {i : Nat} (h : i < L.length) : outM (L.take (i + 1)) = outM (L.take i) ++ (chunkL (L.getD i b0).2).flatMap qB := by
 rw [zaj, za h, zc, za h]
 exact qQh _ _
theorem qNl {cs : List (List Nat)} {o : Nat} (h : dG o cs = []) : cs = [] := by
 have := cL cs o
 rw [h] at this
 exact zz this.symm
theorem mJ {l : List Er} {L : List Bb} (h : jJ l L) {i : Nat} : ∀ t, i + t ≤ L.length → (∀ m, i ≤ m → m < i + t → (l.getD m er0).e.begins = []) → outM (L.take (i + t)) = outM (L.take i)
 | 0, _, _ => rfl
 | t + 1, ht, hm => by
  have h1 := mJ h t jo (fun m h1 h2 => hm m h1 jo)
  have h2 := hm (i + t) jo jo
  rw [h.get jo] at h2
  have h3 := qNl h2
  rw [show i + (t + 1) = (i + t) + 1 by omega, oJ jo, h1, h3]
  simp
theorem tR {cs : List (List Nat)} {k : Nat} (h : k < cs.length) : (cs.take (k + 1)).flatMap qB = (cs.take k).flatMap qB ++ qB (cs.getD k []) := by
 rw [zaj, za h, zaa, zc, za h]
 simp
noncomputable def chE (L : List Bb) (i k : Nat) : Nat := (outM (L.take i)).length + (((chunkL (L.getD i b0).2).take (k + 1)).flatMap qB).length
theorem qRp {l : List Er} {L : List Bb} (h : jJ l L) {i k : Nat} (hi : i < L.length) (hk : k < (chunkL (L.getD i b0).2).length) : qQr l (outM L).length i k (chE L i k) := by
 have hg := h.get hi
 have hl := h.len
 unfold qQr
 rw [hg]
 dsimp only
 rw [cL]
 refine ⟨fun h1 => ?_, fun h1 => ⟨fun j hij hj hm hne => ?_, fun hm => ?_⟩⟩
 ·
  rw [gU _ _ _ h1]
  rfl
 ·
  have hkE : chE L i k = (outM (L.take (i + 1))).length := by
   unfold chE
   rw [zn h1, oJ hi, zb]
  have h2 := mJ (i := i + 1) h (j - (i + 1)) jo (fun m h3 h4 => hm m jo jo)
  rw [show i + 1 + (j - (i + 1)) = j by omega] at h2
  have hgj := h.get (i := j) jo
  rw [hgj] at hne ⊢
  dsimp only at hne ⊢
  have h3 : 0 < (chunkL (L.getD j b0).2).length := by
   rw [← cL _ (outM (L.take j)).length]
   exact List.length_pos_iff.2 hne
  rw [gU _ _ _ h3, h2, hkE]
  simp
 have hkE : chE L i k = (outM (L.take (i + 1))).length := by
  unfold chE
  rw [zn h1, oJ hi, zb]
 have h2 := mJ (i := i + 1) h (L.length - (i + 1)) jo (fun m h3 h4 => hm m jo jo)
 rw [show i + 1 + (L.length - (i + 1)) = L.length by omega, zbl] at h2
 rw [hkE, h2]
theorem qNm (L : List Bb) {i k : Nat} (hi : i < L.length) (hk : k < (chunkL (L.getD i b0).2).length) :
  ∃ a b, segM L = a ++ (qB ((chunkL (L.getD i b0).2).getD k []) ++ b) ∧ a.length = (outM (L.take i)).length + (((chunkL (L.getD i b0).2).take k).flatMap qB).length ∧ chE L i k = a.length + (qB ((chunkL (L.getD i b0).2).getD k [])).length := by
 have h1 : L = L.take i ++ L.getD i b0 :: L.drop (i + 1) := by
  have h2 := (zcb i L).symm
  rw [zcl hi] at h2
  rw [zc, za hi]
  exact h2
 have h3 : outM L = outM (L.take i) ++ ((chunkL (L.getD i b0).2).flatMap qB ++ outM (L.drop (i + 1))) := by
  have h4 : outM (L.take i ++ L.getD i b0 :: L.drop (i + 1)) = outM (L.take i) ++ ((chunkL (L.getD i b0).2).flatMap qB ++ outM (L.drop (i + 1))) := by
   unfold outM
   rw [zaa, zm]
  rw [← h1] at h4
  exact h4
 have h5 : (chunkL (L.getD i b0).2).flatMap qB = ((chunkL (L.getD i b0).2).take k).flatMap qB ++ (qB ((chunkL (L.getD i b0).2).getD k []) ++ ((chunkL (L.getD i b0).2).drop (k + 1)).flatMap qB) := by
  have h6 := congrArg (fun c => c.flatMap qB) (zcb (k + 1) (chunkL (L.getD i b0).2)).symm
  rw [zaa, tR hk, zj] at h6
  exact h6
 refine ⟨outM (L.take i) ++ ((chunkL (L.getD i b0).2).take k).flatMap qB, ((chunkL (L.getD i b0).2).drop (k + 1)).flatMap qB ++ outM (L.drop (i + 1)) ++ bF L ++ qI (crcM (bF L)) 4 ++ [115, 101, 97, 108], ?_, zb, ?_⟩
 ·
  unfold segM
  rw [h3, h5]
  simp only [zj]
 unfold chE
 rw [tR hk, zb, zb]
 omega
theorem qNn {l : List Er} {L : List Bb} (h : jJ l L) (hL : ∀ x ∈ L, x.2.length ≤ 4032 ∧ x.1 < 18446744073709551616 ∧ ∀ b ∈ x.2, b < 256) {i k : Nat} (hi : i < L.length) (hk : k < (chunkL (L.getD i b0).2).length) :
  (l.getD i er0).e.begins.getD k 0 ≤ chE L i k ∧ chE L i k ≤ (segM L).length ∧ gV (((segM L).drop ((l.getD i er0).e.begins.getD k 0)).take (chE L i k - (l.getD i er0).e.begins.getD k 0)) ((chunkL (L.getD i b0).2).getD k []).length = .ok ((chunkL (L.getD i b0).2).getD k [], chE L i k - (l.getD i er0).e.begins.getD k 0) := by
 obtain ⟨a, b, h1, h2, h3⟩ := qNm L hi hk
 rw [h.get hi]
 dsimp only
 rw [gU _ _ _ hk, ← h2, h1, zeo, h3]
 have hm : (chunkL (L.getD i b0).2).getD k [] ∈ chunkL (L.getD i b0).2 := qSp hk
 obtain ⟨h4, h5⟩ := nR hm
 have h6 := qJr h4 (fun b hb => (hL _ (pX hi)).2.2 b (h5 b hb))
 refine ⟨jo, by rw [zb, zb]; omega, ?_⟩
 rw [show a.length + (qB ((chunkL (L.getD i b0).2).getD k [])).length - a.length = (qB ((chunkL (L.getD i b0).2).getD k [])).length by omega, zgd]
 exact h6
theorem qN8 {l : List Er} {L : List Bb} (h : jJ l L) (hL : ∀ x ∈ L, x.2.length ≤ 4032 ∧ x.1 < 18446744073709551616 ∧ ∀ b ∈ x.2, b < 256) (hn : L.length ≤ 64) : yV l := by
 have hl := h.len
 refine ⟨jo, fun x hx => ?_⟩
 obtain ⟨i, hi, rfl⟩ := zbc hx
 have hg := h.get (i := i) jo
 rw [zc, za hi, zaz] at hg
 obtain ⟨h1, h2, h3⟩ := hL _ (pX (i := i) jo)
 rw [hg]
 dsimp only
 refine ⟨h2, h1, mI _, by rw [cL]; exact mE h1, fun b hb => ?_⟩
 obtain ⟨k, hk, rfl⟩ := zbc hb
 rw [cL] at hk
 have h4 := gU (chunkL (L.getD i b0).2) (outM (L.take i)).length k hk
 rw [zc, za (by rw [cL]; exact hk), zaz] at h4
 rw [h4]
 have h5 := lR (L.take i) (fun x hx => hL x (zag hx))
 have h6 : (L.take i).length ≤ 64 := by rw [zi]; omega
 have h7 := uX h1 h3
 have h8 : (((chunkL (L.getD i b0).2).take k).flatMap qB).length ≤ ((chunkL (L.getD i b0).2).flatMap qB).length := by
  have h9 : (chunkL (L.getD i b0).2).flatMap qB = ((chunkL (L.getD i b0).2).take k).flatMap qB ++ ((chunkL (L.getD i b0).2).drop k).flatMap qB := by rw [← zaa, zcb]
  rw [h9, zb]
  omega
 omega
theorem yW {L : List Bb} (hL : ∀ x ∈ L, x.2.length ≤ 4032 ∧ x.1 < 18446744073709551616 ∧ ∀ b ∈ x.2, b < 256) : ∀ b ∈ segM L, b < 256 := by
 intro b hb
 unfold segM at hb
 rcases List.mem_append.1 hb with hb | hb
 ·
  rcases List.mem_append.1 hb with hb | hb
  ·
   rcases List.mem_append.1 hb with hb | hb
   · exact qRj L (fun x hx => (hL x hx).2.2) b hb
   exact yJ L b hb
  exact gA _ _ b hb
 simp at hb
 omega
theorem vT {L : List Bb} (hL : ∀ x ∈ L, x.2.length ≤ 4032 ∧ x.1 < 18446744073709551616 ∧ ∀ b ∈ x.2, b < 256) (hn : L.length ≤ 64) : (segM L).length ≤ 600000 := by
 have h1 := lR L hL
 have h2 := mF L 0 (fun x hx => (hL x hx).1)
 unfold segM bF bE
 simp only [zb, bN, zq, zct]
 omega
end
section
open Go.RowKit
def vU (w : World) (g : Nat) (L : List Bb) : Prop := ∃ bA bc dA dc l, IsSg w g bA bc dA dc (segM L) l (outM L).length ∧ jJ l L
theorem vU.frm {w w' : World} {g : Nat} {L : List Bb} (h : vU w g L) (k : Frm [] w w') : vU w' g L := by
 obtain ⟨bA, bc, dA, dc, l, h1, h2⟩ := h
 exact ⟨bA, bc, dA, dc, l, h1.frm k, h2⟩
def tS (d : List Nat) (f n : Nat) : Nat := if d.length ≤ f ∨ n = 0 then 0 else (f + min n (d.length - f) - 1) / 256 - f / 256 + 1
theorem qHa {L : List Bb} (h : L.Pairwise (fun a b => a.1 < b.1)) : ∀ a b, a < b → b < L.length → (L.getD a b0).1 < (L.getD b b0).1 := by
 intro a b hab hb
 rw [zc, zc, za hb, za jo]
 exact List.pairwise_iff_getElem.1 h a b jo hb hab
def kY (d : List Nat) (f k : Nat) : List Nat := (d.take (256 * k)).drop (256 * (f / 256))
theorem qQi (d : List Nat) (f : Nat) (h : f < d.length) : kY d f (f / 256) = [] := by
 unfold kY
 apply zdp
 rw [zi]
 omega
theorem qHb (d : List Nat) (f k : Nat) (h : f / 256 ≤ k) (hk : 256 * k < d.length) : kY d f (k + 1) = kY d f k ++ (chunkL d).getD k [] := by
 rw [mD hk]
 unfold kY
 rw [show 256 * (k + 1) = 256 * k + 256 by omega, List.take_add, zca (by rw [zi]; omega)]
theorem qNo (d : List Nat) (f k : Nat) : (kY d f k).length = min (256 * k) d.length - 256 * (f / 256) := by
 unfold kY
 rw [zp, zi]
theorem qNp (d : List Nat) (f t k : Nat) (h1 : f ≤ t) (h2 : t ≤ 256 * k) (h3 : t ≤ d.length) : ((kY d f k).drop (f - 256 * (f / 256))).take (t - 256 * (f / 256) - (f - 256 * (f / 256))) = (d.drop f).take (t - f) := by
 unfold kY
 rw [List.drop_drop, show 256 * (f / 256) + (f - 256 * (f / 256)) = f by omega, show t - 256 * (f / 256) - (f - 256 * (f / 256)) = t - f by omega, List.drop_take, zga, zbb jo]
theorem rP (g i f n : Nat) (L : List Bb) (w : World) (hS : vU w g L) (hM : tM L) (hi : i < L.length) (hf : f ≤ 9223372036854775807) (hn : n ≤ 9223372036854775807) :
  Calls Tryz.prog 13 #[.pointer (some ⟨g, 0, none⟩), .int .u64 (((L.getD i b0).1 : Nat) : Int), .int .i64 ((f : Nat) : Int), .int .i64 ((n : Nat) : Int)] w fun e w' => ∃ B m, e = .returned (.tuple #[.slice B (((L.getD i b0).2.drop f).take n).length m, .int .i64 ((tS (L.getD i b0).2 f n : Nat) : Int), .int .i64 ((0 : Nat) : Int)]) ∧ Rd w' 1 B (((L.getD i b0).2.drop f).take n).length (NB (((L.getD i b0).2.drop f).take n)) ∧ Frm [] w w' := by
 obtain ⟨bA, bc, dA, dc, l, hS, ht⟩ := hS
 obtain ⟨hL, hpw, h1n, h64⟩ := hM
 have hok := qN8 ht hL h64
 have hg := ht.get hi
 have hll := ht.len
 have hbl := vT hL h64
 have hbb := yW hL
 obtain ⟨hd40, hid, hdb⟩ := hL _ (pX hi)
 have hfs := qG7 i g bc dc _ bA dA _ l w hS hok jo (fun a b hab hb => by rw [ht.get jo, ht.get jo]; exact qHa hpw a b hab jo)
 rw [hg] at hfs
 dsimp only at hfs
 have hchk := fun (k : Nat) (W : World) (hW : IsSg W g bA bc dA dc (segM L) l (outM L).length) (hk : k < (chunkL (L.getD i b0).2).length) => by
  obtain ⟨q1, q2, q3⟩ := qNn ht hL hi hk
  have q4 := qZv i k (chE L i k) g bc dc _ bA dA _ ((chunkL (L.getD i b0).2).getD k []) l W hW hok jo (qRp ht hi hk) (by rw [hg]; dsimp only; rw [cL]; exact hk) jo hbb q1 q2
  rw [hg] at q4 q3
  have hkl := fI (L.getD i b0).2
  have hcg := mD (d := (L.getD i b0).2) (k := k) jo
  exact q4 (by dsimp only; omega) (by dsimp only; rw [hcg, zi, zp]) q3
 have hkl := fI (L.getD i b0).2
 generalize hdd : (L.getD i b0).2 = d at *
 generalize (L.getD i b0).1 = id at *
 refine VC.calls (nt := 94) (res := #[.tmp 8, .tmp 9, .tmp 10]) Tryz.func13 rfl Tryz.ntmps13 Tryz.results13 rfl ?_
 refine jS (jR (ja rfl (jz 0 (jz 0 (jO (jN (jv4 0 1 2 3 ?_)))))))
 refine jS (jR (jm rfl (jM ?_)))
 refine Ops.cl (jE2 Tryz.call26) (hfs) rfl ?_
 rintro e w1 ⟨rfl, K⟩
 refine ⟨_, rfl, ?_⟩
 have hS1 := hS.frm K
 obtain ⟨ad, hdA, hel⟩ := hS1.dir.cell (jo : i < l.length)
 subst hdA
 have hsz := hel 1 (.int .i64 (((l.getD i er0).e.size : Nat) : Int)) rfl
 rw [hg] at hsz
 dsimp only at hsz
 refine ja rfl (jO (jN (jv4 0 2 3 11 ?_)))
 refine jS (jB (jS (jR (jm rfl (jb rfl rfl (Bin.lssN _ 0) (ja rfl (jO (jN (jv5 0 2 3 11 24 ?_)))))))))
 refine VC.condF rfl (decide_eq_false jo) ?_
 refine jS ?_
 refine VC.split1 [(0, _), (2, _), (3, _), (11, _)] (js4 rfl rfl rfl rfl) 27 (.bool (decide (f < 0 ∨ n < 0))) ?_ ?_
 ·
  refine jR ?_
  refine jm rfl (jb rfl rfl (Bin.lssN _ 0) ?_)
  by_cases hs29 : f < 0
  ·
   refine jM ?_
   refine jU ?_
   refine jU ?_
   refine je (Run.pickT rfl rfl au) (ja rfl (jO ?_))
   refine jN ⟨(js5 (jC (by first | (simp [*]; done) | (simp; omega))) rfl rfl rfl rfl), rfl⟩
  refine jM ?_
  refine jG ?_
  refine jk (Run.bin rfl rfl (Bin.lssN _ 0)) ?_
  by_cases hs32 : n < 0
  ·
   refine je (Run.pickF rfl rfl au) (ja rfl (jO ?_))
   refine jN ⟨(js5 (jC (by first | (simp [*]; done) | (simp; omega))) rfl rfl rfl rfl), rfl⟩
  refine je (Run.pickF rfl rfl au) (ja rfl (jO ?_))
  refine jN ⟨(js5 (jC (by first | (simp [*]; done) | (simp; omega))) rfl rfl rfl rfl), rfl⟩
 intro Γ hΓ
 refine jN (VC.sub _ hΓ ?_)
 refine VC.condF rfl (decide_eq_false jo) ?_
 refine jQ ?_
 refine qK (jN ?_)
 refine jv4 0 2 3 11 ?_
 refine jS (jR (jm rfl (je (Run.nilck rfl) (jf rfl zam rfl zby (jl rfl zcr (hS1.blk.cell 1) (jm rfl (je (Run.indexS _ rfl rfl zax zbm jo) (jf rfl zaw rfl zd (jl rfl zg hsz ?_)))))))))
 refine ja rfl (jO (jN (jv5 0 2 3 11 12 ?_)))
 refine jS (jS ?_)
 refine VC.split1 [(0, _), (2, _), (3, _), (11, _), (12, _)] (js5 rfl rfl rfl rfl rfl) 48 (.bool (decide (d.length ≤ f ∨ n = 0))) ?_ ?_
 ·
  refine jR ?_
  refine jm rfl (jm rfl (jb rfl rfl (Bin.geqN _ _) ?_))
  by_cases hs44 : d.length ≤ f
  ·
   refine jM ?_
   refine jU ?_
   refine jU ?_
   refine je (Run.pickT rfl rfl au) (jO ?_)
   refine jN ⟨(js6 (jC (by first | (simp [*]; done) | (simp; omega))) rfl rfl rfl rfl rfl), rfl⟩
  refine jM ?_
  refine jG ?_
  refine jk (Run.bin rfl rfl (Bin.eqlN _ 0)) ?_
  by_cases hs47 : n = 0
  ·
   refine je (Run.pickF rfl rfl au) (jO ?_)
   refine jN ⟨(js6 (jC (by first | (simp [*]; done) | (simp; omega))) rfl rfl rfl rfl rfl), rfl⟩
  refine je (Run.pickF rfl rfl au) (jO ?_)
  refine jN ⟨(js6 (jC (by first | (simp [*]; done) | (simp; omega))) rfl rfl rfl rfl rfl), rfl⟩
 intro Γ hΓ
 refine jN (VC.sub _ hΓ ?_)
 refine jD rfl (fun hc3 => ?_) fun hc3 => ?_
 ·
  have hnil : (d.drop f).take n = [] := by
   rcases hc3 with h | h
   · rw [zdp h, List.take_nil]
   rw [h, zdo]
  have hcn : tS d f n = 0 := if_pos hc3
  refine jS (jR (ja rfl (jz 0 (jz 0 (jO (jN (jv3 8 9 10 ?_)))))))
  refine jT ?_
  refine qN (qK4 rfl rfl rfl ?_)
  rw [hnil, hcn]
  exact ⟨none, 0, rfl, Rd.nil _ _ _, K⟩
 have hfd : f < d.length := zgi (fun h => hc3 (.inl h))
 have hn0 : n ≠ 0 := fun h => hc3 (.inr h)
 obtain ⟨m0, hm0⟩ : ∃ m0, m0 = min n (d.length - f) := ⟨_, rfl⟩
 have hlen : ((d.drop f).take n).length = m0 := by rw [zi, zp]; omega
 have htk : (d.drop f).take n = (d.drop f).take (f + m0 - f) := by
  rw [show f + m0 - f = m0 by omega]
  by_cases h : n ≤ d.length - f
  · rw [hm0, zbb h]
  rw [zn (by rw [zp]; omega), zn (by rw [zp]; omega)]
 have hcn : tS d f n = (f + m0 - 1) / 256 - f / 256 + 1 := by rw [hm0]; exact if_neg hc3
 refine jQ (jN (jv5 0 2 3 11 12 ?_))
 refine jS (jR (jm rfl (jm rfl (jm rfl (jm rfl (jb rfl rfl (Bin.sub_i64 _ _ jo jo) (je (Run.minN n (d.length - f) m0 rfl rfl hm0) (jb rfl rfl (Bin.add_i64 _ _ jo) (ja rfl (jO (jN (jv4 0 2 11 13 ?_))))))))))))
 refine jS (jR (ja rfl (jO (jN (jS (jR (jm rfl (jb rfl rfl (Bin.quo_i64 _ 256 jo jo) (jm rfl (jb rfl rfl (Bin.sub_i64 _ 1 jo jo) (jb rfl rfl (Bin.quo_i64 _ 256 jo jo) (ja rfl (ja rfl (jO (jN (jv7 0 2 11 13 14 15 16 ?_))))))))))))))))
 refine jS (jS (jR (jm rfl (ja rfl (jO (jN (jv8 0 2 11 13 14 15 16 17 ?_)))))))
 refine jB ?_
 refine VC.loop (σ := Nat × Option Addr × Nat) (fun s => [(0, .pointer (some ⟨g, 0, none⟩)), (2, .int .i64 ((f : Nat) : Int)), (11, .int .i64 ((i : Nat) : Int)), (13, .int .i64 ((f + m0 : Nat) : Int)), (14, .slice s.2.1 (kY d f s.1).length s.2.2), (15, .int .i64 ((f / 256 : Nat) : Int)), (16, .int .i64 (((f + m0 - 1) / 256 : Nat) : Int)), (17, .int .i64 ((s.1 : Nat) : Int))]) (fun s wr => f / 256 ≤ s.1 ∧ s.1 ≤ (f + m0 - 1) / 256 + 1 ∧ Own wr 5 1 s.2.1 (kY d f s.1).length s.2.2 (NB (kY d f s.1)) ∧ Frm [] w wr ∧ ∀ x ∈ ob s.2.1, w.heap.size ≤ x) (fun s => (f + m0 - 1) / 256 + 1 - s.1) (f / 256, none, 0) (js8 rfl rfl rfl rfl (by rw [qQi d f hfd]; rfl) rfl rfl rfl) ⟨zk _, jo, by rw [qQi d f hfd]; exact Own.nil _ _ _, K, by simp [ob]⟩ ?_
 rintro ⟨k, B, m⟩ wr ⟨hk1, hk2, ho, K, hob⟩
 dsimp only at *
 have hol := qNo d f k
 refine jS (jS (jR (jm rfl (jm rfl (jb rfl rfl (Bin.leqN _ _) (jO (jN (jv9 0 2 11 13 14 15 16 17 64 ?_))))))))
 refine jD rfl (fun hc4 => ?_) fun hc4 => ?_
 ·
  have hkd : 256 * k < d.length := jo
  have hosn := qHb d f k hk1 hkd
  have hCl : ((chunkL d).getD k []).length ≤ 256 := by rw [mD hkd, zi]; omega
  refine jQ (jN (jv8 0 2 11 13 14 15 16 17 ?_))
  refine jS (jB (jS (jR (jm rfl (jm rfl (jM ?_))))))
  refine Ops.cl (jE3 Tryz.call27) (hchk k _ (hS.frm K) jo) rfl ?_
  rintro e w2 ⟨B2, m2, rfl, ho2, hf2, hu2⟩
  refine ⟨_, rfl, ?_⟩
  have ho := ho.frm hf2 jp
  have K := K.trans hf2 jp
  refine jm rfl (je (Run.extract rfl rfl) (je (Run.extract rfl rfl) (ja rfl (ja rfl (jO (jN (jv10 0 2 11 13 14 15 16 17 18 19 ?_)))))))
  refine jS (jS (jR (jm rfl (je (Run.not rfl) (jO (jN (jv10 0 2 11 13 14 15 16 17 18 75 ?_)))))))
  refine VC.condF rfl (rfl) ?_
  refine jQ (jN (jv9 0 2 11 13 14 15 16 17 18 ?_))
  refine jR (jm rfl (jM ?_))
  refine Ops.m (qJ.app rfl rfl ze (dD) rfl jd ho ho2.rd (dH _) jo jo) rfl ?_
  rintro _ w3 ⟨B3, m3, rfl, ho3, hf3, hob3⟩
  rw [← eA, ← hosn] at ho3
  have hks := K.size
  have K := K.own hf3 hob
  have hob2 : ∀ y ∈ ob B3, w.heap.size ≤ y := fun y hy => by
   rcases hob3 with h | h
   · rw [h] at hy; exact hob y hy
   rw [h, zh] at hy; omega
  have hsl : (kY d f (k + 1)).length = (kY d f k).length + ((chunkL d).getD k []).length := by rw [hosn, zb]
  rw [← hsl]
  refine ja rfl (jO ?_)
  refine qK (jN ?_)
  refine jv8 0 2 11 13 14 15 16 17 ?_
  refine jR (jm rfl (jb rfl rfl (Bin.add_i64 _ 1 jo) (ja rfl (jO ?_))))
  refine jN ⟨(k + 1, B3, m3), (js8 rfl rfl rfl rfl rfl rfl rfl rfl), ?_, ?_⟩
  · exact ⟨jo, jo, by first | exact ho3 | (rw [hsl]; exact ho3), K, hob2⟩
  first | omega | (dsimp only; omega)
 obtain rfl : k = (f + m0 - 1) / 256 + 1 := jo
 have hle := ho.le
 have hcut := ho.rd.cut (l := f - f / 256 * 256) (r := f + m0 - f / 256 * 256) (cap := m) jo (by rw [hol]; omega) hle
 rw [zdm, zdm] at hcut
 have hoc := by
  have h := qNp d f (f + m0) ((f + m0 - 1) / 256 + 1) jo jo jo
  rw [zcf 256 (f / 256)] at h
  exact h
 have hNB : ((NB (kY d f ((f + m0 - 1) / 256 + 1))).drop (f - f / 256 * 256)).take (f + m0 - f / 256 * 256 - (f - f / 256 * 256)) = NB ((d.drop f).take n) := by rw [htk, ← hoc]; simp [NB, zeg, List.map_drop]
 rw [hNB] at hcut
 have hcl2 : f + m0 - f / 256 * 256 - (f - f / 256 * 256) = ((d.drop f).take n).length := by rw [hlen]; omega
 refine jX ?_
 refine qZ (qZ (qP ?_))
 refine jN (jv5 2 13 14 15 16 ?_)
 refine jS (jR (jm rfl (jb rfl rfl (Bin.mul_i64 _ 256 jo) (ja rfl (jO (jN (jv6 2 13 14 15 16 20 ?_)))))))
 refine jS (jR (jm rfl (jm rfl (jm rfl (jb rfl rfl (Bin.sub_i64 _ _ jo jo) (jm rfl (jm rfl (jb rfl rfl (Bin.sub_i64 _ _ jo jo) (je (Run.sliceS _ _ rfl ze zad (evB.some_ rfl) (evB.some_ rfl) jo jo) ?_)))))))))
 refine Ops.cl (jE1 Tryz.call28) (qJd _ _ _ ((d.drop f).take n) _ hcl2.symm jo hcut) rfl ?_
 rintro e w4 ⟨B4, m4, rfl, ho4, hf4, hob4⟩
 refine ⟨_, rfl, ?_⟩
 refine jm rfl (jm rfl (jb rfl rfl (Bin.sub_i64 _ _ jo jo) (jb rfl rfl (Bin.add_i64 _ 1 jo) (ja rfl (ja rfl (jz 0 (jO (jN (jv3 8 9 10 ?_)))))))))
 refine jT ?_
 refine qK4 rfl rfl rfl ?_
 rw [hcn, ← hcl2]
 exact ⟨B4, m4, rfl, by rw [hcl2] at ho4 ⊢; exact ho4.rd, K.trans hf4 jp⟩
end
section
open Go.RowKit
theorem uZ {bs s : List Nat} {a wh v n : Nat} (h : bs.drop a = qI v n ++ s) (hv : v < 256 ^ n) (hn : 1 ≤ n) : rdN bs a 0 wh n = (v, a + n, 0, wh) ∧ bs.drop (a + n) = s ∧ a + n ≤ bs.length := by
 have h1 := congrArg List.length h
 rw [zp, zb, bN] at h1
 have h2 : numAt bs a n = v := by
  unfold numAt
  rw [h, zbs (by rw [bN]; omega), zn (by rw [bN]; omega)]
  exact vQ n v hv
 refine ⟨?_, ?_, jo⟩
 ·
  unfold rdN
  rw [if_neg jo, if_neg jo, h2]
 rw [← List.drop_drop, h]
 exact List.drop_left' (bN v n)
noncomputable def eD (L : List Bb) (i : Nat) : Nat := 2 + (((cV 0 L).take i).flatMap fJ).length
noncomputable def eE (L : List Bb) (i k : Nat) : Nat := (outM (L.take i)).length + (((chunkL (L.getD i b0).2).take k).flatMap qB).length
theorem qQj (L : List Bb) (i : Nat) : (bE L).drop (eD L i) = ((cV 0 L).drop i).flatMap fJ ++ qI (kO 0 L) 4 := by
 have h1 : bE L = (qI L.length 2 ++ ((cV 0 L).take i).flatMap fJ) ++ (((cV 0 L).drop i).flatMap fJ ++ qI (kO 0 L) 4) := by
  unfold bE
  rw [show (cV 0 L).flatMap fJ = ((cV 0 L).take i).flatMap fJ ++ ((cV 0 L).drop i).flatMap fJ by rw [← zaa, zcb]]
  simp only [zj]
 have h2 : (qI L.length 2 ++ ((cV 0 L).take i).flatMap fJ).length = eD L i := by rw [zb, bN]; rfl
 rw [h1, ← h2, zeo]
theorem qNq {L : List Bb} {i : Nat} (h : i < L.length) : (cV 0 L).drop i = ⟨(L.getD i b0).1, (L.getD i b0).2.length, crcM (L.getD i b0).2, dG (outM (L.take i)).length (chunkL (L.getD i b0).2)⟩ :: (cV 0 L).drop (i + 1) := by
 have hl := kW L 0
 have h1 := lT L 0 i h
 rw [zan] at h1
 rw [← h1, zcl jo, zc, za jo]
 rfl
theorem qHc {L : List Bb} {i : Nat} (h : i < L.length) : eD L (i + 1) = eD L i + 14 + 4 * (chunkL (L.getD i b0).2).length := by
 have hl := kW L 0
 have h1 : (cV 0 L).take (i + 1) = (cV 0 L).take i ++ [⟨(L.getD i b0).1, (L.getD i b0).2.length, crcM (L.getD i b0).2, dG (outM (L.take i)).length (chunkL (L.getD i b0).2)⟩] := by
  have h2 := lT L 0 i h
  rw [zan] at h2
  rw [← h2, zaj, zc, za jo]
  rfl
 unfold eD
 rw [h1, zaa, zb, zdq, qZs]
 dsimp only
 rw [cL]
 omega
theorem oK : ∀ (L : List Bb) (o i : Nat), cV o (L.take i) = (cV o L).take i
 | [], o, i => by simp [cV]
 | x :: L, o, 0 => rfl
 | x :: L, o, i + 1 => by rw [zac, cV, cV, zac, oK L]
theorem qHd {L : List Bb} {i : Nat} (h : i < L.length) : cV 0 (L.take (i + 1)) = cV 0 (L.take i) ++ [⟨(L.getD i b0).1, (L.getD i b0).2.length, crcM (L.getD i b0).2, dG (outM (L.take i)).length (chunkL (L.getD i b0).2)⟩] := by
 have hl := kW L 0
 have h2 := lT L 0 i h
 rw [zan] at h2
 rw [oK, oK, ← h2, zaj, zc, za jo]
 rfl
theorem qSq {L : List Bb} {i : Nat} (h : i < L.length) : (bE L).drop (eD L i) = qI (L.getD i b0).1 8 ++ (qI (L.getD i b0).2.length 2 ++ (qI (crcM (L.getD i b0).2) 4 ++ ((dG (outM (L.take i)).length (chunkL (L.getD i b0).2)).flatMap (fun b => qI b 4) ++ (((cV 0 L).drop (i + 1)).flatMap fJ ++ qI (kO 0 L) 4)))) := by
 rw [qQj, qNq h, zm]
 unfold fJ
 simp only [zj]
theorem qNr {L : List Bb} {i k : Nat} (hk : k < (chunkL (L.getD i b0).2).length) (R : List Nat) : ((dG (outM (L.take i)).length (chunkL (L.getD i b0).2)).drop k).flatMap (fun b => qI b 4) ++ R = qI (eE L i k) 4 ++ (((dG (outM (L.take i)).length (chunkL (L.getD i b0).2)).drop (k + 1)).flatMap (fun b => qI b 4) ++ R) := by
 have hl := cL (chunkL (L.getD i b0).2) (outM (L.take i)).length
 have h1 := gU (chunkL (L.getD i b0).2) (outM (L.take i)).length k hk
 rw [zc, za jo, zaz] at h1
 rw [zcl jo, h1, zm, zj]
 rfl
theorem qNs {L : List Bb} {i k : Nat} (hk : k < (chunkL (L.getD i b0).2).length) : (dG (outM (L.take i)).length (chunkL (L.getD i b0).2)).take (k + 1) = (dG (outM (L.take i)).length (chunkL (L.getD i b0).2)).take k ++ [eE L i k] := by
 have hl := cL (chunkL (L.getD i b0).2) (outM (L.take i)).length
 have h1 := gU (chunkL (L.getD i b0).2) (outM (L.take i)).length k hk
 rw [zc, za jo, zaz] at h1
 rw [zaj, za jo, h1]
 rfl
theorem qHe {L : List Bb} {i k : Nat} (hk : k < (chunkL (L.getD i b0).2).length) : eE L i k ≤ eE L i (k + 1) := by
 unfold eE
 rw [tR hk, zb]
 omega
theorem qNt {L : List Bb} {i : Nat} (hi : i < L.length) : eE L i (chunkL (L.getD i b0).2).length = (outM (L.take (i + 1))).length := by
 unfold eE
 rw [zbl, oJ hi, zb]
theorem qRq {L : List Bb} (hL : ∀ x ∈ L, x.2.length ≤ 4032 ∧ x.1 < 18446744073709551616 ∧ ∀ b ∈ x.2, b < 256) (hn : L.length ≤ 64) {i : Nat} (hi : i < L.length) (k : Nat) : eE L i k ≤ 600000 := by
 obtain ⟨h1, _, h3⟩ := hL _ (pX hi)
 have h5 := lR (L.take i) (fun x hx => hL x (zag hx))
 have h6 : (L.take i).length ≤ 63 := by rw [zi]; omega
 have h7 := uX h1 h3
 have h8 : (((chunkL (L.getD i b0).2).take k).flatMap qB).length ≤ ((chunkL (L.getD i b0).2).flatMap qB).length := by
  have h9 : (chunkL (L.getD i b0).2).flatMap qB = ((chunkL (L.getD i b0).2).take k).flatMap qB ++ ((chunkL (L.getD i b0).2).drop k).flatMap qB := by rw [← zaa, zcb]
  rw [h9, zb]
  omega
 unfold eE
 omega
theorem qZw {L : List Bb} (hL : ∀ x ∈ L, x.2.length ≤ 4032 ∧ x.1 < 18446744073709551616 ∧ ∀ b ∈ x.2, b < 256) (hn : L.length ≤ 64) : (outM L).length ≤ 600000 := by
 have h5 := lR L hL
 omega
theorem qRr (L : List Bb) : ∀ b ∈ bE L, b < 256 := fun b hb => yJ L b (by unfold bF; exact List.mem_append_left _ hb)
theorem qNu {L : List Bb} (hL : ∀ x ∈ L, x.2.length ≤ 4032 ∧ x.1 < 18446744073709551616 ∧ ∀ b ∈ x.2, b < 256) (hn : L.length ≤ 64) : (bE L).length ≤ 600000 := by
 have h2 := mF L 0 (fun x hx => (hL x hx).1)
 unfold bE
 simp only [zb, bN]
 omega
theorem qNv {L : List Bb} : (bE L).drop (eD L L.length) = qI (outM L).length 4 ++ [] ∧ (bE L).length = eD L L.length + 4 := by
 have hl := kW L 0
 have h1 := qQj L L.length
 rw [zdp (by omega : (cV 0 L).length ≤ L.length), mZ] at h1
 refine ⟨by rw [h1]; simp, ?_⟩
 unfold bE eD
 rw [zn jo]
 simp only [zb, bN]
end
section
open Go.RowKit
structure RdSt (W : World) (g : Nat) (bA : Option Addr) (bn bc : Nat) (dA : Option Addr) (dc : Nat) (l : List Er) : Prop where
 bS : Blk W g 62 #[.slice bA bn bc, .slice dA l.length dc, .int .i64 ((0 : Nat) : Int)]
 dO : Own W 66 4 dA l.length dc (EC l)
 bg : ∀ x ∈ l, Own W 3 1 x.A x.e.begins.length x.c (ZB x.e.begins)
theorem RdSt.oc {W W' : World} {g g1 bn bc dc : Nat} {bA dA : Option Addr} {l : List Er} {cs : Array Value} (h : RdSt W g bA bn bc dA dc l) (hr : Blk W g1 144 cs) (k : Frm [g1] W W') : RdSt W' g bA bn bc dA dc l :=
 ⟨h.bS.frm k (by simp; exact h.bS.ne hr jd), h.dO.frm k (fun x hx hx2 => by rw [zh] at hx2; subst hx2; exact h.dO.ne_blk hr jd hx), fun y hy => (h.bg y hy).frm k (fun x hx hx2 => by rw [zh] at hx2; subst hx2; exact (h.bg y hy).ne_blk hr jd hx)⟩
theorem qWh {l : List Er} {L : List Bb} (h : jJ l L) {i : Nat} (hi : i < L.length) (hm : ∀ j, j < i → (l.getD j er0).e.begins = []) (hne : (l.getD i er0).e.begins ≠ []) : (l.getD i er0).e.begins.getD 0 0 = 0 := by
 have h2 := mJ (i := 0) h i jo (fun m _ h4 => hm m jo)
 rw [zan] at h2
 rw [h.get hi] at hne ⊢
 dsimp only at hne ⊢
 have h3 : 0 < (chunkL (L.getD i b0).2).length := by
  rw [← cL _ (outM (L.take i)).length]
  exact List.length_pos_iff.2 hne
 rw [gU _ _ _ h3, h2]
 simp [outM]
theorem qWi {l : List Er} {L : List Bb} (h : jJ l L) (hm : ∀ j, j < L.length → (l.getD j er0).e.begins = []) : (outM L).length = 0 := by
 have h2 := mJ (i := 0) h L.length jo (fun m _ h4 => hm m jo)
 rw [zan, zbl] at h2
 rw [h2]
 simp [outM]
set_option maxHeartbeats 8000000 in
theorem qWj (g bn bc c : Nat) (bA A : Option Addr) (L : List Bb) (w : World) (hM : tM L) (hb : Blk w g 62 #[.slice bA bn bc, .slice none 0 0, .int .i64 ((0 : Nat) : Int)]) (hr : Rd w 1 A (bE L).length (NB (bE L))) :
  Calls Tryz.prog 25 #[.pointer (some ⟨g, 0, none⟩), .slice A (bE L).length c, .int .i64 (((outM L).length : Nat) : Int)] w fun e w' => e = .returned (.bool true) ∧ (∃ dA dc l, jJ l L ∧ Blk w' g 62 #[.slice bA bn bc, .slice dA l.length dc, .int .i64 (((outM L).length : Nat) : Int)] ∧ RdE w' dA l.length l ∧ l.length ≤ dc) ∧ Frm [g] w w' := by
 obtain ⟨hL, hpw, h1n, h64⟩ := hM
 have hdb := qRr L
 have hdl := qNu hL h64
 have hgl := hb.lt
 have hop0 : (bE L).drop 0 = qI L.length 2 ++ ((cV 0 L).flatMap fJ ++ qI (kO 0 L) 4) := by
  rw [zcd]
  unfold bE
  rw [zj]
 obtain ⟨hq0, hop1, hle1⟩ := uZ (wh := 0) hop0 (jo : L.length < 256 ^ 2) jo
 have hpe := qNv (L := L)
 have hoe := qZw hL h64
 refine VC.calls (nt := 149) (res := #[.tmp 6]) Tryz.func25 rfl Tryz.ntmps25 Tryz.results25 rfl ?_
 refine jS (jR (ja rfl (jO (jN (jv3 0 1 2 ?_)))))
 refine jS (jR (jM ?_))
 refine Ops.cl (jE1 Tryz.call40) (qVt A c _ (bE L) w rfl jo hr) rfl ?_
 rintro e w1 ⟨g1, B1, d1, rfl, hO, K, hu1⟩
 refine ⟨_, rfl, ?_⟩
 have hg1 : w.heap.size ≤ g1 := hu1 g1 jp
 have hb1 := hb.frm K jp
 refine ja rfl (jO (jN (jv3 0 2 7 ?_)))
 refine jS (jR (jM ?_))
 refine Ops.cl (jE2 Tryz.call41) (gL g1 B1 d1 (bE L) 0 0 0 2 _ jo jo jo jo hdb hO) rfl ?_
 rintro e w2 ⟨rfl, hO', hfw2⟩
 rw [hq0] at hO' ⊢
 dsimp only at hO'
 refine ⟨_, rfl, ?_⟩
 have hOb := hO.1
 have hO := hO'
 have hb2 := hb1.frm hfw2 (by simp; omega)
 have K := K.own hfw2 (by simp; omega)
 refine je (Run.convN _ rfl zab zx (by simp only [bmax]; omega)) (ja rfl (jO (jN (jv4 0 2 7 8 ?_))))
 refine jS (jR (jz 0 (jO (jN (jS (jS (jR (jm rfl (je (Run.minN L.length 64 L.length rfl rfl jo) ?_)))))))))
 refine jx .i64 0 ?_
 refine jO (jN (jv7 0 2 7 8 9 21 22 ?_))
 refine jB ?_
 refine VC.loop (σ := Nat × Nat × Option Addr × Nat × List Er) (fun s => [(0, .pointer (some ⟨g, 0, none⟩)), (2, .int .i64 (((outM L).length : Nat) : Int)), (7, .pointer (some ⟨g1, 0, none⟩)), (8, .int .i64 ((L.length : Nat) : Int)), (9, .int .i64 ((s.2.1 : Nat) : Int)), (21, .int .i64 ((L.length : Nat) : Int)), (22, .int .i64 ((s.1 : Nat) : Int))]) (fun s wr => s.1 ≤ L.length ∧ s.2.2.2.2.map Er.e = cV 0 (L.take s.1) ∧ s.2.1 ≤ (outM (L.take s.1)).length ∧ RdSt wr g bA bn bc s.2.2.1 s.2.2.2.1 s.2.2.2.2 ∧ jY wr g1 B1 d1 (bE L) (eD L s.1) 0 0 ∧ Frm [g] w wr ∧ ∀ x ∈ ob s.2.2.1, w.heap.size ≤ x) (fun s => L.length - s.1) (0, 0, none, 0, []) (js7 rfl rfl rfl rfl rfl rfl rfl) ⟨zas _, rfl, zas _, ⟨hb2, Own.nil _ _ _, jp⟩, hO, K.mono jp, by simp [ob]⟩ ?_
 rintro ⟨i, la, dA, dc, l⟩ wr ⟨hi, hl, hla, hR, hO, K, hdf⟩
 dsimp only at *
 have hll : l.length = i := by
  have := congrArg List.length hl
  rw [zu, kW, zi] at this
  omega
 have hoi : (outM (L.take i)).length ≤ 600000 := by
  have h5 := lR (L.take i) (fun x hx => hL x (zag hx))
  have h6 : (L.take i).length ≤ 64 := by rw [zi]; omega
  omega
 refine jS (jR (jb rfl rfl (Bin.lssN _ _) (jO (jN (jS ?_)))))
 refine jD rfl (fun hc1 => ?_) fun hc1 => ?_
 ·
  have hEA := qSq hc1
  obtain ⟨hy40, hyid, hyb⟩ := hL _ (pX hc1)
  have hcrc := mI (L.getD i b0).2
  obtain ⟨hq1, hop2, hle2⟩ := uZ (wh := 0) hEA (zat hyid jd) jo
  obtain ⟨hq2, hop3, hle3⟩ := uZ (wh := 0) hop2 (jo : (L.getD i b0).2.length < 256 ^ 2) jo
  obtain ⟨hq3, hop4, hle4⟩ := uZ (wh := 0) hop3 (jo : crcM (L.getD i b0).2 < 256 ^ 4) jo
  have hsw := qHc hc1
  have hes := qHd hc1
  have hca := qNt hc1
  have hcc := fI (L.getD i b0).2
  have hbz : eE L i 0 = (outM (L.take i)).length := by unfold eE; simp
  have hprev : 0 < i → (L.getD (i - 1) b0).1 < (L.getD i b0).1 := fun h0 => qHa hpw (i - 1) i jo hc1
  refine jQ (jN (jv7 0 2 7 8 9 21 22 ?_))
  refine jS (jB (jS (jR (jm rfl (ja rfl (jO (jN (jv8 0 2 7 8 9 10 21 22 ?_))))))))
  refine jS (jR (jM ?_))
  refine Ops.cl (jE2 Tryz.call41) (gL g1 B1 d1 (bE L) (eD L i) 0 0 8 _ jo jo jo jo hdb hO) rfl ?_
  rintro e w4 ⟨rfl, hO', hfw4⟩
  rw [hq1] at hO' ⊢
  dsimp only at hO'
  refine ⟨_, rfl, ?_⟩
  have hOb := hO.1
  have hO := hO'
  have hR := hR.oc hOb hfw4
  have K := K.trans hfw4 (by simp; omega)
  refine jM ?_
  refine Ops.cl (jE2 Tryz.call41) (gL g1 B1 d1 (bE L) (eD L i + 8) 0 0 2 _ jo jo jo jo hdb hO) rfl ?_
  rintro e w5 ⟨rfl, hO', hfw5⟩
  rw [hq2] at hO' ⊢
  dsimp only at hO'
  refine ⟨_, rfl, ?_⟩
  have hOb := hO.1
  have hO := hO'
  have hR := hR.oc hOb hfw5
  have K := K.trans hfw5 (by simp; omega)
  refine je (Run.convN _ rfl zab zx (by simp only [bmax]; omega)) (jM ?_)
  refine Ops.cl (jE2 Tryz.call41) (gL g1 B1 d1 (bE L) (eD L i + 8 + 2) 0 0 4 _ jo jo jo jo hdb hO) rfl ?_
  rintro e w6 ⟨rfl, hO', hfw6⟩
  rw [hq3] at hO' ⊢
  dsimp only at hO'
  refine ⟨_, rfl, ?_⟩
  have hOb := hO.1
  have hO := hO'
  have hR := hR.oc hOb hfw6
  have K := K.trans hfw6 (by simp; omega)
  have hOb := hO.1
  refine je (Run.convN _ rfl zab zfb (by simp only [bmax]; omega)) (je (Run.build (evs.cons rfl (evs.cons rfl (evs.cons rfl evs.nil))) nX (qQz).choose_spec.1 (qQz).choose_spec.2 rfl) ?_)
  refine Ops.m (qJ.alloc nX) rfl ?_
  rintro _ w7 ⟨rfl, hF7⟩
  refine Ops.st (qR.storeA rfl rfl zbm hF7.blk rfl (by intro v hv; exact EC_one [⟨⟨(L.getD i b0).1, (L.getD i b0).2.length, crcM (L.getD i b0).2, []⟩, none, 0⟩] v hv)) ?_
  rintro w8 ⟨hbx, hf8, hs8⟩
  have hbx : Blk w8 w6.heap.size 66 #[.int .u64 (((L.getD i b0).1 : Nat) : Int), .int .i64 (((L.getD i b0).2.length : Nat) : Int), .int .u32 ((crcM (L.getD i b0).2 : Nat) : Int), .slice none 0 0] := hbx
  have K2 : Frm [g1] w6 w8 := (hF7.frm.trans hf8 jp).mono jp
  have hO := (hO.frm hF7.frm jp).frm hf8 (fun x hx hx2 => by
   have h1 := hO.1.lt
   have h2 := hO.2.lt
   simp only [zh] at hx2
   rcases zcq.1 hx with h | h
   · omega
   have := h2 x h
   omega)
  have hR8 := hR.oc hOb K2
  have hRd := hR8.oc hO.1 ((qQ.drew w8).frm.mono (S := []) (T := [g1]) jp)
  have hbxd := hbx.drawn (qQ.drew w8)
  have hel2 : 0 < i → ∃ ad, dA = some ad ∧ w8.drew.cell? ((ad.add ((i - 1) * 4)).add 0) = some (.int .u64 (((L.getD (i - 1) b0).1 : Nat) : Int)) := fun h0 => by
   have hE : RdE w8.drew dA l.length l := ⟨rfl, hRd.dO.rd, fun x hx => (hRd.bg x hx).rd⟩
   obtain ⟨ad, h1, h2⟩ := hE.cell (jo : i - 1 < l.length)
   have h3 := h2 0 (.int .u64 (((l.getD (i - 1) er0).e.id : Nat) : Int)) rfl
   have h4 : (l.getD (i - 1) er0).e.id = (L.getD (i - 1) b0).1 := by
    have h5 := lT L 0 (i - 1) jo
    have h6 : (cV 0 L).getD (i - 1) en0 = (l.getD (i - 1) er0).e := by
     have h7 : (l.map Er.e)[i - 1]? = (cV 0 L)[i - 1]? := by
      rw [hl, oK, zao jo]
     rw [zc, ← h7, zbk, zc, za jo]
     rfl
    rw [← h6, h5]
   rw [h4] at h3
   exact ⟨ad, h1, h3⟩
  have hidp := fun h0 : 0 < i => (hL _ (pX (L := L) (i := i - 1) jo)).2.1
  generalize hyE : L.getD i b0 = y at *
  refine jO (jN (jv9 0 2 7 8 9 10 11 21 22 ?_))
  refine jS (jS ?_)
  refine VC.splitR [(0, .pointer (some ⟨g, 0, none⟩)), (2, .int .i64 (((outM L).length : Nat) : Int)), (7, .pointer (some ⟨g1, 0, none⟩)), (8, .int .i64 ((L.length : Nat) : Int)), (9, .int .i64 ((la : Nat) : Int)), (11, .pointer (some ⟨w6.heap.size, 0, none⟩)), (21, .int .i64 ((L.length : Nat) : Int)), (22, .int .i64 ((i : Nat) : Int))] (qQ w8) 54 (.bool (decide (4032 < y.2.length ∨ (0 < i ∧ y.1 ≤ (L.getD (i - 1) b0).1)))) ?_ ?_
  ·
   refine VC.still jK jK ?_
   refine qE (Run.fieldAddr rfl zaw rfl zd jd) ?_
   refine qE (Run.load rfl zg (hbxd.cell 1)) ?_
   refine qE (Run.bin rfl rfl (Bin.gtrN _ 4032)) ?_
   by_cases hs36 : 4032 < y.2.length
   ·
    refine qM ?_
    refine qU ?_
    refine qU ?_
    refine qU ?_
    refine qW.skU rfl rfl ?_
    refine qW.skU rfl rfl ?_
    refine qW.skU rfl rfl ?_
    refine qW.skU rfl rfl ?_
    refine qW.skU rfl rfl ?_
    refine qW.skU rfl rfl ?_
    refine qW.skU rfl rfl ?_
    refine qW.skU rfl rfl ?_
    refine qW.skU rfl rfl ?_
    refine qW.skU rfl rfl ?_
    refine qW.skU rfl rfl ?_
    refine qW.skU rfl rfl ?_
    refine qU ?_
    refine qE (Run.pickT rfl rfl au) ?_
    refine qW.nil ?_
    refine jN ⟨(js9 (jC (by first | (simp [*]; done) | (simp; omega))) rfl rfl rfl rfl rfl rfl rfl rfl), (qQ.drew _)⟩
   refine qM ?_
   refine qG (Run.mv rfl) ?_
   refine qG (Run.bin rfl rfl (Bin.gtrN _ 0)) ?_
   by_cases hs39 : 0 < i
   ·
    refine qG (Run.mv rfl) ?_
    refine qG (Run.fieldAddr rfl zaw rfl zbd jd) ?_
    refine qG (Run.load rfl zcc (hbxd.cell 0)) ?_
    refine qG (Run.mv rfl) ?_
    refine qG (Run.nilck rfl) ?_
    refine qG (Run.fieldAddr rfl zam rfl zby jd) ?_
    obtain ⟨ad, hdA, hc51⟩ := hel2 jo
    subst hdA
    refine qG (Run.load rfl zcr (hRd.bS.cell 1)) ?_
    refine qG (Run.mv rfl) ?_
    refine qG (Run.bin rfl rfl (Bin.sub_i64 _ 1 jo jo)) ?_
    refine qG (Run.indexS _ rfl rfl zax zbm jo) ?_
    refine qG (Run.fieldAddr rfl zaw rfl zbd jd) ?_
    refine qG (Run.load rfl zcc hc51) ?_
    refine qG (Run.bin rfl rfl (Bin.leqN _ _)) ?_
    by_cases hs52 : y.1 ≤ (L.getD (i - 1) b0).1
    ·
     refine qG (Run.pickT rfl rfl au) ?_
     refine qE (Run.pickF rfl rfl au) ?_
     refine qW.nil ?_
     refine jN ⟨(js9 (jC (by first | (simp [*]; done) | (simp; omega))) rfl rfl rfl rfl rfl rfl rfl rfl), (qQ.drew _)⟩
    refine qG (Run.pickT rfl rfl au) ?_
    refine qE (Run.pickF rfl rfl au) ?_
    refine qW.nil ?_
    refine jN ⟨(js9 (jC (by first | (simp [*]; done) | (simp; omega))) rfl rfl rfl rfl rfl rfl rfl rfl), (qQ.drew _)⟩
   refine qG (Run.mv rfl) ?_
   refine qU ?_
   refine qU ?_
   refine qU ?_
   refine qU ?_
   refine qU ?_
   refine qU ?_
   refine qU ?_
   refine qU ?_
   refine qU ?_
   refine qU ?_
   refine qU ?_
   refine qU ?_
   refine qG (Run.pickF rfl rfl au) ?_
   refine qE (Run.pickF rfl rfl au) ?_
   refine qW.nil ?_
   refine jN ⟨(js9 (jC (by first | (simp [*]; done) | (simp; omega))) rfl rfl rfl rfl rfl rfl rfl rfl), (qQ.drew _)⟩
  intro Γ w9 hΓ hd9
  refine jN (VC.sub _ hΓ ?_)
  refine VC.condF rfl (decide_eq_false (fun h => by rcases h with h | ⟨h, h2⟩; exact absurd hy40 jo; have := hprev h; omega)) ?_
  refine jQ (jN (jv8 0 2 7 8 9 11 21 22 ?_))
  refine jS (jS (jR (jf rfl zaw rfl zd ?_)))
  have hO := hO.frm (S := []) hd9.frm jp
  have hbx := hbx.drawn hd9
  have K2 := K2.drawn hd9
  have hR6 := hR
  have hOb6 := hOb
  have hbz0 : i = 0 → eE L i 0 = 0 := fun h => by subst h; unfold eE; simp [outM]
  have hdr0 : (bE L).drop (eD L i + 14 + 4 * 0) = ((dG (outM (L.take i)).length (chunkL y.2)).drop 0).flatMap (fun b => qI b 4) ++ (((cV 0 L).drop (i + 1)).flatMap fJ ++ qI (kO 0 L) 4) := hop4
  have hBl : (dG (outM (L.take i)).length (chunkL y.2)).length = (chunkL y.2).length := cL _ _
  generalize hBG : dG (outM (L.take i)).length (chunkL y.2) = BG at *
  generalize hRR : ((cV 0 L).drop (i + 1)).flatMap fJ ++ qI (kO 0 L) 4 = RR at *
  refine jl rfl zg (hbx.cell 1) ?_
  refine Ops.cl (jE1 Tryz.call42) (qJs y.2.length _ jo) rfl ?_
  rintro e _ ⟨rfl, rfl⟩
  refine ⟨_, rfl, ?_⟩
  rw [← hcc]
  refine jx .i64 0 ?_
  refine jO (jN (jv10 0 2 7 8 9 11 21 22 57 58 ?_))
  refine jB ?_
  refine VC.loop (σ := Nat × Nat × Option Addr × Nat) (fun s => [(0, .pointer (some ⟨g, 0, none⟩)), (2, .int .i64 (((outM L).length : Nat) : Int)), (7, .pointer (some ⟨g1, 0, none⟩)), (8, .int .i64 ((L.length : Nat) : Int)), (9, .int .i64 ((s.2.1 : Nat) : Int)), (11, .pointer (some ⟨w6.heap.size, 0, none⟩)), (21, .int .i64 ((L.length : Nat) : Int)), (22, .int .i64 ((i : Nat) : Int)), (57, .int .i64 (((chunkL y.2).length : Nat) : Int)), (58, .int .i64 ((s.1 : Nat) : Int))]) (fun s wr => s.1 ≤ (chunkL y.2).length ∧ s.2.1 ≤ eE L i s.1 ∧ Blk wr w6.heap.size 66 #[.int .u64 ((y.1 : Nat) : Int), .int .i64 ((y.2.length : Nat) : Int), .int .u32 ((crcM y.2 : Nat) : Int), .slice s.2.2.1 s.1 s.2.2.2] ∧ Own wr 3 1 s.2.2.1 s.1 s.2.2.2 (ZB (BG.take s.1)) ∧ jY wr g1 B1 d1 (bE L) (eD L i + 14 + 4 * s.1) 0 0 ∧ Frm [g1] w6 wr ∧ (∀ x ∈ ob s.2.2.1, w6.heap.size ≤ x) ∧ (bE L).drop (eD L i + 14 + 4 * s.1) = (BG.drop s.1).flatMap (fun b => qI b 4) ++ RR) (fun s => (chunkL y.2).length - s.1) (0, la, none, 0) (js10 rfl rfl rfl rfl rfl rfl rfl rfl rfl rfl) ⟨zas _, by rw [hbz]; exact hla, hbx, Own.nil _ _ _, hO, K2, by simp [ob], hdr0⟩ ?_
  rintro ⟨k, la2, xA, xc⟩ wr2 ⟨hk, hla2, hbx, hxO, hO, K2, hxf, hdr⟩
  dsimp only at *
  refine jS (jR (jb rfl rfl (Bin.lssN _ _) (jO (jN (jS ?_)))))
  refine jD rfl (fun hc3 => ?_) fun hc3 => ?_
  ·
   have hk3 : k < (chunkL (L.getD i b0).2).length := by rw [hyE]; exact hc3
   have hbs := qNr (L := L) (i := i) (k := k) hk3 RR
   have hbt := qNs (L := L) (i := i) (k := k) hk3
   rw [hyE, hBG] at hbs hbt
   rw [hbs] at hdr
   have hb6 := qRq hL h64 hc1 k
   obtain ⟨hqk, hopk, hlek⟩ := uZ (wh := 0) hdr (jo : eE L i k < 256 ^ 4) jo
   have hbsu := qHe (L := L) (i := i) (k := k) hk3
   refine jQ (jN (jv10 0 2 7 8 9 11 21 22 57 58 ?_))
   refine jS (jB (jS (jR (jM ?_))))
   refine Ops.cl (jE2 Tryz.call41) (gL g1 B1 d1 (bE L) (eD L i + 14 + 4 * k) 0 0 4 _ jo jo jo jo hdb hO) rfl ?_
   rintro e w10 ⟨rfl, hO', hfw10⟩
   rw [hqk] at hO' ⊢
   dsimp only at hO'
   refine ⟨_, rfl, ?_⟩
   have hOb := hO.1
   have hO := hO'
   have hbx := hbx.frm hfw10 (by simp; exact hbx.ne hOb jd)
   have hxO := hxO.frm hfw10 (fun x hx hx2 => by rw [zh] at hx2; subst hx2; exact hxO.ne_blk hOb jd hx)
   have K2 := K2.trans hfw10 jp
   have hR3 := hR6.oc hOb6 K2
   refine je (Run.convN _ rfl zab zx (by simp only [bmax]; omega)) (ja rfl (jO (jN (jv11 0 2 7 8 9 11 12 21 22 57 58 ?_))))
   refine jS (jS ?_)
   refine VC.split1 [(0, _), (2, _), (7, _), (8, _), (11, _), (12, _), (21, _), (22, _), (57, _), (58, _)] (js10 rfl rfl rfl rfl rfl rfl rfl rfl rfl rfl) 83 (.bool (decide (eE L i k < la2 ∨ ((k = 0 ∧ l.length = 0) ∧ eE L i k ≠ 0)))) ?_ ?_
   ·
    refine jR ?_
    refine jm rfl (jm rfl (jb rfl rfl (Bin.lssN _ _) ?_))
    by_cases hs65 : eE L i k < la2
    ·
     refine jM ?_
     refine jU ?_
     refine jU ?_
     refine jU ?_
     refine jU ?_
     refine jU ?_
     refine Ops.skU rfl rfl ?_
     refine Ops.skU rfl rfl ?_
     refine Ops.skU rfl rfl ?_
     refine Ops.skU rfl rfl ?_
     refine Ops.skU rfl rfl ?_
     refine Ops.skU rfl rfl ?_
     refine jU ?_
     refine jU ?_
     refine Ops.skU rfl rfl ?_
     refine Ops.skU rfl rfl ?_
     refine jU ?_
     refine je (Run.pickT rfl rfl au) (jO ?_)
     refine jN ⟨(js11 (jC (by first | exact (decide_eq_true jo).symm | exact (decide_eq_false jo).symm | exact decide_eq_decide.2 jo | exact decide_eq_decide.2 ⟨fun h => jo, fun h => jo⟩ | (simp [*]; done))) rfl rfl rfl rfl rfl rfl rfl rfl rfl rfl), rfl⟩
    refine jM ?_
    refine jk (Run.fieldAddr rfl zaw rfl zay jd) ?_
    refine jk (Run.load rfl zbu (hbx.cell 3)) ?_
    refine jk (Run.lenS rfl zf) ?_
    refine jk (Run.bin rfl rfl (Bin.eqlN _ 0)) ?_
    by_cases hs70 : k = 0
    ·
     refine jG ?_
     refine jG ?_
     refine jk (Run.nilck rfl) ?_
     refine jk (Run.fieldAddr rfl zam rfl zby jd) ?_
     refine jk (Run.load rfl zcr (hR3.bS.cell 1)) ?_
     refine jk (Run.lenS rfl zax) ?_
     refine jk (Run.bin rfl rfl (Bin.eqlN _ 0)) ?_
     by_cases hs77 : l.length = 0
     ·
      refine jk (Run.pickT rfl rfl au) ?_
      refine jG ?_
      refine jG ?_
      refine jk (Run.bin rfl rfl (Bin.neqN _ 0)) ?_
      by_cases hs81 : eE L i k ≠ 0
      ·
       refine jk (Run.pickT rfl rfl au) ?_
       refine je (Run.pickF rfl rfl au) (jO ?_)
       refine jN ⟨(js11 (jC (by first | exact (decide_eq_true jo).symm | exact (decide_eq_false jo).symm | exact decide_eq_decide.2 jo | exact decide_eq_decide.2 ⟨fun h => jo, fun h => jo⟩ | (simp [*]; done))) rfl rfl rfl rfl rfl rfl rfl rfl rfl rfl), rfl⟩
      refine jk (Run.pickT rfl rfl au) ?_
      refine je (Run.pickF rfl rfl au) (jO ?_)
      refine jN ⟨(js11 (jC (by first | exact (decide_eq_true jo).symm | exact (decide_eq_false jo).symm | exact decide_eq_decide.2 jo | exact decide_eq_decide.2 ⟨fun h => jo, fun h => jo⟩ | (simp [*]; done))) rfl rfl rfl rfl rfl rfl rfl rfl rfl rfl), rfl⟩
     refine jk (Run.pickT rfl rfl au) ?_
     refine jG ?_
     refine jU ?_
     refine jU ?_
     refine jk (Run.pickF rfl rfl au) ?_
     refine je (Run.pickF rfl rfl au) (jO ?_)
     refine jN ⟨(js11 (jC (by first | exact (decide_eq_true jo).symm | exact (decide_eq_false jo).symm | exact decide_eq_decide.2 jo | exact decide_eq_decide.2 ⟨fun h => jo, fun h => jo⟩ | (simp [*]; done))) rfl rfl rfl rfl rfl rfl rfl rfl rfl rfl), rfl⟩
    refine jG ?_
    refine jU ?_
    refine jU ?_
    refine jU ?_
    refine jU ?_
    refine jU ?_
    refine jU ?_
    refine jk (Run.pickF rfl rfl au) ?_
    refine jG ?_
    refine jU ?_
    refine jU ?_
    refine jk (Run.pickF rfl rfl au) ?_
    refine je (Run.pickF rfl rfl au) (jO ?_)
    refine jN ⟨(js11 (jC (by first | exact (decide_eq_true jo).symm | exact (decide_eq_false jo).symm | exact decide_eq_decide.2 jo | exact decide_eq_decide.2 ⟨fun h => jo, fun h => jo⟩ | (simp [*]; done))) rfl rfl rfl rfl rfl rfl rfl rfl rfl rfl), rfl⟩
   intro Γ hΓ
   refine jN (VC.sub _ hΓ ?_)
   refine VC.condF rfl (decide_eq_false (fun h => by rcases h with h | ⟨⟨h1, h2⟩, h3⟩; exact absurd hla2 jo; exact h3 (by rw [h1]; exact hbz0 jo))) ?_
   refine jQ (jN (jv10 0 2 7 8 11 12 21 22 57 58 ?_))
   refine jS (jR (jm rfl (ja rfl (jO (jN (jv11 0 2 7 8 9 11 12 21 22 57 58 ?_))))))
   refine jR (jf rfl zaw rfl zay (jl rfl zbu (hbx.cell 3) (jM ?_)))
   refine Ops.m (qJ.buildS1 rfl zf zd gF jd jd rfl rfl) rfl ?_
   rintro _ w11 ⟨rfl, hF11⟩
   have hrd11 : Rd w11 1 (some ⟨w10.heap.size, 0, none⟩) 1 (ZB [eE L i k]) := Rd.of_blk (n := 1) (size := 1) hF11.blk rfl
   have hxO := hxO.frm hF11.frm jp
   have hbx := hbx.frm hF11.frm jp
   have hO := hO.frm hF11.frm jp
   have K2 := K2.trans hF11.frm jp
   refine Ops.m (qJ.app rfl rfl zf (fT) rfl jd hxO hrd11 (qSn _) jo jo) rfl ?_
   rintro _ w12 ⟨xA2, xc2, rfl, hxO2, hf12, hob12⟩
   rw [show ZB (BG.take k) ++ ZB [eE L i k] = ZB (BG.take (k + 1)) by rw [hbt, qRm]; rfl] at hxO2
   have hbx := hbx.frm hf12 (hxO.ne_blk hbx jd)
   have hO := hO.frm hf12 (fun x hx hx2 => by
    rcases zcq.1 hx with h | h
    · subst h; exact hxO.ne_blk hO.1 jd hx2
    exact hxO.ne_own hO.2 jd x hx2 h)
   have hks := K2.size
   have K2 := K2.trans hf12 (fun x hx => .inr (hxf x hx))
   have hxf2 : ∀ x ∈ ob xA2, w6.heap.size ≤ x := fun x hx => by
    rcases hob12 with h | h
    · rw [h] at hx; exact hxf x hx
    rw [h, zh] at hx; omega
   refine jf rfl zaw rfl zay ?_
   refine Ops.st (qR.store rfl rfl zay hbx rfl rfl) ?_
   rintro w13 ⟨hbx2, hf13, hs13⟩
   have hxO2 := hxO2.frm hf13 (fun x hx hx2 => by rw [zh] at hx2; subst hx2; exact hxO2.ne_blk hbx jd hx)
   have hO := hO.frm hf13 (fun x hx hx2 => by
    rw [zh] at hx2
    subst hx2
    rcases zcq.1 hx with h | h
    · exact hbx.ne hO.1 jd h
    exact hO.2.ne_blk hbx jd h)
   have K2 := K2.trans hf13 jp
   have hO : jY w13 g1 B1 d1 (bE L) (eD L i + 14 + 4 * (k + 1)) 0 0 := hO
   have hopk : (bE L).drop (eD L i + 14 + 4 * (k + 1)) = (BG.drop (k + 1)).flatMap (fun b => qI b 4) ++ RR := hopk
   refine jO ?_
   refine qK (jN ?_)
   refine jv10 0 2 7 8 9 11 21 22 57 58 ?_
   refine jR (jb rfl rfl (Bin.add_i64 _ 1 jo) (jm rfl (jO ?_)))
   refine jN ⟨(k + 1, eE L i k, xA2, xc2), (js10 rfl rfl rfl rfl rfl rfl rfl rfl rfl rfl), ?_, ?_⟩
   · exact ⟨hc3, hbsu, hbx2, hxO2, hO, K2, hxf2, hopk⟩
   first | omega | (dsimp only; omega)
  have hkl : k = (chunkL y.2).length := jo
  subst hkl
  have hBt : BG.take (chunkL y.2).length = BG := zn jo
  rw [hBt] at hxO
  rw [← hBl] at hxO hbx
  have hR9 := hR6.oc hOb6 K2
  have K := K.trans K2 (by simp; omega)
  refine jX ?_
  refine qZ (qZ (qP ?_))
  refine jN (jv8 0 2 7 8 9 11 21 22 ?_)
  refine VC.heldL 10 (fun v => Blk v g 62 #[.slice bA bn bc, .slice dA l.length dc, .int .i64 ((0 : Nat) : Int)] ∧ Blk v w6.heap.size 66 #[.int .u64 ((y.1 : Nat) : Int), .int .i64 ((y.2.length : Nat) : Int), .int .u32 ((crcM y.2 : Nat) : Int), .slice xA BG.length xc]) jK ?_
  have hRd2 := hR9.oc hO.1 ((qQ.drew wr2).frm.mono (S := []) (T := [g1]) jp)
  have hbxd2 := hbx.drawn (qQ.drew wr2)
  have hO := hO.frm (S := []) (qQ.drew wr2).frm jp
  have K := K.drawn (qQ.drew wr2)
  have hxO := hxO.drawn (qQ.drew wr2)
  have hS : (fun v => Blk v g 62 #[.slice bA bn bc, .slice dA l.length dc, .int .i64 ((0 : Nat) : Int)] ∧ Blk v w6.heap.size 66 #[.int .u64 ((y.1 : Nat) : Int), .int .i64 ((y.2.length : Nat) : Int), .int .u32 ((crcM y.2 : Nat) : Int), .slice xA BG.length xc]) wr2.drew := ⟨hRd2.bS, hbxd2⟩
  refine jH 0 rfl hS (fun w0 hw0 => Run.mv rfl) ?_
  refine jH 1 rfl hS (fun w0 hw0 => Run.mv rfl) ?_
  refine jH 2 rfl hS (fun w0 hw0 => Run.nilck rfl) ?_
  refine jH 3 rfl hS (fun w0 hw0 => Run.fieldAddr rfl zam rfl zby jd) ?_
  refine jH 4 rfl hS (fun w0 hw0 => Run.load rfl zcr (hw0.1.cell 1)) ?_
  refine qV.r1 5 rfl jK hS (Run.loadA rfl Tryz.isAgg66 zbm hS.2.cells (by first | rfl | (simp; done))) trivial rfl rfl ?_
  refine qV.m 6 rfl jK (qJ.buildS1 rfl zax zbm nX jd jd rfl rfl) trivial rfl rfl ?_
  rintro _ w20 ⟨rfl, hF20⟩
  have hrd20 : Rd w20 4 (some ⟨wr2.drew.heap.size, 0, none⟩) 1 (EC [Er.mk ⟨y.1, y.2.length, crcM y.2, BG⟩ xA xc]) := Rd.of_blk (n := 1) (size := 4) hF20.blk rfl
  have hR20 := hRd2.oc hO.1 (hF20.frm.mono (S := []) (T := [g1]) jp)
  have hO := hO.frm hF20.frm jp
  have K := K.trans hF20.frm jp
  have hxO := hxO.frm hF20.frm jp
  have hbx20 := hbxd2.frm hF20.frm jp
  have hS := And.intro hR20.bS hbx20
  refine ⟨hS, ?_⟩
  refine qV.m 7 rfl jK (qJ.app rfl rfl zax (qR3) rfl jd hR20.dO hrd20 (EC_one _) jo jo) trivial rfl rfl ?_
  rintro _ w21 ⟨dA2, dc2, rfl, hd21, hf21, hob21⟩
  rw [← qG4] at hd21
  have hbS21 := hR20.bS.frm hf21 (hR20.dO.ne_blk hR20.bS jd)
  have hbg21 : ∀ x ∈ l, Own w21 3 1 x.A x.e.begins.length x.c (ZB x.e.begins) := fun x hx => (hR20.bg x hx).frm hf21 (fun z hz hz2 => hR20.dO.ne_own (hR20.bg x hx) jd z hz2 hz)
  have hxO21 := hxO.frm hf21 (fun z hz hz2 => hR20.dO.ne_own hxO jd z hz2 hz)
  have hO := hO.frm hf21 (fun x hx hx2 => by
   rcases zcq.1 hx with h | h
   · subst h; exact hR20.dO.ne_blk hO.1 jd hx2
   exact hR20.dO.ne_own hO.2 jd x hx2 h)
  have hks := K.size
  have K := K.trans hf21 (fun x hx => .inr (hdf x hx))
  have hdf2 : ∀ x ∈ ob dA2, w.heap.size ≤ x := fun x hx => by
   rcases hob21 with h | h
   · rw [h] at hx; exact hdf x hx
   rw [h, zh] at hx; omega
  have hS := And.intro hbS21 (hbx20.frm hf21 (fun h => by have := hR6.dO.lt _ h; omega))
  refine ⟨hS, ?_⟩
  refine qV.r1 8 rfl jK hS (Run.nilck rfl) trivial rfl rfl ?_
  refine qV.r1 9 rfl jK hS (Run.fieldAddr rfl zam rfl zby jd) trivial rfl rfl ?_
  refine qV.stL rfl jK (qR.store rfl rfl zby hS.1 rfl rfl) trivial rfl ?_
  rintro w22 ⟨hbS22, hf22, hs22⟩
  have hd22 := hd21.frm hf22 (fun x hx hx2 => by rw [zh] at hx2; subst hx2; exact hd21.ne_blk hbS21 jd hx)
  have hbg22 : ∀ x ∈ l, Own w22 3 1 x.A x.e.begins.length x.c (ZB x.e.begins) := fun x hx => (hbg21 x hx).frm hf22 (fun z hz hz2 => by rw [zh] at hz2; subst hz2; exact (hbg21 x hx).ne_blk hbS21 jd hz)
  have hxO22 := hxO21.frm hf22 (fun z hz hz2 => by rw [zh] at hz2; subst hz2; exact hxO21.ne_blk hbS21 jd hz)
  have hO := hO.frm hf22 (fun x hx hx2 => by
   rw [zh] at hx2
   subst hx2
   rcases zcq.1 hx with h | h
   · exact hbS21.ne hO.1 jd h
   exact hO.2.ne_blk hbS21 jd h)
  have K := K.trans hf22 jp
  rw [← hsw] at hO
  have hlN : (l ++ [Er.mk ⟨y.1, y.2.length, crcM y.2, BG⟩ xA xc]).length = l.length + 1 := jp
  have hR22 : RdSt w22 g bA bn bc dA2 dc2 (l ++ [Er.mk ⟨y.1, y.2.length, crcM y.2, BG⟩ xA xc]) := ⟨by rw [hlN]; exact hbS22, by rw [hlN]; exact hd22, fun x hx => by
   rcases List.mem_append.1 hx with h | h
   · exact hbg22 x h
   rw [zh] at h
   subst h
   exact hxO22⟩
  have hmp : (l ++ [Er.mk ⟨y.1, y.2.length, crcM y.2, BG⟩ xA xc]).map Er.e = cV 0 (L.take (i + 1)) := by rw [hes, zbx, hl]; rfl
  refine qV.done jK ?_
  refine qK (jN ?_)
  refine jv7 0 2 7 8 9 21 22 ?_
  refine jR (jb rfl rfl (Bin.add_i64 _ 1 jo) (jm rfl (jO ?_)))
  refine jN ⟨(i + 1, la2, dA2, dc2, l ++ [Er.mk ⟨y.1, y.2.length, crcM y.2, BG⟩ xA xc]), (js7 rfl rfl rfl rfl rfl rfl rfl), ?_, ?_⟩
  · exact ⟨hc1, hmp, by rw [← hca]; exact hla2, hR22, hO, K, hdf2⟩
  first | omega | (dsimp only; omega)
 obtain rfl : i = L.length := jo
 rw [zbl] at hl hla
 have htl : jJ l L := hl
 obtain ⟨hpe1, hpe2⟩ := hpe
 obtain ⟨hqE, hopE, hleE⟩ := uZ (wh := 0) hpe1 (jo : (outM L).length < 256 ^ 4) jo
 refine jX ?_
 refine qZ (qZ (qP ?_))
 refine jN (jv5 0 2 7 8 9 ?_)
 refine jS (jR (jm rfl (jM ?_)))
 refine Ops.cl (jE2 Tryz.call41) (gL g1 B1 d1 (bE L) (eD L L.length) 0 0 4 _ jo jo jo jo hdb hO) rfl ?_
 rintro e w30 ⟨rfl, hO', hfw30⟩
 rw [hqE] at hO' ⊢
 dsimp only at hO'
 refine ⟨_, rfl, ?_⟩
 have hOb := hO.1
 have hO := hO'
 have hR := hR.oc hOb hfw30
 have K := K.trans hfw30 (by simp; omega)
 refine je (Run.convN _ rfl zab zx (by simp only [bmax]; omega)) (je (Run.nilck rfl) (jf rfl zam rfl zd ?_))
 refine Ops.st (qR.store rfl rfl zd hR.bS rfl rfl) ?_
 rintro w31 ⟨hbS31, hf31, hs31⟩
 have hd31 := hR.dO.frm hf31 (fun x hx hx2 => by rw [zh] at hx2; subst hx2; exact hR.dO.ne_blk hR.bS jd hx)
 have hbg31 : ∀ x ∈ l, Own w31 3 1 x.A x.e.begins.length x.c (ZB x.e.begins) := fun x hx => (hR.bg x hx).frm hf31 (fun z hz hz2 => by rw [zh] at hz2; subst hz2; exact (hR.bg x hx).ne_blk hR.bS jd hz)
 have hO := hO.frm hf31 (fun x hx hx2 => by
  rw [zh] at hx2
  subst hx2
  rcases zcq.1 hx with h | h
  · exact hR.bS.ne hO.1 jd h
  exact hO.2.ne_blk hR.bS jd h)
 have K := K.trans hf31 jp
 have hno : ¬ ((0 : Nat) = 0 ∧ eD L L.length + 4 < (bE L).length) := by rw [hpe2]; omega
 refine jO (jN (jv5 0 2 7 8 9 ?_))
 refine jS (jR (jM ?_))
 refine Ops.cl (jE1 Tryz.call43) (qYu g1 B1 d1 (bE L) (eD L L.length + 4) 0 0 _ jo jo hO) rfl ?_
 rintro e w32 ⟨rfl, hd32⟩
 rw [if_neg hno, if_neg hno]
 refine ⟨_, rfl, ?_⟩
 have K := K.drawn hd32
 have hbS32 := hbS31.drawn hd32
 have hE32 : RdE w32 dA l.length l := ⟨rfl, (hd31.drawn hd32).rd, fun x hx => ((hbg31 x hx).drawn hd32).rd⟩
 have hqa : L.length = l.length := hll.symm
 have hqb : 0 < L.length := h1n
 refine jm rfl (je (Run.extract rfl rfl) (je (Run.extract rfl rfl) (ja rfl (ja rfl (jO (jN (jv5 0 2 8 9 13 ?_)))))))
 refine jS (jR (jm rfl (jb rfl rfl (Bin.eqlN _ 0) (jM ?_))))
 refine jG ?_
 refine jG ?_
 refine jk (Run.nilck rfl) ?_
 refine jk (Run.fieldAddr rfl zam rfl zby jd) ?_
 refine jk (Run.load rfl zcr (hbS32.cell 1)) ?_
 refine jk (Run.lenS rfl zax) ?_
 refine jk (Run.bin rfl rfl (Bin.eqlN _ _)) ?_
 refine je (Run.pickT rfl rfl au) (jM ?_)
 refine jG ?_
 refine jk (Run.bin rfl rfl (Bin.gtrN _ 0)) ?_
 refine je (Run.pickT rfl rfl au) (jM ?_)
 refine jG ?_
 refine jk (Run.nilck rfl) ?_
 refine jk (Run.fieldAddr rfl zam rfl zd jd) ?_
 refine jk (Run.load rfl zg (hbS32.cell 2)) ?_
 refine jG ?_
 refine jk (Run.bin rfl rfl (Bin.geqN _ _)) ?_
 refine je (Run.pickT rfl rfl au) (jM ?_)
 refine jG ?_
 refine jk (Run.nilck rfl) ?_
 refine jk (Run.fieldAddr rfl zam rfl zd jd) ?_
 refine jk (Run.load rfl zg (hbS32.cell 2)) ?_
 refine jG ?_
 refine jk (Run.bin rfl rfl (Bin.eqlN _ _)) ?_
 refine je (Run.pickT rfl rfl au) (jM ?_)
 refine jG ?_
 refine Ops.clg rfl au (jE1 Tryz.call44) (qWg g bn bc dc _ bA dA l _ hbS32 hE32 jo (fun i hi hm hne => qWh htl jo hm hne) (fun hm => qWi htl (fun j hj => hm j jo))) rfl ?_
 rintro e w33 ⟨rfl, hf33⟩
 refine ⟨_, rfl, ?_⟩
 refine je (Run.pickT rfl rfl au) (ja rfl (jO (jN (jv1 6 ?_))))
 refine jT ?_
 refine qC rfl ?_
 exact ⟨rfl, ⟨dA, dc, l, htl, hbS32.frm hf33 jp, hE32.frm hf33, hR.dO.le⟩, K.trans hf33 jp⟩
end
section
open Go.RowKit
def fO : List Nat := [115, 101, 97, 108]
theorem qZx {X p s : List Nat} {a v n : Nat} (h : X = p ++ (qI v n ++ s)) (ha : p.length = a) (hv : v < 256 ^ n) : numAt X a n = v := by
 subst ha
 unfold numAt
 rw [h, zeo, zbs (by rw [bN]; omega), zn (by rw [bN]; omega)]
 exact vQ n v hv
theorem qKx {X : List Nat} {L a n : Nat} (hL : X.length = L) (h : a + n ≤ L) : numV X a n = numAt X a n ∧ numE L a n = 0 := by
 subst hL
 have h1 : numE X.length a n = 0 := by
  unfold numE
  rw [if_neg jo, if_neg jo]
 refine ⟨?_, h1⟩
 unfold numV
 rw [if_pos h1]
theorem rR (L : List Bb) : (bF L).length = (bE L).length + 4 := by unfold bF; rw [zb, bN]
theorem uU (L : List Bb) : (segM L).length = (outM L).length + (bF L).length + 8 := by
 unfold segM
 simp only [zb, bN, zq, zct]
theorem rS {L : List Bb} (hL : ∀ x ∈ L, x.2.length ≤ 4032 ∧ x.1 < 18446744073709551616 ∧ ∀ b ∈ x.2, b < 256) (hn : L.length ≤ 64) :
  (segM L).drop ((segM L).length - 4) = fO ∧ numAt (segM L) ((segM L).length - 12) 4 = (outM L).length ∧ numAt (segM L) ((segM L).length - 8) 4 = crcM (bF L) ∧ ((segM L).drop (outM L).length).take ((segM L).length - 8 - (outM L).length) = bF L := by
 have hl := uU L
 have hd := rR L
 have ho := qZw hL hn
 have hc := mI (bF L)
 refine ⟨?_, ?_, ?_, ?_⟩
 ·
  have h1 : segM L = (outM L ++ bF L ++ qI (crcM (bF L)) 4) ++ fO := rfl
  have h2 : (outM L ++ bF L ++ qI (crcM (bF L)) 4).length = (segM L).length - 4 := by
   simp only [zb, bN]
   omega
  rw [← h2, h1, zeo]
 ·
  have h1 : segM L = (outM L ++ bE L) ++ (qI (outM L).length 4 ++ (qI (crcM (bF L)) 4 ++ fO)) := by
   show outM L ++ bF L ++ qI (crcM (bF L)) 4 ++ fO = _
   unfold bF
   rw [mZ]
   simp only [zj]
  exact qZx h1 (by rw [zb]; omega) jo
 ·
  have h1 : segM L = (outM L ++ bF L) ++ (qI (crcM (bF L)) 4 ++ fO) := by
   show outM L ++ bF L ++ qI (crcM (bF L)) 4 ++ fO = _
   simp only [zj]
  exact qZx h1 (by rw [zb]; omega) jo
 have h1 : segM L = outM L ++ (bF L ++ (qI (crcM (bF L)) 4 ++ fO)) := by
  show outM L ++ bF L ++ qI (crcM (bF L)) 4 ++ fO = _
  simp only [zj]
 rw [show (segM L).length - 8 - (outM L).length = (bF L).length by omega, h1, zeo, zgd]
theorem qHf (L : List Bb) : (bF L).take ((bF L).length - 4) = bE L := by
 rw [rR]
 unfold bF
 rw [show (bE L).length + 4 - 4 = (bE L).length by omega, zgd]
theorem qNw {l : List Nat} (h : ∀ b ∈ l, b < 256) : l.map UInt8.ofNat = [115, 101, 97, 108] ↔ l = fO := by
 constructor
 ·
  intro h3
  have h4 : (l.map UInt8.ofNat).map UInt8.toNat = l := by
   rw [zdg]
   conv => rhs; rw [← List.map_id l]
   apply zcx
   intro b hb
   have := h b hb
   show (UInt8.ofNat b).toNat = b
   rw [UInt8.toNat_ofNat']
   exact zde this
  rw [← h4, h3]
  rfl
 intro h1
 subst h1
 rfl
end
section
open Go.RowKit
theorem uB (B : Option Addr) (m c a : Nat) (X : List Nat) (L : List Bb) (w : World) (hX : X.length = m + 12) (hn : m ≤ 1000000) (hB : ∀ b ∈ X, b < 256) (hc : m + 12 ≤ c) (hr : Rd w 1 B (m + 12) (NB X)) (hM : tM L)
  (ha : numAt X m 4 = a) (han : a ≤ m) (hX2 : X.drop (m + 8) = fO → numAt X (m + 4) 4 = crcM ((X.drop a).take (m + 4 - a)) → X = segM L) :
  Calls Tryz.prog 11 #[.slice B (m + 12) c] w fun e w' => ∃ p k, e = .returned (.tuple #[.pointer p, .int .i64 ((k : Nat) : Int)]) ∧ Frm [] w w' ∧ ((X.drop (m + 8) = fO ∧ numAt X (m + 4) 4 = crcM ((X.drop a).take (m + 4 - a))) → ∃ g, p = some ⟨g, 0, none⟩ ∧ k = 0 ∧ vU w' g L) ∧ (¬ (X.drop (m + 8) = fO ∧ numAt X (m + 4) 4 = crcM ((X.drop a).take (m + 4 - a))) → p = none ∧ (k = 3 ∨ k = 9)) := by
 have K := Frm.refl [] w
 have hs4 : ∀ b ∈ X.drop (m + 8), b < 256 := fun b hb => hB b (zbn hb)
 have hsl : (X.drop (m + 8)).length = 4 := by rw [zp]; omega
 have hrs : Rd w 1 (cP B c (m + 8) 1) 4 (U8 ((X.drop (m + 8)).map UInt8.ofNat)) := by
  have h1 := hr.cut (l := m + 8) (r := m + 12) (cap := c) jo jo hc
  have h2 : ((NB X).drop ((m + 8) * 1)).take ((m + 12 - (m + 8)) * 1) = NB (X.drop (m + 8)) := by
   rw [zdm, zdm, show m + 12 - (m + 8) = 4 by omega, show (NB X).drop (m + 8) = NB (X.drop (m + 8)) by simp [NB, List.map_drop], zn (by simp [NB]; omega)]
  rw [h2, show m + 12 - (m + 8) = 4 by omega] at h1
  rw [← qSu _ hs4]
  exact h1
 have hsi := qNw hs4
 have hv1 := qKx (a := m) (n := 4) hX jo
 have hv2 := qKx (a := m + 4) (n := 4) hX jo
 rw [ha] at hv1
 have ho1 := fun W hW => sR B c (m + 12) m 4 X W hX jo jo jo jo hB hW
 have ho2 := fun W hW => sR B c (m + 12) (m + 4) 4 X W hX jo jo jo jo hB hW
 rw [hv1.1, hv1.2] at ho1
 rw [hv2.1, hv2.2] at ho2
 have hlt2 := vJ X hB (m + 4) 4
 have hdl : ((X.drop a).take (m + 4 - a)).length = m + 4 - a := by rw [zi, zp]; omega
 have hdb : ∀ b ∈ (X.drop a).take (m + 4 - a), b < 256 := fun b hb => hB b (zbn (zag hb))
 have hcr := mI ((X.drop a).take (m + 4 - a))
 generalize hsm : numAt X (m + 4) 4 = sm at *
 have hrd : Rd w 1 (cP B c a 1) (m + 4 - a) (NB ((X.drop a).take (m + 4 - a))) := by
  have h1 := oF X a (m + 4 - a) jo (by rw [hX]; exact hr) (by rw [hX]; exact hc)
  rw [hdl] at h1
  exact h1
 refine VC.calls (nt := 66) (res := #[.tmp 2, .tmp 3]) Tryz.func11 rfl Tryz.ntmps11 Tryz.results11 rfl ?_
 refine jS (jR (ja rfl (jz 0 (jO (jN (jv1 0 ?_))))))
 refine jS (jR (jm rfl (je (Run.lenS rfl ze) (jb rfl rfl (Bin.sub_i64 _ 12 jo jo) ?_))))
 rw [show m + 12 - 12 = m by omega]
 refine ja rfl (jO (jN (jv2 0 4 ?_)))
 refine jS (jS ?_)
 refine VC.split1 [(0, _), (4, _)] (js2 rfl rfl) 23 (.bool (decide (X.drop (m + 8) ≠ fO))) ?_ ?_
 ·
  refine jR ?_
  refine jm rfl (jb rfl rfl (Bin.lssN _ 0) ?_)
  by_cases hs15 : m < 0
  ·
   refine jM ?_
   refine jU ?_
   refine jU ?_
   refine jU ?_
   refine jU ?_
   refine jU ?_
   refine jU ?_
   refine je (Run.pickT rfl rfl au) (jO ?_)
   refine jN ⟨(js3 (jC (by first | exact decide_eq_decide.2 (not_congr hsi) | (simp; omega))) rfl rfl), rfl⟩
  refine jM ?_
  refine jG ?_
  refine jG ?_
  refine jk (Run.bin rfl rfl (Bin.add_i64 _ 8 jo)) ?_
  refine jk (Run.sliceS _ _ rfl ze zad (evB.some_ rfl) evB.none_ jo jo) ?_
  rw [show m + 12 - (m + 8) = 4 by omega]
  refine jk (Run.strOf rfl ze zbh Tryz.underlying9 hrs) ?_
  refine jk (Run.neqStr rfl rfl) ?_
  refine je (Run.pickF rfl rfl au) (jO ?_)
  refine jN ⟨(js3 (jC (by first | exact decide_eq_decide.2 (not_congr hsi) | (simp; omega))) rfl rfl), rfl⟩
 intro Γ hΓ
 refine jN (VC.sub _ hΓ ?_)
 refine jD rfl (fun hc1 => ?_) fun hc1 => ?_
 ·
  refine jS (jR (ja rfl (jz 3 (jO (jN (jv2 2 3 ?_))))))
  refine jT ?_
  refine qN (cG rfl rfl ?_)
  exact ⟨none, 3, rfl, K, fun h => absurd h.1 hc1, fun _ => ⟨rfl, .inl rfl⟩⟩
 refine jQ (jN (jv2 0 4 ?_))
 refine jS (jR (jm rfl (jM ?_)))
 refine Ops.cl (jE3 Tryz.call23) (ho1 _ hr) rfl ?_
 rintro e _ ⟨rfl, rfl⟩
 refine ⟨_, rfl, ?_⟩
 refine jm rfl (je (Run.extract rfl rfl) (je (Run.extract rfl rfl) (ja rfl (ja rfl (jO (jN (jv3 0 4 5 ?_)))))))
 refine jS (jS (jR (jm rfl (jm rfl (je (Run.convN _ rfl zx zab (by simp only [bmax]; omega)) (jb rfl rfl (Bin.gtrN _ _) (jO (jN (jv4 0 4 5 33 ?_)))))))))
 refine VC.condF rfl (decide_eq_false jo) ?_
 refine jQ (jN (jv3 0 4 5 ?_))
 refine jS (jR (jm rfl (jm rfl (jm rfl (jb rfl rfl (Bin.add_i64 _ 4 jo) (je (Run.sliceS _ _ rfl ze zad (evB.some_ rfl) (evB.some_ rfl) jo jo) (ja rfl (jO (jN (jv4 0 4 5 7 ?_))))))))))
 refine jS (jS (jR (jm rfl (jm rfl (jb rfl rfl (Bin.add_i64 _ 4 jo) ?_)))))
 refine Ops.cl (jE3 Tryz.call23) (ho2 _ hr) rfl ?_
 rintro e _ ⟨rfl, rfl⟩
 refine ⟨_, rfl, ?_⟩
 refine jm rfl (je (Run.extract rfl rfl) (je (Run.extract rfl rfl) (ja rfl (ja rfl (jO (jN (jv4 0 5 7 8 ?_)))))))
 refine jS (jR (jm rfl (je (Run.convN _ rfl zab zfb (by simp only [bmax]; omega)) (jM ?_))))
 refine Ops.cl (jE1 Tryz.call16) (sH (cP B c a 1) _ (m + 4 - a) ((X.drop a).take (m + 4 - a)) _ hdl jo hdb hrd) rfl ?_
 rintro e w1 ⟨rfl, K⟩
 refine ⟨_, rfl, ?_⟩
 refine jb rfl rfl (Bin.neqN _ _) (jO (jN (jv4 0 5 7 50 ?_)))
 refine jD rfl (fun hc3 => ?_) fun hc3 => ?_
 ·
  refine jS (jR (ja rfl (jz 9 (jO (jN (jv2 2 3 ?_))))))
  refine jT ?_
  refine qN (cG rfl rfl ?_)
  exact ⟨none, 9, rfl, K, fun h => absurd h.2 hc3, fun _ => ⟨rfl, .inr rfl⟩⟩
 refine jQ (jN (jv3 0 5 7 ?_))
 refine jS (jR (jM ?_))
 refine Ops.cl (jE1 Tryz.call24) (qJe B c (m + 12) X _ hX jo (hr.frm K jp)) rfl ?_
 rintro e w2 ⟨B2, c2, rfl, hb2, hf2, hob2⟩
 refine ⟨_, rfl, ?_⟩
 have K := K.trans hf2 jp
 have K2s := K.size
 refine je (Run.build (evs.cons rfl evs.nil) qR2 (qQy).choose_spec.1 (qQy).choose_spec.2 rfl) ?_
 refine Ops.m (qJ.box rfl) rfl ?_
 rintro _ w3 ⟨rfl, hF3⟩
 have K := K.trans hF3.frm jp
 have hXe := hX2 (Classical.not_not.1 hc1) jo
 obtain ⟨hL, _, _, h64⟩ := id hM
 obtain ⟨_, hp2, _, hp4⟩ := rS hL h64
 have hpl : (segM L).length = m + 12 := by rw [← hXe]; exact hX
 have hae : a = (outM L).length := by rw [← hp2, ← hXe, hX, show m + 12 - 12 = m by omega, ha]
 have hde : (X.drop a).take (m + 4 - a) = bF L := by rw [← hp4, ← hae, ← hXe, hX, show m + 12 - 8 = m + 4 by omega]
 have hdl2 := rR L
 have hks2 : w.heap.size ≤ w2.heap.size := K2s
 have hlq : m + 4 - a - 4 - 0 = (bE L).length := by rw [hde] at hdl; omega
 have hrq : Rd w3 1 (cP (cP B c a 1) (c - a) 0 1) (bE L).length (NB (bE L)) := by
  have h1 := (hrd.frm K jp).cut (l := 0) (r := m + 4 - a - 4) (cap := c - a) jo jo jo
  rw [hde] at hdl h1
  have h2 : ((NB (bF L)).drop (0 * 1)).take ((m + 4 - a - 4 - 0) * 1) = NB (bE L) := by
   rw [zff, zcd, zdm, show m + 4 - a - 4 - 0 = (bF L).length - 4 by omega, show (NB (bF L)).take ((bF L).length - 4) = NB ((bF L).take ((bF L).length - 4)) by simp [NB, zeg], qHf]
  rw [h2, hlq] at h1
  exact h1
 refine ja rfl (jO (jN (jv3 5 7 10 ?_)))
 refine jS (jS (jR (jm rfl (jm rfl (jm rfl (je (Run.lenS rfl ze) (jb rfl rfl (Bin.sub_i64 _ 4 jo jo) (je (Run.sliceS 0 _ rfl ze zad evB.none_ (evB.some_ rfl) jo jo) ?_))))))))
 rw [hlq]
 refine jm rfl (je (Run.convN _ rfl zab zx (by simp only [bmax]; omega)) ?_)
 have hrdd := qWj w2.heap.size (m + 12) c2 (c - a - 0) B2 (cP (cP B c a 1) (c - a) 0 1) L w3 hM hF3.blk hrq
 rw [← hae] at hrdd
 refine Ops.cl (jE3 Tryz.call25) (hrdd) rfl ?_
 rintro e w4 ⟨rfl, ⟨dA, dc, l, htl, hbS, hE, hdc⟩, hf4⟩
 refine ⟨_, rfl, ?_⟩
 have K := K.own hf4 (by simp; exact hks2)
 refine je (Run.not rfl) (jO (jN (jv2 10 64 ?_)))
 refine VC.condF rfl (rfl) ?_
 refine jQ (jN (jv1 10 ?_))
 refine jS (jR (jm rfl (ja rfl (jz 0 (jO (jN (jv2 2 3 ?_)))))))
 refine jT ?_
 refine cG rfl rfl ?_
 refine ⟨some ⟨w2.heap.size, 0, none⟩, 0, rfl, K, fun _ => ⟨_, rfl, rfl, B2, c2, dA, dc, l, ⟨?_, ?_, ?_, hE, hdc⟩, htl⟩, fun h => absurd ⟨Classical.not_not.1 hc1, Classical.not_not.1 hc3⟩ h⟩
 · rw [hpl, ← hae]; exact hbS
 · rw [hpl, ← hXe]; exact ((hb2.frm hF3.frm jp).frm hf4 (fun x hx hx2 => by rw [zh] at hx2; subst hx2; have := hb2.lt _ hx; omega)).rd
 rw [hpl]; exact hb2.le
end
section
open Go.RowKit
theorem qSr {w : World} {g e n : Nat} {cs : Array Value} {xs : List Value} (h : Fro w g e cs) (ht : cs.toList.take n = xs) (hl : xs.length = n) : Rd w 1 (some ⟨g, 0, none⟩) n xs := by
 refine ⟨jo, fun _ => ⟨_, rfl, h.lt, fun j u hu => ?_⟩⟩
 rw [kT, h.cell]
 rw [← ht] at hu
 have hj : j < n := by
  have := (List.getElem?_eq_some_iff.1 hu).1
  rw [zi] at this
  omega
 rw [zao hj] at hu
 rw [← hu, zgf]
end
section
open Go.RowKit
theorem qKy {l : List Bl} (h : fY l) : ∀ j i, i < j → j < l.length → (l.getD i bl0).id < (l.getD j bl0).id
 | 0, i, h1, _ => jo
 | j + 1, i, h1, h2 => by
  have h3 := (h.1 (j + 1) h2).2 jo
  rw [zfp] at h3
  by_cases h4 : i = j
  · subst h4; exact h3
  have := qKy h j i jo jo
  omega
theorem qWk {w : World} {A : Option Addr} {n : Nat} {l : List Bl} (hr : RdB w A n l) (h : fY l) : tM (l.map Bl.b) := by
 refine ⟨fun x hx => ?_, ?_, by rw [zu]; exact h.2.1, by rw [zu]; exact h.2.2⟩
 ·
  obtain ⟨y, hy, rfl⟩ := List.mem_map.1 hx
  obtain ⟨_, _, h3, h4, _⟩ := hr.el y hy
  obtain ⟨k, hk, rfl⟩ := zbc hy
  have := rM h hk
  rw [zc, za hk] at this
  exact ⟨this, h3, h4⟩
 rw [List.pairwise_iff_getElem]
 intro i j hi hj hij
 rw [zu] at hi hj
 have := qKy h j i hij hj
 rw [zc, zc, za hi, za hj] at this
 rw [zfh, zfh]
 exact this
theorem qN9 (L : List Bb) : (segM L).length = ((outM L).length + (bE L).length) + 12 := by
 rw [uU, rR]
 omega
theorem vB (B : Option Addr) (c : Nat) (L : List Bb) (w : World) (hM : tM L) (hc : (segM L).length ≤ c) (hr : Rd w 1 B (segM L).length (NB (segM L))) :
  Calls Tryz.prog 11 #[.slice B (segM L).length c] w fun e w' => ∃ g, e = .returned (.tuple #[.pointer (some ⟨g, 0, none⟩), .int .i64 ((0 : Nat) : Int)]) ∧ vU w' g L ∧ Frm [] w w' := by
 obtain ⟨hL, _, _, h64⟩ := id hM
 obtain ⟨h1, h2, h3, h4⟩ := rS hL h64
 have hl := qN9 L
 have hle := vT hL h64
 rw [hl, show (outM L).length + (bE L).length + 12 - 4 = (outM L).length + (bE L).length + 8 by omega] at h1
 rw [hl, show (outM L).length + (bE L).length + 12 - 12 = (outM L).length + (bE L).length by omega] at h2
 rw [hl, show (outM L).length + (bE L).length + 12 - 8 = (outM L).length + (bE L).length + 4 by omega] at h3 h4
 rw [hl] at hr hc ⊢
 rw [← h4] at h3
 refine (uB B ((outM L).length + (bE L).length) c (outM L).length (segM L) L w hl jo (yW hL) hc hr hM h2 jo (fun _ _ => rfl)).mono ?_
 rintro e w' ⟨p, k, rfl, hf, hy, _⟩
 obtain ⟨g, rfl, rfl, hg⟩ := hy ⟨h1, h3⟩
 exact ⟨g, rfl, hg, hf⟩
theorem qHg (g : Nat) (L : List Bb) (w : World) (hS : vU w g L) (hM : tM L) :
  Calls Tryz.prog 19 #[.pointer (some ⟨g, 0, none⟩)] w fun e w' => ∃ B d, e = .returned (.slice B L.length d) ∧ Rd w' 1 B L.length (UB (L.map fun x => x.1)) ∧ Frm [] w w' := by
 obtain ⟨bA, bc, dA, dc, l, hS, ht⟩ := hS
 obtain ⟨hL, _, _, h64⟩ := hM
 have hok := qN8 ht hL h64
 have hm : l.map (fun x => x.e.id) = L.map (fun x => x.1) := by
  apply List.ext_getElem
  · rw [zu, zu]; exact ht.len
  intro i h1 h2
  rw [zu] at h1 h2
  have := ht.get h2
  rw [zc, zc, za h1, za h2] at this
  simp only [zaz] at this
  rw [zfh, zfh, this]
 refine (qNj g bc dc _ bA dA (segM L) l w hS hok).mono ?_
 rintro e w' ⟨B, d, rfl, ho, hf, _⟩
 rw [hm] at ho
 rw [ht.len] at ho ⊢
 exact ⟨B, d, rfl, ho.rd, hf⟩
theorem uC (A : Option Addr) (n c : Nat) (l : List Bl) (w : World) (hn : n ≤ 1000000) (hr : RdB w A n l) (hmay : ¬ fY l) :
  Calls Tryz.prog 7 #[.slice A n c] w fun e w' => e = .returned (.tuple #[.slice none 0 0, .int .i64 ((1 : Nat) : Int)]) ∧ Frm [] w w' := by
 refine DV.calls (nt := 73) (res := #[.tmp 2, .tmp 3]) Tryz.func7 rfl Tryz.ntmps7 Tryz.results7 rfl ?_
 refine DV.seq ?_
 refine DV.vc ?_
 refine jR (ja rfl (jz 0 (jO ?_)))
 refine bI ?_
 refine DV.seq ?_
 refine DV.seq ?_
 refine DV.vc ?_
 refine jR (jM ?_)
 refine Ops.cl (jE1 Tryz.call14) (xY A n c l _ hn hr) rfl ?_
 rintro e w1 ⟨rfl, K⟩
 refine ⟨_, rfl, ?_⟩
 refine je (Run.not rfl) (jO ?_)
 refine bI ?_
 refine DV.sub [(0, _), (2, _), (3, _), (13, _)] (js4 rfl rfl rfl rfl) ?_
 refine DV.vc ?_
 refine VC.condT rfl (by simp [hmay]) ?_
 refine jS (jR (ja rfl (jz 1 (jO (jN (jv2 2 3 ?_))))))
 refine jT ?_
 refine qJ7 (sW jp jp (fun wz hsh => ?_))
 refine cG rfl rfl ?_
 exact ⟨rfl, K.trans hsh jp⟩
def la1 (A : Option Addr) (c : Nat) : List Bl := [⟨5, A, c, [97, 98, 99]⟩]
def la2 (A : Option Addr) (c : Nat) : List Bl := [⟨1, A, c, List.replicate 600 0⟩]
def la3 : List Bl := [⟨5, none, 0, []⟩, ⟨5, none, 0, []⟩]
theorem qRs (A : Option Addr) (c : Nat) : fY (la1 A c) := ⟨fun i hi => by
 obtain rfl : i = 0 := Nat.lt_one_iff.1 hi
 exact ⟨show 3 ≤ 4032 by omega, fun h => absurd h jo⟩, zk 1, show 1 ≤ 64 by omega⟩
theorem qRt (A : Option Addr) (c : Nat) : fY (la2 A c) := ⟨fun i hi => by
 obtain rfl : i = 0 := Nat.lt_one_iff.1 hi
 refine ⟨?_, fun h => absurd h jo⟩
 show (List.replicate 600 0).length ≤ 4032
 rw [zba]
 omega, zk 1, show 1 ≤ 64 by omega⟩
theorem qRu : ¬ fY la3 := fun h => by
 have : 5 < 5 := (h.1 1 (jo : 1 < 2)).2 jo
 omega
theorem gB (w : World) :
  Calls Tryz.prog 9 #[] w fun e w' => e = .returned (.bool true) ∧ Frm [] w w' := by
 have K := Frm.refl [] w
 refine VC.calls (nt := 151) (res := #[.tmp 0]) Tryz.func9 rfl Tryz.ntmps9 Tryz.results9 rfl ?_
 refine jS (jR (ja rfl (jO (jN ?_))))
 refine VC.sub [] .nil ?_
 refine jS (jR ?_)
 refine Ops.m (qJ.buildN (cells := #[.int .u8 97, .int .u8 98, .int .u8 99]) (evs.cons rfl (evs.cons rfl (evs.cons rfl evs.nil))) ze zad tU rfl rfl jK) rfl ?_
 rintro _ w1 ⟨rfl, hF1⟩
 have K := K.trans hF1.frm jp
 have hblk1 := hF1.blk
 refine Ops.m (qJ.mark rfl ze zbh hblk1) rfl ?_
 rintro _ w2 ⟨rfl, hfro2, hf2⟩
 have K := K.own hf2 jp
 refine je (Run.build (evs.cons rfl (evs.cons rfl evs.nil)) gY (gG).choose_spec.1 (gG).choose_spec.2 rfl) ?_
 refine Ops.m (qJ.buildS1 rfl zai zbw gY jd jd rfl rfl) rfl ?_
 rintro _ w3 ⟨rfl, hF3⟩
 have K := K.trans hF3.frm jp
 have hr3 : RdB w3 (some ⟨w2.heap.size, 0, none⟩) 1 (la1 (some ⟨w.heap.size, 0, none⟩) 3) := ⟨rfl, Rd.of_blk (n := 1) (size := 2) hF3.blk rfl, fun x hx => by
  obtain rfl : x = ⟨5, some ⟨w.heap.size, 0, none⟩, 3, [97, 98, 99]⟩ := zh.1 hx
  exact ⟨zk _, show 3 ≤ 1000000 by omega, show 5 < 18446744073709551616 by omega, show ∀ b ∈ [97, 98, 99], b < 256 by simp, qSr (hfro2.frm hF3.frm jp) rfl rfl⟩⟩
 have hm1 := qRs (some ⟨w.heap.size, 0, none⟩) 3
 have hM1 : tM [(5, [97, 98, 99])] := qWk hr3 hm1
 refine Ops.cl (jE1 Tryz.call7) (rN _ 1 1 (la1 (some ⟨w.heap.size, 0, none⟩) 3) _ jo hr3 hm1) rfl ?_
 rintro e w4 ⟨B1, e1, rfl, ho4, hf4, _⟩
 refine ⟨_, rfl, ?_⟩
 have K := K.trans hf4 jp
 refine jm rfl (je (Run.extract rfl rfl) (je (Run.extract rfl rfl) (ja rfl (ja rfl (jO (jN (jv2 1 2 ?_)))))))
 refine jS (jR (jM ?_))
 refine Ops.cl (jE1 Tryz.call11) (vB B1 e1 [(5, [97, 98, 99])] _ hM1 ho4.le ho4.rd) rfl ?_
 rintro e w5 ⟨g1, rfl, hs1, hf5⟩
 refine ⟨_, rfl, ?_⟩
 have K := K.trans hf5 jp
 refine jm rfl (je (Run.extract rfl rfl) (je (Run.extract rfl rfl) (ja rfl (ja rfl (jO (jN (jv3 2 3 4 ?_)))))))
 refine jS (jR ?_)
 refine Ops.m (qJ.makeS (n := 600) rfl rfl ze (dD) rfl jo jo) rfl ?_
 rintro _ w6 ⟨rfl, ho6, hf6, _⟩
 have K := K.trans hf6 jp
 have hs1 := hs1.frm hf6
 have hz6 : Rd w6 1 (some ⟨w5.heap.size, 0, none⟩) 600 (NB (List.replicate 600 0)) := by
  have h1 := ho6.rd
  have h2 : NB (List.replicate 600 0) = List.replicate 600 (.int .u8 0) := by simp [NB, List.map_replicate]
  rw [h2]
  exact h1
 refine je (Run.build (evs.cons rfl (evs.cons rfl evs.nil)) gY (gG).choose_spec.1 (gG).choose_spec.2 rfl) ?_
 refine Ops.m (qJ.buildS1 rfl zai zbw gY jd jd rfl rfl) rfl ?_
 rintro _ w7 ⟨rfl, hF7⟩
 have K := K.trans hF7.frm jp
 have hs1 := hs1.frm hF7.frm
 have hr7 : RdB w7 (some ⟨w6.heap.size, 0, none⟩) 1 (la2 (some ⟨w5.heap.size, 0, none⟩) 600) := ⟨rfl, Rd.of_blk (n := 1) (size := 2) hF7.blk rfl, fun x hx => by
  obtain rfl : x = ⟨1, some ⟨w5.heap.size, 0, none⟩, 600, List.replicate 600 0⟩ := zh.1 hx
  refine ⟨?_, ?_, show 1 < 18446744073709551616 by omega, fun b hb => ?_, ?_⟩
  · show (List.replicate 600 0).length ≤ 600; rw [zba]; omega
  · show (List.replicate 600 0).length ≤ 1000000; rw [zba]; omega
  · have := zfi hb; omega
  show Rd w7 1 _ (List.replicate 600 0).length _
  rw [zba]
  exact hz6.frm hF7.frm jp⟩
 have hm2 := qRt (some ⟨w5.heap.size, 0, none⟩) 600
 have hM2 : tM [(1, List.replicate 600 0)] := qWk hr7 hm2
 refine Ops.cl (jE1 Tryz.call7) (rN _ 1 1 (la2 (some ⟨w5.heap.size, 0, none⟩) 600) _ jo hr7 hm2) rfl ?_
 rintro e w8 ⟨B2, e2, rfl, ho8, hf8, _⟩
 refine ⟨_, rfl, ?_⟩
 have K := K.trans hf8 jp
 have hs1 := hs1.frm hf8
 refine jm rfl (je (Run.extract rfl rfl) (je (Run.extract rfl rfl) (ja rfl (ja rfl (jO (jN (jv5 2 3 4 5 6 ?_)))))))
 refine jS (jR (jM ?_))
 refine Ops.cl (jE1 Tryz.call11) (vB B2 e2 [(1, List.replicate 600 0)] _ hM2 ho8.le ho8.rd) rfl ?_
 rintro e w9 ⟨g2, rfl, hs2, hf9⟩
 refine ⟨_, rfl, ?_⟩
 have K := K.trans hf9 jp
 have hs1 := hs1.frm hf9
 refine jm rfl (je (Run.extract rfl rfl) (je (Run.extract rfl rfl) (ja rfl (ja rfl (jO (jN (jv6 2 3 4 6 7 8 ?_)))))))
 refine jS (jS (jR (jm rfl (je (Run.eqlNilP rfl rfl zhc) (jM ?_)))))
 refine jG ?_
 refine jk (Run.eqlNilP rfl rfl zhc) ?_
 refine je (Run.pick rfl rfl rfl) (jO (jN (jv7 2 3 4 6 7 8 51 ?_)))
 refine VC.condF rfl (rfl) ?_
 refine jQ (jN (jv6 2 3 4 6 7 8 ?_))
 refine jS (jR (jM ?_))
 refine Ops.cl (jE1 Tryz.call19) (qHg g1 _ _ hs1 hM1) rfl ?_
 rintro e w10 ⟨B3, e3, he, hr10, hf10⟩
 have he : e = .returned (.slice B3 1 e3) := he
 subst he
 refine ⟨_, rfl, ?_⟩
 have K := K.trans hf10 jp
 have hs1 := hs1.frm hf10
 have hs2 := hs2.frm hf10
 refine ja rfl (jO (jN (jv7 2 3 4 6 7 8 9 ?_)))
 refine jS (jR (jM ?_))
 have hsp := rP g1 0 1 9 [(5, [97, 98, 99])] w10 hs1 hM1 jd jo jo
 rw [show ((([(5, [97, 98, 99])] : List Bb).getD 0 b0).2.drop 1).take 9 = [98, 99] from rfl, show tS (([(5, [97, 98, 99])] : List Bb).getD 0 b0).2 1 9 = 1 from rfl] at hsp
 refine Ops.cl (jE4 Tryz.call13) (hsp) rfl ?_
 rintro e w11 ⟨B4, e4, he, hr11, hf11⟩
 have he : e = .returned (.tuple #[.slice B4 2 e4, .int .i64 ((1 : Nat) : Int), .int .i64 ((0 : Nat) : Int)]) := he
 subst he
 have hr11 : Rd w11 1 B4 2 (U8 [98, 99]) := hr11
 refine ⟨_, rfl, ?_⟩
 have K := K.trans hf11 jp
 have hs2 := hs2.frm hf11
 have hr10 := hr10.frm hf11 jp
 refine jm rfl (je (Run.extract rfl rfl) (je (Run.extract rfl rfl) (je (Run.extract rfl rfl) (ja rfl (ja rfl (ja rfl (jO (jN (jv9 2 4 6 7 8 9 10 11 12 ?_)))))))))
 refine jS (jR (jM ?_))
 have hsp := rP g2 0 250 10 [(1, List.replicate 600 0)] w11 hs2 hM2 jd jo jo
 rw [show (([(1, List.replicate 600 0)] : List Bb).getD 0 b0).2 = List.replicate 600 0 from rfl, show ((List.replicate 600 0).drop 250).take 10 = List.replicate 10 0 by rw [List.drop_replicate, List.take_replicate]; rfl, show tS (List.replicate 600 0) 250 10 = 2 by unfold tS; rw [zba]; rfl] at hsp
 refine Ops.cl (jE4 Tryz.call13) (hsp) rfl ?_
 rintro e w12 ⟨B5, e5, he, hr12, hf12⟩
 have he : e = .returned (.tuple #[.slice B5 10 e5, .int .i64 ((2 : Nat) : Int), .int .i64 ((0 : Nat) : Int)]) := he
 subst he
 refine ⟨_, rfl, ?_⟩
 have K := K.trans hf12 jp
 have hs2 := hs2.frm hf12
 have hr10 := hr10.frm hf12 jp
 have hr11 := hr11.frm hf12 jp
 refine jm rfl (je (Run.extract rfl rfl) (je (Run.extract rfl rfl) (je (Run.extract rfl rfl) (ja rfl (ja rfl (ja rfl (jO (jN (jv12 2 4 6 7 8 9 10 11 12 13 14 15 ?_)))))))))
 refine jS (jR (jM ?_))
 have hsp := rP g2 0 600 5 [(1, List.replicate 600 0)] w12 hs2 hM2 jd jo jo
 rw [show (([(1, List.replicate 600 0)] : List Bb).getD 0 b0).2 = List.replicate 600 0 from rfl, show ((List.replicate 600 0).drop 600).take 5 = [] by rw [List.drop_replicate, List.take_replicate]; rfl, show tS (List.replicate 600 0) 600 5 = 0 by unfold tS; rw [zba]; rfl] at hsp
 refine Ops.cl (jE4 Tryz.call13) (hsp) rfl ?_
 rintro e w13 ⟨B6, e6, he, hr13, hf13⟩
 have he : e = .returned (.tuple #[.slice B6 0 e6, .int .i64 ((0 : Nat) : Int), .int .i64 ((0 : Nat) : Int)]) := he
 subst he
 refine ⟨_, rfl, ?_⟩
 have K := K.trans hf13 jp
 have hr10 := hr10.frm hf13 jp
 have hr11 := hr11.frm hf13 jp
 refine jm rfl (je (Run.extract rfl rfl) (je (Run.extract rfl rfl) (je (Run.extract rfl rfl) (ja rfl (ja rfl (ja rfl (jO (jN (jv14 2 4 6 8 9 10 11 12 13 14 15 16 17 18 ?_)))))))))
 refine jS (jR (je (Run.build (evs.cons rfl evs.nil) gY (gG).choose_spec.1 (gG).choose_spec.2 rfl) (je (Run.build (evs.cons rfl evs.nil) gY (gG).choose_spec.1 (gG).choose_spec.2 rfl) ?_)))
 refine Ops.m (qJ.buildN (cells := #[.int .u64 5, .slice none 0 0, .int .u64 5, .slice none 0 0]) (evs.cons rfl (evs.cons rfl evs.nil)) zai zbw gY rfl rfl jK) rfl ?_
 rintro _ w14 ⟨rfl, hF14⟩
 have K := K.trans hF14.frm jp
 have hr14 : RdB w14 (some ⟨w13.heap.size, 0, none⟩) 2 la3 := ⟨rfl, Rd.of_blk (n := 2) (size := 2) hF14.blk rfl, fun x hx => by
  obtain rfl : x = ⟨5, none, 0, []⟩ := by
   rcases zcq.1 hx with h | h
   · exact h
   exact zh.1 h
  exact ⟨zk _, show 0 ≤ 1000000 by omega, show 5 < 18446744073709551616 by omega, show ∀ b ∈ [], b < 256 by simp, Rd.nil _ _ _⟩⟩
 have hr10 := hr10.frm hF14.frm jp
 have hr11 := hr11.frm hF14.frm jp
 refine Ops.cl (jE1 Tryz.call7) (uC _ 2 2 la3 _ jo hr14 qRu) rfl ?_
 rintro e w15 ⟨rfl, hf15⟩
 refine ⟨_, rfl, ?_⟩
 have K := K.trans hf15 jp
 have hr10 := hr10.frm hf15 jp
 have hr11 := hr11.frm hf15 jp
 refine jm rfl (je (Run.extract rfl rfl) (je (Run.extract rfl rfl) (ja rfl (ja rfl (jO (jN (jv15 2 4 6 8 9 10 11 12 13 14 15 16 17 18 20 ?_)))))))
 refine jS (jR (jm rfl (jb rfl rfl (Bin.eqlN _ 0) (jM ?_))))
 refine jG ?_
 refine jk (Run.bin rfl rfl (Bin.eqlN _ 0)) ?_
 refine je (Run.pickT rfl rfl au) (jM ?_)
 refine jG ?_
 refine jk (Run.bin rfl rfl (Bin.eqlN _ 0)) ?_
 refine je (Run.pickT rfl rfl au) (jM ?_)
 refine jG ?_
 refine jk (Run.bin rfl rfl (Bin.eqlN _ 0)) ?_
 refine je (Run.pickT rfl rfl au) (jM ?_)
 refine jG ?_
 refine jk (Run.lenS rfl zhb) ?_
 refine jk (Run.bin rfl rfl (Bin.eqlN _ 1)) ?_
 refine je (Run.pickT rfl rfl au) (jM ?_)
 refine jG ?_
 obtain ⟨ad, u, hA, hu, hce⟩ := hr10.at1 (jo : 0 < 1)
 have hu : u = .int .u64 ((5 : Nat) : Int) := (Option.some.inj hu).symm
 subst hA hu
 refine jk (Run.index1 0 rfl rfl zhb zbd jo) ?_
 refine jk (Run.load rfl zcc hce) ?_
 refine jk (Run.bin rfl rfl (Bin.eqlN _ 5)) ?_
 refine je (Run.pickT rfl rfl au) (jM ?_)
 refine jG ?_
 refine jk (Run.strOf rfl ze zbh Tryz.underlying9 hr11) ?_
 refine jk (Run.eqlStr rfl rfl) ?_
 refine je (Run.pickT rfl rfl au) (jM ?_)
 refine jG ?_
 refine jk (Run.bin rfl rfl (Bin.eqlN _ 1)) ?_
 refine je (Run.pickT rfl rfl au) (jM ?_)
 refine jG ?_
 refine jk (Run.bin rfl rfl (Bin.eqlN _ 0)) ?_
 refine je (Run.pickT rfl rfl au) (jM ?_)
 refine jG ?_
 refine jk (Run.lenS rfl ze) ?_
 refine jk (Run.bin rfl rfl (Bin.eqlN _ 10)) ?_
 refine je (Run.pickT rfl rfl au) (jM ?_)
 refine jG ?_
 refine jk (Run.bin rfl rfl (Bin.eqlN _ 2)) ?_
 refine je (Run.pickT rfl rfl au) (jM ?_)
 refine jG ?_
 refine jk (Run.bin rfl rfl (Bin.eqlN _ 0)) ?_
 refine je (Run.pickT rfl rfl au) (jM ?_)
 refine jG ?_
 refine jk (Run.lenS rfl ze) ?_
 refine jk (Run.bin rfl rfl (Bin.eqlN _ 0)) ?_
 refine je (Run.pickT rfl rfl au) (jM ?_)
 refine jG ?_
 refine jk (Run.bin rfl rfl (Bin.eqlN _ 0)) ?_
 refine je (Run.pickT rfl rfl au) (jM ?_)
 refine jG ?_
 refine jk (Run.bin rfl rfl (Bin.eqlN _ 0)) ?_
 refine je (Run.pickT rfl rfl au) (jM ?_)
 refine jG ?_
 refine jk (Run.bin rfl rfl (Bin.eqlN _ 1)) ?_
 refine je (Run.pickT rfl rfl au) (jm rfl (je (Run.pickT rfl rfl au) (jm rfl (je (Run.pickT rfl rfl au) (ja rfl (jO (jN (jv1 0 ?_))))))))
 refine jT ?_
 refine qC rfl ?_
 exact ⟨rfl, K⟩
end
end Go.Proofs.YtndjgmbfkkgpdaaGreat
