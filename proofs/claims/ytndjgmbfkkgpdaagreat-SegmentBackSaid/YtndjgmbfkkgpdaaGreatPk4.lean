/-
  Lemmas on the way, joined: BackB, BackC, DefK, RefN, RefO, RefT, BackD, SegP, SegW, Eng16, SegB, Eng17, SegS, SegC, SegT, SegF, SegU, SegD, SegV, SegO, SegR, SegX.
-/
import Derived.Lib.AppendStr
import Derived.ArgAppend
import Derived.Test.YtndjgmbfkkgpdaaGreatPk3
set_option maxRecDepth 100000
set_option linter.unusedVariables false
set_option linter.unusedSimpArgs false
namespace Go.Proofs.YtndjgmbfkkgpdaaGreat
section
open Go.RowKit
theorem eR {l : List Int} {i : Nat} (h : l.getD i 0 ≠ 0) : i < l.length := by
 by_cases hi : i < l.length
 · exact hi
 rw [zc, zr jo] at h
 exact absurd rfl h
theorem qM3 {L A C : List Bool} {a b : List Int} {s most p : Nat} {out : List Nat} (ha : ROk a) (hs : s < 256) (h0 : a.getD s 0 ≠ 0) (hL : L = A ++ bK a s ++ C) (hp : p = A.length) (ho : out.length < most) :
  eA L a b most p out = .ok (true, p + (bK a s).length, out ++ [s]) := by
 have h := (gN ha (eR h0) h0 ⟨A, C, hL, hp⟩).1
 unfold eA
 rw [h, qS]
 dsimp only
 rw [if_pos hs, if_pos ho]
theorem qM4 {L A C : List Bool} {a b : List Int} {most p : Nat} {out : List Nat} (ha : ROk a) (h0 : a.getD 256 0 ≠ 0) (hL : L = A ++ bK a 256 ++ C) (hp : p = A.length) :
  eA L a b most p out = .ok (false, p + (bK a 256).length, out) := by
 have h := (gN ha (eR h0) h0 ⟨A, C, hL, hp⟩).1
 unfold eA
 rw [h, qS]
 rfl
theorem qV3 {L A C : List Bool} {a b : List Int} {n d most p : Nat} {out : List Nat} (ha : ROk a) (hb : ROk b) (h3 : 3 ≤ n) (h4 : n ≤ 258) (h5 : 1 ≤ d) (h6 : d ≤ 32768) (h0 : a.getD (257 + lenS n) 0 ≠ 0) (h1 : b.getD (wayS d) 0 ≠ 0)
  (hL : L = A ++ (lW a n ++ mJ b d) ++ C) (hp : p = A.length) (hd : d ≤ out.length) (ho : out.length + n ≤ most) :
  eA L a b most p out = .ok (true, p + (lW a n ++ mJ b d).length, cF n d out) := by
 obtain ⟨l1, l2, l3, _⟩ := gF h3 h4
 obtain ⟨w1, w2, w3, _⟩ := gA h5 h6
 unfold lW mJ at hL ⊢
 generalize hk1 : bK a (257 + lenS n) = k1 at hL
 generalize hk2 : bK b (wayS d) = k2 at hL
 have hs1 := (gN ha (eR h0) h0 (L := L) (p := p) ⟨A, bitsL (n - (longT.getD (lenS n) (0, 0)).1) (longT.getD (lenS n) (0, 0)).2 ++ k2 ++ bitsL (d - (wayT.getD (wayS d) (0, 0)).1) (wayT.getD (wayS d) (0, 0)).2 ++ C, by rw [hL, hk1]; simp only [zi], hp⟩).1
 rw [hk1] at hs1
 have ht1 : bZ L (longT.getD (lenS n) (0, 0)).2 (p + k1.length) = .ok (n - (longT.getD (lenS n) (0, 0)).1, p + k1.length + (longT.getD (lenS n) (0, 0)).2) := by
  have := dS (L := L) (A := A ++ k1) (B := bitsL (n - (longT.getD (lenS n) (0, 0)).1) (longT.getD (lenS n) (0, 0)).2) (n := (longT.getD (lenS n) (0, 0)).2) (p := p + k1.length) ⟨k2 ++ bitsL (d - (wayT.getD (wayS d) (0, 0)).1) (wayT.getD (wayS d) (0, 0)).2 ++ C, by rw [hL]; simp only [zi]⟩ (by rw [qH]) (by rw [zb, hp])
  rw [eY _ _ l3] at this
  exact this
 have hs2 := (gN hb (eR h1) h1 (L := L) (p := p + k1.length + (longT.getD (lenS n) (0, 0)).2) ⟨A ++ k1 ++ bitsL (n - (longT.getD (lenS n) (0, 0)).1) (longT.getD (lenS n) (0, 0)).2, bitsL (d - (wayT.getD (wayS d) (0, 0)).1) (wayT.getD (wayS d) (0, 0)).2 ++ C, by rw [hL, hk2]; simp only [zi], by rw [zb, zb, qH, hp]⟩).1
 rw [hk2] at hs2
 have ht2 : bZ L (wayT.getD (wayS d) (0, 0)).2 (p + k1.length + (longT.getD (lenS n) (0, 0)).2 + k2.length) = .ok (d - (wayT.getD (wayS d) (0, 0)).1, p + k1.length + (longT.getD (lenS n) (0, 0)).2 + k2.length + (wayT.getD (wayS d) (0, 0)).2) := by
  have := dS (L := L) (A := A ++ k1 ++ bitsL (n - (longT.getD (lenS n) (0, 0)).1) (longT.getD (lenS n) (0, 0)).2 ++ k2) (B := bitsL (d - (wayT.getD (wayS d) (0, 0)).1) (wayT.getD (wayS d) (0, 0)).2) (n := (wayT.getD (wayS d) (0, 0)).2) (p := p + k1.length + (longT.getD (lenS n) (0, 0)).2 + k2.length) ⟨C, by rw [hL]; simp only [zi]⟩ (by rw [qH]) (by simp only [zb, qH, hp])
  rw [eY _ _ w3] at this
  exact this
 have e1 : 257 + lenS n - 257 = lenS n := jo
 have e2 : (longT.getD (lenS n) (0, 0)).1 + (n - (longT.getD (lenS n) (0, 0)).1) = n := jo
 have e3 : (wayT.getD (wayS d) (0, 0)).1 + (d - (wayT.getD (wayS d) (0, 0)).1) = d := jo
 unfold eA
 rw [hs1, qS]
 dsimp only
 rw [if_neg jo, if_neg jo, if_neg jo, e1, ht1, qS]
 dsimp only
 rw [hs2, qS]
 dsimp only
 rw [if_neg jo, ht2, qS]
 dsimp only
 rw [e2, e3, if_neg jo, if_neg jo]
 simp only [zb, qH, zee]
theorem zS {bs : List Nat} {d : Nat} (hd : 1 ≤ d) : ∀ n a, d ≤ a → a + n ≤ bs.length → (∀ j, j < n → bs.getD (a - d + j) 0 = bs.getD (a + j) 0) → cF n d (bs.take a) = bs.take (a + n)
 | 0, a, _, _, _ => rfl
 | n + 1, a, h1, h2, h3 => by
  have hl : (bs.take a).length = a := by rw [zj]; omega
  have e : (bs.take a).getD (a - d) 0 = bs.getD a 0 := by
   rw [zc, zap jo, ← zc]
   have := h3 0 jo
   rw [zdi, zdi] at this
   exact this
  rw [cF, hl, e, ← rM (L := bs) jo, zS hd n (a + 1) jo jo (fun j hj => by
   have := h3 (j + 1) jo
   rw [show a + 1 - d + j = a - d + (j + 1) by omega, show a + 1 + j = a + (j + 1) by omega]
   exact this), show a + 1 + n = a + (n + 1) by omega]
def tK (a b : List Int) (t : Tk) : Prop := if t.2.1 = 0 then a.getD t.1 0 ≠ 0 else a.getD (257 + lenS t.2.1) 0 ≠ 0 ∧ b.getD (wayS t.2.2) 0 ≠ 0
theorem oP {bs : List Nat} {c1 c2 : List Int} (hl : bs.length ≤ 32768) (hB : ∀ b ∈ bs, b < 256) (h1 : ROk c1) (h2 : ROk c2) (h0 : c1.getD 256 0 ≠ 0) :
  ∀ m a f (L A C : List Bool) p, bs.length - a ≤ m → a ≤ bs.length → (∀ t ∈ bJ bs a, tK c1 c2 t) → L = A ++ cN c1 c2 (bJ bs a) ++ C → p = A.length → (bJ bs a).length < f →
   dQ L c1 c2 bs.length f p (bs.take a) = .ok (p + (cN c1 c2 (bJ bs a)).length, bs)
 | m, a, 0, L, A, C, p, _, _, _, _, _, hf => jo
 | m, a, f + 1, L, A, C, p, hm, ha, hu, hL, hp, hf => by
  by_cases hend : a = bs.length
  ·
   rw [qQ9 bs a jo] at hL ⊢
   have ht : cN c1 c2 [] = bK c1 256 := rfl
   rw [ht] at hL ⊢
   rw [dQ, qM4 h1 h0 hL hp, qS]
   dsimp only
   rw [zm jo]
   rfl
  have ha2 : a < bs.length := jo
  have htl : (bs.take a).length = a := by rw [zj]; omega
  cases m with
  | zero => omega
  | succ m =>
   by_cases hbm : (qO bs a).1 = 0
   ·
    rw [qXa bs a ha2 hbm] at hu hL hf ⊢
    have hu0 := hu _ zbo
    have htb : gX c1 c2 (bs.getD a 0, 0, 0) = bK c1 (bs.getD a 0) := rfl
    have htt : cN c1 c2 ((bs.getD a 0, 0, 0) :: bJ bs (a + 1)) = bK c1 (bs.getD a 0) ++ cN c1 c2 (bJ bs (a + 1)) := by
     unfold cN
     rw [zn, htb, zi]
    rw [htt] at hL ⊢
    have hx := qM3 (b := c2) (most := bs.length) (out := bs.take a) h1 (kH hB a) hu0 (show L = A ++ bK c1 (bs.getD a 0) ++ (cN c1 c2 (bJ bs (a + 1)) ++ C) by rw [hL]; simp only [zi]) hp jo
    rw [dQ, hx, qS]
    dsimp only
    rw [← rM (L := bs) ha2, if_pos rfl, oP hl hB h1 h2 h0 m (a + 1) f L (A ++ bK c1 (bs.getD a 0)) C _ jo jo (fun t ht => hu t (zbs _ ht)) (by rw [hL]; simp only [zi]) (by rw [hp]; simp only [zb]) (by simpa using hf)]
    rw [zb, zee]
   rcases lT bs a jo with h3 | ⟨h3, h4, h5, h6, h7, h8⟩
   · rw [h3] at hbm; exact absurd rfl hbm
   rw [vF bs a ha2 hbm] at hu hL hf ⊢
   have hu0 := hu _ zbo
   unfold tK at hu0
   rw [if_neg hbm] at hu0
   have htb : gX c1 c2 (0, (qO bs a).1, (qO bs a).2) = lW c1 (qO bs a).1 ++ mJ c2 (qO bs a).2 := by unfold gX; rw [if_neg hbm]
   have htt : cN c1 c2 ((0, (qO bs a).1, (qO bs a).2) :: bJ bs (a + (qO bs a).1)) = (lW c1 (qO bs a).1 ++ mJ c2 (qO bs a).2) ++ cN c1 c2 (bJ bs (a + (qO bs a).1)) := by
    unfold cN
    rw [zn, htb, zi]
   rw [htt] at hL ⊢
   have hx := qV3 (most := bs.length) (out := bs.take a) (n := (qO bs a).1) (d := (qO bs a).2) (p := p) h1 h2 h3 h4 h5 jo hu0.1 hu0.2 (show L = A ++ (lW c1 (qO bs a).1 ++ mJ c2 (qO bs a).2) ++ (cN c1 c2 (bJ bs (a + (qO bs a).1)) ++ C) by rw [hL]; simp only [zi]) hp jo jo
   have hcp : cF (qO bs a).1 (qO bs a).2 (bs.take a) = bs.take (a + (qO bs a).1) := by
    refine zS h5 _ a h6 h7 (fun j hj => ?_)
    have := (qQ6 bs 258 (a - (qO bs a).2) a (qO bs a).1 h4).1 (by
     have : longM bs (a - (qO bs a).2) a = lgM bs (a - (qO bs a).2) a 258 := rfl
     omega) j hj
    exact this.2
   rw [dQ, hx, qS]
   dsimp only
   rw [hcp, if_pos rfl, oP hl hB h1 h2 h0 m (a + (qO bs a).1) f L (A ++ (lW c1 (qO bs a).1 ++ mJ c2 (qO bs a).2)) C _ jo h7 (fun t ht => hu t (zbs _ ht)) (by rw [hL]; simp only [zi]) (by rw [hp]; simp only [zb]) (by simpa using hf)]
   simp only [zb, zee]
theorem qKm {c1 c2 : List Int} (h1 : ROk c1) : ∀ L : List Tk, (∀ t ∈ L, tK c1 c2 t) → L.length ≤ (L.flatMap (gX c1 c2)).length
 | [], _ => zk _
 | t :: L, h => by
  have ih := qKm h1 L (fun t ht => h t (zbs _ ht))
  have hu := h t zbo
  have h2 : 1 ≤ (gX c1 c2 t).length := by
   unfold tK at hu
   unfold gX
   split
   ·
    rename_i h0
    rw [if_pos h0] at hu
    exact (gN h1 (eR hu) hu ⟨[], [], rfl, rfl⟩).2
   rename_i h0
   rw [if_neg h0] at hu
   have := (gN h1 (eR hu.1) hu.1 ⟨[], [], rfl, rfl⟩).2
   unfold lW
   rw [zb, zb]
   omega
  rw [zn, zb, zp]
  omega
theorem zT {bs : List Nat} {c1 c2 : List Int} {H : List Bool} {k : Nat} (hl : bs.length ≤ 32768) (hB : ∀ b ∈ bs, b < 256) (h1 : ROk c1) (h2 : ROk c2) (h0 : c1.getD 256 0 ≠ 0) (hu : ∀ t ∈ bJ bs 0, tK c1 c2 t) (hc : (k = 1 ∧ H = [] ∧ c1 = cK ∧ c2 = cH) ∨ (k = 2 ∧ ∀ C, oN (bitsL 1 1 ++ bitsL k 2 ++ H ++ cN c1 c2 (bJ bs 0) ++ C) 3 = .ok (3 + H.length, c1, c2))) :
  gZ (qI (bitsL 1 1 ++ bitsL k 2 ++ H ++ cN c1 c2 (bJ bs 0))) bs.length = .ok (bs, (qI (bitsL 1 1 ++ bitsL k 2 ++ H ++ cN c1 c2 (bJ bs 0))).length) := by
 have hk : k = 1 ∨ k = 2 := hc.imp (·.1) (·.1)
 generalize hM : bitsL 1 1 ++ bitsL k 2 ++ H ++ cN c1 c2 (bJ bs 0) = M at hc
 have hL : ∃ C, ofB (qI M) = M ++ C := ⟨_, qHh M⟩
 obtain ⟨C, hL⟩ := hL
 have hMl : M.length = 3 + H.length + (cN c1 c2 (bJ bs 0)).length := by rw [← hM]; simp only [zb, qH]
 have hfew := qKm (c2 := c2) h1 (bJ bs 0) hu
 have hLl : M.length ≤ 8 * (qI M).length := by rw [← cY, hL, zb]; omega
 have ht1 : bZ (ofB (qI M)) 1 0 = .ok (1, 1) := by
  have := dS (L := ofB (qI M)) (A := []) (B := bitsL 1 1) (n := 1) (p := 0) ⟨bitsL k 2 ++ H ++ cN c1 c2 (bJ bs 0) ++ C, by rw [hL, ← hM]; simp only [zi, zbm]⟩ rfl rfl
  exact this
 have ht2 : bZ (ofB (qI M)) 2 1 = .ok (k, 3) := by
  have := dS (L := ofB (qI M)) (A := bitsL 1 1) (B := bitsL k 2) (n := 2) (p := 1) ⟨H ++ cN c1 c2 (bJ bs 0) ++ C, by rw [hL, ← hM]; simp only [zi]⟩ (by rw [qH]) rfl
  rw [eY 2 k (by rcases hk with rfl | rfl <;> decide)] at this
  exact this
 have htok := oP hl hB h1 h2 h0 bs.length 0 (8 * (qI M).length + 1) (ofB (qI M)) (bitsL 1 1 ++ bitsL k 2 ++ H) C (3 + H.length) jo jo hu (by rw [hL, ← hM]) (by simp only [zb, qH]) (by
  unfold cN at hMl
  rw [zb] at hMl
  omega)
 rw [zdm] at htok
 have hblk : gH (qI M) bs.length 0 [] = .ok (false, 3 + H.length + (cN c1 c2 (bJ bs 0)).length, bs) := by
  unfold gH
  rw [ht1, qS]
  dsimp only
  rw [ht2, qS]
  dsimp only
  rw [if_neg jo, if_neg jo]
  rcases hc with ⟨rfl, rfl, rfl, rfl⟩ | ⟨rfl, hcC⟩
  ·
   rw [if_pos rfl]
   rw [zcs, zdi] at htok ⊢
   rw [htok, qS]
   rfl
  rw [if_neg jo]
  have hcC := hcC C
  rw [← hL] at hcC
  rw [hcC, qS]
  dsimp only
  rw [htok, qS]
  rfl
 unfold gZ
 rw [if_neg jo, zan, gC, hblk, qS]
 dsimp only
 rw [if_neg jd, qS, cQ, hMl]
end
section
open Go.RowKit
theorem tV {α : Type} {f : List Nat → α → List Nat} (h : ∀ c t i, c.getD i 0 ≤ (f c t).getD i 0) : ∀ (l : List α) c i, c.getD i 0 ≤ (l.foldl f c).getD i 0
 | [], _, _ => zk _
 | t :: l, c, i => zo (h c t i) (tV h l _ i)
theorem nG {α : Type} {f : List Nat → α → List Nat} {n : Nat} (h : ∀ c t i, c.getD i 0 ≤ (f c t).getD i 0) (hlen : ∀ c t, (f c t).length = c.length) {t : α} {k : Nat} (hk : ∀ c, c.length = n → 0 < (f c t).getD k 0) : ∀ (l : List α) c, c.length = n → t ∈ l → 0 < (l.foldl f c).getD k 0
 | [], _, _, h => by cases h
 | u :: l, c, hc, hm => by
  rcases zcp.1 hm with rfl | hm
  · exact zav (hk c hc) (tV h l _ k)
  exact nG h hlen hk l _ (by rw [hlen]; exact hc) hm
theorem tW (c : List Nat) (k i : Nat) : c.getD i 0 ≤ (c.set k (c.getD k 0 + 1)).getD i 0 := by
 simp only [zc, zej]
 by_cases h : k = i
 ·
  subst h
  by_cases h2 : k < c.length
  · simp [h2]
  simp [h2]
 simp [h]
theorem rN (c : List Nat) (k : Nat) (h : k < c.length) : 0 < (c.set k (c.getD k 0 + 1)).getD k 0 := by
 simp [zc, h]
theorem vY (c : List Nat) (t : Tk) (i : Nat) : c.getD i 0 ≤ (dE c t).getD i 0 := by
 unfold dE
 split <;> exact tW _ _ _
theorem qM5 (c : List Nat) (t : Tk) (i : Nat) : c.getD i 0 ≤ (eM c t).getD i 0 := by
 unfold eM
 split
 · exact zk _
 exact tW _ _ _
theorem qJj {lt : List Tk} (hok : ∀ t ∈ lt, pE t) : (∀ t ∈ lt, if t.2.1 = 0 then (cA lt).getD t.1 0 ≠ 0 else (cA lt).getD (257 + lenS t.2.1) 0 ≠ 0 ∧ (eV lt).getD (wayS t.2.2) 0 ≠ 0) ∧ (cA lt).getD 256 0 ≠ 0 := by
 have h0l : pO.length = 286 := by unfold pO; rw [zcq, zbb]
 refine ⟨fun t ht => ?_, ?_⟩
 ·
  have hq := hok t ht
  by_cases h0 : t.2.1 = 0
  ·
   rw [if_pos h0]
   have h1 : t.1 < 256 := by rcases hq with ⟨_, _, h⟩ | ⟨_, h, _⟩ <;> omega
   have := nG (n := 286) (k := t.1) vY litStep_len (fun c hc => by unfold dE; rw [if_pos h0]; exact rN _ _ jo) lt pO h0l ht
   unfold cA
   omega
  rw [if_neg h0]
  obtain ⟨q3, q4, q5, q6⟩ : 3 ≤ t.2.1 ∧ t.2.1 ≤ 258 ∧ 1 ≤ t.2.2 ∧ t.2.2 ≤ 32768 := by
   rcases hq with ⟨h, _⟩ | ⟨_, h⟩
   · exact absurd h h0
   exact h
  have hl := (gF q3 q4).1
  have hw := (gA q5 q6).1
  have h1 := nG (n := 286) (k := 257 + lenS t.2.1) vY litStep_len (fun c hc => by unfold dE; rw [if_neg h0]; exact rN _ _ jo) lt pO h0l ht
  have h2 := nG (n := 30) (k := wayS t.2.2) qM5 wayStep_len (fun c hc => by unfold eM; rw [if_neg h0]; exact rN _ _ jo) lt (List.replicate 30 0) jp ht
  unfold cA eV
  exact ⟨jo, jo⟩
 have h1 := tV vY lt pO 256
 have h2 : pO.getD 256 0 = 1 := jd
 unfold cA
 omega
theorem uG {L : List Sd} (hok : ∀ t ∈ L, vK t) : ∀ t ∈ L, (dC L).getD t.1 0 ≠ 0 := by
 intro t ht
 have h1 := (hok t ht).1
 have := nG (f := timeStep) (n := 19) (k := t.1) (fun c t i => tW c t.1 i) (fun c t => by unfold timeStep; rw [zcq]) (fun c hc => rN c t.1 jo) L (rep 19) (by simp [rep]) ht
 unfold dC
 omega
theorem wC {L : List Bool} {v : Nat → Nat} (hv : ∀ s, v s ≤ 7) : ∀ (R : List Nat) (A C : List Bool) (p : Nat) (l : List Int), L = A ++ (R.map v).flatMap (fun n => bitsL n 3) ++ C → p = A.length → gG L R p l = .ok (p + 3 * R.length, R.foldl (fun l s => l.set s ((v s : Nat) : Int)) l)
 | [], A, C, p, l, _, _ => rfl
 | s :: R, A, C, p, l, hL, hp => by
  have ht := dS (L := L) (A := A) (B := bitsL (v s) 3) (n := 3) (p := p) ⟨(R.map v).flatMap (fun n => bitsL n 3) ++ C, by rw [hL]; simp only [zbi, zn, zi]⟩ (by rw [qH]) hp
  rw [eY 3 (v s) (by have := hv s; omega)] at ht
  rw [gG, ht, qS]
  dsimp only
  rw [wC hv R (A ++ bitsL (v s) 3) C (p + 3) _ (by rw [hL]; simp only [zbi, zn, zi]) (by rw [zb, qH, hp]), zp, zdy]
  congr 2
  omega
theorem qZe (v : Nat → Nat) : ∀ (R : List Nat) (l : List Int), (R.foldl (fun l s => l.set s ((v s : Nat) : Int)) l).length = l.length
 | [], _ => rfl
 | s :: R, l => by rw [zdy, qZe v R, zcq]
theorem zU (v : Nat → Nat) : ∀ (R : List Nat) (l : List Int) (i : Nat), i < l.length → (R.foldl (fun l s => l.set s ((v s : Nat) : Int)) l).getD i 0 = if i ∈ R then ((v i : Nat) : Int) else l.getD i 0
 | [], _, _, _ => rfl
 | s :: R, l, i, hi => by
  rw [zdy, zU v R _ i (by rw [zcq]; exact hi)]
  by_cases h : i ∈ R
  · rw [if_pos h, if_pos (zbs _ h)]
  rw [if_neg h]
  by_cases h2 : s = i
  ·
   subst h2
   rw [if_pos zbo]
   simp [zc, hi]
  rw [if_neg (by rw [zcp]; rintro (h3 | h3); exact h2 h3.symm; exact h h3)]
  simp [zc, h2]
theorem nH : bQ.length = 19 := rfl
theorem qGm : ∀ s, s < 19 → ∃ j, j < 19 ∧ bQ.getD j 0 = s := by decide +kernel
theorem qV4 {third : List Nat} (h19 : third.length = 19) (w : Nat) (hw : w = (cM (cU third) 4).length) : (bQ.take w).foldl (fun l s => l.set s ((third.getD s 0 : Nat) : Int)) (List.replicate 19 0) = toZ third := by
 apply zaq
 intro i
 have hlen := qZe (fun s => third.getD s 0) (bQ.take w) (List.replicate 19 0)
 rw [zbb] at hlen
 by_cases hi : i < 19
 ·
  have h1 := zU (fun s => third.getD s 0) (bQ.take w) (List.replicate 19 0) i (by rw [zbb]; exact hi)
  rw [zc, za (by rw [hlen]; exact hi), zba] at h1
  rw [za (by rw [hlen]; exact hi), h1]
  have h2 : (toZ third)[i]? = some ((third.getD i 0 : Nat) : Int) := by
   have := lH third i
   rw [zc, za (by rw [bL, h19]; exact hi), zba] at this
   rw [za (by rw [bL, h19]; exact hi), this]
  rw [h2]
  by_cases h3 : i ∈ bQ.take w
  · rw [if_pos h3]
  rw [if_neg h3]
  obtain ⟨j, hj, hji⟩ := qGm i hi
  have hwj : w ≤ j := by
   rcases zgr j w with h | h
   ·
    exfalso
    refine h3 ?_
    rw [← hji, zc, za (show j < bQ.length by rw [nH]; exact hj), zba]
    exact List.mem_take_iff_getElem.2 ⟨j, by rw [nH]; omega, rfl⟩
   exact h
  have h4 := oX (cU third) 4 (cU third).length j (by rw [← fB, ← hw]; exact hwj) (by rw [lM]; exact hj)
  have h5 : (cU third).getD j 0 = third.getD i 0 := by
   unfold cU
   rw [zc, zbf, za (show j < bQ.length by rw [nH]; exact hj)]
   rw [zc (l := bQ), za (show j < bQ.length by rw [nH]; exact hj), zba] at hji
   simp only [zgo, zba, hji]
  rw [← h5, h4, zc, zfj, if_pos hi]
  rfl
 rw [zr jo, zr (by rw [bL]; omega)]
theorem wD (l : List Nat) (v : Nat) : ∀ m n j, j < mK l v m n → n + j < l.length ∧ l.getD (n + j) 0 = v
 | 0, n, j, h => by simp [mK] at h
 | m + 1, n, j, h => by
  by_cases hc : n < l.length ∧ l.getD n 0 = v
  ·
   rw [xH hc.1 hc.2 jo, zfo] at h
   cases j with
   | zero => exact hc
   | succ j =>
    have := wD l v m (n + 1) j jo
    rw [show n + (j + 1) = n + 1 + j by omega]
    exact this
  rw [yI hc] at h
  omega
theorem qZf (l : List Nat) (a : Nat) : ∀ n, n ≤ runN l a → l.take (a + n) = l.take a ++ List.replicate n (l.getD a 0)
 | 0, _ => jp
 | n + 1, h => by
  have h1 := wD l (l.getD a 0) (l.length - a) a n (by unfold runN at h; omega)
  rw [← zee, rM h1.1, qZf l a n jo, h1.2, zi, List.replicate_succ']
theorem mT (a b : List Nat) : toZ (a ++ b) = toZ a ++ toZ b := by simp [toZ]
theorem qP5 (n v : Nat) : toZ (List.replicate n v) = List.replicate n (v : Int) := by simp [toZ]
theorem qGn {L A C : List Bool} {third : List Int} {x : List Nat} {a p : Nat} (h3 : ROk third) (hl : third.length = 19) (hx : ∀ i, x.getD i 0 ≤ 15) (ha : a < x.length) (hu : third.getD (bT x a).1.1 0 ≠ 0) (hL : L = A ++ dR third (bT x a).1 ++ C) (hp : p = A.length) :
  lU L third p (toZ (x.take a)) x.length = .ok (p + (dR third (bT x a).1).length, toZ (x.take (a + (bT x a).2))) := by
 have hle := qXq ha
 have hal : (toZ (x.take a)).length = a := by rw [bL, zj]; omega
 obtain ⟨hs19, hn7, hv⟩ := qX8 hx a
 have hsym := (gN h3 (by rw [hl]; exact hs19) hu (L := L) (p := p) ⟨A, bitsL (bT x a).1.2.2 (bT x a).1.2.1 ++ C, by rw [hL]; unfold dR; simp only [zi], hp⟩).1
 have htk : bZ L (bT x a).1.2.1 (p + (bK third (bT x a).1.1).length) = .ok ((bT x a).1.2.2, p + (bK third (bT x a).1.1).length + (bT x a).1.2.1) := by
  have := dS (L := L) (A := A ++ bK third (bT x a).1.1) (B := bitsL (bT x a).1.2.2 (bT x a).1.2.1) (n := (bT x a).1.2.1) (p := p + (bK third (bT x a).1.1).length) ⟨C, by rw [hL]; unfold dR; simp only [zi]⟩ (by rw [qH]) (by rw [zb, hp])
  rw [eY _ _ hv] at this
  exact this
 have hlen : (dR third (bT x a).1).length = (bK third (bT x a).1.1).length + (bT x a).1.2.1 := by unfold dR; rw [zb, qH]
 rw [hlen, ← zee]
 generalize hk : (bK third (bT x a).1.1).length = k at hsym htk ⊢
 have hrun : (bT x a).2 ≤ runN x a := by
  have := qXp ha
  unfold bT
  split
  · dsimp only; omega
  split
  · dsimp only; omega
  split
  · dsimp only; omega
  dsimp only; omega
 have htr := qZf x a _ hrun
 unfold lU
 rw [hsym, qS]
 dsimp only
 rw [htr, mT, qP5]
 have hsa := hle
 unfold bT at htk hsa ⊢
 by_cases c1 : x.getD a 0 = 0 ∧ 11 ≤ runN x a
 ·
  rw [if_pos c1] at htk hsa ⊢
  dsimp only at htk hsa ⊢
  rw [if_neg jo, if_neg jo, if_pos rfl, htk, qS, qS]
  dsimp only
  rw [hal, if_neg jo, show 11 + (min (runN x a) 138 - 11) = min (runN x a) 138 by omega, c1.1]
  rfl
 rw [if_neg c1] at htk hsa ⊢
 by_cases c2 : x.getD a 0 = 0 ∧ 3 ≤ runN x a
 ·
  rw [if_pos c2] at htk hsa ⊢
  dsimp only at htk hsa ⊢
  rw [if_neg jo, if_pos rfl, htk, qS, qS]
  dsimp only
  rw [hal, if_neg jo, show 3 + (min (runN x a) 10 - 3) = min (runN x a) 10 by omega, c2.1]
  rfl
 rw [if_neg c2] at htk hsa ⊢
 by_cases c3 : 0 < a ∧ x.getD (a - 1) 0 = x.getD a 0 ∧ 3 ≤ runN x a
 ·
  rw [if_pos c3] at htk hsa ⊢
  dsimp only at htk hsa ⊢
  have hlast : (toZ (x.take a)).getD (a - 1) 0 = ((x.getD a 0 : Nat) : Int) := by
   rw [lH, zc, zap jo, ← zc, c3.2.1]
  rw [if_pos rfl, hal, if_neg jo, htk, qS, qS]
  dsimp only
  rw [if_neg jo, show 3 + (min (runN x a) 6 - 3) = min (runN x a) 6 by omega, hlast]
 rw [if_neg c3] at htk hsa ⊢
 dsimp only at htk hsa ⊢
 have h15 := hx a
 rw [if_neg jo, if_neg jo, if_neg jo, qS]
 dsimp only
 rw [hal, if_neg jo]
 rfl
theorem wE {L : List Bool} {third : List Int} {x : List Nat} (h3 : ROk third) (hl : third.length = 19) (hx : ∀ i, x.getD i 0 ≤ 15) :
  ∀ m a f (A C : List Bool) p, x.length - a ≤ m → a ≤ x.length → (dI x a).length < f → (∀ t ∈ dI x a, third.getD t.1 0 ≠ 0) → L = A ++ (dI x a).flatMap (dR third) ++ C → p = A.length →
   kT L third x.length f p (toZ (x.take a)) = .ok (p + ((dI x a).flatMap (dR third)).length, toZ x)
 | m, a, 0, _, _, _, _, _, hf, _, _, _ => jo
 | m, a, f + 1, A, C, p, hm, ha, hf, hu, hL, hp => by
  have hal : (toZ (x.take a)).length = a := by rw [bL, zj]; omega
  rw [kT, hal]
  by_cases h1 : a < x.length
  ·
   rw [lA h1] at hu hL hf ⊢
   have hpos := sC (l := x) (a := a)
   have hle := qXq h1
   rw [zn] at hL ⊢
   cases m with
   | zero => omega
   | succ m =>
    rw [if_pos h1, qGn h3 hl hx h1 (hu _ zbo) (show L = A ++ dR third (bT x a).1 ++ ((dI x (a + (bT x a).2)).flatMap (dR third) ++ C) by rw [hL]; simp only [zi]) hp, qS]
    dsimp only
    rw [wE h3 hl hx m (a + (bT x a).2) f (A ++ dR third (bT x a).1) C _ jo hle (by simpa using hf) (fun t ht => hu t (zbs _ ht)) (by rw [hL]; simp only [zi]) (by rw [zb, hp]), zb, zee]
  rw [if_neg h1, qXr jo, zm jo]
  rfl
theorem qKn {third : List Int} (h : ROk third) : ∀ L : List Sd, (∀ t ∈ L, third.getD t.1 0 ≠ 0) → L.length ≤ (L.flatMap (dR third)).length
 | [], _ => zk _
 | t :: L, hu => by
  have ih := qKn h L (fun t ht => hu t (zbs _ ht))
  have h0 := hu t zbo
  have := (gN h (eR h0) h0 ⟨[], [], rfl, rfl⟩).2
  rw [zn, zb, zp]
  unfold dR at ih ⊢
  rw [zb]
  omega
theorem tY {α β : Type} {f g : α → List β} : ∀ l : List α, (∀ t ∈ l, f t = g t) → l.flatMap f = l.flatMap g
 | [], _ => rfl
 | t :: l, h => by rw [zn, zn, h t zbo, tY l (fun t ht => h t (zbs _ ht))]
end
section
open Go.RowKit
def tI (i : Nat) : FuncId := if i = 0 then 33 else 34
noncomputable section
def rP (bs : List Nat) (i : Nat) : List Nat := if i = 0 then qI (fK bs) else qI (gM bs)
def dZ (bs : List Nat) : Nat → List Nat
 | 0 => cD bs
 | i + 1 => if (rP bs i).length < (dZ bs i).length then rP bs i else dZ bs i
end
theorem qGo (i : Nat) (args : Array Value) (w : World) : (callFunc (tI i) args).run Tryz.prog w = .ok (.enter (tI i) args) w := by
 unfold tI
 split
 · exact Tryz.call33 args w
 exact Tryz.call34 args w
theorem qGp (i : Nat) (A : Option Addr) (c : Nat) (bs : List Nat) (w : World) (hl : bs.length ≤ 32768) (hc : bs.length ≤ c) (hB : ∀ b ∈ bs, b < 256) (hr : Rd w 1 A bs.length (NB bs)) :
  Calls Tryz.prog (tI i) #[.slice A bs.length c] w fun e w' => ∃ B d, e = .returned (.tuple #[.slice B (rP bs i).length d, .int .i64 ((0 : Nat) : Int)]) ∧ Own w' 5 1 B (rP bs i).length d (NB (rP bs i)) ∧ Frm [] w w' ∧ ∀ x ∈ ob B, w.heap.size ≤ x := by
 unfold tI rP
 split
 · exact qYw A c bs w hl hc hB hr
 exact qGl A c bs w hl hc hB hr
def qV5 : Array Value := #[.func (.func 33) #[] #[], .func (.func 34) #[] #[]]
theorem qM6 (i : Nat) (h : i < 2) : qV5[i]? = some (.func (.func (tI i)) #[] #[]) := by
 rcases (by omega : i = 0 ∨ i = 1) with rfl | rfl <;> rfl
theorem qR9 (w : World) : (zeroValue 52).run Tryz.prog w = .ok .nilFunc w := by
 simp only [zeroValue, Sem.run_bind, Tryz.typeInfo52, Result.andThen_ok]; rfl
theorem qGq (A : Option Addr) (c : Nat) (bs : List Nat) (w : World) (hl : bs.length ≤ 32768) (hc : bs.length ≤ c) (hB : ∀ b ∈ bs, b < 256) (hr : Rd w 1 A bs.length (NB bs)) :
  Calls Tryz.prog 18 #[.slice A bs.length c] w fun e w' => ∃ B d, e = .returned (.tuple #[.slice B (dZ bs 2).length d, .int .i64 ((0 : Nat) : Int)]) ∧ Own w' 5 1 B (dZ bs 2).length d (NB (dZ bs 2)) ∧ Frm [] w w' ∧ ∀ x ∈ ob B, w.heap.size ≤ x := by
 refine VC.calls (nt := 34) (res := #[.tmp 2, .tmp 3]) Tryz.func18 rfl Tryz.ntmps18 Tryz.results18 rfl ?_
 refine jS (jR (ja rfl (jz 0 (jO (jN (jv1 0 ?_))))))
 refine jS (jR (jM ?_))
 refine Ops.cl (jE1 Tryz.call32) (qGk A c bs w jo hc hB hr) rfl ?_
 rintro e w1 ⟨B0, c0, rfl, ho0, K, hu0⟩
 refine ⟨_, rfl, ?_⟩
 refine ja rfl (jO (jN (jv2 0 4 ?_)))
 refine jS (jS (jR ?_))
 refine Ops.m (qJ.buildN (cells := qV5) (evs.cons rfl (evs.cons rfl evs.nil)) Tryz.underlying73 Tryz.sizeOf52 qR9 rfl rfl jK) rfl ?_
 rintro _ w2 ⟨rfl, hF2⟩
 have hb2 := hF2.blk
 have ho0 := ho0.frm hF2.frm jp
 have K2 : Frm [] w w2 := K.trans hF2.frm jp
 have hgl : w.heap.size ≤ w1.heap.size := K.size
 generalize w1.heap.size = gk at hb2 hgl ⊢
 refine je (Run.lenS rfl Tryz.underlying73) ?_
 refine jx .i64 0 ?_
 refine jO (jN (jB ?_))
 refine VC.loop (σ := Nat × Option Addr × Nat) (fun s => [(0, .slice A bs.length c), (4, .slice s.2.1 (dZ bs s.1).length s.2.2), (11, .slice (some ⟨gk, 0, none⟩) 2 2), (12, .int .i64 ((2 : Nat) : Int)), (13, .int .i64 ((s.1 : Nat) : Int))]) (fun s wr => s.1 ≤ 2 ∧ Own wr 5 1 s.2.1 (dZ bs s.1).length s.2.2 (NB (dZ bs s.1)) ∧ Blk wr gk 52 qV5 ∧ Frm [] w wr ∧ ∀ x ∈ ob s.2.1, w.heap.size ≤ x) (fun s => 2 - s.1) (0, B0, c0) (js5 rfl rfl rfl rfl rfl) ⟨zau _, ho0, hb2, K2, hu0⟩ ?_
 rintro ⟨i, B, d⟩ wr ⟨hi, hO, hb2, K, hu⟩
 dsimp only at hi hO hu ⊢
 refine jS (jR (jb rfl rfl (Bin.lssN _ _) (jO (jN (jS ?_)))))
 refine jD rfl (fun hc1 => ?_) fun hc1 => ?_
 ·
  refine jQ (jN (jv5 0 4 11 12 13 ?_))
  refine jS (jB (jS (jR (je (Run.index1 _ rfl rfl Tryz.underlying73 Tryz.sizeOf52 jo) (jl rfl Tryz.isAgg52 (by rw [kP, hb2.cell]; exact qM6 i hc1) (ja rfl (jO (jN (jv6 0 4 6 11 12 13 ?_)))))))))
  refine jS (jR (jm rfl (jM ?_)))
  refine Ops.cl (bW.dyn rfl (evs.cons rfl evs.nil) (qGo i)) (qGp i A c bs wr hl hc hB (hr.frm K jp)) rfl ?_
  rintro e w3 ⟨B3, d3, rfl, hO3, hf3, hu3⟩
  refine ⟨_, rfl, ?_⟩
  have hO := hO.frm hf3 jp
  have hb2 := hb2.frm hf3 jp
  have hu3 : ∀ x ∈ ob B3, w.heap.size ≤ x := fun x hx => zo K.size (hu3 x hx)
  have K := K.trans hf3 jp
  refine jm rfl (je (Run.extract rfl rfl) (je (Run.extract rfl rfl) (ja rfl (ja rfl (jO (jN (jv7 0 4 7 8 11 12 13 ?_)))))))
  refine jS (jS (jR (jm rfl (jb rfl rfl (Bin.neqN _ 0) (jO (jN (jv8 0 4 7 8 11 12 13 24 ?_)))))))
  refine VC.condF rfl jd ?_
  refine jQ (jN (jv6 0 4 7 11 12 13 ?_))
  refine jS (jR (jm rfl (je (Run.lenS rfl ze) (jm rfl (je (Run.lenS rfl ze) (jb rfl rfl (Bin.lssN _ _) (jO (jN (jv7 0 4 7 11 12 13 30 ?_)))))))))
  refine jD rfl (fun hc3 => ?_) fun hc3 => ?_
  ·
   refine jR (jm rfl (ja rfl (jO ?_)))
   refine qK (jN ?_)
   refine jv5 0 4 11 12 13 ?_
   refine jR (jb rfl rfl (Bin.add_i64 _ 1 jo) (jm rfl (jO ?_)))
   refine jN ⟨(i + 1, B3, d3), (js5 rfl (by rw [dZ, if_pos hc3]; rfl) rfl rfl rfl), ?_, ?_⟩
   ·
    have e : dZ bs (i + 1) = rP bs i := by rw [dZ, if_pos hc3]
    exact ⟨hc1, by rw [e]; exact hO3, hb2, K, hu3⟩
   first | omega | (dsimp only; omega)
  refine jQ ?_
  refine qK (jN ?_)
  refine jv5 0 4 11 12 13 ?_
  refine jR (jb rfl rfl (Bin.add_i64 _ 1 jo) (jm rfl (jO ?_)))
  refine jN ⟨(i + 1, B, d), (js5 rfl (by rw [dZ, if_neg hc3]; rfl) rfl rfl rfl), ?_, ?_⟩
  ·
   have e : dZ bs (i + 1) = dZ bs i := by rw [dZ, if_neg hc3]
   exact ⟨hc1, by rw [e]; exact hO, hb2, K, hu⟩
  first | omega | (dsimp only; omega)
 refine jX ?_
 refine qZ (qZ (qP ?_))
 refine jN (jv1 4 ?_)
 refine jS (jR (jm rfl (ja rfl (jz 0 (jO (jN (jv2 2 3 ?_)))))))
 refine jT ?_
 refine cV rfl rfl ?_
 have ei : i = 2 := jo
 subst ei
 exact ⟨B, d, rfl, hO, K, hu⟩
end
section
open Go.RowKit
def IsU (w : World) (g : Nat) (A : Option Addr) (l : List Bool) : Prop := ∃ c, Blk w g 124 #[.slice A l.length c] ∧ Own w 4 1 A l.length c (BL l)
theorem IsU.frm {w w' : World} {g : Nat} {A : Option Addr} {l : List Bool} {S : List Nat} (h : IsU w g A l) (k : Frm S w w') (hS : ∀ x ∈ g :: ob A, x ∉ S) : IsU w' g A l := by
 obtain ⟨c, h1, h2⟩ := h
 exact ⟨c, h1.frm k (hS g jp), h2.frm k (fun x hx => hS x (by simp [hx]))⟩
def UR (w w' : World) (g : Nat) (A : Option Addr) (l : List Bool) : Prop := ∃ A', IsU w' g A' l ∧ Frm (g :: ob A) w w' ∧ ∀ x ∈ ob A', x ∈ ob A ∨ w.heap.size ≤ x
end
section
open Go.RowKit
theorem UR.trans {w w1 w2 : World} {g : Nat} {A A1 : Option Addr} {l2 : List Bool} (f : Frm (g :: ob A) w w1) (hA : ∀ x ∈ ob A1, x ∈ ob A ∨ w.heap.size ≤ x) (h : UR w1 w2 g A1 l2) : UR w w2 g A l2 := by
 obtain ⟨A2, h1, h2, h3⟩ := h
 refine ⟨A2, h1, f.trans h2 (fun x hx => ?_), fun x hx => ?_⟩
 ·
  rcases zcp.1 hx with rfl | hx
  · exact .inl jp
  rcases hA x hx with h | h
  · exact .inl (by simp [h])
  exact .inr h
 rcases h3 x hx with h | h
 · exact hA x h
 exact .inr (zo f.size h)
end
section
open Go.RowKit
theorem qNy (bs : List Nat) : dZ bs 2 = if (qI (gM bs)).length < (if (qI (fK bs)).length < (cD bs).length then qI (fK bs) else cD bs).length then qI (gM bs) else (if (qI (fK bs)).length < (cD bs).length then qI (fK bs) else cD bs) := rfl
end
section
open Go.RowKit
theorem mU : (∀ i, i < 288 → cK.getD i 0 ≠ 0) ∧ ∀ i, i < 32 → cH.getD i 0 ≠ 0 := by decide +kernel
theorem qM7 (bs : List Nat) (hl : bs.length ≤ 32768) (hB : ∀ b ∈ bs, b < 256) : gZ (qI (fK bs)) bs.length = .ok (bs, (qI (fK bs)).length) := by
 have h := zT (bs := bs) (c1 := cK) (c2 := cH) (H := []) (k := 1) hl hB zP.1 zP.2 (mU.1 256 jo) (fun t ht => by
  have hq := pX bs 0 hl hB t ht
  unfold tK
  split
  ·
   rename_i h0
   exact mU.1 _ (by rcases hq with ⟨_, _, h⟩ | ⟨_, h, _⟩ <;> omega)
  rename_i h0
  obtain ⟨q3, q4, q5, q6⟩ : 3 ≤ t.2.1 ∧ t.2.1 ≤ 258 ∧ 1 ≤ t.2.2 ∧ t.2.2 ≤ 32768 := by
   rcases hq with ⟨h, _⟩ | ⟨_, h⟩
   · exact absurd h h0
   exact h
  have hl := (gF q3 q4).1
  have hw := (gA q5 q6).1
  exact ⟨mU.1 _ jo, mU.2 _ jo⟩) (.inl ⟨rfl, rfl, rfl, rfl⟩)
 rw [zdb] at h
 exact h
theorem qZg {l : List Nat} {least s : Nat} (h : l.getD s 0 ≠ 0) : s < (cM l least).length ∧ (cM l least).getD s 0 = l.getD s 0 := by
 have hs := kF h
 have h1 : s < (cM l least).length := by
  rw [fB]
  rcases zgr s (eO l least l.length) with h2 | h2
  · exact h2
  exact absurd (oX l least l.length s h2 hs) h
 refine ⟨h1, ?_⟩
 rw [fB] at h1
 unfold cM
 rw [zc, zap h1, ← zc]
theorem qZh (bs : List Nat) (hl : bs.length ≤ 32768) (hB : ∀ b ∈ bs, b < 256) : gZ (qI (gM bs)) bs.length = .ok (bs, (qI (gM bs)).length) := by
 have hok := pX bs 0 hl hB
 obtain ⟨hlo, hlr⟩ := tZ (cs := cA (bJ bs 0)) (m := 15) (by rw [dW]; omega) jo jo (by rw [dW]; decide)
 obtain ⟨hwo, hwr⟩ := tZ (cs := eV (bJ bs 0)) (m := 15) (by rw [dL]; omega) jo jo (by rw [dL]; decide)
 obtain ⟨h3o, h3r⟩ := tZ (cs := dC (bH bs)) (m := 7) (by rw [fC]; omega) jo jo (by rw [fC]; decide)
 have hlo : LenOk (cA (bJ bs 0)) (dT bs) 15 := hlo
 have hwo : LenOk (eV (bJ bs 0)) (eW bs) 15 := hwo
 have h3o : LenOk (dC (bH bs)) (bD bs) 7 := h3o
 have hlr : ROk (toZ (dT bs)) := hlr
 have hwr : ROk (toZ (eW bs)) := hwr
 have h3r : ROk (toZ (bD bs)) := h3r
 obtain ⟨hL1, hL2, hM1, hM2, hF1, hF2, hLok, hLl⟩ := wB bs hlo hwo
 have h3l : (bD bs).length = 19 := h3o.len.trans (fC _)
 obtain ⟨huse, h256⟩ := qJj hok
 have hlit : ∀ s, (cA (bJ bs 0)).getD s 0 ≠ 0 → (dT bs).getD s 0 ≠ 0 := fun s hs h0 => hs ((hlo.come s (kF hs)).1 h0)
 have hway : ∀ s, (eV (bJ bs 0)).getD s 0 ≠ 0 → (eW bs).getD s 0 ≠ 0 := fun s hs h0 => hs ((hwo.come s (kF hs)).1 h0)
 have hthi : ∀ s, (dC (bH bs)).getD s 0 ≠ 0 → (bD bs).getD s 0 ≠ 0 := fun s hs h0 => hs ((h3o.come s (kF hs)).1 h0)
 have hmr : ROk (toZ (bV bs)) := hlr.cut 257
 have hfr : ROk (toZ (bO bs)) := hwr.cut 1
 have hml : ∀ s, (cA (bJ bs 0)).getD s 0 ≠ 0 → s < (bV bs).length ∧ (bV bs).getD s 0 ≠ 0 := fun s hs => by
  have h1 := hlit s hs
  have h2 := qZg (least := 257) h1
  exact ⟨h2.1, by unfold bV; rw [h2.2]; exact h1⟩
 have hfl : ∀ s, (eV (bJ bs 0)).getD s 0 ≠ 0 → s < (bO bs).length ∧ (bO bs).getD s 0 ≠ 0 := fun s hs => by
  have h1 := hway s hs
  have h2 := qZg (least := 1) h1
  exact ⟨h2.1, by unfold bO; rw [h2.2]; exact h1⟩
 have hz : ∀ (l : List Nat) s, l.getD s 0 ≠ 0 → (toZ l).getD s 0 ≠ 0 := fun l s h => by rw [lH]; omega
 have hu : ∀ t ∈ bJ bs 0, tK (toZ (bV bs)) (toZ (bO bs)) t := fun t ht => by
  have h1 := huse t ht
  unfold tK
  split
  ·
   rename_i h0
   rw [if_pos h0] at h1
   exact hz _ _ (hml _ h1).2
  rename_i h0
  rw [if_neg h0] at h1
  exact ⟨hz _ _ (hml _ h1.1).2, hz _ _ (hfl _ h1.2).2⟩
 have htok : cN (toZ (dT bs)) (toZ (eW bs)) (bJ bs 0) = cN (toZ (bV bs)) (toZ (bO bs)) (bJ bs 0) := by
  have hc : ∀ t ∈ bJ bs 0, gX (toZ (dT bs)) (toZ (eW bs)) t = gX (toZ (bV bs)) (toZ (bO bs)) t := fun t ht => by
   have h1 := huse t ht
   unfold gX
   split
   ·
    rename_i h0
    rw [if_pos h0] at h1
    exact oZ _ 257 _ (hml _ h1).1
   rename_i h0
   rw [if_neg h0] at h1
   unfold lW mJ
   have e1 : bK (toZ (dT bs)) (257 + lenS t.2.1) = bK (toZ (bV bs)) (257 + lenS t.2.1) := oZ _ 257 _ (hml _ h1.1).1
   have e2 : bK (toZ (eW bs)) (wayS t.2.2) = bK (toZ (bO bs)) (wayS t.2.2) := oZ _ 1 _ (hfl _ h1.2).1
   rw [e1, e2]
  have e3 : bK (toZ (dT bs)) 256 = bK (toZ (bV bs)) 256 := oZ _ 257 _ (hml _ h256).1
  unfold cN
  rw [e3]
  congr 1
  exact tY _ hc
 have h256m := hz _ _ (hml _ h256).2
 have hxb : ∀ i, (bV bs ++ bO bs).getD i 0 ≤ 15 := uY _ _ _ (lL _ _ _ hlo.most) (lL _ _ _ hwo.most)
 have hw19 : 4 ≤ (bP bs).length ∧ (bP bs).length ≤ 19 := by
  have := mR (cU (bD bs)) 4 (by rw [lM]; omega)
  rw [lM] at this
  exact this
 have hwm : bP bs = (bQ.take (bP bs).length).map (fun s => (bD bs).getD s 0) := by
  have e : bP bs = (cU (bD bs)).take (bP bs).length := by
   have h1 := pZ (cU (bD bs)) 4 (cU (bD bs)).length
   have h2 : (bP bs).length = eO (cU (bD bs)) 4 (cU (bD bs)).length := fB _ _
   rw [h2]
   rfl
  rw [zdu]
  exact e
 have hxl : (bV bs ++ bO bs).length = (bV bs).length + (bO bs).length := zb
 have h := zT (bs := bs) (c1 := toZ (bV bs)) (c2 := toZ (bO bs)) (H := bitsL ((bV bs).length - 257) 5 ++ bitsL ((bO bs).length - 1) 5 ++ bitsL ((bP bs).length - 4) 4 ++ (bP bs).flatMap (fun n => bitsL n 3) ++ (bH bs).flatMap (dR (toZ (bD bs)))) (k := 2) hl hB hmr hfr h256m hu (.inr ⟨rfl, fun C => ?_⟩)
 ·
  have e : bitsL 1 1 ++ bitsL 2 2 ++ (bitsL ((bV bs).length - 257) 5 ++ bitsL ((bO bs).length - 1) 5 ++ bitsL ((bP bs).length - 4) 4 ++ (bP bs).flatMap (fun n => bitsL n 3) ++ (bH bs).flatMap (dR (toZ (bD bs)))) ++ cN (toZ (bV bs)) (toZ (bO bs)) (bJ bs 0) = gM bs := by
   unfold gM
   rw [htok]
   simp only [zi]
  rw [e] at h
  exact h
 generalize hTC : cN (toZ (bV bs)) (toZ (bO bs)) (bJ bs 0) ++ C = TC
 rw [zi _ _ C, hTC]
 generalize hLd : bitsL 1 1 ++ bitsL 2 2 ++ (bitsL ((bV bs).length - 257) 5 ++ bitsL ((bO bs).length - 1) 5 ++ bitsL ((bP bs).length - 4) 4 ++ (bP bs).flatMap (fun n => bitsL n 3) ++ (bH bs).flatMap (dR (toZ (bD bs)))) ++ TC = L
 have ht1 := dS (L := L) (A := bitsL 1 1 ++ bitsL 2 2) (B := bitsL ((bV bs).length - 257) 5) (n := 5) (p := 3) ⟨_, by rw [← hLd]; simp only [zi]; rfl⟩ (by rw [qH]) (by simp [qH])
 have ht2 := dS (L := L) (A := bitsL 1 1 ++ bitsL 2 2 ++ bitsL ((bV bs).length - 257) 5) (B := bitsL ((bO bs).length - 1) 5) (n := 5) (p := 8) ⟨_, by rw [← hLd]; simp only [zi]; rfl⟩ (by rw [qH]) (by simp [qH])
 have ht3 := dS (L := L) (A := bitsL 1 1 ++ bitsL 2 2 ++ bitsL ((bV bs).length - 257) 5 ++ bitsL ((bO bs).length - 1) 5) (B := bitsL ((bP bs).length - 4) 4) (n := 4) (p := 13) ⟨_, by rw [← hLd]; simp only [zi]; rfl⟩ (by rw [qH]) (by simp [qH])
 rw [eY 5 _ jo] at ht1 ht2
 rw [eY 4 _ jo] at ht3
 have hth := wC (L := L) (v := fun s => (bD bs).getD s 0) h3o.most (bQ.take (bP bs).length) (bitsL 1 1 ++ bitsL 2 2 ++ bitsL ((bV bs).length - 257) 5 ++ bitsL ((bO bs).length - 1) 5 ++ bitsL ((bP bs).length - 4) 4) ((bH bs).flatMap (dR (toZ (bD bs))) ++ TC) 17 (List.replicate 19 0) (by rw [← hwm, ← hLd]; simp only [zi]) (by simp [qH])
 rw [qV4 h3l (bP bs).length rfl] at hth
 have htl : (bQ.take (bP bs).length).length = (bP bs).length := by rw [zj, nH]; omega
 rw [htl] at hth
 have hfl3 := mS (bP bs)
 have hle : bH bs = dI (bV bs ++ bO bs) 0 := rfl
 have hmo := wE (L := L) (third := toZ (bD bs)) (x := bV bs ++ bO bs) h3r (by rw [bL]; exact h3l) hxb (bV bs ++ bO bs).length 0 (L.length + 1) (bitsL 1 1 ++ bitsL 2 2 ++ bitsL ((bV bs).length - 257) 5 ++ bitsL ((bO bs).length - 1) 5 ++ bitsL ((bP bs).length - 4) 4 ++ (bP bs).flatMap (fun n => bitsL n 3)) TC (17 + 3 * (bP bs).length) jo jo ?_ (fun t ht => hz _ _ (hthi _ (uG hLok t ht))) (by rw [← hLd, ← hle]; simp only [zi]) (by simp only [zb, qH, hfl3])
 ·
  have hs0 : toZ ((bV bs ++ bO bs).take 0) = [] := rfl
  rw [hs0] at hmo
  have hH : 3 + (bitsL ((bV bs).length - 257) 5 ++ bitsL ((bO bs).length - 1) 5 ++ bitsL ((bP bs).length - 4) 4 ++ (bP bs).flatMap (fun n => bitsL n 3) ++ (bH bs).flatMap (dR (toZ (bD bs)))).length = 17 + 3 * (bP bs).length + ((dI (bV bs ++ bO bs) 0).flatMap (dR (toZ (bD bs)))).length := by
   have e : bH bs = dI (bV bs ++ bO bs) 0 := rfl
   rw [e]
   simp only [zb, qH, hfl3]
   omega
  rw [hH]
  unfold oN
  rw [ht1, qS]
  dsimp only
  rw [ht2, qS]
  dsimp only
  rw [ht3, qS]
  dsimp only
  rw [if_neg (fun hn => hn jo), show 4 + ((bP bs).length - 4) = (bP bs).length by omega, show 257 + ((bV bs).length - 257) = (bV bs).length by omega, show 1 + ((bO bs).length - 1) = (bO bs).length by omega, hth, qS]
  unfold xY
  dsimp only
  rw [if_neg (fun hn => hn h3r.2), ← hxl, hmo, qS]
  have hml2 : (toZ (bV bs)).length = (bV bs).length := bL _
  have htk : (toZ (bV bs ++ bO bs)).take (bV bs).length = toZ (bV bs) := by rw [mT, ← hml2, zgb]
  have hdr : (toZ (bV bs ++ bO bs)).drop (bV bs).length = toZ (bO bs) := by rw [mT, ← hml2, zen]
  have hpos : 0 < (toZ (bV bs ++ bO bs)).getD 256 0 := by
   rw [mT, zc, zae (by rw [hml2]; omega), ← zc]
   rw [lH] at h256m ⊢
   omega
  unfold xW
  dsimp only
  rw [if_neg (fun hn => hn hpos), htk, hdr, if_neg (fun hn => hn hmr.2), if_neg (fun hn => hn hfr.2)]
 have h5 := qKn h3r (bH bs) (fun t ht => hz _ _ (hthi _ (uG hLok t ht)))
 rw [← hle, ← hLd]
 simp only [zb]
 omega
theorem zB : ∀ n (bs : List Nat), bs.length ≤ n → ∃ r last, cD bs = eL r last ∧ r.flatten ++ last = bs ∧ (∀ x ∈ r, x.length < 65536) ∧ last.length < 65536
 | n, bs, h => by
  rw [nY]
  by_cases h1 : 65535 < bs.length
  ·
   rw [if_pos h1]
   obtain ⟨r, last, h2, h3, h4, h5⟩ := zB (n - 1) (bs.drop 65535) (by rw [zq]; omega)
   refine ⟨bs.take 65535 :: r, last, by rw [h2]; rfl, by rw [List.flatten_cons, zi, h3, zch], fun x hx => ?_, h5⟩
   rcases zcp.1 hx with rfl | hx
   · rw [zj]; omega
   exact h4 x hx
  rw [if_neg h1]
  exact ⟨[], bs, rfl, rfl, jp, jo⟩
 termination_by n => n
 decreasing_by omega
theorem qGr (bs : List Nat) : gZ (cD bs) bs.length = .ok (bs, (cD bs).length) := by
 obtain ⟨r, last, h1, h2, h3, h4⟩ := zB _ bs (zk _)
 have h := qM0 h3 h4
 rw [h2, ← h1] at h
 exact h
theorem zC (bs : List Nat) (hl : bs.length ≤ 32768) (hB : ∀ b ∈ bs, b < 256) : gZ (dZ bs 2) bs.length = .ok (bs, (dZ bs 2).length) ∧ (dZ bs 2).length ≤ (cD bs).length ∧ (dZ bs 2).length ≤ (qI (fK bs)).length ∧ (dZ bs 2).length ≤ (qI (gM bs)).length := by
 rw [qNy]
 by_cases h2 : (qI (fK bs)).length < (cD bs).length
 ·
  rw [if_pos h2]
  by_cases h1 : (qI (gM bs)).length < (qI (fK bs)).length
  ·
   rw [if_pos h1]
   exact ⟨qZh bs hl hB, jo, jo, jo⟩
  rw [if_neg h1]
  exact ⟨qM7 bs hl hB, jo, jo, jo⟩
 rw [if_neg h2]
 by_cases h1 : (qI (gM bs)).length < (cD bs).length
 ·
  rw [if_pos h1]
  exact ⟨qZh bs hl hB, jo, jo, jo⟩
 rw [if_neg h1]
 exact ⟨qGr bs, jo, jo, jo⟩
end
section
open Go.RowKit
def lO : Nat → List Nat → List (List Nat)
 | 0, _ => []
 | m + 1, d => if d = [] then [] else d.take 256 :: lO m (d.drop 256)
def chunkL (d : List Nat) : List (List Nat) := lO d.length d
theorem uH : ∀ m n (d : List Nat), d.length ≤ m → d.length ≤ n → lO m d = lO n d
 | 0, n, d, h, _ => by
  obtain rfl : d = [] := zy jo
  cases n <;> simp [lO]
 | m + 1, 0, d, _, h => by
  obtain rfl : d = [] := zy jo
  simp [lO]
 | m + 1, n + 1, d, h1, h2 => by
  unfold lO
  split
  · rfl
  rename_i h
  have : 0 < d.length := List.length_pos_iff.2 h
  rw [uH m n (d.drop 256) (by rw [zq]; omega) (by rw [zq]; omega)]
theorem qV6 : chunkL [] = [] := rfl
theorem lB {d : List Nat} (h : d ≠ []) : chunkL d = d.take 256 :: chunkL (d.drop 256) := by
 have h1 : 0 < d.length := List.length_pos_iff.2 h
 unfold chunkL
 rw [show d.length = (d.length - 1) + 1 by omega, lO, if_neg h, uH (d.length - 1) (d.drop 256).length _ (by rw [zq]; omega) (zk _)]
theorem uM : ∀ k (d : List Nat), (chunkL d).drop k = chunkL (d.drop (256 * k))
 | 0, d => jp
 | k + 1, d => by
  by_cases h : d = []
  · subst h; simp [qV6]
  rw [lB h, zdo, uM k, List.drop_drop]
  congr 2
  omega
theorem fD (d : List Nat) : (chunkL d).length = (d.length + 255) / 256 := by
 have key : ∀ n (d : List Nat), d.length ≤ n → (chunkL d).length = (d.length + 255) / 256 := by
  intro n
  induction n with
  | zero => intro d h; obtain rfl : d = [] := zy jo; rfl
  | succ n ih =>
   intro d h
   by_cases h0 : d = []
   · subst h0; rfl
   have h1 : 0 < d.length := List.length_pos_iff.2 h0
   rw [lB h0, zp, ih (d.drop 256) (by rw [zq]; omega), zq]
   omega
 exact key _ d (zk _)
theorem mB {d : List Nat} {k : Nat} (h : 256 * k < d.length) : (chunkL d).getD k [] = (d.drop (256 * k)).take 256 := by
 have h1 := uM k d
 have h2 : d.drop (256 * k) ≠ [] := fun h0 => by have := congrArg List.length h0; rw [zq] at this; simp at this; omega
 rw [lB h2] at h1
 have h3 : ((chunkL d).drop k)[0]? = some ((d.drop (256 * k)).take 256) := by rw [h1]; rfl
 rw [zdr, zdi] at h3
 rw [zc, h3]
 rfl
theorem nM {d c : List Nat} (h : c ∈ chunkL d) : c.length ≤ 256 ∧ ∀ b ∈ c, b ∈ d := by
 have key : ∀ n (d : List Nat), d.length ≤ n → ∀ c ∈ chunkL d, c.length ≤ 256 ∧ ∀ b ∈ c, b ∈ d := by
  intro n
  induction n with
  | zero => intro d h c hc; obtain rfl : d = [] := zy jo; cases hc
  | succ n ih =>
   intro d h c hc
   by_cases h0 : d = []
   · subst h0; cases hc
   have h1 : 0 < d.length := List.length_pos_iff.2 h0
   rw [lB h0] at hc
   rcases zcp.1 hc with rfl | hc
   · exact ⟨by rw [zj]; omega, fun b hb => zal hb⟩
   obtain ⟨h2, h3⟩ := ih (d.drop 256) (by rw [zq]; omega) c hc
   exact ⟨h2, fun b hb => zbz (h3 b hb)⟩
 exact key _ d (zk _) c h
theorem qP6 {bs : List Nat} (hB : ∀ b ∈ bs, b < 256) : ∀ b ∈ dZ bs 2, b < 256 := by
 rw [qNy]
 by_cases h1 : (qI (gM bs)).length < (if (qI (fK bs)).length < (cD bs).length then qI (fK bs) else cD bs).length
 ·
  rw [if_pos h1]
  exact tT _
 rw [if_neg h1]
 by_cases h2 : (qI (fK bs)).length < (cD bs).length
 ·
  rw [if_pos h2]
  exact tT _
 rw [if_neg h2]
 exact vW _ bs (zk _) hB
noncomputable section
def qB (c : List Nat) : List Nat := dZ c 2
end
theorem qGs {c : List Nat} (h : ∀ b ∈ c, b < 256) : ∀ b ∈ qB c, b < 256 := qP6 h
theorem wF {c : List Nat} (h : c.length ≤ 256) (hB : ∀ b ∈ c, b < 256) : (qB c).length ≤ 517 := by
 have h1 := (zC c jo hB).2.1
 have h2 := tJ _ c (zk _)
 unfold qB
 omega
theorem qJk {c : List Nat} (h : c.length ≤ 256) (hB : ∀ b ∈ c, b < 256) : gZ (qB c) c.length = .ok (c, (qB c).length) := (zC c jo hB).1
noncomputable section
def dG : Nat → List (List Nat) → List Nat
 | _, [] => []
 | o, c :: cs => o :: dG (o + (qB c).length) cs
def rR : Nat → List (List Nat) → Nat
 | o, [] => o
 | o, c :: cs => rR (o + (qB c).length) cs
end
structure En where
 id : Nat
 size : Nat
 sum : Nat
 begins : List Nat
abbrev Bb := Nat × List Nat
noncomputable section
def cW : Nat → List Bb → List En
 | _, [] => []
 | o, x :: l => ⟨x.1, x.2.length, crcM x.2, dG o (chunkL x.2)⟩ :: cW (rR o (chunkL x.2)) l
def kA : Nat → List Bb → Nat
 | o, [] => o
 | o, x :: l => kA (rR o (chunkL x.2)) l
def outM (l : List Bb) : List Nat := l.flatMap fun x => (chunkL x.2).flatMap qB
end
def fX (e : En) : List Nat := qL e.id 8 ++ qL e.size 2 ++ qL e.sum 4 ++ e.begins.flatMap (fun b => qL b 4)
noncomputable section
def bE (l : List Bb) : List Nat := qL l.length 2 ++ (cW 0 l).flatMap fX ++ qL (kA 0 l) 4
def bF (l : List Bb) : List Nat := bE l ++ qL (kA 0 l) 4
def segM (l : List Bb) : List Nat := outM l ++ bF l ++ qL (crcM (bF l)) 4 ++ [115, 101, 97, 108]
end
def nN (l : List Bb) : Prop := (∀ x ∈ l, x.2.length ≤ 4032 ∧ x.1 < 18446744073709551616 ∧ ∀ b ∈ x.2, b < 256) ∧ l.Pairwise (fun a b => a.1 < b.1) ∧ 1 ≤ l.length ∧ l.length ≤ 64
theorem oJ : ∀ (cs : List (List Nat)) o, rR o cs = o + (cs.flatMap qB).length
 | [], o => rfl
 | c :: cs, o => by rw [rR, oJ cs, zn, zb]; omega
theorem qZi : ∀ (l : List Bb) o, kA o l = o + (outM l).length
 | [], o => rfl
 | x :: l, o => by
  rw [kA, qZi l, oJ]
  have e : outM (x :: l) = (chunkL x.2).flatMap qB ++ outM l := rfl
  rw [e, zb]
  omega
theorem kZ : ∀ (l : List Bb) o, (cW o l).length = l.length
 | [], _ => rfl
 | x :: l, o => by rw [cW, zp, kZ l, zp]
theorem mC {x : List Nat} (h : x.length ≤ 4032) : (chunkL x).length ≤ 16 := by rw [fD]; omega
theorem qP7 {cs : List (List Nat)} (h : ∀ c ∈ cs, (qB c).length ≤ 517) : (cs.flatMap qB).length ≤ 517 * cs.length := by
 induction cs with
 | nil => simp
 | cons c cs ih =>
  have h1 := ih (fun c hc => h c (zbs _ hc))
  have h2 := h c zbo
  rw [zn, zb, zp]
  omega
theorem tL {x : Bb} (h : x.2.length ≤ 4032) (hB : ∀ b ∈ x.2, b < 256) : ((chunkL x.2).flatMap qB).length ≤ 8272 := by
 have h1 := qP7 (cs := chunkL x.2) (fun c hc => wF (nM hc).1 (fun b hb => hB b ((nM hc).2 b hb)))
 have h2 := mC h
 omega
theorem lN : ∀ l : List Bb, (∀ x ∈ l, x.2.length ≤ 4032 ∧ x.1 < 18446744073709551616 ∧ ∀ b ∈ x.2, b < 256) → (outM l).length ≤ 8272 * l.length
 | [], _ => zk _
 | x :: l, h => by
  have h1 := lN l (fun y hy => h y (zbs _ hy))
  obtain ⟨h2, _, h3⟩ := h x zbo
  have h4 := tL h2 h3
  have e : outM (x :: l) = (chunkL x.2).flatMap qB ++ outM l := rfl
  rw [e, zb, zp]
  omega
theorem qP8 (l : List Bb) (h : ∀ x ∈ l, ∀ b ∈ x.2, b < 256) : ∀ b ∈ outM l, b < 256 := by
 intro b hb
 obtain ⟨x, hx, hb⟩ := List.mem_flatMap.1 hb
 obtain ⟨c, hc, hb⟩ := List.mem_flatMap.1 hb
 exact qGs (fun z hz => h x hx z ((nM hc).2 z hz)) b hb
end
section
open Go.RowKit
structure Bl where
 id : Nat
 A : Option Addr
 c : Nat
 d : List Nat
def Bl.b (x : Bl) : Bb := (x.id, x.d)
def blC (x : Bl) : List Value := [.int .u64 ((x.id : Nat) : Int), .slice x.A x.d.length x.c]
def BC (l : List Bl) : List Value := l.flatMap blC
theorem qKo (x : Bl) : (blC x).length = 2 := rfl
theorem BC_one (l : List Bl) : ∀ u ∈ BC l, u.oneCell' = true := by
 intro u hu
 obtain ⟨x, _, hx⟩ := List.mem_flatMap.1 hu
 simp only [blC, zcp, zci, or_false] at hx
 rcases hx with rfl | rfl <;> rfl
theorem qGt (a b : List Bl) : BC (a ++ b) = BC a ++ BC b := by simp [BC]
def bl0 : Bl := ⟨0, none, 0, []⟩
theorem qZj : ∀ (L : List Bl) (s : Nat) (_ : s < L.length), ((BC L).drop (s * 2)).take 2 = blC (L.getD s bl0)
 | a :: L, 0, _ => rfl
 | a :: L, s + 1, h => by
  have := qZj L s (by simpa using h)
  rw [show BC (a :: L) = blC a ++ BC L from rfl, show (s + 1) * 2 = (blC a).length + s * 2 by rw [qKo]; omega, zco, zdz]
  exact this
structure RdB (w : World) (A : Option Addr) (n : Nat) (l : List Bl) : Prop where
 len : l.length = n
 rd : Rd w 2 A n (BC l)
 el : ∀ x ∈ l, x.d.length ≤ x.c ∧ x.d.length ≤ 1000000 ∧ x.id < 18446744073709551616 ∧ (∀ b ∈ x.d, b < 256) ∧ Rd w 1 x.A x.d.length (NB x.d)
theorem RdB.frm {w w' : World} {A : Option Addr} {n : Nat} {l : List Bl} (h : RdB w A n l) (k : Frm [] w w') : RdB w' A n l := ⟨h.len, h.rd.frm k jp, fun x hx => by
 obtain ⟨h1, h2, h3, h4, h5⟩ := h.el x hx
 exact ⟨h1, h2, h3, h4, h5.frm k jp⟩⟩
theorem fO {l : List Bl} {i : Nat} (h : i < l.length) : l.getD i bl0 ∈ l := by
 rw [zc, za h]
 exact zw h
theorem RdB.cell {w : World} {A : Option Addr} {n : Nat} {l : List Bl} (h : RdB w A n l) {i : Nat} (hi : i < n) : ∃ ad, A = some ad ∧ ∀ j v, (blC (l.getD i bl0))[j]? = some v → w.cell? ((ad.add (i * 2)).add j) = some v := by
 obtain ⟨ad, h1, hel⟩ := h.rd.elem hi
 rw [qZj l i (by rw [h.len]; exact hi)] at hel
 exact ⟨ad, h1, hel⟩
def xC (l : List Bl) (k : Nat) : Prop := ∀ i, i < k → (l.getD i bl0).d.length ≤ 4032 ∧ (0 < i → (l.getD (i - 1) bl0).id < (l.getD i bl0).id)
def fV (l : List Bl) : Prop := xC l l.length ∧ 1 ≤ l.length ∧ l.length ≤ 64
def okB (l : List Bl) (i : Nat) : Prop := (l.getD i bl0).d.length ≤ 4032 ∧ (0 < i → (l.getD (i - 1) bl0).id < (l.getD i bl0).id)
theorem bR {l : List Bl} {i : Nat} : okB l i ↔ (l.getD i bl0).d.length ≤ 4032 ∧ (0 < i → (l.getD (i - 1) bl0).id < (l.getD i bl0).id) := Iff.rfl
noncomputable section
instance (l : List Bl) : Decidable (fV l) := Classical.propDecidable _
instance (l : List Bl) (i : Nat) : Decidable (okB l i) := Classical.propDecidable _
end
theorem zD (l : List Bl) (k : Nat) : xC l (k + 1) ↔ xC l k ∧ (l.getD k bl0).d.length ≤ 4032 ∧ (0 < k → (l.getD (k - 1) bl0).id < (l.getD k bl0).id) := by
 unfold xC
 constructor
 · intro h; exact ⟨fun i hi => h i jo, h k jo⟩
 rintro ⟨h1, h2⟩ i hi
 by_cases e : i = k
 · subst e; exact h2
 exact h1 i jo
theorem qGu (A : Option Addr) (n c : Nat) (l : List Bl) (w : World) (hn : n ≤ 1000000) (hr : RdB w A n l) :
  Calls Tryz.prog 8 #[.slice A n c] w fun e w' => e = .returned (.bool (decide (fV l))) ∧ qQ w w' := by
 refine VC.calls (nt := 43) (res := #[.tmp 2]) Tryz.func8 rfl Tryz.ntmps8 Tryz.results8 rfl ?_
 refine jS (jR (ja rfl (jO (jN (jv1 0 ?_)))))
 refine jS (jS (jR (jz 0 (jO (jN (jB ?_))))))
 refine VC.loop (σ := Nat) (fun s => [(0, .slice A n c), (3, .int .i64 ((s : Nat) : Int))]) (fun s wr => s ≤ n ∧ xC l s ∧ qQ w wr) (fun s => n - s) 0 (js2 rfl rfl) ⟨jo, fun i h => jo, qQ.refl w⟩ ?_
 rintro i wr ⟨hi, hm, hd⟩
 have hnl := hr.len
 refine jS (jS (jR (jm rfl (jm rfl (je (Run.lenS rfl zaf) (jb rfl rfl (Bin.lssN _ _) (jO (jN (jv3 0 3 7 ?_)))))))))
 refine jD rfl (fun hc1 => ?_) fun hc1 => ?_
 ·
  have hrw := hr.frm (hd.trans (qQ.drew wr)).frm
  obtain ⟨ad, rfl, hel⟩ := hrw.cell hc1
  have hid := (hrw.el _ (fO (jo : i < l.length))).2.2.1
  have hsucc := zD l i
  have hel2 : 0 < i → ∀ j v, (blC (l.getD (i - 1) bl0))[j]? = some v → wr.drew.cell? ((ad.add ((i - 1) * 2)).add j) = some v := fun h0 => by
   obtain ⟨ad2, h1, h2⟩ := hrw.cell (jo : i - 1 < n)
   cases h1
   exact h2
  refine jQ (jN (jv2 0 3 ?_))
  refine jS (jB (jS ?_))
  refine VC.splitR [(0, .slice (some ad) n c), (3, .int .i64 ((i : Nat) : Int))] (qQ wr) 34 (.bool (decide (¬ okB l i))) ?_ ?_
  ·
   refine VC.still jK jK ?_
   refine qM ?_
   refine qM ?_
   refine qE (Run.indexS _ rfl rfl zaf zbl jo) ?_
   refine qE (Run.fieldAddr rfl zag rfl zl jd) ?_
   refine qE (Run.load rfl zt (hel 1 _ rfl)) ?_
   refine qE (Run.lenS rfl ze) ?_
   refine qE (Run.bin rfl rfl (Bin.gtrN _ 4032)) ?_
   by_cases hs16 : 4032 < (l.getD i bl0).d.length
   ·
    refine qM ?_
    refine qU ?_
    refine qU ?_
    refine qU ?_
    refine qW.skU rfl rfl ?_
    refine qW.skU rfl rfl ?_
    refine qW.skU rfl rfl ?_
    refine qW.skU rfl rfl ?_
    refine qW.skU rfl rfl ?_
    refine qW.skU rfl rfl ?_
    refine qW.skU rfl rfl ?_
    refine qW.skU rfl rfl ?_
    refine qW.skU rfl rfl ?_
    refine qW.skU rfl rfl ?_
    refine qW.skU rfl rfl ?_
    refine qW.skU rfl rfl ?_
    refine qU ?_
    refine qE (Run.pickT rfl rfl au) ?_
    refine qW.nil ?_
    refine jN ⟨(js3 (jC (by first | exact (decide_eq_true (show ¬ okB l i from fun h => by have := (bR.1 h).1; omega)).symm | exact (decide_eq_false (show ¬ ¬ okB l i from fun h => h (bR.2 ⟨jo, fun h0 => jo⟩))).symm | exact decide_eq_decide.2 ⟨fun h => show ¬ okB l i from fun hh => by have := (bR.1 hh).2 jo; omega, fun h => by by_cases h3 : (l.getD (i - 1) bl0).id < (l.getD i bl0).id; exact absurd (bR.2 ⟨jo, fun _ => h3⟩) h; omega⟩)) rfl rfl), (qQ.drew _)⟩
   refine qM ?_
   refine qG (Run.mv rfl) ?_
   refine qG (Run.bin rfl rfl (Bin.gtrN _ 0)) ?_
   by_cases hs19 : 0 < i
   ·
    refine qG (Run.mv rfl) ?_
    refine qG (Run.mv rfl) ?_
    refine qG (Run.mv rfl) ?_
    refine qG (Run.bin rfl rfl (Bin.sub_i64 _ 1 jo jo)) ?_
    refine qG (Run.indexS _ rfl rfl zaf zbl jo) ?_
    refine qG (Run.fieldAddr rfl zag rfl zay jd) ?_
    refine qG (Run.load rfl zbu (hel2 jo 0 _ rfl)) ?_
    refine qG (Run.mv rfl) ?_
    refine qG (Run.mv rfl) ?_
    refine qG (Run.indexS _ rfl rfl zaf zbl jo) ?_
    refine qG (Run.fieldAddr rfl zag rfl zay jd) ?_
    refine qG (Run.load rfl zbu (hel 0 _ rfl)) ?_
    refine qG (Run.bin rfl rfl (Bin.geqN _ _)) ?_
    by_cases hs32 : (l.getD i bl0).id ≤ (l.getD (i - 1) bl0).id
    ·
     refine qG (Run.pickT rfl rfl au) ?_
     refine qE (Run.pickF rfl rfl au) ?_
     refine qW.nil ?_
     refine jN ⟨(js3 (jC (by first | exact (decide_eq_true (show ¬ okB l i from fun h => by have := (bR.1 h).1; omega)).symm | exact (decide_eq_false (show ¬ ¬ okB l i from fun h => h (bR.2 ⟨jo, fun h0 => jo⟩))).symm | exact decide_eq_decide.2 ⟨fun h => show ¬ okB l i from fun hh => by have := (bR.1 hh).2 jo; omega, fun h => by by_cases h3 : (l.getD (i - 1) bl0).id < (l.getD i bl0).id; exact absurd (bR.2 ⟨jo, fun _ => h3⟩) h; omega⟩)) rfl rfl), (qQ.drew _)⟩
    refine qG (Run.pickT rfl rfl au) ?_
    refine qE (Run.pickF rfl rfl au) ?_
    refine qW.nil ?_
    refine jN ⟨(js3 (jC (by first | exact (decide_eq_true (show ¬ okB l i from fun h => by have := (bR.1 h).1; omega)).symm | exact (decide_eq_false (show ¬ ¬ okB l i from fun h => h (bR.2 ⟨jo, fun h0 => jo⟩))).symm | exact decide_eq_decide.2 ⟨fun h => show ¬ okB l i from fun hh => by have := (bR.1 hh).2 jo; omega, fun h => by by_cases h3 : (l.getD (i - 1) bl0).id < (l.getD i bl0).id; exact absurd (bR.2 ⟨jo, fun _ => h3⟩) h; omega⟩)) rfl rfl), (qQ.drew _)⟩
   refine qG (Run.mv rfl) ?_
   refine qU ?_
   refine qU ?_
   refine qU ?_
   refine qU ?_
   refine qU ?_
   refine qU ?_
   refine qU ?_
   refine qU ?_
   refine qU ?_
   refine qU ?_
   refine qU ?_
   refine qU ?_
   refine qG (Run.pickF rfl rfl au) ?_
   refine qE (Run.pickF rfl rfl au) ?_
   refine qW.nil ?_
   refine jN ⟨(js3 (jC (by first | exact (decide_eq_true (show ¬ okB l i from fun h => by have := (bR.1 h).1; omega)).symm | exact (decide_eq_false (show ¬ ¬ okB l i from fun h => h (bR.2 ⟨jo, fun h0 => jo⟩))).symm | exact decide_eq_decide.2 ⟨fun h => show ¬ okB l i from fun hh => by have := (bR.1 hh).2 jo; omega, fun h => by by_cases h3 : (l.getD (i - 1) bl0).id < (l.getD i bl0).id; exact absurd (bR.2 ⟨jo, fun _ => h3⟩) h; omega⟩)) rfl rfl), (qQ.drew _)⟩
  intro Γ w9 hΓ hd9
  refine jN (VC.sub _ hΓ ?_)
  refine jD rfl (fun hc2 => ?_) fun hc2 => ?_
  ·
   refine jS (jR (ja rfl (jO (jN (jv1 2 ?_)))))
   refine jT ?_
   refine qC (qN (qN (qC (qN (qD rfl ?_)))))
   have hno : ¬ fV l := fun h => hc2 (by
    have := h.1 i jo
    exact this)
   rw [decide_eq_false hno]
   exact ⟨rfl, hd.trans hd9⟩
  refine jQ ?_
  refine qK (jN ?_)
  refine jv2 0 3 ?_
  refine jR (jm rfl (jb rfl rfl (Bin.add_i64 _ 1 jo) (ja rfl (jO ?_))))
  refine jN ⟨i + 1, (js2 rfl rfl), ?_, ?_⟩
  · exact ⟨jo, hsucc.2 ⟨hm, Classical.not_not.1 hc2⟩, hd.trans hd9⟩
  first | omega | (dsimp only; omega)
 refine jX ?_
 refine qZ (qZ (qP ?_))
 refine jN (jv1 0 ?_)
 refine jS ?_
 refine VC.split1 [] .nil 2 (.bool (decide (1 ≤ n ∧ n ≤ 64))) ?_ ?_
 ·
  refine jR ?_
  refine jm rfl (je (Run.lenS rfl zaf) (jb rfl rfl (Bin.leqN 1 _) ?_))
  by_cases hs37 : 1 ≤ n
  ·
   refine jM ?_
   refine jG ?_
   refine jk (Run.lenS rfl zaf) ?_
   refine jk (Run.bin rfl rfl (Bin.leqN _ 64)) ?_
   by_cases hs41 : n ≤ 64
   ·
    refine je (Run.pickT rfl rfl au) (ja rfl (jO ?_))
    refine jN ⟨(js1 (jC (by first | (simp [*]; done) | (simp; omega)))), rfl⟩
   refine je (Run.pickT rfl rfl au) (ja rfl (jO ?_))
   refine jN ⟨(js1 (jC (by first | (simp [*]; done) | (simp; omega)))), rfl⟩
  refine jM ?_
  refine jU ?_
  refine jU ?_
  refine jU ?_
  refine je (Run.pickF rfl rfl au) (ja rfl (jO ?_))
  refine jN ⟨(js1 (jC (by first | (simp [*]; done) | (simp; omega)))), rfl⟩
 intro Γ hΓ
 refine jN (VC.sub _ hΓ ?_)
 refine jT ?_
 refine qD rfl ?_
 have ei : i = n := jo
 subst ei
 have e : decide (1 ≤ i ∧ i ≤ 64) = decide (fV l) := decide_eq_decide.2 ⟨fun h => ⟨by rw [hnl]; exact hm, jo, jo⟩, fun h => by have := h.2; omega⟩
 rw [e]
 exact ⟨rfl, hd⟩
theorem wA (A : Option Addr) (n c : Nat) (l : List Bl) (w : World) (hn : n ≤ 1000000) (hr : RdB w A n l) :
  Calls Tryz.prog 14 #[.slice A n c] w fun e w' => e = .returned (.bool (decide (fV l))) ∧ Frm [] w w' := by
 refine VC.calls (nt := 40) (res := #[.tmp 2]) Tryz.func14 rfl Tryz.ntmps14 Tryz.results14 rfl ?_
 refine jS (jR (ja rfl (jO (jN (jv1 0 ?_)))))
 refine jS (jS (jR (jm rfl (je (Run.lenS rfl zaf) ?_))))
 refine jx .i64 0 ?_
 refine jO (jN (jB ?_))
 refine VC.loop (σ := Nat) (fun s => [(0, .slice A n c), (5, .slice A n c), (6, .int .i64 ((n : Nat) : Int)), (7, .int .i64 ((s : Nat) : Int))]) (fun s wr => s ≤ n ∧ xC l s ∧ Frm [] w wr) (fun s => n - s) 0 (js4 rfl rfl rfl rfl) ⟨jo, fun i h => jo, Frm.refl _ _⟩ ?_
 rintro i wr ⟨hi, hm, hd⟩
 have hnl := hr.len
 refine jS (jR (jb rfl rfl (Bin.lssN _ _) (jO (jN (jS ?_)))))
 refine jD rfl (fun hc1 => ?_) fun hc1 => ?_
 ·
  have hrw := hr.frm hd
  obtain ⟨ad, rfl, hel⟩ := hrw.cell hc1
  have hid := (hrw.el _ (fO (jo : i < l.length))).2.2.1
  have hid2 := fun h0 : 0 < i => (hrw.el _ (fO (jo : i - 1 < l.length))).2.2.1
  have hsucc := zD l i
  refine jQ (jN (jv4 0 5 6 7 ?_))
  refine jS (jB (jS (jR (jm rfl (je (Run.indexS _ rfl rfl zaf zbl jo) (je (Run.loadA rfl Tryz.isAgg41 zbl hel (by first | rfl | (simp; done))) ?_))))))
  refine Ops.m (qJ.alloc fF) rfl ?_
  rintro _ w1 ⟨rfl, hF1⟩
  refine jA ?_
  refine Ops.st (qR.storeA rfl rfl zbl hF1.blk rfl (by intro v hv; exact BC_one [l.getD i bl0] v (by simpa [BC] using hv))) ?_
  rintro w2 ⟨hb2, hf2, hs2⟩
  have hd := (hd.trans hF1.frm jp).own hf2 (by simp; exact hd.size)
  have hel2 : 0 < i → ∀ j v, (blC (l.getD (i - 1) bl0))[j]? = some v → w2.drew.cell? ((ad.add ((i - 1) * 2)).add j) = some v := fun h0 => by
   obtain ⟨ad2, h1, h2⟩ := (hr.frm (hd.drawn (qQ.drew w2))).cell (jo : i - 1 < n)
   cases h1
   exact h2
  have hb3 := hb2.drawn (qQ.drew w2)
  refine jO (jN (jv6 0 3 4 5 6 7 ?_))
  refine jS ?_
  refine VC.splitR [(0, .slice (some ad) n c), (5, .slice (some ad) n c), (6, .int .i64 ((n : Nat) : Int)), (7, .int .i64 ((i : Nat) : Int))] (qQ w2) 30 (.bool (decide (¬ okB l i))) ?_ ?_
  ·
   refine VC.still jK jK ?_
   refine qE (Run.fieldAddr rfl zag rfl zl jd) ?_
   refine qE (Run.load rfl zt (hb3.cell 1)) ?_
   refine qE (Run.lenS rfl ze) ?_
   refine qE (Run.bin rfl rfl (Bin.gtrN _ 4032)) ?_
   by_cases hs15 : 4032 < (l.getD i bl0).d.length
   ·
    refine qM ?_
    refine qU ?_
    refine qU ?_
    refine qU ?_
    refine qW.skU rfl rfl ?_
    refine qW.skU rfl rfl ?_
    refine qW.skU rfl rfl ?_
    refine qW.skU rfl rfl ?_
    refine qW.skU rfl rfl ?_
    refine qW.skU rfl rfl ?_
    refine qW.skU rfl rfl ?_
    refine qW.skU rfl rfl ?_
    refine qW.skU rfl rfl ?_
    refine qU ?_
    refine qE (Run.pickT rfl rfl au) ?_
    refine qW.nil ?_
    refine jN ⟨(js5 (jC (by first | exact (decide_eq_true (show ¬ okB l i from fun h => by have := (bR.1 h).1; omega)).symm | exact (decide_eq_false (show ¬ ¬ okB l i from fun h => h (bR.2 ⟨jo, fun h0 => jo⟩))).symm | exact decide_eq_decide.2 ⟨fun h => show ¬ okB l i from fun hh => by have := (bR.1 hh).2 jo; omega, fun h => by by_cases h3 : (l.getD (i - 1) bl0).id < (l.getD i bl0).id; exact absurd (bR.2 ⟨jo, fun _ => h3⟩) h; omega⟩)) rfl rfl rfl rfl), (qQ.drew _)⟩
   refine qM ?_
   refine qG (Run.mv rfl) ?_
   refine qG (Run.bin rfl rfl (Bin.gtrN _ 0)) ?_
   by_cases hs18 : 0 < i
   ·
    refine qG (Run.mv rfl) ?_
    refine qG (Run.fieldAddr rfl zag rfl zay jd) ?_
    refine qG (Run.load rfl zbu (hb3.cell 0)) ?_
    refine qG (Run.mv rfl) ?_
    refine qG (Run.mv rfl) ?_
    refine qG (Run.bin rfl rfl (Bin.sub_i64 _ 1 jo jo)) ?_
    refine qG (Run.indexS _ rfl rfl zaf zbl jo) ?_
    refine qG (Run.fieldAddr rfl zag rfl zay jd) ?_
    refine qG (Run.load rfl zbu (hel2 jo 0 _ rfl)) ?_
    refine qG (Run.bin rfl rfl (Bin.leqN _ _)) ?_
    by_cases hs28 : (l.getD i bl0).id ≤ (l.getD (i - 1) bl0).id
    ·
     refine qG (Run.pickT rfl rfl au) ?_
     refine qE (Run.pickF rfl rfl au) ?_
     refine qW.nil ?_
     refine jN ⟨(js5 (jC (by first | exact (decide_eq_true (show ¬ okB l i from fun h => by have := (bR.1 h).1; omega)).symm | exact (decide_eq_false (show ¬ ¬ okB l i from fun h => h (bR.2 ⟨jo, fun h0 => jo⟩))).symm | exact decide_eq_decide.2 ⟨fun h => show ¬ okB l i from fun hh => by have := (bR.1 hh).2 jo; omega, fun h => by by_cases h3 : (l.getD (i - 1) bl0).id < (l.getD i bl0).id; exact absurd (bR.2 ⟨jo, fun _ => h3⟩) h; omega⟩)) rfl rfl rfl rfl), (qQ.drew _)⟩
    refine qG (Run.pickT rfl rfl au) ?_
    refine qE (Run.pickF rfl rfl au) ?_
    refine qW.nil ?_
    refine jN ⟨(js5 (jC (by first | exact (decide_eq_true (show ¬ okB l i from fun h => by have := (bR.1 h).1; omega)).symm | exact (decide_eq_false (show ¬ ¬ okB l i from fun h => h (bR.2 ⟨jo, fun h0 => jo⟩))).symm | exact decide_eq_decide.2 ⟨fun h => show ¬ okB l i from fun hh => by have := (bR.1 hh).2 jo; omega, fun h => by by_cases h3 : (l.getD (i - 1) bl0).id < (l.getD i bl0).id; exact absurd (bR.2 ⟨jo, fun _ => h3⟩) h; omega⟩)) rfl rfl rfl rfl), (qQ.drew _)⟩
   refine qG (Run.mv rfl) ?_
   refine qU ?_
   refine qU ?_
   refine qU ?_
   refine qU ?_
   refine qU ?_
   refine qU ?_
   refine qU ?_
   refine qU ?_
   refine qU ?_
   refine qG (Run.pickF rfl rfl au) ?_
   refine qE (Run.pickF rfl rfl au) ?_
   refine qW.nil ?_
   refine jN ⟨(js5 (jC (by first | exact (decide_eq_true (show ¬ okB l i from fun h => by have := (bR.1 h).1; omega)).symm | exact (decide_eq_false (show ¬ ¬ okB l i from fun h => h (bR.2 ⟨jo, fun h0 => jo⟩))).symm | exact decide_eq_decide.2 ⟨fun h => show ¬ okB l i from fun hh => by have := (bR.1 hh).2 jo; omega, fun h => by by_cases h3 : (l.getD (i - 1) bl0).id < (l.getD i bl0).id; exact absurd (bR.2 ⟨jo, fun _ => h3⟩) h; omega⟩)) rfl rfl rfl rfl), (qQ.drew _)⟩
  intro Γ w9 hΓ hd9
  refine jN (VC.sub _ hΓ ?_)
  refine jD rfl (fun hc2 => ?_) fun hc2 => ?_
  ·
   refine jS (jR (ja rfl (jO (jN (jv1 2 ?_)))))
   refine jT ?_
   refine qC (qN (qN (qC (qN (qD rfl ?_)))))
   have hno : ¬ fV l := fun h => hc2 (by
    have := h.1 i jo
    exact this)
   rw [decide_eq_false hno]
   exact ⟨rfl, hd.drawn hd9⟩
  refine jQ ?_
  refine qK (jN ?_)
  refine jv4 0 5 6 7 ?_
  refine jR (jb rfl rfl (Bin.add_i64 _ 1 jo) (jm rfl (jO ?_)))
  refine jN ⟨i + 1, (js4 rfl rfl rfl rfl), ?_, ?_⟩
  · exact ⟨jo, hsucc.2 ⟨hm, Classical.not_not.1 hc2⟩, hd.drawn hd9⟩
  first | omega | (dsimp only; omega)
 refine jX ?_
 refine qZ (qZ (qP ?_))
 refine jN (jv1 0 ?_)
 refine jS ?_
 refine VC.split1 [] .nil 2 (.bool (decide (1 ≤ n ∧ n ≤ 64))) ?_ ?_
 ·
  refine jR ?_
  refine jm rfl (je (Run.lenS rfl zaf) (jb rfl rfl (Bin.geqN _ 1) ?_))
  by_cases hs34 : 1 ≤ n
  ·
   refine jM ?_
   refine jG ?_
   refine jk (Run.lenS rfl zaf) ?_
   refine jk (Run.bin rfl rfl (Bin.leqN _ 64)) ?_
   by_cases hs38 : n ≤ 64
   ·
    refine je (Run.pickT rfl rfl au) (ja rfl (jO ?_))
    refine jN ⟨(js1 (jC (by first | (simp [*]; done) | (simp; omega)))), rfl⟩
   refine je (Run.pickT rfl rfl au) (ja rfl (jO ?_))
   refine jN ⟨(js1 (jC (by first | (simp [*]; done) | (simp; omega)))), rfl⟩
  refine jM ?_
  refine jU ?_
  refine jU ?_
  refine jU ?_
  refine je (Run.pickF rfl rfl au) (ja rfl (jO ?_))
  refine jN ⟨(js1 (jC (by first | (simp [*]; done) | (simp; omega)))), rfl⟩
 intro Γ hΓ
 refine jN (VC.sub _ hΓ ?_)
 refine jT ?_
 refine qD rfl ?_
 have ei : i = n := jo
 subst ei
 have e : decide (1 ≤ i ∧ i ≤ 64) = decide (fV l) := decide_eq_decide.2 ⟨fun h => ⟨by rw [hnl]; exact hm, jo, jo⟩, fun h => by have := h.2; omega⟩
 rw [e]
 exact ⟨rfl, hd⟩
theorem fH (A : Option Addr) (m c v n : Nat) (bs : List Nat) (w : World) (hm : bs.length = m) (hl : m ≤ 1000000000) (hn1 : 1 ≤ n) (hn8 : n ≤ 8) (hv : v < 256 ^ n) (ho : Own w 5 1 A m c (NB bs)) :
  Calls Tryz.prog 15 #[.slice A m c, .int .u64 ((v : Nat) : Int), .int .i64 ((n : Nat) : Int)] w fun e w' => ∃ B d, e = .returned (.slice B (m + n) d) ∧ Own w' 5 1 B (m + n) d (NB (bs ++ qL v n)) ∧ Frm (ob A) w w' ∧ ∀ x ∈ ob B, x ∈ ob A ∨ w.heap.size ≤ x := by
 refine VC.calls (nt := 18) (res := #[.tmp 6]) Tryz.func15 rfl Tryz.ntmps15 Tryz.results15 rfl ?_
 refine jS (jR (ja rfl (jO (jN (jv3 0 1 2 ?_)))))
 refine jS (jR (jm rfl (jM ?_)))
 refine Ops.cl (jE2 Tryz.call29) (qVm v n _ hn1 hn8 hv) rfl ?_
 rintro e w1 ⟨B, d, rfl, hoB, hf1, _⟩
 refine ⟨_, rfl, ?_⟩
 have ho := ho.frm hf1 jp
 refine jm rfl (je (Run.extract rfl rfl) (je (Run.extract rfl rfl) (ja rfl (ja rfl (jO (jN (jv2 0 7 ?_)))))))
 refine jS (jR (jm rfl (jM ?_)))
 refine Ops.m (qJ.app rfl rfl ze (dD) rfl jd ho hoB.rd (dH _) jo jo) rfl ?_
 rintro _ w2 ⟨B2, d2, rfl, ho2, hf2, hob2⟩
 rw [← eE] at ho2
 refine ja rfl (jO (jN (jv1 6 ?_)))
 refine jT ?_
 refine qD rfl ?_
 refine ⟨B2, d2, rfl, ho2, (hf1.mono jp).trans hf2 (fun x hx => .inl hx), fun x hx => ?_⟩
 rcases hob2 with h | h
 · rw [h] at hx; exact .inl hx
 rw [h, zh] at hx; exact .inr (by have := hf1.size; omega)
def chA (A : Option Addr) (d : List Nat) (k : Nat) : Option Addr × Nat × List Nat := (cP A (256 * k + ((d.drop (256 * k)).take 256).length) (256 * k) 1, ((d.drop (256 * k)).take 256).length, (d.drop (256 * k)).take 256)
def fE (A : Option Addr) (d : List Nat) : List (Option Addr × Nat × List Nat) := (List.range (chunkL d).length).map (chA A d)
theorem qZk (A : Option Addr) (d : List Nat) : (fE A d).length = (chunkL d).length := by simp [fE]
theorem zE (A : Option Addr) (d : List Nat) {k : Nat} (h : k < (chunkL d).length) : (fE A d).take (k + 1) = (fE A d).take k ++ [chA A d k] := by
 unfold fE
 rw [zak]
 congr 1
 rw [zbf, zfi h]
 rfl
theorem tG (A : Option Addr) (d : List Nat) : (fE A d).map (·.2.2) = chunkL d := by
 apply zaq
 intro k
 unfold fE
 rw [zdh, zbf]
 by_cases h : k < (chunkL d).length
 ·
  have h2 : 256 * k < d.length := by rw [fD] at h; omega
  have h3 := mB h2
  rw [zc, za h, zba] at h3
  rw [zfi h, za h, h3]
  rfl
 rw [zr (by rw [zfv]; omega), zr jo]
 rfl
theorem qKp {w : World} {A : Option Addr} {c : Nat} {d : List Nat} (hr : Rd w 1 A d.length (NB d)) (hc : d.length ≤ c) : ∀ x ∈ fE A d, x.2.1 = x.2.2.length ∧ Rd w 1 x.1 x.2.2.length (NB x.2.2) := by
 intro x hx
 unfold fE at hx
 obtain ⟨k, hk, rfl⟩ := List.mem_map.1 hx
 have hk := List.mem_range.1 hk
 have h2 : 256 * k < d.length := by rw [fD] at hk; omega
 have hl : ((d.drop (256 * k)).take 256).length ≤ d.length - 256 * k := by rw [zj, zq]; omega
 have hpos : 0 < ((d.drop (256 * k)).take 256).length := by rw [zj, zq]; omega
 refine ⟨rfl, ?_⟩
 have h3 := oI d (256 * k) ((d.drop (256 * k)).take 256).length jo hr hc
 have h4 : (d.drop (256 * k)).take ((d.drop (256 * k)).take 256).length = (d.drop (256 * k)).take 256 := by
  rw [zj, zq]
  by_cases h5 : 256 ≤ d.length - 256 * k
  · rw [zbc h5]
  rw [Nat.min_eq_right jo, zm (by rw [zq]; omega), zm (by rw [zq]; omega)]
 rw [h4] at h3
 have e : cP A c (256 * k) 1 = cP A (256 * k + ((d.drop (256 * k)).take 256).length) (256 * k) 1 := by
  unfold cP
  rw [if_neg jo, if_neg jo]
 rw [e] at h3
 exact h3
theorem qV7 (A : Option Addr) (c : Nat) (d : List Nat) (g1 g2 : Nat) (hs : d.length ≤ 1000000) (hc : d.length ≤ c) :
  qH2 Tryz.prog 31 #[.pointer (some ⟨g1, 0, none⟩), .pointer (some ⟨g2, 0, none⟩)] (fun x => #[.slice x.1 x.2.2.length x.2.1]) [] [g1, g2] (fun w => Blk w g1 24 #[.slice A d.length c] ∧ Blk w g2 3 #[.int .i64 ((256 : Nat) : Int)]) (fE A d) := by
 rintro l J Jx w hJ hJx ⟨hb1, hb2⟩ hY h0
 have hcl := fD d
 refine VC.calls (nt := 31) (res := #[]) Tryz.func31 rfl Tryz.ntmps31 Tryz.results31 rfl ?_
 refine jS (jR (jz 0 (jO (jN (jB ?_)))))
 refine VC.loop (σ := Nat) (fun s1 => [(0, .func (.yield l) #[] #[]), (1, .pointer (some ⟨g1, 0, none⟩)), (2, .pointer (some ⟨g2, 0, none⟩)), (4, .int .i64 ((256 * s1 : Nat) : Int))]) (fun s1 wr => s1 ≤ (chunkL d).length ∧ Blk wr g1 24 #[.slice A d.length c] ∧ Blk wr g2 3 #[.int .i64 ((256 : Nat) : Int)] ∧ J ((fE A d).take s1) wr) (fun s1 => (chunkL d).length - s1) 0 (js4 rfl rfl rfl rfl) ⟨jo, hb1, hb2, h0⟩ ?_
 rintro k wr ⟨hk, hb1, hb2, hj⟩
 refine jS (jS (jR (jm rfl (jl rfl zt (hb1.cell 0) (je (Run.lenS rfl ze) (jb rfl rfl (Bin.lssN _ _) (jO (jN (jv5 0 1 2 4 9 ?_)))))))))
 refine jD rfl (fun hc1 => ?_) fun hc1 => ?_
 ·
  have hkl : k < (chunkL d).length := jo
  have hpre : ((fE A d).take k ++ [chA A d k]) <+: fE A d := by rw [← zE A d hkl]; exact List.take_prefix _ _
  have hcl2 : ((d.drop (256 * k)).take 256).length = min 256 (d.length - 256 * k) := by rw [zj, zq]
  have hd := qQ.drew wr
  refine jQ (jN (jv4 0 1 2 4 ?_))
  refine jS (jB (jS ?_))
  refine VC.held (fun v => Blk v g1 24 #[.slice A d.length c] ∧ Blk v g2 3 #[.int .i64 ((256 : Nat) : Int)]) jK ?_
  have hS : (fun v => Blk v g1 24 #[.slice A d.length c] ∧ Blk v g2 3 #[.int .i64 ((256 : Nat) : Int)]) wr.drew := ⟨hb1.drawn hd, hb2.drawn hd⟩
  have hj := hJ _ _ _ hj hd.frm
  have hb1 := hb1.drawn hd
  have hb2 := hb2.drawn hd
  generalize wr.drew = wr at *
  refine jH 0 rfl hS (fun w0 hw0 => Run.load rfl zg (hw0.2.cell 0)) ?_
  refine jH 1 rfl hS (fun w0 hw0 => Run.load rfl zt (hw0.1.cell 0)) ?_
  refine jH 2 rfl hS (fun w0 hw0 => Run.mv rfl) ?_
  refine jH 3 rfl hS (fun w0 hw0 => Run.sliceS _ _ rfl ze zai (evB.some_ rfl) evB.none_ jo jo) ?_
  refine jH 4 rfl hS (fun w0 hw0 => Run.lenS rfl ze) ?_
  refine jH 5 rfl hS (fun w0 hw0 => Run.minI rfl rfl) ?_
  have em : (if ((d.length - 256 * k : Nat) : Int) < ((256 : Nat) : Int) then ((d.length - 256 * k : Nat) : Int) else ((256 : Nat) : Int)) = ((((d.drop (256 * k)).take 256).length : Nat) : Int) := by rw [hcl2]; split <;> omega
  rw [em]
  refine jH 6 rfl hS (fun w0 hw0 => Run.asg rfl) ?_
  refine qV.done jK ?_
  refine jN (jv5 0 1 2 4 5 ?_)
  refine jS (jR (jm rfl (jl rfl zt (hb1.cell 0) (jm rfl (jm rfl (jm rfl (jb rfl rfl (Bin.addZ _ _ jo jo) (jm rfl (jm rfl (jb rfl rfl (Bin.addZ _ _ jo jo) (je (Run.slice3 _ _ _ rfl ze zai rfl rfl rfl jo jo jo) ?_)))))))))))
  rw [show 256 * k + ((d.drop (256 * k)).take 256).length - 256 * k = ((d.drop (256 * k)).take 256).length by omega]
  refine Ops.yield rfl rfl (evs.cons rfl evs.nil) ((by simpa using hY ((fE A d).take k) (chA A d k) wr hj hpre : jI Tryz.prog l #[.slice (chA A d k).1 (chA A d k).2.2.length (chA A d k).2.1] wr _)) rfl rfl ?_
  rintro e w1 ⟨hoff, hR0⟩
  obtain ⟨yb, rfl, hR⟩ : ∃ yb : Bool, e = .returned (.bool yb) ∧ ((yb = true ∧ J ((fE A d).take k ++ [chA A d k]) w1) ∨ (yb = false ∧ Jx ((fE A d).take k ++ [chA A d k]) w1)) := by
   rcases hR0 with ⟨rfl, h⟩ | ⟨rfl, h⟩
   · exact ⟨true, rfl, .inl ⟨rfl, h⟩⟩
   exact ⟨false, rfl, .inr ⟨rfl, h⟩⟩
  refine ⟨_, rfl, ?_⟩
  have hb1 := hoff.blk hb1 jp
  have hb2 := hoff.blk hb2 jp
  refine je (Run.not rfl) (jO (jN (jv5 0 1 2 4 30 ?_)))
  refine VC.condB rfl (fun hc2 => ?_) (fun hc2 => ?_)
  ·
   refine jT ?_
   refine qC (qN (qN (qC (end0 ?_))))
   exact ⟨⟨_, rfl⟩, .inr ⟨_, (hR.resolve_left (fun h => by rw [h.1] at hc2; simp at hc2)).2⟩⟩
  refine jQ ?_
  refine qK (jN ?_)
  refine jv4 0 1 2 4 ?_
  refine jR (jm rfl (jl rfl zg (hb2.cell 0) (jb rfl rfl (Bin.add_i64 _ _ jo) (ja rfl (jO ?_)))))
  refine jN ⟨k + 1, (js4 rfl rfl rfl (by rw [show 256 * (k + 1) = 256 * k + 256 by omega]; rfl)), ?_, ?_⟩
  · exact ⟨jo, hb1, hb2, by rw [zE A d hkl]; exact (hR.resolve_right (fun h => by rw [h.1] at hc2; simp at hc2)).2⟩
  first | omega | (dsimp only; omega)
 refine jX ?_
 refine qZ (qZ (qP ?_))
 refine eK ?_
 have hke : (fE A d).take k = fE A d := zm (by rw [qZk]; omega)
 rw [hke] at hj
 exact ⟨⟨_, rfl⟩, .inl hj⟩
theorem qV8 (A : Option Addr) (n c : Nat) (w : World) : Calls Tryz.prog 17 #[.slice A n c, .int .i64 ((256 : Nat) : Int)] w fun e w' => Frm [] w w' ∧ ∃ g1 g2, e = .returned (.func (.func 31) #[] #[.pointer (some ⟨g1, 0, none⟩), .pointer (some ⟨g2, 0, none⟩)]) ∧ Blk w' g1 24 #[.slice A n c] ∧ Blk w' g2 3 #[.int .i64 ((256 : Nat) : Int)] ∧ w.heap.size ≤ g1 ∧ w.heap.size ≤ g2 := by
 refine VC.calls (nt := 9) (res := #[.tmp 4]) Tryz.func17 rfl Tryz.ntmps17 Tryz.results17 rfl ?_
 refine jS (jR ?_)
 refine Ops.m (qJ.box rfl) rfl ?_
 rintro _ w1 ⟨rfl, hF1⟩
 have hb1 := hF1.blk
 refine Ops.m (qJ.box rfl) rfl ?_
 rintro _ w2 ⟨rfl, hF2⟩
 have hb1 := hb1.frm hF2.frm jp
 have hb2 := hF2.blk
 refine ja rfl (jO (jN (jv2 2 3 ?_)))
 refine jS (jS (jR (jl rfl zg (hb2.cell 0) (jb rfl rfl (Bin.lssN _ 1) (jO (jN (jv3 2 3 6 ?_)))))))
 refine VC.condF rfl jd ?_
 refine jQ (jN (jv2 2 3 ?_))
 refine jS (jR (je (Run.mkFunc evs.nil (evs.cons rfl (evs.cons rfl evs.nil))) (ja rfl (jO (jN (jv1 4 ?_))))))
 refine jT ?_
 refine qD rfl ?_
 exact ⟨hF1.frm.trans hF2.frm jp, _, _, rfl, hb1, hb2, zk _, hF1.frm.size⟩
end
section
open Go.RowKit
section
variable {P : Program} {Γ : Env} {w : World} {dst : Option Tmp} {pos : String} {after : Array Edge} {g : Option (Nat × Bool)} {T : TypeId}
theorem Own.based {w : World} {e size n c B : Nat} {A : Option Addr} {xs : List Value} (h : Own w e size A n c xs) (hA : ∀ x ∈ ob A, B ≤ x) : w.ownsRow B e size (.slice A n c) n xs := by
 refine ⟨h.1, ?_⟩
 rcases h.cases with ⟨rfl, h1, h2, _⟩ | ⟨g, cur, rfl, h1, h2, h3, h4, h5⟩
 · exact .inl ⟨by rw [h1, h2], h1⟩
 exact .inr ⟨g, c, cur, rfl, hA g (by simp [ob]), h1, h2, h3, h4, h5⟩
theorem qJ.appStr {t u e : TypeId} {x y : Operand} {n cap : Nat} (B : Nat) {A : Option Addr} {xs : List Value} {q : List UInt8} (hx : ev? Γ x = some (.slice A n cap)) (hy : ev? Γ y = some (encStr q))
  (ht : P.underlying t = some (.slice e)) (hu : P.underlying u = some .string) (hi : (P.info? e).map (fun i => (i.zero, i.size, i.bytes)) = some (some (.int .u8 0), 1, 1))
  (ho : Own w e 1 A n cap xs) (hA : ∀ x ∈ ob A, B ≤ x) (hB : B ≤ w.heap.size) (hb : n + q.length ≤ 140737488355328) :
  qJ P ⟨dst, .call ⟨.builtin .append, #[x, y], #[t, u]⟩, T, pos, after, g⟩ Γ w
   (fun r w' => ∃ A' c', r = .slice A' (n + q.length) c' ∧ Own w' e 1 A' (n + q.length) c' (xs ++ U8 q) ∧ Frm (ob A) w w' ∧ ∀ x ∈ ob A', B ≤ x) := fun ρ hρ => by
 obtain ⟨i0, hi0, hz0, hz1, hz2⟩ := info_parts hi
 have ex : (execOp ρ ⟨dst, .call ⟨.builtin .append, #[x, y], #[t, u]⟩, T, pos, after, g⟩).run P w = ((Builtin.append_ #[t, u] T #[.slice A n cap, .string ⟨q.toArray⟩]).run P w).andThen fun a w => .ok (.value a) w := by
  simp [execOp, resolve, invoke, builtin, hρ _ _ hx, hρ _ _ hy, encStr]
 have hsz : (⟨q.toArray⟩ : ByteArray).size = q.length := by show q.toArray.size = _; simp
 obtain ⟨v', w', hrun, hown, hgr, hnil⟩ := Lib.run_append_own_string (P := P) (w := w) B t u T e i0 ht hu hi0 hz0 hz1 hz2 (.slice A n cap) n xs (ho.based hA) ⟨q.toArray⟩ (by rw [hsz]; unfold maxLen; omega) (by rw [hsz]; exact hb) hB
 rw [hsz] at hown
 have hc : Lib.strCells ⟨q.toArray⟩ = U8 q := by simp [Lib.strCells, U8]
 rw [hc] at hown
 have hblk : ∀ (X : Option Addr) (p q : Nat), (Value.slice X p q).ownBlock.toList = ob X := by intro X p q; cases X <;> rfl
 have hfr : Frm (ob A) w w' := by
  have := Frm.grown hgr
  rwa [hblk] at this
 rcases hown.2 with ⟨rfl, h0⟩ | ⟨g', cap', cur', rfl, h1, h2, h3, h4, h5, h6⟩
 · refine ⟨_, w', by rw [ex, hrun]; rfl, none, 0, by rw [h0], ⟨hown.1, .inl ⟨by rw [h0], h0⟩⟩, hfr, by simp [ob]⟩
 exact ⟨_, w', by rw [ex, hrun]; rfl, some ⟨g', 0, none⟩, cap', rfl, ⟨hown.1, .inr ⟨g', cap', cur', rfl, zau _, h2, h3, h4, h5, h6⟩⟩, hfr, by simp [ob]; exact h1⟩
end
end
section
open Go.RowKit
theorem zF : ∀ (cs : List (List Nat)) (o : Nat) (c : List Nat), dG o (cs ++ [c]) = dG o cs ++ [rR o cs]
 | [], o, c => rfl
 | x :: cs, o, c => by rw [zdg, dG, zF cs, dG, rR, zdg]
theorem zA : ∀ (l : List Bb) (o : Nat) (x : Bb), cW o (l ++ [x]) = cW o l ++ [⟨x.1, x.2.length, crcM x.2, dG (kA o l) (chunkL x.2)⟩]
 | [], o, x => rfl
 | y :: l, o, x => by rw [zdg, cW, zA l, cW, kA, zdg]
theorem zI (l : List Bb) (x : Bb) : outM (l ++ [x]) = outM l ++ (chunkL x.2).flatMap qB := by simp [outM]
theorem mQ (l : List Bb) : kA 0 l = (outM l).length := by rw [qZi]; omega
noncomputable section
def kI (n : Nat) (l : List Bb) : List Nat := qL n 2 ++ (cW 0 l).flatMap fX
def chO (o : List Nat) (cs : List (List Nat)) : List Nat := o ++ cs.flatMap qB
def chD (o d : List Nat) (cs : List (List Nat)) : List Nat := d ++ (dG o.length cs).flatMap (fun b => qL b 4)
end
theorem qM8 (o : List Nat) (cs : List (List Nat)) (c : List Nat) : chO o (cs ++ [c]) = chO o cs ++ qB c := by simp [chO]
theorem qM9 (o d : List Nat) (cs : List (List Nat)) (c : List Nat) : chD o d (cs ++ [c]) = chD o d cs ++ qL (chO o cs).length 4 := by
 unfold chD chO
 rw [zF, oJ, zz, zdn, zi, zb]
theorem qGv (n : Nat) (l : List Bb) (x : Bb) : kI n (l ++ [x]) = chD (outM l) (kI n l ++ qL x.1 8 ++ qL x.2.length 2 ++ qL (crcM x.2) 4) (chunkL x.2) := by
 unfold kI chD
 rw [zA, zz, zdn, mQ]
 unfold fX
 simp only [zi]
theorem qP9 (l : List Bb) (x : Bb) : chO (outM l) (chunkL x.2) = outM (l ++ [x]) := by rw [zI]; rfl
def Two (b : Nat) (W : World) (gO gD : Nat) (o d : List Nat) : Prop := ∃ A1 c1 A2 c2, Blk W gO 24 #[.slice A1 o.length c1] ∧ Blk W gD 24 #[.slice A2 d.length c2] ∧ Own W 5 1 A1 o.length c1 (NB o) ∧ Own W 5 1 A2 d.length c2 (NB d) ∧ (∀ x ∈ ob A1, x ∉ ob A2 ∧ b ≤ x) ∧ (∀ x ∈ ob A2, b ≤ x)
theorem Two.frm {b : Nat} {W W' : World} {gO gD : Nat} {o d : List Nat} {S : List Nat} (h : Two b W gO gD o d) (k : Frm S W W') (hS : ∀ x ∈ S, ∀ o, W.heap[x]? = some o → o.isCells = false) : Two b W' gO gD o d := by
 obtain ⟨A1, c1, A2, c2, h1, h2, h3, h4, h5, h6⟩ := h
 have hb : ∀ {g : Nat} {t : TypeId} {cs : Array Value}, Blk W g t cs → g ∉ S := fun hb hx => by
  have := hS _ hx _ hb
  cases this
 have ho : ∀ {e size n c : Nat} {A : Option Addr} {xs : List Value}, Own W e size A n c xs → ∀ x ∈ ob A, x ∉ S := fun ho x hx hx2 => by
  rcases ho.cases with ⟨rfl, _⟩ | ⟨g, cur, rfl, hb', _⟩
  · cases hx
  simp only [ob, zh] at hx
  subst hx
  exact hb hb' hx2
 exact ⟨A1, c1, A2, c2, h1.frm k (hb h1), h2.frm k (hb h2), h3.frm k (ho h3), h4.frm k (ho h4), h5, h6⟩
def MKs (b : Nat) (W : World) (ds : List Nat) : Prop := ds.Nodup ∧ ∀ d ∈ ds, dP W d ∧ b ≤ d
theorem MKs.frm {b : Nat} {W W' : World} {ds S : List Nat} (h : MKs b W ds) (k : Frm S W W') (hS : ∀ d ∈ ds, d ∉ S) : MKs b W' ds := ⟨h.1, fun d hd => ⟨(h.2 d hd).1.frm k (hS d hd), (h.2 d hd).2⟩⟩
theorem qRa (e : En) : ∀ b ∈ fX e, b < 256 := by
 intro b hb
 unfold fX at hb
 rcases List.mem_append.1 hb with hb | hb
 ·
  rcases List.mem_append.1 hb with hb | hb
  ·
   rcases List.mem_append.1 hb with hb | hb
   · exact gB _ _ b hb
   exact gB _ _ b hb
  exact gB _ _ b hb
 obtain ⟨x, _, hb⟩ := List.mem_flatMap.1 hb
 exact gB _ _ b hb
theorem xD (l : List Bb) : ∀ b ∈ bF l, b < 256 := by
 intro b hb
 unfold bF bE at hb
 rcases List.mem_append.1 hb with hb | hb
 ·
  rcases List.mem_append.1 hb with hb | hb
  ·
   rcases List.mem_append.1 hb with hb | hb
   · exact gB _ _ b hb
   obtain ⟨x, _, hb⟩ := List.mem_flatMap.1 hb
   exact qRa x b hb
  exact gB _ _ b hb
 exact gB _ _ b hb
theorem cL : ∀ (cs : List (List Nat)) (o : Nat), (dG o cs).length = cs.length
 | [], _ => rfl
 | c :: cs, o => by rw [dG, zp, cL cs, zp]
theorem tH : ∀ L : List Nat, (L.flatMap fun b => qL b 4).length = 4 * L.length
 | [] => rfl
 | a :: L => by rw [zn, zb, tH L, bN, zp]; omega
theorem qZl (e : En) : (fX e).length = 14 + 4 * e.begins.length := by
 unfold fX
 simp only [zb, bN, tH]
theorem mD : ∀ (l : List Bb) (o : Nat), (∀ x ∈ l, x.2.length ≤ 4032) → ((cW o l).flatMap fX).length ≤ 78 * l.length
 | [], _, _ => zk _
 | x :: l, o, h => by
  have h1 := mD l (rR o (chunkL x.2)) (fun y hy => h y (zbs _ hy))
  have h2 := mC (h x zbo)
  rw [cW, zn, zb, qZl, cL, zp]
  omega
theorem qV9 (n : Nat) (l : List Bb) (h : ∀ x ∈ l, x.2.length ≤ 4032) : (kI n l).length ≤ 2 + 78 * l.length := by
 have := mD l 0 h
 unfold kI
 rw [zb, bN]
 omega
theorem rS {l : List Bl} (h : fV l) {i : Nat} (hi : i < l.length) : (l.getD i bl0).d.length ≤ 4032 := (h.1 i hi).1
theorem rT (A : Option Addr) (n c : Nat) (l : List Bl) (w : World) (hn : n ≤ 1000000) (hr : RdB w A n l) (hmay : fV l) :
  Calls Tryz.prog 7 #[.slice A n c] w fun e w' => ∃ B d, e = .returned (.tuple #[.slice B (segM (l.map Bl.b)).length d, .int .i64 ((0 : Nat) : Int)]) ∧ Own w' 5 1 B (segM (l.map Bl.b)).length d (NB (segM (l.map Bl.b))) ∧ Frm [] w w' ∧ ∀ x ∈ ob B, w.heap.size ≤ x := by
 have hnl := hr.len
 have h64 : n ≤ 64 := by have := hmay.2.2; omega
 have h1n : 1 ≤ n := by have := hmay.2.1; omega
 refine DV.calls (nt := 73) (res := #[.tmp 2, .tmp 3]) Tryz.func7 rfl Tryz.ntmps7 Tryz.results7 rfl ?_
 refine DV.seq ?_
 refine DV.vc ?_
 refine jR (ja rfl (jz 0 (jO ?_)))
 refine bI ?_
 refine DV.seq ?_
 refine DV.seq ?_
 refine DV.vc ?_
 refine jR (jM ?_)
 refine Ops.cl (jE1 Tryz.call14) (wA A n c l w hn hr) rfl ?_
 rintro e w1 ⟨rfl, K⟩
 refine ⟨_, rfl, ?_⟩
 rw [decide_eq_true hmay]
 refine je (Run.not rfl) (jO ?_)
 refine bI ?_
 refine DV.sub [(0, _), (2, _), (3, _), (13, _)] (js4 rfl rfl rfl rfl) ?_
 refine DV.vc ?_
 refine VC.condF rfl (rfl) ?_
 refine jQ ?_
 refine bI ?_
 refine DV.sub [(0, _), (2, _), (3, _)] (js3 rfl rfl rfl) ?_
 refine DV.seq ?_
 refine DV.vc ?_
 refine jR ?_
 refine Ops.m (qJ.alloc qQp) rfl ?_
 rintro _ w2 ⟨rfl, hF2⟩
 have hbO : Blk w2 w1.heap.size 24 #[.slice none 0 0] := hF2.blk
 have hs2 := hF2.size
 have hk1 := K.size
 have K := K.trans hF2.frm jp
 obtain ⟨gO, hgO⟩ : ∃ g, g = w1.heap.size := ⟨_, rfl⟩
 rw [← hgO] at hbO hs2
 rw [← hgO]
 have hO1 : w.heap.size ≤ gO := jo
 refine jO ?_
 refine bI ?_
 refine DV.seq ?_
 refine DV.vc ?_
 refine jR (jm rfl (je (Run.lenS rfl zaf) (je (Run.convN _ rfl zab zaa (by simp only [bmax]; omega)) ?_)))
 refine Ops.cl (jE3 zfs) (fH none 0 0 n 2 [] w2 rfl jo jo jo jo (Own.nil _ _ _)) rfl ?_
 rintro e w3 ⟨B, d, rfl, hoB, hf3, huB⟩
 have hf3 : Frm [] w2 w3 := hf3
 rw [zbm] at hoB
 refine ⟨_, rfl, ?_⟩
 have hbO := hbO.frm hf3 jp
 have hk2 := K.size
 have hBs : ∀ x ∈ ob B, w2.heap.size ≤ x := fun x hx => by rcases huB x hx with h | h; cases h; exact h
 have K := K.trans hf3 jp
 have hlO := hbO.lt
 have hlB := hoB.lt
 refine Ops.m (qJ.alloc qQp) rfl ?_
 rintro _ w4 ⟨rfl, hF4⟩
 have hbO := hbO.frm hF4.frm jp
 have hoB := hoB.frm hF4.frm jp
 have hb4 := hF4.blk
 have hk3 := hf3.size
 have hs4 := hF4.size
 have K := K.trans hF4.frm jp
 obtain ⟨gD, hgD⟩ : ∃ g, g = w3.heap.size := ⟨_, rfl⟩
 rw [← hgD] at hb4 hs4
 rw [← hgD]
 have hOD : gO < gD := jo
 refine Ops.st (qR.store rfl rfl zl hb4 rfl rfl) ?_
 rintro w5 ⟨hbD, hf5, hs5⟩
 have hbO := hbO.frm hf5 (by simp; omega)
 have hoB := hoB.frm hf5 (fun x hx => by have := hlB x hx; simp; omega)
 have hbD : Blk w5 gD 24 #[.slice B (0 + 2) d] := hbD
 have K := K.own hf5 (by simp; omega)
 have hd0 : kI n (((l.map Bl.b)).take 0) = qL n 2 := by simp [kI, cW]
 have hT : Two w.heap.size w5 gO gD (outM ((l.map Bl.b).take 0)) (kI n ((l.map Bl.b).take 0)) := by
  rw [hd0]
  refine ⟨none, 0, B, d, hbO, ?_, Own.nil _ _ _, ?_, by simp [ob], fun x hx => by have := hBs x hx; omega⟩
  · rw [bN]; exact hbD
  rw [bN]; exact hoB
 have hlD := hbD.lt
 refine jO ?_
 refine bI ?_
 refine DV.sub [(0, _), (2, _), (3, _), (4, _), (5, _)] (js5 rfl rfl rfl rfl rfl) ?_
 refine DV.seq ?_
 refine DV.seq ?_
 refine DV.vc ?_
 refine jR (jm rfl (je (Run.lenS rfl zaf) ?_))
 refine jx .i64 0 ?_
 refine jO ?_
 refine bI ?_
 refine DV.sub [(2, _), (3, _), (4, _), (5, _), (18, _), (19, _), (20, _)] (js7 rfl rfl rfl rfl rfl rfl rfl) ?_
 refine DV.block ?_
 refine DV.loop (σ := Nat × List Nat) (fun s => s.2) (fun s => [(2, _), (3, _), (4, .pointer (some ⟨gO, 0, none⟩)), (5, .pointer (some ⟨gD, 0, none⟩)), (18, .slice A n c), (19, .int .i64 ((n : Nat) : Int)), (20, .int .i64 ((s.1 : Nat) : Int))]) (fun s wr => s.1 ≤ n ∧ Two w.heap.size wr gO gD (outM ((l.map Bl.b).take s.1)) (kI n ((l.map Bl.b).take s.1)) ∧ Frm [] w wr ∧ MKs w.heap.size wr s.2 ∧ gD < wr.heap.size) (fun s => n - s.1) (0, []) rfl (js7 rfl rfl rfl rfl rfl rfl rfl) ⟨jo, hT, K, ⟨List.nodup_nil, jp⟩, hlD⟩ ?_
 rintro ⟨i, ds⟩ wr ⟨hi, hT, K, hM, hgD2⟩
 dsimp only at hi hT hM ⊢
 have hoL : (outM ((l.map Bl.b).take i)).length ≤ 8272 * i := by
  have h1 := lN ((l.map Bl.b).take i) (fun x hx => by
   obtain ⟨y, hy, rfl⟩ := List.mem_map.1 (zal hx)
   obtain ⟨q1, q2, q3, q4, _⟩ := hr.el y hy
   obtain ⟨k, hk, rfl⟩ := zbd hy
   have := rS hmay hk
   rw [zc, za hk] at this
   exact ⟨this, q3, q4⟩)
  have h2 : ((l.map Bl.b).take i).length ≤ i := by rw [zj]; omega
  have h3 : 8272 * ((l.map Bl.b).take i).length ≤ 8272 * i := Nat.mul_le_mul_left _ h2
  omega
 have hdL : (kI n ((l.map Bl.b).take i)).length ≤ 2 + 78 * i := by
  have h1 := qV9 n ((l.map Bl.b).take i) (fun x hx => by
   obtain ⟨y, hy, rfl⟩ := List.mem_map.1 (zal hx)
   obtain ⟨k, hk, rfl⟩ := zbd hy
   have := rS hmay hk
   rw [zc, za hk] at this
   exact this)
  have h2 : ((l.map Bl.b).take i).length ≤ i := by rw [zj]; omega
  have h3 : 78 * ((l.map Bl.b).take i).length ≤ 78 * i := Nat.mul_le_mul_left _ h2
  omega
 refine DV.seq ?_
 refine DV.vc ?_
 refine jR (jb rfl rfl (Bin.lssN _ _) (jO ?_))
 refine bI ?_
 refine DV.seq ?_
 refine DV.vc ?_
 refine jD rfl (fun hc2 => ?_) fun hc2 => ?_
 ·
  have hrw := hr.frm K
  obtain ⟨ad, rfl, hel⟩ := hrw.cell hc2
  have hym := fO (jo : i < l.length)
  obtain ⟨hyc, _, hyid, hyb, hyr⟩ := hr.el _ hym
  have hy40 := rS hmay (jo : i < l.length)
  have hts : (l.map Bl.b).take (i + 1) = (l.map Bl.b).take i ++ [(l.getD i bl0).b] := by
   rw [zak, zbf, za (jo : i < l.length), zc, za (jo : i < l.length)]
   rfl
  generalize l.getD i bl0 = y at hel hym hyc hyid hyb hyr hy40 hts
  have hbl := tL (x := y.b) hy40 hyb
  have hcrc := lJ y.d
  refine jQ ?_
  refine bI ?_
  refine DV.sub [(2, _), (3, _), (4, _), (5, _), (18, _), (19, _), (20, _)] (js7 rfl rfl rfl rfl rfl rfl rfl) ?_
  refine DV.seq ?_
  refine DV.block ?_
  refine DV.seq ?_
  refine DV.vc ?_
  refine jR (je (Run.indexS _ rfl rfl zaf zbl jo) (je (Run.loadA rfl Tryz.isAgg41 zbl hel (by first | rfl | (simp; done))) ?_))
  refine Ops.m (qJ.alloc fF) rfl ?_
  rintro _ w6 ⟨rfl, hF6⟩
  have hk6 := K.size
  refine Ops.st (qR.storeA rfl rfl zbl hF6.blk rfl (by intro v hv; exact BC_one [y] v (by simpa [BC] using hv))) ?_
  rintro w7 ⟨hb7, hf7, hs7⟩
  have hf67 : Frm [] wr w7 := hF6.frm.own hf7 jp
  have hT := hT.frm hf67 jp
  have hM := hM.frm hf67 jp
  have K := K.trans hf67 jp
  have hgD2 : gD < w7.heap.size := zav hgD2 hf67.size
  obtain ⟨g7, hg7⟩ : ∃ g, g = wr.heap.size := ⟨_, rfl⟩
  rw [← hg7] at hb7
  rw [← hg7]
  obtain ⟨A1, c1, A2, c2, hb1, hb2, hO1, hO2, hd1, hd2⟩ := hT
  generalize hov : outM ((l.map Bl.b).take i) = o0 at *
  generalize hdv : kI n ((l.map Bl.b).take i) = d0 at *
  refine jO ?_
  refine bI ?_
  refine DV.sub [(2, _), (3, _), (4, _), (5, _), (7, _), (18, _), (19, _), (20, _)] (js8 rfl rfl rfl rfl rfl rfl rfl rfl) ?_
  refine DV.seq ?_
  refine DV.vc ?_
  refine VC.heldL 14 (fun v => Blk v gD 24 #[.slice A2 d0.length c2] ∧ Blk v g7 41 (blC y).toArray) jK ?_
  have hS : (fun v => Blk v gD 24 #[.slice A2 d0.length c2] ∧ Blk v g7 41 (blC y).toArray) w7.drew := ⟨hb2.drawn (qQ.drew _), hb7.drawn (qQ.drew _)⟩
  have hb1 := hb1.drawn (qQ.drew w7)
  have hO1 := hO1.drawn (qQ.drew w7)
  have hO2 := hO2.drawn (qQ.drew w7)
  have hM := hM.frm (qQ.drew w7).frm jp
  have K := K.drawn (qQ.drew w7)
  have hgD2 : gD < w7.drew.heap.size := hgD2
  refine jH 0 rfl hS (fun w0 hw0 => Run.load rfl zt (hw0.1.cell 0)) ?_
  refine jH 1 rfl hS (fun w0 hw0 => Run.fieldAddr rfl zag rfl zay jd) ?_
  refine jH 2 rfl hS (fun w0 hw0 => Run.load rfl zbu (hw0.2.cell 0)) ?_
  refine jH 4 rfl hS (fun w0 hw0 => Run.fieldAddr rfl zag rfl zl jd) ?_
  refine jH 5 rfl hS (fun w0 hw0 => Run.load rfl zt (hw0.2.cell 1)) ?_
  refine jH 6 rfl hS (fun w0 hw0 => Run.lenS rfl ze) ?_
  refine jH 7 rfl hS (fun w0 hw0 => Run.convN _ rfl zab zaa (by simp only [bmax]; omega)) ?_
  refine jH 9 rfl hS (fun w0 hw0 => Run.fieldAddr rfl zag rfl zl jd) ?_
  refine jH 10 rfl hS (fun w0 hw0 => Run.load rfl zt (hw0.2.cell 1)) ?_
  refine qV.cl 3 rfl jK (jE3 zfs) (fH A2 d0.length c2 y.id 8 d0 _ (by simp only [zb, bN]) jo jo jo (zav hyid jd) hO2) trivial rfl rfl ?_
  rintro e w8 ⟨B1, e1, rfl, hoB, hfB, huB⟩
  have hb1 := hb1.frm hfB (hO2.ne_blk hb1 jd)
  have hS := And.intro (hS.1.frm hfB (hO2.ne_blk hS.1 jd)) (hS.2.frm hfB (hO2.ne_blk hS.2 jd))
  have hO1l := hO1.lt
  have hO1 := hO1.frm hfB (fun x hx hx2 => (hd1 x hx).1 hx2)
  have hM := hM.frm hfB (fun d hd => (hM.2 d hd).1.ne_own hO2)
  have hks0 := K.size
  have hgD2 : gD < w8.heap.size := zav hgD2 hfB.size
  have K := K.own hfB hd2
  have hd1 : ∀ x ∈ ob A1, x ∉ ob B1 ∧ w.heap.size ≤ x := fun x hx => ⟨fun hx2 => by
   rcases huB x hx2 with h | h
   · exact (hd1 x hx).1 h
   have := hO1l x hx; omega, (hd1 x hx).2⟩
  have hd2 : ∀ x ∈ ob B1, w.heap.size ≤ x := fun x hx => by
   rcases huB x hx with h | h
   · exact hd2 x h
   omega
  have hO2 := hoB
  refine ⟨_, rfl, hS, ?_⟩
  refine qV.cl 8 rfl jK (jE3 zfs) (fH B1 (d0.length + 8) e1 y.d.length 2 (d0 ++ qL y.id 8) _ (by simp only [zb, bN]) jo jo jo jo hO2) trivial rfl rfl ?_
  rintro e w9 ⟨B2, e2, rfl, hoB, hfB, huB⟩
  have hb1 := hb1.frm hfB (hO2.ne_blk hb1 jd)
  have hS := And.intro (hS.1.frm hfB (hO2.ne_blk hS.1 jd)) (hS.2.frm hfB (hO2.ne_blk hS.2 jd))
  have hO1l := hO1.lt
  have hO1 := hO1.frm hfB (fun x hx hx2 => (hd1 x hx).1 hx2)
  have hM := hM.frm hfB (fun d hd => (hM.2 d hd).1.ne_own hO2)
  have hks0 := K.size
  have hgD2 : gD < w9.heap.size := zav hgD2 hfB.size
  have K := K.own hfB hd2
  have hd1 : ∀ x ∈ ob A1, x ∉ ob B2 ∧ w.heap.size ≤ x := fun x hx => ⟨fun hx2 => by
   rcases huB x hx2 with h | h
   · exact (hd1 x hx).1 h
   have := hO1l x hx; omega, (hd1 x hx).2⟩
  have hd2 : ∀ x ∈ ob B2, w.heap.size ≤ x := fun x hx => by
   rcases huB x hx with h | h
   · exact hd2 x h
   omega
  have hO2 := hoB
  refine ⟨_, rfl, hS, ?_⟩
  refine qV.cl 11 rfl jK (jE1 Tryz.call16) (nA y.A y.c y.d.length y.d _ rfl jo hyb (hyr.frm K jp)) trivial rfl rfl ?_
  rintro e w10 ⟨rfl, hf10⟩
  have hS := And.intro (hS.1.frm hf10 jp) (hS.2.frm hf10 jp)
  have hb1 := hb1.frm hf10 jp
  have hO1 := hO1.frm hf10 jp
  have hO2 := hO2.frm hf10 jp
  have hM := hM.frm hf10 jp
  have K := K.trans hf10 jp
  have hgD2 : gD < w10.heap.size := zav hgD2 hf10.size
  refine ⟨_, rfl, hS, ?_⟩
  refine qV.r1 12 rfl jK hS (Run.convN _ rfl zfc zaa (by simp only [bmax]; omega)) trivial rfl rfl ?_
  refine qV.cl 13 rfl jK (jE3 zfs) (fH B2 (d0.length + 8 + 2) e2 (crcM y.d) 4 (d0 ++ qL y.id 8 ++ qL y.d.length 2) _ (by simp only [zb, bN]) jo jo jo jo hO2) trivial rfl rfl ?_
  rintro e w11 ⟨B3, e3, rfl, hoB, hfB, huB⟩
  have hb1 := hb1.frm hfB (hO2.ne_blk hb1 jd)
  have hS := And.intro (hS.1.frm hfB (hO2.ne_blk hS.1 jd)) (hS.2.frm hfB (hO2.ne_blk hS.2 jd))
  have hO1l := hO1.lt
  have hO1 := hO1.frm hfB (fun x hx hx2 => (hd1 x hx).1 hx2)
  have hM := hM.frm hfB (fun d hd => (hM.2 d hd).1.ne_own hO2)
  have hks0 := K.size
  have hgD2 : gD < w11.heap.size := zav hgD2 hfB.size
  have K := K.own hfB hd2
  have hd1 : ∀ x ∈ ob A1, x ∉ ob B3 ∧ w.heap.size ≤ x := fun x hx => ⟨fun hx2 => by
   rcases huB x hx2 with h | h
   · exact (hd1 x hx).1 h
   have := hO1l x hx; omega, (hd1 x hx).2⟩
  have hd2 : ∀ x ∈ ob B3, w.heap.size ≤ x := fun x hx => by
   rcases huB x hx with h | h
   · exact hd2 x h
   omega
  have hO2 := hoB
  refine ⟨_, rfl, hS, ?_⟩
  refine qV.stL rfl jK (qR.store rfl rfl zl hS.1 rfl rfl) trivial rfl ?_
  rintro w12 ⟨hbD, hf12, hs12⟩
  have hT : Two w.heap.size w12 gO gD o0 (d0 ++ qL y.id 8 ++ qL y.d.length 2 ++ qL (crcM y.d) 4) := by
   have hlen : (d0 ++ qL y.id 8 ++ qL y.d.length 2 ++ qL (crcM y.d) 4).length = d0.length + 8 + 2 + 4 := by simp only [zb, bN]
   refine ⟨A1, c1, B3, e3, hb1.frm hf12 (by simp; omega), ?_, hO1.frm hf12 (fun x hx hx2 => by rw [zh] at hx2; subst hx2; exact hO1.ne_blk hS.1 jd hx), ?_, hd1, hd2⟩
   · rw [hlen]; exact hbD
   rw [hlen]; exact hO2.frm hf12 (fun x hx hx2 => by rw [zh] at hx2; subst hx2; exact hO2.ne_blk hS.1 jd hx)
  have hb7 := hS.2.frm hf12 (by simp; omega)
  have hM := hM.frm hf12 (fun d hd => by simp; exact (hM.2 d hd).1.ne_blk hS.1)
  have K := K.own hf12 (by simp; omega)
  have hgD2 : gD < w12.heap.size := jo
  clear hO1 hO2 hb1
  refine qV.done jK ?_
  refine bI ?_
  refine DV.sub [(2, _), (3, _), (4, _), (5, _), (7, _), (18, _), (19, _), (20, _)] (js8 rfl rfl rfl rfl rfl rfl rfl rfl) ?_
  refine DV.seq ?_
  refine DV.vc ?_
  refine jR (jf rfl zag rfl zl (jl rfl zt (hb7.cell 1) ?_))
  refine Ops.cl (jE2 Tryz.call17) (qV8 y.A y.d.length y.c w12) rfl ?_
  rintro e w13 ⟨hf13, g1, g2, rfl, hg1, hg2, hg1n, hg2n⟩
  refine ⟨_, rfl, ?_⟩
  have hT := hT.frm hf13 jp
  have hM := hM.frm hf13 jp
  have K := K.trans hf13 jp
  have hks := hf13.size
  have hl1 := hg1.lt
  have hl2 := hg2.lt
  generalize hdv2 : d0 ++ qL y.id 8 ++ qL y.d.length 2 ++ qL (crcM y.d) 4 = d1 at *
  refine jO ?_
  refine bI ?_
  refine DV.sub [(2, _), (3, _), (4, _), (5, _), (18, _), (19, _), (20, _), (40, _)] (js8 rfl rfl rfl rfl rfl rfl rfl rfl) ?_
  refine DV.block ?_
  have hMlt : ∀ d ∈ ds, d < w13.heap.size := fun d hd => (Array.getElem?_eq_some_iff.1 (hM.2 d hd).1).1
  have hKs := K.size
  refine DV.range (ps := [41]) (fun (x : Option Addr × Nat × List Nat) => [.slice x.1 x.2.2.length x.2.1]) (qV7 y.A y.c y.d g1 g2 jo hyc) rfl Tryz.call31 (fun _ => rfl) rfl (fun pre W => Two w.heap.size W gO gD (chO o0 (pre.map (·.2.2))) (chD o0 d1 (pre.map (·.2.2))) ∧ Frm [] w W ∧ MKs w.heap.size W ds ∧ Blk W g1 24 #[.slice y.A y.d.length y.c] ∧ Blk W g2 3 #[.int .i64 ((256 : Nat) : Int)] ∧ w13.heap.size ≤ W.heap.size) (fun _ _ _ => False) (fun x => [(4, .pointer (some ⟨gO, 0, none⟩)), (5, .pointer (some ⟨gD, 0, none⟩)), (8, .slice x.1 x.2.2.length x.2.1)]) ?_ ?_ ?_ ?_ ?_ ?_ ?_ ?_ ?_ ?_ ?_
  ·
   rintro pre W W' S ⟨h1, h2, h3, h4, h5, h6⟩ hf hS
   exact ⟨h1.frm hf (fun x hx => ((hS x hx).resolve_left jp).2), h2.nc hf hS jp hKs, h3.frm hf (fun d hd hd2 => by have := ((hS d hd2).resolve_left jp).1; have := hMlt d hd; omega), h4.frm hf (h4.nc hS jp), h5.frm hf (h5.nc hS jp), zo h6 hf.size⟩
  · exact fun _ _ _ _ _ h => h.elim
  · exact fun W hf => ⟨hg1.frm hf jp, hg2.frm hf jp⟩
  · simp
  · simp; omega
  · exact ⟨by simpa [chO, chD, dG] using hT, K, hM, hg1, hg2, zk _⟩
  ·
   intro l x W
   refine jv3 4 5 41 ?_
   refine jR (ja rfl (jO ?_))
   refine jN ⟨rfl, (js3 rfl rfl rfl)⟩
  ·
   rintro l' pre x W ⟨hT, K, hM, hg1, hg2, hsz0⟩ hpre hsz hmk
   have hxm : x ∈ fE y.A y.d := hpre.subset jp
   obtain ⟨hxc, hxr⟩ := qKp (hyr.frm K jp) hyc x hxm
   have hxd : x.2.2 ∈ chunkL y.d := by rw [← tG y.A y.d]; exact zel hxm
   obtain ⟨hx256, hxin⟩ := nM hxd
   have hxb : ∀ b ∈ x.2.2, b < 256 := fun b hb => hyb b (hxin b hb)
   have hco : (chO o0 (pre.map (·.2.2))).length ≤ 600000 := by
    obtain ⟨t, ht⟩ := hpre
    have h1 := congrArg (List.map (·.2.2)) ht
    rw [tG, zby, zby] at h1
    have h2 : (((pre.map (·.2.2)).flatMap qB)).length ≤ ((chunkL y.d).flatMap qB).length := by
     rw [← h1]
     simp only [zz, zb]
     omega
    have h3 : ((chunkL y.d).flatMap qB).length ≤ 8272 := hbl
    unfold chO
    rw [zb]
    omega
   have hcd : (chD o0 d1 (pre.map (·.2.2))).length ≤ 100000 := by
    obtain ⟨t, ht⟩ := hpre
    have h1 := congrArg List.length ht
    rw [qZk, zb, zb] at h1
    have h2 : (chunkL y.d).length ≤ 16 := mC hy40
    unfold chD
    rw [zb, tH, cL, zu, ← hdv2]
    simp only [zb, bN]
    omega
   have hsn1 := qM8 o0 (pre.map (·.2.2)) x.2.2
   have hsn2 := qM9 o0 d1 (pre.map (·.2.2)) x.2.2
   have hmp : (pre ++ [x]).map (·.2.2) = pre.map (·.2.2) ++ [x.2.2] := jp
   obtain ⟨A1, c1, A2, c2, hb1, hb2, hO1, hO2, hd1, hd2⟩ := hT
   generalize chO o0 (pre.map (·.2.2)) = co at *
   generalize chD o0 d1 (pre.map (·.2.2)) = cd at *
   have hbO0 := hb1
   have hbD0 := hb2
   have hO10 := hO1
   have hO20 := hO2
   have hg10 := hg1
   have hg20 := hg2
   have KB := Frm.refl (ob A1 ++ ob A2 ++ [gO, gD]) W
   have hKW := K.size
   refine jB (jS (jR (jl rfl zt (hb2.cell 0) (jl rfl zt (hb1.cell 0) (je (Run.lenS rfl ze) (je (Run.convN _ rfl zab zaa (by simp only [bmax]; omega)) ?_))))))
   refine Ops.cl (jE3 zfs) (fH A2 _ c2 co.length 4 cd _ rfl jo jo jo jo hO2) rfl ?_
   rintro e W1 ⟨B, e4, rfl, hoB, hfB, huB⟩
   refine ⟨_, rfl, ?_⟩
   have hb1 := hb1.frm hfB (hO20.ne_blk hbO0 jd)
   have hb2 := hb2.frm hfB (hO20.ne_blk hbD0 jd)
   have hO1 := hO1.frm hfB (fun x hx hx2 => (hd1 x hx).1 hx2)
   have hg1 := hg1.frm hfB (hO20.ne_blk hg1 jd)
   have hg2 := hg2.frm hfB (hO20.ne_blk hg2 jd)
   have hM := hM.frm hfB (fun d hd => (hM.2 d hd).1.ne_own hO20)
   have K := K.own hfB hd2
   have KB := KB.trans hfB (fun x hx => .inl (by simp [hx]))
   have hd1 : ∀ x ∈ ob A1, x ∉ ob B ∧ w.heap.size ≤ x := fun x hx => ⟨fun hx2 => by
    rcases huB x hx2 with h | h
    · exact (hd1 x hx).1 h
    have := hO10.lt x hx; omega, (hd1 x hx).2⟩
   have hdB : ∀ x ∈ ob B, w.heap.size ≤ x ∧ (x ∈ ob A2 ∨ W.heap.size ≤ x) := fun x hx => by
    rcases huB x hx with h | h
    · exact ⟨hd2 x h, .inl h⟩
    exact ⟨jo, .inr h⟩
   refine Ops.st (qR.store rfl rfl zl hb2 rfl rfl) ?_
   rintro W2 ⟨hbD, hf2, hs2⟩
   have hb1 := hb1.frm hf2 (by simp; omega)
   have hO1 := hO1.frm hf2 (fun x hx hx2 => by rw [zh] at hx2; subst hx2; exact hO1.ne_blk hb2 jd hx)
   have hoB := hoB.frm hf2 (fun x hx hx2 => by rw [zh] at hx2; subst hx2; exact hoB.ne_blk hb2 jd hx)
   have hg1 := hg1.frm hf2 (by simp; omega)
   have hg2 := hg2.frm hf2 (by simp; omega)
   have hM := hM.frm hf2 (fun d hd => by simp; exact (hM.2 d hd).1.ne_blk hb2)
   have K := K.own hf2 (by simp; omega)
   have KB := KB.trans hf2 (fun x hx => .inl (by simp at hx; simp [hx]))
   refine jO (jN (jv2 4 8 ?_))
   refine jS (jR (jM ?_))
   refine Ops.cl (jE1 Tryz.call18) (qGq x.1 x.2.1 x.2.2 W2 jo jo hxb (qKp (hyr.frm K jp) hyc x hxm).2) rfl ?_
   rintro e W3 ⟨Bs, cs, rfl, hos, hf3, _⟩
   refine ⟨_, rfl, ?_⟩
   have hb1 := hb1.frm hf3 jp
   have hbD := hbD.frm hf3 jp
   have hO1 := hO1.frm hf3 jp
   have hoB := hoB.frm hf3 jp
   have hg1 := hg1.frm hf3 jp
   have hg2 := hg2.frm hf3 jp
   have hM := hM.frm hf3 jp
   have K := K.trans hf3 jp
   have KB := KB.trans hf3 jp
   have hsl := wF hx256 hxb
   have hos : Own W3 5 1 Bs (qB x.2.2).length cs (NB (qB x.2.2)) := hos
   have es : (dZ x.2.2 2).length = (qB x.2.2).length := rfl
   rw [es]
   refine jm rfl (je (Run.extract rfl rfl) (je (Run.extract rfl rfl) (ja rfl (ja rfl (jO (jN (jv2 4 9 ?_)))))))
   refine jR (jl rfl zt (hb1.cell 0) (jM ?_))
   refine Ops.m (qJ.app rfl rfl ze (dD) rfl jd hO1 hos.rd (dH _) jo jo) rfl ?_
   rintro _ W4 ⟨B4, e5, rfl, ho4, hf4, hob4⟩
   rw [← eE] at ho4
   have hb1' := hb1.frm hf4 (hO1.ne_blk hb1 jd)
   have hbD := hbD.frm hf4 (hO1.ne_blk hbD jd)
   have hoB0 := hoB.lt
   have hoB := hoB.frm hf4 (fun x hx hx2 => (hd1 x hx2).1 hx)
   have hg1 := hg1.frm hf4 (hO1.ne_blk hg1 jd)
   have hg2 := hg2.frm hf4 (hO1.ne_blk hg2 jd)
   have hM := hM.frm hf4 (fun d hd => (hM.2 d hd).1.ne_own hO1)
   have hK3 := K.size
   have K := K.own hf4 (fun x hx => (hd1 x hx).2)
   have KB4 := KB.trans hf4 (fun x hx => .inl (by simp [hx]))
   have hd4 : ∀ x ∈ ob B4, x ∉ ob B ∧ w.heap.size ≤ x := fun x hx => by
    rcases hob4 with h | h
    · rw [h] at hx; exact hd1 x hx
    rw [h, zh] at hx
    subst hx
    refine ⟨fun hx2 => ?_, hK3⟩
    have := (hoB0 : ∀ x ∈ ob B, x < W3.heap.size) _ hx2
    omega
   refine Ops.st (qR.store rfl rfl zl hb1' rfl rfl) ?_
   rintro W5 ⟨hbO5, hf5b, hs5b⟩
   refine jO ?_
   refine qK (?_)
   have hK5 := K.own hf5b (by simp; omega)
   have hlenO : (co ++ qB x.2.2).length = co.length + (qB x.2.2).length := zb
   have hlenD : (cd ++ qL co.length 4).length = cd.length + 4 := by rw [zb, bN]
   refine ⟨⟨ob A1 ++ ob A2 ++ [gO, gD], KB4.trans hf5b (fun x hx => .inl (by simp at hx; simp [hx])), fun b hb => ?_⟩, ?_⟩
   ·
    rcases List.mem_append.1 hb with hb | hb
    ·
     rcases List.mem_append.1 hb with hb | hb
     · exact ⟨by simp; exact ⟨fun h => hO10.ne_blk hg10 jd (h ▸ hb), fun h => hO10.ne_blk hg20 jd (h ▸ hb)⟩, hO10.isC b hb⟩
     exact ⟨by simp; exact ⟨fun h => hO20.ne_blk hg10 jd (h ▸ hb), fun h => hO20.ne_blk hg20 jd (h ▸ hb)⟩, hO20.isC b hb⟩
    simp only [zcp, zci, or_false] at hb
    rcases hb with rfl | rfl
    · exact ⟨by simp; omega, hbO0.isC⟩
    exact ⟨by simp; omega, hbD0.isC⟩
   dsimp only
   rw [hmp, hsn1, hsn2]
   refine ⟨⟨B4, e5, B, e4, ?_, ?_, ?_, ?_, hd4, fun x hx => (hdB x hx).1⟩, hK5, hM.frm hf5b (fun d hd => by simp; exact (hM.2 d hd).1.ne_blk hb1'), hg1.frm hf5b (by simp; omega), hg2.frm hf5b (by simp; omega), by have := KB4.size; omega⟩
   · rw [hlenO]; exact hbO5
   · rw [hlenD]; exact hbD.frm hf5b (by simp; omega)
   · rw [hlenO]; exact ho4.frm hf5b (fun x hx hx2 => by rw [zh] at hx2; subst hx2; exact ho4.ne_blk hb1' jd hx)
   rw [hlenD]; exact hoB.frm hf5b (fun x hx hx2 => by rw [zh] at hx2; subst hx2; exact hoB.ne_blk hb1' jd hx)
  ·
   rintro W ⟨hT, K, hM, hg1, hg2, hsz0⟩ hsz hmk
   rw [tG] at hT
   refine uD (uD (bI ?_))
   refine DV.sub [(2, _), (3, _), (4, _), (5, _), (18, _), (19, _), (20, _)] (js7 rfl rfl rfl rfl rfl rfl rfl) ?_
   refine DV.vc ?_
   refine jR (jb rfl rfl (Bin.add_i64 _ 1 jo) (jm rfl (jO ?_)))
   refine bI ⟨(i + 1, w13.heap.size :: ds), rfl, (js7 rfl rfl rfl rfl rfl rfl rfl), ?_, ?_⟩
   ·
    have e1 : outM ((l.map Bl.b).take (i + 1)) = chO o0 (chunkL y.d) := by rw [hts, ← qP9, hov]; rfl
    have e2 : kI n ((l.map Bl.b).take (i + 1)) = chD o0 d1 (chunkL y.d) := by rw [hts, qGv, hov, hdv, ← hdv2]; rfl
    rw [← e1, ← e2] at hT
    exact ⟨by dsimp only; omega, hT, K, ⟨List.nodup_cons.2 ⟨fun h => by have := hMlt _ h; omega, hM.1⟩, fun d hd => by
     rcases zcp.1 hd with rfl | hd
     · exact ⟨hmk, hKs⟩
     exact hM.2 d hd⟩, jo⟩
   first | omega | (dsimp only; omega)
  · exact fun _ _ h => h.elim
  exact fun _ _ _ h => h.elim
 have ei : i = n := jo
 subst ei
 rw [zm (by rw [zu]; omega)] at hT hoL hdL
 have hoE := mQ (l.map Bl.b)
 obtain ⟨A1, c1, A2, c2, hb1, hb2, hO1, hO2, hd1, hd2⟩ := hT
 generalize hov : outM (l.map Bl.b) = out at *
 generalize hdv : kI i (l.map Bl.b) = dir at *
 refine jX ?_
 refine qJ2 (qJ2 (qXb ?_))
 refine bI ?_
 refine DV.sub [(4, _), (5, _)] (js2 rfl rfl) ?_
 refine DV.seq ?_
 refine DV.vc ?_
 refine VC.heldL 9 (fun v => Blk v gD 24 #[.slice A2 dir.length c2] ∧ Blk v gO 24 #[.slice A1 out.length c1]) jK ?_
 have hS : (fun v => Blk v gD 24 #[.slice A2 dir.length c2] ∧ Blk v gO 24 #[.slice A1 out.length c1]) wr.drew := ⟨hb2.drawn (qQ.drew _), hb1.drawn (qQ.drew _)⟩
 have hO1 := hO1.drawn (qQ.drew wr)
 have hO2 := hO2.drawn (qQ.drew wr)
 have hM := hM.frm (qQ.drew wr).frm jp
 have K := K.drawn (qQ.drew wr)
 refine jH 0 rfl hS (fun w0 hw0 => Run.load rfl zt (hw0.1.cell 0)) ?_
 refine jH 1 rfl hS (fun w0 hw0 => Run.load rfl zt (hw0.2.cell 0)) ?_
 refine jH 2 rfl hS (fun w0 hw0 => Run.lenS rfl ze) ?_
 refine jH 3 rfl hS (fun w0 hw0 => Run.convN _ rfl zab zaa (by simp only [bmax]; omega)) ?_
 refine jH 5 rfl hS (fun w0 hw0 => Run.load rfl zt (hw0.2.cell 0)) ?_
 refine jH 6 rfl hS (fun w0 hw0 => Run.lenS rfl ze) ?_
 refine jH 7 rfl hS (fun w0 hw0 => Run.convN _ rfl zab zaa (by simp only [bmax]; omega)) ?_
 refine qV.cl 4 rfl jK (jE3 zfs) (fH A2 dir.length c2 out.length 4 dir _ (by simp only [zb, bN]) jo jo jo jo hO2) trivial rfl rfl ?_
 rintro e w8 ⟨B1, e1, rfl, hoB, hfB, huB⟩
 have hS := And.intro (hS.1.frm hfB (hO2.ne_blk hS.1 jd)) (hS.2.frm hfB (hO2.ne_blk hS.2 jd))
 have hO1l := hO1.lt
 have hO1 := hO1.frm hfB (fun x hx hx2 => (hd1 x hx).1 hx2)
 have hM := hM.frm hfB (fun d hd => (hM.2 d hd).1.ne_own hO2)
 have hks0 := K.size
 have K := K.own hfB hd2
 have hd1 : ∀ x ∈ ob A1, x ∉ ob B1 ∧ w.heap.size ≤ x := fun x hx => ⟨fun hx2 => by
  rcases huB x hx2 with h | h
  · exact (hd1 x hx).1 h
  have := hO1l x hx; omega, (hd1 x hx).2⟩
 have hd2 : ∀ x ∈ ob B1, w.heap.size ≤ x := fun x hx => by
  rcases huB x hx with h | h
  · exact hd2 x h
  omega
 have hO2 := hoB
 refine ⟨_, rfl, hS, ?_⟩
 refine qV.cl 8 rfl jK (jE3 zfs) (fH B1 (dir.length + 4) e1 out.length 4 (dir ++ qL out.length 4) _ (by simp only [zb, bN]) jo jo jo jo hO2) trivial rfl rfl ?_
 rintro e w9 ⟨B2, e2, rfl, hoB, hfB, huB⟩
 have hS := And.intro (hS.1.frm hfB (hO2.ne_blk hS.1 jd)) (hS.2.frm hfB (hO2.ne_blk hS.2 jd))
 have hO1l := hO1.lt
 have hO1 := hO1.frm hfB (fun x hx hx2 => (hd1 x hx).1 hx2)
 have hM := hM.frm hfB (fun d hd => (hM.2 d hd).1.ne_own hO2)
 have hks0 := K.size
 have K := K.own hfB hd2
 have hd1 : ∀ x ∈ ob A1, x ∉ ob B2 ∧ w.heap.size ≤ x := fun x hx => ⟨fun hx2 => by
  rcases huB x hx2 with h | h
  · exact (hd1 x hx).1 h
  have := hO1l x hx; omega, (hd1 x hx).2⟩
 have hd2 : ∀ x ∈ ob B2, w.heap.size ≤ x := fun x hx => by
  rcases huB x hx with h | h
  · exact hd2 x h
  omega
 have hO2 := hoB
 refine ⟨_, rfl, hS, ?_⟩
 refine qV.stL rfl jK (qR.store rfl rfl zl hS.1 rfl rfl) trivial rfl ?_
 rintro w10 ⟨hbD, hf10, hs10⟩
 have hbO := hS.2.frm hf10 (by simp; omega)
 have hO1 := hO1.frm hf10 (fun x hx hx2 => by rw [zh] at hx2; subst hx2; exact hO1.ne_blk hS.1 jd hx)
 have hO2 := hO2.frm hf10 (fun x hx hx2 => by rw [zh] at hx2; subst hx2; exact hO2.ne_blk hS.1 jd hx)
 have hM := hM.frm hf10 (fun d hd => by simp; exact (hM.2 d hd).1.ne_blk hS.1)
 have K := K.own hf10 (by simp; omega)
 have hdA : dir ++ qL out.length 4 ++ qL out.length 4 = bF (l.map Bl.b) := by
  unfold bF bE
  rw [mQ, hov, ← hdv]
  unfold kI
  rw [zu, hnl]
 have hdl : (bF (l.map Bl.b)).length = dir.length + 4 + 4 := by rw [← hdA]; simp only [zb, bN]
 rw [hdA] at hO2
 have hdb := xD (l.map Bl.b)
 refine qV.done jK ?_
 refine bI ?_
 refine DV.sub [(4, _), (5, _)] (js2 rfl rfl) ?_
 refine DV.seq ?_
 refine DV.vc ?_
 refine VC.held (fun v => Blk v gD 24 #[.slice B2 (dir.length + 4 + 4) e2] ∧ Blk v gO 24 #[.slice A1 out.length c1]) jK ?_
 have hS : (fun v => Blk v gD 24 #[.slice B2 (dir.length + 4 + 4) e2] ∧ Blk v gO 24 #[.slice A1 out.length c1]) w10.drew := ⟨hbD.drawn (qQ.drew _), hbO.drawn (qQ.drew _)⟩
 have hO1 := hO1.drawn (qQ.drew w10)
 have hO2 := hO2.drawn (qQ.drew w10)
 have hM := hM.frm (qQ.drew w10).frm jp
 have K := K.drawn (qQ.drew w10)
 refine jH 0 rfl hS (fun w0 hw0 => Run.load rfl zt (hw0.2.cell 0)) ?_
 refine jH 1 rfl hS (fun w0 hw0 => Run.load rfl zt (hw0.1.cell 0)) ?_
 refine jH 3 rfl hS (fun w0 hw0 => Run.load rfl zt (hw0.1.cell 0)) ?_
 refine qV.m 2 rfl jK (qJ.app rfl rfl ze (dD) rfl jd hO1 hO2.rd (dH _) jo jo) trivial rfl rfl ?_
 rintro _ w11 ⟨B3, e3, rfl, ho3, hf11, hob3⟩
 rw [← eE] at ho3
 have hS := And.intro (hS.1.frm hf11 (hO1.ne_blk hS.1 jd)) (hS.2.frm hf11 (hO1.ne_blk hS.2 jd))
 have hO2 := hO2.frm hf11 (fun x hx hx2 => (hd1 x hx2).1 hx)
 have hM := hM.frm hf11 (fun d hd => (hM.2 d hd).1.ne_own hO1)
 have hk10 := K.size
 have hu3 : ∀ x ∈ ob B3, w.heap.size ≤ x := fun x hx => by
  rcases hob3 with h | h
  · rw [h] at hx; exact (hd1 x hx).2
  rw [h, zh] at hx; omega
 have K := K.own hf11 (fun x hx => (hd1 x hx).2)
 refine ⟨hS, ?_⟩
 refine qV.cl 4 rfl jK (jE1 Tryz.call16) (nA B2 e2 (dir.length + 4 + 4) (bF (l.map Bl.b)) _ hdl jo hdb hO2.rd) trivial rfl rfl ?_
 rintro e w12 ⟨rfl, hf12⟩
 have hS := And.intro (hS.1.frm hf12 jp) (hS.2.frm hf12 jp)
 have ho3 := ho3.frm hf12 jp
 have hM := hM.frm hf12 jp
 have K := K.trans hf12 jp
 have hcl := lJ (bF (l.map Bl.b))
 refine ⟨_, rfl, hS, ?_⟩
 refine jH 5 rfl hS (fun w0 hw0 => Run.convN _ rfl zfc zaa (by simp only [bmax]; omega)) ?_
 refine qV.cl 6 rfl jK (jE3 zfs) (fH B3 _ e3 (crcM (bF (l.map Bl.b))) 4 (out ++ bF (l.map Bl.b)) _ (by rw [zb, hdl]) jo jo jo jo ho3) trivial rfl rfl ?_
 rintro e w13 ⟨B4, e4, rfl, ho4, hf13, hu4⟩
 have hS := And.intro (hS.1.frm hf13 (ho3.ne_blk hS.1 jd)) (hS.2.frm hf13 (ho3.ne_blk hS.2 jd))
 have hM := hM.frm hf13 (fun d hd => (hM.2 d hd).1.ne_own ho3)
 have hk12 := K.size
 have hu4 : ∀ x ∈ ob B4, w.heap.size ≤ x := fun x hx => by
  rcases hu4 x hx with h | h
  · exact hu3 x h
  omega
 have K := K.own hf13 hu3
 refine ⟨_, rfl, hS, ?_⟩
 refine qV.m 7 rfl jK (qJ.appStr (q := [115, 101, 97, 108]) w.heap.size rfl rfl ze zdq (dD) ho4 hu4 K.size (by simp; omega)) trivial rfl rfl ?_
 rintro _ w14 ⟨B5, e5, rfl, ho5, hf14, hu5⟩
 have hS := And.intro (hS.1.frm hf14 (ho4.ne_blk hS.1 jd)) (hS.2.frm hf14 (ho4.ne_blk hS.2 jd))
 have hM := hM.frm hf14 (fun d hd => (hM.2 d hd).1.ne_own ho4)
 have K := K.own hf14 hu4
 have hseg : out ++ bF (l.map Bl.b) ++ qL (crcM (bF (l.map Bl.b))) 4 ++ [115, 101, 97, 108] = segM (l.map Bl.b) := by unfold segM; rw [hov]
 have hsl : (segM (l.map Bl.b)).length = out.length + (dir.length + 4 + 4) + 4 + 4 := by rw [← hseg]; simp only [zb, bN, hdl]; rfl
 have hU8 : U8 [115, 101, 97, 108] = NB [115, 101, 97, 108] := rfl
 rw [hU8, ← eE, hseg] at ho5
 refine ⟨hS, ?_⟩
 refine jH 8 rfl hS (fun w0 hw0 => Run.asg rfl) ?_
 refine qV.take (v := .int .i64 ((0 : Nat) : Int)) 9 rfl jK jK jK hS (fun w0 hw0 => Run.asg rfl) trivial rfl rfl ?_
 refine qV.done jK ?_
 refine bI ?_
 refine DV.sub [(2, _), (3, _)] (js2 rfl rfl) ?_
 refine DV.vc (jT ?_)
 refine sV hM.1 (fun d hd => (hM.2 d hd).1) (fun wz hsh => ?_)
 have ho5 := ho5.frm hsh (fun x hx hx2 => (hM.2 x hx2).1.ne_own ho5 hx)
 have K := K.own hsh (fun x hx => (hM.2 x hx).2)
 refine cV rfl rfl ?_
 rw [hsl]
 exact ⟨B5, e5, rfl, ho5, K, hu5⟩
end
section
open Go.RowKit
section
variable {P : Program} {Γ : Env} {w : World} {dst : Option Tmp} {pos : String} {after : Array Edge} {g : Option (Nat × Bool)} {T : TypeId}
theorem qJ.mark {t e : TypeId} {x : Operand} {gb n c : Nat} {cs : Array Value} (hx : ev? Γ x = some (.slice (some ⟨gb, 0, none⟩) n c)) (ht : P.underlying t = some (.slice e)) (he : P.underlying e = some (.int .u8)) (hb : Blk w gb e cs) :
  qJ P ⟨dst, .convert t t x, T, pos, after, g⟩ Γ w (fun r w' => r = .slice (some ⟨gb, 0, none⟩) n c ∧ Fro w' gb e cs ∧ Frm [gb] w w') := fun ρ hρ => by
 have hsh : w.shape? gb = some (e, cs.size) := by
  unfold Blk at hb
  unfold World.shape?
  rw [hb]
 refine ⟨.slice (some ⟨gb, 0, none⟩) n c, w.freeze ⟨gb, cs.size, none⟩ 1, ?_, rfl, ?_, ?_⟩
 · simp [execOp, hρ _ _ hx, convert, run_underlying ht, run_underlying he, markStringish, hsh]
 ·
  unfold Blk at hb
  unfold Fro World.freeze
  rw [if_neg jd]
  show (w.heap.modify gb _)[gb]? = _
  rw [zgc, if_pos rfl, hb]
  rfl
 refine ⟨?_, ?_, ?_, ?_, ?_⟩
 · unfold World.freeze; rw [if_neg jd]
 · unfold World.freeze; rw [if_neg jd]
 · unfold World.freeze; rw [if_neg jd]
 · unfold World.freeze; rw [if_neg jd]; simp
 intro i hi hni
 unfold World.freeze
 rw [if_neg jd]
 show (w.heap.modify gb _)[i]? = _
 rw [zgc, if_neg (fun h => hni (by simp [h]))]
def lP (w : World) (e : TypeId) (A : Option Addr) (n c : Nat) (xs : List Value) : Prop := Own w e 1 A n c xs ∨ ∃ (gb : Nat) (cs : Array Value), A = some ⟨gb, 0, none⟩ ∧ c = n ∧ cs.toList = xs ∧ xs.length = n ∧ Fro w gb e cs
theorem lP.frm {w w' : World} {S : List Nat} {e n c : Nat} {A : Option Addr} {xs : List Value} (h : lP w e A n c xs) (k : Frm S w w') (hS : ∀ x ∈ ob A, x ∉ S) : lP w' e A n c xs := by
 rcases h with h | ⟨gb, cs, rfl, h1, h2, h3, h4⟩
 · exact .inl (h.frm k hS)
 exact .inr ⟨gb, cs, rfl, h1, h2, h3, h4.frm k (hS gb (by simp [ob]))⟩
theorem lP.lt {w : World} {e n c : Nat} {A : Option Addr} {xs : List Value} (h : lP w e A n c xs) : ∀ x ∈ ob A, x < w.heap.size := by
 rcases h with h | ⟨gb, cs, rfl, h1, h2, h3, h4⟩
 · exact h.lt
 simpa [ob] using h4.lt
theorem lP.cells {w : World} {e n c gb : Nat} {cs : Array Value} {xs : List Value} (h2 : cs.toList = xs) (h4 : Fro w gb e cs) : ∀ j u, xs[j]? = some u → w.cell? ((⟨gb, 0, none⟩ : Addr).add j) = some u := by
 intro j u hu
 have e1 : (⟨gb, 0, none⟩ : Addr).add j = ⟨gb, j, none⟩ := by unfold Addr.add; split <;> simp_all
 rw [e1, h4.cell, ← hu, ← h2, zgd]
theorem lP.rd {w : World} {e n c : Nat} {A : Option Addr} {xs : List Value} (h : lP w e A n c xs) : Rd w 1 A n xs := by
 rcases h with h | ⟨gb, cs, rfl, h1, h2, h3, h4⟩
 · exact h.rd
 exact ⟨jo, fun hn => ⟨_, rfl, h4.lt, lP.cells (n := n) (c := c) h2 h4⟩⟩
theorem lP.le {w : World} {e n c : Nat} {A : Option Addr} {xs : List Value} (h : lP w e A n c xs) : n ≤ c := by
 rcases h with h | ⟨gb, cs, rfl, h1, h2, h3, h4⟩
 · exact h.le
 omega
theorem lP.ne_blk {w : World} {e t n c gb : Nat} {A : Option Addr} {xs : List Value} {cs : Array Value} (h : lP w e A n c xs) (hb : Blk w gb t cs) (hne : e ≠ t) : gb ∉ ob A := by
 rcases h with h | ⟨g2, cs2, rfl, h1, h2, h3, h4⟩
 · exact h.ne_blk hb hne
 intro hm
 simp only [ob, zh] at hm
 subst hm
 unfold Fro at h4
 unfold Blk at hb
 rw [h4] at hb
 injection hb with hb
 injection hb with _ hb _
 exact hne hb
end
end
section
open Go.RowKit
structure Er where
 e : En
 A : Option Addr
 c : Nat
def er0 : Er := ⟨⟨0, 0, 0, []⟩, none, 0⟩
def ZB (l : List Nat) : List Value := l.map fun n => .int .i64 ((n : Nat) : Int)
theorem qGw (a : List Nat) (i : Nat) (h : i < a.length) : (ZB a)[i]? = some (.int .i64 ((a.getD i 0 : Nat) : Int)) := by
 simp [ZB, zc, za h]
theorem qSa (l : List Nat) : ∀ u ∈ ZB l, u.oneCell' = true := by
 intro u hu
 obtain ⟨x, _, rfl⟩ := List.mem_map.1 hu
 rfl
theorem qRb (l : List Nat) (b : Nat) : ZB (l ++ [b]) = ZB l ++ [.int .i64 ((b : Nat) : Int)] := by simp [ZB]
def UB (l : List Nat) : List Value := l.map fun n => .int .u64 ((n : Nat) : Int)
theorem qSb (l : List Nat) : ∀ u ∈ UB l, u.oneCell' = true := by
 intro u hu
 obtain ⟨x, _, rfl⟩ := List.mem_map.1 hu
 rfl
theorem qRc (l : List Nat) (b : Nat) : UB (l ++ [b]) = UB l ++ [.int .u64 ((b : Nat) : Int)] := by simp [UB]
def erC (x : Er) : List Value := [.int .u64 ((x.e.id : Nat) : Int), .int .i64 ((x.e.size : Nat) : Int), .int .u32 ((x.e.sum : Nat) : Int), .slice x.A x.e.begins.length x.c]
def EC (l : List Er) : List Value := l.flatMap erC
theorem xE (x : Er) : (erC x).length = 4 := rfl
theorem EC_one (l : List Er) : ∀ u ∈ EC l, u.oneCell' = true := by
 intro u hu
 obtain ⟨x, _, hx⟩ := List.mem_flatMap.1 hu
 simp only [erC, zcp, zci, or_false] at hx
 rcases hx with rfl | rfl | rfl | rfl <;> rfl
theorem qGx (a b : List Er) : EC (a ++ b) = EC a ++ EC b := by simp [EC]
theorem qGy : ∀ l : List Er, (EC l).length = l.length * 4
 | [] => rfl
 | x :: l => by rw [show EC (x :: l) = erC x ++ EC l from rfl, zb, xE, qGy l, zp]; omega
theorem qGz : ∀ (L : List Er) (s : Nat) (_ : s < L.length), ((EC L).drop (s * 4)).take 4 = erC (L.getD s er0)
 | a :: L, 0, _ => rfl
 | a :: L, s + 1, h => by
  have := qGz L s (by simpa using h)
  rw [show EC (a :: L) = erC a ++ EC L from rfl, show (s + 1) * 4 = (erC a).length + s * 4 by rw [xE]; omega, zco, zdz]
  exact this
theorem qKq : ∀ (l : List Er) (k : Nat), (EC l).drop (k * 4) = EC (l.drop k)
 | l, 0 => rfl
 | [], k + 1 => by simp [EC]
 | x :: l, k + 1 => by
  rw [show EC (x :: l) = erC x ++ EC l from rfl, show (k + 1) * 4 = (erC x).length + k * 4 by rw [xE]; omega, zco, qKq l k]
  rfl
structure RdE (w : World) (A : Option Addr) (n : Nat) (l : List Er) : Prop where
 len : l.length = n
 rd : Rd w 4 A n (EC l)
 beg : ∀ x ∈ l, Rd w 1 x.A x.e.begins.length (ZB x.e.begins)
theorem RdE.frm {w w' : World} {A : Option Addr} {n : Nat} {l : List Er} (h : RdE w A n l) (k : Frm [] w w') : RdE w' A n l := ⟨h.len, h.rd.frm k jp, fun x hx => (h.beg x hx).frm k jp⟩
theorem RdE.cell {w : World} {A : Option Addr} {n : Nat} {l : List Er} (h : RdE w A n l) {i : Nat} (hi : i < n) : ∃ ad, A = some ad ∧ ∀ j v, (erC (l.getD i er0))[j]? = some v → w.cell? ((ad.add (i * 4)).add j) = some v := by
 obtain ⟨ad, h1, hel⟩ := h.rd.elem hi
 rw [qGz l i (by rw [h.len]; exact hi)] at hel
 exact ⟨ad, h1, hel⟩
theorem RdE.cut {w : World} {A : Option Addr} {n c k : Nat} {l : List Er} (h : RdE w A n l) (hk : k ≤ n) (hc : n ≤ c) : RdE w (cP A c k 4) (n - k) (l.drop k) :=
 ⟨by rw [zq, h.len], by
  have h1 := h.rd.cut hk (zk n) hc
  rw [qKq, zm (by rw [qGy, zq, h.len]; omega)] at h1
  exact h1, fun x hx => h.beg x (zbz hx)⟩
theorem eG {l : List Er} {i : Nat} (h : i < l.length) : l.getD i er0 ∈ l := by
 rw [zc, za h]
 exact zw h
structure IsSg (w : World) (g : Nat) (bA : Option Addr) (bc : Nat) (dA : Option Addr) (dc : Nat) (bs : List Nat) (l : List Er) (e : Nat) : Prop where
 blk : Blk w g 62 #[.slice bA bs.length bc, .slice dA l.length dc, .int .i64 ((e : Nat) : Int)]
 row : Rd w 1 bA bs.length (NB bs)
 bcap : bs.length ≤ bc
 dir : RdE w dA l.length l
 dcap : l.length ≤ dc
theorem IsSg.frm {w w' : World} {g bc dc e : Nat} {bA dA : Option Addr} {bs : List Nat} {l : List Er} (h : IsSg w g bA bc dA dc bs l e) (k : Frm [] w w') : IsSg w' g bA bc dA dc bs l e :=
 ⟨h.blk.frm k jp, h.row.frm k jp, h.bcap, h.dir.frm k, h.dcap⟩
def xF (l : List Er) : Prop := l.length ≤ 64 ∧ ∀ x ∈ l, x.e.id < 18446744073709551616 ∧ x.e.size ≤ 4032 ∧ x.e.sum < 4294967296 ∧ x.e.begins.length ≤ 16 ∧ ∀ b ∈ x.e.begins, b ≤ 1000000
theorem qJl (n : Nat) (w : World) (hn : n ≤ 1000000) :
  Calls Tryz.prog 42 #[.int .i64 ((n : Nat) : Int)] w fun e w' => e = .returned (.int .i64 (((n + 255) / 256 : Nat) : Int)) ∧ w = w' := by
 refine VC.calls (nt := 7) (res := #[.tmp 2]) Tryz.func42 rfl Tryz.ntmps42 Tryz.results42 rfl ?_
 refine jS (jR (jz 0 (jO (jN (jv1 0 ?_)))))
 refine jS (jR (jm rfl (jb rfl rfl (Bin.add_i64 _ 256 jo) (jb rfl rfl (Bin.sub_i64 _ 1 jo jo) (jb rfl rfl (Bin.quo_i64 _ 256 jo jo) (ja rfl (jO (jN (jv1 2 ?_)))))))))
 refine jT ?_
 refine qD rfl ?_
 rw [show n + 256 - 1 = n + 255 by omega]
 exact ⟨rfl, rfl⟩
theorem qWa (g n bc dc e : Nat) (bA dA : Option Addr) (l : List Er) (w : World) (hb : Blk w g 62 #[.slice bA n bc, .slice dA l.length dc, .int .i64 ((e : Nat) : Int)]) (hd : RdE w dA l.length l) (hl : l.length ≤ 64)
  (h1 : ∀ i, i < l.length → (∀ j, j < i → (l.getD j er0).e.begins = []) → (l.getD i er0).e.begins ≠ [] → (l.getD i er0).e.begins.getD 0 0 = 0) (h2 : (∀ j, j < l.length → (l.getD j er0).e.begins = []) → e = 0) :
  Calls Tryz.prog 44 #[.pointer (some ⟨g, 0, none⟩)] w fun e w' => e = .returned (.bool true) ∧ Frm [] w w' := by
 have K := Frm.refl [] w
 have hdl := hd.len
 refine VC.calls (nt := 29) (res := #[.tmp 2]) Tryz.func44 rfl Tryz.ntmps44 Tryz.results44 rfl ?_
 refine jS (jR (ja rfl (jO (jN (jv1 0 ?_)))))
 refine jS (jS (jR (jm rfl (je (Run.nilck rfl) (jf rfl zaj rfl zbx (jl rfl zcm (hb.cell 1) (je (Run.lenS rfl zat) ?_)))))))
 refine jx .i64 0 ?_
 refine jO (jN (jv4 0 8 9 10 ?_))
 refine jB ?_
 refine VC.loop (σ := Nat) (fun s => [(0, .pointer (some ⟨g, 0, none⟩)), (8, .slice dA l.length dc), (9, .int .i64 ((l.length : Nat) : Int)), (10, .int .i64 ((s : Nat) : Int))]) (fun s wr => s ≤ l.length ∧ (∀ j, j < s → (l.getD j er0).e.begins = []) ∧ Frm [] w wr) (fun s => l.length - s) 0 (js4 rfl rfl rfl rfl) ⟨jo, fun j h => jo, K⟩ ?_
 rintro i wr ⟨hi, hem, K⟩
 have hdr := hd.frm K
 have hbr := hb.frm K jp
 refine jS (jR (jb rfl rfl (Bin.lssN _ _) (jO (jN (jS ?_)))))
 refine jD rfl (fun hc1 => ?_) fun hc1 => ?_
 ·
  have hbg := hdr.beg _ (eG hc1)
  have h1i := h1 i hc1 hem
  obtain ⟨ad, hdA, hel⟩ := hdr.cell hc1
  subst hdA
  have hsnoc : (l.getD i er0).e.begins = [] → ∀ j, j < i + 1 → (l.getD j er0).e.begins = [] := fun h j hj => by
   by_cases hji : j = i
   · subst hji; exact h
   exact hem j jo
  generalize l.getD i er0 = xx at hel hbg h1i hsnoc
  obtain ⟨x, xA, xc⟩ := xx
  dsimp only at hbg h1i hsnoc
  refine jQ (jN (jv4 0 8 9 10 ?_))
  refine jS (jB (jS (jR (je (Run.indexS _ rfl rfl zat zbj jo) (je (Run.loadA rfl Tryz.isAgg66 zbj hel (by first | rfl | (simp; done))) ?_)))))
  refine Ops.m (qJ.alloc mL) rfl ?_
  rintro _ w1 ⟨rfl, hF1⟩
  refine Ops.st (qR.storeA rfl rfl zbj hF1.blk rfl (by intro v hv; exact EC_one [⟨x, _, xc⟩] v (by simpa [EC] using hv))) ?_
  rintro w2 ⟨hb2, hf2, hs2⟩
  have K := (K.trans hF1.frm jp).own hf2 (by simp; exact K.size)
  refine jO (jN (jv5 0 4 8 9 10 ?_))
  refine jS (jR (jf rfl zas rfl zaz (jl rfl zbv (hb2.cell 3) (je (Run.lenS rfl zf) (jb rfl rfl (Bin.gtrN _ 0) (jO (jN (jv6 0 4 8 9 10 17 ?_))))))))
  refine jD rfl (fun hc2 => ?_) fun hc2 => ?_
  ·
   obtain ⟨ad2, u2, hA2, hu2, hcel⟩ := (hbg.frm (hF1.frm.trans hf2 jp) jp).at1 (jo : 0 < x.begins.length)
   subst hA2
   rw [qGw _ 0 jo] at hu2
   cases hu2
   refine jS (jR (jf rfl zas rfl zaz (jl rfl zbv (hb2.cell 3) (je (Run.index1 0 rfl rfl zf zd jo) (jl rfl zg hcel (jb rfl rfl (Bin.eqlN _ 0) (ja rfl (jO (jN (jv1 2 ?_))))))))))
   refine jT ?_
   refine qC (qN (qN (qC (qN (qD rfl ?_)))))
   rw [h1i (fun h => by rw [h] at hc2; simp at hc2)]
   exact ⟨rfl, K⟩
  refine jQ ?_
  refine qK (jN ?_)
  refine jv4 0 8 9 10 ?_
  refine jR (jb rfl rfl (Bin.add_i64 _ 1 jo) (jm rfl (jO ?_)))
  refine jN ⟨i + 1, (js4 rfl rfl rfl rfl), ?_, ?_⟩
  · exact ⟨jo, hsnoc (zy (Nat.le_zero.1 (Nat.not_lt.1 hc2))), K⟩
  first | omega | (dsimp only; omega)
 refine jX ?_
 refine qZ (qZ (qP ?_))
 refine jN (jv1 0 ?_)
 refine jS (jR (jm rfl (je (Run.nilck rfl) (jf rfl zaj rfl zd (jl rfl zg (hbr.cell 2) (jb rfl rfl (Bin.eqlN _ 0) (ja rfl (jO (jN (jv1 2 ?_))))))))))
 refine jT ?_
 refine qD rfl ?_
 rw [h2 (fun j hj => hem j jo)]
 exact ⟨rfl, K⟩
theorem qNa (g bc dc e : Nat) (bA dA : Option Addr) (bs : List Nat) (l : List Er) (w : World) (hS : IsSg w g bA bc dA dc bs l e) (hl : xF l) :
  Calls Tryz.prog 19 #[.pointer (some ⟨g, 0, none⟩)] w fun e w' => ∃ B d, e = .returned (.slice B l.length d) ∧ Own w' 39 1 B l.length d (UB (l.map fun x => x.e.id)) ∧ Frm [] w w' ∧ ∀ x ∈ ob B, w.heap.size ≤ x := by
 have K := Frm.refl [] w
 have hdl := hl.1
 refine VC.calls (nt := 22) (res := #[.tmp 2]) Tryz.func19 rfl Tryz.ntmps19 Tryz.results19 rfl ?_
 refine jS (jR (ja rfl (jO (jN (jv1 0 ?_)))))
 refine jS (jR (ja rfl (jO (jN (jS (jS (jR (jm rfl (je (Run.nilck rfl) (jf rfl zaj rfl zbx (jl rfl zcm (hS.blk.cell 1) (je (Run.lenS rfl zat) ?_))))))))))))
 refine jx .i64 0 ?_
 refine jO (jN (jv4 3 9 10 11 ?_))
 refine jB ?_
 refine VC.loop (σ := Nat × Option Addr × Nat) (fun s => [(3, .slice s.2.1 s.1 s.2.2), (9, .slice dA l.length dc), (10, .int .i64 ((l.length : Nat) : Int)), (11, .int .i64 ((s.1 : Nat) : Int))]) (fun s wr => s.1 ≤ l.length ∧ Own wr 39 1 s.2.1 s.1 s.2.2 (UB ((l.take s.1).map fun x => x.e.id)) ∧ Frm [] w wr ∧ ∀ x ∈ ob s.2.1, w.heap.size ≤ x) (fun s => l.length - s.1) (0, none, 0) (js4 rfl rfl rfl rfl) ⟨zau _, Own.nil _ _ _, K, by simp [ob]⟩ ?_
 rintro ⟨i, B, d⟩ wr ⟨hi, ho, K, hob⟩
 dsimp only at *
 have hSr := hS.frm K
 refine jS (jR (jb rfl rfl (Bin.lssN _ _) (jO (jN (jS ?_)))))
 refine jD rfl (fun hc1 => ?_) fun hc1 => ?_
 ·
  have hts : (l.take (i + 1)).map (fun x => x.e.id) = (l.take i).map (fun x => x.e.id) ++ [(l.getD i er0).e.id] := by
   rw [zak, za hc1, zc, za hc1, zby]
   rfl
  obtain ⟨ad, hdA, hel⟩ := hSr.dir.cell hc1
  subst hdA
  generalize l.getD i er0 = xx at hel hts
  obtain ⟨x, xA, xc⟩ := xx
  dsimp only at hts
  refine jQ (jN (jv4 3 9 10 11 ?_))
  refine jS (jB (jS (jR (je (Run.indexS _ rfl rfl zat zbj jo) (je (Run.loadA rfl Tryz.isAgg66 zbj hel (by first | rfl | (simp; done))) ?_)))))
  refine Ops.m (qJ.alloc mL) rfl ?_
  rintro _ w1 ⟨rfl, hF1⟩
  refine Ops.st (qR.storeA rfl rfl zbj hF1.blk rfl (by intro v hv; exact EC_one [⟨x, _, xc⟩] v (by simpa [EC] using hv))) ?_
  rintro w2 ⟨hb2, hf2, hs2⟩
  have K := (K.trans hF1.frm jp).own hf2 (by simp; exact K.size)
  refine jO (jN (jv5 3 5 9 10 11 ?_))
  refine jR (jm rfl (jf rfl zas rfl zay (jl rfl zbu (hb2.cell 0) ?_)))
  refine Ops.m (qJ.buildS1 rfl zha zay qRm jd jd rfl rfl) rfl ?_
  rintro _ w3 ⟨rfl, hF3⟩
  have hrd3 : Rd w3 1 (some ⟨w2.heap.size, 0, none⟩) 1 (UB [x.id]) := Rd.of_blk (n := 1) (size := 1) hF3.blk rfl
  have hlo := ho.lt
  have ho := ((ho.frm hF1.frm jp).frm hf2 (fun y hy hy2 => by
   have := hlo y hy
   simp at hy2
   omega)).frm hF3.frm jp
  have K := K.trans hF3.frm jp
  refine Ops.m (qJ.app rfl rfl zha (qRn) rfl jd ho hrd3 (qSb _) jo jo) rfl ?_
  rintro _ w4 ⟨B2, d2, rfl, ho4, hf4, hob4⟩
  rw [show UB ((l.take i).map fun x => x.e.id) ++ UB [x.id] = UB ((l.take (i + 1)).map fun x => x.e.id) by rw [hts, qRc]; rfl] at ho4
  have hks := K.size
  have K := K.own hf4 hob
  have hob2 : ∀ y ∈ ob B2, w.heap.size ≤ y := fun y hy => by
   rcases hob4 with h | h
   · rw [h] at hy; exact hob y hy
   rw [h, zh] at hy; omega
  refine ja rfl (jO ?_)
  refine qK (jN ?_)
  refine jv4 3 9 10 11 ?_
  refine jR (jb rfl rfl (Bin.add_i64 _ 1 jo) (jm rfl (jO ?_)))
  refine jN ⟨(i + 1, B2, d2), (js4 rfl rfl rfl rfl), ?_, ?_⟩
  · exact ⟨hc1, ho4, K, hob2⟩
  first | omega | (dsimp only; omega)
 refine jX ?_
 refine qZ (qZ (qP ?_))
 refine jN (jv1 3 ?_)
 refine jS (jR (jm rfl (ja rfl (jO (jN (jv1 2 ?_))))))
 refine jT ?_
 refine qD rfl ?_
 obtain rfl : i = l.length := jo
 rw [zbk] at ho
 exact ⟨B, d, rfl, ho, K, hob⟩
theorem qZm (f : FuncId) (us : List Value) (n r : Nat) (w : World) (hn : n ≤ 1000000) (hr : r ≤ n) (hf : ∀ args w, (callFunc f args).run Tryz.prog w = .ok (.enter f args) w)
  (hcl : ∀ W i, Frm [] w W → i < n → Calls Tryz.prog f (.int .i64 ((i : Nat) : Int) :: us).toArray W fun e w' => e = .returned (.bool (decide (r ≤ i))) ∧ qQ W w') :
  Calls Tryz.prog 45 #[.int .i64 ((n : Nat) : Int), .func (.func f) ([] : List Value).toArray us.toArray] w fun e w' => e = .returned (.int .i64 ((r : Nat) : Int)) ∧ qQ w w' := by
 refine VC.calls (nt := 26) (res := #[.tmp 4]) Tryz.func45 rfl Tryz.ntmps45 Tryz.results45 rfl ?_
 refine jS (jR (jz 0 (jO (jN (jv2 0 1 ?_)))))
 refine jS (jR (jm rfl (jz 0 (ja rfl (jO (jN (jv3 1 5 6 ?_)))))))
 refine jS (jB ?_)
 refine VC.loop (σ := Nat × Nat) (fun s => [(1, .func (.func f) ([] : List Value).toArray us.toArray), (5, .int .i64 ((s.1 : Nat) : Int)), (6, .int .i64 ((s.2 : Nat) : Int))]) (fun s wr => s.1 ≤ r ∧ r ≤ s.2 ∧ s.2 ≤ n ∧ qQ w wr) (fun s => s.2 - s.1) (0, n) (js3 rfl rfl rfl) ⟨zau _, hr, zk _, qQ.refl _⟩ ?_
 rintro ⟨lo, hi⟩ wr ⟨hlo, hhi, hhn, hd⟩
 dsimp only at *
 refine jS (jS (jR (jm rfl (jm rfl (jb rfl rfl (Bin.lssN _ _) (jO (jN (jv4 1 5 6 11 ?_))))))))
 refine jD rfl (fun hc1 => ?_) fun hc1 => ?_
 ·
  refine jQ (jN (jv3 1 5 6 ?_))
  refine jB (jS (jR (jm rfl (jm rfl (jb rfl rfl (Bin.add_i64 _ _ jo) (je (Run.convN _ rfl zab Tryz.underlying36 (by simp only [bmax]; omega)) (jb rfl rfl (Bin.shr_u64 _ 1 jo) (je (Run.convN _ rfl Tryz.underlying36 zab (by simp only [bmax]; omega)) (ja rfl (jO (jN (jv4 1 5 6 7 ?_))))))))))))
  refine jS (jR (jm rfl (jM ?_)))
  refine Ops.cl (bW.dyn rfl (evs.cons rfl evs.nil) hf) (hcl _ _ hd.frm jo) rfl ?_
  rintro e w3 ⟨rfl, hd3⟩
  refine ⟨_, rfl, ?_⟩
  refine je (Run.not rfl) (jO (jN (jv5 1 5 6 7 21 ?_)))
  refine VC.condB rfl (fun hc2 => ?_) (fun hc2 => ?_)
  ·
   refine jR (jm rfl (jb rfl rfl (Bin.add_i64 _ 1 jo) (ja rfl (jO ?_))))
   refine qK (jN ⟨((lo + hi) / 2 + 1, hi), (js3 rfl rfl rfl), ?_, ?_⟩)
   · exact ⟨by simp at hc2; omega, hhi, hhn, hd.trans hd3⟩
   first | omega | (dsimp only; omega)
  refine jR (jm rfl (ja rfl (jO ?_)))
  refine qK (jN ⟨(lo, (lo + hi) / 2), (js3 rfl rfl rfl), ?_, ?_⟩)
  · exact ⟨hlo, by simp at hc2; omega, jo, hd.trans hd3⟩
  first | omega | (dsimp only; omega)
 refine jX ?_
 refine qZ (qZ (qP ?_))
 refine jN (jv1 5 ?_)
 refine jS (jR (jm rfl (ja rfl (jO (jN (jv1 4 ?_))))))
 refine jT ?_
 refine qD rfl ?_
 obtain rfl : lo = r := jo
 exact ⟨rfl, hd⟩
theorem qNb (i gs gi g bc dc e id r : Nat) (bA dA : Option Addr) (bs : List Nat) (l : List Er) (w : World) (hS : IsSg w g bA bc dA dc bs l e) (hl : xF l) (hi : i < l.length) (hid : id < 18446744073709551616) (hr : r ≤ i ↔ id ≤ (l.getD i er0).e.id)
  (h1 : Blk w gs 32 #[.pointer (some ⟨g, 0, none⟩)]) (h2 : Blk w gi 39 #[.int .u64 ((id : Nat) : Int)]) :
  Calls Tryz.prog 46 #[.int .i64 ((i : Nat) : Int), .pointer (some ⟨gs, 0, none⟩), .pointer (some ⟨gi, 0, none⟩)] w fun e w' => e = .returned (.bool (decide (r ≤ i))) ∧ qQ w w' := by
 have hw := (hl.2 _ (eG hi)).1
 have hdl := hl.1
 have er : decide (r ≤ i) = decide (id ≤ (l.getD i er0).e.id) := decide_eq_decide.2 hr
 have hSd := hS.frm (qQ.drew w).frm
 obtain ⟨ad, hdA, hel⟩ := hSd.dir.cell hi
 subst hdA
 refine VC.calls (nt := 15) (res := #[.tmp 4]) Tryz.func46 rfl Tryz.ntmps46 Tryz.results46 rfl ?_
 refine jS (jR (ja rfl (jO (jN (jv3 0 1 2 ?_)))))
 refine jS ?_
 refine VC.still jK jK ?_
 refine qE (Run.load rfl Tryz.isAgg32 ((h1.drawn (qQ.drew w)).cell 0)) ?_
 refine qE (Run.nilck rfl) ?_
 refine qE (Run.fieldAddr rfl zaj rfl zbx jd) ?_
 refine qE (Run.load rfl zcm (hSd.blk.cell 1)) ?_
 refine qM ?_
 refine qE (Run.indexS _ rfl rfl zat zbj jo) ?_
 refine qE (Run.fieldAddr rfl zas rfl zay jd) ?_
 refine qE (Run.load rfl zbu (hel 0 _ rfl)) ?_
 refine qE (Run.load rfl zbu ((h2.drawn (qQ.drew w)).cell 0)) ?_
 refine qE (Run.bin rfl rfl (Bin.geqN _ _)) ?_
 refine qA ?_
 refine qW.nil ?_
 refine jN (jv1 4 ?_)
 refine jT ?_
 refine qD rfl ?_
 rw [er]
 exact ⟨rfl, qQ.drew w⟩
theorem tM (i g bc dc e : Nat) (bA dA : Option Addr) (bs : List Nat) (l : List Er) (w : World) (hS : IsSg w g bA bc dA dc bs l e) (hl : xF l) (hi : i < l.length) (hso : ∀ a b, a < b → b < l.length → (l.getD a er0).e.id < (l.getD b er0).e.id) :
  Calls Tryz.prog 26 #[.pointer (some ⟨g, 0, none⟩), .int .u64 (((l.getD i er0).e.id : Nat) : Int)] w fun e w' => e = .returned (.int .i64 ((i : Nat) : Int)) ∧ Frm [] w w' := by
 have hw := (hl.2 _ (eG hi)).1
 have hdl := hl.1
 have hri : ∀ j, j < l.length → (i ≤ j ↔ (l.getD i er0).e.id ≤ (l.getD j er0).e.id) := fun j hj => ⟨fun h => by
  rcases Nat.lt_or_eq_of_le h with h | h
  · exact Nat.le_of_lt (hso i j h hj)
  · subst h; exact zk _, fun h => by
  rcases zgr j i with h2 | h2
  · have := hso j i h2 hi; omega
  exact h2⟩
 refine VC.calls (nt := 33) (res := #[.tmp 4]) Tryz.func26 rfl Tryz.ntmps26 Tryz.results26 rfl ?_
 refine jS (jR ?_)
 refine Ops.m (qJ.box rfl) rfl ?_
 rintro _ w1 ⟨rfl, hF1⟩
 refine Ops.m (qJ.box rfl) rfl ?_
 rintro _ w2 ⟨rfl, hF2⟩
 have h1 := hF1.blk.frm hF2.frm jp
 have h2 := hF2.blk
 have K := hF1.frm.trans hF2.frm jp
 have hS2 := hS.frm K
 refine jz 0 (jO (jN (jv2 2 3 ?_)))
 refine jS (jR (jl rfl Tryz.isAgg32 (h1.cell 0) (je (Run.nilck rfl) (jf rfl zaj rfl zbx (jl rfl zcm (hS2.blk.cell 1) (je (Run.lenS rfl zat) (je (Run.mkFunc evs.nil (evs.cons rfl (evs.cons rfl evs.nil))) ?_)))))))
 refine Ops.cl (jE2 Tryz.call45) (qZm _ [.pointer (some ⟨w.heap.size, 0, none⟩), .pointer (some ⟨w1.heap.size, 0, none⟩)] l.length i _ jo jo Tryz.call46 (fun W j hF hj => qNb j _ _ g bc dc e _ i bA dA bs l W (hS2.frm hF) hl hj hw (hri j hj) (h1.frm hF jp) (h2.frm hF jp))) rfl ?_
 rintro e w3 ⟨rfl, hd3⟩
 refine ⟨_, rfl, ?_⟩
 have K := K.drawn hd3
 have hS3 := hS2.frm (hd3.trans (qQ.drew w3)).frm
 have h1 := h1.drawn (hd3.trans (qQ.drew w3))
 have h2 := h2.drawn (hd3.trans (qQ.drew w3))
 obtain ⟨ad, hdA, hel⟩ := hS3.dir.cell hi
 subst hdA
 refine ja rfl (jO (jN (jv3 2 3 5 ?_)))
 refine jS (jS ?_)
 refine VC.splitR [(5, .int .i64 ((i : Nat) : Int))] (qQ w3) 31 (.bool (decide (True))) ?_ ?_
 ·
  refine VC.still jK jK ?_
  refine qM ?_
  refine qE (Run.load rfl Tryz.isAgg32 (h1.cell 0)) ?_
  refine qE (Run.nilck rfl) ?_
  refine qE (Run.fieldAddr rfl zaj rfl zbx jd) ?_
  refine qE (Run.load rfl zcm (hS3.blk.cell 1)) ?_
  refine qE (Run.lenS rfl zat) ?_
  refine qE (Run.bin rfl rfl (Bin.lssN _ _)) ?_
  by_cases hs19 : i < l.length
  ·
   refine qM ?_
   refine qG (Run.load rfl Tryz.isAgg32 (h1.cell 0)) ?_
   refine qG (Run.nilck rfl) ?_
   refine qG (Run.fieldAddr rfl zaj rfl zbx jd) ?_
   refine qG (Run.load rfl zcm (hS3.blk.cell 1)) ?_
   refine qG (Run.mv rfl) ?_
   refine qG (Run.indexS _ rfl rfl zat zbj jo) ?_
   refine qG (Run.fieldAddr rfl zas rfl zay jd) ?_
   refine qG (Run.load rfl zbu (hel 0 _ rfl)) ?_
   refine qG (Run.load rfl zbu (h2.cell 0)) ?_
   refine qG (Run.bin rfl rfl (Bin.eqlN _ _)) ?_
   refine qE (Run.pickT rfl rfl au) ?_
   refine qW.nil ?_
   refine jN ⟨(js2 (jC (by first | (simp [*]; done) | omega)) rfl), (qQ.drew _)⟩
  refine qM ?_
  refine qU ?_
  refine qU ?_
  refine qU ?_
  refine qU ?_
  refine qU ?_
  refine qU ?_
  refine qU ?_
  refine qU ?_
  refine qU ?_
  refine qU ?_
  refine qE (Run.pickF rfl rfl au) ?_
  refine qW.nil ?_
  refine jN ⟨(js2 (jC (by first | (simp [*]; done) | omega)) rfl), (qQ.drew _)⟩
 intro Γ w9 hΓ hd9
 refine jN (VC.sub _ hΓ ?_)
 refine VC.condT rfl (decide_eq_true trivial) ?_
 refine jS (jR (jm rfl (ja rfl (jO (jN (jv1 4 ?_))))))
 refine jT ?_
 refine qN (qD rfl ?_)
 exact ⟨rfl, K.drawn hd9⟩
end
section
open Go.RowKit
theorem Run.minN {P : Program} {Γ : Env} {w : World} {dst : Option Tmp} {pos : String} {after : Array Edge} {g : Option (Nat × Bool)} {t : TypeId} {x y : Operand} {k : IntKind} {ts : Array TypeId} (a b m : Nat) (hx : ev? Γ x = some (.int k ((a : Nat) : Int))) (hy : ev? Γ y = some (.int k ((b : Nat) : Int))) (hm : m = min a b) :
  Run P ⟨dst, .call ⟨.builtin .min, #[x, y], ts⟩, t, pos, after, g⟩ Γ w (.int k ((m : Nat) : Int)) := by
 have h := Run.minI (P := P) (w := w) (dst := dst) (t := t) (pos := pos) (after := after) (g := g) (ts := ts) hx hy
 have e : (if ((b : Nat) : Int) < ((a : Nat) : Int) then ((b : Nat) : Int) else ((a : Nat) : Int)) = ((m : Nat) : Int) := by split <;> omega
 rw [e] at h
 exact h
theorem Rd.few {w : World} {A : Option Addr} {n k : Nat} {xs : List Value} (h : Rd w 1 A n xs) (hk : k ≤ n) : Rd w 1 A k (xs.take k) := by
 refine ⟨by rw [zj]; have := h.1; omega, fun hk0 => ?_⟩
 obtain ⟨ad, h1, h2, h3⟩ := h.2 jo
 refine ⟨ad, h1, h2, fun j u hu => h3 j u ?_⟩
 rw [List.getElem?_take] at hu
 split at hu
 · exact hu
 cases hu
theorem qRd (l : List Nat) (p e : Nat) (h : p ≤ e) (he : e ≤ l.length) {w : World} {A : Option Addr} (hr : Rd w 1 A l.length (NB l)) : Rd w 1 (cP A e p 1) ((l.drop p).take (e - p)).length (NB ((l.drop p).take (e - p))) := by
 have h1 := hr.few he
 have h2 : (NB l).take e = NB (l.take e) := by simp [NB, zdu]
 have h3 : (l.take e).length = e := by rw [zj]; omega
 rw [h2] at h1
 have h4 := oI (l.take e) p (e - p) jo (A := A) (c := e) (w := w) (by rw [h3]; exact h1) jo
 have h5 : ((l.take e).drop p).take (e - p) = (l.drop p).take (e - p) := by rw [List.drop_take, zfy, Nat.min_self]
 rw [h5] at h4
 exact h4
def qQh (l : List Er) (e i k E : Nat) : Prop := (k + 1 < (l.getD i er0).e.begins.length → (l.getD i er0).e.begins.getD (k + 1) 0 = E) ∧ ((l.getD i er0).e.begins.length ≤ k + 1 → (∀ j, i < j → j < l.length → (∀ m, i < m → m < j → (l.getD m er0).e.begins = []) → (l.getD j er0).e.begins ≠ [] → (l.getD j er0).e.begins.getD 0 0 = E) ∧ ((∀ m, i < m → m < l.length → (l.getD m er0).e.begins = []) → e = E))
theorem qG0 (l : List Er) (a s : Nat) : (l.drop a).getD s er0 = l.getD (a + s) er0 := by
 rw [zc, zc, zdr]
theorem qZn {w : World} {A : Option Addr} {xs : List Nat} {k : Nat} (h : Rd w 1 A xs.length (ZB xs)) (hk : k < xs.length) : ∃ ad, A = some ad ∧ w.cell? (ad.add k) = some (.int .i64 ((xs.getD k 0 : Nat) : Int)) := by
 obtain ⟨ad, u, h1, h2, h3⟩ := h.at1 hk
 rw [qGw _ _ hk] at h2
 cases h2
 exact ⟨ad, h1, h3⟩
theorem qG1 (i k E g bc dc e : Nat) (bA dA : Option Addr) (bs : List Nat) (l : List Er) (w : World) (hS : IsSg w g bA bc dA dc bs l e) (hl : xF l) (hi : i < l.length) (hk : k ≤ 100) (hE : qQh l e i k E) :
  Calls Tryz.prog 47 #[.pointer (some ⟨g, 0, none⟩), .int .i64 ((i : Nat) : Int), .int .i64 ((k : Nat) : Int)] w fun e w' => e = .returned (.int .i64 ((E : Nat) : Int)) ∧ Frm [] w w' := by
 have K := Frm.refl [] w
 have hdl := hl.1
 have hcap := hS.dcap
 have hS0 := hS
 have hbl := (hl.2 _ (eG hi)).2.2.2.1
 have hcut := hS.dir.cut (k := i + 1) jo hS.dcap
 have hbg := hS.dir.beg _ (eG hi)
 obtain ⟨ad, hdA, hel⟩ := hS.dir.cell hi
 subst hdA
 obtain ⟨hE1, hE2⟩ := hE
 generalize hgx : l.getD i er0 = xx at hel hbl hbg hE1 hE2
 obtain ⟨x, xA, xc⟩ := xx
 dsimp only at hbl hbg hE1 hE2
 refine VC.calls (nt := 58) (res := #[.tmp 6]) Tryz.func47 rfl Tryz.ntmps47 Tryz.results47 rfl ?_
 refine jS (jR (jz 0 (jO (jN (jv3 0 1 2 ?_)))))
 refine jS (jS (jR (jm rfl (jb rfl rfl (Bin.add_i64 _ 1 jo) (jm rfl (je (Run.nilck rfl) (jf rfl zaj rfl zbx (jl rfl zcm (hS.blk.cell 1) (jm rfl (je (Run.indexS _ rfl rfl zat zbj jo) (jf rfl zas rfl zaz (jl rfl zbv (hel 3 _ rfl) (je (Run.lenS rfl zf) (jb rfl rfl (Bin.lssN _ _) (jO (jN (jv4 0 1 2 20 ?_)))))))))))))))))
 refine jD rfl (fun hc1 => ?_) fun hc1 => ?_
 ·
  obtain ⟨ad2, hA2, hcel⟩ := qZn hbg hc1
  subst hA2
  have hE1 := hE1 hc1
  refine jS (jR (jm rfl (je (Run.nilck rfl) (jf rfl zaj rfl zbx (jl rfl zcm (hS.blk.cell 1) (jm rfl (je (Run.indexS _ rfl rfl zat zbj jo) (jf rfl zas rfl zaz (jl rfl zbv (hel 3 _ rfl) ?_)))))))))
  refine jm rfl (jb rfl rfl (Bin.add_i64 _ 1 jo) (je (Run.index1 _ rfl rfl zf zd jo) (jl rfl zg hcel (ja rfl (jO (jN (jv1 6 ?_)))))))
  refine jT ?_
  refine qN (qD rfl ?_)
  rw [hE1]
  exact ⟨rfl, K⟩
 obtain ⟨hE3, hE4⟩ := hE2 (Nat.not_lt.1 hc1)
 refine jQ (jN (jv2 0 1 ?_))
 refine jS (jS (jR (jm rfl (je (Run.nilck rfl) (jf rfl zaj rfl zbx (jl rfl zcm (hS.blk.cell 1) (jm rfl (jb rfl rfl (Bin.add_i64 _ 1 jo) (je (Run.sliceS _ _ rfl zat zbj (evB.some_ rfl) evB.none_ jo jo) (je (Run.lenS rfl zat) ?_))))))))))
 refine jx .i64 0 ?_
 refine jO (jN (jv4 0 39 40 41 ?_))
 refine jB ?_
 refine VC.loop (σ := Nat) (fun s => [(0, .pointer (some ⟨g, 0, none⟩)), (39, .slice (cP (some ad) dc (i + 1) 4) (l.length - (i + 1)) (dc - (i + 1))), (40, .int .i64 ((l.length - (i + 1) : Nat) : Int)), (41, .int .i64 ((s : Nat) : Int))]) (fun s wr => s ≤ l.length - (i + 1) ∧ (∀ m, i < m → m < i + 1 + s → (l.getD m er0).e.begins = []) ∧ Frm [] w wr) (fun s => l.length - (i + 1) - s) 0 (js4 rfl rfl rfl rfl) ⟨jo, fun j h h2 => jo, K⟩ ?_
 rintro j wr ⟨hj, hem, K⟩
 have hSr := hS.frm K
 have hcr := hcut.frm K
 refine jS (jR (jb rfl rfl (Bin.lssN _ _) (jO (jN (jS ?_)))))
 refine jD rfl (fun hc2 => ?_) fun hc2 => ?_
 ·
  have hbj := hcr.beg _ (eG (by rw [hcr.len]; exact hc2))
  obtain ⟨adj, hdj, helj⟩ := hcr.cell hc2
  rw [hdj]
  rw [qG0] at hbj helj
  have h3i := hE3 (i + 1 + j) jo jo (fun m h1 h2 => hem m h1 h2)
  have hsnoc : (l.getD (i + 1 + j) er0).e.begins = [] → ∀ m, i < m → m < i + 1 + (j + 1) → (l.getD m er0).e.begins = [] := fun h m h1 h2 => by
   by_cases hji : m = i + 1 + j
   · subst hji; exact h
   exact hem m h1 jo
  generalize l.getD (i + 1 + j) er0 = xx at helj hbj h3i hsnoc
  obtain ⟨x, xA, xc⟩ := xx
  dsimp only at hbj h3i hsnoc
  refine jQ (jN (jv4 0 39 40 41 ?_))
  refine jS (jB (jS (jR (je (Run.indexS _ rfl rfl zat zbj jo) (je (Run.loadA rfl Tryz.isAgg66 zbj helj (by first | rfl | (simp; done))) ?_)))))
  refine Ops.m (qJ.alloc mL) rfl ?_
  rintro _ w1 ⟨rfl, hF1⟩
  refine Ops.st (qR.storeA rfl rfl zbj hF1.blk rfl (by intro v hv; exact EC_one [⟨x, _, xc⟩] v (by simpa [EC] using hv))) ?_
  rintro w2 ⟨hb2, hf2, hs2⟩
  have K := (K.trans hF1.frm jp).own hf2 (by simp <;> exact K.size)
  refine jO (jN (jv5 0 8 39 40 41 ?_))
  refine jS (jR (jf rfl zas rfl zaz (jl rfl zbv (hb2.cell 3) (je (Run.lenS rfl zf) (jb rfl rfl (Bin.gtrN _ 0) (jO (jN (jv6 0 8 39 40 41 48 ?_))))))))
  refine jD rfl (fun hc3 => ?_) fun hc3 => ?_
  ·
   obtain ⟨ad2, hA2, hcel⟩ := qZn (hbj.frm (hF1.frm.trans hf2 jp) jp) hc3
   subst hA2
   refine jS (jR (jf rfl zas rfl zaz (jl rfl zbv (hb2.cell 3) (je (Run.index1 0 rfl rfl zf zd jo) (jl rfl zg hcel (ja rfl (jO (jN (jv1 6 ?_)))))))))
   refine jT ?_
   refine qC (qN (qN (qC (qN (qD rfl ?_)))))
   rw [h3i (fun h => by rw [h] at hc3; simp at hc3)]
   exact ⟨rfl, K⟩
  refine jQ ?_
  refine qK (jN ?_)
  refine jv4 0 39 40 41 ?_
  refine jR (jb rfl rfl (Bin.add_i64 _ 1 jo) (jm rfl (jO ?_)))
  refine jN ⟨j + 1, (js4 rfl rfl rfl rfl), ?_, ?_⟩
  · exact ⟨jo, hsnoc (zy (Nat.le_zero.1 (Nat.not_lt.1 hc3))), K⟩
  first | omega | (dsimp only; omega)
 refine jX ?_
 refine qZ (qZ (qP ?_))
 refine jN (jv1 0 ?_)
 refine jS (jR (jm rfl (je (Run.nilck rfl) (jf rfl zaj rfl zd (jl rfl zg (hSr.blk.cell 2) (ja rfl (jO (jN (jv1 6 ?_)))))))))
 refine jT ?_
 refine qD rfl ?_
 rw [hE4 (fun m h1 h2 => hem m h1 jo)]
 exact ⟨rfl, K⟩
theorem qZo (i k E g bc dc e : Nat) (bA dA : Option Addr) (bs C : List Nat) (l : List Er) (w : World) (hS : IsSg w g bA bc dA dc bs l e) (hl : xF l) (hi : i < l.length) (hE : qQh l e i k E) (hk : k < (l.getD i er0).e.begins.length)
  (hb : bs.length ≤ 1000000) (hB : ∀ b ∈ bs, b < 256) (h1 : (l.getD i er0).e.begins.getD k 0 ≤ E) (h2 : E ≤ bs.length) (h3 : 256 * k ≤ (l.getD i er0).e.size) (hC : C.length = min 256 ((l.getD i er0).e.size - 256 * k))
  (hI : gZ ((bs.drop ((l.getD i er0).e.begins.getD k 0)).take (E - (l.getD i er0).e.begins.getD k 0)) C.length = .ok (C, E - (l.getD i er0).e.begins.getD k 0)) :
  Calls Tryz.prog 27 #[.pointer (some ⟨g, 0, none⟩), .int .i64 ((i : Nat) : Int), .int .i64 ((k : Nat) : Int)] w fun e w' => ∃ B d, e = .returned (.tuple #[.slice B C.length d, .bool true]) ∧ Own w' 5 1 B C.length d (NB C) ∧ Frm [] w w' ∧ ∀ x ∈ ob B, w.heap.size ≤ x := by
 have K := Frm.refl [] w
 have hdl := hl.1
 have hcap := hS.bcap
 obtain ⟨_, hs4, _, hbl, _⟩ := hl.2 _ (eG hi)
 have hends := fun W hW => qG1 i k E g bc dc e bA dA bs l W hW hl hi jo hE
 have hbg := hS.dir.beg _ (eG hi)
 obtain ⟨ad, hdA, hel⟩ := hS.dir.cell hi
 subst hdA
 generalize hgx : l.getD i er0 = xx at hel hbl hbg h1 h3 hC hI hs4 hk
 obtain ⟨x, xA, xc⟩ := xx
 dsimp only at hbl hbg h1 h3 hC hI hs4 hk
 obtain ⟨ad2, hA2, hcel⟩ := qZn hbg hk
 subst hA2
 generalize hF : x.begins.getD k 0 = F at *
 have hrow := hS.row.cut h1 h2 hcap
 have hNB : (NB bs).drop (F * 1) = NB (bs.drop F) := by rw [zcw]; simp [NB]
 refine VC.calls (nt := 67) (res := #[.tmp 6, .tmp 7]) Tryz.func27 rfl Tryz.ntmps27 Tryz.results27 rfl ?_
 refine jS (jR (ja rfl (ja rfl (jO (jN (jv3 0 1 2 ?_))))))
 refine jS (jR (jm rfl (je (Run.nilck rfl) (jf rfl zaj rfl zbx (jl rfl zcm (hS.blk.cell 1) (jm rfl (je (Run.indexS _ rfl rfl zat zbj jo) (je (Run.loadA rfl Tryz.isAgg66 zbj hel (by first | rfl | (simp; done))) ?_))))))))
 refine Ops.m (qJ.alloc mL) rfl ?_
 rintro _ w1 ⟨rfl, hF1⟩
 refine Ops.st (qR.storeA rfl rfl zbj hF1.blk rfl (by intro v hv; exact EC_one [⟨x, _, xc⟩] v (by simpa [EC] using hv))) ?_
 rintro w2 ⟨hb2, hf2, hs2⟩
 have hb2 : Blk w2 w.heap.size 66 #[.int .u64 ((x.id : Nat) : Int), .int .i64 ((x.size : Nat) : Int), .int .u32 ((x.sum : Nat) : Int), .slice (some ad2) x.begins.length xc] := hb2
 have K := (K.trans hF1.frm jp).own hf2 jp
 have hS2 := hS.frm K
 have hcel := K.cell hcel jp
 refine jO (jN (jv4 0 1 2 8 ?_))
 refine jS (jR (jf rfl zas rfl zd (jl rfl zg (hb2.cell 1) (jm rfl (jb rfl rfl (Bin.mul_i64 256 _ jo) (jb rfl rfl (Bin.sub_i64 _ _ jo jo) (je (Run.minN 256 (x.size - 256 * k) C.length rfl rfl hC) (ja rfl (jO (jN (jv5 0 1 2 8 9 ?_)))))))))))
 refine jS ?_
 refine VC.held (fun v => Frm [] w2 v) jK ?_
 have hW : (fun v => Frm [] w2 v) w2.drew := (qQ.drew w2).frm
 have hS := hW
 refine jH 0 rfl hS (fun w0 hw0 => Run.fieldAddr rfl zas rfl zaz jd) ?_
 refine jH 1 rfl hS (fun w0 hw0 => Run.load rfl zbv ((hb2.frm hw0 jp).cell 3)) ?_
 refine jH 2 rfl hS (fun w0 hw0 => Run.mv rfl) ?_
 refine jH 3 rfl hS (fun w0 hw0 => Run.index1 _ rfl rfl zf zd jo) ?_
 refine jH 4 rfl hS (fun w0 hw0 => Run.load rfl zg (hw0.cell hcel jp)) ?_
 refine jH 5 rfl hS (fun w0 hw0 => Run.mv rfl) ?_
 refine jH 6 rfl hS (fun w0 hw0 => Run.mv rfl) ?_
 refine jH 7 rfl hS (fun w0 hw0 => Run.mv rfl) ?_
 refine qV.cl 8 rfl jK (jE3 Tryz.call47) (hends _ (hS2.frm hW)) trivial rfl rfl ?_
 rintro e w3 ⟨rfl, hf3⟩
 have hW := hW.trans hf3 jp
 have hS := hW
 refine ⟨_, rfl, hS, ?_⟩
 refine jH 9 rfl hS (fun w0 hw0 => Run.asg rfl) ?_
 refine jH 10 rfl hS (fun w0 hw0 => Run.asg rfl) ?_
 refine qV.done jK ?_
 refine jN (jv4 0 9 10 11 ?_)
 refine jS (jR (jm rfl (je (Run.nilck rfl) (jf rfl zaj rfl zl (jl rfl zt ((hS2.frm hW).blk.cell 0) (jm rfl (jm rfl (jm rfl (je (Run.slice3 _ _ _ rfl ze zai rfl rfl rfl jo jo jo) ?_)))))))))
 have hlen : ((bs.drop F).take (E - F)).length = E - F := by rw [zj, zq]; omega
 have hinf := qYv (cP bA E F 1) (E - F) ((bs.drop F).take (E - F)) ((C.length : Nat) : Int) w3 jo (by rw [hlen]; omega) (fun b hb => hB b (zbz (zal hb))) (qRd bs F E h1 h2 ((hS2.frm hW).row))
 rw [hlen] at hinf
 refine jM ?_
 refine Ops.cl (jE2 Tryz.call48) (hinf) rfl ?_
 rintro e w4 ⟨hf4, hin⟩
 rw [hI] at hin
 obtain ⟨B, d, rfl, ho4, hu4, _, _, _⟩ := hin
 refine ⟨_, rfl, ?_⟩
 dsimp only at *
 refine jm rfl (je (Run.extract rfl rfl) (je (Run.extract rfl rfl) (je (Run.extract rfl rfl) (ja rfl (ja rfl (ja rfl (jO (jN (jv6 9 10 11 12 13 14 ?_)))))))))
 refine jS (jR (jm rfl (jm rfl (jb rfl rfl (Bin.eqlN _ 0) (jM ?_)))))
 refine jG ?_
 refine jG ?_
 refine jG ?_
 refine jk (Run.bin rfl rfl (Bin.sub_i64 _ _ jo jo)) ?_
 refine jk (Run.bin rfl rfl (Bin.eqlN _ _)) ?_
 refine je (Run.pickT rfl rfl au) (jM ?_)
 refine jG ?_
 refine jk (Run.lenS rfl ze) ?_
 refine jG ?_
 refine jk (Run.bin rfl rfl (Bin.eql _ _)) ?_
 refine je (Run.pickT rfl rfl au) (ja rfl (ja rfl (jO (jN (jv2 6 7 ?_)))))
 refine jT ?_
 refine cV rfl rfl ?_
 rw [decide_eq_true (rfl : ((C.length : Nat) : Int) = ((C.length : Nat) : Int))]
 exact ⟨B, d, rfl, ho4, (K.trans hW jp).trans hf4 jp, fun y hy => by have := (K.trans hW jp).size; have := hu4 y hy; omega⟩
end
section
open Go.RowKit
def en0 : En := ⟨0, 0, 0, []⟩
def b0 : Bb := (0, [])
theorem nP {L : List Bb} {i : Nat} (h : i < L.length) : L.getD i b0 ∈ L := by
 rw [zc, za h]
 exact zw h
theorem qSc {cs : List (List Nat)} {k : Nat} (h : k < cs.length) : cs.getD k [] ∈ cs := by
 rw [zc, za h]
 exact zw h
theorem lR : ∀ (L : List Bb) (o i : Nat), i < L.length → (cW o L).getD i en0 = ⟨(L.getD i b0).1, (L.getD i b0).2.length, crcM (L.getD i b0).2, dG (o + (outM (L.take i)).length) (chunkL (L.getD i b0).2)⟩
 | x :: L, o, 0, _ => rfl
 | x :: L, o, i + 1, h => by
  have h1 := lR L (rR o (chunkL x.2)) i (by simpa using h)
  have e : outM (x :: L.take i) = (chunkL x.2).flatMap qB ++ outM (L.take i) := rfl
  rw [cW, zdz, zdz, zac, h1, oJ, e, zb]
  congr 2
  omega
theorem gP : ∀ (cs : List (List Nat)) (o k : Nat), k < cs.length → (dG o cs).getD k 0 = o + ((cs.take k).flatMap qB).length
 | c :: cs, o, 0, _ => by simp [dG]
 | c :: cs, o, k + 1, h => by
  have h1 := gP cs (o + (qB c).length) k (by simpa using h)
  rw [dG, zdz, h1, zac, zn, zb]
  omega
def gI (l : List Er) (L : List Bb) : Prop := l.map Er.e = cW 0 L
theorem gI.len {l : List Er} {L : List Bb} (h : gI l L) : l.length = L.length := by
 have := congrArg List.length h
 rw [zu, kZ] at this
 exact this
theorem gI.get {l : List Er} {L : List Bb} (h : gI l L) {i : Nat} (hi : i < L.length) : (l.getD i er0).e = ⟨(L.getD i b0).1, (L.getD i b0).2.length, crcM (L.getD i b0).2, dG (outM (L.take i)).length (chunkL (L.getD i b0).2)⟩ := by
 have h1 := lR L 0 i hi
 rw [← h, zao] at h1
 rw [← h1]
 have hl := h.len
 rw [zc, zc, zbf, za jo]
 rfl
theorem oK {L : List Bb} {i : Nat} (h : i < L.length) : outM (L.take (i + 1)) = outM (L.take i) ++ (chunkL (L.getD i b0).2).flatMap qB := by
 rw [zak, za h, zc, za h]
 exact zI _ _
theorem qNc {cs : List (List Nat)} {o : Nat} (h : dG o cs = []) : cs = [] := by
 have := cL cs o
 rw [h] at this
 exact zy this.symm
theorem mX {l : List Er} {L : List Bb} (h : gI l L) {i : Nat} : ∀ t, i + t ≤ L.length → (∀ m, i ≤ m → m < i + t → (l.getD m er0).e.begins = []) → outM (L.take (i + t)) = outM (L.take i)
 | 0, _, _ => rfl
 | t + 1, ht, hm => by
  have h1 := mX h t jo (fun m h1 h2 => hm m h1 jo)
  have h2 := hm (i + t) jo jo
  rw [h.get jo] at h2
  have h3 := qNc h2
  rw [show i + (t + 1) = (i + t) + 1 by omega, oK jo, h1, h3]
  simp
theorem tN {cs : List (List Nat)} {k : Nat} (h : k < cs.length) : (cs.take (k + 1)).flatMap qB = (cs.take k).flatMap qB ++ qB (cs.getD k []) := by
 rw [zak, za h, zz, zc, za h]
 simp
noncomputable def chE (L : List Bb) (i k : Nat) : Nat := (outM (L.take i)).length + (((chunkL (L.getD i b0).2).take (k + 1)).flatMap qB).length
theorem qRe {l : List Er} {L : List Bb} (h : gI l L) {i k : Nat} (hi : i < L.length) (hk : k < (chunkL (L.getD i b0).2).length) : qQh l (outM L).length i k (chE L i k) := by
 have hg := h.get hi
 have hl := h.len
 unfold qQh
 rw [hg]
 dsimp only
 rw [cL]
 refine ⟨fun h1 => ?_, fun h1 => ⟨fun j hij hj hm hne => ?_, fun hm => ?_⟩⟩
 ·
  rw [gP _ _ _ h1]
  rfl
 ·
  have hkE : chE L i k = (outM (L.take (i + 1))).length := by
   unfold chE
   rw [zm h1, oK hi, zb]
  have h2 := mX (i := i + 1) h (j - (i + 1)) jo (fun m h3 h4 => hm m jo jo)
  rw [show i + 1 + (j - (i + 1)) = j by omega] at h2
  have hgj := h.get (i := j) jo
  rw [hgj] at hne ⊢
  dsimp only at hne ⊢
  have h3 : 0 < (chunkL (L.getD j b0).2).length := by
   rw [← cL _ (outM (L.take j)).length]
   exact List.length_pos_iff.2 hne
  rw [gP _ _ _ h3, h2, hkE]
  simp
 have hkE : chE L i k = (outM (L.take (i + 1))).length := by
  unfold chE
  rw [zm h1, oK hi, zb]
 have h2 := mX (i := i + 1) h (L.length - (i + 1)) jo (fun m h3 h4 => hm m jo jo)
 rw [show i + 1 + (L.length - (i + 1)) = L.length by omega, zbk] at h2
 rw [hkE, h2]
theorem qNd (L : List Bb) {i k : Nat} (hi : i < L.length) (hk : k < (chunkL (L.getD i b0).2).length) :
  ∃ a b, segM L = a ++ (qB ((chunkL (L.getD i b0).2).getD k []) ++ b) ∧ a.length = (outM (L.take i)).length + (((chunkL (L.getD i b0).2).take k).flatMap qB).length ∧ chE L i k = a.length + (qB ((chunkL (L.getD i b0).2).getD k [])).length := by
 have h1 : L = L.take i ++ L.getD i b0 :: L.drop (i + 1) := by
  have h2 := (zch i L).symm
  rw [zcy hi] at h2
  rw [zc, za hi]
  exact h2
 have h3 : outM L = outM (L.take i) ++ ((chunkL (L.getD i b0).2).flatMap qB ++ outM (L.drop (i + 1))) := by
  have h4 : outM (L.take i ++ L.getD i b0 :: L.drop (i + 1)) = outM (L.take i) ++ ((chunkL (L.getD i b0).2).flatMap qB ++ outM (L.drop (i + 1))) := by
   unfold outM
   rw [zz, zn]
  rw [← h1] at h4
  exact h4
 have h5 : (chunkL (L.getD i b0).2).flatMap qB = ((chunkL (L.getD i b0).2).take k).flatMap qB ++ (qB ((chunkL (L.getD i b0).2).getD k []) ++ ((chunkL (L.getD i b0).2).drop (k + 1)).flatMap qB) := by
  have h6 := congrArg (fun c => c.flatMap qB) (zch (k + 1) (chunkL (L.getD i b0).2)).symm
  rw [zz, tN hk, zi] at h6
  exact h6
 refine ⟨outM (L.take i) ++ ((chunkL (L.getD i b0).2).take k).flatMap qB, ((chunkL (L.getD i b0).2).drop (k + 1)).flatMap qB ++ outM (L.drop (i + 1)) ++ bF L ++ qL (crcM (bF L)) 4 ++ [115, 101, 97, 108], ?_, zb, ?_⟩
 ·
  unfold segM
  rw [h3, h5]
  simp only [zi]
 unfold chE
 rw [tN hk, zb, zb]
 omega
theorem qNe {l : List Er} {L : List Bb} (h : gI l L) (hL : ∀ x ∈ L, x.2.length ≤ 4032 ∧ x.1 < 18446744073709551616 ∧ ∀ b ∈ x.2, b < 256) {i k : Nat} (hi : i < L.length) (hk : k < (chunkL (L.getD i b0).2).length) :
  (l.getD i er0).e.begins.getD k 0 ≤ chE L i k ∧ chE L i k ≤ (segM L).length ∧ gZ (((segM L).drop ((l.getD i er0).e.begins.getD k 0)).take (chE L i k - (l.getD i er0).e.begins.getD k 0)) ((chunkL (L.getD i b0).2).getD k []).length = .ok ((chunkL (L.getD i b0).2).getD k [], chE L i k - (l.getD i er0).e.begins.getD k 0) := by
 obtain ⟨a, b, h1, h2, h3⟩ := qNd L hi hk
 rw [h.get hi]
 dsimp only
 rw [gP _ _ _ hk, ← h2, h1, zen, h3]
 have hm : (chunkL (L.getD i b0).2).getD k [] ∈ chunkL (L.getD i b0).2 := qSc hk
 obtain ⟨h4, h5⟩ := nM hm
 have h6 := qJk h4 (fun b hb => (hL _ (nP hi)).2.2 b (h5 b hb))
 refine ⟨jo, by rw [zb, zb]; omega, ?_⟩
 rw [show a.length + (qB ((chunkL (L.getD i b0).2).getD k [])).length - a.length = (qB ((chunkL (L.getD i b0).2).getD k [])).length by omega, zgb]
 exact h6
theorem qQi {l : List Er} {L : List Bb} (h : gI l L) (hL : ∀ x ∈ L, x.2.length ≤ 4032 ∧ x.1 < 18446744073709551616 ∧ ∀ b ∈ x.2, b < 256) (hn : L.length ≤ 64) : xF l := by
 have hl := h.len
 refine ⟨jo, fun x hx => ?_⟩
 obtain ⟨i, hi, rfl⟩ := zbd hx
 have hg := h.get (i := i) jo
 rw [zc, za hi, zba] at hg
 obtain ⟨h1, h2, h3⟩ := hL _ (nP (i := i) jo)
 rw [hg]
 dsimp only
 refine ⟨h2, h1, lJ _, by rw [cL]; exact mC h1, fun b hb => ?_⟩
 obtain ⟨k, hk, rfl⟩ := zbd hb
 rw [cL] at hk
 have h4 := gP (chunkL (L.getD i b0).2) (outM (L.take i)).length k hk
 rw [zc, za (by rw [cL]; exact hk), zba] at h4
 rw [h4]
 have h5 := lN (L.take i) (fun x hx => hL x (zal hx))
 have h6 : (L.take i).length ≤ 64 := by rw [zj]; omega
 have h7 := tL h1 h3
 have h8 : (((chunkL (L.getD i b0).2).take k).flatMap qB).length ≤ ((chunkL (L.getD i b0).2).flatMap qB).length := by
  have h9 : (chunkL (L.getD i b0).2).flatMap qB = ((chunkL (L.getD i b0).2).take k).flatMap qB ++ ((chunkL (L.getD i b0).2).drop k).flatMap qB := by rw [← zz, zch]
  rw [h9, zb]
  omega
 omega
theorem qKr {L : List Bb} (hL : ∀ x ∈ L, x.2.length ≤ 4032 ∧ x.1 < 18446744073709551616 ∧ ∀ b ∈ x.2, b < 256) : ∀ b ∈ segM L, b < 256 := by
 intro b hb
 unfold segM at hb
 rcases List.mem_append.1 hb with hb | hb
 ·
  rcases List.mem_append.1 hb with hb | hb
  ·
   rcases List.mem_append.1 hb with hb | hb
   · exact qP8 L (fun x hx => (hL x hx).2.2) b hb
   exact xD L b hb
  exact gB _ _ b hb
 simp at hb
 omega
theorem qZp {L : List Bb} (hL : ∀ x ∈ L, x.2.length ≤ 4032 ∧ x.1 < 18446744073709551616 ∧ ∀ b ∈ x.2, b < 256) (hn : L.length ≤ 64) : (segM L).length ≤ 600000 := by
 have h1 := lN L hL
 have h2 := mD L 0 (fun x hx => (hL x hx).1)
 unfold segM bF bE
 simp only [zb, bN, zp, zcs]
 omega
end
section
open Go.RowKit
def oR (w : World) (g : Nat) (L : List Bb) : Prop := ∃ bA bc dA dc l, IsSg w g bA bc dA dc (segM L) l (outM L).length ∧ gI l L
theorem oR.frm {w w' : World} {g : Nat} {L : List Bb} (h : oR w g L) (k : Frm [] w w') : oR w' g L := by
 obtain ⟨bA, bc, dA, dc, l, h1, h2⟩ := h
 exact ⟨bA, bc, dA, dc, l, h1.frm k, h2⟩
def kJ (d : List Nat) (f n : Nat) : Nat := if d.length ≤ f ∨ n = 0 then 0 else (f + min n (d.length - f) - 1) / 256 - f / 256 + 1
theorem wI {L : List Bb} (h : L.Pairwise (fun a b => a.1 < b.1)) : ∀ a b, a < b → b < L.length → (L.getD a b0).1 < (L.getD b b0).1 := by
 intro a b hab hb
 rw [zc, zc, za hb, za jo]
 exact List.pairwise_iff_getElem.1 h a b jo hb hab
def kK (d : List Nat) (f k : Nat) : List Nat := (d.take (256 * k)).drop (256 * (f / 256))
theorem zL (d : List Nat) (f : Nat) (h : f < d.length) : kK d f (f / 256) = [] := by
 unfold kK
 apply zcx
 rw [zj]
 omega
theorem qG2 (d : List Nat) (f k : Nat) (h : f / 256 ≤ k) (hk : 256 * k < d.length) : kK d f (k + 1) = kK d f k ++ (chunkL d).getD k [] := by
 rw [mB hk]
 unfold kK
 rw [show 256 * (k + 1) = 256 * k + 256 by omega, List.take_add, zcc (by rw [zj]; omega)]
theorem qNf (d : List Nat) (f k : Nat) : (kK d f k).length = min (256 * k) d.length - 256 * (f / 256) := by
 unfold kK
 rw [zq, zj]
theorem qNg (d : List Nat) (f t k : Nat) (h1 : f ≤ t) (h2 : t ≤ 256 * k) (h3 : t ≤ d.length) : ((kK d f k).drop (f - 256 * (f / 256))).take (t - 256 * (f / 256) - (f - 256 * (f / 256))) = (d.drop f).take (t - f) := by
 unfold kK
 rw [List.drop_drop, show 256 * (f / 256) + (f - 256 * (f / 256)) = f by omega, show t - 256 * (f / 256) - (f - 256 * (f / 256)) = t - f by omega, List.drop_take, zfy, zbc jo]
theorem kL (g i f n : Nat) (L : List Bb) (w : World) (hS : oR w g L) (hM : nN L) (hi : i < L.length) (hf : f ≤ 9223372036854775807) (hn : n ≤ 9223372036854775807) :
  Calls Tryz.prog 13 #[.pointer (some ⟨g, 0, none⟩), .int .u64 (((L.getD i b0).1 : Nat) : Int), .int .i64 ((f : Nat) : Int), .int .i64 ((n : Nat) : Int)] w fun e w' => ∃ B m, e = .returned (.tuple #[.slice B (((L.getD i b0).2.drop f).take n).length m, .int .i64 ((kJ (L.getD i b0).2 f n : Nat) : Int), .int .i64 ((0 : Nat) : Int)]) ∧ Rd w' 1 B (((L.getD i b0).2.drop f).take n).length (NB (((L.getD i b0).2.drop f).take n)) ∧ Frm [] w w' := by
 obtain ⟨bA, bc, dA, dc, l, hS, ht⟩ := hS
 obtain ⟨hL, hpw, h1n, h64⟩ := hM
 have hok := qQi ht hL h64
 have hg := ht.get hi
 have hll := ht.len
 have hbl := qZp hL h64
 have hbb := qKr hL
 obtain ⟨hd40, hid, hdb⟩ := hL _ (nP hi)
 have hfs := tM i g bc dc _ bA dA _ l w hS hok jo (fun a b hab hb => by rw [ht.get jo, ht.get jo]; exact wI hpw a b hab jo)
 rw [hg] at hfs
 dsimp only at hfs
 have hchk := fun (k : Nat) (W : World) (hW : IsSg W g bA bc dA dc (segM L) l (outM L).length) (hk : k < (chunkL (L.getD i b0).2).length) => by
  obtain ⟨q1, q2, q3⟩ := qNe ht hL hi hk
  have q4 := qZo i k (chE L i k) g bc dc _ bA dA _ ((chunkL (L.getD i b0).2).getD k []) l W hW hok jo (qRe ht hi hk) (by rw [hg]; dsimp only; rw [cL]; exact hk) jo hbb q1 q2
  rw [hg] at q4 q3
  have hkl := fD (L.getD i b0).2
  have hcg := mB (d := (L.getD i b0).2) (k := k) jo
  exact q4 (by dsimp only; omega) (by dsimp only; rw [hcg, zj, zq]) q3
 have hkl := fD (L.getD i b0).2
 generalize hdd : (L.getD i b0).2 = d at *
 generalize (L.getD i b0).1 = id at *
 refine VC.calls (nt := 94) (res := #[.tmp 8, .tmp 9, .tmp 10]) Tryz.func13 rfl Tryz.ntmps13 Tryz.results13 rfl ?_
 refine jS (jR (ja rfl (jz 0 (jz 0 (jO (jN (jv4 0 1 2 3 ?_)))))))
 refine jS (jR (jm rfl (jM ?_)))
 refine Ops.cl (jE2 Tryz.call26) (hfs) rfl ?_
 rintro e w1 ⟨rfl, K⟩
 refine ⟨_, rfl, ?_⟩
 have hS1 := hS.frm K
 obtain ⟨ad, hdA, hel⟩ := hS1.dir.cell (jo : i < l.length)
 subst hdA
 have hsz := hel 1 (.int .i64 (((l.getD i er0).e.size : Nat) : Int)) rfl
 rw [hg] at hsz
 dsimp only at hsz
 refine ja rfl (jO (jN (jv4 0 2 3 11 ?_)))
 refine jS (jB (jS (jR (jm rfl (jb rfl rfl (Bin.lssN _ 0) (ja rfl (jO (jN (jv5 0 2 3 11 24 ?_)))))))))
 refine VC.condF rfl (decide_eq_false jo) ?_
 refine jS ?_
 refine VC.split1 [(0, _), (2, _), (3, _), (11, _)] (js4 rfl rfl rfl rfl) 27 (.bool (decide (f < 0 ∨ n < 0))) ?_ ?_
 ·
  refine jR ?_
  refine jm rfl (jb rfl rfl (Bin.lssN _ 0) ?_)
  by_cases hs29 : f < 0
  ·
   refine jM ?_
   refine jU ?_
   refine jU ?_
   refine je (Run.pickT rfl rfl au) (ja rfl (jO ?_))
   refine jN ⟨(js5 (jC (by first | (simp [*]; done) | (simp; omega))) rfl rfl rfl rfl), rfl⟩
  refine jM ?_
  refine jG ?_
  refine jk (Run.bin rfl rfl (Bin.lssN _ 0)) ?_
  by_cases hs32 : n < 0
  ·
   refine je (Run.pickF rfl rfl au) (ja rfl (jO ?_))
   refine jN ⟨(js5 (jC (by first | (simp [*]; done) | (simp; omega))) rfl rfl rfl rfl), rfl⟩
  refine je (Run.pickF rfl rfl au) (ja rfl (jO ?_))
  refine jN ⟨(js5 (jC (by first | (simp [*]; done) | (simp; omega))) rfl rfl rfl rfl), rfl⟩
 intro Γ hΓ
 refine jN (VC.sub _ hΓ ?_)
 refine VC.condF rfl (decide_eq_false jo) ?_
 refine jQ ?_
 refine qK (jN ?_)
 refine jv4 0 2 3 11 ?_
 refine jS (jR (jm rfl (je (Run.nilck rfl) (jf rfl zaj rfl zbx (jl rfl zcm (hS1.blk.cell 1) (jm rfl (je (Run.indexS _ rfl rfl zat zbj jo) (jf rfl zas rfl zd (jl rfl zg hsz ?_)))))))))
 refine ja rfl (jO (jN (jv5 0 2 3 11 12 ?_)))
 refine jS (jS ?_)
 refine VC.split1 [(0, _), (2, _), (3, _), (11, _), (12, _)] (js5 rfl rfl rfl rfl rfl) 48 (.bool (decide (d.length ≤ f ∨ n = 0))) ?_ ?_
 ·
  refine jR ?_
  refine jm rfl (jm rfl (jb rfl rfl (Bin.geqN _ _) ?_))
  by_cases hs44 : d.length ≤ f
  ·
   refine jM ?_
   refine jU ?_
   refine jU ?_
   refine je (Run.pickT rfl rfl au) (jO ?_)
   refine jN ⟨(js6 (jC (by first | (simp [*]; done) | (simp; omega))) rfl rfl rfl rfl rfl), rfl⟩
  refine jM ?_
  refine jG ?_
  refine jk (Run.bin rfl rfl (Bin.eqlN _ 0)) ?_
  by_cases hs47 : n = 0
  ·
   refine je (Run.pickF rfl rfl au) (jO ?_)
   refine jN ⟨(js6 (jC (by first | (simp [*]; done) | (simp; omega))) rfl rfl rfl rfl rfl), rfl⟩
  refine je (Run.pickF rfl rfl au) (jO ?_)
  refine jN ⟨(js6 (jC (by first | (simp [*]; done) | (simp; omega))) rfl rfl rfl rfl rfl), rfl⟩
 intro Γ hΓ
 refine jN (VC.sub _ hΓ ?_)
 refine jD rfl (fun hc3 => ?_) fun hc3 => ?_
 ·
  have hnil : (d.drop f).take n = [] := by
   rcases hc3 with h | h
   · rw [zcx h, List.take_nil]
   rw [h, zdm]
  have hcn : kJ d f n = 0 := if_pos hc3
  refine jS (jR (ja rfl (jz 0 (jz 0 (jO (jN (jv3 8 9 10 ?_)))))))
  refine jT ?_
  refine qN (qQk rfl rfl rfl ?_)
  rw [hnil, hcn]
  exact ⟨none, 0, rfl, Rd.nil _ _ _, K⟩
 have hfd : f < d.length := zgg (fun h => hc3 (.inl h))
 have hn0 : n ≠ 0 := fun h => hc3 (.inr h)
 obtain ⟨m0, hm0⟩ : ∃ m0, m0 = min n (d.length - f) := ⟨_, rfl⟩
 have hlen : ((d.drop f).take n).length = m0 := by rw [zj, zq]; omega
 have htk : (d.drop f).take n = (d.drop f).take (f + m0 - f) := by
  rw [show f + m0 - f = m0 by omega]
  by_cases h : n ≤ d.length - f
  · rw [hm0, zbc h]
  rw [zm (by rw [zq]; omega), zm (by rw [zq]; omega)]
 have hcn : kJ d f n = (f + m0 - 1) / 256 - f / 256 + 1 := by rw [hm0]; exact if_neg hc3
 refine jQ (jN (jv5 0 2 3 11 12 ?_))
 refine jS (jR (jm rfl (jm rfl (jm rfl (jm rfl (jb rfl rfl (Bin.sub_i64 _ _ jo jo) (je (Run.minN n (d.length - f) m0 rfl rfl hm0) (jb rfl rfl (Bin.add_i64 _ _ jo) (ja rfl (jO (jN (jv4 0 2 11 13 ?_))))))))))))
 refine jS (jR (ja rfl (jO (jN (jS (jR (jm rfl (jb rfl rfl (Bin.quo_i64 _ 256 jo jo) (jm rfl (jb rfl rfl (Bin.sub_i64 _ 1 jo jo) (jb rfl rfl (Bin.quo_i64 _ 256 jo jo) (ja rfl (ja rfl (jO (jN (jv7 0 2 11 13 14 15 16 ?_))))))))))))))))
 refine jS (jS (jR (jm rfl (ja rfl (jO (jN (jv8 0 2 11 13 14 15 16 17 ?_)))))))
 refine jB ?_
 refine VC.loop (σ := Nat × Option Addr × Nat) (fun s => [(0, .pointer (some ⟨g, 0, none⟩)), (2, .int .i64 ((f : Nat) : Int)), (11, .int .i64 ((i : Nat) : Int)), (13, .int .i64 ((f + m0 : Nat) : Int)), (14, .slice s.2.1 (kK d f s.1).length s.2.2), (15, .int .i64 ((f / 256 : Nat) : Int)), (16, .int .i64 (((f + m0 - 1) / 256 : Nat) : Int)), (17, .int .i64 ((s.1 : Nat) : Int))]) (fun s wr => f / 256 ≤ s.1 ∧ s.1 ≤ (f + m0 - 1) / 256 + 1 ∧ Own wr 5 1 s.2.1 (kK d f s.1).length s.2.2 (NB (kK d f s.1)) ∧ Frm [] w wr ∧ ∀ x ∈ ob s.2.1, w.heap.size ≤ x) (fun s => (f + m0 - 1) / 256 + 1 - s.1) (f / 256, none, 0) (js8 rfl rfl rfl rfl (by rw [zL d f hfd]; rfl) rfl rfl rfl) ⟨zk _, jo, by rw [zL d f hfd]; exact Own.nil _ _ _, K, by simp [ob]⟩ ?_
 rintro ⟨k, B, m⟩ wr ⟨hk1, hk2, ho, K, hob⟩
 dsimp only at *
 have hol := qNf d f k
 refine jS (jS (jR (jm rfl (jm rfl (jb rfl rfl (Bin.leqN _ _) (jO (jN (jv9 0 2 11 13 14 15 16 17 64 ?_))))))))
 refine jD rfl (fun hc4 => ?_) fun hc4 => ?_
 ·
  have hkd : 256 * k < d.length := jo
  have hosn := qG2 d f k hk1 hkd
  have hCl : ((chunkL d).getD k []).length ≤ 256 := by rw [mB hkd, zj]; omega
  refine jQ (jN (jv8 0 2 11 13 14 15 16 17 ?_))
  refine jS (jB (jS (jR (jm rfl (jm rfl (jM ?_))))))
  refine Ops.cl (jE3 Tryz.call27) (hchk k _ (hS.frm K) jo) rfl ?_
  rintro e w2 ⟨B2, m2, rfl, ho2, hf2, hu2⟩
  refine ⟨_, rfl, ?_⟩
  have ho := ho.frm hf2 jp
  have K := K.trans hf2 jp
  refine jm rfl (je (Run.extract rfl rfl) (je (Run.extract rfl rfl) (ja rfl (ja rfl (jO (jN (jv10 0 2 11 13 14 15 16 17 18 19 ?_)))))))
  refine jS (jS (jR (jm rfl (je (Run.not rfl) (jO (jN (jv10 0 2 11 13 14 15 16 17 18 75 ?_)))))))
  refine VC.condF rfl (rfl) ?_
  refine jQ (jN (jv9 0 2 11 13 14 15 16 17 18 ?_))
  refine jR (jm rfl (jM ?_))
  refine Ops.m (qJ.app rfl rfl ze (dD) rfl jd ho ho2.rd (dH _) jo jo) rfl ?_
  rintro _ w3 ⟨B3, m3, rfl, ho3, hf3, hob3⟩
  rw [← eE, ← hosn] at ho3
  have hks := K.size
  have K := K.own hf3 hob
  have hob2 : ∀ y ∈ ob B3, w.heap.size ≤ y := fun y hy => by
   rcases hob3 with h | h
   · rw [h] at hy; exact hob y hy
   rw [h, zh] at hy; omega
  have hsl : (kK d f (k + 1)).length = (kK d f k).length + ((chunkL d).getD k []).length := by rw [hosn, zb]
  rw [← hsl]
  refine ja rfl (jO ?_)
  refine qK (jN ?_)
  refine jv8 0 2 11 13 14 15 16 17 ?_
  refine jR (jm rfl (jb rfl rfl (Bin.add_i64 _ 1 jo) (ja rfl (jO ?_))))
  refine jN ⟨(k + 1, B3, m3), (js8 rfl rfl rfl rfl rfl rfl rfl rfl), ?_, ?_⟩
  · exact ⟨jo, jo, by first | exact ho3 | (rw [hsl]; exact ho3), K, hob2⟩
  first | omega | (dsimp only; omega)
 obtain rfl : k = (f + m0 - 1) / 256 + 1 := jo
 have hle := ho.le
 have hcut := ho.rd.cut (l := f - f / 256 * 256) (r := f + m0 - f / 256 * 256) (cap := m) jo (by rw [hol]; omega) hle
 rw [zcw, zcw] at hcut
 have hoc := by
  have h := qNg d f (f + m0) ((f + m0 - 1) / 256 + 1) jo jo jo
  rw [zce 256 (f / 256)] at h
  exact h
 have hNB : ((NB (kK d f ((f + m0 - 1) / 256 + 1))).drop (f - f / 256 * 256)).take (f + m0 - f / 256 * 256 - (f - f / 256 * 256)) = NB ((d.drop f).take n) := by rw [htk, ← hoc]; simp [NB, zdu, zgj]
 rw [hNB] at hcut
 have hcl2 : f + m0 - f / 256 * 256 - (f - f / 256 * 256) = ((d.drop f).take n).length := by rw [hlen]; omega
 refine jX ?_
 refine qZ (qZ (qP ?_))
 refine jN (jv5 2 13 14 15 16 ?_)
 refine jS (jR (jm rfl (jb rfl rfl (Bin.mul_i64 _ 256 jo) (ja rfl (jO (jN (jv6 2 13 14 15 16 20 ?_)))))))
 refine jS (jR (jm rfl (jm rfl (jm rfl (jb rfl rfl (Bin.sub_i64 _ _ jo jo) (jm rfl (jm rfl (jb rfl rfl (Bin.sub_i64 _ _ jo jo) (je (Run.sliceS _ _ rfl ze zai (evB.some_ rfl) (evB.some_ rfl) jo jo) ?_)))))))))
 refine Ops.cl (jE1 Tryz.call28) (qZ6 _ _ _ ((d.drop f).take n) _ hcl2.symm jo hcut) rfl ?_
 rintro e w4 ⟨B4, m4, rfl, ho4, hf4, hob4⟩
 refine ⟨_, rfl, ?_⟩
 refine jm rfl (jm rfl (jb rfl rfl (Bin.sub_i64 _ _ jo jo) (jb rfl rfl (Bin.add_i64 _ 1 jo) (ja rfl (ja rfl (jz 0 (jO (jN (jv3 8 9 10 ?_)))))))))
 refine jT ?_
 refine qQk rfl rfl rfl ?_
 rw [hcn, ← hcl2]
 exact ⟨B4, m4, rfl, by rw [hcl2] at ho4 ⊢; exact ho4.rd, K.trans hf4 jp⟩
theorem qG3 (g i : Nat) (f n : Int) (L : List Bb) (w : World) (hS : oR w g L) (hM : nN L) (hi : i < L.length) (hfn : f < 0 ∨ n < 0) :
  Calls Tryz.prog 13 #[.pointer (some ⟨g, 0, none⟩), .int .u64 (((L.getD i b0).1 : Nat) : Int), .int .i64 f, .int .i64 n] w fun e w' => e = .returned (.tuple #[.slice none 0 0, .int .i64 ((0 : Nat) : Int), .int .i64 ((1 : Nat) : Int)]) ∧ Frm [] w w' := by
 obtain ⟨bA, bc, dA, dc, l, hS, ht⟩ := hS
 obtain ⟨hL, hpw, h1n, h64⟩ := hM
 have hok := qQi ht hL h64
 have hg := ht.get hi
 have hll := ht.len
 have hfs := tM i g bc dc _ bA dA _ l w hS hok jo (fun a b hab hb => by rw [ht.get jo, ht.get jo]; exact wI hpw a b hab jo)
 rw [hg] at hfs
 dsimp only at hfs
 refine VC.calls (nt := 94) (res := #[.tmp 8, .tmp 9, .tmp 10]) Tryz.func13 rfl Tryz.ntmps13 Tryz.results13 rfl ?_
 refine jS (jR (ja rfl (jz 0 (jz 0 (jO (jN (jv4 0 1 2 3 ?_)))))))
 refine jS (jR (jm rfl (jM ?_)))
 refine Ops.cl (jE2 Tryz.call26) (hfs) rfl ?_
 rintro e w1 ⟨rfl, K⟩
 refine ⟨_, rfl, ?_⟩
 refine ja rfl (jO (jN (jv4 0 2 3 11 ?_)))
 refine jS (jB (jS (jR (jm rfl (jb rfl rfl (Bin.lssN _ 0) (ja rfl (jO (jN (jv5 0 2 3 11 24 ?_)))))))))
 refine VC.condF rfl (decide_eq_false jo) ?_
 refine jS ?_
 refine VC.split1 [(0, _), (2, _), (3, _), (11, _)] (js4 rfl rfl rfl rfl) 27 (.bool (decide (f < 0 ∨ n < 0))) ?_ ?_
 ·
  refine jR ?_
  refine jm rfl (jb rfl rfl (Bin.lss _ 0) ?_)
  by_cases hs29 : f < 0
  ·
   refine jM ?_
   refine jU ?_
   refine jU ?_
   refine je (Run.pickT rfl rfl au) (ja rfl (jO ?_))
   refine jN ⟨(js5 (jC (by first | (simp [*]; done) | (simp; omega))) rfl rfl rfl rfl), rfl⟩
  refine jM ?_
  refine jG ?_
  refine jk (Run.bin rfl rfl (Bin.lss _ 0)) ?_
  by_cases hs32 : n < 0
  ·
   refine je (Run.pickF rfl rfl au) (ja rfl (jO ?_))
   refine jN ⟨(js5 (jC (by first | (simp [*]; done) | (simp; omega))) rfl rfl rfl rfl), rfl⟩
  refine je (Run.pickF rfl rfl au) (ja rfl (jO ?_))
  refine jN ⟨(js5 (jC (by first | (simp [*]; done) | (simp; omega))) rfl rfl rfl rfl), rfl⟩
 intro Γ hΓ
 refine jN (VC.sub _ hΓ ?_)
 refine VC.condT rfl (decide_eq_true hfn) ?_
 refine jS (jR (ja rfl (jz 0 (jz 1 (jO (jN (jv3 8 9 10 ?_)))))))
 refine jT ?_
 refine qC (qN (qQk rfl rfl rfl ?_))
 exact ⟨rfl, K⟩
theorem qJm (g i : Nat) (L : List Bb) (w : World) (hS : oR w g L) (hM : nN L) (hi : i < L.length) :
  Calls Tryz.prog 12 #[.pointer (some ⟨g, 0, none⟩), .int .u64 (((L.getD i b0).1 : Nat) : Int)] w fun e w' => ∃ B m, e = .returned (.tuple #[.slice B (L.getD i b0).2.length m, .int .i64 ((0 : Nat) : Int)]) ∧ Rd w' 1 B (L.getD i b0).2.length (NB (L.getD i b0).2) ∧ Frm [] w w' := by
 have hS' := hS
 have hM' := hM
 obtain ⟨bA, bc, dA, dc, l, hS, ht⟩ := hS
 obtain ⟨hL, hpw, h1n, h64⟩ := hM
 have hok := qQi ht hL h64
 have hg := ht.get hi
 have hll := ht.len
 obtain ⟨hd40, hid, hdb⟩ := hL _ (nP hi)
 have hfs := fun W (hW : IsSg W g bA bc dA dc (segM L) l (outM L).length) => tM i g bc dc _ bA dA _ l W hW hok jo (fun a b hab hb => by rw [ht.get jo, ht.get jo]; exact wI hpw a b hab jo)
 rw [hg] at hfs
 dsimp only at hfs
 have hrd := kL g i 0 4032 L w hS' hM' hi jo jo
 rw [zca, zm hd40] at hrd
 have hcr := lJ (L.getD i b0).2
 generalize hdd : (L.getD i b0).2 = d at *
 generalize (L.getD i b0).1 = id at *
 refine VC.calls (nt := 33) (res := #[.tmp 4, .tmp 5]) Tryz.func12 rfl Tryz.ntmps12 Tryz.results12 rfl ?_
 refine jS (jR (ja rfl (jz 0 (jO (jN (jv2 0 1 ?_))))))
 refine jS (jR (jm rfl (jM ?_)))
 refine Ops.cl (jE4 Tryz.call13) (hrd) rfl ?_
 rintro e w1 ⟨B, m, rfl, hr1, K⟩
 refine ⟨_, rfl, ?_⟩
 refine jm rfl (je (Run.extract rfl rfl) (je (Run.extract rfl rfl) (je (Run.extract rfl rfl) (ja rfl (ja rfl (ja rfl (jO (jN (jv4 0 1 6 8 ?_)))))))))
 refine jS (jS (jR (jm rfl (jb rfl rfl (Bin.neqN _ 0) (jO (jN (jv5 0 1 6 8 17 ?_)))))))
 refine VC.condF rfl (decide_eq_false (fun h => h rfl)) ?_
 refine jQ (jN (jv3 0 1 6 ?_))
 refine jS (jS ?_)
 refine VC.held (fun v => Frm [] w1 v) jK ?_
 have hW : (fun v => Frm [] w1 v) w1.drew := (qQ.drew w1).frm
 have hS1 := hS.frm K
 obtain ⟨ad, hdA, hel⟩ := hS1.dir.cell (jo : i < l.length)
 subst hdA
 have hsz := hel 2 (.int .u32 (((l.getD i er0).e.sum : Nat) : Int)) rfl
 rw [hg] at hsz
 dsimp only at hsz
 have hS := hW
 refine jH 0 rfl hS (fun w0 hw0 => Run.mv rfl) ?_
 refine jH 2 rfl hS (fun w0 hw0 => Run.mv rfl) ?_
 refine jH 3 rfl hS (fun w0 hw0 => Run.nilck rfl) ?_
 refine jH 4 rfl hS (fun w0 hw0 => Run.fieldAddr rfl zaj rfl zbx jd) ?_
 refine jH 5 rfl hS (fun w0 hw0 => Run.load rfl zcm ((hS1.frm hw0).blk.cell 1)) ?_
 refine jH 6 rfl hS (fun w0 hw0 => Run.mv rfl) ?_
 refine jH 7 rfl hS (fun w0 hw0 => Run.mv rfl) ?_
 refine qV.cl 1 rfl jK (jE1 Tryz.call16) (nA B m d.length d _ rfl jo hdb (hr1.frm hW jp)) trivial rfl rfl ?_
 rintro e w2 ⟨rfl, hf2⟩
 have hW := hW.trans hf2 jp
 have hS := hW
 refine ⟨_, rfl, hS, ?_⟩
 refine qV.cl 8 rfl jK (jE2 Tryz.call26) (hfs _ (hS1.frm hW)) trivial rfl rfl ?_
 rintro e w3 ⟨rfl, hf3⟩
 have hW := hW.trans hf3 jp
 have hS := hW
 refine ⟨_, rfl, hS, ?_⟩
 refine jH 9 rfl hS (fun w0 hw0 => Run.indexS _ rfl rfl zat zbj jo) ?_
 refine jH 10 rfl hS (fun w0 hw0 => Run.fieldAddr rfl zas rfl Tryz.sizeOf47 jd) ?_
 refine jH 11 rfl hS (fun w0 hw0 => Run.load rfl Tryz.isAgg47 (hw0.cell hsz jp)) ?_
 refine jH 12 rfl hS (fun w0 hw0 => Run.bin rfl rfl (Bin.neqN _ _)) ?_
 refine qV.done jK ?_
 refine jN (jv2 6 31 ?_)
 refine VC.condF rfl (decide_eq_false (fun h => h rfl)) ?_
 refine jQ (jN (jv1 6 ?_))
 refine jS (jR (jm rfl (ja rfl (jz 0 (jO (jN (jv2 4 5 ?_)))))))
 refine jT ?_
 refine cV rfl rfl ?_
 exact ⟨B, m, rfl, hr1.frm hW jp, K.trans hW jp⟩
end
section
open Go.RowKit
theorem tO {bs s : List Nat} {a wh v n : Nat} (h : bs.drop a = qL v n ++ s) (hv : v < 256 ^ n) (hn : 1 ≤ n) : rdN bs a 0 wh n = (v, a + n, 0, wh) ∧ bs.drop (a + n) = s ∧ a + n ≤ bs.length := by
 have h1 := congrArg List.length h
 rw [zq, zb, bN] at h1
 have h2 : numAt bs a n = v := by
  unfold numAt
  rw [h, zbr (by rw [bN]; omega), zm (by rw [bN]; omega)]
  exact uE n v hv
 refine ⟨?_, ?_, jo⟩
 ·
  unfold rdN
  rw [if_neg jo, if_neg jo, h2]
 rw [← List.drop_drop, h]
 exact List.drop_left' (bN v n)
noncomputable def eB (L : List Bb) (i : Nat) : Nat := 2 + (((cW 0 L).take i).flatMap fX).length
noncomputable def eC (L : List Bb) (i k : Nat) : Nat := (outM (L.take i)).length + (((chunkL (L.getD i b0).2).take k).flatMap qB).length
theorem zO (L : List Bb) (i : Nat) : (bE L).drop (eB L i) = ((cW 0 L).drop i).flatMap fX ++ qL (kA 0 L) 4 := by
 have h1 : bE L = (qL L.length 2 ++ ((cW 0 L).take i).flatMap fX) ++ (((cW 0 L).drop i).flatMap fX ++ qL (kA 0 L) 4) := by
  unfold bE
  rw [show (cW 0 L).flatMap fX = ((cW 0 L).take i).flatMap fX ++ ((cW 0 L).drop i).flatMap fX by rw [← zz, zch]]
  simp only [zi]
 have h2 : (qL L.length 2 ++ ((cW 0 L).take i).flatMap fX).length = eB L i := by rw [zb, bN]; rfl
 rw [h1, ← h2, zen]
theorem qNh {L : List Bb} {i : Nat} (h : i < L.length) : (cW 0 L).drop i = ⟨(L.getD i b0).1, (L.getD i b0).2.length, crcM (L.getD i b0).2, dG (outM (L.take i)).length (chunkL (L.getD i b0).2)⟩ :: (cW 0 L).drop (i + 1) := by
 have hl := kZ L 0
 have h1 := lR L 0 i h
 rw [zao] at h1
 rw [← h1, zcy jo, zc, za jo]
 rfl
theorem qG4 {L : List Bb} {i : Nat} (h : i < L.length) : eB L (i + 1) = eB L i + 14 + 4 * (chunkL (L.getD i b0).2).length := by
 have hl := kZ L 0
 have h1 : (cW 0 L).take (i + 1) = (cW 0 L).take i ++ [⟨(L.getD i b0).1, (L.getD i b0).2.length, crcM (L.getD i b0).2, dG (outM (L.take i)).length (chunkL (L.getD i b0).2)⟩] := by
  have h2 := lR L 0 i h
  rw [zao] at h2
  rw [← h2, zak, zc, za jo]
  rfl
 unfold eB
 rw [h1, zz, zb, zdn, qZl]
 dsimp only
 rw [cL]
 omega
theorem oV : ∀ (L : List Bb) (o i : Nat), cW o (L.take i) = (cW o L).take i
 | [], o, i => by simp [cW]
 | x :: L, o, 0 => rfl
 | x :: L, o, i + 1 => by rw [zac, cW, cW, zac, oV L]
theorem qG5 {L : List Bb} {i : Nat} (h : i < L.length) : cW 0 (L.take (i + 1)) = cW 0 (L.take i) ++ [⟨(L.getD i b0).1, (L.getD i b0).2.length, crcM (L.getD i b0).2, dG (outM (L.take i)).length (chunkL (L.getD i b0).2)⟩] := by
 have hl := kZ L 0
 have h2 := lR L 0 i h
 rw [zao] at h2
 rw [oV, oV, ← h2, zak, zc, za jo]
 rfl
theorem qSd {L : List Bb} {i : Nat} (h : i < L.length) : (bE L).drop (eB L i) = qL (L.getD i b0).1 8 ++ (qL (L.getD i b0).2.length 2 ++ (qL (crcM (L.getD i b0).2) 4 ++ ((dG (outM (L.take i)).length (chunkL (L.getD i b0).2)).flatMap (fun b => qL b 4) ++ (((cW 0 L).drop (i + 1)).flatMap fX ++ qL (kA 0 L) 4)))) := by
 rw [zO, qNh h, zn]
 unfold fX
 simp only [zi]
theorem qNi {L : List Bb} {i k : Nat} (hk : k < (chunkL (L.getD i b0).2).length) (R : List Nat) : ((dG (outM (L.take i)).length (chunkL (L.getD i b0).2)).drop k).flatMap (fun b => qL b 4) ++ R = qL (eC L i k) 4 ++ (((dG (outM (L.take i)).length (chunkL (L.getD i b0).2)).drop (k + 1)).flatMap (fun b => qL b 4) ++ R) := by
 have hl := cL (chunkL (L.getD i b0).2) (outM (L.take i)).length
 have h1 := gP (chunkL (L.getD i b0).2) (outM (L.take i)).length k hk
 rw [zc, za jo, zba] at h1
 rw [zcy jo, h1, zn, zi]
 rfl
theorem qNj {L : List Bb} {i k : Nat} (hk : k < (chunkL (L.getD i b0).2).length) : (dG (outM (L.take i)).length (chunkL (L.getD i b0).2)).take (k + 1) = (dG (outM (L.take i)).length (chunkL (L.getD i b0).2)).take k ++ [eC L i k] := by
 have hl := cL (chunkL (L.getD i b0).2) (outM (L.take i)).length
 have h1 := gP (chunkL (L.getD i b0).2) (outM (L.take i)).length k hk
 rw [zc, za jo, zba] at h1
 rw [zak, za jo, h1]
 rfl
theorem qG6 {L : List Bb} {i k : Nat} (hk : k < (chunkL (L.getD i b0).2).length) : eC L i k ≤ eC L i (k + 1) := by
 unfold eC
 rw [tN hk, zb]
 omega
theorem qNk {L : List Bb} {i : Nat} (hi : i < L.length) : eC L i (chunkL (L.getD i b0).2).length = (outM (L.take (i + 1))).length := by
 unfold eC
 rw [zbk, oK hi, zb]
theorem qRf {L : List Bb} (hL : ∀ x ∈ L, x.2.length ≤ 4032 ∧ x.1 < 18446744073709551616 ∧ ∀ b ∈ x.2, b < 256) (hn : L.length ≤ 64) {i : Nat} (hi : i < L.length) (k : Nat) : eC L i k ≤ 600000 := by
 obtain ⟨h1, _, h3⟩ := hL _ (nP hi)
 have h5 := lN (L.take i) (fun x hx => hL x (zal hx))
 have h6 : (L.take i).length ≤ 63 := by rw [zj]; omega
 have h7 := tL h1 h3
 have h8 : (((chunkL (L.getD i b0).2).take k).flatMap qB).length ≤ ((chunkL (L.getD i b0).2).flatMap qB).length := by
  have h9 : (chunkL (L.getD i b0).2).flatMap qB = ((chunkL (L.getD i b0).2).take k).flatMap qB ++ ((chunkL (L.getD i b0).2).drop k).flatMap qB := by rw [← zz, zch]
  rw [h9, zb]
  omega
 unfold eC
 omega
theorem qZq {L : List Bb} (hL : ∀ x ∈ L, x.2.length ≤ 4032 ∧ x.1 < 18446744073709551616 ∧ ∀ b ∈ x.2, b < 256) (hn : L.length ≤ 64) : (outM L).length ≤ 600000 := by
 have h5 := lN L hL
 omega
theorem qRg (L : List Bb) : ∀ b ∈ bE L, b < 256 := fun b hb => xD L b (by unfold bF; exact List.mem_append_left _ hb)
theorem qNl {L : List Bb} (hL : ∀ x ∈ L, x.2.length ≤ 4032 ∧ x.1 < 18446744073709551616 ∧ ∀ b ∈ x.2, b < 256) (hn : L.length ≤ 64) : (bE L).length ≤ 600000 := by
 have h2 := mD L 0 (fun x hx => (hL x hx).1)
 unfold bE
 simp only [zb, bN]
 omega
theorem qNm {L : List Bb} : (bE L).drop (eB L L.length) = qL (outM L).length 4 ++ [] ∧ (bE L).length = eB L L.length + 4 := by
 have hl := kZ L 0
 have h1 := zO L L.length
 rw [zcx (by omega : (cW 0 L).length ≤ L.length), mQ] at h1
 refine ⟨by rw [h1]; simp, ?_⟩
 unfold bE eB
 rw [zm jo]
 simp only [zb, bN]
end
section
open Go.RowKit
structure RdSt (W : World) (g : Nat) (bA : Option Addr) (bn bc : Nat) (dA : Option Addr) (dc : Nat) (l : List Er) : Prop where
 bS : Blk W g 62 #[.slice bA bn bc, .slice dA l.length dc, .int .i64 ((0 : Nat) : Int)]
 dO : Own W 66 4 dA l.length dc (EC l)
 bg : ∀ x ∈ l, Own W 3 1 x.A x.e.begins.length x.c (ZB x.e.begins)
theorem RdSt.oc {W W' : World} {g g1 bn bc dc : Nat} {bA dA : Option Addr} {l : List Er} {cs : Array Value} (h : RdSt W g bA bn bc dA dc l) (hr : Blk W g1 144 cs) (k : Frm [g1] W W') : RdSt W' g bA bn bc dA dc l :=
 ⟨h.bS.frm k (by simp; exact h.bS.ne hr jd), h.dO.frm k (fun x hx hx2 => by rw [zh] at hx2; subst hx2; exact h.dO.ne_blk hr jd hx), fun y hy => (h.bg y hy).frm k (fun x hx hx2 => by rw [zh] at hx2; subst hx2; exact (h.bg y hy).ne_blk hr jd hx)⟩
theorem qWb {l : List Er} {L : List Bb} (h : gI l L) {i : Nat} (hi : i < L.length) (hm : ∀ j, j < i → (l.getD j er0).e.begins = []) (hne : (l.getD i er0).e.begins ≠ []) : (l.getD i er0).e.begins.getD 0 0 = 0 := by
 have h2 := mX (i := 0) h i jo (fun m _ h4 => hm m jo)
 rw [zao] at h2
 rw [h.get hi] at hne ⊢
 dsimp only at hne ⊢
 have h3 : 0 < (chunkL (L.getD i b0).2).length := by
  rw [← cL _ (outM (L.take i)).length]
  exact List.length_pos_iff.2 hne
 rw [gP _ _ _ h3, h2]
 simp [outM]
theorem qWc {l : List Er} {L : List Bb} (h : gI l L) (hm : ∀ j, j < L.length → (l.getD j er0).e.begins = []) : (outM L).length = 0 := by
 have h2 := mX (i := 0) h L.length jo (fun m _ h4 => hm m jo)
 rw [zao, zbk] at h2
 rw [h2]
 simp [outM]
set_option maxHeartbeats 8000000 in
theorem qWd (g bn bc c : Nat) (bA A : Option Addr) (L : List Bb) (w : World) (hM : nN L) (hb : Blk w g 62 #[.slice bA bn bc, .slice none 0 0, .int .i64 ((0 : Nat) : Int)]) (hr : Rd w 1 A (bE L).length (NB (bE L))) :
  Calls Tryz.prog 25 #[.pointer (some ⟨g, 0, none⟩), .slice A (bE L).length c, .int .i64 (((outM L).length : Nat) : Int)] w fun e w' => e = .returned (.bool true) ∧ (∃ dA dc l, gI l L ∧ Blk w' g 62 #[.slice bA bn bc, .slice dA l.length dc, .int .i64 (((outM L).length : Nat) : Int)] ∧ RdE w' dA l.length l ∧ l.length ≤ dc) ∧ Frm [g] w w' := by
 obtain ⟨hL, hpw, h1n, h64⟩ := hM
 have hdb := qRg L
 have hdl := qNl hL h64
 have hgl := hb.lt
 have hop0 : (bE L).drop 0 = qL L.length 2 ++ ((cW 0 L).flatMap fX ++ qL (kA 0 L) 4) := by
  rw [zca]
  unfold bE
  rw [zi]
 obtain ⟨hq0, hop1, hle1⟩ := tO (wh := 0) hop0 (jo : L.length < 256 ^ 2) jo
 have hpe := qNm (L := L)
 have hoe := qZq hL h64
 refine VC.calls (nt := 149) (res := #[.tmp 6]) Tryz.func25 rfl Tryz.ntmps25 Tryz.results25 rfl ?_
 refine jS (jR (ja rfl (jO (jN (jv3 0 1 2 ?_)))))
 refine jS (jR (jM ?_))
 refine Ops.cl (jE1 Tryz.call40) (qVn A c _ (bE L) w rfl jo hr) rfl ?_
 rintro e w1 ⟨g1, B1, d1, rfl, hO, K, hu1⟩
 refine ⟨_, rfl, ?_⟩
 have hg1 : w.heap.size ≤ g1 := hu1 g1 jp
 have hb1 := hb.frm K jp
 refine ja rfl (jO (jN (jv3 0 2 7 ?_)))
 refine jS (jR (jM ?_))
 refine Ops.cl (jE2 Tryz.call41) (gE g1 B1 d1 (bE L) 0 0 0 2 _ jo jo jo jo hdb hO) rfl ?_
 rintro e w2 ⟨rfl, hO', hfw2⟩
 rw [hq0] at hO' ⊢
 dsimp only at hO'
 refine ⟨_, rfl, ?_⟩
 have hOb := hO.1
 have hO := hO'
 have hb2 := hb1.frm hfw2 (by simp; omega)
 have K := K.own hfw2 (by simp; omega)
 refine je (Run.convN _ rfl zaa zab (by simp only [bmax]; omega)) (ja rfl (jO (jN (jv4 0 2 7 8 ?_))))
 refine jS (jR (jz 0 (jO (jN (jS (jS (jR (jm rfl (je (Run.minN L.length 64 L.length rfl rfl jo) ?_)))))))))
 refine jx .i64 0 ?_
 refine jO (jN (jv7 0 2 7 8 9 21 22 ?_))
 refine jB ?_
 refine VC.loop (σ := Nat × Nat × Option Addr × Nat × List Er) (fun s => [(0, .pointer (some ⟨g, 0, none⟩)), (2, .int .i64 (((outM L).length : Nat) : Int)), (7, .pointer (some ⟨g1, 0, none⟩)), (8, .int .i64 ((L.length : Nat) : Int)), (9, .int .i64 ((s.2.1 : Nat) : Int)), (21, .int .i64 ((L.length : Nat) : Int)), (22, .int .i64 ((s.1 : Nat) : Int))]) (fun s wr => s.1 ≤ L.length ∧ s.2.2.2.2.map Er.e = cW 0 (L.take s.1) ∧ s.2.1 ≤ (outM (L.take s.1)).length ∧ RdSt wr g bA bn bc s.2.2.1 s.2.2.2.1 s.2.2.2.2 ∧ jJ wr g1 B1 d1 (bE L) (eB L s.1) 0 0 ∧ Frm [g] w wr ∧ ∀ x ∈ ob s.2.2.1, w.heap.size ≤ x) (fun s => L.length - s.1) (0, 0, none, 0, []) (js7 rfl rfl rfl rfl rfl rfl rfl) ⟨zau _, rfl, zau _, ⟨hb2, Own.nil _ _ _, jp⟩, hO, K.mono jp, by simp [ob]⟩ ?_
 rintro ⟨i, la, dA, dc, l⟩ wr ⟨hi, hl, hla, hR, hO, K, hdf⟩
 dsimp only at *
 have hll : l.length = i := by
  have := congrArg List.length hl
  rw [zu, kZ, zj] at this
  omega
 have hoi : (outM (L.take i)).length ≤ 600000 := by
  have h5 := lN (L.take i) (fun x hx => hL x (zal hx))
  have h6 : (L.take i).length ≤ 64 := by rw [zj]; omega
  omega
 refine jS (jR (jb rfl rfl (Bin.lssN _ _) (jO (jN (jS ?_)))))
 refine jD rfl (fun hc1 => ?_) fun hc1 => ?_
 ·
  have hEA := qSd hc1
  obtain ⟨hy40, hyid, hyb⟩ := hL _ (nP hc1)
  have hcrc := lJ (L.getD i b0).2
  obtain ⟨hq1, hop2, hle2⟩ := tO (wh := 0) hEA (zav hyid jd) jo
  obtain ⟨hq2, hop3, hle3⟩ := tO (wh := 0) hop2 (jo : (L.getD i b0).2.length < 256 ^ 2) jo
  obtain ⟨hq3, hop4, hle4⟩ := tO (wh := 0) hop3 (jo : crcM (L.getD i b0).2 < 256 ^ 4) jo
  have hsw := qG4 hc1
  have hes := qG5 hc1
  have hca := qNk hc1
  have hcc := fD (L.getD i b0).2
  have hbz : eC L i 0 = (outM (L.take i)).length := by unfold eC; simp
  have hprev : 0 < i → (L.getD (i - 1) b0).1 < (L.getD i b0).1 := fun h0 => wI hpw (i - 1) i jo hc1
  refine jQ (jN (jv7 0 2 7 8 9 21 22 ?_))
  refine jS (jB (jS (jR (jm rfl (ja rfl (jO (jN (jv8 0 2 7 8 9 10 21 22 ?_))))))))
  refine jS (jR (jM ?_))
  refine Ops.cl (jE2 Tryz.call41) (gE g1 B1 d1 (bE L) (eB L i) 0 0 8 _ jo jo jo jo hdb hO) rfl ?_
  rintro e w4 ⟨rfl, hO', hfw4⟩
  rw [hq1] at hO' ⊢
  dsimp only at hO'
  refine ⟨_, rfl, ?_⟩
  have hOb := hO.1
  have hO := hO'
  have hR := hR.oc hOb hfw4
  have K := K.trans hfw4 (by simp; omega)
  refine jM ?_
  refine Ops.cl (jE2 Tryz.call41) (gE g1 B1 d1 (bE L) (eB L i + 8) 0 0 2 _ jo jo jo jo hdb hO) rfl ?_
  rintro e w5 ⟨rfl, hO', hfw5⟩
  rw [hq2] at hO' ⊢
  dsimp only at hO'
  refine ⟨_, rfl, ?_⟩
  have hOb := hO.1
  have hO := hO'
  have hR := hR.oc hOb hfw5
  have K := K.trans hfw5 (by simp; omega)
  refine je (Run.convN _ rfl zaa zab (by simp only [bmax]; omega)) (jM ?_)
  refine Ops.cl (jE2 Tryz.call41) (gE g1 B1 d1 (bE L) (eB L i + 8 + 2) 0 0 4 _ jo jo jo jo hdb hO) rfl ?_
  rintro e w6 ⟨rfl, hO', hfw6⟩
  rw [hq3] at hO' ⊢
  dsimp only at hO'
  refine ⟨_, rfl, ?_⟩
  have hOb := hO.1
  have hO := hO'
  have hR := hR.oc hOb hfw6
  have K := K.trans hfw6 (by simp; omega)
  have hOb := hO.1
  refine je (Run.convN _ rfl zaa zfc (by simp only [bmax]; omega)) (je (Run.build (evs.cons rfl (evs.cons rfl (evs.cons rfl evs.nil))) mL (qQr).choose_spec.1 (qQr).choose_spec.2 rfl) ?_)
  refine Ops.m (qJ.alloc mL) rfl ?_
  rintro _ w7 ⟨rfl, hF7⟩
  refine Ops.st (qR.storeA rfl rfl zbj hF7.blk rfl (by intro v hv; exact EC_one [⟨⟨(L.getD i b0).1, (L.getD i b0).2.length, crcM (L.getD i b0).2, []⟩, none, 0⟩] v hv)) ?_
  rintro w8 ⟨hbx, hf8, hs8⟩
  have hbx : Blk w8 w6.heap.size 66 #[.int .u64 (((L.getD i b0).1 : Nat) : Int), .int .i64 (((L.getD i b0).2.length : Nat) : Int), .int .u32 ((crcM (L.getD i b0).2 : Nat) : Int), .slice none 0 0] := hbx
  have K2 : Frm [g1] w6 w8 := (hF7.frm.trans hf8 jp).mono jp
  have hO := (hO.frm hF7.frm jp).frm hf8 (fun x hx hx2 => by
   have h1 := hO.1.lt
   have h2 := hO.2.lt
   simp only [zh] at hx2
   rcases zcp.1 hx with h | h
   · omega
   have := h2 x h
   omega)
  have hR8 := hR.oc hOb K2
  have hRd := hR8.oc hO.1 ((qQ.drew w8).frm.mono (S := []) (T := [g1]) jp)
  have hbxd := hbx.drawn (qQ.drew w8)
  have hel2 : 0 < i → ∃ ad, dA = some ad ∧ w8.drew.cell? ((ad.add ((i - 1) * 4)).add 0) = some (.int .u64 (((L.getD (i - 1) b0).1 : Nat) : Int)) := fun h0 => by
   have hE : RdE w8.drew dA l.length l := ⟨rfl, hRd.dO.rd, fun x hx => (hRd.bg x hx).rd⟩
   obtain ⟨ad, h1, h2⟩ := hE.cell (jo : i - 1 < l.length)
   have h3 := h2 0 (.int .u64 (((l.getD (i - 1) er0).e.id : Nat) : Int)) rfl
   have h4 : (l.getD (i - 1) er0).e.id = (L.getD (i - 1) b0).1 := by
    have h5 := lR L 0 (i - 1) jo
    have h6 : (cW 0 L).getD (i - 1) en0 = (l.getD (i - 1) er0).e := by
     have h7 : (l.map Er.e)[i - 1]? = (cW 0 L)[i - 1]? := by
      rw [hl, oV, zap jo]
     rw [zc, ← h7, zbf, zc, za jo]
     rfl
    rw [← h6, h5]
   rw [h4] at h3
   exact ⟨ad, h1, h3⟩
  have hidp := fun h0 : 0 < i => (hL _ (nP (L := L) (i := i - 1) jo)).2.1
  generalize hyE : L.getD i b0 = y at *
  refine jO (jN (jv9 0 2 7 8 9 10 11 21 22 ?_))
  refine jS (jS ?_)
  refine VC.splitR [(0, .pointer (some ⟨g, 0, none⟩)), (2, .int .i64 (((outM L).length : Nat) : Int)), (7, .pointer (some ⟨g1, 0, none⟩)), (8, .int .i64 ((L.length : Nat) : Int)), (9, .int .i64 ((la : Nat) : Int)), (11, .pointer (some ⟨w6.heap.size, 0, none⟩)), (21, .int .i64 ((L.length : Nat) : Int)), (22, .int .i64 ((i : Nat) : Int))] (qQ w8) 54 (.bool (decide (4032 < y.2.length ∨ (0 < i ∧ y.1 ≤ (L.getD (i - 1) b0).1)))) ?_ ?_
  ·
   refine VC.still jK jK ?_
   refine qE (Run.fieldAddr rfl zas rfl zd jd) ?_
   refine qE (Run.load rfl zg (hbxd.cell 1)) ?_
   refine qE (Run.bin rfl rfl (Bin.gtrN _ 4032)) ?_
   by_cases hs36 : 4032 < y.2.length
   ·
    refine qM ?_
    refine qU ?_
    refine qU ?_
    refine qU ?_
    refine qW.skU rfl rfl ?_
    refine qW.skU rfl rfl ?_
    refine qW.skU rfl rfl ?_
    refine qW.skU rfl rfl ?_
    refine qW.skU rfl rfl ?_
    refine qW.skU rfl rfl ?_
    refine qW.skU rfl rfl ?_
    refine qW.skU rfl rfl ?_
    refine qW.skU rfl rfl ?_
    refine qW.skU rfl rfl ?_
    refine qW.skU rfl rfl ?_
    refine qW.skU rfl rfl ?_
    refine qU ?_
    refine qE (Run.pickT rfl rfl au) ?_
    refine qW.nil ?_
    refine jN ⟨(js9 (jC (by first | (simp [*]; done) | (simp; omega))) rfl rfl rfl rfl rfl rfl rfl rfl), (qQ.drew _)⟩
   refine qM ?_
   refine qG (Run.mv rfl) ?_
   refine qG (Run.bin rfl rfl (Bin.gtrN _ 0)) ?_
   by_cases hs39 : 0 < i
   ·
    refine qG (Run.mv rfl) ?_
    refine qG (Run.fieldAddr rfl zas rfl zay jd) ?_
    refine qG (Run.load rfl zbu (hbxd.cell 0)) ?_
    refine qG (Run.mv rfl) ?_
    refine qG (Run.nilck rfl) ?_
    refine qG (Run.fieldAddr rfl zaj rfl zbx jd) ?_
    obtain ⟨ad, hdA, hc51⟩ := hel2 jo
    subst hdA
    refine qG (Run.load rfl zcm (hRd.bS.cell 1)) ?_
    refine qG (Run.mv rfl) ?_
    refine qG (Run.bin rfl rfl (Bin.sub_i64 _ 1 jo jo)) ?_
    refine qG (Run.indexS _ rfl rfl zat zbj jo) ?_
    refine qG (Run.fieldAddr rfl zas rfl zay jd) ?_
    refine qG (Run.load rfl zbu hc51) ?_
    refine qG (Run.bin rfl rfl (Bin.leqN _ _)) ?_
    by_cases hs52 : y.1 ≤ (L.getD (i - 1) b0).1
    ·
     refine qG (Run.pickT rfl rfl au) ?_
     refine qE (Run.pickF rfl rfl au) ?_
     refine qW.nil ?_
     refine jN ⟨(js9 (jC (by first | (simp [*]; done) | (simp; omega))) rfl rfl rfl rfl rfl rfl rfl rfl), (qQ.drew _)⟩
    refine qG (Run.pickT rfl rfl au) ?_
    refine qE (Run.pickF rfl rfl au) ?_
    refine qW.nil ?_
    refine jN ⟨(js9 (jC (by first | (simp [*]; done) | (simp; omega))) rfl rfl rfl rfl rfl rfl rfl rfl), (qQ.drew _)⟩
   refine qG (Run.mv rfl) ?_
   refine qU ?_
   refine qU ?_
   refine qU ?_
   refine qU ?_
   refine qU ?_
   refine qU ?_
   refine qU ?_
   refine qU ?_
   refine qU ?_
   refine qU ?_
   refine qU ?_
   refine qU ?_
   refine qG (Run.pickF rfl rfl au) ?_
   refine qE (Run.pickF rfl rfl au) ?_
   refine qW.nil ?_
   refine jN ⟨(js9 (jC (by first | (simp [*]; done) | (simp; omega))) rfl rfl rfl rfl rfl rfl rfl rfl), (qQ.drew _)⟩
  intro Γ w9 hΓ hd9
  refine jN (VC.sub _ hΓ ?_)
  refine VC.condF rfl (decide_eq_false (fun h => by rcases h with h | ⟨h, h2⟩; exact absurd hy40 jo; have := hprev h; omega)) ?_
  refine jQ (jN (jv8 0 2 7 8 9 11 21 22 ?_))
  refine jS (jS (jR (jf rfl zas rfl zd ?_)))
  have hO := hO.frm (S := []) hd9.frm jp
  have hbx := hbx.drawn hd9
  have K2 := K2.drawn hd9
  have hR6 := hR
  have hOb6 := hOb
  have hbz0 : i = 0 → eC L i 0 = 0 := fun h => by subst h; unfold eC; simp [outM]
  have hdr0 : (bE L).drop (eB L i + 14 + 4 * 0) = ((dG (outM (L.take i)).length (chunkL y.2)).drop 0).flatMap (fun b => qL b 4) ++ (((cW 0 L).drop (i + 1)).flatMap fX ++ qL (kA 0 L) 4) := hop4
  have hBl : (dG (outM (L.take i)).length (chunkL y.2)).length = (chunkL y.2).length := cL _ _
  generalize hBG : dG (outM (L.take i)).length (chunkL y.2) = BG at *
  generalize hRR : ((cW 0 L).drop (i + 1)).flatMap fX ++ qL (kA 0 L) 4 = RR at *
  refine jl rfl zg (hbx.cell 1) ?_
  refine Ops.cl (jE1 Tryz.call42) (qJl y.2.length _ jo) rfl ?_
  rintro e _ ⟨rfl, rfl⟩
  refine ⟨_, rfl, ?_⟩
  rw [← hcc]
  refine jx .i64 0 ?_
  refine jO (jN (jv10 0 2 7 8 9 11 21 22 57 58 ?_))
  refine jB ?_
  refine VC.loop (σ := Nat × Nat × Option Addr × Nat) (fun s => [(0, .pointer (some ⟨g, 0, none⟩)), (2, .int .i64 (((outM L).length : Nat) : Int)), (7, .pointer (some ⟨g1, 0, none⟩)), (8, .int .i64 ((L.length : Nat) : Int)), (9, .int .i64 ((s.2.1 : Nat) : Int)), (11, .pointer (some ⟨w6.heap.size, 0, none⟩)), (21, .int .i64 ((L.length : Nat) : Int)), (22, .int .i64 ((i : Nat) : Int)), (57, .int .i64 (((chunkL y.2).length : Nat) : Int)), (58, .int .i64 ((s.1 : Nat) : Int))]) (fun s wr => s.1 ≤ (chunkL y.2).length ∧ s.2.1 ≤ eC L i s.1 ∧ Blk wr w6.heap.size 66 #[.int .u64 ((y.1 : Nat) : Int), .int .i64 ((y.2.length : Nat) : Int), .int .u32 ((crcM y.2 : Nat) : Int), .slice s.2.2.1 s.1 s.2.2.2] ∧ Own wr 3 1 s.2.2.1 s.1 s.2.2.2 (ZB (BG.take s.1)) ∧ jJ wr g1 B1 d1 (bE L) (eB L i + 14 + 4 * s.1) 0 0 ∧ Frm [g1] w6 wr ∧ (∀ x ∈ ob s.2.2.1, w6.heap.size ≤ x) ∧ (bE L).drop (eB L i + 14 + 4 * s.1) = (BG.drop s.1).flatMap (fun b => qL b 4) ++ RR) (fun s => (chunkL y.2).length - s.1) (0, la, none, 0) (js10 rfl rfl rfl rfl rfl rfl rfl rfl rfl rfl) ⟨zau _, by rw [hbz]; exact hla, hbx, Own.nil _ _ _, hO, K2, by simp [ob], hdr0⟩ ?_
  rintro ⟨k, la2, xA, xc⟩ wr2 ⟨hk, hla2, hbx, hxO, hO, K2, hxf, hdr⟩
  dsimp only at *
  refine jS (jR (jb rfl rfl (Bin.lssN _ _) (jO (jN (jS ?_)))))
  refine jD rfl (fun hc3 => ?_) fun hc3 => ?_
  ·
   have hk3 : k < (chunkL (L.getD i b0).2).length := by rw [hyE]; exact hc3
   have hbs := qNi (L := L) (i := i) (k := k) hk3 RR
   have hbt := qNj (L := L) (i := i) (k := k) hk3
   rw [hyE, hBG] at hbs hbt
   rw [hbs] at hdr
   have hb6 := qRf hL h64 hc1 k
   obtain ⟨hqk, hopk, hlek⟩ := tO (wh := 0) hdr (jo : eC L i k < 256 ^ 4) jo
   have hbsu := qG6 (L := L) (i := i) (k := k) hk3
   refine jQ (jN (jv10 0 2 7 8 9 11 21 22 57 58 ?_))
   refine jS (jB (jS (jR (jM ?_))))
   refine Ops.cl (jE2 Tryz.call41) (gE g1 B1 d1 (bE L) (eB L i + 14 + 4 * k) 0 0 4 _ jo jo jo jo hdb hO) rfl ?_
   rintro e w10 ⟨rfl, hO', hfw10⟩
   rw [hqk] at hO' ⊢
   dsimp only at hO'
   refine ⟨_, rfl, ?_⟩
   have hOb := hO.1
   have hO := hO'
   have hbx := hbx.frm hfw10 (by simp; exact hbx.ne hOb jd)
   have hxO := hxO.frm hfw10 (fun x hx hx2 => by rw [zh] at hx2; subst hx2; exact hxO.ne_blk hOb jd hx)
   have K2 := K2.trans hfw10 jp
   have hR3 := hR6.oc hOb6 K2
   refine je (Run.convN _ rfl zaa zab (by simp only [bmax]; omega)) (ja rfl (jO (jN (jv11 0 2 7 8 9 11 12 21 22 57 58 ?_))))
   refine jS (jS ?_)
   refine VC.split1 [(0, _), (2, _), (7, _), (8, _), (11, _), (12, _), (21, _), (22, _), (57, _), (58, _)] (js10 rfl rfl rfl rfl rfl rfl rfl rfl rfl rfl) 83 (.bool (decide (eC L i k < la2 ∨ ((k = 0 ∧ l.length = 0) ∧ eC L i k ≠ 0)))) ?_ ?_
   ·
    refine jR ?_
    refine jm rfl (jm rfl (jb rfl rfl (Bin.lssN _ _) ?_))
    by_cases hs65 : eC L i k < la2
    ·
     refine jM ?_
     refine jU ?_
     refine jU ?_
     refine jU ?_
     refine jU ?_
     refine jU ?_
     refine Ops.skU rfl rfl ?_
     refine Ops.skU rfl rfl ?_
     refine Ops.skU rfl rfl ?_
     refine Ops.skU rfl rfl ?_
     refine Ops.skU rfl rfl ?_
     refine Ops.skU rfl rfl ?_
     refine jU ?_
     refine jU ?_
     refine Ops.skU rfl rfl ?_
     refine Ops.skU rfl rfl ?_
     refine jU ?_
     refine je (Run.pickT rfl rfl au) (jO ?_)
     refine jN ⟨(js11 (jC (by first | exact (decide_eq_true jo).symm | exact (decide_eq_false jo).symm | exact decide_eq_decide.2 jo | exact decide_eq_decide.2 ⟨fun h => jo, fun h => jo⟩ | (simp [*]; done))) rfl rfl rfl rfl rfl rfl rfl rfl rfl rfl), rfl⟩
    refine jM ?_
    refine jk (Run.fieldAddr rfl zas rfl zaz jd) ?_
    refine jk (Run.load rfl zbv (hbx.cell 3)) ?_
    refine jk (Run.lenS rfl zf) ?_
    refine jk (Run.bin rfl rfl (Bin.eqlN _ 0)) ?_
    by_cases hs70 : k = 0
    ·
     refine jG ?_
     refine jG ?_
     refine jk (Run.nilck rfl) ?_
     refine jk (Run.fieldAddr rfl zaj rfl zbx jd) ?_
     refine jk (Run.load rfl zcm (hR3.bS.cell 1)) ?_
     refine jk (Run.lenS rfl zat) ?_
     refine jk (Run.bin rfl rfl (Bin.eqlN _ 0)) ?_
     by_cases hs77 : l.length = 0
     ·
      refine jk (Run.pickT rfl rfl au) ?_
      refine jG ?_
      refine jG ?_
      refine jk (Run.bin rfl rfl (Bin.neqN _ 0)) ?_
      by_cases hs81 : eC L i k ≠ 0
      ·
       refine jk (Run.pickT rfl rfl au) ?_
       refine je (Run.pickF rfl rfl au) (jO ?_)
       refine jN ⟨(js11 (jC (by first | exact (decide_eq_true jo).symm | exact (decide_eq_false jo).symm | exact decide_eq_decide.2 jo | exact decide_eq_decide.2 ⟨fun h => jo, fun h => jo⟩ | (simp [*]; done))) rfl rfl rfl rfl rfl rfl rfl rfl rfl rfl), rfl⟩
      refine jk (Run.pickT rfl rfl au) ?_
      refine je (Run.pickF rfl rfl au) (jO ?_)
      refine jN ⟨(js11 (jC (by first | exact (decide_eq_true jo).symm | exact (decide_eq_false jo).symm | exact decide_eq_decide.2 jo | exact decide_eq_decide.2 ⟨fun h => jo, fun h => jo⟩ | (simp [*]; done))) rfl rfl rfl rfl rfl rfl rfl rfl rfl rfl), rfl⟩
     refine jk (Run.pickT rfl rfl au) ?_
     refine jG ?_
     refine jU ?_
     refine jU ?_
     refine jk (Run.pickF rfl rfl au) ?_
     refine je (Run.pickF rfl rfl au) (jO ?_)
     refine jN ⟨(js11 (jC (by first | exact (decide_eq_true jo).symm | exact (decide_eq_false jo).symm | exact decide_eq_decide.2 jo | exact decide_eq_decide.2 ⟨fun h => jo, fun h => jo⟩ | (simp [*]; done))) rfl rfl rfl rfl rfl rfl rfl rfl rfl rfl), rfl⟩
    refine jG ?_
    refine jU ?_
    refine jU ?_
    refine jU ?_
    refine jU ?_
    refine jU ?_
    refine jU ?_
    refine jk (Run.pickF rfl rfl au) ?_
    refine jG ?_
    refine jU ?_
    refine jU ?_
    refine jk (Run.pickF rfl rfl au) ?_
    refine je (Run.pickF rfl rfl au) (jO ?_)
    refine jN ⟨(js11 (jC (by first | exact (decide_eq_true jo).symm | exact (decide_eq_false jo).symm | exact decide_eq_decide.2 jo | exact decide_eq_decide.2 ⟨fun h => jo, fun h => jo⟩ | (simp [*]; done))) rfl rfl rfl rfl rfl rfl rfl rfl rfl rfl), rfl⟩
   intro Γ hΓ
   refine jN (VC.sub _ hΓ ?_)
   refine VC.condF rfl (decide_eq_false (fun h => by rcases h with h | ⟨⟨h1, h2⟩, h3⟩; exact absurd hla2 jo; exact h3 (by rw [h1]; exact hbz0 jo))) ?_
   refine jQ (jN (jv10 0 2 7 8 11 12 21 22 57 58 ?_))
   refine jS (jR (jm rfl (ja rfl (jO (jN (jv11 0 2 7 8 9 11 12 21 22 57 58 ?_))))))
   refine jR (jf rfl zas rfl zaz (jl rfl zbv (hbx.cell 3) (jM ?_)))
   refine Ops.m (qJ.buildS1 rfl zf zd gT jd jd rfl rfl) rfl ?_
   rintro _ w11 ⟨rfl, hF11⟩
   have hrd11 : Rd w11 1 (some ⟨w10.heap.size, 0, none⟩) 1 (ZB [eC L i k]) := Rd.of_blk (n := 1) (size := 1) hF11.blk rfl
   have hxO := hxO.frm hF11.frm jp
   have hbx := hbx.frm hF11.frm jp
   have hO := hO.frm hF11.frm jp
   have K2 := K2.trans hF11.frm jp
   refine Ops.m (qJ.app rfl rfl zf (fR) rfl jd hxO hrd11 (qSa _) jo jo) rfl ?_
   rintro _ w12 ⟨xA2, xc2, rfl, hxO2, hf12, hob12⟩
   rw [show ZB (BG.take k) ++ ZB [eC L i k] = ZB (BG.take (k + 1)) by rw [hbt, qRb]; rfl] at hxO2
   have hbx := hbx.frm hf12 (hxO.ne_blk hbx jd)
   have hO := hO.frm hf12 (fun x hx hx2 => by
    rcases zcp.1 hx with h | h
    · subst h; exact hxO.ne_blk hO.1 jd hx2
    exact hxO.ne_own hO.2 jd x hx2 h)
   have hks := K2.size
   have K2 := K2.trans hf12 (fun x hx => .inr (hxf x hx))
   have hxf2 : ∀ x ∈ ob xA2, w6.heap.size ≤ x := fun x hx => by
    rcases hob12 with h | h
    · rw [h] at hx; exact hxf x hx
    rw [h, zh] at hx; omega
   refine jf rfl zas rfl zaz ?_
   refine Ops.st (qR.store rfl rfl zaz hbx rfl rfl) ?_
   rintro w13 ⟨hbx2, hf13, hs13⟩
   have hxO2 := hxO2.frm hf13 (fun x hx hx2 => by rw [zh] at hx2; subst hx2; exact hxO2.ne_blk hbx jd hx)
   have hO := hO.frm hf13 (fun x hx hx2 => by
    rw [zh] at hx2
    subst hx2
    rcases zcp.1 hx with h | h
    · exact hbx.ne hO.1 jd h
    exact hO.2.ne_blk hbx jd h)
   have K2 := K2.trans hf13 jp
   have hO : jJ w13 g1 B1 d1 (bE L) (eB L i + 14 + 4 * (k + 1)) 0 0 := hO
   have hopk : (bE L).drop (eB L i + 14 + 4 * (k + 1)) = (BG.drop (k + 1)).flatMap (fun b => qL b 4) ++ RR := hopk
   refine jO ?_
   refine qK (jN ?_)
   refine jv10 0 2 7 8 9 11 21 22 57 58 ?_
   refine jR (jb rfl rfl (Bin.add_i64 _ 1 jo) (jm rfl (jO ?_)))
   refine jN ⟨(k + 1, eC L i k, xA2, xc2), (js10 rfl rfl rfl rfl rfl rfl rfl rfl rfl rfl), ?_, ?_⟩
   · exact ⟨hc3, hbsu, hbx2, hxO2, hO, K2, hxf2, hopk⟩
   first | omega | (dsimp only; omega)
  have hkl : k = (chunkL y.2).length := jo
  subst hkl
  have hBt : BG.take (chunkL y.2).length = BG := zm jo
  rw [hBt] at hxO
  rw [← hBl] at hxO hbx
  have hR9 := hR6.oc hOb6 K2
  have K := K.trans K2 (by simp; omega)
  refine jX ?_
  refine qZ (qZ (qP ?_))
  refine jN (jv8 0 2 7 8 9 11 21 22 ?_)
  refine VC.heldL 10 (fun v => Blk v g 62 #[.slice bA bn bc, .slice dA l.length dc, .int .i64 ((0 : Nat) : Int)] ∧ Blk v w6.heap.size 66 #[.int .u64 ((y.1 : Nat) : Int), .int .i64 ((y.2.length : Nat) : Int), .int .u32 ((crcM y.2 : Nat) : Int), .slice xA BG.length xc]) jK ?_
  have hRd2 := hR9.oc hO.1 ((qQ.drew wr2).frm.mono (S := []) (T := [g1]) jp)
  have hbxd2 := hbx.drawn (qQ.drew wr2)
  have hO := hO.frm (S := []) (qQ.drew wr2).frm jp
  have K := K.drawn (qQ.drew wr2)
  have hxO := hxO.drawn (qQ.drew wr2)
  have hS : (fun v => Blk v g 62 #[.slice bA bn bc, .slice dA l.length dc, .int .i64 ((0 : Nat) : Int)] ∧ Blk v w6.heap.size 66 #[.int .u64 ((y.1 : Nat) : Int), .int .i64 ((y.2.length : Nat) : Int), .int .u32 ((crcM y.2 : Nat) : Int), .slice xA BG.length xc]) wr2.drew := ⟨hRd2.bS, hbxd2⟩
  refine jH 0 rfl hS (fun w0 hw0 => Run.mv rfl) ?_
  refine jH 1 rfl hS (fun w0 hw0 => Run.mv rfl) ?_
  refine jH 2 rfl hS (fun w0 hw0 => Run.nilck rfl) ?_
  refine jH 3 rfl hS (fun w0 hw0 => Run.fieldAddr rfl zaj rfl zbx jd) ?_
  refine jH 4 rfl hS (fun w0 hw0 => Run.load rfl zcm (hw0.1.cell 1)) ?_
  refine qV.r1 5 rfl jK hS (Run.loadA rfl Tryz.isAgg66 zbj hS.2.cells (by first | rfl | (simp; done))) trivial rfl rfl ?_
  refine qV.m 6 rfl jK (qJ.buildS1 rfl zat zbj mL jd jd rfl rfl) trivial rfl rfl ?_
  rintro _ w20 ⟨rfl, hF20⟩
  have hrd20 : Rd w20 4 (some ⟨wr2.drew.heap.size, 0, none⟩) 1 (EC [Er.mk ⟨y.1, y.2.length, crcM y.2, BG⟩ xA xc]) := Rd.of_blk (n := 1) (size := 4) hF20.blk rfl
  have hR20 := hRd2.oc hO.1 (hF20.frm.mono (S := []) (T := [g1]) jp)
  have hO := hO.frm hF20.frm jp
  have K := K.trans hF20.frm jp
  have hxO := hxO.frm hF20.frm jp
  have hbx20 := hbxd2.frm hF20.frm jp
  have hS := And.intro hR20.bS hbx20
  refine ⟨hS, ?_⟩
  refine qV.m 7 rfl jK (qJ.app rfl rfl zat (qRq) rfl jd hR20.dO hrd20 (EC_one _) jo jo) trivial rfl rfl ?_
  rintro _ w21 ⟨dA2, dc2, rfl, hd21, hf21, hob21⟩
  rw [← qGx] at hd21
  have hbS21 := hR20.bS.frm hf21 (hR20.dO.ne_blk hR20.bS jd)
  have hbg21 : ∀ x ∈ l, Own w21 3 1 x.A x.e.begins.length x.c (ZB x.e.begins) := fun x hx => (hR20.bg x hx).frm hf21 (fun z hz hz2 => hR20.dO.ne_own (hR20.bg x hx) jd z hz2 hz)
  have hxO21 := hxO.frm hf21 (fun z hz hz2 => hR20.dO.ne_own hxO jd z hz2 hz)
  have hO := hO.frm hf21 (fun x hx hx2 => by
   rcases zcp.1 hx with h | h
   · subst h; exact hR20.dO.ne_blk hO.1 jd hx2
   exact hR20.dO.ne_own hO.2 jd x hx2 h)
  have hks := K.size
  have K := K.trans hf21 (fun x hx => .inr (hdf x hx))
  have hdf2 : ∀ x ∈ ob dA2, w.heap.size ≤ x := fun x hx => by
   rcases hob21 with h | h
   · rw [h] at hx; exact hdf x hx
   rw [h, zh] at hx; omega
  have hS := And.intro hbS21 (hbx20.frm hf21 (fun h => by have := hR6.dO.lt _ h; omega))
  refine ⟨hS, ?_⟩
  refine qV.r1 8 rfl jK hS (Run.nilck rfl) trivial rfl rfl ?_
  refine qV.r1 9 rfl jK hS (Run.fieldAddr rfl zaj rfl zbx jd) trivial rfl rfl ?_
  refine qV.stL rfl jK (qR.store rfl rfl zbx hS.1 rfl rfl) trivial rfl ?_
  rintro w22 ⟨hbS22, hf22, hs22⟩
  have hd22 := hd21.frm hf22 (fun x hx hx2 => by rw [zh] at hx2; subst hx2; exact hd21.ne_blk hbS21 jd hx)
  have hbg22 : ∀ x ∈ l, Own w22 3 1 x.A x.e.begins.length x.c (ZB x.e.begins) := fun x hx => (hbg21 x hx).frm hf22 (fun z hz hz2 => by rw [zh] at hz2; subst hz2; exact (hbg21 x hx).ne_blk hbS21 jd hz)
  have hxO22 := hxO21.frm hf22 (fun z hz hz2 => by rw [zh] at hz2; subst hz2; exact hxO21.ne_blk hbS21 jd hz)
  have hO := hO.frm hf22 (fun x hx hx2 => by
   rw [zh] at hx2
   subst hx2
   rcases zcp.1 hx with h | h
   · exact hbS21.ne hO.1 jd h
   exact hO.2.ne_blk hbS21 jd h)
  have K := K.trans hf22 jp
  rw [← hsw] at hO
  have hlN : (l ++ [Er.mk ⟨y.1, y.2.length, crcM y.2, BG⟩ xA xc]).length = l.length + 1 := jp
  have hR22 : RdSt w22 g bA bn bc dA2 dc2 (l ++ [Er.mk ⟨y.1, y.2.length, crcM y.2, BG⟩ xA xc]) := ⟨by rw [hlN]; exact hbS22, by rw [hlN]; exact hd22, fun x hx => by
   rcases List.mem_append.1 hx with h | h
   · exact hbg22 x h
   rw [zh] at h
   subst h
   exact hxO22⟩
  have hmp : (l ++ [Er.mk ⟨y.1, y.2.length, crcM y.2, BG⟩ xA xc]).map Er.e = cW 0 (L.take (i + 1)) := by rw [hes, zby, hl]; rfl
  refine qV.done jK ?_
  refine qK (jN ?_)
  refine jv7 0 2 7 8 9 21 22 ?_
  refine jR (jb rfl rfl (Bin.add_i64 _ 1 jo) (jm rfl (jO ?_)))
  refine jN ⟨(i + 1, la2, dA2, dc2, l ++ [Er.mk ⟨y.1, y.2.length, crcM y.2, BG⟩ xA xc]), (js7 rfl rfl rfl rfl rfl rfl rfl), ?_, ?_⟩
  · exact ⟨hc1, hmp, by rw [← hca]; exact hla2, hR22, hO, K, hdf2⟩
  first | omega | (dsimp only; omega)
 obtain rfl : i = L.length := jo
 rw [zbk] at hl hla
 have htl : gI l L := hl
 obtain ⟨hpe1, hpe2⟩ := hpe
 obtain ⟨hqE, hopE, hleE⟩ := tO (wh := 0) hpe1 (jo : (outM L).length < 256 ^ 4) jo
 refine jX ?_
 refine qZ (qZ (qP ?_))
 refine jN (jv5 0 2 7 8 9 ?_)
 refine jS (jR (jm rfl (jM ?_)))
 refine Ops.cl (jE2 Tryz.call41) (gE g1 B1 d1 (bE L) (eB L L.length) 0 0 4 _ jo jo jo jo hdb hO) rfl ?_
 rintro e w30 ⟨rfl, hO', hfw30⟩
 rw [hqE] at hO' ⊢
 dsimp only at hO'
 refine ⟨_, rfl, ?_⟩
 have hOb := hO.1
 have hO := hO'
 have hR := hR.oc hOb hfw30
 have K := K.trans hfw30 (by simp; omega)
 refine je (Run.convN _ rfl zaa zab (by simp only [bmax]; omega)) (je (Run.nilck rfl) (jf rfl zaj rfl zd ?_))
 refine Ops.st (qR.store rfl rfl zd hR.bS rfl rfl) ?_
 rintro w31 ⟨hbS31, hf31, hs31⟩
 have hd31 := hR.dO.frm hf31 (fun x hx hx2 => by rw [zh] at hx2; subst hx2; exact hR.dO.ne_blk hR.bS jd hx)
 have hbg31 : ∀ x ∈ l, Own w31 3 1 x.A x.e.begins.length x.c (ZB x.e.begins) := fun x hx => (hR.bg x hx).frm hf31 (fun z hz hz2 => by rw [zh] at hz2; subst hz2; exact (hR.bg x hx).ne_blk hR.bS jd hz)
 have hO := hO.frm hf31 (fun x hx hx2 => by
  rw [zh] at hx2
  subst hx2
  rcases zcp.1 hx with h | h
  · exact hR.bS.ne hO.1 jd h
  exact hO.2.ne_blk hR.bS jd h)
 have K := K.trans hf31 jp
 have hno : ¬ ((0 : Nat) = 0 ∧ eB L L.length + 4 < (bE L).length) := by rw [hpe2]; omega
 refine jO (jN (jv5 0 2 7 8 9 ?_))
 refine jS (jR (jM ?_))
 refine Ops.cl (jE1 Tryz.call43) (qYn g1 B1 d1 (bE L) (eB L L.length + 4) 0 0 _ jo jo hO) rfl ?_
 rintro e w32 ⟨rfl, hd32⟩
 rw [if_neg hno, if_neg hno]
 refine ⟨_, rfl, ?_⟩
 have K := K.drawn hd32
 have hbS32 := hbS31.drawn hd32
 have hE32 : RdE w32 dA l.length l := ⟨rfl, (hd31.drawn hd32).rd, fun x hx => ((hbg31 x hx).drawn hd32).rd⟩
 have hqa : L.length = l.length := hll.symm
 have hqb : 0 < L.length := h1n
 refine jm rfl (je (Run.extract rfl rfl) (je (Run.extract rfl rfl) (ja rfl (ja rfl (jO (jN (jv5 0 2 8 9 13 ?_)))))))
 refine jS (jR (jm rfl (jb rfl rfl (Bin.eqlN _ 0) (jM ?_))))
 refine jG ?_
 refine jG ?_
 refine jk (Run.nilck rfl) ?_
 refine jk (Run.fieldAddr rfl zaj rfl zbx jd) ?_
 refine jk (Run.load rfl zcm (hbS32.cell 1)) ?_
 refine jk (Run.lenS rfl zat) ?_
 refine jk (Run.bin rfl rfl (Bin.eqlN _ _)) ?_
 refine je (Run.pickT rfl rfl au) (jM ?_)
 refine jG ?_
 refine jk (Run.bin rfl rfl (Bin.gtrN _ 0)) ?_
 refine je (Run.pickT rfl rfl au) (jM ?_)
 refine jG ?_
 refine jk (Run.nilck rfl) ?_
 refine jk (Run.fieldAddr rfl zaj rfl zd jd) ?_
 refine jk (Run.load rfl zg (hbS32.cell 2)) ?_
 refine jG ?_
 refine jk (Run.bin rfl rfl (Bin.geqN _ _)) ?_
 refine je (Run.pickT rfl rfl au) (jM ?_)
 refine jG ?_
 refine jk (Run.nilck rfl) ?_
 refine jk (Run.fieldAddr rfl zaj rfl zd jd) ?_
 refine jk (Run.load rfl zg (hbS32.cell 2)) ?_
 refine jG ?_
 refine jk (Run.bin rfl rfl (Bin.eqlN _ _)) ?_
 refine je (Run.pickT rfl rfl au) (jM ?_)
 refine jG ?_
 refine Ops.clg rfl au (jE1 Tryz.call44) (qWa g bn bc dc _ bA dA l _ hbS32 hE32 jo (fun i hi hm hne => qWb htl jo hm hne) (fun hm => qWc htl (fun j hj => hm j jo))) rfl ?_
 rintro e w33 ⟨rfl, hf33⟩
 refine ⟨_, rfl, ?_⟩
 refine je (Run.pickT rfl rfl au) (ja rfl (jO (jN (jv1 6 ?_))))
 refine jT ?_
 refine qD rfl ?_
 exact ⟨rfl, ⟨dA, dc, l, htl, hbS32.frm hf33 jp, hE32.frm hf33, hR.dO.le⟩, K.trans hf33 jp⟩
end
section
open Go.RowKit
def gL : List Nat := [115, 101, 97, 108]
theorem qZr {X p s : List Nat} {a v n : Nat} (h : X = p ++ (qL v n ++ s)) (ha : p.length = a) (hv : v < 256 ^ n) : numAt X a n = v := by
 subst ha
 unfold numAt
 rw [h, zen, zbr (by rw [bN]; omega), zm (by rw [bN]; omega)]
 exact uE n v hv
theorem qKs {X : List Nat} {L a n : Nat} (hL : X.length = L) (h : a + n ≤ L) : numV X a n = numAt X a n ∧ numE L a n = 0 := by
 subst hL
 have h1 : numE X.length a n = 0 := by
  unfold numE
  rw [if_neg jo, if_neg jo]
 refine ⟨?_, h1⟩
 unfold numV
 rw [if_pos h1]
theorem rU (L : List Bb) : (bF L).length = (bE L).length + 4 := by unfold bF; rw [zb, bN]
theorem uN (L : List Bb) : (segM L).length = (outM L).length + (bF L).length + 8 := by
 unfold segM
 simp only [zb, bN, zp, zcs]
theorem wL {L : List Bb} (hL : ∀ x ∈ L, x.2.length ≤ 4032 ∧ x.1 < 18446744073709551616 ∧ ∀ b ∈ x.2, b < 256) (hn : L.length ≤ 64) :
  (segM L).drop ((segM L).length - 4) = gL ∧ numAt (segM L) ((segM L).length - 12) 4 = (outM L).length ∧ numAt (segM L) ((segM L).length - 8) 4 = crcM (bF L) ∧ ((segM L).drop (outM L).length).take ((segM L).length - 8 - (outM L).length) = bF L := by
 have hl := uN L
 have hd := rU L
 have ho := qZq hL hn
 have hc := lJ (bF L)
 refine ⟨?_, ?_, ?_, ?_⟩
 ·
  have h1 : segM L = (outM L ++ bF L ++ qL (crcM (bF L)) 4) ++ gL := rfl
  have h2 : (outM L ++ bF L ++ qL (crcM (bF L)) 4).length = (segM L).length - 4 := by
   simp only [zb, bN]
   omega
  rw [← h2, h1, zen]
 ·
  have h1 : segM L = (outM L ++ bE L) ++ (qL (outM L).length 4 ++ (qL (crcM (bF L)) 4 ++ gL)) := by
   show outM L ++ bF L ++ qL (crcM (bF L)) 4 ++ gL = _
   unfold bF
   rw [mQ]
   simp only [zi]
  exact qZr h1 (by rw [zb]; omega) jo
 ·
  have h1 : segM L = (outM L ++ bF L) ++ (qL (crcM (bF L)) 4 ++ gL) := by
   show outM L ++ bF L ++ qL (crcM (bF L)) 4 ++ gL = _
   simp only [zi]
  exact qZr h1 (by rw [zb]; omega) jo
 have h1 : segM L = outM L ++ (bF L ++ (qL (crcM (bF L)) 4 ++ gL)) := by
  show outM L ++ bF L ++ qL (crcM (bF L)) 4 ++ gL = _
  simp only [zi]
 rw [show (segM L).length - 8 - (outM L).length = (bF L).length by omega, h1, zen, zgb]
theorem qG7 (L : List Bb) : (bF L).take ((bF L).length - 4) = bE L := by
 rw [rU]
 unfold bF
 rw [show (bE L).length + 4 - 4 = (bE L).length by omega, zgb]
theorem qNn {l : List Nat} (h : ∀ b ∈ l, b < 256) : l.map UInt8.ofNat = [115, 101, 97, 108] ↔ l = gL := by
 constructor
 ·
  intro h3
  have h4 : (l.map UInt8.ofNat).map UInt8.toNat = l := by
   rw [zdh]
   conv => rhs; rw [← List.map_id l]
   apply zcz
   intro b hb
   have := h b hb
   show (UInt8.ofNat b).toNat = b
   rw [UInt8.toNat_ofNat']
   exact zdf this
  rw [← h4, h3]
  rfl
 intro h1
 subst h1
 rfl
end
section
open Go.RowKit
theorem qJn (B : Option Addr) (m c a : Nat) (X : List Nat) (L : List Bb) (w : World) (hX : X.length = m + 12) (hn : m ≤ 1000000) (hB : ∀ b ∈ X, b < 256) (hc : m + 12 ≤ c) (hr : Rd w 1 B (m + 12) (NB X)) (hM : nN L)
  (ha : numAt X m 4 = a) (han : a ≤ m) (hX2 : X.drop (m + 8) = gL → numAt X (m + 4) 4 = crcM ((X.drop a).take (m + 4 - a)) → X = segM L) :
  Calls Tryz.prog 11 #[.slice B (m + 12) c] w fun e w' => ∃ p k, e = .returned (.tuple #[.pointer p, .int .i64 ((k : Nat) : Int)]) ∧ Frm [] w w' ∧ ((X.drop (m + 8) = gL ∧ numAt X (m + 4) 4 = crcM ((X.drop a).take (m + 4 - a))) → ∃ g, p = some ⟨g, 0, none⟩ ∧ k = 0 ∧ oR w' g L) ∧ (¬ (X.drop (m + 8) = gL ∧ numAt X (m + 4) 4 = crcM ((X.drop a).take (m + 4 - a))) → p = none ∧ (k = 3 ∨ k = 9)) := by
 have K := Frm.refl [] w
 have hs4 : ∀ b ∈ X.drop (m + 8), b < 256 := fun b hb => hB b (zbz hb)
 have hsl : (X.drop (m + 8)).length = 4 := by rw [zq]; omega
 have hrs : Rd w 1 (cP B c (m + 8) 1) 4 (U8 ((X.drop (m + 8)).map UInt8.ofNat)) := by
  have h1 := hr.cut (l := m + 8) (r := m + 12) (cap := c) jo jo hc
  have h2 : ((NB X).drop ((m + 8) * 1)).take ((m + 12 - (m + 8)) * 1) = NB (X.drop (m + 8)) := by
   rw [zcw, zcw, show m + 12 - (m + 8) = 4 by omega, show (NB X).drop (m + 8) = NB (X.drop (m + 8)) by simp [NB, zgj], zm (by simp [NB]; omega)]
  rw [h2, show m + 12 - (m + 8) = 4 by omega] at h1
  rw [← vC _ hs4]
  exact h1
 have hsi := qNn hs4
 have hv1 := qKs (a := m) (n := 4) hX jo
 have hv2 := qKs (a := m + 4) (n := 4) hX jo
 rw [ha] at hv1
 have ho1 := fun W hW => sN B c (m + 12) m 4 X W hX jo jo jo jo hB hW
 have ho2 := fun W hW => sN B c (m + 12) (m + 4) 4 X W hX jo jo jo jo hB hW
 rw [hv1.1, hv1.2] at ho1
 rw [hv2.1, hv2.2] at ho2
 have hlt2 := uA X hB (m + 4) 4
 have hdl : ((X.drop a).take (m + 4 - a)).length = m + 4 - a := by rw [zj, zq]; omega
 have hdb : ∀ b ∈ (X.drop a).take (m + 4 - a), b < 256 := fun b hb => hB b (zbz (zal hb))
 have hcr := lJ ((X.drop a).take (m + 4 - a))
 generalize hsm : numAt X (m + 4) 4 = sm at *
 have hrd : Rd w 1 (cP B c a 1) (m + 4 - a) (NB ((X.drop a).take (m + 4 - a))) := by
  have h1 := oI X a (m + 4 - a) jo (by rw [hX]; exact hr) (by rw [hX]; exact hc)
  rw [hdl] at h1
  exact h1
 refine VC.calls (nt := 66) (res := #[.tmp 2, .tmp 3]) Tryz.func11 rfl Tryz.ntmps11 Tryz.results11 rfl ?_
 refine jS (jR (ja rfl (jz 0 (jO (jN (jv1 0 ?_))))))
 refine jS (jR (jm rfl (je (Run.lenS rfl ze) (jb rfl rfl (Bin.sub_i64 _ 12 jo jo) ?_))))
 rw [show m + 12 - 12 = m by omega]
 refine ja rfl (jO (jN (jv2 0 4 ?_)))
 refine jS (jS ?_)
 refine VC.split1 [(0, _), (4, _)] (js2 rfl rfl) 23 (.bool (decide (X.drop (m + 8) ≠ gL))) ?_ ?_
 ·
  refine jR ?_
  refine jm rfl (jb rfl rfl (Bin.lssN _ 0) ?_)
  by_cases hs15 : m < 0
  ·
   refine jM ?_
   refine jU ?_
   refine jU ?_
   refine jU ?_
   refine jU ?_
   refine jU ?_
   refine jU ?_
   refine je (Run.pickT rfl rfl au) (jO ?_)
   refine jN ⟨(js3 (jC (by first | exact decide_eq_decide.2 (not_congr hsi) | (simp; omega))) rfl rfl), rfl⟩
  refine jM ?_
  refine jG ?_
  refine jG ?_
  refine jk (Run.bin rfl rfl (Bin.add_i64 _ 8 jo)) ?_
  refine jk (Run.sliceS _ _ rfl ze zai (evB.some_ rfl) evB.none_ jo jo) ?_
  rw [show m + 12 - (m + 8) = 4 by omega]
  refine jk (Run.strOf rfl ze zbe zdq hrs) ?_
  refine jk (Run.neqStr rfl rfl) ?_
  refine je (Run.pickF rfl rfl au) (jO ?_)
  refine jN ⟨(js3 (jC (by first | exact decide_eq_decide.2 (not_congr hsi) | (simp; omega))) rfl rfl), rfl⟩
 intro Γ hΓ
 refine jN (VC.sub _ hΓ ?_)
 refine jD rfl (fun hc1 => ?_) fun hc1 => ?_
 ·
  refine jS (jR (ja rfl (jz 3 (jO (jN (jv2 2 3 ?_))))))
  refine jT ?_
  refine qN (cV rfl rfl ?_)
  exact ⟨none, 3, rfl, K, fun h => absurd h.1 hc1, fun _ => ⟨rfl, .inl rfl⟩⟩
 refine jQ (jN (jv2 0 4 ?_))
 refine jS (jR (jm rfl (jM ?_)))
 refine Ops.cl (jE3 Tryz.call23) (ho1 _ hr) rfl ?_
 rintro e _ ⟨rfl, rfl⟩
 refine ⟨_, rfl, ?_⟩
 refine jm rfl (je (Run.extract rfl rfl) (je (Run.extract rfl rfl) (ja rfl (ja rfl (jO (jN (jv3 0 4 5 ?_)))))))
 refine jS (jS (jR (jm rfl (jm rfl (je (Run.convN _ rfl zab zaa (by simp only [bmax]; omega)) (jb rfl rfl (Bin.gtrN _ _) (jO (jN (jv4 0 4 5 33 ?_)))))))))
 refine VC.condF rfl (decide_eq_false jo) ?_
 refine jQ (jN (jv3 0 4 5 ?_))
 refine jS (jR (jm rfl (jm rfl (jm rfl (jb rfl rfl (Bin.add_i64 _ 4 jo) (je (Run.sliceS _ _ rfl ze zai (evB.some_ rfl) (evB.some_ rfl) jo jo) (ja rfl (jO (jN (jv4 0 4 5 7 ?_))))))))))
 refine jS (jS (jR (jm rfl (jm rfl (jb rfl rfl (Bin.add_i64 _ 4 jo) ?_)))))
 refine Ops.cl (jE3 Tryz.call23) (ho2 _ hr) rfl ?_
 rintro e _ ⟨rfl, rfl⟩
 refine ⟨_, rfl, ?_⟩
 refine jm rfl (je (Run.extract rfl rfl) (je (Run.extract rfl rfl) (ja rfl (ja rfl (jO (jN (jv4 0 5 7 8 ?_)))))))
 refine jS (jR (jm rfl (je (Run.convN _ rfl zaa zfc (by simp only [bmax]; omega)) (jM ?_))))
 refine Ops.cl (jE1 Tryz.call16) (nA (cP B c a 1) _ (m + 4 - a) ((X.drop a).take (m + 4 - a)) _ hdl jo hdb hrd) rfl ?_
 rintro e w1 ⟨rfl, K⟩
 refine ⟨_, rfl, ?_⟩
 refine jb rfl rfl (Bin.neqN _ _) (jO (jN (jv4 0 5 7 50 ?_)))
 refine jD rfl (fun hc3 => ?_) fun hc3 => ?_
 ·
  refine jS (jR (ja rfl (jz 9 (jO (jN (jv2 2 3 ?_))))))
  refine jT ?_
  refine qN (cV rfl rfl ?_)
  exact ⟨none, 9, rfl, K, fun h => absurd h.2 hc3, fun _ => ⟨rfl, .inr rfl⟩⟩
 refine jQ (jN (jv3 0 5 7 ?_))
 refine jS (jR (jM ?_))
 refine Ops.cl (jE1 Tryz.call24) (qZ7 B c (m + 12) X _ hX jo (hr.frm K jp)) rfl ?_
 rintro e w2 ⟨B2, c2, rfl, hb2, hf2, hob2⟩
 refine ⟨_, rfl, ?_⟩
 have K := K.trans hf2 jp
 have K2s := K.size
 refine je (Run.build (evs.cons rfl evs.nil) qRp (qQq).choose_spec.1 (qQq).choose_spec.2 rfl) ?_
 refine Ops.m (qJ.box rfl) rfl ?_
 rintro _ w3 ⟨rfl, hF3⟩
 have K := K.trans hF3.frm jp
 have hXe := hX2 (Classical.not_not.1 hc1) jo
 obtain ⟨hL, _, _, h64⟩ := id hM
 obtain ⟨_, hp2, _, hp4⟩ := wL hL h64
 have hpl : (segM L).length = m + 12 := by rw [← hXe]; exact hX
 have hae : a = (outM L).length := by rw [← hp2, ← hXe, hX, show m + 12 - 12 = m by omega, ha]
 have hde : (X.drop a).take (m + 4 - a) = bF L := by rw [← hp4, ← hae, ← hXe, hX, show m + 12 - 8 = m + 4 by omega]
 have hdl2 := rU L
 have hks2 : w.heap.size ≤ w2.heap.size := K2s
 have hlq : m + 4 - a - 4 - 0 = (bE L).length := by rw [hde] at hdl; omega
 have hrq : Rd w3 1 (cP (cP B c a 1) (c - a) 0 1) (bE L).length (NB (bE L)) := by
  have h1 := (hrd.frm K jp).cut (l := 0) (r := m + 4 - a - 4) (cap := c - a) jo jo jo
  rw [hde] at hdl h1
  have h2 : ((NB (bF L)).drop (0 * 1)).take ((m + 4 - a - 4 - 0) * 1) = NB (bE L) := by
   rw [zff, zca, zcw, show m + 4 - a - 4 - 0 = (bF L).length - 4 by omega, show (NB (bF L)).take ((bF L).length - 4) = NB ((bF L).take ((bF L).length - 4)) by simp [NB, zdu], qG7]
  rw [h2, hlq] at h1
  exact h1
 refine ja rfl (jO (jN (jv3 5 7 10 ?_)))
 refine jS (jS (jR (jm rfl (jm rfl (jm rfl (je (Run.lenS rfl ze) (jb rfl rfl (Bin.sub_i64 _ 4 jo jo) (je (Run.sliceS 0 _ rfl ze zai evB.none_ (evB.some_ rfl) jo jo) ?_))))))))
 rw [hlq]
 refine jm rfl (je (Run.convN _ rfl zaa zab (by simp only [bmax]; omega)) ?_)
 have hrdd := qWd w2.heap.size (m + 12) c2 (c - a - 0) B2 (cP (cP B c a 1) (c - a) 0 1) L w3 hM hF3.blk hrq
 rw [← hae] at hrdd
 refine Ops.cl (jE3 Tryz.call25) (hrdd) rfl ?_
 rintro e w4 ⟨rfl, ⟨dA, dc, l, htl, hbS, hE, hdc⟩, hf4⟩
 refine ⟨_, rfl, ?_⟩
 have K := K.own hf4 (by simp; exact hks2)
 refine je (Run.not rfl) (jO (jN (jv2 10 64 ?_)))
 refine VC.condF rfl (rfl) ?_
 refine jQ (jN (jv1 10 ?_))
 refine jS (jR (jm rfl (ja rfl (jz 0 (jO (jN (jv2 2 3 ?_)))))))
 refine jT ?_
 refine cV rfl rfl ?_
 refine ⟨some ⟨w2.heap.size, 0, none⟩, 0, rfl, K, fun _ => ⟨_, rfl, rfl, B2, c2, dA, dc, l, ⟨?_, ?_, ?_, hE, hdc⟩, htl⟩, fun h => absurd ⟨Classical.not_not.1 hc1, Classical.not_not.1 hc3⟩ h⟩
 · rw [hpl, ← hae]; exact hbS
 · rw [hpl, ← hXe]; exact ((hb2.frm hF3.frm jp).frm hf4 (fun x hx hx2 => by rw [zh] at hx2; subst hx2; have := hb2.lt _ hx; omega)).rd
 rw [hpl]; exact hb2.le
end
section
open Go.RowKit
theorem qSe {w : World} {g e n : Nat} {cs : Array Value} {xs : List Value} (h : Fro w g e cs) (ht : cs.toList.take n = xs) (hl : xs.length = n) : Rd w 1 (some ⟨g, 0, none⟩) n xs := by
 refine ⟨jo, fun _ => ⟨_, rfl, h.lt, fun j u hu => ?_⟩⟩
 rw [kP, h.cell]
 rw [← ht] at hu
 have hj : j < n := by
  have := (List.getElem?_eq_some_iff.1 hu).1
  rw [zj] at this
  omega
 rw [zap hj] at hu
 rw [← hu, zgd]
end
section
open Go.RowKit
theorem qKt {l : List Bl} (h : fV l) : ∀ j i, i < j → j < l.length → (l.getD i bl0).id < (l.getD j bl0).id
 | 0, i, h1, _ => jo
 | j + 1, i, h1, h2 => by
  have h3 := (h.1 (j + 1) h2).2 jo
  rw [zfo] at h3
  by_cases h4 : i = j
  · subst h4; exact h3
  have := qKt h j i jo jo
  omega
theorem qWe {w : World} {A : Option Addr} {n : Nat} {l : List Bl} (hr : RdB w A n l) (h : fV l) : nN (l.map Bl.b) := by
 refine ⟨fun x hx => ?_, ?_, by rw [zu]; exact h.2.1, by rw [zu]; exact h.2.2⟩
 ·
  obtain ⟨y, hy, rfl⟩ := List.mem_map.1 hx
  obtain ⟨_, _, h3, h4, _⟩ := hr.el y hy
  obtain ⟨k, hk, rfl⟩ := zbd hy
  have := rS h hk
  rw [zc, za hk] at this
  exact ⟨this, h3, h4⟩
 rw [List.pairwise_iff_getElem]
 intro i j hi hj hij
 rw [zu] at hi hj
 have := qKt h j i hij hj
 rw [zc, zc, za hi, za hj] at this
 rw [zfg, zfg]
 exact this
theorem qSq (L : List Bb) : (segM L).length = ((outM L).length + (bE L).length) + 12 := by
 rw [uN, rU]
 omega
theorem vG (B : Option Addr) (c : Nat) (L : List Bb) (w : World) (hM : nN L) (hc : (segM L).length ≤ c) (hr : Rd w 1 B (segM L).length (NB (segM L))) :
  Calls Tryz.prog 11 #[.slice B (segM L).length c] w fun e w' => ∃ g, e = .returned (.tuple #[.pointer (some ⟨g, 0, none⟩), .int .i64 ((0 : Nat) : Int)]) ∧ oR w' g L ∧ Frm [] w w' := by
 obtain ⟨hL, _, _, h64⟩ := id hM
 obtain ⟨h1, h2, h3, h4⟩ := wL hL h64
 have hl := qSq L
 have hle := qZp hL h64
 rw [hl, show (outM L).length + (bE L).length + 12 - 4 = (outM L).length + (bE L).length + 8 by omega] at h1
 rw [hl, show (outM L).length + (bE L).length + 12 - 12 = (outM L).length + (bE L).length by omega] at h2
 rw [hl, show (outM L).length + (bE L).length + 12 - 8 = (outM L).length + (bE L).length + 4 by omega] at h3 h4
 rw [hl] at hr hc ⊢
 rw [← h4] at h3
 refine (qJn B ((outM L).length + (bE L).length) c (outM L).length (segM L) L w hl jo (qKr hL) hc hr hM h2 jo (fun _ _ => rfl)).mono ?_
 rintro e w' ⟨p, k, rfl, hf, hy, _⟩
 obtain ⟨g, rfl, rfl, hg⟩ := hy ⟨h1, h3⟩
 exact ⟨g, rfl, hg, hf⟩
theorem qG8 (g : Nat) (L : List Bb) (w : World) (hS : oR w g L) (hM : nN L) :
  Calls Tryz.prog 19 #[.pointer (some ⟨g, 0, none⟩)] w fun e w' => ∃ B d, e = .returned (.slice B L.length d) ∧ Rd w' 1 B L.length (UB (L.map fun x => x.1)) ∧ Frm [] w w' := by
 obtain ⟨bA, bc, dA, dc, l, hS, ht⟩ := hS
 obtain ⟨hL, _, _, h64⟩ := hM
 have hok := qQi ht hL h64
 have hm : l.map (fun x => x.e.id) = L.map (fun x => x.1) := by
  apply List.ext_getElem
  · rw [zu, zu]; exact ht.len
  intro i h1 h2
  rw [zu] at h1 h2
  have := ht.get h2
  rw [zc, zc, za h1, za h2] at this
  simp only [zba] at this
  rw [zfg, zfg, this]
 refine (qNa g bc dc _ bA dA (segM L) l w hS hok).mono ?_
 rintro e w' ⟨B, d, rfl, ho, hf, _⟩
 rw [hm] at ho
 rw [ht.len] at ho ⊢
 exact ⟨B, d, rfl, ho.rd, hf⟩
theorem uP (A : Option Addr) (n c : Nat) (l : List Bl) (w : World) (hn : n ≤ 1000000) (hr : RdB w A n l) (hmay : ¬ fV l) :
  Calls Tryz.prog 7 #[.slice A n c] w fun e w' => e = .returned (.tuple #[.slice none 0 0, .int .i64 ((1 : Nat) : Int)]) ∧ Frm [] w w' := by
 refine DV.calls (nt := 73) (res := #[.tmp 2, .tmp 3]) Tryz.func7 rfl Tryz.ntmps7 Tryz.results7 rfl ?_
 refine DV.seq ?_
 refine DV.vc ?_
 refine jR (ja rfl (jz 0 (jO ?_)))
 refine bI ?_
 refine DV.seq ?_
 refine DV.seq ?_
 refine DV.vc ?_
 refine jR (jM ?_)
 refine Ops.cl (jE1 Tryz.call14) (wA A n c l _ hn hr) rfl ?_
 rintro e w1 ⟨rfl, K⟩
 refine ⟨_, rfl, ?_⟩
 refine je (Run.not rfl) (jO ?_)
 refine bI ?_
 refine DV.sub [(0, _), (2, _), (3, _), (13, _)] (js4 rfl rfl rfl rfl) ?_
 refine DV.vc ?_
 refine VC.condT rfl (by simp [hmay]) ?_
 refine jS (jR (ja rfl (jz 1 (jO (jN (jv2 2 3 ?_))))))
 refine jT ?_
 refine qJ1 (sV jp jp (fun wz hsh => ?_))
 refine cV rfl rfl ?_
 exact ⟨rfl, K.trans hsh jp⟩
def la1 (A : Option Addr) (c : Nat) : List Bl := [⟨5, A, c, [97, 98, 99]⟩]
def la2 (A : Option Addr) (c : Nat) : List Bl := [⟨1, A, c, List.replicate 600 0⟩]
def la3 : List Bl := [⟨5, none, 0, []⟩, ⟨5, none, 0, []⟩]
theorem qRh (A : Option Addr) (c : Nat) : fV (la1 A c) := ⟨fun i hi => by
 obtain rfl : i = 0 := Nat.lt_one_iff.1 hi
 exact ⟨show 3 ≤ 4032 by omega, fun h => absurd h jo⟩, zk 1, show 1 ≤ 64 by omega⟩
theorem qRi (A : Option Addr) (c : Nat) : fV (la2 A c) := ⟨fun i hi => by
 obtain rfl : i = 0 := Nat.lt_one_iff.1 hi
 refine ⟨?_, fun h => absurd h jo⟩
 show (List.replicate 600 0).length ≤ 4032
 rw [zbb]
 omega, zk 1, show 1 ≤ 64 by omega⟩
theorem qRj : ¬ fV la3 := fun h => by
 have : 5 < 5 := (h.1 1 (jo : 1 < 2)).2 jo
 omega
theorem nR (w : World) :
  Calls Tryz.prog 9 #[] w fun e w' => e = .returned (.bool true) ∧ Frm [] w w' := by
 have K := Frm.refl [] w
 refine VC.calls (nt := 151) (res := #[.tmp 0]) Tryz.func9 rfl Tryz.ntmps9 Tryz.results9 rfl ?_
 refine jS (jR (ja rfl (jO (jN ?_))))
 refine VC.sub [] .nil ?_
 refine jS (jR ?_)
 refine Ops.m (qJ.buildN (cells := #[.int .u8 97, .int .u8 98, .int .u8 99]) (evs.cons rfl (evs.cons rfl (evs.cons rfl evs.nil))) ze zai tR rfl rfl jK) rfl ?_
 rintro _ w1 ⟨rfl, hF1⟩
 have K := K.trans hF1.frm jp
 have hblk1 := hF1.blk
 refine Ops.m (qJ.mark rfl ze zbe hblk1) rfl ?_
 rintro _ w2 ⟨rfl, hfro2, hf2⟩
 have K := K.own hf2 jp
 refine je (Run.build (evs.cons rfl (evs.cons rfl evs.nil)) fF (gK).choose_spec.1 (gK).choose_spec.2 rfl) ?_
 refine Ops.m (qJ.buildS1 rfl zaf zbl fF jd jd rfl rfl) rfl ?_
 rintro _ w3 ⟨rfl, hF3⟩
 have K := K.trans hF3.frm jp
 have hr3 : RdB w3 (some ⟨w2.heap.size, 0, none⟩) 1 (la1 (some ⟨w.heap.size, 0, none⟩) 3) := ⟨rfl, Rd.of_blk (n := 1) (size := 2) hF3.blk rfl, fun x hx => by
  obtain rfl : x = ⟨5, some ⟨w.heap.size, 0, none⟩, 3, [97, 98, 99]⟩ := zh.1 hx
  exact ⟨zk _, show 3 ≤ 1000000 by omega, show 5 < 18446744073709551616 by omega, show ∀ b ∈ [97, 98, 99], b < 256 by simp, qSe (hfro2.frm hF3.frm jp) rfl rfl⟩⟩
 have hm1 := qRh (some ⟨w.heap.size, 0, none⟩) 3
 have hM1 : nN [(5, [97, 98, 99])] := qWe hr3 hm1
 refine Ops.cl (jE1 Tryz.call7) (rT _ 1 1 (la1 (some ⟨w.heap.size, 0, none⟩) 3) _ jo hr3 hm1) rfl ?_
 rintro e w4 ⟨B1, e1, rfl, ho4, hf4, _⟩
 refine ⟨_, rfl, ?_⟩
 have K := K.trans hf4 jp
 refine jm rfl (je (Run.extract rfl rfl) (je (Run.extract rfl rfl) (ja rfl (ja rfl (jO (jN (jv2 1 2 ?_)))))))
 refine jS (jR (jM ?_))
 refine Ops.cl (jE1 Tryz.call11) (vG B1 e1 [(5, [97, 98, 99])] _ hM1 ho4.le ho4.rd) rfl ?_
 rintro e w5 ⟨g1, rfl, hs1, hf5⟩
 refine ⟨_, rfl, ?_⟩
 have K := K.trans hf5 jp
 refine jm rfl (je (Run.extract rfl rfl) (je (Run.extract rfl rfl) (ja rfl (ja rfl (jO (jN (jv3 2 3 4 ?_)))))))
 refine jS (jR ?_)
 refine Ops.m (qJ.makeS (n := 600) rfl rfl ze (dD) rfl jo jo) rfl ?_
 rintro _ w6 ⟨rfl, ho6, hf6, _⟩
 have K := K.trans hf6 jp
 have hs1 := hs1.frm hf6
 have hz6 : Rd w6 1 (some ⟨w5.heap.size, 0, none⟩) 600 (NB (List.replicate 600 0)) := by
  have h1 := ho6.rd
  have h2 : NB (List.replicate 600 0) = List.replicate 600 (.int .u8 0) := by simp [NB, List.map_replicate]
  rw [h2]
  exact h1
 refine je (Run.build (evs.cons rfl (evs.cons rfl evs.nil)) fF (gK).choose_spec.1 (gK).choose_spec.2 rfl) ?_
 refine Ops.m (qJ.buildS1 rfl zaf zbl fF jd jd rfl rfl) rfl ?_
 rintro _ w7 ⟨rfl, hF7⟩
 have K := K.trans hF7.frm jp
 have hs1 := hs1.frm hF7.frm
 have hr7 : RdB w7 (some ⟨w6.heap.size, 0, none⟩) 1 (la2 (some ⟨w5.heap.size, 0, none⟩) 600) := ⟨rfl, Rd.of_blk (n := 1) (size := 2) hF7.blk rfl, fun x hx => by
  obtain rfl : x = ⟨1, some ⟨w5.heap.size, 0, none⟩, 600, List.replicate 600 0⟩ := zh.1 hx
  refine ⟨?_, ?_, show 1 < 18446744073709551616 by omega, fun b hb => ?_, ?_⟩
  · show (List.replicate 600 0).length ≤ 600; rw [zbb]; omega
  · show (List.replicate 600 0).length ≤ 1000000; rw [zbb]; omega
  · have := zfh hb; omega
  show Rd w7 1 _ (List.replicate 600 0).length _
  rw [zbb]
  exact hz6.frm hF7.frm jp⟩
 have hm2 := qRi (some ⟨w5.heap.size, 0, none⟩) 600
 have hM2 : nN [(1, List.replicate 600 0)] := qWe hr7 hm2
 refine Ops.cl (jE1 Tryz.call7) (rT _ 1 1 (la2 (some ⟨w5.heap.size, 0, none⟩) 600) _ jo hr7 hm2) rfl ?_
 rintro e w8 ⟨B2, e2, rfl, ho8, hf8, _⟩
 refine ⟨_, rfl, ?_⟩
 have K := K.trans hf8 jp
 have hs1 := hs1.frm hf8
 refine jm rfl (je (Run.extract rfl rfl) (je (Run.extract rfl rfl) (ja rfl (ja rfl (jO (jN (jv5 2 3 4 5 6 ?_)))))))
 refine jS (jR (jM ?_))
 refine Ops.cl (jE1 Tryz.call11) (vG B2 e2 [(1, List.replicate 600 0)] _ hM2 ho8.le ho8.rd) rfl ?_
 rintro e w9 ⟨g2, rfl, hs2, hf9⟩
 refine ⟨_, rfl, ?_⟩
 have K := K.trans hf9 jp
 have hs1 := hs1.frm hf9
 refine jm rfl (je (Run.extract rfl rfl) (je (Run.extract rfl rfl) (ja rfl (ja rfl (jO (jN (jv6 2 3 4 6 7 8 ?_)))))))
 refine jS (jS (jR (jm rfl (je (Run.eqlNilP rfl rfl Tryz.underlying32) (jM ?_)))))
 refine jG ?_
 refine jk (Run.eqlNilP rfl rfl Tryz.underlying32) ?_
 refine je (Run.pick rfl rfl rfl) (jO (jN (jv7 2 3 4 6 7 8 51 ?_)))
 refine VC.condF rfl (rfl) ?_
 refine jQ (jN (jv6 2 3 4 6 7 8 ?_))
 refine jS (jR (jM ?_))
 refine Ops.cl (jE1 Tryz.call19) (qG8 g1 _ _ hs1 hM1) rfl ?_
 rintro e w10 ⟨B3, e3, he, hr10, hf10⟩
 have he : e = .returned (.slice B3 1 e3) := he
 subst he
 refine ⟨_, rfl, ?_⟩
 have K := K.trans hf10 jp
 have hs1 := hs1.frm hf10
 have hs2 := hs2.frm hf10
 refine ja rfl (jO (jN (jv7 2 3 4 6 7 8 9 ?_)))
 refine jS (jR (jM ?_))
 have hsp := kL g1 0 1 9 [(5, [97, 98, 99])] w10 hs1 hM1 jd jo jo
 rw [show ((([(5, [97, 98, 99])] : List Bb).getD 0 b0).2.drop 1).take 9 = [98, 99] from rfl, show kJ (([(5, [97, 98, 99])] : List Bb).getD 0 b0).2 1 9 = 1 from rfl] at hsp
 refine Ops.cl (jE4 Tryz.call13) (hsp) rfl ?_
 rintro e w11 ⟨B4, e4, he, hr11, hf11⟩
 have he : e = .returned (.tuple #[.slice B4 2 e4, .int .i64 ((1 : Nat) : Int), .int .i64 ((0 : Nat) : Int)]) := he
 subst he
 have hr11 : Rd w11 1 B4 2 (U8 [98, 99]) := hr11
 refine ⟨_, rfl, ?_⟩
 have K := K.trans hf11 jp
 have hs2 := hs2.frm hf11
 have hr10 := hr10.frm hf11 jp
 refine jm rfl (je (Run.extract rfl rfl) (je (Run.extract rfl rfl) (je (Run.extract rfl rfl) (ja rfl (ja rfl (ja rfl (jO (jN (jv9 2 4 6 7 8 9 10 11 12 ?_)))))))))
 refine jS (jR (jM ?_))
 have hsp := kL g2 0 250 10 [(1, List.replicate 600 0)] w11 hs2 hM2 jd jo jo
 rw [show (([(1, List.replicate 600 0)] : List Bb).getD 0 b0).2 = List.replicate 600 0 from rfl, show ((List.replicate 600 0).drop 250).take 10 = List.replicate 10 0 by rw [List.drop_replicate, List.take_replicate]; rfl, show kJ (List.replicate 600 0) 250 10 = 2 by unfold kJ; rw [zbb]; rfl] at hsp
 refine Ops.cl (jE4 Tryz.call13) (hsp) rfl ?_
 rintro e w12 ⟨B5, e5, he, hr12, hf12⟩
 have he : e = .returned (.tuple #[.slice B5 10 e5, .int .i64 ((2 : Nat) : Int), .int .i64 ((0 : Nat) : Int)]) := he
 subst he
 refine ⟨_, rfl, ?_⟩
 have K := K.trans hf12 jp
 have hs2 := hs2.frm hf12
 have hr10 := hr10.frm hf12 jp
 have hr11 := hr11.frm hf12 jp
 refine jm rfl (je (Run.extract rfl rfl) (je (Run.extract rfl rfl) (je (Run.extract rfl rfl) (ja rfl (ja rfl (ja rfl (jO (jN (jv12 2 4 6 7 8 9 10 11 12 13 14 15 ?_)))))))))
 refine jS (jR (jM ?_))
 have hsp := kL g2 0 600 5 [(1, List.replicate 600 0)] w12 hs2 hM2 jd jo jo
 rw [show (([(1, List.replicate 600 0)] : List Bb).getD 0 b0).2 = List.replicate 600 0 from rfl, show ((List.replicate 600 0).drop 600).take 5 = [] by rw [List.drop_replicate, List.take_replicate]; rfl, show kJ (List.replicate 600 0) 600 5 = 0 by unfold kJ; rw [zbb]; rfl] at hsp
 refine Ops.cl (jE4 Tryz.call13) (hsp) rfl ?_
 rintro e w13 ⟨B6, e6, he, hr13, hf13⟩
 have he : e = .returned (.tuple #[.slice B6 0 e6, .int .i64 ((0 : Nat) : Int), .int .i64 ((0 : Nat) : Int)]) := he
 subst he
 refine ⟨_, rfl, ?_⟩
 have K := K.trans hf13 jp
 have hr10 := hr10.frm hf13 jp
 have hr11 := hr11.frm hf13 jp
 refine jm rfl (je (Run.extract rfl rfl) (je (Run.extract rfl rfl) (je (Run.extract rfl rfl) (ja rfl (ja rfl (ja rfl (jO (jN (jv14 2 4 6 8 9 10 11 12 13 14 15 16 17 18 ?_)))))))))
 refine jS (jR (je (Run.build (evs.cons rfl evs.nil) fF (gK).choose_spec.1 (gK).choose_spec.2 rfl) (je (Run.build (evs.cons rfl evs.nil) fF (gK).choose_spec.1 (gK).choose_spec.2 rfl) ?_)))
 refine Ops.m (qJ.buildN (cells := #[.int .u64 5, .slice none 0 0, .int .u64 5, .slice none 0 0]) (evs.cons rfl (evs.cons rfl evs.nil)) zaf zbl fF rfl rfl jK) rfl ?_
 rintro _ w14 ⟨rfl, hF14⟩
 have K := K.trans hF14.frm jp
 have hr14 : RdB w14 (some ⟨w13.heap.size, 0, none⟩) 2 la3 := ⟨rfl, Rd.of_blk (n := 2) (size := 2) hF14.blk rfl, fun x hx => by
  obtain rfl : x = ⟨5, none, 0, []⟩ := by
   rcases zcp.1 hx with h | h
   · exact h
   exact zh.1 h
  exact ⟨zk _, show 0 ≤ 1000000 by omega, show 5 < 18446744073709551616 by omega, show ∀ b ∈ [], b < 256 by simp, Rd.nil _ _ _⟩⟩
 have hr10 := hr10.frm hF14.frm jp
 have hr11 := hr11.frm hF14.frm jp
 refine Ops.cl (jE1 Tryz.call7) (uP _ 2 2 la3 _ jo hr14 qRj) rfl ?_
 rintro e w15 ⟨rfl, hf15⟩
 refine ⟨_, rfl, ?_⟩
 have K := K.trans hf15 jp
 have hr10 := hr10.frm hf15 jp
 have hr11 := hr11.frm hf15 jp
 refine jm rfl (je (Run.extract rfl rfl) (je (Run.extract rfl rfl) (ja rfl (ja rfl (jO (jN (jv15 2 4 6 8 9 10 11 12 13 14 15 16 17 18 20 ?_)))))))
 refine jS (jR (jm rfl (jb rfl rfl (Bin.eqlN _ 0) (jM ?_))))
 refine jG ?_
 refine jk (Run.bin rfl rfl (Bin.eqlN _ 0)) ?_
 refine je (Run.pickT rfl rfl au) (jM ?_)
 refine jG ?_
 refine jk (Run.bin rfl rfl (Bin.eqlN _ 0)) ?_
 refine je (Run.pickT rfl rfl au) (jM ?_)
 refine jG ?_
 refine jk (Run.bin rfl rfl (Bin.eqlN _ 0)) ?_
 refine je (Run.pickT rfl rfl au) (jM ?_)
 refine jG ?_
 refine jk (Run.lenS rfl zha) ?_
 refine jk (Run.bin rfl rfl (Bin.eqlN _ 1)) ?_
 refine je (Run.pickT rfl rfl au) (jM ?_)
 refine jG ?_
 obtain ⟨ad, u, hA, hu, hce⟩ := hr10.at1 (jo : 0 < 1)
 have hu : u = .int .u64 ((5 : Nat) : Int) := (Option.some.inj hu).symm
 subst hA hu
 refine jk (Run.index1 0 rfl rfl zha zay jo) ?_
 refine jk (Run.load rfl zbu hce) ?_
 refine jk (Run.bin rfl rfl (Bin.eqlN _ 5)) ?_
 refine je (Run.pickT rfl rfl au) (jM ?_)
 refine jG ?_
 refine jk (Run.strOf rfl ze zbe zdq hr11) ?_
 refine jk (Run.eqlStr rfl rfl) ?_
 refine je (Run.pickT rfl rfl au) (jM ?_)
 refine jG ?_
 refine jk (Run.bin rfl rfl (Bin.eqlN _ 1)) ?_
 refine je (Run.pickT rfl rfl au) (jM ?_)
 refine jG ?_
 refine jk (Run.bin rfl rfl (Bin.eqlN _ 0)) ?_
 refine je (Run.pickT rfl rfl au) (jM ?_)
 refine jG ?_
 refine jk (Run.lenS rfl ze) ?_
 refine jk (Run.bin rfl rfl (Bin.eqlN _ 10)) ?_
 refine je (Run.pickT rfl rfl au) (jM ?_)
 refine jG ?_
 refine jk (Run.bin rfl rfl (Bin.eqlN _ 2)) ?_
 refine je (Run.pickT rfl rfl au) (jM ?_)
 refine jG ?_
 refine jk (Run.bin rfl rfl (Bin.eqlN _ 0)) ?_
 refine je (Run.pickT rfl rfl au) (jM ?_)
 refine jG ?_
 refine jk (Run.lenS rfl ze) ?_
 refine jk (Run.bin rfl rfl (Bin.eqlN _ 0)) ?_
 refine je (Run.pickT rfl rfl au) (jM ?_)
 refine jG ?_
 refine jk (Run.bin rfl rfl (Bin.eqlN _ 0)) ?_
 refine je (Run.pickT rfl rfl au) (jM ?_)
 refine jG ?_
 refine jk (Run.bin rfl rfl (Bin.eqlN _ 0)) ?_
 refine je (Run.pickT rfl rfl au) (jM ?_)
 refine jG ?_
 refine jk (Run.bin rfl rfl (Bin.eqlN _ 1)) ?_
 refine je (Run.pickT rfl rfl au) (jm rfl (je (Run.pickT rfl rfl au) (jm rfl (je (Run.pickT rfl rfl au) (ja rfl (jO (jN (jv1 0 ?_))))))))
 refine jT ?_
 refine qD rfl ?_
 exact ⟨rfl, K⟩
end
end Go.Proofs.YtndjgmbfkkgpdaaGreat
