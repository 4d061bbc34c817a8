/-
  Lemmas on the way, joined: MatW, EngC, MatV, CrcW, OctP, InfP, InfW, InfT, InfS, InfM, OctW, DefQ, CanL, DefW, InfD.
-/
import Derived.RangeFuncLeaves
import Derived.RangeFuncSeq
import Derived.RangeFuncOwn
import Derived.Sort.OwnSorted
import Derived.Deep.Strs
import Derived.Test.YtndjgmbfkkgpdaaGreatPk1
set_option maxRecDepth 100000
namespace Go.Proofs.YtndjgmbfkkgpdaaGreat
section
open Go.RowKit
open Go.Maps (Keyed)
def K3 (x : Nat × Nat × Nat) : Value := .agg #[.int .u8 ((x.1 : Nat) : Int), .int .u8 ((x.2.1 : Nat) : Int), .int .u8 ((x.2.2 : Nat) : Int)]
theorem qMw (a b : Nat × Nat × Nat) (h : K3 a = K3 b) : a = b := by
 obtain ⟨a1, a2, a3⟩ := a
 obtain ⟨b1, b2, b3⟩ := b
 simp only [K3, Value.agg.injEq, Array.mk.injEq, List.cons.injEq, Value.int.injEq, true_and, and_true] at h
 obtain ⟨h1, h2, h3⟩ := h
 rw [Int.ofNat.inj h1, Int.ofNat.inj h2, Int.ofNat.inj h3]
theorem qB2 : laidOutB Tryz.prog = true := by kernel_rfl
theorem law3 : Keyed Tryz.prog 201 := Keyed.of_law (deep_law_laid qB2 (m := 2) jo (of_decide_eq_true jK) jK (by rw [zfq]))
theorem qMx : Tryz.prog.cellsOf 201 = 3 := by kernel_rfl
theorem qBf : Tryz.prog.cellsOf 5 = 1 := by kernel_rfl
theorem qB3 : Tryz.prog.keyType 201 = true := by kernel_rfl
theorem wf8 (n : Nat) (h : n < 256) : (Lit.int .u8 (n : Int)).wf = true := by
 have e1 : IntKind.min .u8 = 0 := jd
 have e2 : IntKind.max .u8 = 255 := jd
 simp only [Lit.wf, e1, e2, zeq, decide_eq_true_eq]
 omega
theorem qB4 (d a b c : Nat) (h1 : a < 256) (h2 : b < 256) (h3 : c < 256) : Tryz.prog.keyLits (d + 2) 201 [.int .u8 (a : Int), .int .u8 (b : Int), .int .u8 (c : Int)] = some [.int .u8 (a : Int), .int .u8 (b : Int), .int .u8 (c : Int)] := by
 have e (n : Nat) (h : n < 256) : Tryz.prog.keyLits (d + 1) 5 [.int .u8 (n : Int)] = some [.int .u8 (n : Int)] := by
  unfold Program.keyLits
  rw [zat]
  simp only [wf8 n h, and_self, if_true]
 unfold Program.keyLits
 rw [zfq]
 have e3 : List.range 3 = [0, 1, 2] := rfl
 simp only [qMx, qBf, e3, zp, zbx, zap, Nat.reduceAdd, if_true, List.mapM_cons, List.mapM_nil, zfo, zgs, Nat.reduceMul, zby, zdo, zag, zdt, e a h1, e b h2, e c h3]
 rfl
theorem key3 (x : Nat × Nat × Nat) (h1 : x.1 < 256) (h2 : x.2.1 < 256) (h3 : x.2.2 < 256) : ∃ l, keyOf Tryz.prog 201 (K3 x) = some l := by
 have hf : (K3 x).formed Tryz.prog 201 = true := by
  unfold K3 Value.formed
  rw [zfq]
  simp only [qMx]
  rfl
 have e1 : Tryz.prog.types.size + 1 = (Tryz.prog.types.size - 1) + 2 := by kernel_rfl
 have hk : Tryz.prog.keyLits (Tryz.prog.types.size + 1) 201 (K3 x).cells.toList = some [.int .u8 ((x.1 : Nat) : Int), .int .u8 ((x.2.1 : Nat) : Int), .int .u8 ((x.2.2 : Nat) : Int)] := by
  rw [e1]
  exact qB4 _ _ _ _ h1 h2 h3
 exact ⟨_, by unfold keyOf; rw [zfq]; simp only [qB3, hf, Bool.and_self, if_true, hk]; rfl⟩
def PlV (F : Nat × Nat × Nat → Option Addr × Nat) (bs : List Nat) (u : Nat) (x : Nat × Nat × Nat) : Value := .slice (F x).1 (cJ bs x u).length (F x).2
def PlM (F : Nat × Nat × Nat → Option Addr × Nat) (bs : List Nat) (u : Nat) (x : Nat × Nat × Nat) : Option Value := if cJ bs x u = [] then none else some (PlV F bs u x)
structure IsP (B : Nat) (w : World) (gm : Nat) (bs : List Nat) (u : Nat) (F : Nat × Nat × Nat → Option Addr × Nat) : Prop where
 hgm : B ≤ gm
 map : MpF Tryz.prog 201 K3 w gm (PlM F bs u)
 own : ∀ x, Own w 3 1 (F x).1 (cJ bs x u).length (F x).2 (NI (cJ bs x u))
 up : ∀ x, ∀ z ∈ ob (F x).1, B ≤ z
 nil : ∀ x, cJ bs x u = [] → F x = (none, 0)
 apart : ∀ x y, x ≠ y → ∀ z ∈ ob (F x).1, z ∉ ob (F y).1
theorem IsP.getD {B : Nat} {w : World} {gm u : Nat} {bs : List Nat} {F : Nat × Nat × Nat → Option Addr × Nat} (h : IsP B w gm bs u F) (x : Nat × Nat × Nat) : (PlM F bs u x).getD (.slice none 0 0) = .slice (F x).1 (cJ bs x u).length (F x).2 := by
 unfold PlM
 split
 ·
  rename_i h1
  rw [h.nil x h1, h1]
  rfl
 rfl
theorem IsP.frm {B : Nat} {w w' : World} {gm u : Nat} {bs : List Nat} {F : Nat × Nat × Nat → Option Addr × Nat} {S : List Nat} (h : IsP B w gm bs u F) (f : Frm S w w') (h1 : gm ∉ S) (h2 : ∀ x, ∀ z ∈ ob (F x).1, z ∉ S) : IsP B w' gm bs u F :=
 ⟨h.hgm, h.map.frm f h1, fun x => (h.own x).frm f (h2 x), h.up, h.nil, h.apart⟩
theorem IsP.blk {B : Nat} {w : World} {gm u b : Nat} {bs : List Nat} {F : Nat × Nat × Nat → Option Addr × Nat} {t : TypeId} {cs : Array Value} (h : IsP B w gm bs u F) (hb : Blk w b t cs) (ht : 3 ≠ t) : gm ∉ [b] ∧ ∀ x, ∀ z ∈ ob (F x).1, z ∉ [b] := by
 refine ⟨by simpa using h.map.ne_blk hb, fun x z hz hx => ?_⟩
 rw [zh] at hx
 subst hx
 exact (h.own x).ne_blk hb ht hz
theorem IsP.same {B : Nat} {w : World} {gm u : Nat} {bs : List Nat} {F : Nat × Nat × Nat → Option Addr × Nat} (h : IsP B w gm bs u F) (hn : bs.length < u + 3) : IsP B w gm bs (u + 1) F := by
 have e (x : Nat × Nat × Nat) : cJ bs x (u + 1) = cJ bs x u := by rw [cJ, if_neg jo]
 have e2 : PlM F bs (u + 1) = PlM F bs u := by
  funext x
  unfold PlM PlV
  rw [e x]
 exact ⟨h.hgm, by rw [e2]; exact h.map, fun x => by rw [e x]; exact h.own x, h.up, fun x hx => h.nil x (by rw [← e x]; exact hx), h.apart⟩
theorem IsP.row {B : Nat} {w : World} {gm u n c : Nat} {bs : List Nat} {F : Nat × Nat × Nat → Option Addr × Nat} {A : Option Addr} {t : TypeId} {xs : List Value} (h : IsP B w gm bs u F) (ho : Own w t 1 A n c xs) : gm ∉ ob A := by
 rcases ho.cases with ⟨rfl, _⟩ | ⟨g, cur, rfl, hb, _⟩
 · simp [ob]
 simpa [ob] using h.map.ne_blk hb
theorem IsP.put {B gm p c6 : Nat} {w4 w5 w6 w7 : World} {bs : List Nat} {G : Nat × Nat × Nat → Option Addr × Nat} {A6 : Option Addr} {v0 : Value} (h : IsP B w4 gm bs p G) (hp : p + 3 ≤ bs.length) (hB : B ≤ w4.heap.size) (hf5 : Frm [gm] w4 w5) (hs5 : w5.heap.size = w4.heap.size)
  (ho6 : Own w6 3 1 A6 ((cJ bs (tri bs p) p).length + 1) c6 (NI (cJ bs (tri bs p) p) ++ NI [p])) (hf6 : Frm (ob (G (tri bs p)).1) w5 w6) (hob6 : ob A6 = ob (G (tri bs p)).1 ∨ ob A6 = [w5.heap.size])
  (hM6 : MpF Tryz.prog 201 K3 w6 gm (fun y => if y = tri bs p then some v0 else PlM G bs p y))
  (hM7 : MpF Tryz.prog 201 K3 w7 gm (fun y => if y = tri bs p then some (.slice A6 ((cJ bs (tri bs p) p).length + 1) c6) else if y = tri bs p then some v0 else PlM G bs p y)) (hf7 : Frm [gm] w6 w7) :
  IsP B w7 gm bs (p + 1) (fun y => if y = tri bs p then (A6, c6) else G y) := by
 have e (y : Nat × Nat × Nat) : cJ bs y (p + 1) = if y = tri bs p then cJ bs (tri bs p) p ++ [p] else cJ bs y p := by
  rw [cJ]
  by_cases hy : y = tri bs p
  · rw [if_pos ⟨hp, hy.symm⟩, if_pos hy, hy]
  rw [if_neg (fun hh => hy hh.2.symm), if_neg hy]
 have rowAt {n c : Nat} {A : Option Addr} {xs : List Value} (ho : Own w6 3 1 A n c xs) : gm ∉ ob A := by
  rcases ho.cases with ⟨rfl, _⟩ | ⟨g, cur, rfl, hb, _⟩
  · simp [ob]
  simpa [ob] using hM6.ne_blk hb
 have own6 (y : Nat × Nat × Nat) (hy : y ≠ tri bs p) : Own w6 3 1 (G y).1 (cJ bs y p).length (G y).2 (NI (cJ bs y p)) :=
  ((h.own y).frm hf5 (fun z hz hx => h.row (h.own y) (by rw [zh] at hx; rw [← hx]; exact hz))).frm hf6 (h.apart y _ hy)
 have up6 : ∀ z ∈ ob A6, B ≤ z := cG (h.up _) hob6 jo
 refine ⟨h.hgm, ?_, fun y => ?_, fun y => ?_, fun y hy => ?_, fun x y hxy z hz => ?_⟩
 ·
  have e2 : PlM (fun y => if y = tri bs p then (A6, c6) else G y) bs (p + 1) = (fun y => if y = tri bs p then some (.slice A6 ((cJ bs (tri bs p) p).length + 1) c6) else if y = tri bs p then some v0 else PlM G bs p y) := by
   funext y
   unfold PlM PlV
   rw [e y]
   by_cases hy : y = tri bs p
   ·
    simp only [if_pos hy]
    rw [if_neg jp, za]
    rfl
   simp only [if_neg hy]
  rw [e2]
  exact hM7
 ·
  rw [e y]
  by_cases hy : y = tri bs p
  ·
   simp only [if_pos hy, za, zp, zbx, nO]
   exact ho6.frm hf7 (fun z hz hx => rowAt ho6 (by rw [zh] at hx; rw [← hx]; exact hz))
  simp only [if_neg hy]
  exact (own6 y hy).frm hf7 (fun z hz hx => rowAt (own6 y hy) (by rw [zh] at hx; rw [← hx]; exact hz))
 ·
  by_cases hy : y = tri bs p
  · rw [if_pos hy]; exact up6
  rw [if_neg hy]; exact h.up y
 ·
  rw [e y] at hy
  by_cases hy2 : y = tri bs p
  ·
   rw [if_pos hy2] at hy
   simp at hy
  rw [if_neg hy2] at hy ⊢
  exact h.nil y hy
 by_cases h1 : x = tri bs p
 ·
  rw [if_pos h1] at hz
  rw [if_neg (fun h2 => hxy (h1.trans h2.symm))]
  rcases hob6 with h3 | h3
  ·
   dsimp only at hz
   rw [h3] at hz
   exact h.apart _ y (fun h2 => hxy (h1.trans h2)) z hz
  dsimp only at hz
  rw [h3, zh] at hz
  intro hx
  have := (h.own y).lt z hx
  omega
 rw [if_neg h1] at hz
 by_cases h2 : y = tri bs p
 ·
  rw [if_pos h2]
  dsimp only
  rcases hob6 with h3 | h3
  ·
   rw [h3]
   exact h.apart x _ h1 z hz
  rw [h3, zh]
  have := (h.own x).lt z hz
  omega
 rw [if_neg h2]
 exact h.apart x y hxy z hz
structure IsF (w0 w : World) (gf gm : Nat) (Ab : Option Addr) (cb : Nat) (bs : List Nat) (u : Nat) (F : Nat × Nat × Nat → Option Addr × Nat) : Prop where
 blk : Blk w gf 159 #[.slice Ab bs.length cb, .map (some gm), .int .i64 ((u : Nat) : Int)]
 rd0 : Rd w0 1 Ab bs.length (NB bs)
 below : Below w0.heap.size w0 w
 hgf : w0.heap.size ≤ gf
 pl : IsP w0.heap.size w gm bs u F
theorem IsF.rd {w0 w : World} {gf gm cb u : Nat} {Ab : Option Addr} {bs : List Nat} {F : Nat × Nat × Nat → Option Addr × Nat} (h : IsF w0 w gf gm Ab cb bs u F) : Rd w 1 Ab bs.length (NB bs) := h.rd0.belowW h.below
theorem IsF.frm {w0 w w' : World} {gf gm cb u : Nat} {Ab : Option Addr} {bs : List Nat} {F : Nat × Nat × Nat → Option Addr × Nat} {S : List Nat} (h : IsF w0 w gf gm Ab cb bs u F) (f : Frm S w w') (hS : ∀ x ∈ S, w.heap.size ≤ x) : IsF w0 w' gf gm Ab cb bs u F := by
 have h0 := h.below.size
 refine ⟨h.blk.frm f (fun hx => ?_), h.rd0, f.onto h.below (fun x hx => zn h0 (hS x hx)) h0, h.hgf, h.pl.frm f (fun hx => ?_) (fun x z hz hx => ?_)⟩
 · have := hS _ hx; have := h.blk.lt; omega
 · have := hS _ hx; have := h.pl.map.lt; omega
 have := hS _ hx; have := (h.pl.own x).lt z hz; omega
theorem IsF.drawn {w0 w w' : World} {gf gm cb u : Nat} {Ab : Option Addr} {bs : List Nat} {F : Nat × Nat × Nat → Option Addr × Nat} (h : IsF w0 w gf gm Ab cb bs u F) (f : qQ w w') : IsF w0 w' gf gm Ab cb bs u F := h.frm f.frm jp
theorem IsF.frm2 {w0 w w' : World} {gf gm cb u : Nat} {Ab : Option Addr} {bs : List Nat} {F : Nat × Nat × Nat → Option Addr × Nat} {S : List Nat} (h : IsF w0 w gf gm Ab cb bs u F) (f : Frm S w w') (h1 : gf ∉ S) (h2 : gm ∉ S) (h3 : ∀ x, ∀ z ∈ ob (F x).1, z ∉ S) (h4 : ∀ x ∈ S, w0.heap.size ≤ x) : IsF w0 w' gf gm Ab cb bs u F :=
 ⟨h.blk.frm f h1, h.rd0, f.onto h.below h4 h.below.size, h.hgf, h.pl.frm f h2 h3⟩
theorem IsF.set {w0 w w' : World} {gf gm cb u b : Nat} {Ab : Option Addr} {bs : List Nat} {F : Nat × Nat × Nat → Option Addr × Nat} {t : TypeId} {cs : Array Value} (h : IsF w0 w gf gm Ab cb bs u F) (f : Frm [b] w w') (hb : Blk w b t cs) (h1 : 3 ≠ t) (h2 : 159 ≠ t) (hB : w0.heap.size ≤ b) : IsF w0 w' gf gm Ab cb bs u F :=
 ⟨h.blk.frm f (fun hx => h.blk.ne hb h2 (by simpa using hx)), h.rd0, f.onto h.below (by simpa using hB) h.below.size, h.hgf, h.pl.frm f (h.pl.blk hb h1).1 (h.pl.blk hb h1).2⟩
def Kpf (gf : Nat) (F : Nat × Nat × Nat → Option Addr × Nat) (w w' : World) : Prop := w.heap.size ≤ w'.heap.size ∧ ∀ b t cs, b ≠ gf → (∀ y, b ∉ ob (F y).1) → Blk w b t cs → Blk w' b t cs
theorem Kpf.refl (gf : Nat) (F : Nat × Nat × Nat → Option Addr × Nat) (w : World) : Kpf gf F w w := ⟨zk _, fun _ _ _ _ _ h => h⟩
theorem Kpf.step {gf : Nat} {F : Nat × Nat × Nat → Option Addr × Nat} {a b c : World} {S : List Nat} (h : Kpf gf F a b) (f : Frm S b c) (hS : ∀ x ∈ S, x = gf ∨ a.heap.size ≤ x ∨ (∃ y, x ∈ ob (F y).1) ∨ (∀ t cs, ¬ Blk b x t cs)) : Kpf gf F a c :=
 ⟨zn h.1 f.size, fun x t cs h1 h2 h3 => (h.2 x t cs h1 h2 h3).frm f (fun hx => by
  rcases hS x hx with h4 | h4 | ⟨y, h4⟩ | h4
  · exact h1 h4
  · have := h3.lt; omega
  · exact h2 y h4
  exact h4 t cs (h.2 x t cs h1 h2 h3))⟩
theorem Kpf.mp {gf g : Nat} {F : Nat × Nat × Nat → Option Addr × Nat} {a b c : World} {M : Nat × Nat × Nat → Option Value} (h : Kpf gf F a b) (f : Frm [g] b c) (hm : MpF Tryz.prog 201 K3 b g M) : Kpf gf F a c := h.step f fun x hx => .inr (.inr (.inr fun t cs h3 => by
 rw [zh] at hx
 subst hx
 exact hm.ne_blk h3 rfl))
theorem Kpf.blk {w0 w w' : World} {gf gm cb u b : Nat} {Ab : Option Addr} {bs : List Nat} {F : Nat × Nat × Nat → Option Addr × Nat} {t : TypeId} {cs : Array Value} (k : Kpf gf F w w') (h : IsF w0 w gf gm Ab cb bs u F) (hb : Blk w b t cs) (h1 : 3 ≠ t) (h2 : 159 ≠ t) : Blk w' b t cs :=
 k.2 b t cs (fun e => h.blk.ne hb h2 e.symm) (fun y => (h.pl.own y).ne_blk hb h1) hb
theorem Kpf.own {w0 w w' : World} {gf gm cb u : Nat} {Ab : Option Addr} {bs : List Nat} {F : Nat × Nat × Nat → Option Addr × Nat} {e size n cap : Nat} {A : Option Addr} {xs : List Value} (k : Kpf gf F w w') (h0 : IsF w0 w gf gm Ab cb bs u F) (h : Own w e size A n cap xs) (h1 : 3 ≠ e) (h2 : 159 ≠ e) : Own w' e size A n cap xs := by
 refine ⟨h.1, ?_⟩
 rcases h.cases with ⟨rfl, rfl, rfl, _⟩ | ⟨g, cur, rfl, hb, hn, hc, hs, ht⟩
 · exact .inl ⟨rfl, rfl⟩
 exact .inr ⟨g, cap, cur, rfl, zak _, k.blk h0 hb h1 h2, hn, hc, hs, ht⟩
def uO (F G : Nat × Nat × Nat → Option Addr × Nat) (n : Nat) : Prop := ∀ y, ∀ z ∈ ob (G y).1, z ∈ ob (F y).1 ∨ n ≤ z
theorem Below.set {B : Nat} {w0 w w' : World} {g : Nat} (h : Below B w0 w) (f : Frm [g] w w') (hg : B ≤ g) (hB : B ≤ w.heap.size) : Below B w0 w' := f.onto h (by simpa using hg) hB
theorem mK {bs : List Nat} (h : ∀ b ∈ bs, b < 256) (i : Nat) : bs.getD i 0 < 256 := by
 rw [ze]
 cases hi : bs[i]? with
 | none => simp
 | some x => exact h x (zdh hi)
theorem xV {w : World} {ad : Addr} {bs : List Nat} {p : Nat} (h : Rd w 1 (some ad) bs.length (NB bs)) (hp : p + 3 ≤ bs.length) : ∀ (j : Nat) (v : Value), (NB [bs.getD p 0, bs.getD (p + 1) 0, bs.getD (p + 2) 0])[j]? = some v → w.cell? ((ad.add (p * 1)).add j) = some v := by
 obtain ⟨ad', e, _, hc⟩ := h.2 jo
 cases e
 intro j v hv
 have hj : j < 3 := (List.getElem?_eq_some_iff.1 hv).1
 have e1 : (ad.add (p * 1)).add j = ad.add (p + j) := by rw [zdq]; exact add_add ad p j
 rw [e1]
 refine hc (p + j) v ?_
 rw [mS bs (p + j) jo, ← hv]
 rcases (by omega : j = 0 ∨ j = 1 ∨ j = 2) with rfl | rfl | rfl <;> rfl
theorem qKe {bs : List Nat} {f a m : Nat} (h : ¬ (a < bs.length ∧ bs.getD f 0 = bs.getD a 0)) : lgM bs f a m = 0 := by
 cases m with
 | zero => rfl
 | succ m => rw [lgM, if_neg h]
theorem qMy {bs : List Nat} {f a m : Nat} (h1 : a < bs.length) (h2 : bs.getD f 0 = bs.getD a 0) (hm : 0 < m) : lgM bs f a m = lgM bs (f + 1) (a + 1) (m - 1) + 1 := by
 obtain ⟨k, rfl⟩ : ∃ k, m = k + 1 := ⟨m - 1, jo⟩
 rw [lgM, if_pos ⟨h1, h2⟩]
 rfl
theorem qMz (w0 w : World) (gf gm cb u f a : Nat) (Ab : Option Addr) (bs : List Nat) (F : Nat × Nat × Nat → Option Addr × Nat) (hf : f < a) (ha : a ≤ bs.length) (hl : bs.length ≤ 1000000) (hF : IsF w0 w gf gm Ab cb bs u F) :
  Calls Tryz.prog 121 #[.pointer (some ⟨gf, 0, none⟩), .int .i64 ((f : Nat) : Int), .int .i64 ((a : Nat) : Int)] w fun e w' => e = .returned (.int .i64 ((longM bs f a : Nat) : Int)) ∧ qQ w w' := by
 have hb := hF.blk
 have hrd := hF.rd
 obtain ⟨ad, hA, hadlt, hadc⟩ := hrd.2 jo
 subst hA
 refine VC.calls (nt := 45) (res := #[.tmp 6]) Tryz.func121 rfl Tryz.ntmps121 Tryz.results121 rfl ?_
 refine jS (jR (jz 0 (jO (jN (jv3 0 1 2 ?_)))))
 refine jS (jR (jz 0 (jO (jN (jS (jB ?_))))))
 refine VC.loop (σ := Nat) (fun s => [(0, .pointer (some ⟨gf, 0, none⟩)), (1, .int .i64 ((f : Nat) : Int)), (2, .int .i64 ((a : Nat) : Int)), (7, .int .i64 ((s : Nat) : Int))]) (fun s wr => s ≤ 258 ∧ a + s ≤ bs.length ∧ longM bs f a = s + lgM bs (f + s) (a + s) (258 - s) ∧ qQ w wr) (fun s => 258 - s) 0 (js4 rfl rfl rfl rfl) ⟨jo, jo, by simp [longM], qQ.refl w⟩ ?_
 rintro n wr ⟨hn, hna, hlg, hd⟩
 have hbr := hb.drawn hd
 have hcell : ∀ j, j < bs.length → wr.cell? (ad.add j) = some (.int .u8 ((bs.getD j 0 : Nat) : Int)) := fun j hj => by
  obtain ⟨m, rfl⟩ := hd
  exact hadc j _ (mS bs j hj)
 refine jS (jS ?_)
 refine VC.splitR [(0, .pointer (some ⟨gf, 0, none⟩)), (1, .int .i64 ((f : Nat) : Int)), (2, .int .i64 ((a : Nat) : Int)), (7, .int .i64 ((n : Nat) : Int))] (qQ w) 41 (.bool (decide (a + n < bs.length ∧ n < 258 ∧ bs.getD (f + n) 0 = bs.getD (a + n) 0))) ?_ ?_
 ·
  refine VC.still jK jK ?_
  refine qM ?_
  refine qM ?_
  refine qE (Run.bin rfl rfl (Bin.add_i64 _ _ jo)) ?_
  refine qM ?_
  refine qE (Run.nilck rfl) ?_
  refine qE (Run.fieldAddr rfl zbs rfl zo jd) ?_
  refine qE (Run.load rfl zx (hbr.cell 0)) ?_
  refine qE (Run.lenS rfl zf) ?_
  refine qE (Run.bin rfl rfl (Bin.lssN _ _)) ?_
  by_cases hs16 : a + n < bs.length
  ·
   refine qM ?_
   refine qG (Run.mv rfl) ?_
   refine qG (Run.bin rfl rfl (Bin.lssN _ 258)) ?_
   by_cases hs19 : n < 258
   ·
    refine qE (Run.pickT rfl rfl au) ?_
    refine qM ?_
    refine qG (Run.mv rfl) ?_
    refine qG (Run.nilck rfl) ?_
    refine qG (Run.fieldAddr rfl zbs rfl zo jd) ?_
    refine qG (Run.load rfl zx (hbr.cell 0)) ?_
    refine qG (Run.mv rfl) ?_
    refine qG (Run.mv rfl) ?_
    refine qG (Run.bin rfl rfl (Bin.add_i64 _ _ jo)) ?_
    refine qG (Run.index1 _ rfl rfl zf zad jo) ?_
    refine qG (Run.load rfl zdr (hcell _ jo)) ?_
    refine qG (Run.mv rfl) ?_
    refine qG (Run.nilck rfl) ?_
    refine qG (Run.fieldAddr rfl zbs rfl zo jd) ?_
    refine qG (Run.load rfl zx (hbr.cell 0)) ?_
    refine qG (Run.mv rfl) ?_
    refine qG (Run.mv rfl) ?_
    refine qG (Run.bin rfl rfl (Bin.add_i64 _ _ jo)) ?_
    refine qG (Run.index1 _ rfl rfl zf zad jo) ?_
    refine qG (Run.load rfl zdr (hcell _ jo)) ?_
    refine qG (Run.bin rfl rfl (Bin.eqlN _ _)) ?_
    by_cases hs40 : bs.getD (f + n) 0 = bs.getD (a + n) 0
    ·
     refine qE (Run.pickT rfl rfl au) ?_
     refine qH.nil ?_
     refine jN ⟨(js5 (jC (by simp [*])) rfl rfl rfl rfl), (hd.trans (qQ.drew _))⟩
    refine qE (Run.pickT rfl rfl au) ?_
    refine qH.nil ?_
    refine jN ⟨(js5 (jC (by simp [*])) rfl rfl rfl rfl), (hd.trans (qQ.drew _))⟩
   refine qE (Run.pickT rfl rfl au) ?_
   refine qM ?_
   refine qU ?_
   refine qU ?_
   refine qU ?_
   refine qU ?_
   refine qU ?_
   refine qU ?_
   refine qU ?_
   refine qU ?_
   refine qU ?_
   refine qU ?_
   refine qU ?_
   refine qU ?_
   refine qU ?_
   refine qU ?_
   refine qU ?_
   refine qU ?_
   refine qU ?_
   refine qU ?_
   refine qU ?_
   refine qE (Run.pickF rfl rfl au) ?_
   refine qH.nil ?_
   refine jN ⟨(js5 (jC (by simp [*])) rfl rfl rfl rfl), (hd.trans (qQ.drew _))⟩
  refine qM ?_
  refine qU ?_
  refine qU ?_
  refine qE (Run.pickF rfl rfl au) ?_
  refine qM ?_
  refine qU ?_
  refine qU ?_
  refine qU ?_
  refine qU ?_
  refine qU ?_
  refine qU ?_
  refine qU ?_
  refine qU ?_
  refine qU ?_
  refine qU ?_
  refine qU ?_
  refine qU ?_
  refine qU ?_
  refine qU ?_
  refine qU ?_
  refine qU ?_
  refine qU ?_
  refine qU ?_
  refine qU ?_
  refine qE (Run.pickF rfl rfl au) ?_
  refine qH.nil ?_
  refine jN ⟨(js5 (jC (by simp [*])) rfl rfl rfl rfl), (hd.trans (qQ.drew _))⟩
 intro Γ wr2 hΓ hd2
 refine jN (VC.sub _ hΓ ?_)
 refine jD rfl (fun hc1 => ?_) fun hc1 => ?_
 ·
  refine jQ (jN (jv4 0 1 2 7 ?_))
  refine jB (jR (jm rfl (jb rfl rfl (Bin.add_i64 _ 1 jo) (ja rfl (jO ?_)))))
  refine qJ (jN ⟨n + 1, (js4 rfl rfl rfl rfl), ?_, ?_⟩)
  ·
   obtain ⟨h1, h2, h3⟩ := hc1
   refine ⟨jo, jo, ?_, hd2⟩
   rw [hlg, qMy h1 h3 jo, show f + (n + 1) = f + n + 1 by omega, show a + (n + 1) = a + n + 1 by omega, show 258 - (n + 1) = 258 - n - 1 by omega]
   omega
  first | omega | (dsimp only; omega)
 refine jX ?_
 refine qZ (qZ (qW ?_))
 refine jN (jv1 7 ?_)
 refine jS (jR (jm rfl (ja rfl (jO (jN (jv1 6 ?_))))))
 refine jT ?_
 refine qT rfl ?_
 refine ⟨?_, hd2⟩
 rw [hlg]
 by_cases h2 : n < 258
 ·
  rw [qKe (fun h => hc1 ⟨h.1, h2, h.2⟩)]
  rfl
 rw [show 258 - n = 0 by omega]
 rfl
theorem qM0 (w0 w : World) (gf gm cb u a : Nat) (Ab : Option Addr) (bs : List Nat) (F : Nat × Nat × Nat → Option Addr × Nat) (hu : u ≤ a) (hl : bs.length ≤ 1000000) (hcb : bs.length ≤ cb) (ha : a ≤ bs.length) (hB : ∀ b ∈ bs, b < 256) (hF : IsF w0 w gf gm Ab cb bs u F) :
  Calls Tryz.prog 119 #[.pointer (some ⟨gf, 0, none⟩), .int .i64 ((a : Nat) : Int)] w fun e w' => e = .returned (.tuple #[]) ∧ Kpf gf F w w' ∧ ∃ F', uO F F' w.heap.size ∧ IsF w0 w' gf gm Ab cb bs a F' := by
 refine VC.calls (nt := 59) (res := #[]) Tryz.func119 rfl Tryz.ntmps119 Tryz.results119 rfl ?_
 refine jB ?_
 refine VC.loop (σ := Nat × (Nat × Nat × Nat → Option Addr × Nat)) (fun s => [(0, .pointer (some ⟨gf, 0, none⟩)), (1, .int .i64 ((a : Nat) : Int))]) (fun s wr => s.1 ≤ a ∧ IsF w0 wr gf gm Ab cb bs s.1 s.2 ∧ Kpf gf F w wr ∧ uO F s.2 w.heap.size) (fun s => a - s.1) (u, F) (js2 rfl rfl) ⟨hu, hF, Kpf.refl gf F w, fun _ _ h => .inl h⟩ ?_
 rintro ⟨p, G⟩ wr ⟨hp, hI, hkp, hro⟩
 dsimp only at hp hI
 have hb := hI.blk
 have hpl := yY bs (tri bs p) p
 refine jS (jS (jR (jm rfl (je (Run.nilck rfl) (jf rfl zbs rfl zc (jl rfl zg (hb.cell 2) (jm rfl (jb rfl rfl (Bin.lssN _ _) (jO (jN (jv3 0 1 10 ?_)))))))))))
 refine jD rfl (fun hc1 => ?_) fun hc1 => ?_
 ·
  refine jQ (jN (jv2 0 1 ?_))
  refine jS (jB (jS ?_))
  refine VC.still jK jK ?_
  refine qM ?_
  refine qE (Run.nilck rfl) ?_
  refine qE (Run.fieldAddr rfl zbs rfl zc jd) ?_
  refine qE (Run.load rfl zg (hb.cell 2)) ?_
  refine qE (Run.bin rfl rfl (Bin.add_i64 _ 3 jo)) ?_
  refine qM ?_
  refine qE (Run.nilck rfl) ?_
  refine qE (Run.fieldAddr rfl zbs rfl zo jd) ?_
  refine qE (Run.load rfl zx (hb.cell 0)) ?_
  refine qE (Run.lenS rfl zf) ?_
  refine qE (Run.bin rfl rfl (Bin.leqN _ _)) ?_
  refine qH.nil ?_
  refine jN (jv3 0 1 28 ?_)
  refine VC.meet (σ := Nat × Nat × Nat → Option Addr × Nat) (fun s => [(0, .pointer (some ⟨gf, 0, none⟩)), (1, .int .i64 ((a : Nat) : Int))]) (fun s wr => Blk wr gf 159 #[.slice Ab bs.length cb, .map (some gm), .int .i64 ((p : Nat) : Int)] ∧ Below w0.heap.size w0 wr ∧ IsP w0.heap.size wr gm bs (p + 1) s ∧ Kpf gf F w wr ∧ uO F s w.heap.size) ?_ ?_
  ·
   refine jD rfl (fun hc2 => ?_) fun hc2 => ?_
   ·
    refine jS ?_
    refine VC.heldL 17 (fun v => IsF w0 v gf gm Ab cb bs p G) jK ?_
    have hI3 := (hI.drawn (qQ.drew _)).drawn (qQ.drew _)
    obtain ⟨ad, hA, hadlt, hadc⟩ := hI3.rd.2 jo
    subst hA
    have hS : (fun v => IsF w0 v gf gm (some ad) cb bs p G) wr.drew.drew := hI3
    have hcut : cC (some ad) cb p 1 = some (ad.add (p * 1)) := by unfold cC; rw [if_neg jo]; rfl
    refine jH 0 rfl hS (fun w0 hw0 => Run.mv rfl) ?_
    refine jH 1 rfl hS (fun w0 hw0 => Run.nilck rfl) ?_
    refine jH 2 rfl hS (fun w0 hw0 => Run.fieldAddr rfl zbs rfl zo jd) ?_
    refine jH 3 rfl hS (fun w0 hw0 => Run.load rfl zx (hw0.blk.cell 0)) ?_
    refine jH 4 rfl hS (fun w0 hw0 => Run.mv rfl) ?_
    refine jH 5 rfl hS (fun w0 hw0 => Run.nilck rfl) ?_
    refine jH 6 rfl hS (fun w0 hw0 => Run.fieldAddr rfl zbs rfl zc jd) ?_
    refine jH 7 rfl hS (fun w0 hw0 => Run.load rfl zg (hw0.blk.cell 2)) ?_
    refine jH 8 rfl hS (fun w0 hw0 => Run.mv rfl) ?_
    refine jH 9 rfl hS (fun w0 hw0 => Run.nilck rfl) ?_
    refine jH 10 rfl hS (fun w0 hw0 => Run.fieldAddr rfl zbs rfl zc jd) ?_
    refine jH 11 rfl hS (fun w0 hw0 => Run.load rfl zg (hw0.blk.cell 2)) ?_
    refine jH 12 rfl hS (fun w0 hw0 => Run.bin rfl rfl (Bin.add_i64 _ 3 jo)) ?_
    refine jH 13 rfl hS (fun w0 hw0 => Run.sliceS _ _ rfl zf zad (evB.some_ rfl) (evB.some_ rfl) jo jo) ?_
    rw [hcut]
    refine jH 14 rfl hS (fun w0 hw0 => Run.toArr rfl zfq jo) ?_
    refine jH 15 rfl hS (fun w0 hw0 => Run.loadA (cs := NB [bs.getD p 0, bs.getD (p + 1) 0, bs.getD (p + 2) 0]) rfl Tryz.isAgg201 Tryz.sizeOf201 (xV hw0.rd jo) rfl) ?_
    refine qK.m 16 rfl jK (qV.alloc qTq) trivial rfl rfl ?_
    rintro _ w2 ⟨rfl, hF2⟩
    have hI4 := hI3.frm hF2.frm jp
    refine ⟨hI4, ?_⟩
    refine qK.stL rfl jK (qR.storeA rfl rfl Tryz.sizeOf201 hF2.blk rfl (eP _)) trivial rfl ?_
    rintro w3 ⟨hk3, hf3, hs3⟩
    have hI5 : IsF w0 w3 gf gm (some ad) cb bs p G := hI4.set hf3 hF2.blk jd jd (by have := hI3.below.size; omega)
    generalize hgk : (World.drew (World.drew wr)).heap.size = gk at hk3 hf3 ⊢
    refine qK.done jK ?_
    refine jN (jv3 0 1 4 ?_)
    refine VC.heldL 14 (fun v => Blk v gf 159 #[.slice (some ad) bs.length cb, .map (some gm), .int .i64 ((p : Nat) : Int)] ∧ Blk v gk 201 #[.int .u8 ((bs.getD p 0 : Nat) : Int), .int .u8 ((bs.getD (p + 1) 0 : Nat) : Int), .int .u8 ((bs.getD (p + 2) 0 : Nat) : Int)]) jK ?_
    have hI6 := hI5.drawn (qQ.drew _)
    have hk6 := hk3.drawn (qQ.drew _)
    have hS : (fun v => Blk v gf 159 #[.slice (some ad) bs.length cb, .map (some gm), .int .i64 ((p : Nat) : Int)] ∧ Blk v gk 201 #[.int .u8 ((bs.getD p 0 : Nat) : Int), .int .u8 ((bs.getD (p + 1) 0 : Nat) : Int), .int .u8 ((bs.getD (p + 2) 0 : Nat) : Int)]) w3.drew := ⟨hI6.blk, hk6⟩
    refine jH 0 rfl hS (fun w0 hw0 => Run.mv rfl) ?_
    refine jH 1 rfl hS (fun w0 hw0 => Run.nilck rfl) ?_
    refine jH 2 rfl hS (fun w0 hw0 => Run.fieldAddr rfl zbs rfl Tryz.sizeOf157 jd) ?_
    refine jH 3 rfl hS (fun w0 hw0 => Run.load rfl Tryz.isAgg157 (hw0.1.cell 1)) ?_
    refine jH 4 rfl hS (fun w0 hw0 => Run.loadB rfl Tryz.isAgg201 Tryz.sizeOf201 (hw0.2) rfl) ?_
    refine qK.r1 5 rfl jK hS (Run.mv rfl) trivial rfl rfl ?_
    refine qK.r1 6 rfl jK hS (Run.nilck rfl) trivial rfl rfl ?_
    refine qK.r1 7 rfl jK hS (Run.fieldAddr rfl zbs rfl zc jd) trivial rfl rfl ?_
    refine qK.r1 8 rfl jK hS (Run.load rfl zg (hS.1.cell 2)) trivial rfl rfl ?_
    refine qK.m 9 rfl jK (qV.buildS1 rfl zd zc fS jd jd rfl rfl) trivial rfl rfl ?_
    rintro _ w4 ⟨rfl, hF4⟩
    have hI7 := hI6.frm hF4.frm jp
    have hk7 := hk6.frm hF4.frm jp
    refine ⟨⟨hI7.blk, hk7⟩, ?_⟩
    obtain ⟨kl, hkey⟩ := key3 (tri bs p) (mK hB p) (mK hB (p + 1)) (mK hB (p + 2))
    have hrd7 : Rd w4 1 (some ⟨w3.drew.heap.size, 0, none⟩) 1 (NI [p]) := Rd.of_blk hF4.blk rfl
    refine qK.m 10 rfl jK (qV.mapEntry (x := tri bs p) rfl rfl hI7.pl.map law3 qMw Tryz.underlying157 qH1 hkey) trivial rfl rfl ?_
    rintro r w5 ⟨n, hr, hE5, hf5, hs5⟩
    rw [hI7.pl.getD] at hr
    subst hr
    have hS := And.intro (hI7.blk.frm hf5 (by simpa using (hI7.pl.map.ne_blk hI7.blk).symm)) (hk7.frm hf5 (by simpa using (hI7.pl.map.ne_blk hk7).symm))
    refine ⟨hS, ?_⟩
    have ho5 := (hI7.pl.own (tri bs p)).frm hf5 (fun z hz hx => hI7.pl.row (hI7.pl.own (tri bs p)) (by rw [zh] at hx; rw [← hx]; exact hz))
    have hrd5 := hrd7.frm hf5 (by simpa [ob] using (hI7.pl.map.ne_blk hF4.blk).symm)
    refine jH 11 rfl hS (fun w0 hw0 => Run.extract rfl rfl) ?_
    refine jH 13 rfl hS (fun w0 hw0 => Run.extract rfl rfl) ?_
    refine qK.m 12 rfl jK (qV.app rfl rfl zd (dX) rfl jd ho5 hrd5 (fH [p]) jo jo) trivial rfl rfl ?_
    rintro _ w6 ⟨A6, c6, rfl, ho6, hf6, hob6⟩
    have hgx := hI7.pl.row (hI7.pl.own (tri bs p))
    have hE6 := hE5.frm hf6 hgx
    have hb6 := hS.1.frm hf6 (ho5.ne_blk hS.1 jd)
    refine ⟨⟨hb6, hS.2.frm hf6 (ho5.ne_blk hS.2 jd)⟩, ?_⟩
    refine qK.stL rfl jK (qR.entryStore rfl rfl rfl hE6 qMw) trivial rfl ?_
    rintro w7 ⟨hM7, hf7, hs7⟩
    have hbelow : Below w0.heap.size w0 w7 := by
     have h5 := hf5.onto hI7.below (by simpa using hI7.pl.hgm) hI7.below.size
     have h6 := hf6.onto h5 (hI7.pl.up _) h5.size
     exact hf7.onto h6 (by simpa using hI7.pl.hgm) h6.size
    refine qK.done jK ?_
    refine jN ⟨(fun y => if y = tri bs p then (A6, c6) else G y), (js2 rfl rfl), ?_⟩
    refine ⟨hb6.frm hf7 (by simpa using (hE6.mp.ne_blk hb6).symm), hbelow, hI7.pl.put hc2 hI7.below.size hf5 hs5 ho6 hf6 hob6 hE6.mp hM7 hf7, ?_, ?_⟩
    ·
     have k3 : Kpf gf F w w3 := (hkp.step ((qQ.drew wr).frm.trans ((qQ.drew _).frm.trans hF2.frm jp) jp) jp).step hf3 (fun x hx => .inr (.inl (by rw [zh] at hx; rw [hx, ← hgk]; exact hkp.1)))
     refine (((k3.step ((qQ.drew w3).frm.trans hF4.frm jp) jp).mp hf5 hI7.pl.map).step hf6 (fun x hx => ?_)).mp hf7 hE6.mp
     rcases hro _ x hx with h | h
     · exact .inr (.inr (.inl ⟨_, h⟩))
     exact .inr (.inl h)
    intro y z hz
    by_cases hy : y = tri bs p
    ·
     simp only [if_pos hy] at hz
     rcases hob6 with h | h
     ·
      rw [h] at hz
      rw [hy]
      exact hro _ z hz
     rw [h, zh] at hz
     have h1 := hkp.1
     have h2 := hF2.size
     have h3 := hF4.size
     have h5 := hf3.size
     have e1 : wr.drew.drew.heap.size = wr.heap.size := rfl
     have e2 : w3.drew.heap.size = w3.heap.size := rfl
     exact .inr jo
    simp only [if_neg hy] at hz
    exact hro y z hz
   refine jQ ?_
   refine jN ⟨G, (js2 rfl rfl), ?_⟩
   have hI8 := hI.drawn (qQ.drew _)
   exact ⟨hI8.blk, hI8.below, hI8.pl.same jo, hkp.step (qQ.drew wr).frm jp, hro⟩
  rintro G2 w9 ⟨hb9, hbel9, hP9, hkp9, hro9⟩ Γ hΓ
  refine qJ (jN (VC.sub _ hΓ ?_))
  refine jR (jm rfl (je (Run.nilck rfl) (jf rfl zbs rfl zc (jl rfl zg (hb9.cell 2) (jb rfl rfl (Bin.add_i64 _ 1 jo) (je (Run.nilck rfl) (jf rfl zbs rfl zc ?_)))))))
  refine Ops.st (qR.store rfl rfl zc hb9 rfl rfl) ?_
  rintro w10 ⟨hb10, hf10, hs10⟩
  refine jO ?_
  refine jN ⟨(p + 1, G2), (js2 rfl rfl), ?_, ?_⟩
  · refine ⟨by dsimp only; omega, ⟨hb10, hF.rd0, hf10.onto hbel9 (by simpa using hF.hgf) hbel9.size, hF.hgf, hP9.frm hf10 (hP9.blk hb9 jd).1 (hP9.blk hb9 jd).2⟩, hkp9.step hf10 jp, hro9⟩
  first | omega | (dsimp only; omega)
 refine jX ?_
 refine qZ (qZ (qW ?_))
 refine eM ?_
 have hpa : p = a := jo
 subst hpa
 exact ⟨rfl, hkp, G, hro, hI⟩
end
section
open Go.RowKit
theorem Run.minI {P : Program} {Γ : Env} {w : World} {dst : Option Tmp} {pos : String} {after : Array Edge} {g : Option (Nat × Bool)} {t : TypeId} {x y : Operand} {k : IntKind} {a b : Int} {ts : Array TypeId} (hx : ev? Γ x = some (.int k a)) (hy : ev? Γ y = some (.int k b)) :
  Run P ⟨dst, .call ⟨.builtin .min, #[x, y], ts⟩, t, pos, after, g⟩ Γ w (.int k (if b < a then b else a)) := fun ρ hρ => by
 simp [execOp, resolve, invoke, builtin, Builtin.min_, Builtin.min2, hρ _ _ hx, hρ _ _ hy]
def wB (ds : List Nat) : List Deferred := ds.map fun d => { target := .collected d, args := #[] }
abbrev DQ := Exit → List Nat → Env → World → Prop
def qGs (m : Nat) (Q : DQ) (e : Exit) (a : Act) (w : World) : Prop := ∃ ds Γ, Sat ⟨m, wB ds, none⟩ Γ a ∧ Q e ds Γ w
def DV (P : Program) (m : Nat) (c : Code) (ds : List Nat) (Γ : Env) (w : World) (Q : DQ) : Prop := ∀ a, Sat ⟨m, wB ds, none⟩ Γ a → ∀ k, c.wpIn (wd none) k P (qGs m Q) a w
def zO (K : List Nat → Env → World → Prop) (Q : DQ) : DQ
 | .normal, ds, Γ, w => K ds Γ w
 | e, ds, Γ, w => Q e ds Γ w
def vQ (id : Nat) (Q : DQ) : DQ
 | .exit i, ds, Γ, w => if i = id then Q .normal ds Γ w else Q (.exit i) ds Γ w
 | e, ds, Γ, w => Q e ds Γ w
section
variable {P : Program} {m : Nat} {ds : List Nat} {Γ : Env} {w : World} {Q : DQ} {K : List Nat → Env → World → Prop} {i id : Nat}
theorem cH (h : K ds Γ w) : zO K Q .normal ds Γ w := h
theorem qYd (h : Q .ret ds Γ w) : zO K Q .ret ds Γ w := h
theorem qYe (h : Q (.exit i) ds Γ w) : zO K Q (.exit i) ds Γ w := h
theorem yM (h : Q .normal ds Γ w) : vQ id Q .normal ds Γ w := h
theorem qKf (h : Q .normal ds Γ w) : vQ id Q (.exit id) ds Γ w := by simp only [vQ, if_true]; exact h
theorem DV.vc {c : Code} (h : VC P ⟨m, wB ds, none⟩ c Γ w (fun e Γ' w' => Q e ds Γ' w')) : DV P m c ds Γ w Q := fun a hs k =>
 wpIn_mono (h a hs k) fun _ _ _ ⟨Γ', hs', q⟩ => ⟨ds, Γ', hs', q⟩
theorem DV.sub {c : Code} (Γ' : Env) (hs : Sub Γ Γ') (h : DV P m c ds Γ' w Q) : DV P m c ds Γ w Q := fun a ha => h a (ha.sub hs)
theorem DV.seq {x y : Code} (h : DV P m x ds Γ w (zO (fun ds' Γ' w' => DV P m y ds' Γ' w' Q) Q)) : DV P m (.seq x y) ds Γ w Q := by
 intro a hs k
 refine wpIn_seq (wpIn_mono (h a hs k) ?_)
 intro e a' w' hq
 obtain ⟨ds', Γ', hs', q⟩ := hq
 cases e with
 | normal => exact q a' hs' k
 | exit id => exact ⟨ds', Γ', hs', q⟩
 | goto l => exact ⟨ds', Γ', hs', q⟩
 | ret => exact ⟨ds', Γ', hs', q⟩
 | panic c => exact ⟨ds', Γ', hs', q⟩
 | outgrown => exact ⟨ds', Γ', hs', q⟩
theorem DV.block {c : Code} (h : DV P m c ds Γ w (vQ id Q)) : DV P m (.block id c) ds Γ w Q := by
 intro a hs k
 refine wpIn_block (wpIn_mono (h a hs k) ?_)
 intro e a' w' hq
 obtain ⟨ds', Γ', hs', q⟩ := hq
 cases e with
 | normal => exact ⟨ds', Γ', hs', q⟩
 | exit i =>
  simp only [vQ] at q
  by_cases hi : i = id
  · rw [if_pos hi] at q; simp only [Exit.inBlock, hi, if_true]; exact ⟨ds', Γ', hs', q⟩
  rw [if_neg hi] at q; simp only [Exit.inBlock, hi, if_false]; exact ⟨ds', Γ', hs', q⟩
 | goto l => exact ⟨ds', Γ', hs', q⟩
 | ret => exact ⟨ds', Γ', hs', q⟩
 | panic c => exact ⟨ds', Γ', hs', q⟩
 | outgrown => exact ⟨ds', Γ', hs', q⟩
theorem DV.condB {c : Operand} {x y : Code} {b : Bool} (hc : ev? Γ c = some (.bool b)) (ht : b = true → DV P m x ds Γ w Q) (hf : b = false → DV P m y ds Γ w Q) : DV P m (.cond c x y) ds Γ w Q := by
 intro a hs k
 have e := hs.fits _ _ hc
 exact wpIn_cond_split e (fun h => ht h a hs k) (fun h => hf h a hs k)
theorem DV.condD {c : Operand} {x y : Code} {p : Prop} [Decidable p] (hc : ev? Γ c = some (.bool (decide p))) (ht : p → DV P m x ds Γ w Q) (hf : ¬ p → DV P m y ds Γ w Q) : DV P m (.cond c x y) ds Γ w Q :=
 DV.condB hc (fun e => ht (of_decide_eq_true e)) (fun e => hf (of_decide_eq_false e))
theorem DV.condT {c : Operand} {x y : Code} {b : Bool} (hc : ev? Γ c = some (.bool b)) (hb : b = true) (h : DV P m x ds Γ w Q) : DV P m (.cond c x y) ds Γ w Q :=
 DV.condB hc (fun _ => h) (fun e => by rw [hb] at e; cases e)
theorem DV.condF {c : Operand} {x y : Code} {b : Bool} (hc : ev? Γ c = some (.bool b)) (hb : b = false) (h : DV P m y ds Γ w Q) : DV P m (.cond c x y) ds Γ w Q :=
 DV.condB hc (fun e => by rw [hb] at e; cases e) (fun _ => h)
theorem DV.loop {σ : Type} {c : Code} (D : σ → List Nat) (env : σ → Env) (inv : σ → World → Prop) (μ : σ → Nat) (s0 : σ) (hD0 : ds = D s0) (hs0 : Sub Γ (env s0)) (h0 : inv s0 w)
  (round : ∀ s w, inv s w → DV P m c (D s) (env s) w (zO (fun ds' Γ' w' => ∃ s', ds' = D s' ∧ Sub Γ' (env s') ∧ inv s' w' ∧ μ s' < μ s) Q)) : DV P m (.loop c) ds Γ w Q := by
 subst hD0
 intro a hs m0
 refine wpIn_loop_ghost (fun k a w => ∃ s, μ s = k ∧ Sat ⟨m, wB (D s), none⟩ (env s) a ∧ inv s w) (μ s0) ⟨s0, rfl, hs.sub hs0, h0⟩ ?_
 rintro k a w ⟨s, rfl, hsa, hi⟩
 refine wpIn_mono (round s w hi a hsa m0) ?_
 intro e a' w' hq
 obtain ⟨ds', Γ', hs', q⟩ := hq
 cases e with
 | normal =>
  obtain ⟨s', rfl, hsub, hinv, hlt⟩ := q
  exact ⟨μ s', hlt, s', rfl, hs'.sub hsub, hinv⟩
 | exit id => exact ⟨ds', Γ', hs', q⟩
 | goto l => exact ⟨ds', Γ', hs', q⟩
 | ret => exact ⟨ds', Γ', hs', q⟩
 | panic c => exact ⟨ds', Γ', hs', q⟩
 | outgrown => exact ⟨ds', Γ', hs', q⟩
end
abbrev eU (w : World) (d : Nat) : Prop := w.heap[d]? = some (.deferred (some []))
theorem eU.frm {w w' : World} {S : List Nat} {d : Nat} (h : eU w d) (k : Frm S w w') (hd : d ∉ S) : eU w' d := (k.block d (Array.getElem?_eq_some_iff.1 h).1 hd).trans h
theorem eU.ne_blk {w : World} {d g : Nat} {t : TypeId} {cs : Array Value} (h : eU w d) (hb : Blk w g t cs) : d ≠ g := by
 rintro rfl
 unfold Blk at hb
 rw [h] at hb
 cases hb
theorem eU.ne_own {w : World} {d e size n c : Nat} {A : Option Addr} {xs : List Value} (h : eU w d) (ho : Own w e size A n c xs) : d ∉ ob A := by
 rcases ho.cases with ⟨rfl, _⟩ | ⟨g, cur, rfl, hb, _⟩
 · simp [ob]
 simp only [ob, zh]
 exact h.ne_blk hb
theorem eU.drew {w : World} {d : Nat} (h : eU w d) : eU w.drew d := h
theorem Frm.putObj (w : World) (l : Nat) (o : Obj) : Frm [l] w (w.putObj l o) :=
 ⟨rfl, rfl, rfl, by simp [World.putObj], fun k _ hk => World.putObj_heap_other (fun e => hk (by simp [e]))⟩
def endD (P : Program) (res : Array ResultVar) (R : Ending → World → Prop) : DQ
 | .normal, ds, Γ, w | .ret, ds, Γ, w => ds.Nodup ∧ (∀ d ∈ ds, eU w d) ∧ ∀ w', Frm ds w w' → gT P res R .ret Γ w'
 | _, _, _, _ => False
section
variable {P : Program} {m : Nat} {ds : List Nat} {Γ : Env} {w : World} {res : Array ResultVar} {R : Ending → World → Prop}
theorem vX (h1 : ds.Nodup) (h2 : ∀ d ∈ ds, eU w d) (h : ∀ w', Frm ds w w' → gT P res R .ret Γ w') : endD P res R .ret ds Γ w := ⟨h1, h2, h⟩
theorem vZ {fn : Func} {tmps : Array Value} {k : Nat} {F : Fence} : ∀ (ds : List Nat) (w : World), ds.Nodup → (∀ d ∈ ds, eU w d) →
  (∀ w', Frm ds w w' → ∃ v, (results fn tmps).run P w' = .ok v w' ∧ R (.returned v) w') → LeavesInM F k P fn tmps R (wB ds) .returning w
 | [], w, _, _, h => by
  obtain ⟨v, h1, h2⟩ := h w (Frm.refl _ _)
  exact ⟨v, h1, h2⟩
 | d :: ds, w, hn, hm, h => by
  obtain ⟨hn1, hn2⟩ := zgm.1 hn
  refine ⟨jp, .inl ⟨d, w.putObj d (.deferred none), rfl, run_takeDeferred (hm d jp), ?_⟩⟩
  have hf := Frm.putObj w d (.deferred none)
  refine vZ ds _ hn2 (fun x hx => ?_) (fun w' hw' => h w' ?_)
  · exact (hm x (by simp [hx])).frm hf (by simp; rintro rfl; exact hn1 hx)
  exact (hf.mono (T := d :: ds) jp).trans hw' (fun x hx => .inl (by simp [hx]))
theorem DV.calls {f : FuncId} {fn : Func} {c : Code} {args : List Value} {nt : Nat} (hf : P.funcs[f]? = some fn) (hb : fn.body = some c) (hn : fn.ntmps = nt) (hr : fn.results = res) (hl0 : Nat.ble args.length nt = true)
  (h : DV P nt c [] (argEnv 0 args) w (endD P res R)) : Calls P f args.toArray w R := by
 have hl : args.length ≤ nt := zfu hl0
 refine callsIn_wide.1 (callsIn_of_wp_marks (F := Fence.wide) (n := 0) hf hb trivial ?_)
 refine wpIn_mono (h _ ?_ 0) ?_
 ·
  refine ⟨?_, rfl, ?_⟩
  ·
   simp only [zhz, zca, zhm, hn]
   omega
  intro t v ht
  obtain ⟨_, h2⟩ := oM args 0 t v ht
  simp only [zcf] at h2
  have hlt : t < args.length := (List.getElem?_eq_some_iff.1 h2).1
  rw [zcd, zfy (by simpa using hlt)]
  simp [h2]
 rintro e a w' ⟨ds, Γ, hs, hq⟩
 have key : ds.Nodup ∧ (∀ d ∈ ds, eU w' d) ∧ (∀ w'', Frm ds w' w'' → gT P res R .ret Γ w'') → LeavesInM Fence.wide 0 P fn a.tmps R a.defers .returning w' := by
  rintro ⟨h1, h2, h3⟩
  rw [hs.defers]
  refine vZ ds w' h1 h2 (fun w'' hw'' => ?_)
  obtain ⟨vs, h4, h5⟩ := gV hs hr (h3 w'' hw'')
  exact ⟨_, h4, h5⟩
 cases e with
 | normal => exact key hq
 | ret => exact key hq
 | _ => exact hq.elim
end
def lN (P : Program) (l : Nat) (args : Array Value) (W : World) (R : Ending → World → Prop) : Prop := ∀ k, YieldAt (wd none) k P l args W R
theorem lN.mono {P : Program} {l : Nat} {args : Array Value} {W : World} {R R' : Ending → World → Prop} (h : lN P l args W R) (hr : ∀ e w', R e w' → R' e w') : lN P l args W R' := fun k =>
 let ⟨fn, tmps, assign, body, h1, h2⟩ := h k; ⟨fn, tmps, assign, body, h1, h2.mono hr⟩
def Off (Bt : List Nat) (W W' : World) : Prop := ∃ C, Frm C W W' ∧ ∀ b ∈ Bt, b ∉ C
theorem Off.blk {Bt : List Nat} {W W' : World} {g : Nat} {t : TypeId} {cs : Array Value} (h : Off Bt W W') (hb : Blk W g t cs) (hg : g ∈ Bt) : Blk W' g t cs := by
 obtain ⟨C, hf, hC⟩ := h
 exact hb.frm hf (hC g hg)
theorem Off.rd {Bt : List Nat} {W W' : World} {size n : Nat} {A : Option Addr} {xs : List Value} (h : Off Bt W W') (hr : Rd W size A n xs) (hg : 0 < n → ∀ x ∈ ob A, x ∈ Bt) : Rd W' size A n xs := by
 obtain ⟨C, hf, hC⟩ := h
 exact hr.frm hf fun hn x hx => hC x (hg hn x hx)
def qRm {α : Type} (P : Program) (gf : FuncId) (lb : Array Value) (encs : α → Array Value) (B Bt : List Nat) (Kp : World → Prop) (xs : List α) : Prop :=
 ∀ (l : Nat) (J Jx : List α → World → Prop) (W : World),
  (∀ pre W W', J pre W → Frm B W W' → J pre W') → (∀ pre W W', Jx pre W → Frm B W W' → Jx pre W') → Kp W →
  (∀ pre x W1, J pre W1 → (pre ++ [x]) <+: xs → lN P l (encs x) W1 fun e W' => Off Bt W1 W' ∧ ((e = .returned (.bool true) ∧ J (pre ++ [x]) W') ∨ (e = .returned (.bool false) ∧ Jx (pre ++ [x]) W'))) →
  J [] W → Calls P gf (#[.func (.yield l) #[] #[]] ++ lb) W fun e W' => (∃ v, e = .returned v) ∧ (J xs W' ∨ ∃ pre, Jx pre W')
theorem Ops.yield {P : Program} {n : NF} {Γ : Env} {w : World} {Q : Exit → Env → World → Prop} {ops : Array Oper} {rest : List Oper} {dst : Option Tmp} {T : TypeId} {pos : String} {after : Array Edge} {l : Nat} {c : Operand} {xs : List Operand} {vs : List Value} {ts : Array TypeId} {R : Ending → World → Prop}
  (hro : n.ro = none) (hc : ev? Γ c = some (.func (.yield l) #[] #[])) (hv : evs Γ xs vs) (hy : lN P l vs.toArray w R) {d : Nat} (hd : dst = some d) (hn : Nat.blt d n.n = true)
  (k : ∀ e w', R e w' → ∃ v, e = .returned v ∧ Ops P n ops rest ((d, v) :: Γ) w' Q) : Ops P n ops (⟨dst, .call ⟨.value c, xs.toArray, ts⟩, T, pos, after, none⟩ :: rest) Γ w Q :=
 Ops.of_wp trivial fun a hs m => by
  rw [hro]
  refine ⟨eI, ?_⟩
  obtain ⟨fn, tmps, assign, body, h1, h2⟩ := hy (m - 1)
  have e1 := hZ hs.fits xs vs hv
  have e2 : a.eval c = .func (.yield l) #[] #[] := hs.fits _ _ hc
  have hrun : (execOp a.eval ⟨dst, .call ⟨.value c, xs.toArray, ts⟩, T, pos, after, none⟩).run P w = .ok (.round l fn tmps assign body) w := by
   simp [execOp, resolve, e2, Deferred.ofValue, invoke, callFunc, e1, h1]
  rw [jE hrun jp, Oper.uponIn_round, hd]
  refine ⟨fun h => by simp [wd, Fence.wide] at h, h2.mono ?_⟩
  intro e w' hR
  obtain ⟨v, rfl, hk⟩ := k e w' hR
  have := hk _ (hs.put hn v) m
  rw [hro] at this
  exact this
theorem KeepsOthers.of_frm {S : List Nat} {W W' : World} (h : Frm S W W') (hS : ∀ b ∈ S, ∀ o, W.heap[b]? = some o → o.isCells = true) : KeepsOthers W W' :=
 ⟨h.size, fun k o hk ho => (h.block k (Array.getElem?_eq_some_iff.1 hk).1 (fun hx => by have := hS k hx o hk; rw [ho] at this; cases this)).trans hk⟩
theorem KeepsOthers.frm0 {W W' : World} (h : Frm [] W W') : KeepsOthers W W' := KeepsOthers.of_frm h jp
theorem KeepsOthers.blk {W W' : World} {g : Nat} {t : TypeId} {cs : Array Value} (h : Frm [g] W W') (hb : Blk W g t cs) : KeepsOthers W W' := KeepsOthers.of_frm h (fun b hx o ho => by
 simp at hx; subst hx
 unfold Blk at hb
 rw [hb] at ho
 cases ho; rfl)
theorem KeepsOthers.own {W W' : World} {e size n c : Nat} {A : Option Addr} {xs : List Value} (h : Frm (ob A) W W') (ho : Own W e size A n c xs) : KeepsOthers W W' := by
 rcases ho.cases with ⟨rfl, _⟩ | ⟨g, cur, rfl, hb, _⟩
 · exact KeepsOthers.frm0 h
 exact KeepsOthers.blk h hb
def lJ (Bt : List Nat) (W W' : World) : Prop := ∃ C, Frm C W W' ∧ ∀ b ∈ C, b ∉ Bt ∧ ∀ o, W.heap[b]? = some o → o.isCells = true
theorem lJ.frm0 {Bt : List Nat} {W W' : World} (h : Frm [] W W') : lJ Bt W W' := ⟨[], h, jp⟩
theorem lJ.off {Bt : List Nat} {W W' : World} (h : lJ Bt W W') : Off Bt W W' := by
 obtain ⟨C, hf, hC⟩ := h
 exact ⟨C, hf, fun b hb hx => (hC b hx).1 hb⟩
theorem lJ.others {Bt : List Nat} {W W' : World} (h : lJ Bt W W') : KeepsOthers W W' := by
 obtain ⟨C, hf, hC⟩ := h
 exact KeepsOthers.of_frm hf fun b hb o ho => (hC b hb).2 o ho
theorem Blk.isC {W : World} {g : Nat} {t : TypeId} {cs : Array Value} (hb : Blk W g t cs) : ∀ o, W.heap[g]? = some o → o.isCells = true := fun o ho => by
 unfold Blk at hb
 rw [hb] at ho
 cases ho; rfl
theorem Own.isC {W : World} {e size n c : Nat} {A : Option Addr} {xs : List Value} (ho : Own W e size A n c xs) : ∀ g ∈ ob A, ∀ o, W.heap[g]? = some o → o.isCells = true := by
 rcases ho.cases with ⟨rfl, _⟩ | ⟨g, cur, rfl, hb, _⟩
 · simp [ob]
 intro x hx
 simp only [ob, zh] at hx
 subst hx
 exact hb.isC
def qBg {α : Type} (Bt : List Nat) (I : List α → World → Prop) (Ix : Exit → List α → World → Prop) (xs : List α) (W : World) : Exit → Env → World → Prop
 | .normal, _, W' => lJ Bt W W' ∧ I xs W'
 | .ret, _, W' => lJ Bt W W' ∧ Ix .ret xs W'
 | .exit id, _, W' => lJ Bt W W' ∧ Ix (.exit id) xs W'
 | _, _, _ => False
theorem vJ : ∀ (l : List (Nat × Value)) (tmps : Array Value) (Γ : Env) (N : Nat), tmps.size = N → (∀ t v, get? Γ t = some v → tmps.getD t undef = v) → (∀ x ∈ l, x.1 < N) →
  (l.foldl (fun t (x : Nat × Value) => t.setIfInBounds x.1 x.2) tmps).size = N ∧ ∀ t v, get? (l.reverse ++ Γ) t = some v → (l.foldl (fun t (x : Nat × Value) => t.setIfInBounds x.1 x.2) tmps).getD t undef = v
 | [], tmps, Γ, N, hN, h, _ => ⟨hN, by simpa using h⟩
 | (p, u) :: r, tmps, Γ, N, hN, h, hl => by
  have hp : p < tmps.size := by rw [hN]; exact hl (p, u) jp
  have h1 := vJ r (tmps.setIfInBounds p u) ((p, u) :: Γ) N (by simpa using hN) (fun t v ht => by
   simp only [get?] at ht
   cases hq : Nat.beq p t with
   | true =>
    rw [hq] at ht
    simp only [cond_true, Option.some.injEq] at ht
    subst ht
    rw [← zau hq]
    simp [zcd, hp]
   | false =>
    rw [hq] at ht
    simp only [cond_false] at ht
    have hne : p ≠ t := fun e => by subst e; rw [zhu] at hq; cases hq
    have := h t v ht
    rw [zcd, Array.getElem?_setIfInBounds_ne hne, ← zcd]
    exact this) (fun x hx => hl x (by simp [hx]))
  rw [zdn]
  have e : ((p, u) :: r).reverse ++ Γ = r.reverse ++ (p, u) :: Γ := jp
  rw [e]
  exact h1
abbrev NC (w W : World) (B S : List Nat) : Prop := ∀ b ∈ S, b ∈ B ∨ (w.heap.size ≤ b ∧ ∀ o, W.heap[b]? = some o → o.isCells = false)
theorem Blk.nc {w W : World} {B S : List Nat} {g : Nat} {t : TypeId} {cs : Array Value} (hb : Blk W g t cs) (hS : NC w W B S) (hg : g ∉ B) : g ∉ S := fun h => by
 rcases hS g h with h1 | ⟨_, h1⟩
 · exact hg h1
 have := h1 _ hb
 cases this
theorem Own.nc {w W : World} {B S : List Nat} {e size n c : Nat} {A : Option Addr} {xs : List Value} (ho : Own W e size A n c xs) (hS : NC w W B S) (hg : ∀ x ∈ ob A, x ∉ B) : ∀ x ∈ ob A, x ∉ S := by
 rcases ho.cases with ⟨rfl, _⟩ | ⟨g, cur, rfl, hb, _⟩
 · simp [ob]
 intro x hx
 have hx2 := hg x hx
 simp only [ob, zh] at hx
 subst hx
 exact hb.nc hS hx2
theorem Frm.nc {w0 w W W' : World} {B S : List Nat} (h : Frm [] w0 W) (k : Frm S W W') (hS : NC w W B S) (hB : ∀ b ∈ B, w0.heap.size ≤ b) (hw : w0.heap.size ≤ w.heap.size) : Frm [] w0 W' := h.own k fun b hb => by
 rcases hS b hb with h1 | ⟨h1, _⟩
 · exact hB b h1
 omega
theorem DV.range {α : Type} {P : Program} {m : Nat} {ds : List Nat} {Γ : Env} {w : World} {Q : DQ} {g : Operand} {ps : List Tmp} {assign body : Code} {gf : FuncId} {lb : Array Value} {Kp : World → Prop} {xs : List α} {B Bt : List Nat} (encs : α → List Value)
  (hit : qRm P gf lb (fun x => (encs x).toArray) B Bt Kp xs) (hg : ev? Γ g = some (.func (.func gf) #[] lb)) (eg : ∀ args w, (callFunc gf args).run P w = .ok (.enter gf args) w) (hps : ∀ x, (encs x).length = ps.length) (hpm : (ps.all fun p => Nat.blt p m) = true)
  (I : List α → World → Prop) (Ix : Exit → List α → World → Prop) (ΓA : α → Env)
  (hI : ∀ pre W W' S, I pre W → Frm S W W' → NC w W B S → I pre W') (hIx : ∀ e pre W W' S, Ix e pre W → Frm S W W' → NC w W B S → Ix e pre W') (hK : ∀ W, Frm [] w W → Kp W) (hB : ∀ b ∈ B, b ∈ Bt) (hBt : ∀ b ∈ Bt, b < w.heap.size) (h0 : I [] w)
  (hassign : ∀ l x W, VC P ⟨m, [], some l⟩ assign ((ps.zip (encs x)).reverse ++ Γ) W (kM (fun Γ' W' => W' = W ∧ Sub Γ' (ΓA x)) (fun _ _ _ => False)))
  (hbody : ∀ l pre x W, I pre W → (pre ++ [x]) <+: xs → w.heap.size + 2 ≤ W.heap.size → eU W w.heap.size → VC P ⟨m, [], some l⟩ body (ΓA x) W (qBg Bt I Ix (pre ++ [x]) W))
  (hdone : ∀ W, I xs W → w.heap.size + 2 ≤ W.heap.size → eU W w.heap.size → Q .normal (w.heap.size :: ds) Γ W)
  (hret : ∀ pre W, Ix .ret pre W → w.heap.size + 2 ≤ W.heap.size → eU W w.heap.size → Q .ret (w.heap.size :: ds) Γ W)
  (hexit : ∀ id pre W, Ix (.exit id) pre W → w.heap.size + 2 ≤ W.heap.size → eU W w.heap.size → Q (.exit id) (w.heap.size :: ds) Γ W) : DV P m (.rangeFunc g ps.toArray assign body) ds Γ w Q := by
 intro a hs k
 refine wpIn_rangeFunc ?_
 intro fn hfn
 obtain ⟨rec, hrec⟩ : ∃ rec : LoopState → Option Code → Loop, rec = fun st pe => { state := st, pending := pe, fn, tmps := a.tmps, params := ps.toArray, assign, body, defers := w.heap.size } := ⟨_, rfl⟩
 obtain ⟨W1, hW1⟩ : ∃ W1, (w.alloc (.deferred (some []))).alloc (.loop (rec .ready none)) = W1 := ⟨_, rfl⟩
 have hL1 : W1.heap[w.heap.size + 1]? = some (.loop (rec .ready none)) := by
  rw [← hW1]; have := World.alloc_heap_new (w.alloc (.deferred (some []))) (.loop (rec .ready none)); rwa [World.size_alloc] at this
 have hK1 : eU W1 w.heap.size := by
  rw [← hW1]; exact (Below.heap_alloc _ _ _ jp).trans (World.alloc_heap_new w _)
 have hF1 : Frm [] w W1 := by rw [← hW1]; exact ((Frm.refl [] w).alloc _).alloc _
 have hI1 : I [] W1 := hI [] w W1 [] h0 hF1 (fun b hb => by cases hb)
 have hsz : ∀ W : World, ∀ r, W.heap[w.heap.size + 1]? = some (.loop r) → w.heap.size + 2 ≤ W.heap.size := fun W r h => by
  have := (Array.getElem?_eq_some_iff.1 h).1; omega
 have hnc : ∀ W r, W.heap[w.heap.size + 1]? = some (.loop r) → NC w W B [w.heap.size + 1] := fun W r h b hb => by
  simp only [zh] at hb
  subst hb
  refine .inr ⟨jo, fun o ho => by rw [h] at ho; cases ho; rfl⟩
 have hmk : ∀ (W : World) o, eU W w.heap.size → eU (W.putObj (w.heap.size + 1) o) w.heap.size := fun W o h => (World.putObj_heap_other jo).trans h
 refine ⟨w.heap.size + 1, [{ target := .collected w.heap.size, args := #[] }], W1, { target := .fn (.func gf) lb, args := #[.func (.yield (w.heap.size + 1)) #[] #[]] }, W1, gf,
  #[.func (.yield (w.heap.size + 1)) #[] #[]] ++ lb, W1, ?_, ?_, fun _ _ => trivial, ?_, fun h => by simp [wd, Fence.wide] at h, ?_⟩
 · rw [← hW1, hrec]; exact run_enterLoop_outer _ _ _ _ _
 ·
  have e1 : a.eval g = .func (.func gf) #[] lb := hs.fits _ _ hg
  simp only [resolve, e1]
  simp [go_sem]
 · simp [invoke, go_sem, eg]
 let J : List α → World → Prop := fun pre W => I pre W ∧ W.heap[w.heap.size + 1]? = some (.loop (rec .ready none)) ∧ eU W w.heap.size
 let Jx : List α → World → Prop := fun pre W => ((Ix .ret pre W ∧ W.heap[w.heap.size + 1]? = some (.loop (rec .done (some .ret)))) ∨ ∃ id, Ix (.exit id) pre W ∧ W.heap[w.heap.size + 1]? = some (.loop (rec .done (some (.exit id))))) ∧ eU W w.heap.size
 have keepL : ∀ {W W' : World} {r}, Frm B W W' → W.heap[w.heap.size + 1]? = some (.loop r) → W'.heap[w.heap.size + 1]? = some (.loop r) := fun hf h => (hf.block _ (Array.getElem?_eq_some_iff.1 h).1 (fun hx => by have := hBt _ (hB _ hx); omega)).trans h
 have keepM : ∀ {W W' : World}, Frm B W W' → eU W w.heap.size → eU W' w.heap.size := fun hf h => h.frm hf (fun hx => by have := hBt _ (hB _ hx); omega)
 refine oH.2 ((hit (w.heap.size + 1) J Jx W1 ?_ ?_ (hK _ hF1) ?_ ⟨hI1, hL1, hK1⟩).mono ?_)
 ·
  rintro pre W W' ⟨h1, h2, h3⟩ hf
  exact ⟨hI pre W W' B h1 hf (fun b hb => .inl hb), keepL hf h2, keepM hf h3⟩
 ·
  rintro pre W W' ⟨h1, h3⟩ hf
  refine ⟨?_, keepM hf h3⟩
  rcases h1 with ⟨h1, h2⟩ | ⟨id, h1, h2⟩
  · exact .inl ⟨hIx _ pre W W' B h1 hf (fun b hb => .inl hb), keepL hf h2⟩
  exact .inr ⟨id, hIx _ pre W W' B h1 hf (fun b hb => .inl hb), keepL hf h2⟩
 ·
  rintro pre x W ⟨hi, hl, hk⟩ hpre k'
  have hlt : w.heap.size + 1 < W.heap.size := (Array.getElem?_eq_some_iff.1 hl).1
  have hy := run_yield (P := P) (args := (encs x).toArray) hl (by rw [hrec]; simpa using hps x)
  rw [hrec] at hy
  refine ⟨fn, _, assign, body, hy, roundIn_of_wpIn hfn ?_⟩
  have hz : (ps.toArray.zip (encs x).toArray).foldl (fun tmps (t, a) => tmps.setIfInBounds t a) a.tmps = (ps.zip (encs x)).foldl (fun t (x : Nat × Value) => t.setIfInBounds x.1 x.2) a.tmps := by
   simp [List.zip_toArray]
  obtain ⟨hfs, hfg⟩ := vJ (ps.zip (encs x)) a.tmps Γ m hs.size hs.at_ (fun y hy => by
   have h1 := (List.of_mem_zip hy).1
   have h2 := List.all_eq_true.1 hpm _ h1
   simpa [zep] using h2)
  dsimp only
  rw [hz]
  refine wpIn_mono (hassign (w.heap.size + 1) x W { tmps := (ps.zip (encs x)).foldl (fun t (x : Nat × Value) => t.setIfInBounds x.1 x.2) a.tmps, defers := [] } ⟨hfs, rfl, hfg⟩ k') ?_
  rintro e a1 W' ⟨Γ1, hs1, hq1⟩
  cases e with
  | normal =>
   obtain ⟨rfl, hsub⟩ := hq1
   have hl2 : (W'.putObj (w.heap.size + 1) (.loop { rec .ready none with state := .busy })).heap[w.heap.size + 1]? = some (.loop { rec .ready none with state := .busy }) := World.putObj_heap_same hlt
   have hf2 := Frm.putObj W' (w.heap.size + 1) (.loop { rec .ready none with state := .busy })
   have hi2 := hI pre _ _ _ hi hf2 (hnc _ _ hl)
   refine ⟨_, run_beginRound hl (by rw [hrec]), ?_⟩
   refine wpIn_mono (hbody (w.heap.size + 1) pre x _ hi2 hpre (hsz _ _ hl2) (hmk _ _ hk) a1 (hs1.sub hsub) k') ?_
   have fin : ∀ (jump : Option Code) (W3 : World), KeepsOthers (W'.putObj (w.heap.size + 1) (.loop { rec .ready none with state := .busy })) W3 →
     (Instr.endRound (w.heap.size + 1) jump).run P W3 = .ok (.bool jump.isNone) (W3.putObj (w.heap.size + 1) (.loop (rec (if jump.isNone then .ready else .done) jump))) ∧
     W3.heap[w.heap.size + 1]? = some (.loop { rec .ready none with state := .busy }) ∧
     (W3.putObj (w.heap.size + 1) (.loop (rec (if jump.isNone then .ready else .done) jump))).heap[w.heap.size + 1]? = some (.loop (rec (if jump.isNone then .ready else .done) jump)) ∧
     eU (W3.putObj (w.heap.size + 1) (.loop (rec (if jump.isNone then .ready else .done) jump))) w.heap.size := fun jump W3 hk3 => by
    have hl3 := hk3.same _ _ hl2 rfl
    have := run_endRound (P := P) jump hl3
    rw [hrec] at this ⊢
    exact ⟨this, by rw [hrec] at hl3; exact hl3, World.putObj_heap_same (Array.getElem?_eq_some_iff.1 hl3).1, hmk _ _ (hk3.same _ _ (hmk _ _ hk) rfl)⟩
   have offs : ∀ {W3 : World} {o : Obj}, lJ Bt (W'.putObj (w.heap.size + 1) (.loop { rec .ready none with state := .busy })) W3 → Off Bt W' (W3.putObj (w.heap.size + 1) o) := fun {W3 o} hw => by
    obtain ⟨C, hf, hC⟩ := hw.off
    refine ⟨(w.heap.size + 1) :: C, ((hf2.mono (T := (w.heap.size + 1) :: C) jp).trans hf (fun x hx => .inl (by simp [hx]))).trans (Frm.putObj W3 _ o) jp, fun b hb hx => ?_⟩
    rcases zbv.1 hx with rfl | hx
    · have := hBt _ hb; omega
    exact hC b hb hx
   rintro e a3 W3 ⟨Γ3, _, hp⟩
   cases e with
   | normal =>
    obtain ⟨hk3, hi3⟩ := hp
    obtain ⟨hr, hl3, hl4, hk4⟩ := fin none W3 hk3.others
    exact ⟨_, _, hr, offs hk3, .inl ⟨rfl, hI _ _ _ _ hi3 (Frm.putObj W3 _ _) (hnc _ _ hl3), hl4, hk4⟩⟩
   | ret =>
    obtain ⟨hk3, hi3⟩ := hp
    obtain ⟨hr, hl3, hl4, hk4⟩ := fin (some .ret) W3 hk3.others
    exact ⟨_, _, hr, offs hk3, .inr ⟨rfl, .inl ⟨hIx _ _ _ _ _ hi3 (Frm.putObj W3 _ _) (hnc _ _ hl3), hl4⟩, hk4⟩⟩
   | exit id =>
    obtain ⟨hk3, hi3⟩ := hp
    obtain ⟨hr, hl3, hl4, hk4⟩ := fin (some (.exit id)) W3 hk3.others
    exact ⟨_, _, hr, offs hk3, .inr ⟨rfl, .inr ⟨id, hIx _ _ _ _ _ hi3 (Frm.putObj W3 _ _) (hnc _ _ hl3), hl4⟩, hk4⟩⟩
   | goto t => exact hp.elim
   | panic ch => exact hp.elim
   | outgrown => exact hp.elim
  | exit id => exact hq1.elim
  | goto t => exact hq1.elim
  | ret => exact hq1.elim
  | panic ch => exact hq1.elim
  | outgrown => exact hq1.elim
 have hs' : Sat ⟨m, wB (w.heap.size :: ds), none⟩ Γ { a with defers := [{ target := .collected w.heap.size, args := #[] }] ++ a.defers } := ⟨hs.size, by show [_] ++ a.defers = _; rw [hs.defers]; rfl, hs.at_⟩
 rintro e W2 ⟨⟨v, rfl⟩, (⟨hi, hl, hk⟩ | ⟨pre, h1, hk⟩)⟩
 ·
  have hend := run_endLoop (P := P) hl (by rw [hrec]; simp)
  refine ⟨none, _, by rw [hend, hrec], ?_⟩
  exact ⟨_, Γ, hs', hdone _ (hI _ _ _ _ hi (Frm.putObj _ _ _) (hnc _ _ hl)) (zn (hsz _ _ hl) (Frm.putObj _ _ _).size) (hmk _ _ hk)⟩
 rcases h1 with ⟨hi, hl⟩ | ⟨id, hi, hl⟩
 ·
  have hend := run_endLoop (P := P) hl (by rw [hrec]; simp)
  refine ⟨some .ret, _, by rw [hend, hrec], ?_⟩
  exact wpIn_ret (Q := qGs m Q) ⟨_, Γ, hs', hret _ _ (hIx _ _ _ _ _ hi (Frm.putObj _ _ _) (hnc _ _ hl)) (zn (hsz _ _ hl) (Frm.putObj _ _ _).size) (hmk _ _ hk)⟩
 have hend := run_endLoop (P := P) hl (by rw [hrec]; simp)
 refine ⟨some (.exit id), _, by rw [hend, hrec], ?_⟩
 exact wpIn_exit (Q := qGs m Q) ⟨_, Γ, hs', hexit _ _ _ (hIx _ _ _ _ _ hi (Frm.putObj _ _ _) (hnc _ _ hl)) (zn (hsz _ _ hl) (Frm.putObj _ _ _).size) (hmk _ _ hk)⟩
end
section
open Go.RowKit Go.Sort
abbrev Tx := List UInt8
def SB (ss : List Tx) : List Value := ss.map encStr
theorem Own.holds {w : World} {g c : Nat} {e : TypeId} {ss : List Tx} (h : Own w e 1 (some ⟨g, 0, none⟩) ss.length c (SB ss)) : Holds encStr w g 0 ss.toArray ∧ g < w.heap.size := by
 rcases h.cases with ⟨h0, _⟩ | ⟨g', cur, hA, hb, h1, h2, h3, h4⟩
 · cases h0
 cases hA
 exact ⟨holds_of_block hb (by rw [zdq] at h4; exact h4), hb.lt⟩
end
section
open Go.RowKit Go.ChangeShapes Go.WideShapes Go.Deep
section
variable {H : Type} {enc : TypeId × Value → H} {P : Program} {w : World} {base : Nat} {spare : Nat → Bool} {held : Bool} {n : Nat} {cs : List Value} {x : DataW H × List MemPlace} {t e : TypeId}
theorem qRn {k : IntKind} (ht : P.underlying t = some (.int k)) (h : DataW.trod enc P w base spare held n t cs = some x) : ∃ z, cs = [.int k z] ∧ (Lit.int k z).wf = true := by
 obtain ⟨z, h1, _, h2⟩ := DataW.trod_int ht h
 exact ⟨z, h1, h2⟩
theorem qGt (ht : P.underlying t = some (.slice e)) (h : DataW.trod enc P w base spare held n t cs = some x) : ∃ A l c, cs = [.slice A l c] := by
 rcases open_slice ht h with ⟨hcs, _⟩ | ⟨ad, l, c, _, _, _, _, hcs, _⟩
 · exact ⟨_, _, _, hcs⟩
 exact ⟨_, _, _, hcs⟩
end
end
section
open Go.RowKit
def kI (L : List Nat) : Nat → List (Nat × Nat)
 | 0 => []
 | m + 1 => (m, L.getD m 0) :: kI L m
theorem eZ (a : List Nat) (i : Nat) (h : i < a.length) : (NI a)[i]? = some (.int .i64 ((a.getD i 0 : Nat) : Int)) := by
 simp [NI, h]
theorem qM1 (g1 c : Nat) (A : Option Addr) (L : List Nat) (hl : L.length ≤ 1000000) :
  qRm Tryz.prog 139 #[.pointer (some ⟨g1, 0, none⟩)] (fun x : Nat × Nat => #[.int .i64 ((x.1 : Nat) : Int), .int .i64 ((x.2 : Nat) : Int)]) [] (g1 :: ob A) (fun w => Blk w g1 64 #[.slice A L.length c] ∧ Rd w 1 A L.length (NI L)) (kI L L.length) := by
 rintro l J Jx w hJ hJx ⟨hb1, hrd⟩ hY h0
 refine VC.calls (nt := 19) (res := #[]) Tryz.func139 rfl Tryz.ntmps139 Tryz.results139 rfl ?_
 refine jS (jR (jl rfl zbq (hb1.cell 0) (je (Run.lenS rfl zd) (jb rfl rfl (Bin.subZ _ 1 jo jo) (ja rfl (jO (jN (jv3 0 1 3 ?_))))))))
 refine jB ?_
 refine VC.loop (σ := Nat × List (Nat × Nat)) (fun s => [(0, .func (.yield l) #[] #[]), (1, .pointer (some ⟨g1, 0, none⟩)), (3, .int .i64 (((s.1 : Nat) : Int) - 1))]) (fun s wr => s.1 ≤ L.length ∧ kI L L.length = s.2 ++ kI L s.1 ∧ Blk wr g1 64 #[.slice A L.length c] ∧ Rd wr 1 A L.length (NI L) ∧ J s.2 wr) (fun s => s.1) (L.length, []) (js3 rfl rfl rfl) ⟨zk _, rfl, hb1, hrd, h0⟩ ?_
 rintro ⟨m, pre⟩ wr ⟨hm, hsp, hb1, hrd, hj⟩
 dsimp only at hm hsp hj ⊢
 refine jS (jS (jR (jm rfl (jb rfl rfl (Bin.geq _ 0) (jO (jN (jv4 0 1 3 8 ?_)))))))
 refine jD rfl (fun hc1 => ?_) fun hc1 => ?_
 ·
  obtain ⟨i, rfl⟩ : ∃ i, m = i + 1 := ⟨m - 1, jo⟩
  have ei : (((i + 1 : Nat) : Int) - 1) = ((i : Nat) : Int) := jo
  rw [ei]
  obtain ⟨ad, rfl, hadlt, hadc⟩ := hrd.2 jo
  have hcell := hadc i _ (eZ L i jo)
  have hpre : (pre ++ [(i, L.getD i 0)]) <+: kI L L.length := ⟨kI L i, by rw [hsp, kI]; simp⟩
  refine jQ (jN (jv3 0 1 3 ?_))
  refine jS (jB (jS (jR (jm rfl (jm rfl (jl rfl zbq (hb1.cell 0) (jm rfl (je (Run.index1 _ rfl rfl zd zc jo) (jl rfl zg hcell ?_)))))))))
  refine Ops.yield rfl rfl (evs.cons rfl (evs.cons rfl evs.nil)) ((by simpa using hY pre (i, L.getD i 0) wr hj hpre : lN Tryz.prog l #[_, _] wr _)) rfl rfl ?_
  rintro e w1 ⟨hoff, hR0⟩
  obtain ⟨yb, rfl, hR⟩ : ∃ yb : Bool, e = .returned (.bool yb) ∧ ((yb = true ∧ J (pre ++ [(i, L.getD i 0)]) w1) ∨ (yb = false ∧ Jx (pre ++ [(i, L.getD i 0)]) w1)) := by
   rcases hR0 with ⟨rfl, h⟩ | ⟨rfl, h⟩
   · exact ⟨true, rfl, .inl ⟨rfl, h⟩⟩
   exact ⟨false, rfl, .inr ⟨rfl, h⟩⟩
  refine ⟨_, rfl, ?_⟩
  have hb1 := hoff.blk hb1 jp
  have hrd := hoff.rd hrd (fun _ x hx => by simp [hx])
  refine je (Run.not rfl) (jO (jN (jv4 0 1 3 18 ?_)))
  refine VC.condB rfl (fun hc2 => ?_) (fun hc2 => ?_)
  ·
   refine jT ?_
   refine qO (qP (qP (qO (end0 ?_))))
   exact ⟨⟨_, rfl⟩, .inr ⟨_, (hR.resolve_left (fun h => by rw [h.1] at hc2; simp at hc2)).2⟩⟩
  refine jQ ?_
  refine qJ (jN ?_)
  refine jv3 0 1 3 ?_
  refine jR (jm rfl (jb rfl rfl (Bin.subZ _ 1 jo jo) (ja rfl (jO ?_))))
  refine jN ⟨(i, pre ++ [(i, L.getD i 0)]), (js3 rfl rfl rfl), ?_, ?_⟩
  · exact ⟨by dsimp only; omega, by rw [hsp, kI]; simp, hb1, hrd, (hR.resolve_right (fun h => by rw [h.1] at hc2; simp at hc2)).2⟩
  first | omega | (dsimp only; omega)
 refine jX ?_
 refine qZ (qZ (qW ?_))
 refine eM ?_
 have hm0 : m = 0 := jo
 subst hm0
 refine ⟨⟨_, rfl⟩, .inl ?_⟩
 rw [hsp, kI, zdd]
 exact hj
theorem qGu (A : Option Addr) (n c : Nat) (w : World) :
  Calls Tryz.prog 120 #[.slice A n c] w fun e w' => ∃ g1, e = .returned (.func (.func 139) #[] #[.pointer (some ⟨g1, 0, none⟩)]) ∧ Blk w' g1 64 #[.slice A n c] ∧ Frm [] w w' ∧ w.heap.size ≤ g1 := by
 refine VC.calls (nt := 4) (res := #[.tmp 2]) Tryz.func120 rfl Tryz.ntmps120 Tryz.results120 rfl ?_
 refine jS (jR ?_)
 refine Ops.m (qV.box rfl) rfl ?_
 rintro _ w1 ⟨rfl, hF⟩
 refine ja rfl (jO (jN (jv1 1 ?_)))
 refine jS (jR (je (Run.mkFunc evs.nil (evs.cons rfl evs.nil)) (ja rfl (jO (jN (jv1 2 ?_))))))
 refine jT ?_
 refine qT rfl ?_
 exact ⟨_, rfl, hF.blk, hF.frm, zk _⟩
theorem qRo {L : List Nat} {pre : List (Nat × Nat)} {x : Nat × Nat} : ∀ {m : Nat}, (pre ++ [x]) <+: kI L m → pre.length + x.1 + 1 = m ∧ x.2 = L.getD x.1 0 := by
 induction pre with
 | nil =>
  intro m h
  cases m with
  | zero => have := h.length_le; simp [kI] at this
  | succ m =>
   rw [kI, zbf, List.cons_prefix_cons] at h
   obtain ⟨rfl, _⟩ := h
   exact ⟨jp, rfl⟩
 | cons y pre ih =>
  intro m h
  cases m with
  | zero => have := h.length_le; simp [kI] at this
  | succ m =>
   rw [kI, zcr, List.cons_prefix_cons] at h
   obtain ⟨h1, h2⟩ := ih h.2
   exact ⟨by rw [zp]; omega, h2⟩
theorem qKg (L : List Nat) : ∀ m, (kI L m).length = m
 | 0 => rfl
 | m + 1 => by rw [kI, zp, qKg L m]
def BeI (w0 w : World) (gf gm cb a : Nat) (Ab : Option Addr) (bs : List Nat) (F G : Nat × Nat × Nat → Option Addr × Nat) (g2 g3 g6 g7 : Nat) (r : Nat × Nat) (W : World) : Prop :=
 IsF w0 W gf gm Ab cb bs a G ∧ Kpf gf F w W ∧ Blk W g2 156 #[.pointer (some ⟨gf, 0, none⟩)] ∧ Blk W g3 3 #[.int .i64 ((a : Nat) : Int)] ∧ Blk W g6 3 #[.int .i64 ((r.1 : Nat) : Int)] ∧ Blk W g7 3 #[.int .i64 ((r.2 : Nat) : Int)]
theorem BeI.nc {w0 w w1 W W' : World} {gf gm cb a : Nat} {Ab : Option Addr} {bs : List Nat} {F G : Nat × Nat × Nat → Option Addr × Nat} {g2 g3 g6 g7 : Nat} {r : Nat × Nat} {S : List Nat} (h : BeI w0 w gf gm cb a Ab bs F G g2 g3 g6 g7 r W) (f : Frm S W W') (hS : NC w1 W [] S) (hm : gm < w1.heap.size) (hB : w.heap.size ≤ w1.heap.size) (hB0 : w0.heap.size ≤ w1.heap.size) : BeI w0 w gf gm cb a Ab bs F G g2 g3 g6 g7 r W' := by
 obtain ⟨h1, h2, h3, h4, h5, h6⟩ := h
 have hb (x : Nat) (hx : x ∈ S) : w1.heap.size ≤ x := by
  rcases hS x hx with h | ⟨h, _⟩
  · cases h
  exact h
 refine ⟨⟨h1.blk.frm f (h1.blk.nc hS jp), h1.rd0, f.onto h1.below (fun x hx => by have := hb x hx; omega) h1.below.size, h1.hgf, h1.pl.frm f (fun hx => by have := hb _ hx; omega) (fun x => (h1.pl.own x).nc hS jp)⟩,
  h2.step f (fun x hx => .inr (.inl (by have := hb x hx; omega))), h3.frm f (h3.nc hS jp), h4.frm f (h4.nc hS jp), h5.frm f (h5.nc hS jp), h6.frm f (h6.nc hS jp)⟩
theorem qM2 (w0 w : World) (gf gm cb u a : Nat) (Ab : Option Addr) (bs : List Nat) (F : Nat × Nat × Nat → Option Addr × Nat) (hu : u ≤ a) (hl : bs.length ≤ 32768) (hcb : bs.length ≤ cb) (ha : a < bs.length) (hB : ∀ b ∈ bs, b < 256) (hF : IsF w0 w gf gm Ab cb bs u F) :
  Calls Tryz.prog 91 #[.pointer (some ⟨gf, 0, none⟩), .int .i64 ((a : Nat) : Int)] w fun e w' => e = .returned (.tuple #[.int .i64 (((bQ bs a).1 : Nat) : Int), .int .i64 (((bQ bs a).2 : Nat) : Int)]) ∧ Kpf gf F w w' ∧ ∃ G, uO F G w.heap.size ∧ IsF w0 w' gf gm Ab cb bs a G := by
 obtain ⟨ad, hA, _, _⟩ := hF.rd.2 jo
 subst hA
 have hgfl := hF.blk.lt
 have hgml := hF.pl.map.lt
 have hw0 := hF.below.size
 have hcut (h : a + 3 ≤ bs.length) : cC (some ad) cb a 1 = some (ad.add (a * 1)) := by unfold cC; rw [if_neg jo]; rfl
 refine DV.calls (nt := 61) (res := #[.tmp 4, .tmp 5]) Tryz.func91 rfl Tryz.ntmps91 Tryz.results91 rfl ?_
 refine DV.seq ?_
 refine DV.vc ?_
 refine jR ?_
 refine Ops.m (qV.box rfl) rfl ?_
 rintro _ w1 ⟨rfl, hF1⟩
 refine Ops.m (qV.box rfl) rfl ?_
 rintro _ w2 ⟨rfl, hF2⟩
 have hb2 : Blk w2 w.heap.size 156 #[.pointer (some ⟨gf, 0, none⟩)] := hF1.blk.frm hF2.frm jp
 have hb3 : Blk w2 w1.heap.size 3 #[.int .i64 ((a : Nat) : Int)] := hF2.blk
 have hI2 := (hF.frm hF1.frm jp).frm hF2.frm jp
 have K2 : Kpf gf F w w2 := ((Kpf.refl gf F w).step hF1.frm jp).step hF2.frm jp
 have hsz2 : w2.heap.size = w.heap.size + 2 := by rw [hF2.size, hF1.size]
 have hg3' := hF1.size
 generalize hg2 : w.heap.size = g2 at hb2 ⊢
 generalize hg3 : w1.heap.size = g3 at hb3 ⊢
 have hFlt : ∀ y, ∀ z ∈ ob (F y).1, z < w.heap.size := fun y z hz => (hF.pl.own y).lt z hz
 refine jz 0 (jz 0 (jO ?_))
 refine cH ?_
 refine DV.sub [(2, _), (3, _), (4, _), (5, _)] (js4 rfl rfl rfl rfl) ?_
 refine DV.seq ?_
 refine DV.vc ?_
 refine jR (jl rfl Tryz.isAgg156 (hb2.cell 0) (jl rfl zg (hb3.cell 0) ?_))
 refine Ops.cl (jE2 Tryz.call119) (qM0 w0 w2 gf gm cb u a (some ad) bs F hu jo hcb jo hB hI2) rfl ?_
 rintro e w3 ⟨rfl, K3, G, hro, hI3⟩
 refine ⟨_, rfl, ?_⟩
 have hb2 := K3.blk hI2 hb2 jd jd
 have hb3 := K3.2 g3 _ _ jo (fun y hy => by have := hFlt y _ hy; omega) hb3
 have K3 : Kpf gf F w w3 := ⟨zn K2.1 K3.1, fun b t cs h1 h2 h3 => K3.2 b t cs h1 h2 (K2.2 b t cs h1 h2 h3)⟩
 have hro3 : uO F G w.heap.size := fun y z hz => by
  rcases hro y z hz with h | h
  · exact .inl h
  exact .inr jo
 have hG3 : ∀ y, ∀ z ∈ ob (G y).1, z ≠ g3 ∧ z < w3.heap.size := fun y z hz => by
  refine ⟨?_, (hI3.pl.own y).lt z hz⟩
  rcases hro y z hz with h | h
  · have := hFlt y z h; omega
  omega
 have hl3 := hb3.lt
 have hk3 := K3.1
 refine jO ?_
 refine cH ?_
 refine DV.sub [(2, _), (3, _), (4, _), (5, _)] (js4 rfl rfl rfl rfl) ?_
 refine DV.seq ?_
 refine DV.seq ?_
 refine DV.vc ?_
 refine VC.still jK jK ?_
 refine qE (Run.load rfl zg (hb3.cell 0)) ?_
 refine qE (Run.bin rfl rfl (Bin.add_i64 _ 3 jo)) ?_
 refine qE (Run.load rfl Tryz.isAgg156 (hb2.cell 0)) ?_
 refine qE (Run.nilck rfl) ?_
 refine qE (Run.fieldAddr rfl zbs rfl zo jd) ?_
 refine qE (Run.load rfl zx (hI3.blk.cell 0)) ?_
 refine qE (Run.lenS rfl zf) ?_
 refine qE (Run.bin rfl rfl (Bin.gtrN _ _)) ?_
 refine qH.nil ?_
 refine cH ?_
 refine DV.sub [(2, _), (3, _), (4, _), (5, _), (21, _)] (js5 rfl rfl rfl rfl rfl) ?_
 refine DV.vc ?_
 refine jD rfl (fun hc1 => ?_) fun hc1 => ?_
 ·
  refine jS (jR (jz 0 (jz 0 (jO (jN (jv2 4 5 ?_))))))
  refine jT ?_
  refine qYd (vX jp jp (fun wz hsh => ?_))
  have hIz := (hI3.drawn (qQ.drew _)).frm hsh jp
  have Kz := (K3.step (qQ.drew w3).frm jp).step hsh jp
  refine cY rfl rfl ?_
  rw [qWf bs a jo jo]
  exact ⟨rfl, Kz, G, hg2 ▸ hro3, hIz⟩
 refine jQ ?_
 refine cH ?_
 refine DV.sub [(2, _), (3, _), (4, _), (5, _)] (js4 rfl rfl rfl rfl) ?_
 refine DV.seq ?_
 refine DV.vc ?_
 refine jR ?_
 refine Ops.m (qV.alloc fS) rfl ?_
 rintro _ w4 ⟨rfl, hF4⟩
 have hI4 := (hI3.drawn (qQ.drew _)).frm hF4.frm jp
 have K4 := (K3.step (qQ.drew w3).frm jp).step hF4.frm jp
 have hb2 := (hb2.drawn (qQ.drew _)).frm hF4.frm jp
 have hb3 := (hb3.drawn (qQ.drew _)).frm hF4.frm jp
 have hs4 : w4.heap.size = w3.heap.size + 1 := hF4.size
 have hb6 : Blk w4 w3.drew.heap.size 3 #[.int .i64 ((0 : Nat) : Int)] := hF4.blk
 have hg6' : w3.drew.heap.size = w3.heap.size := rfl
 generalize hg6 : w3.drew.heap.size = g6 at hb6 hg6' ⊢
 refine Ops.m (qV.alloc fS) rfl ?_
 rintro _ w5 ⟨rfl, hF5⟩
 have hI5 := hI4.frm hF5.frm jp
 have K5 := K4.step hF5.frm jp
 have hb2 := hb2.frm hF5.frm jp
 have hb3 := hb3.frm hF5.frm jp
 have hb6 := hb6.frm hF5.frm jp
 have hs5 := hF5.size
 have hb7 : Blk w5 w4.heap.size 3 #[.int .i64 ((0 : Nat) : Int)] := hF5.blk
 generalize hg7 : w4.heap.size = g7 at hb7 ⊢
 have hoff (W : World) (S : List Nat) (hS : ∀ x ∈ S, x = g6 ∨ x = g7) : gf ∉ S ∧ gm ∉ S ∧ (∀ y, ∀ z ∈ ob (G y).1, z ∉ S) ∧ (∀ x ∈ S, w0.heap.size ≤ x) ∧ g3 ∉ S ∧ ∀ x ∈ S, w.heap.size ≤ x := by
  refine ⟨fun h => ?_, fun h => ?_, fun y z hz h => ?_, fun x h => ?_, fun h => ?_, fun x h => ?_⟩
  · rcases hS _ h with h | h <;> omega
  · rcases hS _ h with h | h <;> omega
  ·
   have := (hG3 y z hz).2
   rcases hS _ h with h | h <;> omega
  · rcases hS _ h with h | h <;> omega
  · rcases hS _ h with h | h <;> omega
  rcases hS _ h with h | h <;> omega
 refine Ops.st (qR.store rfl rfl zc hb6 rfl rfl) ?_
 rintro w6 ⟨hb6n, hf6, hs6⟩
 have hb6 : Blk w6 g6 3 #[.int .i64 ((0 : Nat) : Int)] := hb6n
 obtain ⟨o1, o2, o3, o4, o5, o6⟩ := hoff w [g6] jp
 have hI6 := hI5.frm2 hf6 o1 o2 o3 o4
 have K6 := K5.step hf6 (fun x hx => .inr (.inl (o6 x hx)))
 have hb2 := hb2.frm hf6 (by simp; omega)
 have hb3 := hb3.frm hf6 o5
 have hb7 := hb7.frm hf6 (by simp; omega)
 refine Ops.st (qR.store rfl rfl zc hb7 rfl rfl) ?_
 rintro w7 ⟨hb7n, hf7, hs7⟩
 have hb7 : Blk w7 g7 3 #[.int .i64 ((0 : Nat) : Int)] := hb7n
 obtain ⟨o1, o2, o3, o4, o5, o6⟩ := hoff w [g7] jp
 have hI7 := hI6.frm2 hf7 o1 o2 o3 o4
 have K7 := K6.step hf7 (fun x hx => .inr (.inl (o6 x hx)))
 have hb2 := hb2.frm hf7 (by simp; omega)
 have hb3 := hb3.frm hf7 o5
 have hb6 := hb6.frm hf7 (by simp; omega)
 obtain ⟨kl, hkey⟩ := key3 (tri bs a) (mK hB a) (mK hB (a + 1)) (mK hB (a + 2))
 refine jO ?_
 refine cH ?_
 refine DV.seq ?_
 refine DV.seq ?_
 refine DV.vc ?_
 refine VC.tail 15 jK jK ?_
 simp only [zag, zdt, zdo, zby]
 refine qE (Run.load rfl Tryz.isAgg156 (hb2.cell 0)) ?_
 refine qE (Run.nilck rfl) ?_
 refine qE (Run.fieldAddr rfl zbs rfl Tryz.sizeOf157 jd) ?_
 refine qE (Run.load rfl Tryz.isAgg157 (hI7.blk.cell 1)) ?_
 refine qE (Run.load rfl Tryz.isAgg156 (hb2.cell 0)) ?_
 refine qE (Run.nilck rfl) ?_
 refine qE (Run.fieldAddr rfl zbs rfl zo jd) ?_
 refine qE (Run.load rfl zx (hI7.blk.cell 0)) ?_
 refine qE (Run.load rfl zg (hb3.cell 0)) ?_
 refine qE (Run.load rfl zg (hb3.cell 0)) ?_
 refine qE (Run.bin rfl rfl (Bin.add_i64 _ 3 jo)) ?_
 refine qE (Run.sliceS _ _ rfl zf zad (evB.some_ rfl) (evB.some_ rfl) jo jo) ?_
 rw [hcut jo]
 refine qE (Run.toArr rfl zfq jo) ?_
 refine qE (Run.loadA (cs := NB [bs.getD a 0, bs.getD (a + 1) 0, bs.getD (a + 2) 0]) rfl Tryz.isAgg201 Tryz.sizeOf201 (xV hI7.rd jo) rfl) ?_
 refine qE (Run.lookup (x := tri bs a) rfl rfl hI7.pl.map law3 Tryz.underlying157 qH1 hkey) ?_
 rw [hI7.pl.getD]
 refine qH.nil ?_
 refine Ops.cl (jE1 Tryz.call120) (qGu _ _ _ _) rfl ?_
 rintro e w8 ⟨g1, rfl, hb1, hf8, hg1⟩
 refine ⟨_, rfl, ?_⟩
 have hg1 : w7.heap.size ≤ g1 := hg1
 have hI8 := (hI7.drawn (qQ.drew _)).frm hf8 jp
 have K8 := (K7.step (qQ.drew w7).frm jp).step hf8 jp
 have hb2 := (hb2.drawn (qQ.drew _)).frm hf8 jp
 have hb3 := (hb3.drawn (qQ.drew _)).frm hf8 jp
 have hb6 := (hb6.drawn (qQ.drew _)).frm hf8 jp
 have hb7 := (hb7.drawn (qQ.drew _)).frm hf8 jp
 have hs8 : w7.heap.size ≤ w8.heap.size := hf8.size
 have hrow := hI8.pl.own (tri bs a)
 have hll := yY bs (tri bs a) a
 have hUend := qRl bs a
 generalize hn : (cJ bs (tri bs a) a).length = n at *
 refine jO ?_
 refine cH ?_
 refine DV.sub [(2, _), (3, _), (4, _), (5, _), (6, _), (7, _), (37, _)] (js7 rfl rfl rfl rfl rfl rfl rfl) ?_
 refine DV.block ?_
 refine DV.range (ps := [38, 39]) (fun x : Nat × Nat => [.int .i64 ((x.1 : Nat) : Int), .int .i64 ((x.2 : Nat) : Int)]) (hn ▸ qM1 g1 (G (tri bs a)).2 (G (tri bs a)).1 (cJ bs (tri bs a) a) jo) rfl Tryz.call139 (fun _ => rfl) rfl (fun pre W => BeI w0 w gf gm cb a (some ad) bs F G g2 g3 g6 g7 (lM bs a (n - pre.length)) W) (fun e pre W => e = .exit 0 ∧ BeI w0 w gf gm cb a (some ad) bs F G g2 g3 g6 g7 (bQ bs a) W) (fun x => [(2, .pointer (some ⟨g2, 0, none⟩)), (3, .pointer (some ⟨g3, 0, none⟩)), (6, .pointer (some ⟨g6, 0, none⟩)), (7, .pointer (some ⟨g7, 0, none⟩)), (9, .int .i64 ((x.2 : Nat) : Int))]) ?_ ?_ ?_ ?_ ?_ ?_ ?_ ?_ ?_ ?_ ?_
 · exact fun pre W W' S h f hS => h.nc f hS jo jo jo
 · exact fun e pre W W' S h f hS => ⟨h.1, h.2.nc f hS jo jo jo⟩
 · exact fun W hf => ⟨hb1.frm hf jp, (hrow.frm hf jp).rd⟩
 · simp
 ·
  intro b hb
  rcases zbv.1 hb with rfl | hb
  · exact hb1.lt
  exact hrow.lt b hb
 ·
  rw [zbx, zcf, hUend]
  exact ⟨hI8, K8, hb2, hb3, hb6, hb7⟩
 ·
  intro l x W
  refine jv6 2 3 6 7 38 39 ?_
  refine jR (ja rfl (jO ?_))
  refine jN ⟨rfl, (js5 rfl rfl rfl rfl rfl)⟩
 ·
  rintro l pre x W ⟨hIW, hKW, hb2, hb3, hb6, hb7⟩ hpre hsz hmk
  obtain ⟨hlen, hval⟩ := qRo hpre
  have hxn : x.1 < (cJ bs (tri bs a) a).length := jo
  obtain ⟨p1, p2, p3⟩ := zI hxn
  have hU := qX9 bs a x.1 jo hxn
  dsimp only at hU
  rw [← hval] at hU p1 p2 p3
  have hfull := qZb bs a jo (x.1 + 1) jo
  have e1 : n - pre.length = x.1 + 1 := jo
  have hb60 := hb6
  have hb70 := hb7
  clear hval
  rw [e1] at hb6 hb7
  generalize lM bs a (x.1 + 1) = r at hU hfull hb6 hb7
  refine jB (jS (jS ?_))
  refine VC.split1 [(2, _), (3, _), (6, _), (7, _), (9, _)] (js5 rfl rfl rfl rfl rfl) 47 (.bool (decide (32768 < a - x.2 ∨ r.1 = 258))) ?_ ?_
  ·
   refine jR (jl rfl zg (hb3.cell 0) (jm rfl (jb rfl rfl (Bin.sub_i64 _ _ jo jo) (jb rfl rfl (Bin.gtrN _ 32768) ?_))))
   by_cases hs43 : 32768 < a - x.2
   ·
    refine jM ?_
    refine jU ?_
    refine jU ?_
    refine je (Run.pickT rfl rfl au) (jO ?_)
    refine jN ⟨(js6 (jC (by simp [*])) rfl rfl rfl rfl rfl), rfl⟩
   refine jM ?_
   refine jk (Run.load rfl zg (hb6.cell 0)) ?_
   refine jk (Run.bin rfl rfl (Bin.eqlN _ 258)) ?_
   by_cases hs46 : r.1 = 258
   ·
    refine je (Run.pickF rfl rfl au) (jO ?_)
    refine jN ⟨(js6 (jC (by simp [*])) rfl rfl rfl rfl rfl), rfl⟩
   refine je (Run.pickF rfl rfl au) (jO ?_)
   refine jN ⟨(js6 (jC (by simp [*])) rfl rfl rfl rfl rfl), rfl⟩
  intro Γ hΓ
  refine jN (VC.sub _ hΓ ?_)
  refine jD rfl (fun hc2 => ?_) fun hc2 => ?_
  ·
   refine jX ?_
   refine qZ (sD rfl (?_))
   refine ⟨lJ.frm0 (Frm.refl _ _), rfl, ?_⟩
   rw [hfull (hc2.resolve_left jo)]
   exact ⟨hIW, hKW, hb2, hb3, hb6, hb7⟩
  refine jQ (jN (jv5 2 3 6 7 9 ?_))
  refine jS (jR (jl rfl Tryz.isAgg156 (hb2.cell 0) (jm rfl (jl rfl zg (hb3.cell 0) ?_))))
  refine Ops.cl (jE3 Tryz.call121) (qMz w0 W gf gm cb a x.2 a (some ad) bs G p1 jo jo hIW) rfl ?_
  rintro e W2 ⟨rfl, hd2⟩
  refine ⟨_, rfl, ?_⟩
  have hI2W := hIW.drawn hd2
  have hK2W := hKW.step hd2.frm jp
  have hb2 := hb2.drawn hd2
  have hb3 := hb3.drawn hd2
  have hb6 := hb6.drawn hd2
  have hb7 := hb7.drawn hd2
  refine ja rfl (jO (jN (jv5 3 6 7 9 10 ?_)))
  refine jS (jR (jm rfl (jl rfl zg (hb6.cell 0) (jb rfl rfl (Bin.gtrN _ _) (jO (jN (jv6 3 6 7 9 10 54 ?_)))))))
  refine jD rfl (fun hc3 => ?_) fun hc3 => ?_
  ·
   refine VC.heldL 5 (fun v => Blk v g3 3 #[.int .i64 ((a : Nat) : Int)]) jK ?_
   have hS : (fun v => Blk v g3 3 #[.int .i64 ((a : Nat) : Int)]) W2.drew := hb3.drawn (qQ.drew _)
   refine jH 0 rfl hS (fun w0 hw0 => Run.mv rfl) ?_
   refine jH 1 rfl hS (fun w0 hw0 => Run.load rfl zg (hw0.cell 0)) ?_
   refine jH 2 rfl hS (fun w0 hw0 => Run.mv rfl) ?_
   refine jH 3 rfl hS (fun w0 hw0 => Run.bin rfl rfl (Bin.sub_i64 _ _ jo jo)) ?_
   refine qK.st 4 rfl jK (qR.store rfl rfl zc (hb6.drawn (qQ.drew _)) rfl rfl) trivial rfl ?_
   rintro W3 ⟨hb6n, hf3, hs3⟩
   have hb6n : Blk W3 g6 3 #[.int .i64 ((longM bs x.2 a : Nat) : Int)] := hb6n
   have hb7 := (hb7.drawn (qQ.drew _)).frm hf3 (by simp; omega)
   have hS3 := hS.frm hf3 (by simp; omega)
   refine ⟨hS3, ?_⟩
   refine qK.stL rfl jK (qR.store rfl rfl zc hb7 rfl rfl) trivial rfl ?_
   rintro W4 ⟨hb7n, hf4, hs4⟩
   have hb7n : Blk W4 g7 3 #[.int .i64 ((a - x.2 : Nat) : Int)] := hb7n
   refine qK.done jK ?_
   refine qJ (?_)
   have hf24 : Frm [g6, g7] W2 W4 := (((qQ.drew W2).frm.mono (T := [g6, g7]) jp).trans hf3 jp).trans hf4 jp
   obtain ⟨o1, o2, o3, o4, o5, o6⟩ := hoff w [g6, g7] jp
   refine ⟨⟨[g6, g7], (hd2.frm.mono jp).trans hf24 jp, ?_⟩, ?_⟩
   ·
    intro b hb
    refine ⟨fun h => ?_, fun o ho => ?_⟩
    ·
     rcases zbv.1 h with h | h
     · subst h; simp only [zbv, zbm, or_false] at hb; rcases hb with hb | hb <;> omega
     exact o3 _ b h hb
    simp only [zbv, zbm, or_false] at hb
    obtain ⟨m, rfl⟩ := hd2
    rcases hb with rfl | rfl
    · exact hb60.isC o ho
    exact hb70.isC o ho
   have e2 : n - (pre ++ [x]).length = x.1 := by rw [za]; simp; omega
   dsimp only
   rw [e2, hU, if_pos hc3]
   exact ⟨hI2W.frm2 hf24 o1 o2 o3 o4, hK2W.step hf24 (fun x hx => .inr (.inl (o6 x hx))), hb2.frm hf24 (by simp; omega), hb3.frm hf24 o5, hb6n.frm hf4 (by simp; omega), hb7n⟩
  refine jQ ?_
  refine qJ (?_)
  refine ⟨lJ.frm0 hd2.frm, ?_⟩
  have e2 : n - (pre ++ [x]).length = x.1 := by rw [za]; simp; omega
  dsimp only
  rw [e2, hU, if_neg hc3]
  exact ⟨hI2W, hK2W, hb2, hb3, hb6, hb7⟩
 ·
  rintro W ⟨hIW, hKW, hb2, hb3, hb6, hb7⟩ hsz hmk
  rw [qKg, zgb, qZa bs a jo] at hb6 hb7
  refine yM (cH ?_)
  refine DV.sub [(6, _), (7, _)] (js2 rfl rfl) ?_
  refine DV.seq ?_
  refine DV.vc ?_
  refine VC.still jK jK ?_
  refine qE (Run.load rfl zg (hb6.cell 0)) ?_
  refine qE (Run.load rfl zg (hb7.cell 0)) ?_
  refine qA ?_
  refine qA ?_
  refine qH.nil ?_
  refine cH ?_
  refine DV.sub [(4, _), (5, _)] (js2 rfl rfl) ?_
  refine DV.vc (jT ?_)
  refine vX jp (fun d hd => by simp only [zh] at hd; subst hd; exact hmk) (fun wz hsh => ?_)
  have hIz := (hIW.drawn (qQ.drew _)).frm2 hsh (by simp; omega) (by simp; omega) (fun y z hz => by have := (hG3 y z hz).2; simp; omega) (by simp; omega)
  have Kz := (hKW.step (qQ.drew W).frm jp).step hsh (fun x hx => .inr (.inl (by simp at hx; omega)))
  refine cY rfl rfl ?_
  exact ⟨rfl, Kz, G, hg2 ▸ hro3, hIz⟩
 · exact fun _ _ h => absurd h.1 jp
 rintro id pre W ⟨he, hIW, hKW, hb2, hb3, hb6, hb7⟩ hsz hmk
 cases he
 refine qKf ?_
 refine cH ?_
 refine DV.sub [(6, _), (7, _)] (js2 rfl rfl) ?_
 refine DV.seq ?_
 refine DV.vc ?_
 refine VC.still jK jK ?_
 refine qE (Run.load rfl zg (hb6.cell 0)) ?_
 refine qE (Run.load rfl zg (hb7.cell 0)) ?_
 refine qA ?_
 refine qA ?_
 refine qH.nil ?_
 refine cH ?_
 refine DV.sub [(4, _), (5, _)] (js2 rfl rfl) ?_
 refine DV.vc (jT ?_)
 refine vX jp (fun d hd => by simp only [zh] at hd; subst hd; exact hmk) (fun wz hsh => ?_)
 have hIz := (hIW.drawn (qQ.drew _)).frm2 hsh (by simp; omega) (by simp; omega) (fun y z hz => by have := (hG3 y z hz).2; simp; omega) (by simp; omega)
 have Kz := (hKW.step (qQ.drew W).frm jp).step hsh (fun x hx => .inr (.inl (by simp at hx; omega)))
 refine cY rfl rfl ?_
 exact ⟨rfl, Kz, G, hg2 ▸ hro3, hIz⟩
def gF (t : Tk) : List Value := [.int .u8 ((t.1 : Nat) : Int), .int .i64 ((t.2.1 : Nat) : Int), .int .i64 ((t.2.2 : Nat) : Int)]
def TC (l : List Tk) : List Value := l.flatMap gF
theorem rW (a b : List Tk) : TC (a ++ b) = TC a ++ TC b := by simp [TC]
theorem TC_one (l : List Tk) : ∀ u ∈ TC l, u.oneCell' = true := by
 intro u hu
 obtain ⟨t, _, ht⟩ := List.mem_flatMap.1 hu
 simp only [gF, zbv, zbm, or_false] at ht
 rcases ht with rfl | rfl | rfl <;> rfl
theorem tK (bs : List Nat) : ∀ m a, (gE bs m a).length ≤ m
 | 0, a => zk _
 | m + 1, a => by
  unfold gE
  split
  · simp
  split
  · have := tK bs m (a + 1); simp; omega
  have := tK bs m (a + (bQ bs a).1); simp; omega
theorem qT0 (w : World) : (zeroValue 159).run Tryz.prog w = .ok (.agg #[.slice none 0 0, .map none, .int .i64 0]) w := by
 simp only [zeroValue, Sem.run_bind, Tryz.typeInfo159, Result.andThen_ok]; rfl
theorem qZc : ∃ fs, Tryz.prog.underlying 159 = some (.struct fs) ∧ ∀ w, (fs.mapM fun f => do pure (f.offset, ← sizeOf f.type) : Sem (Array (Nat × Nat))).run Tryz.prog w = .ok #[(0, 1), (1, 1), (2, 1)] w :=
 ⟨_, zbs, fun w => by simp [zo, Tryz.sizeOf157, zc]⟩
theorem IsF.tok {w0 w w' : World} {gf gm cb u n c : Nat} {Ab B : Option Addr} {bs : List Nat} {F : Nat × Nat × Nat → Option Addr × Nat} {xs : List Value} (h : IsF w0 w gf gm Ab cb bs u F) (ho : Own w 132 3 B n c xs) (hup : ∀ x ∈ ob B, w0.heap.size ≤ x) (f : Frm (ob B) w w') : IsF w0 w' gf gm Ab cb bs u F :=
 h.frm2 f (ho.ne_blk h.blk jd) (by
  rcases ho.cases with ⟨rfl, _⟩ | ⟨g, cur, rfl, hb, _⟩
  · simp [ob]
  simpa [ob] using h.pl.map.ne_blk hb) (fun x => (h.pl.own x).ne_own ho jd) hup
theorem qQa (A : Option Addr) (c : Nat) (bs : List Nat) (w : World) (hl : bs.length ≤ 32768) (hc : bs.length ≤ c) (hB : ∀ b ∈ bs, b < 256) (hr : Rd w 1 A bs.length (NB bs)) :
  Calls Tryz.prog 55 #[.slice A bs.length c] w fun e w' => ∃ B d, e = .returned (.tuple #[.slice B (qS bs 0).length d, .int .i64 ((0 : Nat) : Int)]) ∧ Own w' 132 3 B (qS bs 0).length d (TC (qS bs 0)) ∧ Frm [] w w' ∧ ∀ x ∈ ob B, w.heap.size ≤ x := by
 have h70 : ¬ 65536 < bs.length := jo
 refine VC.calls (nt := 48) (res := #[.tmp 2, .tmp 3]) Tryz.func55 rfl Tryz.ntmps55 Tryz.results55 rfl ?_
 refine jS (jR (ja rfl (jz 0 (jO (jN (jv1 0 ?_))))))
 refine jS (jS (jR (jm rfl (je (Run.lenS rfl zf) (jb rfl rfl (Bin.gtrN _ 65536) (jO (jN (jv2 0 11 ?_))))))))
 refine VC.condF rfl (by simp; omega) ?_
 refine jQ (jN (jv1 0 ?_))
 refine jS (jR (jM ?_))
 refine Ops.m (qV.makeMap (P := Tryz.prog) (k := 201) (enc := K3)) rfl ?_
 rintro _ w1 ⟨rfl, hM1, hf1, hs1⟩
 refine je (Run.build (evs.cons rfl (evs.cons rfl evs.nil)) qT0 qZc.choose_spec.1 qZc.choose_spec.2 rfl) ?_
 refine Ops.m (qV.box rfl) rfl ?_
 rintro _ w2 ⟨rfl, hF2⟩
 have hM2 := hM1.frm hF2.frm jp
 have hb0 : Blk w2 w1.heap.size 159 #[.slice A bs.length c, .map (some w.heap.size), .int .i64 ((0 : Nat) : Int)] := hF2.blk
 generalize hgm : w.heap.size = gm at hM2 hb0 ⊢
 generalize hgf : w1.heap.size = gf at hb0 ⊢
 have hI0 : IsF w w2 gf gm A c bs 0 (fun _ => (none, 0)) := by
  refine ⟨hb0, hr, ((hf1.trans hF2.frm jp).below), jo, ⟨jo, ?_, fun x => Own.nil _ _ _, fun x => by simp [ob], fun x _ => rfl, fun x y _ => by simp [ob]⟩⟩
  have e : PlM (fun _ => (none, 0)) bs 0 = fun _ => none := by funext x; unfold PlM; rw [if_pos (by rfl)]
  rw [e]
  exact hM2
 have htl0 := tK bs bs.length 0
 refine ja rfl (jO (jN (jv2 0 4 ?_)))
 refine jS (jR (ja rfl (jO (jN (jS (jS (jR (jz 0 (jO (jN (jB ?_)))))))))))
 refine VC.loop (σ := Nat × Nat × List Tk × Option Addr × Nat × (Nat × Nat × Nat → Option Addr × Nat)) (fun s => [(0, .slice A bs.length c), (4, .pointer (some ⟨gf, 0, none⟩)), (5, .slice s.2.2.2.1 s.2.2.1.length s.2.2.2.2.1), (6, .int .i64 ((s.1 : Nat) : Int))]) (fun s wr => s.1 ≤ bs.length ∧ s.2.1 ≤ s.1 ∧ s.2.2.1.length ≤ s.1 ∧ qS bs 0 = s.2.2.1 ++ qS bs s.1 ∧ IsF w wr gf gm A c bs s.2.1 s.2.2.2.2.2 ∧ Own wr 132 3 s.2.2.2.1 s.2.2.1.length s.2.2.2.2.1 (TC s.2.2.1) ∧ ∀ x ∈ ob s.2.2.2.1, w.heap.size ≤ x) (fun s => bs.length - s.1) (0, 0, [], none, 0, fun _ => (none, 0)) (js4 rfl rfl rfl rfl) ⟨zak _, zk _, zk _, rfl, hI0, Own.nil _ _ _, by simp [ob]⟩ ?_
 rintro ⟨a, u, pre, B, d, F⟩ wr ⟨ha, hu, hpl, hsp, hI, hO, hup⟩
 dsimp only at ha hu hpl hsp hI hO hup ⊢
 refine jS (jS (jR (jm rfl (jm rfl (je (Run.lenS rfl zf) (jb rfl rfl (Bin.lssN _ _) (jO (jN (jv5 0 4 5 6 19 ?_)))))))))
 refine jD rfl (fun hc2 => ?_) fun hc2 => ?_
 ·
  refine jQ (jN (jv4 0 4 5 6 ?_))
  refine jB (jS (jR (jm rfl (jM ?_))))
  refine Ops.cl (jE2 Tryz.call91) (qM2 w wr gf gm c u a A bs F hu jo hc jo hB hI) rfl ?_
  rintro e w3 ⟨rfl, K3, G, hro, hI3⟩
  refine ⟨_, rfl, ?_⟩
  have hO := K3.own hI hO jd jd
  have hbf := lX bs a jo
  refine jm rfl (je (Run.extract rfl rfl) (je (Run.extract rfl rfl) (ja rfl (ja rfl (jO (jN (jv6 0 4 5 6 7 8 ?_)))))))
  refine jS (jS (jR (jm rfl (jb rfl rfl (Bin.eqlN _ 0) (jO (jN (jv7 0 4 5 6 7 8 27 ?_)))))))
  refine jD rfl (fun hc3 => ?_) fun hc3 => ?_
  ·
   obtain ⟨ad, rfl, hadlt, hadc⟩ := hI3.rd.2 jo
   have hcell := hadc a _ (mS bs a jo)
   have hnx := yH bs a jo hc3
   refine jS (jR (jm rfl (jm rfl (jm rfl (je (Run.index1 _ rfl rfl zf zad jo) (jl rfl zdr hcell (je (Run.build (evs.cons rfl evs.nil) gW (gH).choose_spec.1 (gH).choose_spec.2 rfl) ?_)))))))
   refine Ops.m (qV.buildS1 rfl zbp zcs gW jd jd rfl rfl) rfl ?_
   rintro _ w4 ⟨rfl, hF4⟩
   have hI4 := hI3.frm hF4.frm jp
   have hO4 := hO.frm hF4.frm jp
   have hrd4 : Rd w4 3 (some ⟨w3.heap.size, 0, none⟩) 1 (TC [(bs.getD a 0, 0, 0)]) := Rd.of_blk (n := 1) (size := 3) hF4.blk rfl
   refine Ops.m (qV.app rfl rfl zbp (wS) rfl jd hO4 hrd4 (TC_one _) jo jo) rfl ?_
   rintro _ w5 ⟨B5, d5, rfl, hO5, hf5, hob5⟩
   have hI5 := hI4.tok hO4 hup hf5
   rw [← rW] at hO5
   have hup5 := cG hup hob5 (hI4.below.size)
   refine ja rfl (jO (jN (jv4 0 4 5 6 ?_)))
   refine jS (jR (jm rfl (jb rfl rfl (Bin.add_i64 _ 1 jo) (ja rfl (jO (jN (jv4 0 4 5 6 ?_)))))))
   refine jX ?_
   refine qZ (qW ?_)
   refine jN ⟨(a + 1, a, pre ++ [(bs.getD a 0, 0, 0)], B5, d5, G), (js4 rfl rfl (by rw [za]; rfl) rfl), ?_, ?_⟩
   · refine ⟨by dsimp only; omega, by dsimp only; omega, by rw [za]; simp; omega, by rw [hsp, hnx]; simp, hI5, by rw [za]; exact hO5, hup5⟩
   first | omega | (dsimp only; omega)
  have hnx := tJ bs a jo hc3
  have hbm : 3 ≤ (bQ bs a).1 ∧ a + (bQ bs a).1 ≤ bs.length := by
   rcases hbf with h | ⟨h1, _, _, _, h2, _⟩
   · rw [h] at hc3; exact absurd rfl hc3
   exact ⟨h1, h2⟩
  refine jQ (jN (jv6 0 4 5 6 7 8 ?_))
  refine jS (jR (jm rfl (jm rfl (jm rfl (je (Run.build (evs.cons rfl (evs.cons rfl evs.nil)) gW (gH).choose_spec.1 (gH).choose_spec.2 rfl) ?_)))))
  refine Ops.m (qV.buildS1 rfl zbp zcs gW jd jd rfl rfl) rfl ?_
  rintro _ w4 ⟨rfl, hF4⟩
  have hI4 := hI3.frm hF4.frm jp
  have hO4 := hO.frm hF4.frm jp
  have hrd4 : Rd w4 3 (some ⟨w3.heap.size, 0, none⟩) 1 (TC [(0, (bQ bs a).1, (bQ bs a).2)]) := Rd.of_blk (n := 1) (size := 3) hF4.blk rfl
  refine Ops.m (qV.app rfl rfl zbp (wS) rfl jd hO4 hrd4 (TC_one _) jo jo) rfl ?_
  rintro _ w5 ⟨B5, d5, rfl, hO5, hf5, hob5⟩
  have hI5 := hI4.tok hO4 hup hf5
  rw [← rW] at hO5
  have hup5 := cG hup hob5 (hI4.below.size)
  refine ja rfl (jO (jN (jv5 0 4 5 6 7 ?_)))
  refine jR (jm rfl (jm rfl (jb rfl rfl (Bin.add_i64 _ _ jo) (ja rfl (jO ?_)))))
  refine qJ (jN ⟨(a + (bQ bs a).1, a, pre ++ [(0, (bQ bs a).1, (bQ bs a).2)], B5, d5, G), (js4 rfl rfl (by rw [za]; rfl) rfl), ?_, ?_⟩)
  · refine ⟨by dsimp only; omega, by dsimp only; omega, by rw [za]; simp; omega, by rw [hsp, hnx]; simp, hI5, by rw [za]; exact hO5, hup5⟩
  first | omega | (dsimp only; omega)
 refine jX ?_
 refine qZ (qZ (qW ?_))
 refine jN (jv1 5 ?_)
 refine jS (jR (jm rfl (ja rfl (jz 0 (jO (jN (jv2 2 3 ?_)))))))
 refine jT ?_
 refine cY rfl rfl ?_
 have ea : a = bs.length := jo
 have et : qS bs 0 = pre := by rw [hsp, ea, yG bs bs.length (zk _), zdd]
 rw [et]
 exact ⟨_, _, rfl, hO, Frm.of_below hI.below, fun x hx => by rw [← hgm]; exact hup x hx⟩
end
section
open Go.RowKit
theorem tV : ∀ n w, stepN (n + 1) w = jY (stepN n w)
 | 0, _ => rfl
 | n + 1, w => by
  rw [show stepN (n + 1 + 1) w = stepN (n + 1) (jY w) from rfl, tV n (jY w)]
  rfl
theorem qKh (w : Nat) (l : List Nat) (b : Nat) : goM w (l ++ [b]) = stepN 8 (goM w l ^^^ b) := by unfold goM; rw [zgx]; rfl
theorem yN {L : List Nat} {i : Nat} (h : i < L.length) : L.take (i + 1) = L.take i ++ [L.getD i 0] := by
 rw [zah, zb h, ze, zb h]
 rfl
theorem yP {l : List Nat} (hB : ∀ b ∈ l, b < 256) (i : Nat) : l.getD i 0 < 256 := by
 rw [ze]
 cases h : l[i]? with
 | none => simp
 | some x => exact hB x (zdh h)
def WB (l : List Nat) : List Value := l.map fun n => .int .u32 ((n : Nat) : Int)
theorem qBh (a : List Nat) (i : Nat) (h : i < a.length) : (WB a)[i]? = some (.int .u32 ((a.getD i 0 : Nat) : Int)) := by
 simp [WB, ze, zb h]
theorem qM3 (l : List Nat) : ∀ u ∈ WB l, u.oneCell' = true := by
 intro u hu
 obtain ⟨x, _, rfl⟩ := List.mem_map.1 hu
 rfl
theorem qBi (a : List Nat) (i x : Nat) : (WB a).toArray.setIfInBounds i (.int .u32 ((x : Nat) : Int)) = (WB (a.set i x)).toArray := by simp [WB, List.map_set]
def lP (n : Nat) : List Nat := (List.range 256).map fun i => if i < n then stepN 8 i else 0
theorem lR (n : Nat) : (lP n).length = 256 := by simp [lP]
theorem qRp (n : Nat) : (lP n).set n (stepN 8 n) = lP (n + 1) := by
 apply zao
 intro i
 unfold lP
 simp only [zew, zl, zfi, zbd]
 by_cases h1 : n = i
 ·
  subst h1
  by_cases h2 : n < 256
  · simp [h2]
  simp [h2]
 by_cases h2 : i < 256
 ·
  simp only [h1, if_false, zgf h2, zhr]
  by_cases h3 : i < n
  · rw [if_pos h3, if_pos jo]
  rw [if_neg h3, if_neg jo]
 simp [h1, zu, h2]
theorem qRq {i : Nat} (h : i < 256) : (lP 256).getD i 0 = stepN 8 i := by
 unfold lP
 rw [ze, zbd, zgf h]
 simp [h]
theorem yR {w : World} {A : Option Addr} {n : Nat} {bs : List Nat} (hr : Rd w 1 A n (NB bs)) (hn : bs.length = n) {i : Nat} (hi : i < n) : ∃ ad, A = some ad ∧ w.cell? (ad.add i) = some (.int .u8 ((bs.getD i 0 : Nat) : Int)) := by
 obtain ⟨ad, h1, _, hc⟩ := hr.2 jo
 exact ⟨ad, h1, hc i _ (mS bs i jo)⟩
theorem qGv (w0 : Nat) (w : World) (h : w0 < 4294967296) : Calls Tryz.prog 88 #[.int .u32 ((w0 : Nat) : Int)] w fun e w' => e = .returned (.int .u32 ((stepN 8 w0 : Nat) : Int)) ∧ w = w' := by
 refine VC.calls (nt := 16) (res := #[.tmp 2]) Tryz.func88 rfl Tryz.ntmps88 Tryz.results88 rfl ?_
 refine jS (jR ?_)
 refine jy .u32 0 ?_
 refine jO (jN (jv1 0 ?_))
 refine jS (jS (jR ?_))
 refine jx .i64 0 ?_
 refine jO (jN (jB ?_))
 refine VC.loop (σ := Nat) (fun s => [(0, .int .u32 ((stepN s w0 : Nat) : Int)), (4, .int .i64 ((s : Nat) : Int))]) (fun s wr => s ≤ 8 ∧ w = wr) (fun s => 8 - s) 0 (js2 rfl rfl) ⟨jo, rfl⟩ ?_
 rintro i wr ⟨hi, rfl⟩
 have hlt := pJ i h
 have hnx := tV i w0
 generalize hv : stepN i w0 = v at hlt hnx ⊢
 unfold jY at hnx
 refine jS (jR (jb rfl rfl (Bin.lssN _ 8) (jO (jN (jS ?_)))))
 refine jD rfl (fun hc1 => ?_) fun hc1 => ?_
 ·
  refine jQ (jN (jv2 0 4 ?_))
  refine jS (jB (jS (jR (jm rfl (jb rfl rfl (Bin.and_u32 _ 1 jo jo) ?_)))))
  rw [Nat.and_one_is_mod]
  refine ja rfl (jO (jN (jv3 0 3 4 ?_)))
  refine jS (jR (jm rfl (jb rfl rfl (Bin.shr_u32 _ 1 jo) ?_)))
  rw [Nat.pow_one]
  refine ja rfl (jO (jN (jv3 0 3 4 ?_)))
  refine jS (jR (jm rfl (jb rfl rfl (Bin.eqlN _ 1) (jO (jN (jv3 0 4 11 ?_))))))
  refine jD rfl (fun hc2 => ?_) fun hc2 => ?_
  ·
   refine jR (jm rfl (jb rfl rfl (Bin.xor_u32 _ 3988292384 jo jo) (ja rfl (jO ?_))))
   refine qJ (jN ?_)
   refine jv2 0 4 ?_
   refine jR (jb rfl rfl (Bin.add_i64 _ 1 jo) (jm rfl (jO ?_)))
   refine jN ⟨i + 1, (js2 (by rw [hnx, if_pos hc2]; rfl) rfl), ?_, ?_⟩
   · exact ⟨jo, rfl⟩
   first | omega | (dsimp only; omega)
  refine jQ ?_
  refine qJ (jN ?_)
  refine jv2 0 4 ?_
  refine jR (jb rfl rfl (Bin.add_i64 _ 1 jo) (jm rfl (jO ?_)))
  refine jN ⟨i + 1, (js2 (by rw [hnx, if_neg hc2]; rfl) rfl), ?_, ?_⟩
  · exact ⟨jo, rfl⟩
  first | omega | (dsimp only; omega)
 refine jX ?_
 refine qZ (qZ (qW ?_))
 refine jN (jv1 0 ?_)
 refine jS (jR (jm rfl (ja rfl (jO (jN (jv1 2 ?_))))))
 refine jT ?_
 refine qT rfl ?_
 obtain rfl : i = 8 := jo
 exact ⟨by rw [hv], rfl⟩
theorem qKi (w : World) : (zeroValue 86).run Tryz.prog w = .ok (.agg (WB (lP 0)).toArray) w := by
 simp only [zeroValue, Sem.run_bind, Tryz.typeInfo86, Result.andThen_ok]; rfl
theorem qWg (w : World) : Calls Tryz.prog 49 #[] w fun e w' => e = .returned (.agg (WB (lP 256)).toArray) ∧ Frm [] w w' := by
 refine VC.calls (nt := 13) (res := #[.cell 0 86]) Tryz.func49 rfl Tryz.ntmps49 Tryz.results49 rfl ?_
 refine jS (jR ?_)
 refine Ops.m (qV.alloc qKi) rfl ?_
 rintro _ w1 ⟨rfl, hF1⟩
 have hb0 : Blk w1 w.heap.size 86 (WB (lP 0)).toArray := hF1.blk
 have hgs := hF1.size
 refine jO (jN (jS (jR ?_)))
 refine Ops.m (qV.alloc qKi) rfl ?_
 rintro _ w2 ⟨rfl, hF2⟩
 have hb0 := hb0.frm hF2.frm jp
 have hb1 : Blk w2 w1.heap.size 86 (WB (lP 0)).toArray := hF2.blk
 have K := hF1.frm.trans hF2.frm jp
 have hgl : w.heap.size < w1.heap.size := jo
 obtain ⟨g0, hg0⟩ : ∃ g, g = w.heap.size := ⟨_, rfl⟩
 obtain ⟨g1, hg1⟩ : ∃ g, g = w1.heap.size := ⟨_, rfl⟩
 rw [← hg0] at hb0 hgl
 rw [← hg1] at hb1 hgl
 have hk0 : w.heap.size ≤ g0 := jo
 have hk1 : w.heap.size ≤ g1 := jo
 refine jO (jN (jS (jS (jR ?_))))
 refine jx .i64 0 ?_
 refine jO (jN (jB ?_))
 refine VC.loop (σ := Nat) (fun s => [(0, .pointer (some ⟨g0, 0, none⟩)), (1, .pointer (some ⟨g1, 0, none⟩)), (3, .int .i64 ((s : Nat) : Int))]) (fun s wr => s ≤ 256 ∧ Blk wr g0 86 (WB (lP 0)).toArray ∧ Blk wr g1 86 (WB (lP s)).toArray ∧ Frm [] w wr) (fun s => 256 - s) 0 (js3 (by rw [hg0]; rfl) (by rw [hg1]; rfl) rfl) ⟨jo, hb0, hb1, K⟩ ?_
 rintro i wr ⟨hi, hb0, hb1, K⟩
 refine jS (jR (jb rfl rfl (Bin.lssN _ 256) (jO (jN (jS ?_)))))
 refine jD rfl (fun hc1 => ?_) fun hc1 => ?_
 ·
  refine jQ (jN (jv3 0 1 3 ?_))
  refine jS (jB (jS (jR (jm rfl (ja rfl (jO (jN (jv4 0 1 2 3 ?_))))))))
  refine jR (jm rfl (jm rfl (je (Run.convN _ rfl zaa zen (by simp only [bmax]; omega)) ?_)))
  refine Ops.cl (jE1 Tryz.call88) (qGv i _ jo) rfl ?_
  rintro e _ ⟨rfl, rfl⟩
  refine ⟨_, rfl, ?_⟩
  refine je (Run.indexA1 _ rfl rfl Tryz.underlying86 Tryz.sizeOf47 jo) ?_
  refine Ops.st (qR.store rfl rfl Tryz.sizeOf47 hb1 (by rw [zep]; simp only [zca, WB, zl, lR]; omega) rfl) ?_
  rintro w3 ⟨hb1, hf3, hs3⟩
  rw [zap, qBi, qRp] at hb1
  refine jO ?_
  refine qJ (jN ?_)
  refine jv3 0 1 3 ?_
  refine jR (jb rfl rfl (Bin.add_i64 _ 1 jo) (jm rfl (jO ?_)))
  refine jN ⟨i + 1, (js3 rfl rfl rfl), ?_, ?_⟩
  · exact ⟨jo, hb0.frm hf3 (by simp; omega), hb1, K.own hf3 (by simp; omega)⟩
  first | omega | (dsimp only; omega)
 refine jX ?_
 refine qZ (qZ (qW ?_))
 refine jN (jv2 0 1 ?_)
 refine jS (jR (je (Run.loadB rfl Tryz.isAgg86 Tryz.sizeOf86 hb1 (by simp only [zca, WB, zl, lR])) ?_))
 refine Ops.st (qR.storeA rfl rfl (fun w => by simp only [zca, WB, zl, lR]; exact Tryz.sizeOf86 w) hb0 (by simp only [zca, WB, zl, lR]) (by simpa using qM3 _)) ?_
 rintro w4 ⟨hb0, hf4, hs4⟩
 have ei : i = 256 := jo
 subst ei
 refine jO (jN (jv1 0 ?_))
 refine jT ?_
 refine mR ?_
 refine fC rfl Tryz.isAgg86 Tryz.sizeOf86 (hb0) rfl ?_
 refine eF ?_
 exact ⟨rfl, K.own hf4 (by simp; omega)⟩
theorem qGw (A : Option Addr) (c n : Nat) (bs : List Nat) (w : World) (hn : bs.length = n) (hl : n ≤ 1000000000) (hB : ∀ b ∈ bs, b < 256) (hr : Rd w 1 A n (NB bs)) :
  Calls Tryz.prog 30 #[.int .u32 ((0 : Nat) : Int), .slice A n c] w fun e w' => e = .returned (.int .u32 ((crcM bs : Nat) : Int)) ∧ Frm [] w w' := by
 refine VC.calls (nt := 30) (res := #[.tmp 4]) Tryz.func30 rfl Tryz.ntmps30 Tryz.results30 rfl ?_
 refine jS (jR ?_)
 refine jy .u32 0 ?_
 refine jO (jN (jv2 0 1 ?_))
 refine jS (jR ?_)
 refine Ops.cl (jE0 Tryz.call49) (qWg w) rfl ?_
 rintro e w1 ⟨rfl, K⟩
 refine ⟨_, rfl, ?_⟩
 refine Ops.m (qV.alloc qKi) rfl ?_
 rintro _ w2 ⟨rfl, hF2⟩
 have hb2 := hF2.blk
 have hg5 := K.size
 have K := K.trans hF2.frm jp
 generalize w1.heap.size = g5 at hb2 hg5 ⊢
 refine Ops.st (qR.storeA rfl rfl (fun w => by simp only [zca, WB, zl, lR]; exact Tryz.sizeOf86 w) hb2 (by show (WB (lP 256)).toArray.size = (WB (lP 0)).toArray.size; simp only [zca, WB, zl, lR]) (by simpa using qM3 _)) ?_
 rintro w3 ⟨hb3, hf3, hs3⟩
 have K := K.own hf3 (by simp; omega)
 refine jO (jN (jv3 0 1 5 ?_))
 refine jS (jR (jm rfl (je (Run.compl32 _ rfl jo) ?_)))
 rw [zcf]
 refine ja rfl (jO (jN (jv3 1 5 6 ?_)))
 refine jS (jS (jR (jm rfl (je (Run.lenS rfl zf) ?_))))
 refine jx .i64 0 ?_
 refine jO (jN (jv5 5 6 12 13 14 ?_))
 refine jB ?_
 refine VC.loop (σ := Nat) (fun s => [(5, .pointer (some ⟨g5, 0, none⟩)), (6, .int .u32 ((goM 4294967295 (bs.take s) : Nat) : Int)), (12, .slice A n c), (13, .int .i64 ((n : Nat) : Int)), (14, .int .i64 ((s : Nat) : Int))]) (fun s wr => s ≤ n ∧ w3 = wr) (fun s => n - s) 0 (js5 rfl rfl rfl rfl rfl) ⟨jo, rfl⟩ ?_
 rintro i _ ⟨hi, rfl⟩
 have hgl := zP (bs.take i) (w := 4294967295) jo (fun b hb => hB b (zaf hb))
 refine jS (jR (jb rfl rfl (Bin.lssN _ _) (jO (jN (jS ?_)))))
 refine jD rfl (fun hc1 => ?_) fun hc1 => ?_
 ·
  obtain ⟨ad, rfl, hcell⟩ := yR (hr.frm K jp) hn hc1
  have hs := yN (jo : i < bs.length)
  have hsn := qKh 4294967295 (bs.take i) (bs.getD i 0)
  rw [← hs] at hsn
  have hb8 := yP hB i
  generalize bs.getD i 0 = b at hcell hsn hb8
  generalize goM 4294967295 (bs.take i) = v at hgl hsn ⊢
  have hbt := qP9 v b
  have hx8 : v % 256 ^^^ b < 256 := Nat.xor_lt_two_pow (n := 8) jo hb8
  have hx32 := pJ 8 (jo : v % 256 ^^^ b < 4294967296)
  refine jQ (jN (jv5 5 6 12 13 14 ?_))
  refine jS (jB (jS (jR (je (Run.index1 _ rfl rfl zf zad jo) (jl rfl zdr hcell (ja rfl (jO (jN (jv6 5 6 8 12 13 14 ?_)))))))))
  refine jR (jm rfl (je (Run.conv8 _ rfl zen zat) (jm rfl (jb rfl rfl (Bin.xor_u8 _ _ jo jo) (je (Run.indexA1 _ rfl rfl Tryz.underlying86 Tryz.sizeOf47 jo) ?_)))))
  refine jl rfl Tryz.isAgg47 ((hb3.cell _).trans (by rw [zap, zdp, qBh _ _ (by rw [lR]; exact hx8), qRq hx8])) ?_
  refine jm rfl (jb rfl rfl (Bin.shr_u32 _ 8 jo) (jb rfl rfl (Bin.xor_u32 _ _ jo jo) ?_))
  rw [show (2 : Nat) ^ 8 = 256 from rfl, hbt, ← hsn]
  refine ja rfl (jO ?_)
  refine qJ (jN ?_)
  refine jv5 5 6 12 13 14 ?_
  refine jR (jb rfl rfl (Bin.add_i64 _ 1 jo) (jm rfl (jO ?_)))
  refine jN ⟨i + 1, (js5 rfl rfl rfl rfl rfl), ?_, ?_⟩
  · exact ⟨jo, rfl⟩
  first | omega | (dsimp only; omega)
 refine jX ?_
 refine qZ (qZ (qW ?_))
 refine jN (jv1 6 ?_)
 refine jS (jR (jm rfl (je (Run.compl32 _ rfl jo) (ja rfl (jO (jN (jv1 4 ?_)))))))
 refine jT ?_
 refine qT rfl ?_
 obtain rfl : i = n := jo
 rw [zm jo]
 exact ⟨rfl, K⟩
theorem vK (A : Option Addr) (c n : Nat) (bs : List Nat) (w : World) (hn : bs.length = n) (hl : n ≤ 1000000000) (hB : ∀ b ∈ bs, b < 256) (hr : Rd w 1 A n (NB bs)) :
  Calls Tryz.prog 16 #[.slice A n c] w fun e w' => e = .returned (.int .u32 ((crcM bs : Nat) : Int)) ∧ Frm [] w w' := by
 refine VC.calls (nt := 5) (res := #[.tmp 2]) Tryz.func16 rfl Tryz.ntmps16 Tryz.results16 rfl ?_
 refine jS (jR ?_)
 refine jy .u32 0 ?_
 refine jO (jN (jv1 0 ?_))
 refine jS (jR (jM ?_))
 refine Ops.cl (jE2 Tryz.call30) (qGw A c n bs w hn hl hB hr) rfl ?_
 rintro e w1 ⟨rfl, K⟩
 refine ⟨_, rfl, ?_⟩
 refine ja rfl (jO (jN (jv1 2 ?_)))
 refine jT ?_
 refine qT rfl ?_
 exact ⟨rfl, K⟩
theorem qRr (A : Option Addr) (c n : Nat) (bs : List Nat) (w : World) (hn : bs.length = n) (hl : n ≤ 1000000000) (hB : ∀ b ∈ bs, b < 256) (hr : Rd w 1 A n (NB bs)) :
  Calls Tryz.prog 36 #[.int .u32 ((4294967295 : Nat) : Int), .slice A n c] w fun e w' => e = .returned (.int .u32 ((goM 4294967295 bs : Nat) : Int)) ∧ w = w' := by
 refine VC.calls (nt := 34) (res := #[.tmp 4]) Tryz.func36 rfl Tryz.ntmps36 Tryz.results36 rfl ?_
 refine jS (jR ?_)
 refine jy .u32 0 ?_
 refine jO (jN (jv2 0 1 ?_))
 refine jS (jS (jR (jz 0 (jO (jN (jB ?_))))))
 refine VC.loop (σ := Nat) (fun s => [(0, .int .u32 ((goM 4294967295 (bs.take s) : Nat) : Int)), (1, .slice A n c), (5, .int .i64 ((s : Nat) : Int))]) (fun s wr => s ≤ n ∧ w = wr) (fun s => n - s) 0 (js3 rfl rfl rfl) ⟨jo, rfl⟩ ?_
 rintro i _ ⟨hi, rfl⟩
 have hgl := zP (bs.take i) (w := 4294967295) jo (fun b hb => hB b (zaf hb))
 refine jS (jS (jR (jm rfl (jm rfl (je (Run.lenS rfl zf) (jb rfl rfl (Bin.lssN _ _) (jO (jN (jv4 0 1 5 11 ?_)))))))))
 refine jD rfl (fun hc1 => ?_) fun hc1 => ?_
 ·
  obtain ⟨ad, rfl, hcell⟩ := yR hr hn hc1
  have hs := yN (jo : i < bs.length)
  have hsn := qKh 4294967295 (bs.take i) (bs.getD i 0)
  rw [← hs] at hsn
  have hb8 := yP hB i
  generalize bs.getD i 0 = b at hcell hsn hb8
  generalize goM 4294967295 (bs.take i) = v at hgl hsn ⊢
  have hx32 : v ^^^ b < 4294967296 := yX hgl jo
  refine jQ (jN (jv3 0 1 5 ?_))
  refine jS (jB (jS (jR (jm rfl (jm rfl (jm rfl (je (Run.index1 _ rfl rfl zf zad jo) (jl rfl zdr hcell (je (Run.convN _ rfl zat zen (by simp only [bmax]; omega)) (jb rfl rfl (Bin.xor_u32 _ _ jo jo) (ja rfl (jO (jN (jv3 0 1 5 ?_))))))))))))))
  refine jS (jR (jz 0 (jO (jN (jB ?_)))))
  refine VC.loop (σ := Nat) (fun s => [(0, .int .u32 ((stepN s (v ^^^ b) : Nat) : Int)), (1, .slice (some ad) n c), (5, .int .i64 ((i : Nat) : Int)), (6, .int .i64 ((s : Nat) : Int))]) (fun s wr => s ≤ 8 ∧ w = wr) (fun s => 8 - s) 0 (js4 rfl rfl rfl rfl) ⟨jo, rfl⟩ ?_
  rintro k _ ⟨hk, rfl⟩
  have hlt := pJ k hx32
  have hnx := tV k (v ^^^ b)
  generalize hu : stepN k (v ^^^ b) = u at hlt hnx ⊢
  unfold jY at hnx
  refine jS (jS (jR (jm rfl (jb rfl rfl (Bin.lssN _ 8) (jO (jN (jv5 0 1 5 6 22 ?_)))))))
  refine jD rfl (fun hc2 => ?_) fun hc2 => ?_
  ·
   refine jQ (jN (jv4 0 1 5 6 ?_))
   refine jS (jB (jS (jR (jm rfl (jb rfl rfl (Bin.remN _ 2 jo) (jb rfl rfl (Bin.eqlN _ 1) (ja rfl (jO (jN (jv5 0 1 5 6 7 ?_))))))))))
   refine jS (jR (jm rfl (jb rfl rfl (Bin.quo_u32 _ 2 jo jo) (ja rfl (jO (jN (jv5 0 1 5 6 7 ?_)))))))
   refine jS (jR (jm rfl (jO (jN (jv5 0 1 5 6 30 ?_)))))
   refine jD rfl (fun hc3 => ?_) fun hc3 => ?_
   ·
    refine jR (jm rfl (jb rfl rfl (Bin.xor_u32 _ 3988292384 jo jo) (ja rfl (jO ?_))))
    refine qJ (jN ?_)
    refine jv4 0 1 5 6 ?_
    refine jR (jm rfl (jb rfl rfl (Bin.add_i64 _ 1 jo) (ja rfl (jO ?_))))
    refine jN ⟨k + 1, (js4 (by rw [hnx, if_pos hc3]; rfl) rfl rfl rfl), ?_, ?_⟩
    · exact ⟨jo, rfl⟩
    first | omega | (dsimp only; omega)
   refine jQ ?_
   refine qJ (jN ?_)
   refine jv4 0 1 5 6 ?_
   refine jR (jm rfl (jb rfl rfl (Bin.add_i64 _ 1 jo) (ja rfl (jO ?_))))
   refine jN ⟨k + 1, (js4 (by rw [hnx, if_neg hc3]; rfl) rfl rfl rfl), ?_, ?_⟩
   · exact ⟨jo, rfl⟩
   first | omega | (dsimp only; omega)
  refine jX ?_
  refine qZ (qZ (qW ?_))
  refine qJ (jN ?_)
  refine jv3 0 1 5 ?_
  refine jR (jm rfl (jb rfl rfl (Bin.add_i64 _ 1 jo) (ja rfl (jO ?_))))
  obtain rfl : k = 8 := jo
  refine jN ⟨i + 1, (js3 (by rw [hsn, hu]; rfl) rfl rfl), ?_, ?_⟩
  · exact ⟨jo, rfl⟩
  first | omega | (dsimp only; omega)
 refine jX ?_
 refine qZ (qZ (qW ?_))
 refine jN (jv1 0 ?_)
 refine jS (jR (jm rfl (ja rfl (jO (jN (jv1 4 ?_))))))
 refine jT ?_
 refine qT rfl ?_
 obtain rfl : i = n := jo
 rw [zm jo]
 exact ⟨rfl, rfl⟩
theorem qZd (A : Option Addr) (c n : Nat) (bs : List Nat) (w : World) (hn : bs.length = n) (hl : n ≤ 1000000000) (hB : ∀ b ∈ bs, b < 256) (hr : Rd w 1 A n (NB bs)) :
  Calls Tryz.prog 21 #[.slice A n c] w fun e w' => e = .returned (.int .u32 ((crcM bs : Nat) : Int)) ∧ w = w' := by
 have hgl := zP bs (w := 4294967295) jo hB
 refine VC.calls (nt := 6) (res := #[.tmp 2]) Tryz.func21 rfl Tryz.ntmps21 Tryz.results21 rfl ?_
 refine jS (jR ?_)
 refine jy .u32 0 ?_
 refine jO (jN (jv1 0 ?_))
 refine jS (jR (jM ?_))
 refine Ops.cl (jE2 Tryz.call36) (qRr A c n bs w hn hl hB hr) rfl ?_
 rintro e _ ⟨rfl, rfl⟩
 refine ⟨_, rfl, ?_⟩
 refine jb rfl rfl (Bin.sub_u32 4294967295 _ jo jo) (ja rfl (jO (jN (jv1 2 ?_))))
 refine jT ?_
 refine qT rfl ?_
 exact ⟨rfl, rfl⟩
end
section
def qF : Nat → Nat → List Nat
 | _, 0 => []
 | v, n + 1 => v % 256 :: qF (v / 256) n
def kZ : List Nat → Nat
 | [] => 0
 | b :: r => b + 256 * kZ r
theorem bV : ∀ v n, (qF v n).length = n
 | _, 0 => rfl
 | v, n + 1 => by rw [qF, zp, bV]
theorem kS : ∀ v n, ∀ b ∈ qF v n, b < 256
 | _, 0, b, h => by cases h
 | v, n + 1, b, h => by
  rcases zbv.1 h with rfl | h
  · omega
  exact kS _ n b h
theorem yS : ∀ n v, v < 256 ^ n → kZ (qF v n) = v
 | 0, v, h => by rw [zhw] at h; simp [qF, kZ]; omega
 | n + 1, v, h => by
  rw [qF, kZ, yS n (v / 256) (by rw [zbo] at h; exact Nat.div_lt_of_lt_mul (by rw [zcw]; exact h))]
  omega
theorem qYf : ∀ l : List Nat, (∀ b ∈ l, b < 256) → kZ l < 256 ^ l.length
 | [], _ => by simp [kZ]
 | b :: r, h => by
  have h1 := qYf r (fun x hx => h x (zbu _ hx))
  have h2 := h b zcc
  rw [kZ, zp, zbo]
  omega
theorem vV : ∀ n v, qF v (n + 1) = qF v n ++ [v / 256 ^ n % 256]
 | 0, v => by simp [qF]
 | n + 1, v => by
  have ih := vV n (v / 256)
  rw [qF, ih, zfa, ← Nat.pow_succ']
  rfl
theorem xW : ∀ a b : List Nat, kZ (a ++ b) = kZ a + 256 ^ a.length * kZ b
 | [], b => by simp [kZ]
 | x :: a, b => by
  rw [zcr, kZ, kZ, xW a b, zp, zbo, Nat.mul_add, zcw (256 ^ a.length) 256, zdm, zek]
end
section
open Go.RowKit
def bnd {α β : Type} : Except Nat α → (α → Except Nat β) → Except Nat β
 | .error c, _ => .error c
 | .ok x, f => f x
@[simp] theorem dR {α β : Type} (c : Nat) (f : α → Except Nat β) : bnd (.error c) f = .error c := rfl
@[simp] theorem qB {α β : Type} (x : α) (f : α → Except Nat β) : bnd (.ok x) f = f x := rfl
def bN (L : List Bool) (n p : Nat) : Except Nat (Nat × Nat) := if p + n ≤ L.length then .ok (num ((L.drop p).take n), p + n) else .error 2
def jW (L : List Bool) (l : List Int) (p : Nat) : Except Nat (Nat × Nat) := if (tk l L (bE l) 1 0 p).2.2 = 0 then .ok ((tk l L (bE l) 1 0 p).1, (tk l L (bE l) 1 0 p).2.1) else .error (tk l L (bE l) 1 0 p).2.2
theorem cK {L : List Bool} {n p v q : Nat} (h : bN L n p = .ok (v, q)) : q = p + n ∧ p + n ≤ L.length ∧ v < 2 ^ n ∧ v = num ((L.drop p).take n) := by
 unfold bN at h
 split at h
 ·
  rename_i h1
  simp only [Except.ok.injEq, Prod.mk.injEq] at h
  obtain ⟨rfl, rfl⟩ := h
  have h2 := sG ((L.drop p).take n)
  rw [zi, zr, zal jo] at h2
  exact ⟨rfl, h1, h2, rfl⟩
 cases h
theorem qBj {l : List Int} {n v i : Nat} (h : hit l n v = some i) (hn1 : 1 ≤ n) (hn15 : n ≤ 15) : i < l.length := ((qW9 l n v i hn1 hn15).1 h).1
theorem qKj (l : List Int) (L : List Bool) : ∀ m n v p, 1 ≤ n → n + m ≤ 16 → p ≤ L.length → p ≤ (tk l L m n v p).2.1 ∧ (tk l L m n v p).2.1 ≤ L.length ∧ ((tk l L m n v p).2.2 = 0 → p < (tk l L m n v p).2.1 ∧ (tk l L m n v p).1 < l.length) ∧ ((tk l L m n v p).2.2 = 0 ∨ (tk l L m n v p).2.2 = 2 ∨ (tk l L m n v p).2.2 = 11)
 | 0, n, v, p, _, _, hp => by simp [tk, hp]
 | m + 1, n, v, p, h1, h2, hp => by
  unfold tk
  cases hb : L[p]? with
  | none => simp [hp]
  | some b =>
   have hpl : p < L.length := (List.getElem?_eq_some_iff.1 hb).1
   dsimp only
   cases hh : hit l n (2 * v + b.toNat) with
   | some i =>
    dsimp only
    exact ⟨jo, jo, fun _ => ⟨jo, qBj hh h1 jo⟩, .inl rfl⟩
   | none =>
    dsimp only
    obtain ⟨h3, h4, h5, h6⟩ := qKj l L m (n + 1) (2 * v + b.toNat) (p + 1) jo jo jo
    exact ⟨jo, h4, fun h => ⟨by have := (h5 h).1; omega, (h5 h).2⟩, h6⟩
theorem oL {L : List Bool} {l : List Int} {p s q : Nat} (hm : bE l ≤ 15) (hp : p ≤ L.length) (h : jW L l p = .ok (s, q)) : p < q ∧ q ≤ L.length ∧ s < l.length := by
 unfold jW at h
 obtain ⟨h3, h4, h5, h6⟩ := qKj l L (bE l) 1 0 p jo jo hp
 split at h
 ·
  rename_i h0
  simp only [Except.ok.injEq, Prod.mk.injEq] at h
  obtain ⟨rfl, rfl⟩ := h
  exact ⟨(h5 h0).1, h4, (h5 h0).2⟩
 cases h
def longT : List (Nat × Nat) := [(3, 0), (4, 0), (5, 0), (6, 0), (7, 0), (8, 0), (9, 0), (10, 0), (11, 1), (13, 1), (15, 1), (17, 1), (19, 2), (23, 2), (27, 2), (31, 2), (35, 3), (43, 3), (51, 3), (59, 3), (67, 4), (83, 4), (99, 4), (115, 4), (131, 5), (163, 5), (195, 5), (227, 5), (258, 0)]
def wayT : List (Nat × Nat) := [(1, 0), (2, 0), (3, 0), (4, 0), (5, 1), (7, 1), (9, 2), (13, 2), (17, 3), (25, 3), (33, 4), (49, 4), (65, 5), (97, 5), (129, 6), (193, 6), (257, 7), (385, 7), (513, 8), (769, 8), (1025, 9), (1537, 9), (2049, 10), (3073, 10), (4097, 11), (6145, 11), (8193, 12), (12289, 12), (16385, 13), (24577, 13)]
def bX : List Nat := [16, 17, 18, 0, 8, 7, 9, 6, 10, 5, 11, 4, 12, 3, 13, 2, 14, 1, 15]
def cQ : List Int := List.replicate 144 8 ++ List.replicate 112 9 ++ List.replicate 24 7 ++ List.replicate 8 8
def cX : List Int := List.replicate 32 5
def mV (bs : List Nat) (most p : Nat) (out : List Nat) : Except Nat (Nat × List Nat) :=
 bnd (bN (ofB bs) 16 ((p + 7) / 8 * 8)) fun x => bnd (bN (ofB bs) 16 x.2) fun y =>
  if x.1 ^^^ y.1 ≠ 65535 then .error 3 else if (8 * bs.length - y.2) / 8 < x.1 then .error 2 else if most < out.length + x.1 then .error 13
  else .ok (y.2 + 8 * x.1, out ++ (bs.drop (y.2 / 8)).take x.1)
def dB : Nat → Nat → List Nat → List Nat
 | 0, _, out => out
 | n + 1, d, out => dB n d (out ++ [out.getD (out.length - d) 0])
def fF (L : List Bool) (a b : List Int) (most p : Nat) (out : List Nat) : Except Nat (Bool × Nat × List Nat) :=
 bnd (jW L a p) fun x =>
  if x.1 < 256 then (if out.length < most then .ok (true, x.2, out ++ [x.1]) else .error 13)
  else if x.1 = 256 then .ok (false, x.2, out)
  else if 285 < x.1 then .error 11
  else bnd (bN L (longT.getD (x.1 - 257) (0, 0)).2 x.2) fun v => bnd (jW L b v.2) fun y =>
   if 30 ≤ y.1 then .error 11
   else bnd (bN L (wayT.getD y.1 (0, 0)).2 y.2) fun u =>
    if out.length < (wayT.getD y.1 (0, 0)).1 + u.1 then .error 12
    else if most < out.length + ((longT.getD (x.1 - 257) (0, 0)).1 + v.1) then .error 13
    else .ok (true, u.2, dB ((longT.getD (x.1 - 257) (0, 0)).1 + v.1) ((wayT.getD y.1 (0, 0)).1 + u.1) out)
def dL (L : List Bool) (a b : List Int) (most : Nat) : Nat → Nat → List Nat → Except Nat (Nat × List Nat)
 | 0, _, _ => .error 99
 | f + 1, p, out => bnd (fF L a b most p out) fun x => if x.1 then dL L a b most f x.2.1 x.2.2 else .ok x.2
def nE (L : List Bool) (l : List Int) (p : Nat) (all : List Int) (most : Nat) : Except Nat (Nat × List Int) :=
 bnd (jW L l p) fun x =>
  bnd (if x.1 = 16 then (if all.length = 0 then .error 11 else bnd (bN L 2 x.2) fun v => .ok (v.2, all.getD (all.length - 1) 0, 3 + v.1))
   else if x.1 = 17 then bnd (bN L 3 x.2) fun v => .ok (v.2, 0, 3 + v.1)
   else if x.1 = 18 then bnd (bN L 7 x.2) fun v => .ok (v.2, 0, 11 + v.1)
   else .ok (x.2, (x.1 : Int), 1)) fun (y : Nat × Int × Nat) =>
  if most < all.length + y.2.2 then .error 11 else .ok (y.1, all ++ List.replicate y.2.2 y.2.1)
def mU (L : List Bool) (l : List Int) (most : Nat) : Nat → Nat → List Int → Except Nat (Nat × List Int)
 | 0, _, _ => .error 99
 | f + 1, p, all => if all.length < most then bnd (nE L l p all most) fun x => mU L l most f x.1 x.2 else .ok (p, all)
def kJ (L : List Bool) : List Nat → Nat → List Int → Except Nat (Nat × List Int)
 | [], p, l => .ok (p, l)
 | s :: r, p, l => bnd (bN L 3 p) fun v => kJ L r v.2 (l.set s (v.1 : Int))
def qXd (many : Nat) (u : Nat × List Int) : Except Nat (Nat × List Int × List Int) :=
 if ¬ 0 < u.2.getD 256 0 then .error 11
 else if newE (u.2.take many) ≠ 0 then .error 11
 else if newE (u.2.drop many) ≠ 0 then .error 11
 else .ok (u.1, u.2.take many, u.2.drop many)
def qXe (L : List Bool) (many far : Nat) (t : Nat × List Int) : Except Nat (Nat × List Int × List Int) :=
 if newE t.2 ≠ 0 then .error 11 else bnd (mU L t.2 (many + far) (L.length + 1) t.1 []) (qXd many)
def rO (L : List Bool) (p : Nat) : Except Nat (Nat × List Int × List Int) :=
 bnd (bN L 5 p) fun x => bnd (bN L 5 x.2) fun y => bnd (bN L 4 y.2) fun z =>
  if ¬ (257 + x.1 ≤ 286 ∧ 1 + y.1 ≤ 30) then .error 3
  else bnd (kJ L (bX.take (4 + z.1)) z.2 (List.replicate 19 0)) (qXe L (257 + x.1) (1 + y.1))
theorem qKk {L : List Bool} {l : List Int} {p q : Nat} {all all' : List Int} {most : Nat} (hm : bE l ≤ 15) (hp : p ≤ L.length) (h : nE L l p all most = .ok (q, all')) : p < q ∧ q ≤ L.length ∧ all'.length ≤ most ∧ all.length ≤ all'.length := by
 unfold nE at h
 rcases hS : jW L l p with k | ⟨s, p1⟩
 · rw [hS] at h; cases h
 rw [hS, qB] at h
 obtain ⟨h1, h2, _⟩ := oL hm hp hS
 dsimp only at h
 have key : ∀ (E : Except Nat (Nat × Int × Nat)), bnd E (fun (y : Nat × Int × Nat) => if most < all.length + y.2.2 then .error 11 else .ok (y.1, all ++ List.replicate y.2.2 y.2.1)) = .ok (q, all') → ∃ y, E = .ok y ∧ y.1 = q ∧ all'.length ≤ most ∧ all.length ≤ all'.length := by
  intro E hE
  cases E with
  | error k => cases hE
  | ok y =>
   rw [qB] at hE
   split at hE
   · cases hE
   simp only [Except.ok.injEq, Prod.mk.injEq] at hE
   refine ⟨y, rfl, hE.1, ?_, ?_⟩ <;> (rw [← hE.2, za, zbn]; omega)
 obtain ⟨y, hy, rfl, h5, h6⟩ := key _ h
 have tk' : ∀ n (g : Nat × Nat → Nat × Int × Nat), (∀ v, (g v).1 = v.2) → bnd (bN L n p1) (fun v => .ok (g v)) = .ok y → p1 ≤ y.1 ∧ y.1 ≤ L.length := by
  intro n g hg hE
  rcases hT : bN L n p1 with k | v
  · rw [hT] at hE; cases hE
  rw [hT, qB] at hE
  obtain ⟨a, b⟩ := v
  obtain ⟨h7, h8, _, _⟩ := cK hT
  simp only [Except.ok.injEq] at hE
  rw [← hE, hg]
  dsimp only
  omega
 refine ⟨?_, ?_, h5, h6⟩
 all_goals
  split at hy
  ·
   split at hy
   · cases hy
   have := tk' 2 _ (fun v => rfl) hy; omega
  split at hy
  · have := tk' 3 _ (fun v => rfl) hy; omega
  split at hy
  · have := tk' 7 _ (fun v => rfl) hy; omega
  simp only [Except.ok.injEq] at hy; rw [← hy]; dsimp only; omega
def kK (bs : List Nat) (most p : Nat) (out : List Nat) : Except Nat (Bool × Nat × List Nat) :=
 bnd (bN (ofB bs) 1 p) fun x => bnd (bN (ofB bs) 2 x.2) fun k =>
  if ¬ k.1 < 3 then .error 3
  else bnd (if k.1 = 0 then mV bs most k.2 out
   else if k.1 = 1 then dL (ofB bs) cQ cX most (8 * bs.length + 1) k.2 out
   else bnd (rO (ofB bs) k.2) fun c => dL (ofB bs) c.2.1 c.2.2 most (8 * bs.length + 1) c.1 out) fun (r : Nat × List Nat) => .ok (decide (x.1 = 0), r)
def kT (bs : List Nat) (most : Nat) : Nat → Nat → List Nat → Except Nat (Nat × List Nat)
 | 0, _, _ => .error 99
 | f + 1, p, out => bnd (kK bs most p out) fun x => if x.1 then kT bs most f x.2.1 x.2.2 else .ok x.2
def jP (bs : List Nat) (most : Int) : Except Nat (List Nat × Nat) :=
 if most < 0 then .error 1 else bnd (kT bs most.toNat (8 * bs.length + 1) 0 []) fun x => .ok (x.2, (x.1 + 7) / 8)
end
section
open Go.RowKit
def Pan (c : Nat) : List PanicEntry := [{ v := .iface 25 (.int .i64 ((c : Nat) : Int)), recovered := false }]
def IsX (w : World) (gx gr : Nat) (Ar : Option Addr) (bs : List Nat) (p : Nat) (A : Option Addr) (c : Nat) (out : List Nat) (most : Nat) : Prop :=
 Blk w gx 150 #[.pointer (some ⟨gr, 0, none⟩), .slice A out.length c, .int .i64 ((most : Nat) : Int)] ∧ IsR w gr Ar bs p ∧ Own w 5 1 A out.length c (NB out) ∧ (∀ x ∈ ob A, x ∉ ob Ar) ∧ p ≤ 8 * bs.length ∧ out.length ≤ most ∧ ∀ x ∈ out, x < 256
section
variable {w w' : World} {gx gr : Nat} {Ar : Option Addr} {bs : List Nat} {p : Nat} {A : Option Addr} {c : Nat} {out : List Nat} {most : Nat} {S : List Nat}
theorem IsX.gxr (h : IsX w gx gr Ar bs p A c out most) : gx ≠ gr := h.1.ne h.2.1.choose_spec.1 jd
theorem IsX.grA (h : IsX w gx gr Ar bs p A c out most) : gr ∉ ob A := h.2.2.1.ne_blk h.2.1.choose_spec.1 jd
theorem IsX.gxA (h : IsX w gx gr Ar bs p A c out most) : gx ∉ ob A := h.2.2.1.ne_blk h.1 jd
theorem IsX.gxAr (h : IsX w gx gr Ar bs p A c out most) : gx ∉ ob Ar := h.2.1.choose_spec.2.ne_blk h.1 jd
theorem IsX.lt (h : IsX w gx gr Ar bs p A c out most) : gx < w.heap.size ∧ gr < w.heap.size ∧ (∀ x ∈ ob A, x < w.heap.size) ∧ ∀ x ∈ ob Ar, x < w.heap.size :=
 ⟨h.1.lt, h.2.1.lt gr jp, h.2.2.1.lt, fun x hx => h.2.1.lt x (by simp [hx])⟩
theorem IsX.turn {p' : Nat} (h : IsX w gx gr Ar bs p A c out most) (hR : IsR w' gr Ar bs p') (hf : Frm [gr] w w') (hp : p' ≤ 8 * bs.length) : IsX w' gx gr Ar bs p' A c out most :=
 ⟨h.1.frm hf (by simp; exact h.gxr), hR, h.2.2.1.frm hf (fun x hx h2 => h.grA (by simp at h2; subst h2; exact hx)), h.2.2.2.1, hp, h.2.2.2.2.2⟩
theorem IsX.frm (h : IsX w gx gr Ar bs p A c out most) (hf : Frm S w w') (hS : ∀ x ∈ gx :: gr :: (ob A ++ ob Ar), x ∉ S) : IsX w' gx gr Ar bs p A c out most :=
 ⟨h.1.frm hf (hS gx jp), h.2.1.frm hf (fun x hx => hS x (by rcases zbv.1 hx with rfl | hx <;> simp_all)), h.2.2.1.frm hf (fun x hx => hS x (by simp [hx])), h.2.2.2⟩
theorem IsX.frm0 (h : IsX w gx gr Ar bs p A c out most) (hf : Frm [] w w') : IsX w' gx gr Ar bs p A c out most := h.frm hf jp
end
theorem qT1 {bs : List Nat} {p n v k p' : Nat} (h : qTa bs p (n : Int) v k p') (hn : n ≤ 32) (hp : p ≤ 8 * bs.length) : (k = 0 ∧ bN (ofB bs) n p = .ok (v, p')) ∨ (k = 2 ∧ bN (ofB bs) n p = .error 2) := by
 rcases h with ⟨h, _⟩ | ⟨m, hm, _, h⟩
 · omega
 obtain rfl : n = m := jo
 unfold bN
 rw [bL]
 rcases h with ⟨h1, _, h2, _⟩ | ⟨h1, h2, h3, h4⟩
 · exact .inr ⟨h2, by rw [if_neg jo]⟩
 exact .inl ⟨h3, by rw [if_pos jo, h2, h4]⟩
theorem vW (k : Nat) (w : World) : Calls Tryz.prog 132 #[.int .i64 ((k : Nat) : Int)] w fun e w' => w = w' ∧ e = if k = 0 then .returned (.tuple #[]) else .panicked (Pan k) := by
 refine VC.calls (nt := 6) (res := #[]) Tryz.func132 rfl Tryz.ntmps132 Tryz.results132 rfl ?_
 refine jS (jR (jm rfl (jb rfl rfl (Bin.neqN _ 0) (jO (jN (jv2 0 3 ?_))))))
 refine jD rfl (fun hc1 => ?_) fun hc1 => ?_
 ·
  refine jR (jm rfl (je (Run.mkIface rfl Tryz.underlying25 rfl) ?_))
  refine Ops.pn rfl (bT ?_)
  exact ⟨rfl, by rw [if_neg hc1]; rfl⟩
 refine jQ ?_
 refine eM ?_
 exact ⟨rfl, by rw [if_pos (Classical.not_not.1 hc1)]⟩
theorem dS (b : Bool) (k : Nat) (w : World) : Calls Tryz.prog 114 #[.bool b, .int .i64 ((k : Nat) : Int)] w fun e w' => w = w' ∧ e = if b = true then .returned (.tuple #[]) else .panicked (Pan k) := by
 refine VC.calls (nt := 8) (res := #[]) Tryz.func114 rfl Tryz.ntmps114 Tryz.results114 rfl ?_
 refine jS (jR (jm rfl (je (Run.not rfl) (jO (jN (jv2 1 5 ?_))))))
 refine VC.condB rfl (fun hc1 => ?_) (fun hc1 => ?_)
 ·
  refine jR (jm rfl (je (Run.mkIface rfl Tryz.underlying25 rfl) ?_))
  refine Ops.pn rfl (bT ?_)
  exact ⟨rfl, by cases b <;> simp at hc1 ⊢; rfl⟩
 refine jQ ?_
 refine eM ?_
 exact ⟨rfl, by cases b <;> simp at hc1 ⊢⟩
theorem dG (gx gr n p : Nat) (Ar A : Option Addr) (bs : List Nat) (c : Nat) (out : List Nat) (most : Nat) (w : World) (hn : n ≤ 32) (hbs : bs.length ≤ 1000000) (hB : ∀ b ∈ bs, b < 256) (hX : IsX w gx gr Ar bs p A c out most) :
  Calls Tryz.prog 113 #[.pointer (some ⟨gx, 0, none⟩), .int .i64 ((n : Nat) : Int)] w fun e w' => Frm [gr] w w' ∧ match bN (ofB bs) n p with
   | .error k => e = .panicked (Pan k)
   | .ok x => e = .returned (.int .i64 ((x.1 : Nat) : Int)) ∧ IsX w' gx gr Ar bs x.2 A c out most := by
 have hp := hX.2.2.2.2.1
 refine VC.calls (nt := 20) (res := #[.tmp 4]) Tryz.func113 rfl Tryz.ntmps113 Tryz.results113 rfl ?_
 refine jS (jR (jz 0 (jO (jN (jv2 0 1 ?_)))))
 refine jS (jR (jm rfl (je (Run.nilck rfl) (jf rfl zav rfl zhd (jl rfl Tryz.isAgg147 (hX.1.cell 0) (jM ?_))))))
 refine Ops.cl (jE2 Tryz.call131) (qJ9 gr p n Ar bs _ hp jo hB hX.2.1) rfl ?_
 rintro e w1 ⟨v, k, p', rfl, hT, hp', hR1, hf1⟩
 refine ⟨_, rfl, ?_⟩
 have hX1 := hX.turn hR1 hf1 hp'
 refine jm rfl (je (Run.extract rfl rfl) (je (Run.extract rfl rfl) (ja rfl (ja rfl (jO (jN (jv2 5 6 ?_)))))))
 refine jS (jR (jM ?_))
 refine Ops.clp (jE1 Tryz.call132) (vW k _) rfl ?_
 rintro e _ ⟨rfl, rfl⟩
 rcases qT1 hT hn hp with ⟨rfl, hF⟩ | ⟨rfl, hF⟩
 rotate_left
 · exact .inr ⟨_, by rw [if_neg jd], qD (bT ⟨hf1, by rw [hF]⟩)⟩
 obtain ⟨_, _, hv, _⟩ := cK hF
 have hv2 : 2 ^ n ≤ 2 ^ 32 := zz jo hn
 refine .inl ⟨_, by rw [if_pos rfl], ?_⟩
 refine jO (jN (jv1 5 ?_))
 refine jS (jR (jm rfl (je (Run.convN v rfl zv zaa (by simp only [bmax]; omega)) (ja rfl (jO (jN (jv1 4 ?_)))))))
 refine jT ?_
 refine qT rfl ?_
 exact ⟨hf1, by rw [hF]; exact ⟨rfl, hX1⟩⟩
theorem vY (gx gr p gd : Nat) (Ar A Bd : Option Addr) (cd : Nat) (l : List Int) (bs : List Nat) (c : Nat) (out : List Nat) (most : Nat) (w : World) (hl : l.length ≤ 320) (hm : bE l ≤ 15) (hbs : bs.length ≤ 1000000) (hB : ∀ b ∈ bs, b < 256) (hX : IsX w gx gr Ar bs p A c out most)
  (hD : IsD w gd Bd cd (cn l) (bC l) (bG l) (bE l)) :
  Calls Tryz.prog 144 #[.pointer (some ⟨gx, 0, none⟩), .pointer (some ⟨gd, 0, none⟩)] w fun e w' => Frm [gr] w w' ∧ match jW (ofB bs) l p with
   | .error k => e = .panicked (Pan k)
   | .ok x => e = .returned (.int .i64 ((x.1 : Nat) : Int)) ∧ IsX w' gx gr Ar bs x.2 A c out most := by
 have hp := hX.2.2.2.2.1
 refine VC.calls (nt := 19) (res := #[.tmp 4]) Tryz.func144 rfl Tryz.ntmps144 Tryz.results144 rfl ?_
 refine jS (jR (jz 0 (jO (jN (jv2 0 1 ?_)))))
 refine jS (jR (jm rfl (jm rfl (je (Run.nilck rfl) (jf rfl zav rfl zhd (jl rfl Tryz.isAgg147 (hX.1.cell 0) ?_))))))
 refine Ops.cl (jE2 Tryz.call146) (qGr gd gr Bd Ar cd l (bE l) p bs _ hl hm hp jo hB hD hX.2.1) rfl ?_
 rintro e w1 ⟨rfl, hp', hR1, hf1⟩
 refine ⟨_, rfl, ?_⟩
 have hX1 := hX.turn hR1 hf1 hp'
 have hF : jW (ofB bs) l p = if (tk l (ofB bs) (bE l) 1 0 p).2.2 = 0 then .ok ((tk l (ofB bs) (bE l) 1 0 p).1, (tk l (ofB bs) (bE l) 1 0 p).2.1) else .error (tk l (ofB bs) (bE l) 1 0 p).2.2 := rfl
 generalize tk l (ofB bs) (bE l) 1 0 p = R at *
 obtain ⟨s, p', k⟩ := R
 dsimp only at hF hX1 ⊢
 refine jm rfl (je (Run.extract rfl rfl) (je (Run.extract rfl rfl) (ja rfl (ja rfl (jO (jN (jv2 5 6 ?_)))))))
 refine jS (jR (jM ?_))
 refine Ops.clp (jE1 Tryz.call132) (vW k _) rfl ?_
 rintro e _ ⟨rfl, rfl⟩
 by_cases hk : k = 0
 rotate_left
 · exact .inr ⟨_, by rw [if_neg hk], qD (bT ⟨hf1, by rw [hF, if_neg hk]⟩)⟩
 subst hk
 refine .inl ⟨_, by rw [if_pos rfl], ?_⟩
 refine jO (jN (jv1 5 ?_))
 refine jS (jR (jm rfl (ja rfl (jO (jN (jv1 4 ?_))))))
 refine jT ?_
 refine qT rfl ?_
 exact ⟨hf1, by rw [hF, if_pos rfl]; exact ⟨rfl, hX1⟩⟩
theorem qM4 (A : Option Addr) (c0 : Nat) (l : List Int) (w : World) (hl : l.length ≤ 1000000) (hr : Rd w 1 A l.length (IB l)) :
  Calls Tryz.prog 117 #[.slice A l.length c0] w fun e w' => Frm [] w w' ∧ if newE l = 0 then ∃ g B c, e = .returned (.pointer (some ⟨g, 0, none⟩)) ∧ IsD w' g B c (cn l) (bC l) (bG l) (bE l) ∧ ∀ x ∈ g :: ob B, w.heap.size ≤ x
   else e = .panicked (Pan 11) := by
 refine VC.calls (nt := 14) (res := #[.tmp 2]) Tryz.func117 rfl Tryz.ntmps117 Tryz.results117 rfl ?_
 refine jS (jR (ja rfl (jO (jN (jv1 0 ?_)))))
 refine jS (jR (jM ?_))
 refine Ops.cl (jE1 Tryz.call136) (qMn A c0 l _ hl hr) rfl ?_
 rintro e w1 ⟨hf1, he⟩
 obtain ⟨P, k, hee, hk, hPk⟩ : ∃ P k, e = .returned (.tuple #[.pointer P, .int .i64 ((k : Nat) : Int)]) ∧ (k = newE l) ∧ (k = 0 → ∃ g B c, P = some ⟨g, 0, none⟩ ∧ IsD w1 g B c (cn l) (bC l) (bG l) (bE l) ∧ ∀ x ∈ g :: ob B, w.heap.size ≤ x) := by
  by_cases h : newE l = 0
  ·
   rw [if_pos h] at he
   obtain ⟨g, B, c, h1, h2, h3⟩ := he
   exact ⟨_, 0, h1, h.symm, fun _ => ⟨g, B, c, rfl, h2, h3⟩⟩
  rw [if_neg h] at he
  exact ⟨_, _, he, rfl, fun h2 => absurd h2 h⟩
 clear he
 subst hee
 refine ⟨_, rfl, ?_⟩
 refine jm rfl (je (Run.extract rfl rfl) (je (Run.extract rfl rfl) (ja rfl (ja rfl (jO (jN (jv2 3 4 ?_)))))))
 refine jS (jR (jm rfl (jb rfl rfl (Bin.eqlN _ 0) ?_)))
 refine Ops.clp (jE2 zec) (dS (decide (k = 0)) 11 _) rfl ?_
 rintro e _ ⟨rfl, rfl⟩
 by_cases hk0 : k = 0
 rotate_left
 · exact .inr ⟨_, by rw [if_neg (by simpa using hk0)], qD (bT ⟨hf1, by rw [if_neg jo]⟩)⟩
 refine .inl ⟨_, by rw [if_pos (by simpa using hk0)], ?_⟩
 obtain ⟨g, B, c, rfl, h2, h3⟩ := hPk hk0
 refine jO (jN (jv1 3 ?_))
 refine jS (jR (jm rfl (ja rfl (jO (jN (jv1 2 ?_))))))
 refine jT ?_
 refine qT rfl ?_
 exact ⟨hf1, by rw [if_pos jo]; exact ⟨g, B, c, rfl, h2, h3⟩⟩
end
section
open Go.RowKit
def LC (p : Nat × Nat) : List Value := [.int .i64 ((p.1 : Nat) : Int), .int .i64 ((p.2 : Nat) : Int)]
theorem vG (p : Nat × Nat) : (LC p).length = 2 := rfl
theorem mB (p : Nat × Nat) : ∀ v ∈ LC p, v.oneCell' = true := by
 intro v hv
 simp only [LC, zbv, zbm, or_false] at hv
 rcases hv with rfl | rfl <;> rfl
def nextL (i : Nat) : Nat := if i < 28 then (longT.getD i (0, 0)).1 else 259
theorem qM5 : ∀ i, i < 28 → (if (0 : Int) < ((i / 4 : Nat) : Int) - 1 then ((i / 4 : Nat) : Int) - 1 else 0) = (((longT.getD i (0, 0)).2 : Nat) : Int) ∧ nextL i + 2 ^ (longT.getD i (0, 0)).2 = nextL (i + 1) ∧ (longT.getD i (0, 0)).2 ≤ 5 ∧ nextL i ≤ 258 ∧ longT.getD i (0, 0) = (nextL i, (longT.getD i (0, 0)).2) := by decide +kernel
def nextW (i : Nat) : Nat := if i < 30 then (wayT.getD i (0, 0)).1 else 32769
theorem qRs : ∀ i, i < 30 → (if (0 : Int) < ((i / 2 : Nat) : Int) - 1 then ((i / 2 : Nat) : Int) - 1 else 0) = (((wayT.getD i (0, 0)).2 : Nat) : Int) ∧ nextW i + 2 ^ (wayT.getD i (0, 0)).2 = nextW (i + 1) ∧ (wayT.getD i (0, 0)).2 ≤ 13 ∧ nextW i ≤ 24577 ∧ wayT.getD i (0, 0) = (nextW i, (wayT.getD i (0, 0)).2) := by decide +kernel
def mC (t : List (Nat × Nat)) (n i : Nat) : List (Nat × Nat) := (List.range n).map fun k => if k < i then t.getD k (0, 0) else (0, 0)
theorem yU (t : List (Nat × Nat)) (n i : Nat) : (mC t n i).length = n := by simp [mC]
theorem qKl (t : List (Nat × Nat)) (n i : Nat) (h : i < n) : (mC t n i).set i (t.getD i (0, 0)) = mC t n (i + 1) := by
 apply zao
 intro j
 by_cases hj : j = i
 ·
  subst hj
  rw [zdk (by simp [mC, h])]
  simp [mC, h]
 rw [zef (Ne.symm hj)]
 by_cases hn : j < n
 · simp [mC, hn, show j < i + 1 ↔ j < i by omega]
 simp [mC, hn]
theorem qZe {w : World} {e size n c g : Nat} {xs : List Value} (h : Own w e size (some ⟨g, 0, none⟩) n c xs) (hn : 0 < n) : ∀ j v, xs[j]? = some v → w.cell? ((⟨g, 0, none⟩ : Addr).add j) = some v := by
 obtain ⟨ad, hA, _, hc⟩ := h.rd.2 hn
 injection hA with hA
 subst hA
 exact hc
theorem uM (w : World) : Calls Tryz.prog 123 #[] w fun e w' => e = .returned (.agg (longT.flatMap LC).toArray) ∧ Frm [] w w' := by
 refine VC.calls (nt := 25) (res := #[.cell 0 204]) Tryz.func123 rfl Tryz.ntmps123 Tryz.results123 rfl ?_
 refine jS (jR ?_)
 refine Ops.m (qV.alloc qQ8) rfl ?_
 rintro _ w1 ⟨rfl, hF1⟩
 have hb1 := hF1.blk
 refine jO (jN (jS (jR ?_)))
 refine Ops.m (qV.alloc qQ8) rfl ?_
 rintro _ w2 ⟨rfl, hF2⟩
 have hb12 := hb1.frm hF2.frm jp
 have hfr2 := hF1.frm.own hF2.frm jp
 have ho2 : Own w2 204 2 (some ⟨w1.heap.size, 0, none⟩) 29 29 ((mC longT 29 0).flatMap LC) := Own.of_blk (n := 29) hF2.blk rfl jd
 have hne : w.heap.size ≠ w1.heap.size := by have := hb1.lt; omega
 have hge : w.heap.size ≤ w1.heap.size := hF1.frm.size
 generalize hg1 : w1.heap.size = g1 at *
 generalize hg0 : w.heap.size = g0 at hb12 hne hge ⊢
 refine jO (jN (jS (jR (jz 3 (jO (jN (jS (jS (jR ?_)))))))))
 refine jx .i64 0 ?_
 refine jO (jN (jB ?_))
 refine VC.loop (σ := Nat) (fun s => [(0, .pointer (some ⟨g0, 0, none⟩)), (1, .pointer (some ⟨g1, 0, none⟩)), (2, .int .i64 ((nextL s : Nat) : Int)), (5, .int .i64 ((s : Nat) : Int))]) (fun s wr => s ≤ 28 ∧ Blk wr g0 204 (Value.agg #[.int .i64 0, .int .i64 0, .int .i64 0, .int .i64 0, .int .i64 0, .int .i64 0, .int .i64 0, .int .i64 0, .int .i64 0, .int .i64 0, .int .i64 0, .int .i64 0, .int .i64 0, .int .i64 0, .int .i64 0, .int .i64 0, .int .i64 0, .int .i64 0, .int .i64 0, .int .i64 0, .int .i64 0, .int .i64 0, .int .i64 0, .int .i64 0, .int .i64 0, .int .i64 0, .int .i64 0, .int .i64 0, .int .i64 0, .int .i64 0, .int .i64 0, .int .i64 0, .int .i64 0, .int .i64 0, .int .i64 0, .int .i64 0, .int .i64 0, .int .i64 0, .int .i64 0, .int .i64 0, .int .i64 0, .int .i64 0, .int .i64 0, .int .i64 0, .int .i64 0, .int .i64 0, .int .i64 0, .int .i64 0, .int .i64 0, .int .i64 0, .int .i64 0, .int .i64 0, .int .i64 0, .int .i64 0, .int .i64 0, .int .i64 0, .int .i64 0, .int .i64 0]).cells ∧ Own wr 204 2 (some ⟨g1, 0, none⟩) 29 29 ((mC longT 29 s).flatMap LC) ∧ Frm [] w wr) (fun s => 28 - s) 0 (js4 rfl rfl rfl rfl) ⟨jo, hb12, ho2, hfr2⟩ ?_
 rintro i wr ⟨hi, hbr, hor, hfr⟩
 refine jS (jR (jb rfl rfl (Bin.lssN _ 28) (jO (jN (jS ?_)))))
 refine jD rfl (fun hc1 => ?_) fun hc1 => ?_
 ·
  obtain ⟨hs1, hs2, hs3, hs4, hs5⟩ := qM5 i hc1
  refine jQ (jN (jv4 0 1 2 5 ?_))
  refine jS (jB (jS (jR (jm rfl (ja rfl (jO (jN (jv5 0 1 2 3 5 ?_))))))))
  refine jS (jR (jm rfl (jb rfl rfl (Bin.quo_i64 _ 4 jo jo) (jb rfl rfl (Bin.subZ _ 1 jo jo) (je (Run.maxI rfl rfl) ?_)))))
  rw [hs1]
  refine ja rfl (jO (jN (jv6 0 1 2 3 4 5 ?_)))
  refine jS (jR (jm rfl (jm rfl (jm rfl (je (Run.build (evs.cons rfl (evs.cons rfl evs.nil)) sY (mX).choose_spec.1 (mX).choose_spec.2 (cells := (LC (nextL i, (longT.getD i (0, 0)).2)).toArray) rfl) (je (Run.indexA i rfl rfl zfr zcy jo) ?_))))))
  refine Ops.st (qR.storeOwnA LC (nextL i, (longT.getD i (0, 0)).2) i rfl rfl zcy vG (yU _ _ _) hor rfl jo (mB _)) ?_
  rintro w3 ⟨ho3, hf3, hs3'⟩
  rw [← hs5, qKl _ _ _ jo] at ho3
  refine jO (jN (jv5 0 1 2 4 5 ?_))
  refine jR (jm rfl (jm rfl (jb rfl rfl (Bin.shl_i64 1 (longT.getD i (0, 0)).2 jo (by have := zz (n := 2) jo hs3; omega)) (jb rfl rfl (Bin.add_i64 (nextL i) (1 * 2 ^ (longT.getD i (0, 0)).2) (by have := zz (n := 2) jo hs3; omega)) ?_))))
  rw [zgs, hs2]
  refine ja rfl (jO ?_)
  refine qJ (jN ?_)
  refine jv4 0 1 2 5 ?_
  refine jR (jb rfl rfl (Bin.add_i64 _ 1 jo) (jm rfl (jO ?_)))
  refine jN ⟨(i + 1), (js4 rfl rfl rfl rfl), ?_, ?_⟩
  · exact ⟨hc1, hbr.frm hf3 (by simp [ob]; exact hne), ho3, hfr.own hf3 (fun x hx => by simp [ob] at hx; omega)⟩
  first | omega | (dsimp only; omega)
 have him : i = 28 := jo
 subst him
 refine jX ?_
 refine qZ (qZ (qW ?_))
 refine jN (jv2 0 1 ?_)
 refine jS (jR (je (Run.build (evs.cons rfl (evs.cons rfl evs.nil)) sY (mX).choose_spec.1 (mX).choose_spec.2 (cells := (LC (258, 0)).toArray) rfl) (je (Run.indexA 28 rfl rfl zfr zcy jo) ?_)))
 refine Ops.st (qR.storeOwnA LC (258, 0) 28 rfl rfl zcy vG (yU _ _ _) hor rfl jo (mB _)) ?_
 rintro w4 ⟨ho4, hf4, hs4⟩
 have hup : (mC longT 29 28).set 28 (258, 0) = longT := by decide +kernel
 rw [hup] at ho4
 have hb4 := hbr.frm hf4 (by simp [ob]; exact hne)
 have hfr4 := hfr.own hf4 (fun x hx => by simp [ob] at hx; omega)
 refine jO (jN (jv2 0 1 ?_))
 refine jS (jR (je (Run.loadA rfl Tryz.isAgg204 Tryz.sizeOf204 (qZe ho4 jo) rfl) ?_))
 refine Ops.st (qR.storeA rfl rfl Tryz.sizeOf204 hb4 rfl (lY LC mB longT)) ?_
 rintro w5 ⟨hb5, hf5, hs5⟩
 refine jO (jN (jv1 0 ?_))
 refine jT ?_
 refine mR ?_
 refine fC rfl Tryz.isAgg204 Tryz.sizeOf204 (hb5) rfl ?_
 refine eF ?_
 exact ⟨rfl, hfr4.own hf5 (fun x hx => by simp at hx; omega)⟩
theorem qQb (w : World) : Calls Tryz.prog 124 #[] w fun e w' => e = .returned (.agg (wayT.flatMap LC).toArray) ∧ Frm [] w w' := by
 refine VC.calls (nt := 23) (res := #[.cell 0 206]) Tryz.func124 rfl Tryz.ntmps124 Tryz.results124 rfl ?_
 refine jS (jR ?_)
 refine Ops.m (qV.alloc qQ9) rfl ?_
 rintro _ w1 ⟨rfl, hF1⟩
 have hb1 := hF1.blk
 refine jO (jN (jS (jR ?_)))
 refine Ops.m (qV.alloc qQ9) rfl ?_
 rintro _ w2 ⟨rfl, hF2⟩
 have hb12 := hb1.frm hF2.frm jp
 have hfr2 := hF1.frm.own hF2.frm jp
 have ho2 : Own w2 206 2 (some ⟨w1.heap.size, 0, none⟩) 30 30 ((mC wayT 30 0).flatMap LC) := Own.of_blk (n := 30) hF2.blk rfl jd
 have hne : w.heap.size ≠ w1.heap.size := by have := hb1.lt; omega
 have hge : w.heap.size ≤ w1.heap.size := hF1.frm.size
 generalize hg1 : w1.heap.size = g1 at *
 generalize hg0 : w.heap.size = g0 at hb12 hne hge ⊢
 refine jO (jN (jS (jR (jz 1 (jO (jN (jS (jS (jR ?_)))))))))
 refine jx .i64 0 ?_
 refine jO (jN (jB ?_))
 refine VC.loop (σ := Nat) (fun s => [(0, .pointer (some ⟨g0, 0, none⟩)), (1, .pointer (some ⟨g1, 0, none⟩)), (2, .int .i64 ((nextW s : Nat) : Int)), (5, .int .i64 ((s : Nat) : Int))]) (fun s wr => s ≤ 30 ∧ Blk wr g0 206 (Value.agg #[.int .i64 0, .int .i64 0, .int .i64 0, .int .i64 0, .int .i64 0, .int .i64 0, .int .i64 0, .int .i64 0, .int .i64 0, .int .i64 0, .int .i64 0, .int .i64 0, .int .i64 0, .int .i64 0, .int .i64 0, .int .i64 0, .int .i64 0, .int .i64 0, .int .i64 0, .int .i64 0, .int .i64 0, .int .i64 0, .int .i64 0, .int .i64 0, .int .i64 0, .int .i64 0, .int .i64 0, .int .i64 0, .int .i64 0, .int .i64 0, .int .i64 0, .int .i64 0, .int .i64 0, .int .i64 0, .int .i64 0, .int .i64 0, .int .i64 0, .int .i64 0, .int .i64 0, .int .i64 0, .int .i64 0, .int .i64 0, .int .i64 0, .int .i64 0, .int .i64 0, .int .i64 0, .int .i64 0, .int .i64 0, .int .i64 0, .int .i64 0, .int .i64 0, .int .i64 0, .int .i64 0, .int .i64 0, .int .i64 0, .int .i64 0, .int .i64 0, .int .i64 0, .int .i64 0, .int .i64 0]).cells ∧ Own wr 206 2 (some ⟨g1, 0, none⟩) 30 30 ((mC wayT 30 s).flatMap LC) ∧ Frm [] w wr) (fun s => 30 - s) 0 (js4 rfl rfl rfl rfl) ⟨jo, hb12, ho2, hfr2⟩ ?_
 rintro i wr ⟨hi, hbr, hor, hfr⟩
 refine jS (jR (jb rfl rfl (Bin.lssN _ 30) (jO (jN (jS ?_)))))
 refine jD rfl (fun hc1 => ?_) fun hc1 => ?_
 ·
  obtain ⟨hs1, hs2, hs3, hs4, hs5⟩ := qRs i hc1
  refine jQ (jN (jv4 0 1 2 5 ?_))
  refine jS (jB (jS (jR (jm rfl (ja rfl (jO (jN (jv5 0 1 2 3 5 ?_))))))))
  refine jS (jR (jm rfl (jb rfl rfl (Bin.quo_i64 _ 2 jo jo) (jb rfl rfl (Bin.subZ _ 1 jo jo) (je (Run.maxI rfl rfl) ?_)))))
  rw [hs1]
  refine ja rfl (jO (jN (jv6 0 1 2 3 4 5 ?_)))
  refine jS (jR (jm rfl (jm rfl (jm rfl (je (Run.build (evs.cons rfl (evs.cons rfl evs.nil)) sY (mX).choose_spec.1 (mX).choose_spec.2 (cells := (LC (nextW i, (wayT.getD i (0, 0)).2)).toArray) rfl) (je (Run.indexA i rfl rfl zgq zcy jo) ?_))))))
  refine Ops.st (qR.storeOwnA LC (nextW i, (wayT.getD i (0, 0)).2) i rfl rfl zcy vG (yU _ _ _) hor rfl jo (mB _)) ?_
  rintro w3 ⟨ho3, hf3, hs3'⟩
  rw [← hs5, qKl _ _ _ jo] at ho3
  refine jO (jN (jv5 0 1 2 4 5 ?_))
  refine jR (jm rfl (jm rfl (jb rfl rfl (Bin.shl_i64 1 (wayT.getD i (0, 0)).2 jo (by have := zz (n := 2) jo hs3; omega)) (jb rfl rfl (Bin.add_i64 (nextW i) (1 * 2 ^ (wayT.getD i (0, 0)).2) (by have := zz (n := 2) jo hs3; omega)) ?_))))
  rw [zgs, hs2]
  refine ja rfl (jO ?_)
  refine qJ (jN ?_)
  refine jv4 0 1 2 5 ?_
  refine jR (jb rfl rfl (Bin.add_i64 _ 1 jo) (jm rfl (jO ?_)))
  refine jN ⟨(i + 1), (js4 rfl rfl rfl rfl), ?_, ?_⟩
  · exact ⟨hc1, hbr.frm hf3 (by simp [ob]; exact hne), ho3, hfr.own hf3 (fun x hx => by simp [ob] at hx; omega)⟩
  first | omega | (dsimp only; omega)
 have him : i = 30 := jo
 subst him
 refine jX ?_
 refine qZ (qZ (qW ?_))
 refine jN (jv2 0 1 ?_)
 refine jS (jR ?_)
 have hup : mC wayT 30 30 = wayT := by decide +kernel
 rw [hup] at hor
 refine je (Run.loadA rfl Tryz.isAgg206 Tryz.sizeOf206 (qZe hor jo) rfl) ?_
 refine Ops.st (qR.storeA rfl rfl Tryz.sizeOf206 hbr rfl (lY LC mB wayT)) ?_
 rintro w5 ⟨hb5, hf5, hs5⟩
 refine jO (jN (jv1 0 ?_))
 refine jT ?_
 refine mR ?_
 refine fC rfl Tryz.isAgg206 Tryz.sizeOf206 (hb5) rfl ?_
 refine eF ?_
 exact ⟨rfl, hfr.own hf5 (fun x hx => by simp at hx; omega)⟩
theorem qWh (w : World) : Calls Tryz.prog 137 #[] w fun e w' => e = .returned (.agg (NI bX).toArray) ∧ Frm [] w w' := by
 refine VC.calls (nt := 2) (res := #[.cell 0 111]) Tryz.func137 rfl Tryz.ntmps137 Tryz.results137 rfl ?_
 refine jS (jR ?_)
 refine Ops.m (qV.alloc sJ) rfl ?_
 rintro _ w1 ⟨rfl, hF1⟩
 have hb1 := hF1.blk
 generalize hg0 : w.heap.size = g0 at *
 refine jO (jN (jS (jR (je (Run.buildA (evs.cons rfl (evs.cons rfl (evs.cons rfl (evs.cons rfl (evs.cons rfl (evs.cons rfl (evs.cons rfl (evs.cons rfl (evs.cons rfl (evs.cons rfl (evs.cons rfl (evs.cons rfl (evs.cons rfl (evs.cons rfl (evs.cons rfl (evs.cons rfl (evs.cons rfl (evs.cons rfl (evs.cons rfl evs.nil))))))))))))))))))) sJ zfg zc (cells := (NI bX).toArray) jK) ?_))))
 refine Ops.st (qR.storeA rfl rfl Tryz.sizeOf111 hb1 rfl (fH bX)) ?_
 rintro w5 ⟨hb5, hf5, hs5⟩
 refine jO (jN (jv1 0 ?_))
 refine jT ?_
 refine mR ?_
 refine fC rfl Tryz.isAgg111 Tryz.sizeOf111 (hb5) rfl ?_
 refine eF ?_
 exact ⟨rfl, hF1.frm.own hf5 (fun x hx => by simp at hx; omega)⟩
end
section
open Go.RowKit
theorem tW : ∀ i, i < 288 → cQ.getD i 0 = if 144 ≤ i ∧ i < 256 then 9 else if 256 ≤ i ∧ i < 280 then 7 else 8 := by decide +kernel
theorem tY (i : Nat) (h : i < 288) : cQ.take (i + 1) = cQ.take i ++ [if 144 ≤ i ∧ i < 256 then 9 else if 256 ≤ i ∧ i < 280 then 7 else 8] := by
 have hl : i < cQ.length := by rw [show cQ.length = 288 by decide +kernel]; exact h
 rw [zah, zb hl, ← tW i h]
 simp [List.getD, zb hl]
theorem qWi (i : Nat) (h : i < 32) : cX.take (i + 1) = cX.take i ++ [5] := by
 have : ∀ i, i < 32 → cX.take (i + 1) = cX.take i ++ [5] := by decide +kernel
 exact this i h
theorem qQc : newE cQ = 0 ∧ newE cX = 0 ∧ bE cQ = 15 ∧ bE cX = 15 := by decide +kernel
theorem sP (l : List Int) (x : Int) : IB (l ++ [x]) = IB l ++ [.int .i64 x] := by simp [IB]
theorem qBk (a b : List Nat) : NB (a ++ b) = NB a ++ NB b := by simp [NB]
theorem IsX.app {w w1 w2 : World} {gx gr : Nat} {Ar A A' : Option Addr} {bs : List Nat} {p c c' m : Nat} {out news : List Nat} {most : Nat} (h : IsX w gx gr Ar bs p A c out most) (ho : Own w1 5 1 A' (out.length + m) c' (NB out ++ NB news)) (hf1 : Frm (ob A) w w1) (hob : ob A' = ob A ∨ ob A' = [w.heap.size])
  (hb : Blk w2 gx 150 #[.pointer (some ⟨gr, 0, none⟩), .slice A' (out.length + m) c', .int .i64 ((most : Nat) : Int)]) (hf2 : Frm [gx] w1 w2) (hm : news.length = m) (hle : out.length + m ≤ most) (hlt : ∀ x ∈ news, x < 256) :
  IsX w2 gx gr Ar bs p A' c' (out ++ news) most ∧ Frm (gx :: ob A) w w2 ∧ ∀ x ∈ ob A', x ∈ ob A ∨ w.heap.size ≤ x := by
 have hl : (out ++ news).length = out.length + m := by rw [za, hm]
 have hu : ∀ x ∈ ob A', x ∈ ob A ∨ w.heap.size ≤ x := fun x hx => by
  rcases hob with h5 | h5 <;> rw [h5] at hx
  · exact .inl hx
  simp at hx; exact .inr jo
 have hlw := h.lt
 have hfr : Frm (gx :: ob A) w w2 := (hf1.mono (T := gx :: ob A) (fun x hx => .inl (by simp [hx]))).trans hf2 (fun x hx => .inl (by simp at hx; simp [hx]))
 refine ⟨⟨by rw [hl]; exact hb, ?_, ?_, ?_, h.2.2.2.2.1, by rw [hl]; exact hle, fun x hx => ?_⟩, hfr, hu⟩
 ·
  refine h.2.1.frm hfr (fun x hx h5 => ?_)
  rcases zbv.1 hx with rfl | hx
  ·
   rcases zbv.1 h5 with h6 | h6
   · exact h.gxr h6.symm
   exact h.grA h6
  rcases zbv.1 h5 with h6 | h6
  · subst h6; exact h.gxAr hx
  exact h.2.2.2.1 x h6 hx
 ·
  rw [hl, qBk]
  refine ho.frm hf2 (fun x hx h5 => ?_)
  simp at h5
  subst h5
  rcases hu x hx with h6 | h6
  · exact h.gxA h6
  omega
 ·
  intro x hx h5
  rcases hu x hx with h6 | h6
  · exact h.2.2.2.1 x h6 h5
  have := hlw.2.2.2 x h5; omega
 rcases List.mem_append.1 hx with h5 | h5
 · exact h.2.2.2.2.2.2 x h5
 exact hlt x h5
theorem xY (w : World) : Calls Tryz.prog 56 #[] w fun e w' => ∃ A c B d, e = .returned (.tuple #[.slice A 288 c, .slice B 32 d]) ∧ Own w' 3 1 A 288 c (IB cQ) ∧ Own w' 3 1 B 32 d (IB cX) ∧ Frm [] w w' := by
 refine VC.calls (nt := 36) (res := #[.tmp 0, .tmp 1]) Tryz.func56 rfl Tryz.ntmps56 Tryz.results56 rfl ?_
 refine jS (jR (ja rfl (ja rfl (jO (jN ?_)))))
 refine VC.sub [] .nil ?_
 refine jS (jR (ja rfl (ja rfl (jO (jN (jS (jS (jR ?_))))))))
 refine jx .i64 0 ?_
 refine jO (jN (jB ?_))
 refine VC.loop (σ := Nat × Option Addr × Nat) (fun s => [(2, .slice s.2.1 s.1 s.2.2), (3, .slice none 0 0), (6, .int .i64 ((s.1 : Nat) : Int))]) (fun s wr => s.1 ≤ 288 ∧ Own wr 3 1 s.2.1 s.1 s.2.2 (IB (cQ.take s.1)) ∧ Frm [] w wr ∧ ∀ x ∈ ob s.2.1, w.heap.size ≤ x) (fun s => 288 - s.1) (0, none, 0) (js3 rfl rfl rfl) ⟨jo, Own.nil _ _ _, Frm.refl _ _, jF⟩ ?_
 rintro ⟨i, A, c⟩ wr ⟨hi, hor, hfr, hu⟩
 dsimp only at hi hor hfr hu ⊢
 refine jS (jR (jb rfl rfl (Bin.lssN _ 288) (jO (jN (jS ?_)))))
 refine jD rfl (fun hc1 => ?_) fun hc1 => ?_
 ·
  refine jQ (jN (jv3 2 3 6 ?_))
  refine jS (jB (jS (jR (jm rfl (ja rfl (jO (jN (jv4 2 3 4 6 ?_))))))))
  refine jS (jR (jz 8 (jO (jN (jS (jB (jS ?_)))))))
  refine VC.split1 [(2, _), (3, _), (4, _), (5, _), (6, _)] (js5 rfl rfl rfl rfl rfl) 9 (.bool (decide ((144 ≤ i) ∧ (i < 256)))) ?_ ?_
  ·
   by_cases hs0 : 144 ≤ i
   ·
    refine jR (jm rfl (jb rfl rfl (Bin.geqN _ 144) (jM ?_)))
    refine jG ?_
    refine jk (Run.bin rfl rfl (Bin.lssN _ 256)) ?_
    refine je (Run.pickT rfl rfl au) (ja rfl (jO ?_))
    refine jN ⟨(js6 (by rw [sE hs0]; rfl) rfl rfl rfl rfl rfl), rfl⟩
   refine jR (jm rfl (jb rfl rfl (Bin.geqN _ 144) (jM ?_)))
   refine jU ?_
   refine jU ?_
   refine je (Run.pickF rfl rfl au) (ja rfl (jO ?_))
   refine jN ⟨(js6 (by rw [sF hs0]; rfl) rfl rfl rfl rfl rfl), rfl⟩
  intro Γ hΓ
  refine jN (VC.sub _ hΓ ?_)
  refine jD rfl (fun hc2 => ?_) fun hc2 => ?_
  ·
   refine jR (jz 9 (jO ?_))
   refine qJ (jN ?_)
   refine jv4 2 3 5 6 ?_
   refine jR (jm rfl (jM ?_))
   refine Ops.m (qV.buildS1 rfl zd zc fS jd jd rfl rfl) rfl ?_
   rintro _ w3 ⟨rfl, hF3⟩
   have hrd3 : Rd w3 1 (some ⟨_, 0, none⟩) 1 [.int .i64 9] := Rd.of_blk (n := 1) (size := 1) hF3.blk rfl
   refine Ops.m (qV.app rfl rfl zd (dX) rfl jd (hor.frm hF3.frm jp) hrd3 (by simp [Value.oneCell']) jo jo) rfl ?_
   rintro _ w4 ⟨B4, c4, rfl, ho4, hf4, hob4⟩
   have hsz := (hfr.own hF3.frm jp).size
   have hfr4 : Frm [] w w4 := (hfr.own hF3.frm jp).own hf4 hu
   refine ja rfl (jO ?_)
   refine qJ (jN ?_)
   refine jv3 2 3 6 ?_
   refine jR (jb rfl rfl (Bin.add_i64 _ 1 jo) (jm rfl (jO ?_)))
   refine jN ⟨(i + 1, B4, c4), (js3 rfl rfl rfl), ?_, ?_⟩
   ·
    refine ⟨by dsimp only; omega, ?_, hfr4, cG hu hob4 hsz⟩
    dsimp only
    rw [tY i hc1, if_pos hc2, sP]
    exact ho4
   first | omega | (dsimp only; omega)
  refine jS ?_
  refine VC.split1 [(2, _), (3, _), (5, _), (6, _)] (js4 rfl rfl rfl rfl) 16 (.bool (decide ((256 ≤ i) ∧ (i < 280)))) ?_ ?_
  ·
   by_cases hs0 : 256 ≤ i
   ·
    refine jR (jm rfl (jb rfl rfl (Bin.geqN _ 256) (jM ?_)))
    refine jG ?_
    refine jk (Run.bin rfl rfl (Bin.lssN _ 280)) ?_
    refine je (Run.pickT rfl rfl au) (ja rfl (jO ?_))
    refine jN ⟨(js5 (by rw [sE hs0]; rfl) rfl rfl rfl rfl), rfl⟩
   refine jR (jm rfl (jb rfl rfl (Bin.geqN _ 256) (jM ?_)))
   refine jU ?_
   refine jU ?_
   refine je (Run.pickF rfl rfl au) (ja rfl (jO ?_))
   refine jN ⟨(js5 (by rw [sF hs0]; rfl) rfl rfl rfl rfl), rfl⟩
  intro Γ hΓ
  refine jN (VC.sub _ hΓ ?_)
  refine jD rfl (fun hc3 => ?_) fun hc3 => ?_
  ·
   refine jR (jz 7 (jO ?_))
   refine qJ (jN ?_)
   refine jv4 2 3 5 6 ?_
   refine jR (jm rfl (jM ?_))
   refine Ops.m (qV.buildS1 rfl zd zc fS jd jd rfl rfl) rfl ?_
   rintro _ w3 ⟨rfl, hF3⟩
   have hrd3 : Rd w3 1 (some ⟨_, 0, none⟩) 1 [.int .i64 7] := Rd.of_blk (n := 1) (size := 1) hF3.blk rfl
   refine Ops.m (qV.app rfl rfl zd (dX) rfl jd (hor.frm hF3.frm jp) hrd3 (by simp [Value.oneCell']) jo jo) rfl ?_
   rintro _ w4 ⟨B4, c4, rfl, ho4, hf4, hob4⟩
   have hsz := (hfr.own hF3.frm jp).size
   have hfr4 : Frm [] w w4 := (hfr.own hF3.frm jp).own hf4 hu
   refine ja rfl (jO ?_)
   refine qJ (jN ?_)
   refine jv3 2 3 6 ?_
   refine jR (jb rfl rfl (Bin.add_i64 _ 1 jo) (jm rfl (jO ?_)))
   refine jN ⟨(i + 1, B4, c4), (js3 rfl rfl rfl), ?_, ?_⟩
   ·
    refine ⟨by dsimp only; omega, ?_, hfr4, cG hu hob4 hsz⟩
    dsimp only
    rw [tY i hc1, if_neg hc2, if_pos hc3, sP]
    exact ho4
   first | omega | (dsimp only; omega)
  refine jQ ?_
  refine qJ (jN ?_)
  refine jv4 2 3 5 6 ?_
  refine jR (jm rfl (jM ?_))
  refine Ops.m (qV.buildS1 rfl zd zc fS jd jd rfl rfl) rfl ?_
  rintro _ w3 ⟨rfl, hF3⟩
  have hrd3 : Rd w3 1 (some ⟨_, 0, none⟩) 1 [.int .i64 8] := Rd.of_blk (n := 1) (size := 1) hF3.blk rfl
  refine Ops.m (qV.app rfl rfl zd (dX) rfl jd (hor.frm hF3.frm jp) hrd3 (by simp [Value.oneCell']) jo jo) rfl ?_
  rintro _ w4 ⟨B4, c4, rfl, ho4, hf4, hob4⟩
  have hsz := (hfr.own hF3.frm jp).size
  have hfr4 : Frm [] w w4 := (hfr.own hF3.frm jp).own hf4 hu
  refine ja rfl (jO ?_)
  refine qJ (jN ?_)
  refine jv3 2 3 6 ?_
  refine jR (jb rfl rfl (Bin.add_i64 _ 1 jo) (jm rfl (jO ?_)))
  refine jN ⟨(i + 1, B4, c4), (js3 rfl rfl rfl), ?_, ?_⟩
  ·
   refine ⟨by dsimp only; omega, ?_, hfr4, cG hu hob4 hsz⟩
   dsimp only
   rw [tY i hc1, if_neg hc2, if_neg hc3, sP]
   exact ho4
  first | omega | (dsimp only; omega)
 have hin : i = 288 := jo
 subst hin
 have hb : Own wr 3 1 none 0 0 (IB (cX.take 0)) := Own.nil _ _ _
 rw [show cQ.take 288 = cQ from rfl] at hor
 refine jX ?_
 refine qZ (qZ (qW ?_))
 refine jN (jv2 2 3 ?_)
 refine jS (jS (jR ?_))
 refine jx .i64 0 ?_
 refine jO (jN (jB ?_))
 refine VC.loop (σ := Nat × Option Addr × Nat) (fun s => [(2, .slice A 288 c), (3, .slice s.2.1 s.1 s.2.2), (28, .int .i64 ((s.1 : Nat) : Int))]) (fun s wr => s.1 ≤ 32 ∧ Own wr 3 1 A 288 c (IB cQ) ∧ Own wr 3 1 s.2.1 s.1 s.2.2 (IB (cX.take s.1)) ∧ Frm [] w wr ∧ (∀ x ∈ ob s.2.1, w.heap.size ≤ x) ∧ ∀ x ∈ ob s.2.1, x ∉ ob A) (fun s => 32 - s.1) (0, none, 0) (js3 rfl rfl rfl) ⟨jo, hor, hb, hfr, jF, by simp [ob]⟩ ?_
 rintro ⟨i, B, d⟩ wr2 ⟨hi, hoa, hor, hfr, hu, hne⟩
 dsimp only at hi hoa hor hfr hu hne ⊢
 have hltA := hoa.lt
 refine jS (jR (jb rfl rfl (Bin.lssN _ 32) (jO (jN (jS ?_)))))
 refine jD rfl (fun hc4 => ?_) fun hc4 => ?_
 ·
  refine jQ (jN (jv3 2 3 28 ?_))
  refine jS (jB (jR (jM ?_)))
  refine Ops.m (qV.buildS1 rfl zd zc fS jd jd rfl rfl) rfl ?_
  rintro _ w3 ⟨rfl, hF3⟩
  have hrd3 : Rd w3 1 (some ⟨_, 0, none⟩) 1 [.int .i64 5] := Rd.of_blk (n := 1) (size := 1) hF3.blk rfl
  refine Ops.m (qV.app rfl rfl zd (dX) rfl jd (hor.frm hF3.frm jp) hrd3 (by simp [Value.oneCell']) jo jo) rfl ?_
  rintro _ w4 ⟨B4, c4, rfl, ho4, hf4, hob4⟩
  have hsz := (hfr.own hF3.frm jp).size
  have hfr4 : Frm [] w w4 := (hfr.own hF3.frm jp).own hf4 hu
  refine ja rfl (jO ?_)
  refine qJ (jN ?_)
  refine jv3 2 3 28 ?_
  refine jR (jb rfl rfl (Bin.add_i64 _ 1 jo) (jm rfl (jO ?_)))
  refine jN ⟨(i + 1, B4, c4), (js3 rfl rfl rfl), ?_, ?_⟩
  ·
   have hs3 := hF3.frm.size
   refine ⟨by dsimp only; omega, (hoa.frm hF3.frm jp).frm hf4 (fun x hx h5 => hne x h5 hx), ?_, hfr4, cG hu hob4 hsz, fun x hx h5 => ?_⟩
   ·
    dsimp only
    rw [qWi i jo, sP]
    exact ho4
   rcases hob4 with h6 | h6 <;> rw [h6] at hx
   · exact hne x hx h5
   simp at hx
   have := hltA x h5
   omega
  first | omega | (dsimp only; omega)
 have hin : i = 32 := jo
 subst hin
 rw [show cX.take 32 = cX from rfl] at hor
 refine jX ?_
 refine qZ (qZ (qW ?_))
 refine jN (jv2 2 3 ?_)
 refine jS (jR (jm rfl (jm rfl (ja rfl (ja rfl (jO (jN (jv2 0 1 ?_))))))))
 refine jT ?_
 refine cY rfl rfl ?_
 exact ⟨A, c, B, d, rfl, hoa, hor, hfr⟩
theorem qKm (gx gr p : Nat) (Ar A : Option Addr) (bs : List Nat) (c : Nat) (out : List Nat) (most : Nat) (w : World) (hmo : most ≤ 1000000) (hbs : bs.length ≤ 1000000) (hB : ∀ b ∈ bs, b < 256) (hX : IsX w gx gr Ar bs p A c out most) :
  Calls Tryz.prog 115 #[.pointer (some ⟨gx, 0, none⟩)] w fun e w' => Frm (gx :: gr :: ob A) w w' ∧ match mV bs most p out with
   | .error k => e = .panicked (Pan k)
   | .ok x => ∃ A' c', e = .returned (.tuple #[]) ∧ IsX w' gx gr Ar bs x.1 A' c' x.2 most ∧ ∀ y ∈ ob A', y ∈ ob A ∨ w.heap.size ≤ y := by
 generalize hF : mV bs most p out = F
 unfold mV at hF
 have hp := hX.2.2.2.2.1
 have hom := hX.2.2.2.2.2.1
 refine VC.calls (nt := 53) (res := #[]) Tryz.func115 rfl Tryz.ntmps115 Tryz.results115 rfl ?_
 refine jS (jR (jm rfl (je (Run.nilck rfl) (jf rfl zav rfl zhd (jl rfl Tryz.isAgg147 (hX.1.cell 0) ?_)))))
 refine Ops.cl (jE1 Tryz.call133) (oP gr p Ar bs _ hp jo hX.2.1) rfl ?_
 rintro e w1 ⟨rfl, hR1, hf1⟩
 refine ⟨_, rfl, ?_⟩
 have hX1 := hX.turn hR1 hf1 jo
 refine jO (jN (jv1 0 ?_))
 refine jS (jR (jM ?_))
 refine Ops.clp (jE2 zej) (dG gx gr 16 ((p + 7) / 8 * 8) Ar A bs c out most _ jo hbs hB hX1) rfl ?_
 rintro e w2 ⟨hf2, he⟩
 have hfr2 := hf1.trans hf2 (fun x hx => .inl hx)
 rcases hT2 : bN (ofB bs) 16 ((p + 7) / 8 * 8) with kk | ⟨v2, p2⟩
 ·
  rw [hT2] at he
  simp only [hT2, dR] at hF
  subst hF
  exact .inr ⟨_, he, qD (bT ⟨hfr2.mono jp, rfl⟩)⟩
 rw [hT2] at he
 simp only [hT2, qB] at hF
 obtain ⟨rfl, hX2⟩ := he
 obtain ⟨hp2, hpl2, hv2, _⟩ := cK hT2
 refine .inl ⟨_, rfl, ?_⟩
 refine jM ?_
 refine Ops.clp (jE2 zej) (dG gx gr 16 p2 Ar A bs c out most _ jo hbs hB hX2) rfl ?_
 rintro e w3 ⟨hf3, he⟩
 have hfr3 := hfr2.trans hf3 (fun x hx => .inl hx)
 rcases hT3 : bN (ofB bs) 16 p2 with kk | ⟨v3, p3⟩
 ·
  rw [hT3] at he
  simp only [hT3, dR] at hF
  subst hF
  exact .inr ⟨_, he, qD (bT ⟨hfr3.mono jp, rfl⟩)⟩
 rw [hT3] at he
 simp only [hT3, qB] at hF
 obtain ⟨rfl, hX3⟩ := he
 obtain ⟨hp3, hpl3, hv3, _⟩ := cK hT3
 refine .inl ⟨_, rfl, ?_⟩
 rw [bL] at hpl2 hpl3
 refine ja rfl (ja rfl (jO (jN (jv3 0 2 3 ?_))))
 refine jS (jR (jm rfl (jm rfl (jb rfl rfl (Bin.xor_i64 _ _ jo jo) (jb rfl rfl (Bin.eqlN _ 65535) ?_)))))
 refine Ops.clp (jE2 zec) (dS (decide (v2 ^^^ v3 = 65535)) 3 _) rfl ?_
 rintro e _ ⟨rfl, rfl⟩
 by_cases hN1 : v2 ^^^ v3 = 65535
 rotate_left
 ·
  refine .inr ⟨_, by rw [if_neg (by simpa using hN1)], qD (bT ?_)⟩
  rw [if_pos hN1] at hF
  subst hF
  exact ⟨hfr3.mono jp, rfl⟩
 refine .inl ⟨_, by rw [if_pos (by simpa using hN1)], ?_⟩
 refine jO (jN (jv2 0 2 ?_))
 refine jS (jR (jm rfl (je (Run.nilck rfl) (jf rfl zav rfl zhd (jl rfl Tryz.isAgg147 (hX3.1.cell 0) (jM ?_))))))
 refine Ops.cl (jE2 Tryz.call134) (qGq gr p3 v2 Ar bs _ jo jo hX3.2.1) rfl ?_
 rintro e w4 ⟨B4, nl, c4, k, p4, rfl, hO, hp4, hR4, hf4⟩
 refine ⟨_, rfl, ?_⟩
 have hX4 := hX3.turn hR4 hf4 hp4
 have hfr4 := hfr3.trans hf4 (fun x hx => .inl hx)
 rw [if_neg (by simpa using hN1)] at hF
 have hO2 : (k = 2 ∧ (8 * bs.length - p3) / 8 < v2) ∨ (k = 0 ∧ nl = v2 ∧ ¬ (8 * bs.length - p3) / 8 < v2 ∧ p4 = p3 + 8 * v2 ∧ Own w4 5 1 B4 v2 c4 (NB ((bs.drop (p3 / 8)).take v2))) := by
  have h8 : (p3 + 7) / 8 * 8 = p3 := jo
  have h9 : (p3 + 7) / 8 = p3 / 8 := jo
  rcases hO with ⟨h, _⟩ | ⟨m, hm, h⟩
  · omega
  obtain rfl : v2 = m := jo
  rw [h8, h9] at h
  rcases h with ⟨h1, _, h2, _⟩ | ⟨h1, h2, h3, h4, h5⟩
  · exact .inl ⟨h2, h1⟩
  exact .inr ⟨h3, h2, jo, h4, h5⟩
 refine jm rfl (je (Run.extract rfl rfl) (je (Run.extract rfl rfl) (ja rfl (ja rfl (jO (jN (jv4 0 2 4 5 ?_)))))))
 refine jS (jR (jM ?_))
 refine Ops.clp (jE1 Tryz.call132) (vW k _) rfl ?_
 rintro e _ ⟨rfl, rfl⟩
 rcases hO2 with ⟨rfl, hO3⟩ | ⟨rfl, hnl, hO3, rfl, ho4⟩
 ·
  refine .inr ⟨_, by rw [if_neg jd], qD (bT ?_)⟩
  rw [if_pos hO3] at hF
  subst hF
  exact ⟨hfr4.mono jp, rfl⟩
 obtain rfl : v2 = nl := hnl.symm
 refine .inl ⟨_, by rw [if_pos rfl], ?_⟩
 rw [if_neg hO3] at hF
 have hd5 := qQ.drew w4
 have hXd := hX4.frm0 hd5.frm
 have hlb : ((bs.drop (p3 / 8)).take v2).length = v2 := by rw [zi, zr]; omega
 refine jO (jN (jv3 0 2 4 ?_))
 refine jS ?_
 refine VC.tail 12 jK jK ?_
 simp only [zag, zdt, zdo, zby]
 refine qM ?_
 refine qM ?_
 refine qE (Run.nilck rfl) ?_
 refine qE (Run.fieldAddr rfl zav rfl zc jd) ?_
 refine qE (Run.load rfl zg (hXd.1.cell 2)) ?_
 refine qM ?_
 refine qE (Run.nilck rfl) ?_
 refine qE (Run.fieldAddr rfl zav rfl zo jd) ?_
 refine qE (Run.load rfl zx (hXd.1.cell 1)) ?_
 refine qE (Run.lenS rfl zf) ?_
 refine qE (Run.bin rfl rfl (Bin.sub_i64 _ _ jo jo)) ?_
 refine qE (Run.bin rfl rfl (Bin.leqN _ _)) ?_
 refine qH.nil ?_
 refine Ops.clp (jE2 zec) (dS (decide (v2 ≤ most - out.length)) 13 _) rfl ?_
 rintro e _ ⟨rfl, rfl⟩
 by_cases hN2 : v2 ≤ most - out.length
 rotate_left
 ·
  refine .inr ⟨_, by rw [if_neg (by simpa using hN2)], qD (bT ?_)⟩
  rw [if_pos jo] at hF
  subst hF
  exact ⟨(hfr4.drawn hd5).mono jp, rfl⟩
 refine .inl ⟨_, by rw [if_pos (by simpa using hN2)], ?_⟩
 rw [if_neg jo] at hF
 refine jO (jN (jv2 0 4 ?_))
 refine jR (jm rfl (jm rfl (je (Run.nilck rfl) (jf rfl zav rfl zo (jl rfl zx (hXd.1.cell 1) (jM ?_))))))
 refine Ops.m (qV.app rfl rfl zf (eA) rfl jd hXd.2.2.1 (ho4.drawn hd5).rd (eP _) jo jo) rfl ?_
 rintro _ w6 ⟨B6, c6, rfl, ho6, hf6, hob6⟩
 have hb6 := hXd.1.frm hf6 hXd.gxA
 refine je (Run.nilck rfl) (jf rfl zav rfl zo ?_)
 refine Ops.st (qR.store (i := 1) rfl rfl zo hb6 rfl rfl) ?_
 rintro w7 ⟨hb7, hf7, hs7⟩
 obtain ⟨hX7, hf67, hu7⟩ := hXd.app ho6 hf6 hob6 hb7 hf7 hlb jo (fun x hx => hB x (zch (zaf hx)))
 have hsz4 := hfr4.size
 have hfr7 : Frm (gx :: gr :: ob A) w w7 := ((hfr4.drawn hd5).mono (T := gx :: gr :: ob A) jp).trans hf67 (fun x hx => .inl (by rcases zbv.1 hx with rfl | hx <;> simp_all))
 refine jO ?_
 refine eM ?_
 subst hF
 refine ⟨hfr7, B6, c6, rfl, hX7, fun y hy => (hu7 y hy).imp id (fun h => zn hsz4 h)⟩
end
section
open Go.RowKit
theorem pH (A : Option Addr) (c sz : Nat) : cC A c 0 sz = A := by
 unfold cC
 split
 · rfl
 cases A with
 | none => rfl
 | some a => simp [Addr.add]
theorem qGx (gx gr p gd : Nat) (Ar A Bd : Option Addr) (cd : Nat) (l : List Int) (bs : List Nat) (c : Nat) (out : List Nat) (most : Nat) (Al : Option Addr) (cl : Nat) (all : List Int) (M : Nat) (w : World) (hl : l.length ≤ 320) (hm : bE l ≤ 15) (hbs : bs.length ≤ 1000000) (hB : ∀ b ∈ bs, b < 256) (hM : M ≤ 1000) (hal : all.length ≤ M) (hX : IsX w gx gr Ar bs p A c out most)
  (hD : IsD w gd Bd cd (cn l) (bC l) (bG l) (bE l)) (hO : Own w 3 1 Al all.length cl (IB all)) :
  Calls Tryz.prog 138 #[.pointer (some ⟨gx, 0, none⟩), .pointer (some ⟨gd, 0, none⟩), .slice Al all.length cl, .int .i64 ((M : Nat) : Int)] w fun e w' => Frm (gr :: ob Al) w w' ∧ match nE (ofB bs) l p all M with
   | .error k => e = .panicked (Pan k)
   | .ok x => ∃ A' c', e = .returned (.slice A' x.2.length c') ∧ IsX w' gx gr Ar bs x.1 A c out most ∧ Own w' 3 1 A' x.2.length c' (IB x.2) ∧ ∀ y ∈ ob A', y ∈ ob Al ∨ w.heap.size ≤ y := by
 generalize hF : nE (ofB bs) l p all M = F
 unfold nE at hF
 have hgrl : gr ∉ ob Al := hO.ne_blk hX.2.1.choose_spec.1 jd
 have hgxl : gx ∉ ob Al := hO.ne_blk hX.1 jd
 have hlA : ∀ x ∈ ob A, x ∉ ob Al := hX.2.2.1.ne_own hO jd
 have hlAr : ∀ x ∈ ob Ar, x ∉ ob Al := hX.2.1.choose_spec.2.ne_own hO jd
 have hS0 : ∀ x ∈ gx :: gr :: (ob A ++ ob Ar), x ∉ ob Al := fun x hx => by
  rcases zbv.1 hx with rfl | hx
  · exact hgxl
  rcases zbv.1 hx with rfl | hx
  · exact hgrl
  rcases List.mem_append.1 hx with hx | hx
  · exact hlA x hx
  exact hlAr x hx
 refine VC.calls (nt := 58) (res := #[.tmp 8]) Tryz.func138 rfl Tryz.ntmps138 Tryz.results138 rfl ?_
 refine jS (jR (ja rfl (jO (jN (jv4 0 1 2 3 ?_)))))
 refine jS (jR (jm rfl (jM ?_)))
 refine Ops.clp (jE2 Tryz.call144) (vY gx gr p gd Ar A _ _ l bs c out most _ hl hm hbs hB hX hD) rfl ?_
 rintro e w1 ⟨hf1, he⟩
 have hfr1 := hf1
 rcases hT1 : jW (ofB bs) l p with kk | ⟨v1, p1⟩
 ·
  rw [hT1] at he
  simp only [hT1, dR] at hF
  subst hF
  exact .inr ⟨_, he, qD (bT ⟨hfr1.mono jp, rfl⟩)⟩
 rw [hT1] at he
 simp only [hT1, qB] at hF
 obtain ⟨rfl, hX1⟩ := he
 obtain ⟨hp1, hpl1, hv1⟩ := oL hm (by rw [bL]; exact hX.2.2.2.2.1) hT1
 refine .inl ⟨_, rfl, ?_⟩
 have hO1 := hO.frm hf1 (fun x hx h5 => hgrl (by simp at h5; subst h5; exact hx))
 rw [bL] at hpl1
 refine ja rfl (jO (jN (jv4 0 2 3 9 ?_)))
 refine jS (jR (jm rfl (ja rfl (jz 1 (jO (jN (jv6 0 2 3 9 10 11 ?_)))))))
 refine jS (jS (jR (jm rfl (jO (jN (jv6 0 2 3 10 11 16 ?_))))))
 refine jB (jS (jR (jb rfl rfl (Bin.eqlN _ 16) (ja rfl (jO (jN (jv7 0 2 3 10 11 16 17 ?_)))))))
 refine VC.meet (σ := Nat × Int × Nat) (fun s => [(2, .slice Al all.length cl), (3, .int .i64 ((M : Nat) : Int)), (10, .int .i64 s.2.1), (11, .int .i64 ((s.2.2 : Nat) : Int))]) (fun s wr => IsX wr gx gr Ar bs s.1 A c out most ∧ Frm [gr] w wr ∧ (if M < all.length + s.2.2 then .error 11 else .ok (s.1, all ++ List.replicate s.2.2 s.2.1)) = F ∧ s.2.2 ≤ 200) ?_ ?_
 ·
  refine jD rfl (fun hc1 => ?_) fun hc1 => ?_
  ·
   rw [if_pos hc1] at hF
   refine jS (jR (jm rfl (je (Run.lenS rfl zd) (jb rfl rfl (Bin.gtrN _ 0) ?_))))
   refine Ops.clp (jE2 zec) (dS (decide (0 < all.length)) 11 _) rfl ?_
   rintro e _ ⟨rfl, rfl⟩
   by_cases hN1 : 0 < all.length
   rotate_left
   ·
    refine .inr ⟨_, by rw [if_neg (by simpa using hN1)], qD (qD (eX (qD (bT ?_))))⟩
    rw [if_pos jo, dR] at hF
    subst hF
    exact ⟨hfr1.mono jp, rfl⟩
   refine .inl ⟨_, by rw [if_pos (by simpa using hN1)], ?_⟩
   rw [if_neg jo] at hF
   have hal2 : all.length - 1 < all.length := jo
   obtain ⟨adl, rfl, hcl⟩ := oR hO1.rd hal2
   have hgetD : all.getD (all.length - 1) 0 = all[all.length - 1] := by simp [List.getD, zb hal2]
   rw [hgetD] at hF
   generalize all[all.length - 1] = xl at *
   have hgla : adl.block ≠ gr := fun h => hgrl (by simp [ob, h])
   refine jO (jN (jv3 0 2 3 ?_))
   refine VC.held (fun v => v.cell? (adl.add (all.length - 1)) = some (.int .i64 xl)) jK ?_
   have hd1 := qQ.drew w1
   have hX1d := hX1.frm0 hd1.frm
   have hfr1d := hfr1.drawn hd1
   have hS : (fun v : World => v.cell? (adl.add (all.length - 1)) = some (.int .i64 xl)) w1.drew := hcl
   refine jH 0 rfl hS (fun w0 hw0 => Run.mv rfl) ?_
   refine jH 1 rfl hS (fun w0 hw0 => Run.mv rfl) ?_
   refine jH 2 rfl hS (fun w0 hw0 => Run.lenS rfl zd) ?_
   refine jH 3 rfl hS (fun w0 hw0 => Run.bin rfl rfl (Bin.sub_i64 _ 1 jo jo)) ?_
   refine jH 4 rfl hS (fun w0 hw0 => Run.index1 _ rfl rfl zd zc jo) ?_
   refine jH 5 rfl hS (fun w0 hw0 => Run.load rfl zg hw0) ?_
   refine jH 6 rfl hS (fun w0 hw0 => Run.mv rfl) ?_
   refine qK.clp 7 rfl jK (jE2 zej) (dG gx gr 2 p1 Ar A bs c out most _ jo hbs hB hX1d) trivial rfl rfl ?_
   rintro e w2 ⟨hf2, he⟩
   have hfr2 := hfr1d.trans hf2 (fun x hx => .inl hx)
   rcases hT2 : bN (ofB bs) 2 p1 with kk | ⟨v2, p2⟩
   ·
    rw [hT2] at he
    simp only [hT2, dR] at hF
    subst hF
    exact .inr ⟨_, he, qD (eX (qD (bT ⟨hfr2.mono jp, rfl⟩)))⟩
   rw [hT2] at he
   simp only [hT2, qB] at hF
   obtain ⟨rfl, hX2⟩ := he
   obtain ⟨hp2, hpl2, hv2, _⟩ := cK hT2
   have hS : (fun v : World => v.cell? (adl.add (all.length - 1)) = some (.int .i64 xl)) w2 := hf2.cell hcl (by rw [lL]; simp; exact hgla)
   refine .inl ⟨_, rfl, hS, ?_⟩
   refine jH 8 rfl hS (fun w0 hw0 => Run.bin rfl rfl (Bin.add_i64 3 _ jo)) ?_
   refine jH 9 rfl hS (fun w0 hw0 => Run.asg rfl) ?_
   refine jH 10 rfl hS (fun w0 hw0 => Run.asg rfl) ?_
   refine qK.done jK ?_
   refine jN ⟨(p2, xl, 3 + v2), (js4 rfl rfl rfl rfl), ?_⟩
   exact ⟨hX2, hfr2, hF, by dsimp only; omega⟩
  rw [if_neg hc1] at hF
  refine jS (jR (jb rfl rfl (Bin.eqlN _ 17) (ja rfl (jO (jN (jv7 0 2 3 10 11 16 32 ?_))))))
  refine jD rfl (fun hc2 => ?_) fun hc2 => ?_
  ·
   rw [if_pos hc2] at hF
   refine jR (jM ?_)
   refine Ops.clp (jE2 zej) (dG gx gr 3 p1 Ar A bs c out most _ jo hbs hB hX1) rfl ?_
   rintro e w2 ⟨hf2, he⟩
   have hfr2 := hfr1.trans hf2 (fun x hx => .inl hx)
   rcases hT2 : bN (ofB bs) 3 p1 with kk | ⟨v2, p2⟩
   ·
    rw [hT2] at he
    simp only [hT2, dR] at hF
    subst hF
    exact .inr ⟨_, he, qD (eX (qD (bT ⟨hfr2.mono jp, rfl⟩)))⟩
   rw [hT2] at he
   simp only [hT2, qB] at hF
   obtain ⟨rfl, hX2⟩ := he
   obtain ⟨hp2, hpl2, hv2, _⟩ := cK hT2
   refine .inl ⟨_, rfl, ?_⟩
   refine jb rfl rfl (Bin.add_i64 3 _ jo) (jz 0 (ja rfl (jO ?_)))
   refine jN ⟨(p2, 0, 3 + v2), (js4 rfl rfl rfl rfl), ?_⟩
   exact ⟨hX2, hfr2, hF, by dsimp only; omega⟩
  rw [if_neg hc2] at hF
  refine jS (jR (jb rfl rfl (Bin.eqlN _ 18) (ja rfl (jO (jN (jv6 0 2 3 10 11 37 ?_))))))
  refine jD rfl (fun hc3 => ?_) fun hc3 => ?_
  ·
   rw [if_pos hc3] at hF
   refine jR (jM ?_)
   refine Ops.clp (jE2 zej) (dG gx gr 7 p1 Ar A bs c out most _ jo hbs hB hX1) rfl ?_
   rintro e w2 ⟨hf2, he⟩
   have hfr2 := hfr1.trans hf2 (fun x hx => .inl hx)
   rcases hT2 : bN (ofB bs) 7 p1 with kk | ⟨v2, p2⟩
   ·
    rw [hT2] at he
    simp only [hT2, dR] at hF
    subst hF
    exact .inr ⟨_, he, qD (eX (qD (bT ⟨hfr2.mono jp, rfl⟩)))⟩
   rw [hT2] at he
   simp only [hT2, qB] at hF
   obtain ⟨rfl, hX2⟩ := he
   obtain ⟨hp2, hpl2, hv2, _⟩ := cK hT2
   refine .inl ⟨_, rfl, ?_⟩
   refine jb rfl rfl (Bin.add_i64 11 _ jo) (jz 0 (ja rfl (jO ?_)))
   refine jN ⟨(p2, 0, 11 + v2), (js4 rfl rfl rfl rfl), ?_⟩
   exact ⟨hX2, hfr2, hF, by dsimp only; omega⟩
  rw [if_neg hc3, qB] at hF
  refine jQ ?_
  refine jN ⟨(p1, (v1 : Int), 1), (js4 rfl rfl rfl rfl), ?_⟩
  exact ⟨hX1, hfr1, hF, by dsimp only; omega⟩
 clear hF
 rintro ⟨p2, n, times⟩ w2 ⟨hX2, hfr2, hF, ht⟩ Γ hΓ
 dsimp only at hX2 hfr2 hF ht
 have hO2 := hO.frm hfr2 (fun x hx h5 => hgrl (by simp at h5; subst h5; exact hx))
 have hsz2 := hfr2.size
 refine qJ (jN (VC.sub _ hΓ ?_))
 refine jS (jR (jm rfl (jm rfl (jm rfl (je (Run.lenS rfl zd) (jb rfl rfl (Bin.sub_i64 _ _ jo jo) (jb rfl rfl (Bin.leqN _ _) ?_)))))))
 refine Ops.clp (jE2 zec) (dS (decide (times ≤ M - all.length)) 11 _) rfl ?_
 rintro e _ ⟨rfl, rfl⟩
 by_cases hN2 : times ≤ M - all.length
 rotate_left
 ·
  refine .inr ⟨_, by rw [if_neg (by simpa using hN2)], qD (bT ?_)⟩
  rw [if_pos jo] at hF
  subst hF
  exact ⟨hfr2.mono jp, rfl⟩
 refine .inl ⟨_, by rw [if_pos (by simpa using hN2)], ?_⟩
 rw [if_neg jo] at hF
 refine jO (jN (jv3 2 10 11 ?_))
 refine jS (jS (jR (jM ?_)))
 refine jx .i64 0 ?_
 refine jO (jN (jv4 2 10 49 50 ?_))
 refine jB ?_
 refine VC.loop (σ := Nat × Option Addr × Nat) (fun s => [(2, .slice s.2.1 (all.length + s.1) s.2.2), (10, .int .i64 n), (49, .int .i64 ((times : Nat) : Int)), (50, .int .i64 ((s.1 : Nat) : Int))]) (fun s wr => s.1 ≤ times ∧ Own wr 3 1 s.2.1 (all.length + s.1) s.2.2 (IB (all ++ List.replicate s.1 n)) ∧ Frm (ob Al) w2 wr ∧ ∀ x ∈ ob s.2.1, x ∈ ob Al ∨ w2.heap.size ≤ x) (fun s => times - s.1) (0, Al, cl) (js4 rfl rfl rfl rfl) ⟨jo, by simpa using hO2, Frm.refl _ _, fun x hx => .inl hx⟩ ?_
 rintro ⟨i, B, d⟩ wr ⟨hi, hor, hfr, hu⟩
 dsimp only at hi hor hfr hu ⊢
 refine jS (jR (jb rfl rfl (Bin.lssN _ _) (jO (jN (jS ?_)))))
 refine jD rfl (fun hc4 => ?_) fun hc4 => ?_
 ·
  refine jQ (jN (jv4 2 10 49 50 ?_))
  refine jS (jB (jR (jm rfl (jM ?_))))
  refine Ops.m (qV.buildS1 rfl zd zc fS jd jd rfl rfl) rfl ?_
  rintro _ w3 ⟨rfl, hF3⟩
  have hrd3 : Rd w3 1 (some ⟨_, 0, none⟩) 1 [.int .i64 n] := Rd.of_blk (n := 1) (size := 1) hF3.blk rfl
  refine Ops.m (qV.app rfl rfl zd (dX) rfl jd (hor.frm hF3.frm jp) hrd3 (by simp [Value.oneCell']) jo jo) rfl ?_
  rintro _ w4 ⟨B4, c4, rfl, ho4, hf4, hob4⟩
  have hs3 := hfr.size
  have hs4 := hF3.frm.size
  have hfr4 : Frm (ob Al) w2 w4 := (hfr.trans hF3.frm jp).trans hf4 (fun x hx => (hu x hx))
  refine ja rfl (jO ?_)
  refine qJ (jN ?_)
  refine jv4 2 10 49 50 ?_
  refine jR (jb rfl rfl (Bin.add_i64 _ 1 jo) (jm rfl (jO ?_)))
  refine jN ⟨(i + 1, B4, c4), (js4 rfl rfl rfl rfl), ?_, ?_⟩
  ·
   refine ⟨by dsimp only; omega, ?_, hfr4, fun x hx => ?_⟩
   ·
    dsimp only
    rw [List.replicate_succ', ← zj, sP]
    exact ho4
   rcases hob4 with h6 | h6 <;> rw [h6] at hx
   · exact hu x hx
   simp at hx; exact .inr jo
  first | omega | (dsimp only; omega)
 have hit : i = times := jo
 subst hit
 refine jX ?_
 refine qZ (qZ (qW ?_))
 refine jN (jv1 2 ?_)
 refine jS (jR (jm rfl (ja rfl (jO (jN (jv1 8 ?_))))))
 refine jT ?_
 refine qT rfl ?_
 subst hF
 refine ⟨(hfr2.mono (T := gr :: ob Al) jp).trans hfr (fun x hx => .inl (by simp [hx])), B, d, ?_, hX2.frm hfr hS0, ?_, fun x hx => (hu x hx).imp id (fun h => zn hsz2 h)⟩
 · rw [za, zbn]
 rw [za, zbn]; exact hor
end
section
open Go.RowKit
theorem qRt {v b k : Nat} (hv : v < 2 ^ k) : v ||| (b * 2 ^ k) = v + 2 ^ k * b := by
 rw [Nat.or_comm, zcw b, zgz, ← zhj hv]
theorem qM6 (a : List Nat) (b : Nat) : kZ (a ++ [b]) = kZ a + 256 ^ a.length * b := by rw [xW]; simp [kZ]
theorem qM7 (i : Nat) : (256 : Nat) ^ i = 2 ^ (8 * i) := by rw [show (256 : Nat) = 2 ^ 8 from rfl, ← Nat.pow_mul]
def numAt (bs : List Nat) (a n : Nat) : Nat := kZ ((bs.drop a).take n)
theorem qGy (bs : List Nat) (a i : Nat) (h : a + i < bs.length) : numAt bs a (i + 1) = numAt bs a i + 2 ^ (8 * i) * bs.getD (a + i) 0 := by
 have e : (bs.drop a).take (i + 1) = (bs.drop a).take i ++ [bs.getD (a + i) 0] := by
  rw [yN (L := bs.drop a) (by rw [zr]; omega)]
  congr 2
  rw [ze, zes, ← ze]
 unfold numAt
 rw [e, qM6, zi, zr, zal jo, qM7]
theorem yB (bs : List Nat) (hB : ∀ b ∈ bs, b < 256) (a i : Nat) : numAt bs a i < 2 ^ (8 * i) := by
 have h := qYf ((bs.drop a).take i) (fun b hb => hB b (zch (zaf hb)))
 have h2 : ((bs.drop a).take i).length ≤ i := by rw [zi]; omega
 unfold numAt
 rw [← qM7]
 exact zbb h (zz jo h2)
theorem qGz (v n : Nat) (w : World) (hn1 : 1 ≤ n) (hn8 : n ≤ 8) (hv : v < 256 ^ n) :
  Calls Tryz.prog 29 #[.int .u64 ((v : Nat) : Int), .int .i64 ((n : Nat) : Int)] w fun e w' => ∃ B d, e = .returned (.tuple #[.slice B n d, .int .i64 ((0 : Nat) : Int)]) ∧ Own w' 5 1 B n d (NB (qF v n)) ∧ Frm [] w w' ∧ ∀ x ∈ ob B, w.heap.size ≤ x := by
 have hv64 : v < 18446744073709551616 := zbb hv (by
  have : (256 : Nat) ^ n ≤ 256 ^ 8 := zz jo hn8
  exact this)
 refine VC.calls (nt := 29) (res := #[.tmp 4, .tmp 5]) Tryz.func29 rfl Tryz.ntmps29 Tryz.results29 rfl ?_
 refine jS (jR (ja rfl (jz 0 (jO (jN (jv2 0 1 ?_))))))
 refine jS (jS ?_)
 refine VC.split1 [(0, _), (1, _)] (js2 rfl rfl) 12 (.bool (decide (n < 1 ∨ 8 < n))) ?_ ?_
 ·
  refine jR ?_
  refine jm rfl (jb rfl rfl (Bin.lssN _ 1) ?_)
  by_cases hs8 : n < 1
  ·
   refine jM ?_
   refine jU ?_
   refine jU ?_
   refine je (Run.pickT rfl rfl au) (jO ?_)
   refine jN ⟨(js3 (jC (by first | (simp [*]; done) | (simp; omega))) rfl rfl), rfl⟩
  refine jM ?_
  refine jG ?_
  refine jk (Run.bin rfl rfl (Bin.gtrN _ 8)) ?_
  by_cases hs11 : 8 < n
  ·
   refine je (Run.pickF rfl rfl au) (jO ?_)
   refine jN ⟨(js3 (jC (by first | (simp [*]; done) | (simp; omega))) rfl rfl), rfl⟩
  refine je (Run.pickF rfl rfl au) (jO ?_)
  refine jN ⟨(js3 (jC (by first | (simp [*]; done) | (simp; omega))) rfl rfl), rfl⟩
 intro Γ hΓ
 refine jN (VC.sub _ hΓ ?_)
 refine VC.condF rfl (decide_eq_false jo) ?_
 refine jQ (jN (jv2 0 1 ?_))
 refine jS (jR (jM ?_))
 refine Ops.m (qV.make0 rfl rfl zf (eA) jo jo) rfl ?_
 rintro _ w1 ⟨rfl, ho1, hf1, hs1⟩
 refine ja rfl (jO (jN (jv3 0 1 6 ?_)))
 refine jS (jS (jR (jM ?_)))
 refine jx .i64 0 ?_
 refine jO (jN (jv4 0 6 15 16 ?_))
 refine jB ?_
 refine VC.loop (σ := Nat × Option Addr × Nat) (fun s => [(0, .int .u64 ((v / 256 ^ s.1 : Nat) : Int)), (6, .slice s.2.1 s.1 s.2.2), (15, .int .i64 ((n : Nat) : Int)), (16, .int .i64 ((s.1 : Nat) : Int))]) (fun s wr => s.1 ≤ n ∧ Own wr 5 1 s.2.1 s.1 s.2.2 (NB (qF v s.1)) ∧ Frm [] w wr ∧ ∀ x ∈ ob s.2.1, w.heap.size ≤ x) (fun s => n - s.1) (0, _, n) (js4 (by rw [zhw, Nat.div_one]; rfl) rfl rfl rfl) ⟨jo, ho1, hf1, by simp [ob]⟩ ?_
 rintro ⟨i, B, d⟩ wr ⟨hi, ho, K, hu⟩
 dsimp only at hi ho hu ⊢
 have hvl : v / 256 ^ i ≤ v := zcq _ _
 refine jS (jR (jb rfl rfl (Bin.lssN _ _) (jO (jN (jS ?_)))))
 refine jD rfl (fun hc2 => ?_) fun hc2 => ?_
 ·
  refine jQ (jN (jv4 0 6 15 16 ?_))
  refine jS (jB (jS (jR (jm rfl (jm rfl (je (Run.conv8 _ rfl zv zat) ?_))))))
  refine Ops.m (qV.buildS1 rfl zf zad pO jd jd rfl rfl) rfl ?_
  rintro _ w2 ⟨rfl, hF2⟩
  have ho2 := ho.frm hF2.frm jp
  have hrd2 : Rd w2 1 (some ⟨_, 0, none⟩) 1 (NB [v / 256 ^ i % 256]) := Rd.of_blk (n := 1) (size := 1) hF2.blk rfl
  refine Ops.m (qV.app rfl rfl zf (eA) rfl jd ho2 hrd2 (eP _) jo jo) rfl ?_
  rintro _ w3 ⟨B3, d3, rfl, ho3, hf3, hob3⟩
  rw [← fD, ← vV] at ho3
  have K3 := (K.trans hF2.frm jp).own hf3 hu
  have hu3 := cG hu hob3 (by have := K.size; have := hF2.size; omega)
  refine ja rfl (jO (jN (jv4 0 6 15 16 ?_)))
  refine jR (jm rfl (jb rfl rfl (Bin.shr_u64 _ 8 jo) ?_))
  rw [zfa, show (256 : Nat) ^ i * 2 ^ 8 = 256 ^ (i + 1) from (zbo ..).symm]
  refine ja rfl (jO ?_)
  refine qJ (jN ?_)
  refine jv4 0 6 15 16 ?_
  refine jR (jb rfl rfl (Bin.add_i64 _ 1 jo) (jm rfl (jO ?_)))
  refine jN ⟨(i + 1, B3, d3), (js4 rfl rfl rfl rfl), ?_, ?_⟩
  · exact ⟨jo, ho3, K3, hu3⟩
  first | omega | (dsimp only; omega)
 refine jX ?_
 refine qZ (qZ (qW ?_))
 refine jN (jv2 0 6 ?_)
 refine jS (jS (jR (jm rfl (jb rfl rfl (Bin.neqN _ 0) (jO (jN (jv2 6 27 ?_)))))))
 refine VC.condF rfl (decide_eq_false (by rw [show i = n by omega, zfd hv]; simp)) ?_
 refine jQ (jN (jv1 6 ?_))
 refine jS (jR (jm rfl (ja rfl (jz 0 (jO (jN (jv2 4 5 ?_)))))))
 refine jT ?_
 refine cY rfl rfl ?_
 obtain rfl : i = n := jo
 exact ⟨B, d, rfl, ho, K, hu⟩
def numE (L a n : Nat) : Nat := if L < a then 4 else if L - a < n then 2 else 0
def numV (bs : List Nat) (a n : Nat) : Nat := if numE bs.length a n = 0 then numAt bs a n else 0
theorem qBl {b i : Nat} (hb : b < 256) (hi : i < 8) : b * 2 ^ (8 * i) ≤ 18446744073709551615 := by
 have h1 : 2 ^ (8 * i) ≤ 2 ^ 56 := zz jo jo
 have h2 : b * 2 ^ (8 * i) ≤ 255 * 2 ^ 56 := zfl jo h1
 omega
theorem qRu (bs : List Nat) (hB : ∀ b ∈ bs, b < 256) (a i : Nat) (hi : i ≤ 8) : numAt bs a i < 18446744073709551616 := by
 have h1 : 2 ^ (8 * i) ≤ 2 ^ 64 := zz jo jo
 exact zbb (yB bs hB a i) h1
theorem vH (A : Option Addr) (c L a n : Nat) (bs : List Nat) (w : World) (hL : bs.length = L) (hl : L ≤ 1000000000) (ha : a ≤ 1000000000) (hn1 : 1 ≤ n) (hn8 : n ≤ 8) (hB : ∀ b ∈ bs, b < 256) (hr : Rd w 1 A L (NB bs)) :
  Calls Tryz.prog 23 #[.slice A L c, .int .i64 ((a : Nat) : Int), .int .i64 ((n : Nat) : Int)] w fun e w' => e = .returned (.tuple #[.int .u64 ((numV bs a n : Nat) : Int), .int .i64 ((numE L a n : Nat) : Int)]) ∧ w = w' := by
 refine VC.calls (nt := 51) (res := #[.tmp 6, .tmp 7]) Tryz.func23 rfl Tryz.ntmps23 Tryz.results23 rfl ?_
 refine jS (jR ?_)
 refine jy .u64 0 ?_
 refine jz 0 (jO (jN (jv3 0 1 2 ?_)))
 refine jS (jB (jS ?_))
 refine VC.split1 [(0, _), (1, _), (2, _)] (js3 rfl rfl rfl) 10 (.bool (decide (n < 1 ∨ 8 < n))) ?_ ?_
 ·
  refine jR ?_
  refine jm rfl (jb rfl rfl (Bin.lssN _ 1) ?_)
  by_cases hs12 : n < 1
  ·
   refine jM ?_
   refine jU ?_
   refine jU ?_
   refine je (Run.pickT rfl rfl au) (ja rfl (jO ?_))
   refine jN ⟨(js4 (jC (by first | (simp [*]; done) | (simp; omega))) rfl rfl rfl), rfl⟩
  refine jM ?_
  refine jG ?_
  refine jk (Run.bin rfl rfl (Bin.gtrN _ 8)) ?_
  by_cases hs15 : 8 < n
  ·
   refine je (Run.pickF rfl rfl au) (ja rfl (jO ?_))
   refine jN ⟨(js4 (jC (by first | (simp [*]; done) | (simp; omega))) rfl rfl rfl), rfl⟩
  refine je (Run.pickF rfl rfl au) (ja rfl (jO ?_))
  refine jN ⟨(js4 (jC (by first | (simp [*]; done) | (simp; omega))) rfl rfl rfl), rfl⟩
 intro Γ hΓ
 refine jN (VC.sub _ hΓ ?_)
 refine VC.condF rfl (decide_eq_false jo) ?_
 refine jS ?_
 refine VC.split1 [(0, _), (1, _), (2, _)] (js3 rfl rfl rfl) 17 (.bool (decide (a < 0 ∨ L < a))) ?_ ?_
 ·
  refine jR ?_
  refine jm rfl (jb rfl rfl (Bin.lssN _ 0) ?_)
  by_cases hs19 : a < 0
  ·
   refine jM ?_
   refine jU ?_
   refine jU ?_
   refine jU ?_
   refine jU ?_
   refine je (Run.pickT rfl rfl au) (ja rfl (jO ?_))
   refine jN ⟨(js4 (jC (by first | (simp [*]; done) | (simp; omega))) rfl rfl rfl), rfl⟩
  refine jM ?_
  refine jG ?_
  refine jG ?_
  refine jk (Run.lenS rfl zf) ?_
  refine jk (Run.bin rfl rfl (Bin.gtrN _ _)) ?_
  by_cases hs24 : L < a
  ·
   refine je (Run.pickF rfl rfl au) (ja rfl (jO ?_))
   refine jN ⟨(js4 (jC (by first | (simp [*]; done) | (simp; omega))) rfl rfl rfl), rfl⟩
  refine je (Run.pickF rfl rfl au) (ja rfl (jO ?_))
  refine jN ⟨(js4 (jC (by first | (simp [*]; done) | (simp; omega))) rfl rfl rfl), rfl⟩
 intro Γ hΓ
 refine jN (VC.sub _ hΓ ?_)
 refine jD rfl (fun hc2 => ?_) fun hc2 => ?_
 ·
  refine jS (jR ?_)
  refine jy .u64 0 ?_
  refine jz 4 (jO (jN (jv2 6 7 ?_)))
  refine jT ?_
  refine qO (qP (cY rfl rfl ?_))
  have e1 : numE L a n = 4 := by unfold numE; rw [if_pos jo]
  have e2 : numV bs a n = 0 := by unfold numV; rw [hL, e1, if_neg jd]
  rw [e1, e2]
  exact ⟨rfl, rfl⟩
 refine jS (jR (jm rfl (je (Run.lenS rfl zf) (jm rfl (jb rfl rfl (Bin.sub_i64 _ _ jo jo) (jm rfl (jb rfl rfl (Bin.lssN _ _) (ja rfl (jO (jN (jv4 0 1 2 26 ?_)))))))))))
 refine jD rfl (fun hc3 => ?_) fun hc3 => ?_
 ·
  refine jS (jR ?_)
  refine jy .u64 0 ?_
  refine jz 2 (jO (jN (jv2 6 7 ?_)))
  refine jT ?_
  refine qO (qP (cY rfl rfl ?_))
  have e1 : numE L a n = 2 := by unfold numE; rw [if_neg jo, if_pos hc3]
  have e2 : numV bs a n = 0 := by unfold numV; rw [hL, e1, if_neg jd]
  rw [e1, e2]
  exact ⟨rfl, rfl⟩
 refine jQ ?_
 refine qJ (jN ?_)
 refine jv3 0 1 2 ?_
 refine jS (jR ?_)
 refine jy .u64 0 ?_
 refine jO (jN (jS (jS (jR (jM ?_)))))
 refine jx .i64 0 ?_
 refine jO (jN (jv5 0 1 8 33 34 ?_))
 refine jB ?_
 refine VC.loop (σ := Nat) (fun s => [(0, .slice A L c), (1, .int .i64 ((a : Nat) : Int)), (8, .int .u64 ((numAt bs a s : Nat) : Int)), (33, .int .i64 ((n : Nat) : Int)), (34, .int .i64 ((s : Nat) : Int))]) (fun s wr => s ≤ n ∧ w = wr) (fun s => n - s) 0 (js5 rfl rfl rfl rfl rfl) ⟨jo, rfl⟩ ?_
 rintro i _ ⟨hi, rfl⟩
 have hlt := yB bs hB a i
 have h64 := qRu bs hB a i jo
 refine jS (jR (jb rfl rfl (Bin.lssN _ _) (jO (jN (jS ?_)))))
 refine jD rfl (fun hc4 => ?_) fun hc4 => ?_
 ·
  obtain ⟨ad, rfl, hcell⟩ := yR hr hL (jo : a + i < L)
  have hsn := qGy bs a i jo
  have hb8 := yP hB (a + i)
  generalize bs.getD (a + i) 0 = b at hcell hsn hb8
  have hsh := qBl hb8 (jo : i < 8)
  refine jQ (jN (jv5 0 1 8 33 34 ?_))
  refine jS (jB (jS (jR (jm rfl (ja rfl (jO (jN (jv6 0 1 8 9 33 34 ?_))))))))
  refine jR (jm rfl (jm rfl (jm rfl (jm rfl (jb rfl rfl (Bin.add_i64 _ _ jo) (je (Run.index1 _ rfl rfl zf zad jo) (jl rfl zdr hcell (je (Run.convN _ rfl zat zv (by simp only [bmax]; omega)) ?_))))))))
  refine jm rfl (jb rfl rfl (Bin.mul_i64 8 _ jo) (jb rfl rfl (Bin.shl_u64 _ _ jo hsh) (jb rfl rfl (Bin.or_u64 _ _ jo jo) ?_)))
  rw [qRt hlt, ← hsn]
  refine ja rfl (jO ?_)
  refine qJ (jN ?_)
  refine jv5 0 1 8 33 34 ?_
  refine jR (jb rfl rfl (Bin.add_i64 _ 1 jo) (jm rfl (jO ?_)))
  refine jN ⟨i + 1, (js5 rfl rfl rfl rfl rfl), ?_, ?_⟩
  · exact ⟨jo, rfl⟩
  first | omega | (dsimp only; omega)
 refine jX ?_
 refine qZ (qZ (qW ?_))
 refine jN (jv1 8 ?_)
 refine jS (jR (jm rfl (ja rfl (jz 0 (jO (jN (jv2 6 7 ?_)))))))
 refine jT ?_
 refine cY rfl rfl ?_
 obtain rfl : i = n := jo
 have e1 : numE L a i = 0 := by unfold numE; rw [if_neg jo, if_neg hc3]
 have e2 : numV bs a i = numAt bs a i := by unfold numV; rw [hL, e1, if_pos rfl]
 rw [e1, e2]
 exact ⟨rfl, rfl⟩
def kL (w : World) (g : Nat) (A : Option Addr) (c : Nat) (bs : List Nat) (a e wh : Nat) : Prop := Blk w g 144 #[.slice A bs.length c, .int .i64 ((a : Nat) : Int), .int .i64 ((e : Nat) : Int), .int .i64 ((wh : Nat) : Int)] ∧ Own w 5 1 A bs.length c (NB bs)
theorem kL.frm {w w' : World} {g : Nat} {A : Option Addr} {c : Nat} {bs : List Nat} {a e wh : Nat} {S : List Nat} (h : kL w g A c bs a e wh) (k : Frm S w w') (hS : ∀ x ∈ g :: ob A, x ∉ S) : kL w' g A c bs a e wh := ⟨h.1.frm k (hS g jp), h.2.frm k (fun x hx => hS x (by simp [hx]))⟩
theorem kL.upd {w w' : World} {g : Nat} {A : Option Addr} {c : Nat} {bs : List Nat} {a e wh a' e' wh' : Nat} (h : kL w g A c bs a e wh) (hb : Blk w' g 144 #[.slice A bs.length c, .int .i64 ((a' : Nat) : Int), .int .i64 ((e' : Nat) : Int), .int .i64 ((wh' : Nat) : Int)]) (k : Frm [g] w w') : kL w' g A c bs a' e' wh' :=
 ⟨hb, h.2.frm k (fun x hx hx2 => by rw [zh] at hx2; subst hx2; exact h.2.ne_blk h.1 jd hx)⟩
def rdN (bs : List Nat) (a e wh n : Nat) : Nat × Nat × Nat × Nat := if e ≠ 0 then (0, a, e, wh) else if bs.length - a < n then (0, a, 2, a) else (numAt bs a n, a + n, 0, wh)
theorem qG0 (A : Option Addr) (c n : Nat) (bs : List Nat) (w : World) (hn : bs.length = n) (hl : n ≤ 1000000000) (hr : Rd w 1 A n (NB bs)) :
  Calls Tryz.prog 40 #[.slice A n c] w fun e w' => ∃ g B d, e = .returned (.pointer (some ⟨g, 0, none⟩)) ∧ kL w' g B d bs 0 0 0 ∧ Frm [] w w' ∧ (∀ x ∈ g :: ob B, w.heap.size ≤ x) := by
 subst hn
 refine VC.calls (nt := 7) (res := #[.tmp 2]) Tryz.func40 rfl Tryz.ntmps40 Tryz.results40 rfl ?_
 refine jS (jR (ja rfl (jO (jN (jv1 0 ?_)))))
 refine jS (jR (jM ?_))
 refine Ops.m (qV.app rfl rfl zf (eA) rfl jd (Own.nil _ _ _) hr (eP _) jo jo) rfl ?_
 rintro _ w1 ⟨B, d, rfl, ho, hf, hob⟩
 have hf : Frm [] w w1 := hf
 rw [zbf, zap] at ho
 rw [zap]
 refine je (Run.build (evs.cons rfl evs.nil) qTm (qX0).choose_spec.1 (qX0).choose_spec.2 rfl) ?_
 refine Ops.m (qV.box rfl) rfl ?_
 rintro _ w2 ⟨rfl, hF2⟩
 have hs1 := hf.size
 have hu : ∀ x ∈ ob B, w.heap.size ≤ x := fun x hx => by
  rcases hob with h | h
  · rw [h] at hx; cases hx
  rw [h, zh] at hx; omega
 refine ja rfl (jO (jN (jv1 2 ?_)))
 refine jT ?_
 refine qT rfl ?_
 refine ⟨w1.heap.size, B, d, rfl, ⟨hF2.blk, ho.frm hF2.frm jp⟩, hf.trans hF2.frm jp, fun x hx => ?_⟩
 rcases zbv.1 hx with rfl | hx
 · exact hs1
 exact hu x hx
theorem qG1 (g : Nat) (A : Option Addr) (c : Nat) (bs : List Nat) (a wh k x : Nat) (w : World) (hO : kL w g A c bs a 0 wh) :
  Calls Tryz.prog 82 #[.pointer (some ⟨g, 0, none⟩), .int .i64 ((k : Nat) : Int), .int .i64 ((x : Nat) : Int)] w fun e w' => e = .returned (.tuple #[]) ∧ kL w' g A c bs x k x ∧ Frm [g] w w' := by
 refine VC.calls (nt := 23) (res := #[]) Tryz.func82 rfl Tryz.ntmps82 Tryz.results82 rfl ?_
 refine jS (jR (jm rfl (je (Run.nilck rfl) (jf rfl zbr rfl zfb (jl rfl zhb (hO.1.cell 2) (jb rfl rfl (Bin.eqlN _ 0) (jO (jN (jv4 0 1 2 10 ?_)))))))))
 refine VC.condT rfl (by rfl) ?_
 refine jS (jR (jm rfl (jm rfl (jm rfl (jm rfl (je (Run.nilck rfl) (jf rfl zbr rfl zfb ?_)))))))
 refine Ops.st (qR.store rfl rfl zfb hO.1 rfl rfl) ?_
 rintro w1 ⟨hb1, hf1, hs1⟩
 refine je (Run.nilck rfl) (jf rfl zbr rfl zc ?_)
 refine Ops.st (qR.store rfl rfl zc hb1 rfl rfl) ?_
 rintro w2 ⟨hb2, hf2, hs2⟩
 refine jO (jN (jv2 0 2 ?_))
 refine jR (jm rfl (jm rfl (je (Run.nilck rfl) (jf rfl zbr rfl zc ?_))))
 refine Ops.st (qR.store rfl rfl zc hb2 rfl rfl) ?_
 rintro w3 ⟨hb3, hf3, hs3⟩
 have K : Frm [g] w w3 := (hf1.trans hf2 (fun x hx => .inl hx)).trans hf3 (fun x hx => .inl hx)
 refine jO ?_
 refine eM ?_
 exact ⟨rfl, hO.upd hb3 K, K⟩
theorem kU (g : Nat) (A : Option Addr) (c : Nat) (bs : List Nat) (a e0 wh n : Nat) (w : World) (hl : bs.length ≤ 1000000000) (ha : a ≤ bs.length) (hn1 : 1 ≤ n) (hn8 : n ≤ 8) (hB : ∀ b ∈ bs, b < 256) (hO : kL w g A c bs a e0 wh) :
  Calls Tryz.prog 41 #[.pointer (some ⟨g, 0, none⟩), .int .i64 ((n : Nat) : Int)] w fun e w' => e = .returned (.int .u64 (((rdN bs a e0 wh n).1 : Nat) : Int)) ∧ kL w' g A c bs (rdN bs a e0 wh n).2.1 (rdN bs a e0 wh n).2.2.1 (rdN bs a e0 wh n).2.2.2 ∧ Frm [g] w w' := by
 refine VC.calls (nt := 43) (res := #[.tmp 4]) Tryz.func41 rfl Tryz.ntmps41 Tryz.results41 rfl ?_
 refine jS (jR ?_)
 refine jy .u64 0 ?_
 refine jO (jN (jv2 0 1 ?_))
 refine jS (jS (jR (jm rfl (je (Run.nilck rfl) (jf rfl zbr rfl zfb (jl rfl zhb (hO.1.cell 2) (jb rfl rfl (Bin.neqN _ 0) (jO (jN (jv3 0 1 11 ?_))))))))))
 refine jD rfl (fun hc1 => ?_) fun hc1 => ?_
 ·
  have hR : rdN bs a e0 wh n = (0, a, e0, wh) := by unfold rdN; rw [if_pos hc1]
  refine jS (jR ?_)
  refine jy .u64 0 ?_
  refine jO (jN (jv1 4 ?_))
  refine jT ?_
  refine qP (qT rfl ?_)
  rw [hR]
  exact ⟨rfl, hO, Frm.refl _ _⟩
 obtain rfl : e0 = 0 := jo
 have hEn := show numE bs.length a n = if bs.length - a < n then 2 else 0 by unfold numE; rw [if_neg jo]
 refine jQ (jN (jv2 0 1 ?_))
 refine jS ?_
 refine VC.held (fun v => Blk v g 144 #[.slice A bs.length c, .int .i64 ((a : Nat) : Int), .int .i64 ((0 : Nat) : Int), .int .i64 ((wh : Nat) : Int)]) jK ?_
 have hS : (fun v => Blk v g 144 #[.slice A bs.length c, .int .i64 ((a : Nat) : Int), .int .i64 ((0 : Nat) : Int), .int .i64 ((wh : Nat) : Int)]) w.drew := hO.1.drawn (qQ.drew _)
 have hO := hO.frm (qQ.drew w).frm jp
 refine jH 0 rfl hS (fun w0 hw0 => Run.mv rfl) ?_
 refine jH 1 rfl hS (fun w0 hw0 => Run.nilck rfl) ?_
 refine jH 2 rfl hS (fun w0 hw0 => Run.fieldAddr rfl zbr rfl zo jd) ?_
 refine jH 3 rfl hS (fun w0 hw0 => Run.load rfl zx (hw0.cell 0)) ?_
 refine jH 4 rfl hS (fun w0 hw0 => Run.mv rfl) ?_
 refine jH 5 rfl hS (fun w0 hw0 => Run.nilck rfl) ?_
 refine jH 6 rfl hS (fun w0 hw0 => Run.fieldAddr rfl zbr rfl zc jd) ?_
 refine jH 7 rfl hS (fun w0 hw0 => Run.load rfl zg (hw0.cell 1)) ?_
 refine jH 8 rfl hS (fun w0 hw0 => Run.mv rfl) ?_
 refine qK.cl 9 rfl jK (jE3 Tryz.call23) (vH A c bs.length a n bs _ rfl hl jo hn1 hn8 hB hO.2.rd) trivial rfl rfl ?_
 rintro e _ ⟨rfl, rfl⟩
 refine ⟨_, rfl, hS, ?_⟩
 refine jH 10 rfl hS (fun w0 hw0 => Run.mv rfl) ?_
 refine jH 11 rfl hS (fun w0 hw0 => Run.extract rfl rfl) ?_
 refine jH 12 rfl hS (fun w0 hw0 => Run.extract rfl rfl) ?_
 refine jH 13 rfl hS (fun w0 hw0 => Run.asg rfl) ?_
 refine jH 14 rfl hS (fun w0 hw0 => Run.asg rfl) ?_
 refine qK.done jK ?_
 refine jN (jv4 0 1 5 6 ?_)
 refine jS (jS (jR (jm rfl (jb rfl rfl (Bin.neqN _ 0) (jO (jN (jv5 0 1 5 6 26 ?_)))))))
 refine jD rfl (fun hc2 => ?_) fun hc2 => ?_
 ·
  have hsh : bs.length - a < n := by
   by_cases h : bs.length - a < n
   · exact h
   rw [hEn, if_neg h] at hc2; exact absurd rfl hc2
  have hR : rdN bs a 0 wh n = (0, a, 2, a) := by unfold rdN; rw [if_neg jp, if_pos hsh]
  rw [if_pos hsh] at hEn
  refine jS (jR (jm rfl (jm rfl (jm rfl (je (Run.nilck rfl) (jf rfl zbr rfl zc (jl rfl zg (hO.1.cell 1) ?_)))))))
  refine Ops.cl (jE3 Tryz.call82) (qG1 g A c bs a wh _ a _ hO) rfl ?_
  rintro e w2 ⟨rfl, hO2, hf2⟩
  refine ⟨_, rfl, ?_⟩
  rw [hEn] at hO2
  refine jO (jN ?_)
  refine VC.sub [] .nil ?_
  refine jS (jR ?_)
  refine jy .u64 0 ?_
  refine jO (jN (jT ?_))
  refine qP (qT rfl ?_)
  rw [hR]
  exact ⟨rfl, hO2, ((qQ.drew w).frm.mono jp).trans hf2 (fun x hx => .inl hx)⟩
 have hsh : ¬ bs.length - a < n := fun h => by
  rw [hEn, if_pos h] at hc2; omega
 have hR : rdN bs a 0 wh n = (numAt bs a n, a + n, 0, wh) := by unfold rdN; rw [if_neg jp, if_neg hsh]
 rw [if_neg hsh] at hEn
 have hNv : numV bs a n = numAt bs a n := by unfold numV; rw [hEn, if_pos rfl]
 refine jQ (jN (jv3 0 1 5 ?_))
 refine jS (jR (jm rfl (je (Run.nilck rfl) (jf rfl zbr rfl zc (jl rfl zg (hO.1.cell 1) (jm rfl (jb rfl rfl (Bin.add_i64 _ _ jo) (je (Run.nilck rfl) (jf rfl zbr rfl zc ?_)))))))))
 refine Ops.st (qR.store rfl rfl zc hO.1 rfl rfl) ?_
 rintro w3 ⟨hb3, hf3, hs3⟩
 have hO3 := hO.upd hb3 hf3
 refine jO (jN (jv1 5 ?_))
 refine jS (jR (jm rfl (ja rfl (jO (jN (jv1 4 ?_))))))
 refine jT ?_
 refine qT rfl ?_
 rw [hR, hNv]
 exact ⟨rfl, hO3, ((qQ.drew w).frm.mono jp).trans hf3 (fun x hx => .inl hx)⟩
theorem qM8 (g : Nat) (A : Option Addr) (c : Nat) (bs : List Nat) (a e0 wh : Nat) (w : World) (hO : kL w g A c bs a e0 wh) :
  Calls Tryz.prog 83 #[.pointer (some ⟨g, 0, none⟩)] w fun e w' => e = .returned (.tuple #[.int .i64 ((e0 : Nat) : Int), .int .i64 ((wh : Nat) : Int)]) ∧ qQ w w' := by
 refine VC.calls (nt := 12) (res := #[.tmp 2, .tmp 3]) Tryz.func83 rfl Tryz.ntmps83 Tryz.results83 rfl ?_
 refine jS (jR (jz 0 (jz 0 (jO (jN (jv1 0 ?_))))))
 refine jS ?_
 refine VC.held (fun v => Blk v g 144 #[.slice A bs.length c, .int .i64 ((a : Nat) : Int), .int .i64 ((e0 : Nat) : Int), .int .i64 ((wh : Nat) : Int)]) jK ?_
 have hS : (fun v => Blk v g 144 #[.slice A bs.length c, .int .i64 ((a : Nat) : Int), .int .i64 ((e0 : Nat) : Int), .int .i64 ((wh : Nat) : Int)]) w.drew := hO.1.drawn (qQ.drew _)
 refine jH 0 rfl hS (fun w0 hw0 => Run.mv rfl) ?_
 refine jH 1 rfl hS (fun w0 hw0 => Run.nilck rfl) ?_
 refine jH 2 rfl hS (fun w0 hw0 => Run.fieldAddr rfl zbr rfl zfb jd) ?_
 refine jH 3 rfl hS (fun w0 hw0 => Run.load rfl zhb (hw0.cell 2)) ?_
 refine jH 4 rfl hS (fun w0 hw0 => Run.mv rfl) ?_
 refine jH 5 rfl hS (fun w0 hw0 => Run.nilck rfl) ?_
 refine jH 6 rfl hS (fun w0 hw0 => Run.fieldAddr rfl zbr rfl zc jd) ?_
 refine jH 7 rfl hS (fun w0 hw0 => Run.load rfl zg (hw0.cell 3)) ?_
 refine jH 8 rfl hS (fun w0 hw0 => Run.asg rfl) ?_
 refine jH 9 rfl hS (fun w0 hw0 => Run.asg rfl) ?_
 refine qK.done jK ?_
 refine jN (jv2 2 3 ?_)
 refine jT ?_
 refine cY rfl rfl ?_
 exact ⟨rfl, qQ.drew w⟩
theorem qM9 (g : Nat) (A : Option Addr) (c : Nat) (bs : List Nat) (a e0 wh : Nat) (w : World) (hl : bs.length ≤ 1000000000) (ha : a ≤ bs.length) (hO : kL w g A c bs a e0 wh) :
  Calls Tryz.prog 43 #[.pointer (some ⟨g, 0, none⟩)] w fun e w' => e = .returned (.tuple #[.int .i64 ((if e0 = 0 ∧ a < bs.length then 7 else e0 : Nat) : Int), .int .i64 ((if e0 = 0 ∧ a < bs.length then a else wh : Nat) : Int)]) ∧ qQ w w' := by
 refine VC.calls (nt := 29) (res := #[.tmp 2, .tmp 3]) Tryz.func43 rfl Tryz.ntmps43 Tryz.results43 rfl ?_
 refine jS (jR (jz 0 (jz 0 (jO (jN (jv1 0 ?_))))))
 refine jS (jS ?_)
 refine VC.splitR [(0, .pointer (some ⟨g, 0, none⟩))] (qQ w) 20 (.bool (decide (e0 = 0 ∧ a < bs.length))) ?_ ?_
 ·
  refine VC.still jK jK ?_
  refine qM ?_
  refine qE (Run.nilck rfl) ?_
  refine qE (Run.fieldAddr rfl zbr rfl zfb jd) ?_
  refine qE (Run.load rfl zhb ((hO.1.drawn (qQ.drew w)).cell 2)) ?_
  refine qE (Run.bin rfl rfl (Bin.eqlN _ 0)) ?_
  by_cases hs8 : e0 = 0
  ·
   refine qM ?_
   refine qG (Run.mv rfl) ?_
   refine qG (Run.nilck rfl) ?_
   refine qG (Run.fieldAddr rfl zbr rfl zc jd) ?_
   refine qG (Run.load rfl zg ((hO.1.drawn (qQ.drew w)).cell 1)) ?_
   refine qG (Run.mv rfl) ?_
   refine qG (Run.nilck rfl) ?_
   refine qG (Run.fieldAddr rfl zbr rfl zo jd) ?_
   refine qG (Run.load rfl zx ((hO.1.drawn (qQ.drew w)).cell 0)) ?_
   refine qG (Run.lenS rfl zf) ?_
   refine qG (Run.bin rfl rfl (Bin.lssN _ _)) ?_
   by_cases hs19 : a < bs.length
   ·
    refine qE (Run.pickT rfl rfl au) ?_
    refine qH.nil ?_
    refine jN ⟨(js2 (jC (by first | (simp [*]; done) | (simp; omega))) rfl), (qQ.drew _)⟩
   refine qE (Run.pickT rfl rfl au) ?_
   refine qH.nil ?_
   refine jN ⟨(js2 (jC (by first | (simp [*]; done) | (simp; omega))) rfl), (qQ.drew _)⟩
  refine qM ?_
  refine qU ?_
  refine qU ?_
  refine qU ?_
  refine qU ?_
  refine qU ?_
  refine qU ?_
  refine qU ?_
  refine qU ?_
  refine qU ?_
  refine qU ?_
  refine qE (Run.pickF rfl rfl au) ?_
  refine qH.nil ?_
  refine jN ⟨(js2 (jC (by first | (simp [*]; done) | (simp; omega))) rfl), (qQ.drew _)⟩
 intro Γ wr2 hΓ hd2
 refine jN (VC.sub _ hΓ ?_)
 refine jD rfl (fun hc1 => ?_) fun hc1 => ?_
 ·
  refine jS ?_
  refine VC.held (fun v => Blk v g 144 #[.slice A bs.length c, .int .i64 ((a : Nat) : Int), .int .i64 ((e0 : Nat) : Int), .int .i64 ((wh : Nat) : Int)]) jK ?_
  have hS : (fun v => Blk v g 144 #[.slice A bs.length c, .int .i64 ((a : Nat) : Int), .int .i64 ((e0 : Nat) : Int), .int .i64 ((wh : Nat) : Int)]) wr2.drew := (hO.1.drawn hd2).drawn (qQ.drew _)
  refine jH 0 rfl hS (fun w0 hw0 => Run.mv rfl) ?_
  refine jH 1 rfl hS (fun w0 hw0 => Run.nilck rfl) ?_
  refine jH 2 rfl hS (fun w0 hw0 => Run.fieldAddr rfl zbr rfl zc jd) ?_
  refine jH 3 rfl hS (fun w0 hw0 => Run.load rfl zg (hw0.cell 1)) ?_
  refine qK.take (v := .int .i64 ((7 : Nat) : Int)) 4 rfl jK jK jK hS (fun w0 hw0 => Run.asg rfl) trivial rfl rfl ?_
  refine jH 5 rfl hS (fun w0 hw0 => Run.asg rfl) ?_
  refine qK.done jK ?_
  refine jN (jv2 2 3 ?_)
  refine jT ?_
  refine qP (cY rfl rfl ?_)
  rw [if_pos hc1, if_pos hc1]
  exact ⟨rfl, hd2.trans (qQ.drew _)⟩
 refine jQ (jN (jv1 0 ?_))
 refine jS (jR (jM ?_))
 refine Ops.cl (jE1 Tryz.call83) (qM8 g A c bs a e0 wh wr2 (hO.frm hd2.frm jp)) rfl ?_
 rintro e w3 ⟨rfl, hd3⟩
 refine ⟨_, rfl, ?_⟩
 refine je (Run.extract rfl rfl) (je (Run.extract rfl rfl) (ja rfl (ja rfl (jO (jN (jv2 2 3 ?_))))))
 refine jT ?_
 refine cY rfl rfl ?_
 rw [if_neg hc1, if_neg hc1]
 exact ⟨rfl, hd2.trans hd3⟩
theorem qWj (A : Option Addr) (c n : Nat) (bs : List Nat) (w : World) (hn : bs.length = n) (hl : n ≤ 1000000000) (hr : Rd w 1 A n (NB bs)) :
  Calls Tryz.prog 28 #[.slice A n c] w fun e w' => ∃ B d, e = .returned (.slice B n d) ∧ Own w' 5 1 B n d (NB bs) ∧ Frm [] w w' ∧ ∀ x ∈ ob B, w.heap.size ≤ x := by
 refine VC.calls (nt := 8) (res := #[.tmp 2]) Tryz.func28 rfl Tryz.ntmps28 Tryz.results28 rfl ?_
 refine jS (jR (ja rfl (jO (jN (jv1 0 ?_)))))
 refine jS (jS (jR (jm rfl (je (Run.eqNilS rfl rfl zf) (jO (jN (jv2 0 4 ?_)))))))
 refine VC.condB rfl (fun hc1 => ?_) (fun hc1 => ?_)
 ·
  refine jS (jR (ja rfl (jO (jN (jv1 2 ?_)))))
  refine jT ?_
  refine qP (qT rfl ?_)
  obtain rfl : A = none := by cases A with | none => rfl | some a => cases hc1
  have hn0 : n = 0 := by
   rcases zda n with h | h
   · exact h
   obtain ⟨_, h1, _⟩ := hr.2 h; cases h1
  subst hn0
  obtain rfl : bs = [] := zab hn
  exact ⟨none, 0, rfl, Own.nil _ _ _, Frm.refl _ _, by simp [ob]⟩
 refine jQ (jN (jv1 0 ?_))
 refine jS (jR ?_)
 refine Ops.m (qV.buildS0 zf zad) rfl ?_
 rintro _ w1 ⟨rfl, hF1⟩
 have ho1 : Own w1 5 1 (some ⟨w.heap.size, 0, none⟩) 0 0 (NB []) := Own.of_blk hF1.blk rfl (by simp [maxLen])
 refine jM ?_
 refine Ops.m (qV.app rfl rfl zf (eA) rfl jd ho1 (hr.frm hF1.frm jp) (eP _) jo jo) rfl ?_
 rintro _ w2 ⟨B, d, rfl, ho2, hf2, hob⟩
 rw [zap] at ho2
 rw [zap]
 have hs1 := hF1.size
 refine ja rfl (jO (jN (jv1 2 ?_)))
 refine jT ?_
 refine qT rfl ?_
 refine ⟨B, d, rfl, ho2, hF1.frm.own hf2 (by simp [ob]), fun x hx => ?_⟩
 rcases hob with h | h
 · rw [h] at hx; simp [ob] at hx; omega
 rw [h, zh] at hx; omega
theorem qWk (A : Option Addr) (c n : Nat) (bs : List Nat) (w : World) (hn : bs.length = n) (hl : n ≤ 1000000000) (hr : Rd w 1 A n (NB bs)) :
  Calls Tryz.prog 24 #[.slice A n c] w fun e w' => ∃ B d, e = .returned (.slice B n d) ∧ Own w' 5 1 B n d (NB bs) ∧ Frm [] w w' ∧ ∀ x ∈ ob B, w.heap.size ≤ x := by
 refine VC.calls (nt := 8) (res := #[.tmp 2]) Tryz.func24 rfl Tryz.ntmps24 Tryz.results24 rfl ?_
 refine jS (jR (ja rfl (jO (jN (jv1 0 ?_)))))
 refine jS (jS (jR (jm rfl (je (Run.eqNilS rfl rfl zf) (jO (jN (jv2 0 4 ?_)))))))
 refine VC.condB rfl (fun hc1 => ?_) (fun hc1 => ?_)
 ·
  refine jS (jR (ja rfl (jO (jN (jv1 2 ?_)))))
  refine jT ?_
  refine qP (qT rfl ?_)
  obtain rfl : A = none := by cases A with | none => rfl | some a => cases hc1
  have hn0 : n = 0 := by
   rcases zda n with h | h
   · exact h
   obtain ⟨_, h1, _⟩ := hr.2 h; cases h1
  subst hn0
  obtain rfl : bs = [] := zab hn
  exact ⟨none, 0, rfl, Own.nil _ _ _, Frm.refl _ _, by simp [ob]⟩
 refine jQ (jN (jv1 0 ?_))
 refine jS (jR ?_)
 refine Ops.m (qV.buildS0 zf zad) rfl ?_
 rintro _ w1 ⟨rfl, hF1⟩
 have ho1 : Own w1 5 1 (some ⟨w.heap.size, 0, none⟩) 0 0 (NB []) := Own.of_blk hF1.blk rfl (by simp [maxLen])
 refine jM ?_
 refine Ops.m (qV.app rfl rfl zf (eA) rfl jd ho1 (hr.frm hF1.frm jp) (eP _) jo jo) rfl ?_
 rintro _ w2 ⟨B, d, rfl, ho2, hf2, hob⟩
 rw [zap] at ho2
 rw [zap]
 have hs1 := hF1.size
 refine ja rfl (jO (jN (jv1 2 ?_)))
 refine jT ?_
 refine qT rfl ?_
 refine ⟨B, d, rfl, ho2, hF1.frm.own hf2 (by simp [ob]), fun x hx => ?_⟩
 rcases hob with h | h
 · rw [h] at hx; simp [ob] at hx; omega
 rw [h, zh] at hx; omega
end
section
open Go.RowKit
theorem qNa (f : Nat → Nat) : ∀ n, n ≤ 15 → fstF f n * 2 ^ (15 - n) = KC f n
 | 0, _ => by simp [fstF, KC]
 | n + 1, h => by
  have ih := qNa f n jo
  have e : 2 ^ (15 - n) = 2 * 2 ^ (15 - (n + 1)) := by rw [show 15 - n = (15 - (n + 1)) + 1 by omega, zbo, zcw]
  rw [KC, ← ih, fstF, e, zdm, zgr]
theorem qYg (f : Nat → Nat) : ∀ d n, KC f n ≤ KC f (n + d)
 | 0, n => zk _
 | d + 1, n => by
  have := qYg f d n
  show _ ≤ KC f (n + d + 1)
  rw [KC]
  omega
theorem qRv (l : List Int) (n : Nat) (hn : n ≤ 15) (hk : KC (cn l) 16 ≤ 32768) : bC l n + cn l n ≤ 2 ^ n := by
 have h1 := qNa (cn l) n hn
 have h2 := qYg (cn l) (15 - n) (n + 1)
 rw [show n + 1 + (15 - n) = 16 by omega, KC, ← h1, ← zgr] at h2
 have h3 : 2 ^ n * 2 ^ (15 - n) = 32768 := by rw [← Nat.pow_add, show n + (15 - n) = 15 by omega]
 have h4 : (fstF (cn l) n + cn l n) * 2 ^ (15 - n) ≤ 2 ^ n * 2 ^ (15 - n) := jo
 exact Nat.le_of_mul_le_mul_right h4 (zft _)
def bH (l : List Int) (s : Nat) : List Bool := (bitsL (cA l s).1 (cA l s).2.toNat).reverse
theorem oT {l : List Int} {s : Nat} (hg : fG l) (hk : KC (cn l) 16 ≤ 32768) (hs : s < l.length) : cA l s = (0, 0) ∨ ∃ n : Nat, cA l s = (bU l s, (n : Int)) ∧ l.getD s 0 = (n : Int) ∧ 1 ≤ n ∧ n ≤ 15 ∧ bU l s < 2 ^ n := by
 unfold cA
 split
 · exact .inl rfl
 rename_i h
 have hx : l.getD s 0 ∈ l := by rw [ze, zb hs]; exact zt hs
 obtain ⟨h1, h2⟩ := hg.2 _ hx
 obtain ⟨n, hn⟩ : ∃ n : Nat, l.getD s 0 = (n : Int) := ⟨(l.getD s 0).toNat, jo⟩
 have h3 := tX l s n hs jo hn
 have h4 := qRv l n jo hk
 refine .inr ⟨n, by rw [hn], hn, jo, jo, ?_⟩
 unfold bU
 rw [hn, zac]
 omega
theorem qNb {l : List Int} {s : Nat} (h : cA l s = (0, 0)) : bH l s = [] := by unfold bH; rw [h]; rfl
theorem eY {l : List Int} {s : Nat} (hg : fG l) (hk : KC (cn l) 16 ≤ 32768) (hs : s < l.length) : (bH l s).length ≤ 15 := by
 unfold bH
 rw [zgd, qN]
 rcases oT hg hk hs with h | ⟨n, h, _, _, h2, _⟩
 · rw [h]; simp
 rw [h]; simp; omega
def lS (T : List (Nat × Nat)) (n : Nat) : Nat → Nat
 | 0 => 0
 | k + 1 => if (T.getD k (0, 0)).1 ≤ n then k else lS T n k
theorem qXf {T : List (Nat × Nat)} {n i : Nat} (h1 : (T.getD i (0, 0)).1 ≤ n) : ∀ k, i < k → (∀ j, i < j → j < k → n < (T.getD j (0, 0)).1) → lS T n k = i
 | 0, h, _ => jo
 | k + 1, h, h2 => by
  unfold lS
  by_cases hk : i = k
  ·
   subst hk
   rw [if_pos h1]
  rw [if_neg (by have := h2 k jo jo; omega)]
  exact qXf h1 k jo (fun j hj1 hj2 => h2 j hj1 jo)
def lenS (n : Nat) : Nat := lS longT n 29
def wayS (n : Nat) : Nat := lS wayT n 30
def lT (l : List Int) (n : Nat) : List Bool := bH l (257 + lenS n) ++ bitsL (n - (longT.getD (lenS n) (0, 0)).1) (longT.getD (lenS n) (0, 0)).2
def mD (l : List Int) (n : Nat) : List Bool := bH l (wayS n) ++ bitsL (n - (wayT.getD (wayS n) (0, 0)).1) (wayT.getD (wayS n) (0, 0)).2
def fM (a b : List Int) (t : Tk) : List Bool := if t.2.1 = 0 then bH a t.1 else lT a t.2.1 ++ mD b t.2.2
def cT (a b : List Int) (l : List Tk) : List Bool := l.flatMap (fM a b) ++ bH a 256
def pM (t : Tk) : Prop := (t.2.1 = 0 ∧ t.2.2 = 0 ∧ t.1 < 256) ∨ (t.1 = 0 ∧ 3 ≤ t.2.1 ∧ t.2.1 ≤ 258 ∧ 1 ≤ t.2.2 ∧ t.2.2 ≤ 32768)
theorem qZf {T : List (Nat × Nat)} {n : Nat} (h0 : (T.getD 0 (0, 0)).1 ≤ n) : ∀ k, 0 < k → lS T n k < k ∧ (T.getD (lS T n k) (0, 0)).1 ≤ n ∧ ∀ j, lS T n k < j → j < k → n < (T.getD j (0, 0)).1
 | 0, h => jo
 | 1, _ => by
  unfold lS
  rw [if_pos h0]
  exact ⟨jo, h0, fun j h1 h2 => jo⟩
 | k + 2, _ => by
  have ih := qZf h0 (k + 1) jo
  rw [lS]
  split
  ·
   rename_i h
   exact ⟨jo, h, fun j h1 h2 => jo⟩
  rename_i h
  refine ⟨jo, ih.2.1, fun j h1 h2 => ?_⟩
  by_cases hj : j = k + 1
  · subst hj; omega
  exact ih.2.2 j h1 jo
theorem fA {n : Nat} (h1 : 3 ≤ n) (h2 : n ≤ 258) : lenS n < 29 ∧ (longT.getD (lenS n) (0, 0)).1 ≤ n ∧ n - (longT.getD (lenS n) (0, 0)).1 < 2 ^ (longT.getD (lenS n) (0, 0)).2 ∧ (longT.getD (lenS n) (0, 0)).2 ≤ 5 := by
 have h : ∀ n, n < 259 → 3 ≤ n → lenS n < 29 ∧ (longT.getD (lenS n) (0, 0)).1 ≤ n ∧ n - (longT.getD (lenS n) (0, 0)).1 < 2 ^ (longT.getD (lenS n) (0, 0)).2 ∧ (longT.getD (lenS n) (0, 0)).2 ≤ 5 := by decide +kernel
 exact h n jo h1
theorem qNc : ∀ i, i < 29 → (wayT.getD (i + 1) (0, 0)).1 = (wayT.getD i (0, 0)).1 + 2 ^ (wayT.getD i (0, 0)).2 := by decide +kernel
theorem qG2 : ∀ i, i < 30 → (wayT.getD i (0, 0)).2 ≤ 13 := by decide +kernel
theorem fI {n : Nat} (h1 : 1 ≤ n) (h2 : n ≤ 32768) : wayS n < 30 ∧ (wayT.getD (wayS n) (0, 0)).1 ≤ n ∧ n - (wayT.getD (wayS n) (0, 0)).1 < 2 ^ (wayT.getD (wayS n) (0, 0)).2 ∧ (wayT.getD (wayS n) (0, 0)).2 ≤ 13 := by
 obtain ⟨h3, h4, h5⟩ := qZf (T := wayT) (n := n) h1 30 jo
 refine ⟨h3, h4, ?_, qG2 _ h3⟩
 show n - (wayT.getD (lS wayT n 30) (0, 0)).1 < 2 ^ (wayT.getD (lS wayT n 30) (0, 0)).2
 generalize lS wayT n 30 = s at h3 h4 h5
 by_cases h : s = 29
 ·
  subst h
  have e0 : (wayT.getD 29 (0, 0)).1 = 24577 := rfl
  have e1 : (wayT.getD 29 (0, 0)).2 = 13 := rfl
  rw [e0, e1]
  omega
 have := qNc s jo
 have := h5 (s + 1) jo jo
 omega
def LOk (l : List Int) : Prop := fG l ∧ KC (cn l) 16 ≤ 32768
theorem qRw {a b : List Int} (ha : LOk a) (hb : LOk b) (hna : 286 ≤ a.length) (hnb : 30 ≤ b.length) {t : Tk} (ht : pM t) : (fM a b t).length ≤ 48 := by
 unfold fM
 rcases ht with ⟨h1, h2, h3⟩ | ⟨h1, h2, h3, h4, h5⟩
 ·
  rw [if_pos h1]
  have := eY ha.1 ha.2 (jo : t.1 < a.length)
  omega
 rw [if_neg jo]
 obtain ⟨h6, _, _, h7⟩ := fA h2 h3
 obtain ⟨h8, _, _, h9⟩ := fI h4 h5
 have h10 := eY ha.1 ha.2 (jo : 257 + lenS t.2.1 < a.length)
 have h11 := eY hb.1 hb.2 (jo : wayS t.2.2 < b.length)
 unfold lT mD
 simp only [za, qN]
 omega
theorem mW {a b : List Int} (ha : LOk a) (hb : LOk b) (hna : 286 ≤ a.length) (hnb : 30 ≤ b.length) : ∀ L : List Tk, (∀ t ∈ L, pM t) → (L.flatMap (fM a b)).length ≤ 48 * L.length
 | [], _ => jp
 | t :: L, h => by
  have h1 := qRw ha hb hna hnb (h t jp)
  have h2 := mW ha hb hna hnb L (fun x hx => h x (by simp [hx]))
  rw [zq, za, zp]
  omega
end
section
open Go.RowKit
theorem qYh (a b : Nat × Int) (w : World) : (Op.eqFields 9999 (CB a).toArray (CB b).toArray (Tryz.prog.fieldsOf 179).toList).run Tryz.prog w = .ok (decide (a = b)) w := by
 obtain ⟨f0, f1, hf, ⟨n0, t0, o0⟩, n1, t1, o1⟩ := qH2
 rw [hf]
 have h := qW4 (P := Tryz.prog) (w := w) (d := 9998) (xs := (CB a).toArray) (ys := (CB b).toArray) (f := f0) (fs := [f1]) (k := .u64) (k' := .u64) (a := a.1) (b := b.1) (by rw [n0]; decide) (by rw [t0]; exact zcj) (by rw [t0]; exact zv) (by rw [o0]; rfl) (by rw [o0]; rfl)
  (qW4 (k := .i64) (k' := .i64) (a := a.2) (b := b.2) (by rw [n1]; decide) (by rw [t1]; exact zg) (by rw [t1]; exact zaa) (by rw [o1]; rfl) (by rw [o1]; rfl) qTl)
 have e : decide (a = b) = (decide ((a.1 : Int) = (b.1 : Int)) && (decide (a.2 = b.2) && true)) := by
  obtain ⟨a1, a2⟩ := a
  obtain ⟨b1, b2⟩ := b
  rw [zhq]
  simp
  intro _
  omega
 rw [e]
 exact h
end
section
open Go.RowKit
def WR (w w' : World) (g : Nat) (A : Option Addr) (l : List Bool) : Prop := ∃ A', IsW w' g A' l ∧ Frm (g :: ob A) w w' ∧ ∀ x ∈ ob A', x ∈ ob A ∨ w.heap.size ≤ x
theorem WR.refl {w : World} {g : Nat} {A : Option Addr} {l : List Bool} (h : IsW w g A l) : WR w w g A l := ⟨A, h, Frm.refl _ _, fun _ hx => .inl hx⟩
theorem qTb : ∀ (L : List (Nat × Int)) (s : Nat) (h : s < L.length), ((L.flatMap CB).drop (s * 2)).take 2 = CB L[s]
 | a :: L, 0, _ => rfl
 | a :: L, s + 1, h => by
  have := qTb L s (by simpa using h)
  rw [show (a :: L).flatMap CB = CB a ++ L.flatMap CB from rfl, show (s + 1) * 2 = (CB a).length + s * 2 by rw [zD]; omega, zco]
  exact this
theorem qQd (l : List Int) (s : Nat) (hs : s < l.length) : (((cW l).flatMap CB).drop (s * 2)).take 2 = CB (cA l s) := by
 rw [qTb _ s (by simpa [cW] using hs)]
 simp [cW]
theorem qNd (g s c : Nat) (A B : Option Addr) (l : List Bool) (ls : List Int) (w : World) (hl3 : ls.length ≤ 320) (hs : s < ls.length) (hl : l.length ≤ 1000000000) (hW : IsW w g A l) (hr : Rd w 2 B ls.length ((cW ls).flatMap CB)) (h0 : cA ls s = (0, 0)) :
  Calls Tryz.prog 92 #[.pointer (some ⟨g, 0, none⟩), .slice B ls.length c, .int .i64 ((s : Nat) : Int)] w fun e w' => (∃ k : Int, e = .returned (.int .i64 k)) ∧ WR w w' g A (l ++ bH ls s) := by
 obtain ⟨ad, rfl, hel⟩ := hr.elem hs
 rw [qQd ls s hs, h0] at hel
 refine VC.calls (nt := 39) (res := #[.tmp 6]) Tryz.func92 rfl Tryz.ntmps92 Tryz.results92 rfl ?_
 refine jS (jR (jz 0 (jO (jN (jv3 0 1 2 ?_)))))
 refine jS (jS (jR (jm rfl (jb rfl rfl (Bin.lssN _ 0) (jM ?_)))))
 refine jG ?_
 refine jG ?_
 refine jk (Run.lenS rfl zdy) ?_
 refine jk (Run.bin rfl rfl (Bin.geqN _ _)) ?_
 refine je (Run.pickF rfl rfl au) (jO (jN (jv4 0 1 2 15 ?_)))
 refine VC.condF rfl (by first | rfl | (simp; omega)) ?_
 refine jQ (jN (jv3 0 1 2 ?_))
 refine jS (jR (jm rfl (jm rfl (je (Run.indexS _ rfl rfl zdy zdl jo) (je (Run.loadA rfl Tryz.isAgg179 zdl hel (by first | rfl | (simp; done))) ?_)))))
 refine Ops.m (qV.alloc oI) rfl ?_
 rintro _ w1 ⟨rfl, hF1⟩
 have hg1 : g ≠ w.heap.size := by have := hW.lt g jp; omega
 have hW1 := hW.frm hF1.frm jp
 have hAl := fun x hx => hW.lt x hx
 refine Ops.st (qR.storeA rfl rfl zdl hF1.blk rfl (zE _)) ?_
 rintro w2 ⟨hb2, hf12, hs12⟩
 have hW2 := hW1.frm hf12 (fun x hx => by have := hAl x hx; simp; omega)
 have hf2 : Frm [] w w2 := hF1.frm.own hf12 jp
 have hb2 : Blk w2 w.heap.size 179 (CB (0, 0)).toArray := hb2
 refine jO (jN (jv2 0 7 ?_))
 refine jS (jB (jS (jR (je (Run.loadA rfl Tryz.isAgg179 zdl (fun j v hj => hb2.cells j v (by simpa using hj)) (by first | rfl | (simp; done))) (je (Run.build evs.nil oI (gN).choose_spec.1 (gN).choose_spec.2 rfl) (je (Run.eqlAgg rfl rfl jK jK jK ((qYh (0, 0) (0, 0) _))) (ja rfl (jO (jN (jv3 0 7 20 ?_))))))))))
 refine VC.condT rfl (rfl) ?_
 refine jS (jR (jz 11 (jO (jN (jv1 6 ?_)))))
 refine jT ?_
 refine qO (qP (qT rfl ?_))
 exact ⟨⟨_, rfl⟩, by rw [qNb h0, zdd]; exact ⟨A, hW2, hf2.mono jp, fun x hx => .inl hx⟩⟩
theorem qNe (g s c : Nat) (A B : Option Addr) (l : List Bool) (ls : List Int) (w : World) (hl3 : ls.length ≤ 320) (hs : s < ls.length) (hl : l.length ≤ 1000000000) (hW : IsW w g A l) (hr : Rd w 2 B ls.length ((cW ls).flatMap CB)) (n : Nat) (h0 : cA ls s = (bU ls s, (n : Int))) (h1 : 1 ≤ n) (h2 : n ≤ 15) (h3 : bU ls s < 2 ^ n) :
  Calls Tryz.prog 92 #[.pointer (some ⟨g, 0, none⟩), .slice B ls.length c, .int .i64 ((s : Nat) : Int)] w fun e w' => (∃ k : Int, e = .returned (.int .i64 k)) ∧ WR w w' g A (l ++ bH ls s) := by
 obtain ⟨ad, rfl, hel⟩ := hr.elem hs
 rw [qQd ls s hs, h0] at hel
 have hpw : 2 ^ n ≤ 2 ^ 15 := zz jo h2
 have hne : ¬ ((bU ls s, (n : Int)) = ((0, 0) : Nat × Int)) := fun h => by have := (Prod.mk.inj h).2; omega
 refine VC.calls (nt := 39) (res := #[.tmp 6]) Tryz.func92 rfl Tryz.ntmps92 Tryz.results92 rfl ?_
 refine jS (jR (jz 0 (jO (jN (jv3 0 1 2 ?_)))))
 refine jS (jS (jR (jm rfl (jb rfl rfl (Bin.lssN _ 0) (jM ?_)))))
 refine jG ?_
 refine jG ?_
 refine jk (Run.lenS rfl zdy) ?_
 refine jk (Run.bin rfl rfl (Bin.geqN _ _)) ?_
 refine je (Run.pickF rfl rfl au) (jO (jN (jv4 0 1 2 15 ?_)))
 refine VC.condF rfl (by first | rfl | (simp; omega)) ?_
 refine jQ (jN (jv3 0 1 2 ?_))
 refine jS (jR (jm rfl (jm rfl (je (Run.indexS _ rfl rfl zdy zdl jo) (je (Run.loadA rfl Tryz.isAgg179 zdl hel (by first | rfl | (simp; done))) ?_)))))
 refine Ops.m (qV.alloc oI) rfl ?_
 rintro _ w1 ⟨rfl, hF1⟩
 have hg1 : g ≠ w.heap.size := by have := hW.lt g jp; omega
 have hW1 := hW.frm hF1.frm jp
 have hAl := fun x hx => hW.lt x hx
 refine Ops.st (qR.storeA rfl rfl zdl hF1.blk rfl (zE _)) ?_
 rintro w2 ⟨hb2, hf12, hs12⟩
 have hW2 := hW1.frm hf12 (fun x hx => by have := hAl x hx; simp; omega)
 have hf2 : Frm [] w w2 := hF1.frm.own hf12 jp
 have hb2 : Blk w2 w.heap.size 179 (CB (bU ls s, (n : Int))).toArray := hb2
 refine jO (jN (jv2 0 7 ?_))
 refine jS (jB (jS (jR (je (Run.loadA rfl Tryz.isAgg179 zdl (fun j v hj => hb2.cells j v (by simpa using hj)) (by first | rfl | (simp; done))) (je (Run.build evs.nil oI (gN).choose_spec.1 (gN).choose_spec.2 rfl) (je (Run.eqlAgg rfl rfl jK jK jK ((qYh (bU ls s, (n : Int)) (0, 0) _))) (ja rfl (jO (jN (jv3 0 7 20 ?_))))))))))
 refine VC.condF rfl (decide_eq_false hne) ?_
 refine jS (jR (jf rfl zet rfl zc (jl rfl zg (hb2.cell 1) (jb rfl rfl (Bin.lssN _ 1) (jM ?_)))))
 refine jk (Run.fieldAddr rfl zet rfl zc jd) ?_
 refine jk (Run.load rfl zg (hb2.cell 1)) ?_
 refine jk (Run.bin rfl rfl (Bin.gtrN _ 15)) ?_
 refine je (Run.pickF rfl rfl au) (ja rfl (jO (jN (jv3 0 7 24 ?_))))
 refine VC.condF rfl (by first | rfl | (simp; omega)) ?_
 refine jQ ?_
 refine qJ (jN ?_)
 refine jv2 0 7 ?_
 refine jS (jR (jm rfl (jf rfl zet rfl zbl (jl rfl zcj (hb2.cell 0) (jf rfl zet rfl zc (jl rfl zg (hb2.cell 1) ?_))))))
 refine Ops.cl (jE3 Tryz.call122) (qMe g (bU ls s) n A l _ h3 jo hl hW2) rfl ?_
 rintro e w3 ⟨rfl, A3, hW3, hf3, hA3⟩
 refine ⟨_, rfl, ?_⟩
 refine ja rfl (jO (jN (jv1 6 ?_)))
 refine jT ?_
 refine qT rfl ?_
 refine ⟨⟨_, rfl⟩, A3, ?_, (hf2.mono jp).trans hf3 (fun x hx => .inl hx), fun x hx => ?_⟩
 ·
  unfold bH
  rw [h0]
  exact hW3
 rcases hA3 x hx with h | h
 · exact .inl h
 exact .inr (zn hf2.size h)
theorem vM (g s c : Nat) (A B : Option Addr) (l : List Bool) (ls : List Int) (w : World) (hg : fG ls) (hk : KC (cn ls) 16 ≤ 32768) (hs : s < ls.length) (hl : l.length ≤ 1000000000) (hW : IsW w g A l) (hr : Rd w 2 B ls.length ((cW ls).flatMap CB)) :
  Calls Tryz.prog 92 #[.pointer (some ⟨g, 0, none⟩), .slice B ls.length c, .int .i64 ((s : Nat) : Int)] w fun e w' => (∃ k : Int, e = .returned (.int .i64 k)) ∧ WR w w' g A (l ++ bH ls s) := by
 rcases oT hg hk hs with h | ⟨n, h1, _, h2, h3, h4⟩
 · exact qNd g s c A B l ls w hg.1 hs hl hW hr h
 exact qNe g s c A B l ls w hg.1 hs hl hW hr n h1 h2 h3 h4
theorem IsW.keepB {w w' : World} {g x : Nat} {A : Option Addr} {l : List Bool} {t : TypeId} {cs : Array Value} (h : IsW w g A l) (f : Frm (g :: ob A) w w') (hb : Blk w x t cs) (h1 : 154 ≠ t) (h2 : 5 ≠ t) : Blk w' x t cs := by
 obtain ⟨c, h3, h4⟩ := h
 refine hb.frm f (fun hx => ?_)
 rcases zbv.1 hx with rfl | hx
 · exact h3.ne hb h1 rfl
 exact h4.ne_blk hb h2 hx
theorem IsW.keepO {w w' : World} {g e size n c : Nat} {A B : Option Addr} {l : List Bool} {xs : List Value} (h : IsW w g A l) (f : Frm (g :: ob A) w w') (ho : Own w e size B n c xs) (h1 : 154 ≠ e) (h2 : 5 ≠ e) : Own w' e size B n c xs := by
 obtain ⟨c2, h3, h4⟩ := h
 refine ho.frm f (fun x hx hx2 => ?_)
 rcases zbv.1 hx2 with rfl | hx2
 · exact ho.ne_blk h3 (Ne.symm h1) hx
 exact h4.ne_own ho h2 x hx2 hx
theorem WR.trans {w w1 w2 : World} {g : Nat} {A A1 : Option Addr} {l2 : List Bool} (f : Frm (g :: ob A) w w1) (hA : ∀ x ∈ ob A1, x ∈ ob A ∨ w.heap.size ≤ x) (h : WR w1 w2 g A1 l2) : WR w w2 g A l2 := by
 obtain ⟨A2, h1, h2, h3⟩ := h
 refine ⟨A2, h1, f.trans h2 (fun x hx => ?_), fun x hx => ?_⟩
 ·
  rcases zbv.1 hx with rfl | hx
  · exact .inl jp
  rcases hA x hx with h | h
  · exact .inl (by simp [h])
  exact .inr h
 rcases h3 x hx with h | h
 · exact hA x h
 exact .inr (zn f.size h)
theorem vN (v1 v2 : Value) (h1 : v1.cells = #[v1]) (h2 : v2.cells = #[v2]) (w : World) :
  Calls Tryz.prog 64 #[v1, v2] w fun e w' => ∃ g2 g3, e = .returned (.func (.func 99) #[] #[.pointer (some ⟨g2, 0, none⟩), .pointer (some ⟨g3, 0, none⟩)]) ∧ Blk w' g2 88 #[v1] ∧ Blk w' g3 117 #[v2] ∧ Frm [] w w' := by
 refine VC.calls (nt := 6) (res := #[.tmp 4]) Tryz.func64 rfl Tryz.ntmps64 Tryz.results64 rfl ?_
 refine jS (jR ?_)
 refine Ops.m (qV.box rfl) rfl ?_
 rintro _ w1 ⟨rfl, hF1⟩
 refine Ops.m (qV.box rfl) rfl ?_
 rintro _ w2 ⟨rfl, hF2⟩
 refine ja rfl (jO (jN (jv2 2 3 ?_)))
 refine jS (jR (je (Run.mkFunc evs.nil (evs.cons rfl (evs.cons rfl evs.nil))) (ja rfl (jO (jN (jv1 4 ?_))))))
 refine jT ?_
 refine qT rfl ?_
 have hb1 := hF1.blk
 have hb2 := hF2.blk
 rw [h1] at hb1
 rw [h2] at hb2
 exact ⟨_, _, rfl, hb1.frm hF2.frm jp, hb2, hF1.frm.trans hF2.frm jp⟩
theorem tG (g g2 g3 s n v c : Nat) (A B : Option Addr) (l : List Bool) (ls : List Int) (w : World) (hg : fG ls) (hk : KC (cn ls) 16 ≤ 32768) (hs : s < ls.length) (hv : v < 2 ^ n) (hn : n ≤ 32) (hl : l.length ≤ 900000000) (hW : IsW w g A l) (ho : Own w 179 2 B ls.length c ((cW ls).flatMap CB))
  (hb2 : Blk w g2 88 #[.pointer (some ⟨g, 0, none⟩)]) (hb3 : Blk w g3 117 #[.slice B ls.length c]) :
  Calls Tryz.prog 99 #[.int .i64 ((s : Nat) : Int), .int .i64 ((n : Nat) : Int), .int .i64 ((v : Nat) : Int), .pointer (some ⟨g2, 0, none⟩), .pointer (some ⟨g3, 0, none⟩)] w fun e w' => e = .returned (.tuple #[]) ∧ WR w w' g A (l ++ bH ls s ++ bitsL v n) := by
 have hpw : 2 ^ n ≤ 2 ^ 32 := zz jo hn
 have hcl := eY hg hk hs
 refine VC.calls (nt := 17) (res := #[]) Tryz.func99 rfl Tryz.ntmps99 Tryz.results99 rfl ?_
 refine jS (jR (jl rfl Tryz.isAgg88 (hb2.cell 0) (jl rfl Tryz.isAgg117 (hb3.cell 0) (jM ?_))))
 refine Ops.cl (jE3 Tryz.call92) (vM g s c A B l ls w hg hk hs jo hW ho.rd) rfl ?_
 rintro e w1 ⟨⟨k, rfl⟩, A1, hW1, hf1, hA1⟩
 refine ⟨_, rfl, ?_⟩
 have hb2 := hW.keepB hf1 hb2 jd jd
 refine jO (jN (jv3 1 2 3 ?_))
 refine jR (jl rfl Tryz.isAgg88 (hb2.cell 0) (jm rfl (je (Run.convN _ rfl zaa zv (by simp only [bmax]; omega)) (jM ?_))))
 refine Ops.cl (jE3 zez) (gL g v n A1 (l ++ bH ls s) w1 hv hn (by rw [za]; omega) hW1) rfl ?_
 rintro e w2 ⟨rfl, h2⟩
 refine ⟨_, rfl, ?_⟩
 refine jO ?_
 refine eM ?_
 exact ⟨rfl, WR.trans hf1 hA1 h2⟩
end
section
open Go.RowKit
theorem qG3 (k i : Nat) (h : i < k) (hk : k ≤ 19) : (bX.take k).drop i = bX.getD i 0 :: (bX.take k).drop (i + 1) ∧ bX.getD i 0 < 19 := by
 have hl : bX.length = 19 := rfl
 refine ⟨?_, ?_⟩
 ·
  rw [zcn (by rw [zi]; omega), List.getElem_take]
  simp [List.getD, zb (jo : i < bX.length)]
 have : ∀ i, i < 19 → bX.getD i 0 < 19 := jd
 exact this i jo
theorem sR (l : List Int) (k : Nat) (x : Int) : (IB l).set k (.int .i64 x) = IB (l.set k x) := by simp [IB, List.map_set]
theorem sS (A : Option Addr) (c0 : Nat) (l : List Int) (n : Nat) (w : World) (hl : l.length ≤ 1000000) (hn : l.length = n) (hr : Rd w 1 A n (IB l)) :
  Calls Tryz.prog 117 #[.slice A n c0] w fun e w' => Frm [] w w' ∧ if newE l = 0 then ∃ g B c, e = .returned (.pointer (some ⟨g, 0, none⟩)) ∧ IsD w' g B c (cn l) (bC l) (bG l) (bE l) ∧ ∀ x ∈ g :: ob B, w.heap.size ≤ x
   else e = .panicked (Pan 11) := by
 subst hn
 exact qM4 A c0 l w hl hr
theorem qT2 {w : World} {A : Option Addr} {c : Nat} {l : List Int} (h : Rd w 1 A l.length (IB l)) (k : Nat) (hk : k ≤ l.length) (hc : l.length ≤ c) : Rd w 1 (cC A c 0 1) (k - 0) (IB (l.take k)) := by
 have e := h.cut (l := 0) (r := k) (cap := c) jo hk hc
 have e2 : IB (l.take k) = ((IB l).drop (0 * 1)).take ((k - 0) * 1) := by simp [IB, zdf]
 rw [e2]
 exact e
theorem qT3 {w : World} {A : Option Addr} {c : Nat} {l : List Int} (h : Rd w 1 A l.length (IB l)) (k : Nat) (hk : k ≤ l.length) (hc : l.length ≤ c) : Rd w 1 (cC A c k 1) (l.length - k) (IB (l.drop k)) := by
 have e := h.cut (l := k) (r := l.length) (cap := c) hk (zk _) hc
 have e2 : IB (l.drop k) = ((IB l).drop (k * 1)).take ((l.length - k) * 1) := by
  rw [zdq, zdq, zm (by simp [IB])]
  simp [IB, zgk]
 rw [e2]
 exact e
theorem gR {l : List Int} (h : newE l = 0) : l.length ≤ 320 ∧ bE l ≤ 15 := by
 have hch : chk l ≠ 1 := by
  intro h1
  unfold newE at h
  rw [h1, if_neg jo] at h
  omega
 have hg := pW hch
 refine ⟨hg.1, ?_⟩
 unfold bE
 split
 ·
  rename_i h2
  unfold newE at h
  split at h
  ·
   rename_i h3
   rcases h3.2 with h4 | h4 <;> omega
  omega
 exact zk _
theorem qNf (gx gr p : Nat) (Ar A : Option Addr) (bs : List Nat) (c : Nat) (out : List Nat) (most : Nat) (w : World) (hbs : bs.length ≤ 1000000) (hB : ∀ b ∈ bs, b < 256) (hX : IsX w gx gr Ar bs p A c out most) :
  Calls Tryz.prog 118 #[.pointer (some ⟨gx, 0, none⟩)] w fun e w' => Frm [gr] w w' ∧ match rO (ofB bs) p with
   | .error k => e = .panicked (Pan k)
   | .ok x => ∃ ga Ba ca gb Bb cb, e = .returned (.tuple #[.pointer (some ⟨ga, 0, none⟩), .pointer (some ⟨gb, 0, none⟩)]) ∧ IsX w' gx gr Ar bs x.1 A c out most ∧ IsD w' ga Ba ca (cn x.2.1) (bC x.2.1) (bG x.2.1) (bE x.2.1) ∧ IsD w' gb Bb cb (cn x.2.2) (bC x.2.2) (bG x.2.2) (bE x.2.2) ∧ newE x.2.1 = 0 ∧ newE x.2.2 = 0 := by
 generalize hF : rO (ofB bs) p = F
 unfold rO at hF
 refine VC.calls (nt := 72) (res := #[.tmp 2, .tmp 3]) Tryz.func118 rfl Tryz.ntmps118 Tryz.results118 rfl ?_
 refine jS (jR (ja rfl (ja rfl (jO (jN (jv1 0 ?_))))))
 refine jS (jR (jM ?_))
 refine Ops.clp (jE2 zej) (dG gx gr 5 p Ar A bs c out most _ jo hbs hB hX) rfl ?_
 rintro e w1 ⟨hf1, he⟩
 have hfr1 := hf1
 rcases hT1 : bN (ofB bs) 5 p with kk | ⟨v1, p1⟩
 ·
  rw [hT1] at he
  simp only [hT1, dR] at hF
  subst hF
  exact .inr ⟨_, he, qD (bT ⟨hfr1, rfl⟩)⟩
 rw [hT1] at he
 simp only [hT1, qB] at hF
 obtain ⟨rfl, hX1⟩ := he
 obtain ⟨hp1, hpl1, hv1, _⟩ := cK hT1
 refine .inl ⟨_, rfl, ?_⟩
 refine jb rfl rfl (Bin.add_i64 257 _ jo) (jM ?_)
 refine Ops.clp (jE2 zej) (dG gx gr 5 p1 Ar A bs c out most _ jo hbs hB hX1) rfl ?_
 rintro e w2 ⟨hf2, he⟩
 have hfr2 := hfr1.trans hf2 (fun x hx => .inl hx)
 rcases hT2 : bN (ofB bs) 5 p1 with kk | ⟨v2, p2⟩
 ·
  rw [hT2] at he
  simp only [hT2, dR] at hF
  subst hF
  exact .inr ⟨_, he, qD (bT ⟨hfr2, rfl⟩)⟩
 rw [hT2] at he
 simp only [hT2, qB] at hF
 obtain ⟨rfl, hX2⟩ := he
 obtain ⟨hp2, hpl2, hv2, _⟩ := cK hT2
 refine .inl ⟨_, rfl, ?_⟩
 refine jb rfl rfl (Bin.add_i64 1 _ jo) (jM ?_)
 refine Ops.clp (jE2 zej) (dG gx gr 4 p2 Ar A bs c out most _ jo hbs hB hX2) rfl ?_
 rintro e w3 ⟨hf3, he⟩
 have hfr3 := hfr2.trans hf3 (fun x hx => .inl hx)
 rcases hT3 : bN (ofB bs) 4 p2 with kk | ⟨v3, p3⟩
 ·
  rw [hT3] at he
  simp only [hT3, dR] at hF
  subst hF
  exact .inr ⟨_, he, qD (bT ⟨hfr3, rfl⟩)⟩
 rw [hT3] at he
 simp only [hT3, qB] at hF
 obtain ⟨rfl, hX3⟩ := he
 obtain ⟨hp3, hpl3, hv3, _⟩ := cK hT3
 refine .inl ⟨_, rfl, ?_⟩
 rw [bL] at hpl1 hpl2 hpl3
 refine jb rfl rfl (Bin.add_i64 4 _ jo) (ja rfl (ja rfl (ja rfl (jO (jN (jv4 0 4 5 6 ?_))))))
 refine jS (jR (jm rfl (jb rfl rfl (Bin.leqN _ 286) (jM ?_))))
 by_cases hs24 : 257 + v1 ≤ 286
 rotate_left
 ·
  refine jU ?_
  refine jU ?_
  refine je (Run.pickF rfl rfl au) ?_
  refine Ops.clp (jE2 zec) (dS false 3 _) rfl ?_
  rintro e _ ⟨rfl, rfl⟩
  refine .inr ⟨_, by rw [if_neg jd], qD (bT ?_)⟩
  rw [if_pos (fun h => hs24 h.1)] at hF
  subst hF
  exact ⟨hfr3, rfl⟩
 refine jG ?_
 refine jk (Run.bin rfl rfl (Bin.leqN _ 30)) ?_
 refine je (Run.pickT rfl rfl au) ?_
 refine Ops.clp (jE2 zec) (dS (decide (1 + v2 ≤ 30)) 3 _) rfl ?_
 rintro e _ ⟨rfl, rfl⟩
 by_cases hN1 : 1 + v2 ≤ 30
 rotate_left
 ·
  refine .inr ⟨_, by rw [if_neg (by simpa using hN1)], qD (bT ?_)⟩
  rw [if_pos (fun h => hN1 h.2)] at hF
  subst hF
  exact ⟨hfr3, rfl⟩
 refine .inl ⟨_, by rw [if_pos (by simpa using hN1)], ?_⟩
 refine jO (jN (jv4 0 4 5 6 ?_))
 refine jS (jR ?_)
 refine Ops.m (qV.makeS (n := 19) rfl rfl zd (dX) rfl jd jd) rfl ?_
 rintro _ w4 ⟨rfl, ho4, hf4, hs4⟩
 have hX4 := hX3.frm0 hf4
 have hfr4 := hfr3.trans hf4 jp
 have ho4 : Own w4 3 1 (some ⟨w3.heap.size, 0, none⟩) 19 19 (IB (List.replicate 19 0)) := ho4
 have hg3 := hfr3.size
 have hlt3 := hX3.lt
 generalize hgl : w3.heap.size = gl at *
 refine ja rfl (jO (jN (jv5 0 4 5 6 7 ?_)))
 refine jS (jR ?_)
 refine Ops.cl (jE0 Tryz.call137) (qWh _) rfl ?_
 rintro e w5 ⟨rfl, hf5⟩
 refine ⟨_, rfl, ?_⟩
 have hX5 := hX4.frm0 hf5
 have ho5 := ho4.frm hf5 jp
 have hfr5 := hfr4.trans hf5 jp
 refine Ops.m (qV.alloc sJ) rfl ?_
 rintro _ w6 ⟨rfl, hF6⟩
 have hX6 := hX5.frm0 hF6.frm
 have ho6 := ho5.frm hF6.frm jp
 have hfr6 := hfr5.trans hF6.frm jp
 have hg5 := hfr5.size
 have hlt5 := hX5.lt
 have hb6 := hF6.blk
 refine Ops.st (qR.storeA rfl rfl Tryz.sizeOf111 hb6 rfl (fH bX)) ?_
 rintro w7 ⟨hb7, hf7, hs7⟩
 have hb7 : Blk w7 w5.heap.size 111 (NI bX).toArray := hb7
 have hX7 := hX6.frm hf7 (fun x hx h5 => by
  simp at h5
  subst h5
  rcases zbv.1 hx with h6 | hx
  · have := hlt5.1; omega
  rcases zbv.1 hx with h6 | hx
  · have := hlt5.2.1; omega
  rcases List.mem_append.1 hx with hx | hx
  · have := hlt5.2.2.1 _ hx; omega
  have := hlt5.2.2.2 _ hx; omega)
 have hfr7 : Frm [gr] w w7 := hfr6.trans hf7 (fun x hx => .inr (by simp at hx; omega))
 have hltl := ho5.lt gl (by simp [ob])
 have ho7 := ho6.frm hf7 (fun x hx h5 => by simp [ob] at hx h5; omega)
 rw [if_neg (fun h => h ⟨hs24, hN1⟩)] at hF
 generalize hgo : w5.heap.size = go at *
 refine jO (jN (jv6 0 4 5 6 7 8 ?_))
 refine jS (jS (jR (jm rfl (je (Run.sliceA 0 _ rfl zfg zc evB.none_ (evB.some_ rfl) jo jo) ?_))))
 rw [pH, zcf, zcf]
 refine je (Run.lenS rfl zd) ?_
 refine jx .i64 0 ?_
 refine jO (jN (jv7 0 4 5 7 32 33 34 ?_))
 refine jB ?_
 refine VC.loop (σ := Nat × Nat × List Int) (fun s => [(0, .pointer (some ⟨gx, 0, none⟩)), (4, .int .i64 ((257 + v1 : Nat) : Int)), (5, .int .i64 ((1 + v2 : Nat) : Int)), (7, .slice (some ⟨gl, 0, none⟩) 19 19), (32, .slice (some ⟨go, 0, none⟩) (4 + v3) 19), (33, .int .i64 ((4 + v3 : Nat) : Int)), (34, .int .i64 ((s.1 : Nat) : Int))]) (fun s wr => s.1 ≤ 4 + v3 ∧ bnd (kJ (ofB bs) ((bX.take (4 + v3)).drop s.1) s.2.1 s.2.2) (qXe (ofB bs) (257 + v1) (1 + v2)) = F ∧ s.2.2.length = 19 ∧ IsX wr gx gr Ar bs s.2.1 A c out most ∧ Own wr 3 1 (some ⟨gl, 0, none⟩) 19 19 (IB s.2.2) ∧ Blk wr go 111 (NI bX).toArray ∧ Frm [gr] w wr) (fun s => 4 + v3 - s.1) (0, p3, List.replicate 19 0) (js7 rfl rfl rfl rfl rfl rfl rfl) ⟨jo, hF, rfl, hX7, ho7, hb7, hfr7⟩ ?_
 clear hF hX7 ho7 hb7 hfr7
 rintro ⟨i, q, l⟩ w8 ⟨hi, hF, hll, hX8, ho8, hb8, hfr8⟩
 dsimp only at hi hF hll hX8 ho8 hb8 hfr8 ⊢
 refine jS (jR (jb rfl rfl (Bin.lssN _ _) (jO (jN (jS ?_)))))
 refine jD rfl (fun hc1 => ?_) fun hc1 => ?_
 ·
  obtain ⟨htk, hs19⟩ := qG3 (4 + v3) i hc1 jo
  rw [htk] at hF
  simp only [kJ] at hF
  have hcell : w8.cell? ((⟨go, 0, none⟩ : Addr).add i) = some (.int .i64 ((bX.getD i 0 : Nat) : Int)) := by
   rw [fY, hb8.cell]
   have h5 : i < bX.length := by have : bX.length = 19 := rfl; omega
   simp [NI, List.getD, zb h5]
  generalize bX.getD i 0 = si at *
  refine jQ (jN (jv7 0 4 5 7 32 33 34 ?_))
  refine jS (jB (jS (jR (je (Run.index1 _ rfl rfl zd zc jo) (jl rfl zg hcell (ja rfl (jO (jN (jv8 0 4 5 7 10 32 33 34 ?_)))))))))
  refine jR (jm rfl (jm rfl (jM ?_)))
  refine Ops.clp (jE2 zej) (dG gx gr 3 q Ar A bs c out most _ jo hbs hB hX8) rfl ?_
  rintro e w9 ⟨hf9, he⟩
  have hfr9 := hfr8.trans hf9 (fun x hx => .inl hx)
  rcases hT9 : bN (ofB bs) 3 q with kk | ⟨v9, p9⟩
  ·
   rw [hT9] at he
   rw [hT9] at hF
   simp only [dR] at hF
   subst hF
   exact .inr ⟨_, he, eX (qD (qD (eX (qD (bT ⟨hfr9, rfl⟩)))))⟩
  rw [hT9] at he
  rw [hT9] at hF
  simp only [qB] at hF
  obtain ⟨rfl, hX9⟩ := he
  obtain ⟨hp9, hpl9, hv9, _⟩ := cK hT9
  refine .inl ⟨_, rfl, ?_⟩
  have hgrl : gr ≠ gl := fun h => by have := hlt3.2.1; omega
  have hgro : gr ≠ go := fun h => by have := hlt5.2.1; omega
  have ho9 := ho8.frm hf9 (fun x hx h5 => by simp [ob] at hx h5; omega)
  have hb9 := hb8.frm hf9 (by simp; omega)
  refine je (Run.index1 _ rfl rfl zd zc jo) ?_
  refine Ops.st (qR.storeOwn si rfl rfl zc ho9 rfl jo rfl) ?_
  rintro w10 ⟨ho10, hf10, hs10⟩
  rw [sR] at ho10
  have hX10 := hX9.frm hf10 (fun x hx h5 => by
   simp [ob] at h5
   subst h5
   rcases zbv.1 hx with h6 | hx
   · have := hlt3.1; omega
   rcases zbv.1 hx with h6 | hx
   · have := hlt3.2.1; omega
   rcases List.mem_append.1 hx with hx | hx
   · have := hlt3.2.2.1 _ hx; omega
   have := hlt3.2.2.2 _ hx; omega)
  refine jO ?_
  refine qJ (jN ?_)
  refine jv7 0 4 5 7 32 33 34 ?_
  refine jR (jb rfl rfl (Bin.add_i64 _ 1 jo) (jm rfl (jO ?_)))
  refine jN ⟨(i + 1, p9, l.set si (v9 : Int)), (js7 rfl rfl rfl rfl rfl rfl rfl), ?_, ?_⟩
  · refine ⟨by dsimp only; omega, hF, by dsimp only; rw [zdw]; exact hll, hX10, ho10, hb9.frm hf10 (by simp [ob]; omega), hfr9.trans hf10 (fun x hx => .inr (by simp [ob] at hx; omega))⟩
  first | omega | (dsimp only; omega)
 have hiv : i = 4 + v3 := jo
 subst hiv
 rw [zea (by rw [zi]; omega)] at hF
 simp only [kJ, qB] at hF
 refine jX ?_
 refine qZ (qZ (qW ?_))
 refine jN (jv4 0 4 5 7 ?_)
 refine jS (jR (jM ?_))
 refine Ops.clp (jE1 Tryz.call117) (sS _ 19 l 19 _ jo hll ho8.rd) rfl ?_
 rintro e w11 ⟨hf11, he⟩
 by_cases hn11 : newE l = 0
 rotate_left
 ·
  rw [if_neg hn11] at he
  refine .inr ⟨_, he, qD (bT ?_)⟩
  simp only [qXe] at hF
  rw [if_pos hn11] at hF
  subst hF
  exact ⟨hfr8.trans hf11 jp, rfl⟩
 rw [if_pos hn11] at he
 obtain ⟨gd11, Bd11, cd11, rfl, hD11, hgd11⟩ := he
 refine .inl ⟨_, rfl, ?_⟩
 simp only [qXe] at hF
 rw [if_neg (by simpa using hn11)] at hF
 have hX11 := hX8.frm0 hf11
 have hfr11 := hfr8.trans hf11 jp
 obtain ⟨hl11, hm11⟩ := gR hn11
 rw [bL] at hF
 refine ja rfl (jO (jN (jv4 0 4 5 11 ?_)))
 refine jS (jR (ja rfl (jO (jN (jS (jB ?_))))))
 refine VC.loop (σ := Nat × Nat × List Int × Option Addr × Nat) (fun s => [(0, .pointer (some ⟨gx, 0, none⟩)), (4, .int .i64 ((257 + v1 : Nat) : Int)), (5, .int .i64 ((1 + v2 : Nat) : Int)), (11, .pointer (some ⟨gd11, 0, none⟩)), (12, .slice s.2.2.2.1 s.2.2.1.length s.2.2.2.2)]) (fun s wr => bnd (mU (ofB bs) l (257 + v1 + (1 + v2)) s.1 s.2.1 s.2.2.1) (qXd (257 + v1)) = F ∧ 8 * bs.length < s.1 + s.2.1 ∧ s.2.2.1.length ≤ 257 + v1 + (1 + v2) ∧ IsX wr gx gr Ar bs s.2.1 A c out most ∧ IsD wr gd11 Bd11 cd11 (cn l) (bC l) (bG l) (bE l) ∧ Own wr 3 1 s.2.2.2.1 s.2.2.1.length s.2.2.2.2 (IB s.2.2.1) ∧ Frm [gr] w wr ∧ (∀ x ∈ ob s.2.2.2.1, w.heap.size ≤ x) ∧ ∀ x ∈ gd11 :: ob Bd11, x ∉ ob s.2.2.2.1) (fun s => 8 * bs.length + 1 - s.2.1) (8 * bs.length + 1, q, [], none, 0) (js5 rfl rfl rfl rfl rfl) ⟨hF, by dsimp only; omega, jp, hX11, hD11, Own.nil _ _ _, hfr11, jF, by simp [ob]⟩ ?_
 clear hF hX11 hfr11
 rintro ⟨f, q2, all, Al, cl⟩ w12 ⟨hF, hfq, hal, hX12, hD12, hO12, hfr, hul, hdl⟩
 dsimp only at hF hfq hal hX12 hD12 hO12 hfr hul hdl ⊢
 have hp12 := hX12.2.2.2.2.1
 obtain ⟨f, rfl⟩ : ∃ f', f = f' + 1 := ⟨f - 1, jo⟩
 simp only [mU] at hF
 have hs12 := hfr.size
 have hltD := hD12.2.lt
 have hltd := hD12.1.lt
 refine jS (jS (jR (jm rfl (je (Run.lenS rfl zd) (jm rfl (jm rfl (jb rfl rfl (Bin.add_i64 _ _ jo) (jb rfl rfl (Bin.lssN _ _) (jO (jN (jv6 0 4 5 11 12 51 ?_)))))))))))
 refine jD rfl (fun hc2 => ?_) fun hc2 => ?_
 ·
  rw [if_pos hc2] at hF
  refine jQ (jN (jv5 0 4 5 11 12 ?_))
  refine jB (jR (jm rfl (jm rfl (jm rfl (jm rfl (jm rfl (jb rfl rfl (Bin.add_i64 _ _ jo) ?_)))))))
  refine Ops.clp (jE4 Tryz.call138) (qGx gx gr q2 gd11 Ar A Bd11 cd11 l bs c out most Al cl all (257 + v1 + (1 + v2)) _ hl11 hm11 hbs hB jo hal hX12 hD12 hO12) rfl ?_
  rintro e w13 ⟨hf13, he⟩
  have hfr13 : Frm [gr] w w13 := hfr.trans hf13 (fun x hx => by rcases zbv.1 hx with rfl | hx; exact .inl jp; exact .inr (hul x hx))
  rcases hT13 : nE (ofB bs) l q2 all (257 + v1 + (1 + v2)) with kk | ⟨q3, all3⟩
  ·
   rw [hT13] at he hF
   simp only [dR] at hF
   subst hF
   exact .inr ⟨_, he, eX (qD (eX (qD (bT ⟨hfr13, rfl⟩))))⟩
  rw [hT13] at he hF
  simp only [qB] at hF
  obtain ⟨B13, c13, rfl, hX13, hO13, hu13⟩ := he
  dsimp only at hX13 hO13 hu13
  obtain ⟨hq1, hq2, hq3, hq4⟩ := qKk hm11 (by rw [bL]; exact hp12) hT13
  refine .inl ⟨_, rfl, ?_⟩
  refine ja rfl (jO ?_)
  refine qJ (jN ⟨(f, q3, all3, B13, c13), (js5 rfl rfl rfl rfl rfl), ?_, ?_⟩)
  ·
   have hgrd : ∀ x ∈ gd11 :: ob Bd11, x ∉ gr :: ob Al := fun x hx h5 => by
    rcases zbv.1 h5 with rfl | h5
    ·
     rcases zbv.1 hx with h6 | hx
     · exact hD12.1.ne hX12.2.1.choose_spec.1 jd h6.symm
     exact hD12.2.ne_blk hX12.2.1.choose_spec.1 jd hx
    exact hdl x hx h5
   refine ⟨hF, by dsimp only; omega, hq3, hX13, hD12.frm hf13 hgrd, hO13, hfr13, fun x hx => (hu13 x hx).elim (hul x) (fun h => zn hs12 h), fun x hx h5 => ?_⟩
   rcases hu13 x h5 with h6 | h6
   · exact hdl x hx h6
   rcases zbv.1 hx with rfl | hx
   · omega
   have := hltD x hx; omega
  dsimp only; rw [bL] at hq2; omega
 rw [if_neg hc2] at hF
 simp only [qB] at hF
 have hle : all.length = 257 + v1 + (1 + v2) := jo
 obtain ⟨ad, rfl, hc256⟩ := oR hO12.rd (k := 256) jo
 have hg256 : all.getD 256 0 = all[256] := by simp [List.getD, zb (jo : 256 < all.length)]
 refine jX ?_
 refine qZ (qZ (qW ?_))
 refine jN (jv2 4 12 ?_)
 refine jS (jR (jm rfl (je (Run.index1 256 rfl rfl zd zc jo) (jl rfl zg hc256 (jb rfl rfl (Bin.gtr _ 0) ?_)))))
 refine Ops.clp (jE2 zec) (dS (decide (0 < all[256])) 11 _) rfl ?_
 rintro e _ ⟨rfl, rfl⟩
 by_cases hN2 : 0 < all[256]
 rotate_left
 ·
  refine .inr ⟨_, by rw [if_neg (by simpa using hN2)], qD (bT ?_)⟩
  simp only [qXd, hg256] at hF
  rw [if_pos (by simpa using hN2)] at hF
  subst hF
  exact ⟨hfr, rfl⟩
 refine .inl ⟨_, by rw [if_pos (by simpa using hN2)], ?_⟩
 simp only [qXd, hg256] at hF
 rw [if_neg (by simpa using hN2)] at hF
 have hcap := hO12.le
 refine jO (jN (jv2 4 12 ?_))
 refine jS ?_
 refine VC.held (fun _ => True) jK ?_
 refine jH 0 rfl trivial (fun w0 hw0 => Run.mv rfl) ?_
 refine jH 1 rfl trivial (fun w0 hw0 => Run.mv rfl) ?_
 refine jH 2 rfl trivial (fun w0 hw0 => Run.sliceS 0 _ rfl zd zc evB.none_ (evB.some_ rfl) jo jo) ?_
 refine jH 4 rfl trivial (fun w0 hw0 => Run.mv rfl) ?_
 refine jH 5 rfl trivial (fun w0 hw0 => Run.mv rfl) ?_
 refine jH 6 rfl trivial (fun w0 hw0 => Run.sliceS _ _ rfl zd zc (evB.some_ rfl) evB.none_ jo jo) ?_
 refine qK.clp 3 rfl jK (jE1 Tryz.call117) (sS _ _ (all.take (257 + v1)) _ _ (by simp; omega) (by first | (simp; done) | (simp; omega)) (qT2 ((hO12.rd).drawn (qQ.drew w12)) (257 + v1) jo hcap)) trivial rfl rfl ?_
 rintro e w14 ⟨hf14, he⟩
 have hfr14 := (hfr.drawn (qQ.drew w12)).trans hf14 jp
 by_cases hn14 : newE (all.take (257 + v1)) = 0
 rotate_left
 ·
  rw [if_neg hn14] at he
  refine .inr ⟨_, he, qD (bT ?_)⟩
  rw [if_pos hn14] at hF
  subst hF
  exact ⟨hfr14, rfl⟩
 rw [if_pos hn14] at he
 rw [if_neg (by simpa using hn14)] at hF
 obtain ⟨gd14, Bd14, cd14, rfl, hD14, hgd14⟩ := he
 refine .inl ⟨_, rfl, trivial, ?_⟩
 refine qK.clp 7 rfl jK (jE1 Tryz.call117) (sS _ _ (all.drop (257 + v1)) _ _ (by simp; omega) (by first | (simp; done) | (simp; omega)) ((qT3 ((hO12.rd).drawn (qQ.drew w12)) (257 + v1) jo hcap).frm hf14 jp)) trivial rfl rfl ?_
 rintro e w15 ⟨hf15, he⟩
 have hfr15 := (hfr14).trans hf15 jp
 by_cases hn15 : newE (all.drop (257 + v1)) = 0
 rotate_left
 ·
  rw [if_neg hn15] at he
  refine .inr ⟨_, he, qD (bT ?_)⟩
  rw [if_pos hn15] at hF
  subst hF
  exact ⟨hfr15, rfl⟩
 rw [if_pos hn15] at he
 rw [if_neg (by simpa using hn15)] at hF
 obtain ⟨gd15, Bd15, cd15, rfl, hD15, hgd15⟩ := he
 refine .inl ⟨_, rfl, trivial, ?_⟩
 refine jH 8 rfl trivial (fun w0 hw0 => Run.asg rfl) ?_
 refine jH 9 rfl trivial (fun w0 hw0 => Run.asg rfl) ?_
 refine qK.done jK ?_
 refine jN (jv2 2 3 ?_)
 refine jT ?_
 refine cY rfl rfl ?_
 subst hF
 exact ⟨hfr15, gd14, Bd14, cd14, gd15, Bd15, cd15, rfl, (hX12.frm0 (qQ.drew w12).frm).frm0 (hf14.trans hf15 jp), hD14.frm hf15 jp, hD15, hn14, hn15⟩
end
end Go.Proofs.YtndjgmbfkkgpdaaGreat
