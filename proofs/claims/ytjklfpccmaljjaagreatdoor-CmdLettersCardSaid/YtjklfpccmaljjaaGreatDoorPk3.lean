/-
  Lemmas on the way, joined: KeyP, CmdAp, CmdSt, CmdKa, Eng21, Eng22, Eng30, CmdKb, CmdKc, CmdKd, CmdKe, CmdKf, CmdKg, CmdDe, CmdDf, CmdDg, CmdPu, CmdPv, CmdPx, CmdL1.
-/
import Derived.Laws.IdiomCopy
import Derived.Lib.AppendZerosOnto
import Derived.Test.YtjklfpccmaljjaaGreatDoorPk2
set_option maxRecDepth 100000
set_option linter.unusedVariables false
set_option linter.unusedSimpArgs false
set_option maxHeartbeats 8000000
namespace Go.Proofs.YtjklfpccmaljjaaGreatDoor
section
open Go.RowKit
inductive KeyV where
 | mk (kind : Int) (s t : Tx) (n : Int) (set : List Sp) (l : List KeyV) : KeyV
def KeyV.kind : KeyV → Int | .mk k _ _ _ _ _ => k
def KeyV.s : KeyV → Tx | .mk _ s _ _ _ _ => s
def KeyV.t : KeyV → Tx | .mk _ _ t _ _ _ => t
def KeyV.n : KeyV → Int | .mk _ _ _ n _ _ => n
def KeyV.set : KeyV → List Sp | .mk _ _ _ _ x _ => x
def KeyV.l : KeyV → List KeyV | .mk _ _ _ _ _ l => l
def k0 : KeyV := .mk 0 [] [] 0 [] []
instance : Inhabited KeyV := ⟨k0⟩
def KeC (k : KeyV) (SA : Option Addr) (sc : Nat) (LA : Option Addr) (lc : Nat) : List Value := [.int .i64 k.kind, encStr k.s, encStr k.t, .int .i64 k.n, .slice SA k.set.length sc, .slice LA k.l.length lc]
theorem cX (k : KeyV) (SA : Option Addr) (sc : Nat) (LA : Option Addr) (lc : Nat) : ∀ u ∈ KeC k SA sc LA lc, u.oneCell' = true := by
 intro u hu
 simp only [KeC, zab, zag, or_false] at hu
 rcases hu with rfl | rfl | rfl | rfl | rfl | rfl <;> rfl
def RdK : Nat → World → (Nat → Prop) → List Value → KeyV → Prop
 | 0, _, _, _, _ => False
 | d + 1, W, B, cs, k => ∃ (SA : Option Addr) (sc : Nat) (LA : Option Addr) (lc : Nat) (css : List (List Value)), cs = KeC k SA sc LA lc ∧ Own W 96 2 SA k.set.length sc (SC k.set) ∧ Own W 30 6 LA k.l.length lc css.flatten ∧ ((∀ x ∈ ob SA, B x) ∧ ∀ x ∈ ob LA, B x) ∧ css.length = k.l.length ∧ ∀ i, i < k.l.length → RdK d W B (css.getD i []) (k.l.getD i k0)
def eX (d : Nat) (W : World) (B : Nat → Prop) (css : List (List Value)) (ks : List KeyV) : Prop := css.length = ks.length ∧ ∀ i, i < ks.length → RdK d W B (css.getD i []) (ks.getD i k0)
theorem RdK.frm : ∀ {d : Nat} {W W' : World} {B : Nat → Prop} {S : List Nat} {cs : List Value} {k : KeyV}, RdK d W B cs k → Frm S W W' → (∀ x ∈ S, ¬ B x) → RdK d W' B cs k
 | 0, _, _, _, _, _, _, h, _, _ => h.elim
 | d + 1, _, _, _, _, _, _, ⟨SA, sc, LA, lc, css, h1, h2, h3, h4, h5, h6⟩, k, hS => ⟨SA, sc, LA, lc, css, h1, h2.frm k (fun y hy hn => hS y hn (h4.1 y hy)), h3.frm k (fun y hy hn => hS y hn (h4.2 y hy)), h4, h5, fun i hi => (h6 i hi).frm k hS⟩
theorem RdK.mono : ∀ {d : Nat} {W : World} {B B' : Nat → Prop} {cs : List Value} {k : KeyV}, RdK d W B cs k → (∀ x, B x → x < W.heap.size → B' x) → RdK d W B' cs k
 | 0, _, _, _, _, _, h, _ => h.elim
 | d + 1, _, _, _, _, _, ⟨SA, sc, LA, lc, css, h1, h2, h3, h4, h5, h6⟩, hB => ⟨SA, sc, LA, lc, css, h1, h2, h3, ⟨fun y hy => hB y (h4.1 y hy) (h2.lt y hy), fun y hy => hB y (h4.2 y hy) (h3.lt y hy)⟩, h5, fun i hi => (h6 i hi).mono hB⟩
theorem RdK.succ : ∀ {d : Nat} {W : World} {B : Nat → Prop} {cs : List Value} {k : KeyV}, RdK d W B cs k → RdK (d + 1) W B cs k
 | 0, _, _, _, _, h => h.elim
 | d + 1, _, _, _, _, ⟨SA, sc, LA, lc, css, h1, h2, h3, h4, h5, h6⟩ => ⟨SA, sc, LA, lc, css, h1, h2, h3, h4, h5, fun i hi => (h6 i hi).succ⟩
theorem RdK.le {d d' : Nat} {W : World} {B : Nat → Prop} {cs : List Value} {k : KeyV} (h : RdK d W B cs k) (hd : d ≤ d') : RdK d' W B cs k := by
 induction hd with
 | refl => exact h
 | step _ ih => exact ih.succ
theorem RdK.cells {d : Nat} {W : World} {B : Nat → Prop} {cs : List Value} {k : KeyV} (h : RdK d W B cs k) : cs.length = 6 ∧ ∀ u ∈ cs, u.oneCell' = true := by
 cases d with
 | zero => exact h.elim
 | succ d =>
  obtain ⟨SA, sc, LA, lc, css, rfl, _⟩ := h
  exact ⟨rfl, cX _ _ _ _ _⟩
theorem RdK.blk {d : Nat} {W W' : World} {B : Nat → Prop} {cs : List Value} {k : KeyV} {g : Nat} {t : TypeId} {csx : Array Value} : RdK d W B cs k → Blk W g t csx → Frm [g] W W' → 96 ≠ t → 30 ≠ t → RdK d W' B cs k := by
 induction d generalizing cs k with
 | zero => exact fun h _ _ _ _ => h.elim
 | succ d ih =>
  rintro ⟨SA, sc, LA, lc, css, h1, h2, h3, h4, h5, h6⟩ hb kf n1 n2
  exact ⟨SA, sc, LA, lc, css, h1, h2.one kf hb n1, h3.one kf hb n2, h4, h5, fun i hi => ih (h6 i hi) hb kf n1 n2⟩
theorem eX.cells {d : Nat} {W : World} {B : Nat → Prop} {css : List (List Value)} {ks : List KeyV} (h : eX d W B css ks) : (∀ x ∈ css, x.length = 6) ∧ ∀ u ∈ css.flatten, u.oneCell' = true := by
 have key : ∀ x ∈ css, x.length = 6 ∧ ∀ u ∈ x, u.oneCell' = true := fun x hx => by
  obtain ⟨i, hi, rfl⟩ := List.mem_iff_getElem.1 hx
  have := (h.2 i (by rw [← h.1]; exact hi)).cells
  rw [zf, zb hi] at this
  exact this
 refine ⟨fun x hx => (key x hx).1, fun u hu => ?_⟩
 obtain ⟨x, hx, hu⟩ := List.mem_flatten.1 hu
 exact (key x hx).2 u hu
theorem qKj {css : List (List Value)} (h : ∀ x ∈ css, x.length = 6) {i : Nat} (hi : i < css.length) : (css.flatten.drop (i * 6)).take 6 = css.getD i [] := by
 induction css generalizing i with
 | nil => simp at hi
 | cons a r ih =>
  have ha : a.length = 6 := h a jp
  cases i with
  | zero => simp [ha]
  | succ i =>
   have := ih (fun x hx => h x (by simp [hx])) (i := i) (by simpa using hi)
   rw [show (i + 1) * 6 = a.length + i * 6 by omega, List.flatten_cons, List.drop_append, zdr jo, zdo, show a.length + i * 6 - a.length = i * 6 by omega, this]
   rfl
theorem eX.get {d : Nat} {W : World} {B : Nat → Prop} {css : List (List Value)} {ks : List KeyV} {LA : Option Addr} (h : eX d W B css ks) (hr : Rd W 6 LA ks.length css.flatten) {i : Nat} (hi : i < ks.length) : ∃ ad, LA = some ad ∧ ∀ j v, (css.getD i [])[j]? = some v → W.cell? ((ad.add (i * 6)).add j) = some v := by
 obtain ⟨ad, h1, hc⟩ := hr.elem hi
 refine ⟨ad, h1, fun j v hj => hc j v ?_⟩
 rw [qKj h.cells.1 (by rw [h.1]; exact hi)]
 exact hj
structure CmV where
 tag : Tx
 name : Tx
 uid : Bool
 a : Tx
 b : Tx
 flags : List Tx
 op : Int
 silent : Bool
 set : List Sp
 items : List ItM
 k : KeyV
 sec : Int
 zone : Int
 dated : Bool
 attrs : List Tx
def cm0 (tag : Tx) : CmV := ⟨tag, [], false, [], [], [], 0, false, [], [], k0, 0, 0, false, []⟩
def CmC (c : CmV) (FA : Option Addr) (fc : Nat) (SA : Option Addr) (sc : Nat) (IA : Option Addr) (ic : Nat) (kc : List Value) (TA : Option Addr) (tc : Nat) : List Value := [encStr c.tag, encStr c.name, .bool c.uid, encStr c.a, encStr c.b, .slice FA c.flags.length fc, .int .i64 c.op, .bool c.silent, .slice SA c.set.length sc, .slice IA c.items.length ic] ++ kc ++ [.int .i64 c.sec, .int .i64 c.zone, .bool c.dated, .slice TA c.attrs.length tc]
def bR (W : World) (cs : Array Value) (c : CmV) : Prop :=
 ∃ FA fc SA sc IA ic rs d B kc TA tc, cs.toList = CmC c FA fc SA sc IA ic kc TA tc ∧ Own W 9 1 FA c.flags.length fc (SB c.flags) ∧ Own W 96 2 SA c.set.length sc (SC c.set) ∧ rs.map (·.x) = c.items ∧ IsIt W 0 IA ic rs ∧ RdK d W B kc c.k ∧ Own W 9 1 TA c.attrs.length tc (SB c.attrs)
theorem bR.frm {W W' : World} {cs : Array Value} {c : CmV} (h : bR W cs c) (k : Frm [] W W') : bR W' cs c := by
 obtain ⟨FA, fc, SA, sc, IA, ic, rs, d, B, kc, TA, tc, h1, h2, h3, h4, h5, h6, h7⟩ := h
 exact ⟨FA, fc, SA, sc, IA, ic, rs, d, B, kc, TA, tc, h1, h2.frm k jp, h3.frm k jp, h4, h5.frm k, h6.frm k jp, h7.frm k jp⟩
theorem bR.blk {W W' : World} {cs csx : Array Value} {c : CmV} {g : Nat} {t : TypeId} (h : bR W cs c) (hb : Blk W g t csx) (ht : t = 34 ∨ t = 35) (k : Frm [g] W W') : bR W' cs c := by
 have hne : ∀ e : TypeId, e ≠ 34 → e ≠ 35 → e ≠ t := fun e h1 h2 => by rcases ht with rfl | rfl <;> assumption
 obtain ⟨FA, fc, SA, sc, IA, ic, rs, d, B, kc, TA, tc, h1, h2, h3, h4, h5, h6, h7⟩ := h
 exact ⟨FA, fc, SA, sc, IA, ic, rs, d, B, kc, TA, tc, h1, h2.one k hb (hne _ jd jd), h3.one k hb (hne _ jd jd), h4, h5.blk hb k (hne _ jd jd) (hne _ jd jd) (hne _ jd jd), h6.blk hb k (hne _ jd jd) (hne _ jd jd), h7.one k hb (hne _ jd jd)⟩
theorem bR.cells {W : World} {cs : Array Value} {c : CmV} (h : bR W cs c) : cs.size = 20 ∧ ∀ u ∈ cs.toList, u.oneCell' = true := by
 obtain ⟨FA, fc, SA, sc, IA, ic, rs, d, B, kc, TA, tc, h1, h2, h3, h4, h5, h6, h7⟩ := h
 obtain ⟨e1, e2⟩ := h6.cells
 refine ⟨by rw [← zdk, h1]; simp [CmC, e1], fun u hu => ?_⟩
 rw [h1] at hu
 unfold CmC at hu
 rcases zee.1 hu with hu | hu
 ·
  rcases zee.1 hu with hu | hu
  ·
   simp only [zab, zag, or_false] at hu
   rcases hu with rfl | rfl | rfl | rfl | rfl | rfl | rfl | rfl | rfl | rfl <;> rfl
  exact e2 u hu
 simp only [zab, zag, or_false] at hu
 rcases hu with rfl | rfl | rfl | rfl <;> rfl
theorem RdK.nil (W : World) (B : Nat → Prop) : RdK 1 W B (KeC k0 none 0 none 0) k0 := ⟨none, 0, none, 0, [], rfl, Own.nil _ _ _, Own.nil _ _ _, ⟨by simp [ob], by simp [ob]⟩, rfl, fun i hi => absurd hi (Nat.not_lt_zero i)⟩
theorem bR.plain (W : World) (tag name a b : Tx) (uid : Bool) : bR W #[encStr tag, encStr name, .bool uid, encStr a, encStr b, .slice none 0 0, .int .i64 0, .bool false, .slice none 0 0, .slice none 0 0, .int .i64 0, encStr [], encStr [], .int .i64 0, .slice none 0 0, .slice none 0 0, .int .i64 0, .int .i64 0, .bool false, .slice none 0 0] { cm0 tag with name := name, uid := uid, a := a, b := b } :=
 ⟨none, 0, none, 0, none, 0, [], 1, fun _ => True, _, none, 0, rfl, Own.nil _ _ _, Own.nil _ _ _, rfl, IsIt.nil _ _, RdK.nil W _, Own.nil _ _ _⟩
def kF (tk : List Tk) (_ k : Nat) : Option Nat := (qW tk k [0]).map fun _ => k + 1
def gT (tk : List Tk) (q : Nat) : Option (List Tx × Nat) := (cN tk (kF tk) 0 tk.length q).map fun p => (bS tk (q + 1) p.2, p.1 + 1)
def lP (tk : List Tk) (q : Nat) : Option (List Tx × Nat) := if IsT tk q 2 then gT tk q else some ([], q)
def kA (tk : List Tk) (q : Nat) : Option (Option (Int × Int) × Nat) := if IsT tk q 1 ∧ IsT tk (q + 1) 1 then (qW tk q [1]).bind fun s => (gF s).map fun d => (some d, q + 1) else some (none, q)
def dY (tk : List Tk) (q : Nat) : Option (Tx × List Tx × Option (Int × Int) × Tx × Nat) := (qW tk q [0, 1]).bind fun a => (lP tk (q + 1)).bind fun f => (kA tk f.2).bind fun d => (qW tk d.2 [1]).map fun b => (a, f.1, d.1, b, d.2 + 1)
def apC (tag nm : Tx) (u : Bool) (a b : Tx) (F : Value) (op : Int) (si : Bool) (S : Value) (sec zone : Int) (dt : Bool) : Array Value := #[encStr tag, encStr nm, .bool u, encStr a, encStr b, F, .int .i64 op, .bool si, S, .slice none 0 0, .int .i64 0, encStr [], encStr [], .int .i64 0, .slice none 0 0, .slice none 0 0, .int .i64 sec, .int .i64 zone, .bool dt, .slice none 0 0]
abbrev cM : Value := .slice none 0 0
theorem pU (w0 : World) (cs0 : Array Value) (gp gc : Nat) (A : Option Addr) (n c : Nat) (tk : List Tk) (q : Nat) (w : World) (hX : cQ 5 w0 gp gc A n c tk cs0 [] w q cs0) (hc0 : 5 < cs0.size) (hA : 0 < n → ∀ x ∈ ob A, x < w0.heap.size) : Calls Tryz.prog 62 #[jI0 gp, jI1 0, jI1 n, .func (.func 64) ([jI0 gp] : List Value).toArray ([] : List Value).toArray] w fun e w' => match gT tk q with
   | none => e = .panicked cY ∧ Frm [gp, gc] w0 w'
   | some (l, q2) => e = .returned (.tuple #[]) ∧ ∃ cs2, cQ 5 w0 gp gc A n c tk cs0 l w' q2 cs2 := by
 have hP := hX.isCp.1
 have hln := hP.tk.len
 have hbg := hP.big
 have hone : ∀ j W q1 cs1, j < n → ¬ IsT tk q1 3 → (j ≤ n ∧ q1 = q + 1 + j ∧ cQ 5 w0 gp gc A n c tk cs0 (bS tk (q + 1) j) W q1 cs1) → Calls Tryz.prog 64 (([jI0 gp] : List Value) ++ [] ++ []).toArray W fun e w' => match kF tk j q1 with
   | none => e = .panicked cY ∧ Frm [gp, gc] w0 w'
   | some q2 => e = .returned (.tuple #[]) ∧ ∃ cs2, (j + 1 ≤ n ∧ q2 = q + 1 + (j + 1) ∧ cQ 5 w0 gp gc A n c tk cs0 (bS tk (q + 1) (j + 1)) w' q2 cs2) := by
  intro j W q1 cs1 hj hn3 h
  obtain ⟨_, hq1, hXW⟩ := h
  refine (pP w0 cs0 _ gp gc A n c tk q1 cs1 W hXW hc0 hA (by rw [lN]; omega)).mono fun e w' he => ?_
  unfold kF
  rcases hT1 : qW tk q1 [0] with _ | s
  · rw [hT1] at he; exact he
  rw [hT1] at he
  obtain ⟨he, cs2, hX'⟩ := he
  refine ⟨he, cs2, jo, (by show q1 + 1 = _; omega), ?_⟩
  rw [kU (by rw [← hq1]; exact hT1)]
  exact hX'
 refine (kK 64 [jI0 gp] [] 0 n (kF tk) (fun j W q1 cs1 => j ≤ n ∧ q1 = q + 1 + j ∧ cQ 5 w0 gp gc A n c tk cs0 (bS tk (q + 1) j) W q1 cs1) w0 gp gc A n c tk q cs0 w hP hX.isCp.2 jo jo Tryz.call64 (fun W k hP => ⟨zac _, rfl, hX.read k hP⟩) (fun j W q1 cs1 h => h.2.2.isCp) (fun j W W' q1 cs1 h k => ⟨h.1, h.2.1, h.2.2.frm k⟩) hone).mono ?_
 rintro e w' he
 unfold gT
 rw [hln]
 rcases hL : cN tk (kF tk) 0 n q with _ | ⟨q2, j⟩
 · rw [hL] at he; exact he
 rw [hL] at he
 obtain ⟨rfl, cs2, W1, ⟨_, _, hX7⟩, hf7, hP7⟩ := he
 exact ⟨rfl, cs2, hX7.read hf7 hP7⟩
theorem zU (tag nm : Tx) (gp gc : Nat) (A : Option Addr) (n c : Nat) (tk : List Tk) (q : Nat) (w : World) (hP : IsCp w gp gc A n c tk q (apC tag nm false [] [] cM 0 false cM 0 0 false)) (hA : 0 < n → ∀ x ∈ ob A, x < w.heap.size) (hl : ∀ x ∈ tk, x.2.length ≤ 1000000) : Calls Tryz.prog 33 #[jI0 gp] w fun e w' => match dY tk q with
   | none => e = .panicked cY ∧ Frm [gp, gc] w w'
   | some (a, l, dt, b, q2) => e = .returned (.tuple #[]) ∧ ∃ FA d, Own w' 9 1 FA l.length d (SB l) ∧ IsCp w' gp gc A n c tk q2 (apC tag nm false a b (.slice FA l.length d) 0 false cM (dt.getD (0, 0)).1 (dt.getD (0, 0)).2 dt.isSome) ∧ Frm [gp, gc] w w' := by
 refine jV Tryz.func33 Tryz.ntmps33 Tryz.results33 ?_
 refine jS (jR (jM ?_))
 refine Ops.clp (jE1 Tryz.call40) (lZ gp gc A n c tk q _ w hP) rfl ?_
 rintro e w1 ⟨K1, he⟩
 rcases hT1 : qW tk q [0, 1] with _ | a
 ·
  rw [hT1] at he
  exact .inr ⟨_, he, qK (qP (by rw [show dY tk q = none by simp [dY, hT1]]; exact ⟨rfl, K1⟩))⟩
 rw [hT1] at he
 obtain ⟨rfl, hP1⟩ := he
 have hP1 : IsCp w1 gp gc A n c tk (q + 1) (apC tag nm false a [] cM 0 false cM 0 0 false) := hP1
 refine .inl ⟨_, rfl, ?_⟩
 refine jO (jN (jv1 0 ?_))
 refine jS (jS (jR (jM ?_)))
 refine jc (jE3 zco) (dR 0 2 gp gc A n c tk (q + 1) _ w1 hP1 jo) ?_
 rintro _ w2 ⟨f2, rfl⟩
 refine ⟨_, rfl, ?_⟩
 have hP2 := hP1.frm f2
 have K2 := K1.trans f2 jp
 have hX2 : cQ 5 w gp gc A n c tk (apC tag nm false a [] cM 0 false cM 0 0 false) [] w2 (q + 1) (apC tag nm false a [] cM 0 false cM 0 0 false) := cQ.nil hP2 rfl K2
 rw [zdg]
 refine jO (jN (jv2 0 7 ?_))
 refine VC.meet (σ := List Tx × Nat × Option Addr × Nat) (fun s => [(0, jI0 gp)]) (fun s wr => lP tk (q + 1) = some (s.1, s.2.1) ∧ Own wr 9 1 s.2.2.1 s.1.length s.2.2.2 (SB s.1) ∧ IsCp wr gp gc A n c tk s.2.1 (apC tag nm false a [] (.slice s.2.2.1 s.1.length s.2.2.2) 0 false cM 0 0 false) ∧ Frm [gp, gc] w wr) ?_ ?_
 ·
  refine VC.condB rfl (fun hc1 => ?_) (fun hc1 => ?_)
  ·
   refine jR (jm rfl (jm rfl (jZ rfl (jf rfl zk rfl zcy (jl rfl zbu (hP2.p.cell 0) (jL rfl zs (jm rfl (je (Run.mkFunc (evs.cons rfl evs.nil) evs.nil) ?_))))))))
   refine Ops.clp (jE4 Tryz.call62) (pU w _ gp gc A n c tk (q + 1) w2 hX2 (by show 5 < 20; decide) hA) rfl ?_
   rintro e w3 he
   have hfo : lP tk (q + 1) = gT tk (q + 1) := if_pos (by simpa using hc1)
   rcases hL : gT tk (q + 1) with _ | ⟨l, q1⟩
   ·
    rw [hL] at he hfo
    exact .inr ⟨_, he.1, qK (qK (qP (by rw [show dY tk q = none by simp [dY, hT1, hfo]]; exact ⟨rfl, he.2⟩)))⟩
   rw [hL] at he hfo
   obtain ⟨rfl, cs2, FA, d, o1, o2, o3, o4, o5⟩ := he
   refine .inl ⟨_, rfl, ?_⟩
   refine jO ?_
   refine jN ⟨(l, q1, FA, d), (js1 rfl), ?_⟩
   subst o2
   exact ⟨hfo, o1, o3, o4⟩
  refine jQ ?_
  refine jN ⟨([], q + 1, none, 0), (js1 rfl), ?_⟩
  exact ⟨if_neg (by simpa using hc1), Own.nil _ _ _, hP2, K2⟩
 rintro ⟨l, q1, FA, d⟩ w4 ⟨hfl, hO, hP4, K4⟩ Γ hΓ
 dsimp only at hfl hO hP4
 refine jN (VC.sub _ hΓ (jS (jS ?_)))
 refine VC.splitR [(0, jI0 gp)] (Frm [] w4) 22 (.bool (decide (IsT tk q1 1 ∧ IsT tk (q1 + 1) 1))) ?_ ?_
 ·
  refine jR (jM ?_)
  refine jc (jE3 zco) (dR 0 1 gp gc A n c tk q1 _ w4 hP4 jo) ?_
  rintro _ w5 ⟨f5, rfl⟩
  refine ⟨_, rfl, ?_⟩
  rw [zdg]
  by_cases hs18 : IsT tk q1 1
  ·
   refine jM ?_
   refine jG ?_
   refine Ops.clg rfl au (jE3 zco) (dR 1 1 gp gc A n c tk q1 _ w5 (hP4.frm f5) jo) rfl ?_
   rintro _ w6 ⟨f6, rfl⟩
   refine ⟨_, rfl, ?_⟩
   have f56 := f5.trans f6 jp
   by_cases hs21 : IsT tk (q1 + 1) 1
   ·
    refine jW rfl rfl au (jO ?_)
    refine jN ⟨(js2 (jC (by simp [*])) rfl), ((by first | exact f56 | exact f5))⟩
   refine jW rfl rfl au (jO ?_)
   refine jN ⟨(js2 (jC (by simp [*])) rfl), ((by first | exact f56 | exact f5))⟩
  refine jM ?_
  refine jU ?_
  refine jU ?_
  refine jF rfl rfl au (jO ?_)
  refine jN ⟨(js2 (jC (by simp [*])) rfl), ((by first | exact f56 | exact f5))⟩
 intro Γ w7 hΓ r7
 refine jN (VC.sub _ hΓ ?_)
 refine VC.meet (σ := Option (Int × Int) × Nat) (fun s => [(0, jI0 gp)]) (fun s wr => kA tk q1 = some s ∧ Own wr 9 1 FA l.length d (SB l) ∧ IsCp wr gp gc A n c tk s.2 (apC tag nm false a [] (.slice FA l.length d) 0 false cM (s.1.getD (0, 0)).1 (s.1.getD (0, 0)).2 s.1.isSome) ∧ Frm [gp, gc] w wr) ?_ ?_
 ·
  refine jD rfl (fun hc2 => ?_) fun hc2 => ?_
  ·
   have hP7 := hP4.frm r7
   have hO7 := hO.frm r7 jp
   have K7 := K4.trans r7 jp
   have hPl := hP7.lt
   refine jS (jR (jM ?_))
   refine Ops.m (qH.buildS1 rfl zl zc dH jd jd rfl rfl) rfl ?_
   rintro _ x1 ⟨rfl, hG1⟩
   have hK1 : Rd x1 1 (some ⟨w7.heap.size, 0, none⟩) 1 (IB [1]) := Rd.of_blk (n := 1) (size := 1) hG1.blk rfl
   refine Ops.clp (jE2 zca) (bO (some ⟨w7.heap.size, 0, none⟩) 1 1 [1] gp gc A n c tk q1 _ x1 (hP7.frm hG1.frm) rfl jo hK1 (fun _ x hx => by rw [zg.1 hx]; show w7.heap.size ≠ gp; omega)) rfl ?_
   rintro e w8 ⟨f8, he⟩
   have K8 : Frm [gp, gc] w w8 := (K7.trans hG1.frm jp).trans f8 (fun x hx => .inl (by simp at hx; simp [hx]))
   have hdo : kA tk q1 = (qW tk q1 [1]).bind fun s => (gF s).map fun d => (some d, q1 + 1) := if_pos hc2
   rcases hT8 : qW tk q1 [1] with _ | sd
   ·
    rw [hT8] at he hdo
    exact .inr ⟨_, he, qK (qK (qK (qP (by rw [show dY tk q = none by simp [dY, hT1, hfl, hdo]]; exact ⟨rfl, K8⟩))))⟩
   rw [hT8] at he hdo
   obtain ⟨rfl, hP8⟩ := he
   have hO8 := (hO7.frm hG1.frm jp).one f8 (hP7.frm hG1.frm).p jd
   refine .inl ⟨_, rfl, ?_⟩
   refine jc (jE1 Tryz.call65) (uO sd w8 (bL hT8 hl)) ?_
   rintro _ w9 ⟨f9, sec, zone, cd, rfl, hdm⟩
   refine ⟨_, rfl, ?_⟩
   have hP9 := hP8.frm f9
   have hO9 := hO8.frm f9 jp
   have K9 := K8.trans f9 jp
   refine jm rfl (jY rfl rfl (jY rfl rfl ?_))
   refine Ops.m (qH.alloc lT) rfl ?_
   rintro _ wa ⟨rfl, hFa⟩
   obtain ⟨gx, hgx⟩ : ∃ g, g = w9.heap.size := ⟨_, rfl⟩
   have hx := hFa.blk
   have q9 := K9.size
   have hPa := hP9.frm hFa.frm
   have hOa := hO9.frm hFa.frm jp
   have Ka := K9.trans hFa.frm jp
   rw [← hgx] at hx ⊢
   refine Ops.st (qJ.storeA rfl rfl zbg hx rfl (fun u hu => by simp only [zab, zag, or_false] at hu; rcases hu with rfl | rfl <;> rfl)) ?_
   rintro wb ⟨hx, fb, sb⟩
   have hPb : IsCp wb gp gc A n c tk (q1 + 1) _ := hPa.frmS fb (by simp; exact fun e => by have := hP9.lt; omega) (by simp; exact fun e => by have := hP9.lt; omega) (fun h0 y hy h => by have := hA h0 y hy; simp at h; omega)
   have hOb := hOa.frm fb (fun y hy h => by have := hO9.lt y hy; simp at h; omega)
   have Kb : Frm [gp, gc] w wb := Ka.trans fb (fun x hx => .inr (by simp at hx; omega))
   refine ja rfl (jO (jN (jv3 0 2 3 ?_)))
   refine jS (jR (jm rfl (jb rfl rfl (Bin.eql _ 0) ?_)))
   refine Ops.clp (jE1 zbb) (bZ (decide (cd = 0)) wb) rfl ?_
   rintro e _ ⟨rfl, he⟩
   by_cases hcd : cd = 0
   rotate_left
   ·
    rw [decide_eq_false hcd] at he
    have hno : gF sd = none := by
     rcases hdd : gF sd with _ | p
     · rfl
     rw [hdd] at hdm; exact absurd hdm.2 hcd
    exact .inr ⟨_, he, qK (qK (qK (qP (by rw [show dY tk q = none by simp [dY, hT1, hfl, hdo, hno]]; exact ⟨rfl, Kb⟩))))⟩
   rw [decide_eq_true hcd] at he
   have hso : kA tk q1 = some (some (sec, zone), q1 + 1) := by
    rcases hdd : gF sd with _ | p
    · rw [hdd] at hdm; exact absurd hcd hdm
    rw [hdd] at hdm
    rw [hdo, zn, hdd, hdm.1]
    rfl
   refine .inl ⟨_, he, ?_⟩
   refine jO (jN (jv2 0 2 ?_))
   refine VC.heldL 14 (fun V => V.cell? ⟨gp, 2, none⟩ = some (jI0 gc) ∧ (∀ j v, [Value.int .i64 sec, .int .i64 zone][j]? = some v → V.cell? ((⟨gx, 0, none⟩ : Addr).add j) = some v)) jK ?_
   have hd := (qL.drew wb).frm
   have hPd := hPb.frm hd
   have hxd := hx.frm hd jp
   have hS : (fun V : World => V.cell? ⟨gp, 2, none⟩ = some (jI0 gc) ∧ (∀ j v, [Value.int .i64 sec, .int .i64 zone][j]? = some v → V.cell? ((⟨gx, 0, none⟩ : Addr).add j) = some v)) wb.drew := ⟨hPd.p.cell 2, hxd.cells⟩
   refine jh 0 hS ?_
   refine jH 1 rfl hS (fun w0 hw0 => Run.nilck rfl) ?_
   refine jH 2 rfl hS (fun w0 hw0 => Run.fieldAddr rfl zk rfl zad jd) ?_
   refine jH 3 rfl hS (fun w0 hw0 => Run.load rfl zak hw0.1) ?_
   refine jh 4 hS ?_
   refine jH 5 rfl hS (fun w0 hw0 => Run.nilck rfl) ?_
   refine jH 6 rfl hS (fun w0 hw0 => Run.fieldAddr rfl zk rfl zad jd) ?_
   refine jH 7 rfl hS (fun w0 hw0 => Run.load rfl zak hw0.1) ?_
   refine qQ.r1 8 rfl jK hS (Run.loadA (cs := [.int .i64 sec, .int .i64 zone]) rfl zdv zbg hS.2 rfl) trivial rfl rfl ?_
   refine qQ.r1 9 rfl jK hS (Run.nilck rfl) trivial rfl rfl ?_
   refine qQ.r1 10 rfl jK hS (Run.fieldAddr rfl ze rfl zbg jd) trivial rfl rfl ?_
   refine qQ.st 11 rfl jK (qJ.storeAt (i := 16) rfl rfl zbg hPd.k (show 16 + 2 ≤ 20 by decide) (fun u hu => by simp only [zab, zag, or_false] at hu; rcases hu with rfl | rfl <;> rfl)) trivial rfl ?_
   rintro wc ⟨hbc, fc, sc⟩
   have hPc : IsCp wc gp gc A n c tk (q1 + 1) (apC tag nm false a [] (.slice FA l.length d) 0 false cM sec zone false) := hPd.turn hbc rfl fc
   have hxc := hxd.frm fc (by simp; exact hxd.ne hPd.k jd)
   have hS : (fun V : World => V.cell? ⟨gp, 2, none⟩ = some (jI0 gc) ∧ (∀ j v, [Value.int .i64 sec, .int .i64 zone][j]? = some v → V.cell? ((⟨gx, 0, none⟩ : Addr).add j) = some v)) wc := ⟨hPc.p.cell 2, hxc.cells⟩
   refine ⟨hS, ?_⟩
   refine qQ.r1 12 rfl jK hS (Run.nilck rfl) trivial rfl rfl ?_
   refine qQ.r1 13 rfl jK hS (Run.fieldAddr rfl ze rfl zq jd) trivial rfl rfl ?_
   refine qQ.stL rfl jK (qJ.store (i := 18) rfl rfl zq hPc.k rfl rfl) trivial rfl ?_
   rintro wd ⟨hbd, fd, sd2⟩
   have hPd2 : IsCp wd gp gc A n c tk (q1 + 1) (apC tag nm false a [] (.slice FA l.length d) 0 false cM sec zone true) := hPc.turn hbd rfl fd
   have hOd := ((hOb.frm hd jp).one fc hPd.k jd).one fd hPc.k jd
   have Kd : Frm [gp, gc] w wd := ((Kb.trans hd jp).trans fc (fun x hx => .inl (by simp at hx; simp [hx]))).trans fd (fun x hx => .inl (by simp at hx; simp [hx]))
   refine qQ.done jK ?_
   refine jN ⟨(some (sec, zone), q1 + 1), (js1 rfl), ?_⟩
   exact ⟨hso, hOd, hPd2, Kd⟩
  have hP7 := hP4.frm r7
  have hO7 := hO.frm r7 jp
  have K7 := K4.trans r7 jp
  refine jQ ?_
  refine jN ⟨(none, q1), (js1 rfl), ?_⟩
  exact ⟨if_neg hc2, hO7, hP7, K7⟩
 rintro ⟨dt, q2⟩ we ⟨hdt, hOe, hPe, Ke⟩ Γ hΓ
 dsimp only at hPe
 refine jN (VC.sub _ hΓ ?_)
 refine VC.heldL 9 (fun V => V.cell? ⟨gp, 2, none⟩ = some (jI0 gc)) jK ?_
 have hd := (qL.drew we).frm
 have hPf := hPe.frm hd
 have hS : (fun V : World => V.cell? ⟨gp, 2, none⟩ = some (jI0 gc)) we.drew := hPf.p.cell 2
 have hPl := hPf.lt
 refine jh 0 hS ?_
 refine jH 1 rfl hS (fun w0 hw0 => Run.nilck rfl) ?_
 refine jH 2 rfl hS (fun w0 hw0 => Run.fieldAddr rfl zk rfl zad jd) ?_
 refine jH 3 rfl hS (fun w0 hw0 => Run.load rfl zak hw0) ?_
 refine jh 4 hS ?_
 refine qQ.m 5 rfl jK (qH.buildS1 rfl zl zc dH jd jd rfl rfl) trivial rfl rfl ?_
 rintro _ x2 ⟨rfl, hG2⟩
 have hK2 : Rd x2 1 (some ⟨we.drew.heap.size, 0, none⟩) 1 (IB [1]) := Rd.of_blk (n := 1) (size := 1) hG2.blk rfl
 have hPg := hPf.frm hG2.frm
 have hS : (fun V : World => V.cell? ⟨gp, 2, none⟩ = some (jI0 gc)) x2 := hPg.p.cell 2
 refine ⟨hS, ?_⟩
 refine qQ.clp 6 rfl jK (jE2 zca) (bO (some ⟨we.drew.heap.size, 0, none⟩) 1 1 [1] gp gc A n c tk q2 _ x2 hPg rfl jo hK2 (fun _ x hx => by rw [zg.1 hx]; show we.drew.heap.size ≠ gp; omega)) trivial rfl rfl ?_
 rintro e wh ⟨fh, he⟩
 have Kh : Frm [gp, gc] w wh := ((Ke.trans hd jp).trans hG2.frm jp).trans fh (fun x hx => .inl (by simp at hx; simp [hx]))
 rcases hTh : qW tk q2 [1] with _ | b
 ·
  rw [hTh] at he
  exact .inr ⟨_, he, qP (by rw [show dY tk q = none by simp [dY, hT1, hfl, hdt, hTh]]; exact ⟨rfl, Kh⟩)⟩
 rw [hTh] at he
 obtain ⟨rfl, hPh⟩ := he
 have hOh := ((hOe.frm hd jp).frm hG2.frm jp).one fh hPg.p jd
 have hS : (fun V : World => V.cell? ⟨gp, 2, none⟩ = some (jI0 gc)) wh := hPh.p.cell 2
 refine .inl ⟨_, rfl, hS, ?_⟩
 refine qQ.r1 7 rfl jK hS (Run.nilck rfl) trivial rfl rfl ?_
 refine qQ.r1 8 rfl jK hS (Run.fieldAddr rfl ze rfl zd jd) trivial rfl rfl ?_
 refine qQ.stL rfl jK (qJ.store (i := 4) rfl rfl zd hPh.k rfl rfl) trivial rfl ?_
 rintro wi ⟨hbi, fi, si2⟩
 have hPi : IsCp wi gp gc A n c tk (q2 + 1) (apC tag nm false a b (.slice FA l.length d) 0 false cM (dt.getD (0, 0)).1 (dt.getD (0, 0)).2 dt.isSome) := hPh.turn hbi rfl fi
 refine qQ.done jK ?_
 refine cB ?_
 rw [show dY tk q = some (a, l, dt, b, q2 + 1) by simp [dY, hT1, hfl, hdt, hTh]]
 exact ⟨rfl, FA, d, hOh.one fi hPh.k jd, hPi, Kh.trans fi (fun x hx => .inl (by simp at hx; simp [hx]))⟩
def fM : Tx := [46, 83, 73, 76, 69, 78, 84]
def opM (s : Tx) : Option Int := if s = [70, 76, 65, 71, 83] then some 0 else if s = [43, 70, 76, 65, 71, 83] then some 1 else if s = [45, 70, 76, 65, 71, 83] then some 2 else none
def nAt (tk : List Tk) : Nat → Nat → Nat
 | 0, _ => 0
 | f + 1, k => if IsT tk k 0 then nAt tk f (k + 1) + 1 else 0
def jI (tk : List Tk) (q : Nat) : Option (List Tx × Nat) := if IsT tk q 2 then gT tk q else if IsT tk q 0 then some (bS tk q (nAt tk tk.length q), q + nAt tk tk.length q) else none
noncomputable def eT (tk : List Tk) (q : Nat) : Option (List Sp × Int × Bool × List Tx × Nat) := (dF tk q).bind fun sp => (qW tk (q + 1) [0]).bind fun s => (opM (Lib.trimSuffix (qT s) fM)).bind fun op => (jI tk (q + 2)).map fun f => (sp, op, Lib.hasSuffix (qT s) fM, f.1, f.2)
theorem tF {tk : List Tk} {k : Nat} : (qW tk k [0] = none ↔ ¬ IsT tk k 0) := by
 unfold qW IsT
 constructor
 ·
  intro h hi
  rw [if_pos ⟨hi.1, by rw [hi.2]; simp⟩] at h
  cases h
 intro h
 exact if_neg fun hi => h ⟨hi.1, by simpa using hi.2⟩
theorem zB (tag nm : Tx) (u : Bool) (gp gc : Nat) (A : Option Addr) (n c : Nat) (tk : List Tk) (q : Nat) (w : World) (hP : IsCp w gp gc A n c tk q (apC tag nm u [] [] (cM) (0) (false) (cM) 0 0 false)) (hA : 0 < n → ∀ x ∈ ob A, x < w.heap.size) (hl : ∀ x ∈ tk, x.2.length ≤ 1000000) : Calls Tryz.prog 36 #[jI0 gp] w fun e w' => match eT tk q with
   | none => e = .panicked cY ∧ Frm [gp, gc] w w'
   | some (sp, op, si, l, q2) => e = .returned (.tuple #[]) ∧ ∃ FA d Bs ds, Own w' 9 1 FA l.length d (SB l) ∧ Own w' 96 2 Bs sp.length ds (SC sp) ∧ IsCp w' gp gc A n c tk q2 (apC tag nm u [] [] (.slice FA l.length d) (op) (si) (.slice Bs sp.length ds) 0 0 false) ∧ Frm [gp, gc] w w' := by
 refine jV Tryz.func36 Tryz.ntmps36 Tryz.results36 ?_
 refine jS ?_
 refine VC.heldL 8 (fun V : World => V.cell? ⟨gp, 2, none⟩ = some (jI0 gc)) jK ?_
 have hd := (qL.drew w).frm
 have hPd := hP.frm hd
 have hS : (fun V : World => V.cell? ⟨gp, 2, none⟩ = some (jI0 gc)) w.drew := hPd.p.cell 2
 refine jh 0 hS ?_
 refine jH 1 rfl hS (fun w0 hw0 => Run.nilck rfl) ?_
 refine jH 2 rfl hS (fun w0 hw0 => Run.fieldAddr rfl zk rfl zad jd) ?_
 refine jH 3 rfl hS (fun w0 hw0 => Run.load rfl zak hw0) ?_
 refine qQ.r1 4 rfl jK hS (Run.mv rfl) trivial rfl rfl ?_
 refine qQ.clp 5 rfl jK (jE1 Tryz.call69) (hZ gp gc A n c tk q _ _ hPd hl) trivial rfl rfl ?_
 rintro e w2 ⟨hf2, he⟩
 have K2 : Frm [gp, gc] w w2 := (hd.mono jp).trans hf2 (fun x hx => .inl (by simp at hx; simp [hx]))
 rcases hT : dF tk q with _ | sp
 ·
  rw [hT] at he
  exact .inr ⟨_, he, qK (qP (by rw [show eT tk q = none by simp [eT, hT]]; exact ⟨rfl, K2⟩))⟩
 rw [hT] at he
 obtain ⟨Bs, ds, rfl, hP2, hoS, hupS⟩ := he
 have hS : (fun V : World => V.cell? ⟨gp, 2, none⟩ = some (jI0 gc)) w2 := hP2.p.cell 2
 refine .inl ⟨_, rfl, hS, ?_⟩
 refine qQ.r1 6 rfl jK hS (Run.nilck rfl) trivial rfl rfl ?_
 refine qQ.r1 7 rfl jK hS (Run.fieldAddr rfl ze rfl zbf jd) trivial rfl rfl ?_
 refine qQ.stL rfl jK (qJ.store (i := 8) rfl rfl zbf hP2.k rfl rfl) trivial rfl ?_
 rintro w3 ⟨hb3, hf3, hs3⟩
 have hP3 : IsCp w3 gp gc A n c tk (q + 1) (apC tag nm u [] [] (cM) (0) (false) (.slice Bs sp.length ds) 0 0 false) := hP2.turn hb3 rfl hf3
 have hoS3 := hoS.one hf3 hP2.k jd
 have K3 : Frm [gp, gc] w w3 := K2.trans hf3 (fun x hx => .inl (by simp at hx; simp [hx]))
 refine qQ.done jK ?_
 refine jN (jv1 0 ?_)
 refine jS (jR (jM ?_))
 refine Ops.clp (jE1 Tryz.call18) (kJ gp gc A n c tk (q + 1) _ w3 hP3 hl) rfl ?_
 rintro e wa ⟨hfa, he⟩
 have Ka : Frm [gp, gc] w wa := K3.trans hfa (fun x hx => .inl (by simp at hx; simp [hx]))
 rcases hTa : qW tk (q + 1) [0] with _ | s0
 ·
  rw [hTa] at he
  exact .inr ⟨_, he, qK (qP (by rw [show eT tk q = none by simp [eT, hT, hTa]]; exact ⟨rfl, Ka⟩))⟩
 rw [hTa] at he
 obtain ⟨rfl, hPa⟩ := he
 have hoSa := hoS3.one hfa hP3.p jd
 have hsl : (qT s0).length ≤ 1000000 := by rw [dS]; exact bL hTa hl
 obtain ⟨ak, hak⟩ : ∃ a, a = qT s0 := ⟨_, rfl⟩
 rw [← hak] at hsl
 have hsm : eT tk q = (opM (Lib.trimSuffix ak fM)).bind fun op => (jI tk (q + 2)).map fun f => (sp, op, Lib.hasSuffix ak fM, f.1, f.2) := by simp [eT, hT, hTa, hak]
 rw [hsm, ← hak]
 refine .inl ⟨_, rfl, ?_⟩
 refine jc (jE2 Tryz.call74) (nW ak fM wa hsl) ?_
 rintro _ _ ⟨rfl, rfl⟩
 obtain ⟨bk, hbk⟩ : ∃ b, b = Lib.trimSuffix ak fM := ⟨_, rfl⟩
 rw [← hbk]
 refine ⟨_, rfl, ?_⟩
 refine jm rfl (jY rfl rfl (jY rfl rfl (ja rfl (ja rfl (jO (jN (jv3 0 2 3 ?_)))))))
 refine jS (jR (jm rfl (jZ rfl (jf rfl zk rfl zad (jl rfl zak (hPa.p.cell 2) (jm rfl (jZ rfl (jf rfl ze rfl zq ?_))))))))
 refine Ops.st (qJ.store (i := 7) rfl rfl zq hPa.k rfl rfl) ?_
 rintro w4 ⟨hb4, f4, s4⟩
 have hP4 : IsCp w4 gp gc A n c tk (q + 2) (apC tag nm u [] [] (cM) (0) (Lib.hasSuffix ak fM) (.slice Bs sp.length ds) 0 0 false) := hPa.turn hb4 rfl f4
 have hoS4 := hoSa.one f4 hPa.k jd
 have K4 : Frm [gp, gc] w w4 := Ka.trans f4 (fun x hx => .inl (by simp at hx; simp [hx]))
 refine jO (jN (jv2 0 2 ?_))
 refine jS (jS (jR (jm rfl (jO (jN (jv2 0 26 ?_))))))
 refine jB (jS (jR (je (Run.eqlT rfl rfl) (ja rfl (jO (jN (jv3 0 26 28 ?_)))))))
 refine VC.meet (σ := Int) (fun s => [(0, jI0 gp)]) (fun s wr => opM bk = some s ∧ IsCp wr gp gc A n c tk (q + 2) (apC tag nm u [] [] (cM) (s) (Lib.hasSuffix ak fM) (.slice Bs sp.length ds) 0 0 false) ∧ Own wr 96 2 Bs sp.length ds (SC sp) ∧ Frm [gp, gc] w wr) ?_ ?_
 ·
  refine jD rfl (fun hc1 => ?_) fun hc1 => ?_
  ·
   refine jR (jm rfl (jZ rfl (jf rfl zk rfl zad (jl rfl zak (hP4.p.cell 2) (jZ rfl (jf rfl ze rfl zc ?_))))))
   refine Ops.st (qJ.store (i := 6) (v := .int .i64 0) rfl rfl zc hP4.k rfl rfl) ?_
   rintro w5 ⟨hb5, f5, s5⟩
   have hP5 : IsCp w5 gp gc A n c tk (q + 2) (apC tag nm u [] [] (cM) (0) (Lib.hasSuffix ak fM) (.slice Bs sp.length ds) 0 0 false) := hP4.turn hb5 rfl f5
   have hoS5 := hoS4.one f5 hP4.k jd
   have K5 : Frm [gp, gc] w w5 := K4.trans f5 (fun x hx => .inl (by simp at hx; simp [hx]))
   refine jO ?_
   refine jN ⟨0, (js1 rfl), ?_⟩
   exact ⟨if_pos hc1, hP5, hoS5, K5⟩
  refine jS (jR (je (Run.eqlT rfl rfl) (ja rfl (jO (jN (jv3 0 26 36 ?_))))))
  refine VC.meet (σ := Int) (fun s => [(0, jI0 gp)]) (fun s wr => opM bk = some s ∧ IsCp wr gp gc A n c tk (q + 2) (apC tag nm u [] [] (cM) (s) (Lib.hasSuffix ak fM) (.slice Bs sp.length ds) 0 0 false) ∧ Own wr 96 2 Bs sp.length ds (SC sp) ∧ Frm [gp, gc] w wr) ?_ ?_
  ·
   refine jD rfl (fun hc2 => ?_) fun hc2 => ?_
   ·
    refine jR (jm rfl (jZ rfl (jf rfl zk rfl zad (jl rfl zak (hP4.p.cell 2) (jZ rfl (jf rfl ze rfl zc ?_))))))
    refine Ops.st (qJ.store (i := 6) (v := .int .i64 1) rfl rfl zc hP4.k rfl rfl) ?_
    rintro w5 ⟨hb5, f5, s5⟩
    have hP5 : IsCp w5 gp gc A n c tk (q + 2) (apC tag nm u [] [] (cM) (1) (Lib.hasSuffix ak fM) (.slice Bs sp.length ds) 0 0 false) := hP4.turn hb5 rfl f5
    have hoS5 := hoS4.one f5 hP4.k jd
    have K5 : Frm [gp, gc] w w5 := K4.trans f5 (fun x hx => .inl (by simp at hx; simp [hx]))
    refine jO ?_
    refine jN ⟨1, (js1 rfl), ?_⟩
    exact ⟨by unfold opM; rw [if_neg hc1, if_pos hc2], hP5, hoS5, K5⟩
   refine jS (jR (je (Run.eqlT rfl rfl) (ja rfl (jO (jN (jv2 0 44 ?_))))))
   refine VC.meet (σ := Int) (fun s => [(0, jI0 gp)]) (fun s wr => opM bk = some s ∧ IsCp wr gp gc A n c tk (q + 2) (apC tag nm u [] [] (cM) (s) (Lib.hasSuffix ak fM) (.slice Bs sp.length ds) 0 0 false) ∧ Own wr 96 2 Bs sp.length ds (SC sp) ∧ Frm [gp, gc] w wr) ?_ ?_
   ·
    refine jD rfl (fun hc3 => ?_) fun hc3 => ?_
    ·
     refine jR (jm rfl (jZ rfl (jf rfl zk rfl zad (jl rfl zak (hP4.p.cell 2) (jZ rfl (jf rfl ze rfl zc ?_))))))
     refine Ops.st (qJ.store (i := 6) (v := .int .i64 2) rfl rfl zc hP4.k rfl rfl) ?_
     rintro w5 ⟨hb5, f5, s5⟩
     have hP5 : IsCp w5 gp gc A n c tk (q + 2) (apC tag nm u [] [] (cM) (2) (Lib.hasSuffix ak fM) (.slice Bs sp.length ds) 0 0 false) := hP4.turn hb5 rfl f5
     have hoS5 := hoS4.one f5 hP4.k jd
     have K5 : Frm [gp, gc] w w5 := K4.trans f5 (fun x hx => .inl (by simp at hx; simp [hx]))
     refine jO ?_
     refine jN ⟨2, (js1 rfl), ?_⟩
     exact ⟨by unfold opM; rw [if_neg hc1, if_neg hc2, if_pos hc3], hP5, hoS5, K5⟩
    refine jR ?_
    refine Ops.clp (jE1 zbb) (bZ false w4) rfl ?_
    rintro e _ ⟨rfl, he⟩
    exact .inr ⟨_, he, qK (qK (qK (bX (qK (qP (by rw [show opM bk = none by unfold opM; rw [if_neg hc1, if_neg hc2, if_neg hc3]]; exact ⟨rfl, K4⟩))))))⟩
   intro s wr hinv Γ hΓ
   refine jN ⟨s, (js1 (hΓ.get _ _ rfl)), ?_⟩
   exact hinv
  intro s wr hinv Γ hΓ
  refine jN ⟨s, (js1 (hΓ.get _ _ rfl)), ?_⟩
  exact hinv
 rintro op w6 ⟨hop, hP6, hoS6, K6⟩ Γ hΓ
 rw [hop, zn]
 refine qS (jN (VC.sub _ hΓ ?_))
 refine jS (jS (jR (jM ?_)))
 refine jc (jE3 zco) (dR 0 2 gp gc A n c tk (q + 2) _ w6 hP6 jo) ?_
 rintro _ w7 ⟨f7, rfl⟩
 refine ⟨_, rfl, ?_⟩
 rw [zdg]
 have hP7 := hP6.frm f7
 have K7 := K6.trans f7 jp
 have hoS7 := hoS6.frm f7 jp
 have hln := hP7.tk.len
 have hbg := hP7.big
 have hA7 : 0 < n → ∀ x ∈ ob A, x < w7.heap.size := fun h0 x hx => by have := hA h0 x hx; have := K7.size; omega
 have hX7 : cQ 5 w7 gp gc A n c tk (apC tag nm u [] [] (cM) (op) (Lib.hasSuffix ak fM) (.slice Bs sp.length ds) 0 0 false) [] w7 (q + 2) (apC tag nm u [] [] (cM) (op) (Lib.hasSuffix ak fM) (.slice Bs sp.length ds) 0 0 false) := cQ.nil hP7 rfl (Frm.refl _ _)
 have hsp : ∀ {W : World}, Frm [gp, gc] w7 W → Own W 96 2 Bs sp.length ds (SC sp) := fun k => hoS7.frm k (fun y hy h => by simp at h; rcases h with rfl | rfl; exact hoS7.ne_blk hP7.p jd hy; exact hoS7.ne_blk hP7.k jd hy)
 have hin : ∀ x ∈ [gp, gc], x ∈ [gp, gc] ∨ w.heap.size ≤ x := fun x hx => .inl hx
 refine jO (jN (jv2 0 53 ?_))
 refine VC.condB rfl (fun hc4 => ?_) (fun hc4 => ?_)
 ·
  refine jS (jR (jm rfl (jm rfl (jZ rfl (jf rfl zk rfl zcy (jl rfl zbu (hP7.p.cell 0) (jL rfl zs (jm rfl (je (Run.mkFunc (evs.cons rfl evs.nil) evs.nil) ?_)))))))))
  refine Ops.clp (jE4 Tryz.call62) (pU w7 _ gp gc A n c tk (q + 2) w7 hX7 (by show 5 < 20; decide) hA7) rfl ?_
  rintro e w8 he
  have hfo : jI tk (q + 2) = gT tk (q + 2) := if_pos (by simpa using hc4)
  rw [hfo]
  rcases hL : gT tk (q + 2) with _ | ⟨l, q1⟩
  ·
   rw [hL] at he
   exact .inr ⟨_, he.1, qK (qK (qP ⟨rfl, K7.trans he.2 hin⟩))⟩
  rw [hL] at he
  obtain ⟨rfl, cs2, FA, d, o1, o2, o3, o4, o5⟩ := he
  refine .inl ⟨_, rfl, ?_⟩
  refine jO (jN ?_)
  refine VC.sub [] .nil ?_
  refine jT ?_
  refine qZ (sE ?_)
  obtain rfl := o2
  exact ⟨rfl, FA, d, Bs, ds, o1, hsp o4, o3, K7.trans o4 hin⟩
 refine jQ (jN (jv1 0 ?_))
 refine jS (jR (ja rfl (jO (jN (jB ?_)))))
 refine VC.loop (σ := Nat × Array Value) (fun s => [(0, jI0 gp), (4, .bool (decide (s.1 = 0 ∨ IsT tk (q + 2 + s.1) 0)))]) (fun s wr => s.1 ≤ n ∧ nAt tk n (q + 2) = s.1 + nAt tk (n - s.1) (q + 2 + s.1) ∧ (s.1 ≠ 0 → IsT tk (q + 2) 0) ∧ cQ 5 w7 gp gc A n c tk (apC tag nm u [] [] (cM) (op) (Lib.hasSuffix ak fM) (.slice Bs sp.length ds) 0 0 false) (bS tk (q + 2) s.1) wr (q + 2 + s.1) s.2) (fun s => n - s.1) (0, _) (js2 rfl rfl) ⟨jo, jp, jp, hX7⟩ ?_
 rintro ⟨j, cs1⟩ wr ⟨hj, hna, hi0, hXj⟩
 dsimp only at hj hna hi0 hXj ⊢
 refine jS (jS (jR (jm rfl (jO (jN (jv2 0 63 ?_))))))
 refine VC.condB rfl (fun hc5 => ?_) (fun hc5 => ?_)
 ·
  have hc5 := of_decide_eq_true hc5
  refine jQ (jN (jv1 0 ?_))
  refine jS (jB (jR (jM ?_)))
  refine Ops.clp (jE1 Tryz.call64) (pP w7 _ _ gp gc A n c tk (q + 2 + j) cs1 wr hXj (by show 5 < 20; decide) hA7 (by rw [lN]; omega)) rfl ?_
  rintro e w9 he
  rcases hT9 : qW tk (q + 2 + j) [0] with _ | sj
  ·
   rw [hT9] at he
   have hno := tF.1 hT9
   have hj0 : j = 0 := by
    rcases hc5 with h | h
    · exact h
    exact absurd h hno
   subst hj0
   have hsf : jI tk (q + 2) = none := by unfold jI; rw [if_neg (by simpa using hc4), if_neg hno]
   exact .inr ⟨_, he.1, bX (qK (qK (bX (qP (by rw [hsf]; exact ⟨rfl, K7.trans he.2 hin⟩)))))⟩
  rw [hT9] at he
  obtain ⟨rfl, cs2, hX9⟩ := he
  have hii : IsT tk (q + 2 + j) 0 := Classical.byContradiction fun h => by rw [tF.2 h] at hT9; cases hT9
  have hjn : j < n := by have := hii.1; omega
  rw [← kU hT9] at hX9
  have hn1 : nAt tk (n - j) (q + 2 + j) = nAt tk (n - (j + 1)) (q + 2 + (j + 1)) + 1 := by
   rw [show n - j = (n - (j + 1)) + 1 by omega]
   unfold nAt
   rw [if_pos hii, show q + 2 + j + 1 = q + 2 + (j + 1) by omega]
   cases n - (j + 1) <;> rfl
  refine .inl ⟨_, rfl, ?_⟩
  refine jO ?_
  refine qS (jN ?_)
  refine jv1 0 ?_
  refine jR (jM ?_)
  refine jc (jE3 zco) (dR 0 0 gp gc A n c tk (q + 2 + j + 1) _ w9 hX9.isCp.1 jo) ?_
  rintro _ wa9 ⟨fa9, rfl⟩
  refine ⟨_, rfl, ?_⟩
  rw [zdg]
  have hX9 := hX9.frm fa9
  refine ja rfl (jO ?_)
  refine jN ⟨(j + 1, cs2), (js2 rfl (jC (by rw [show q + 2 + j + 1 = q + 2 + (j + 1) by omega]; simp))), ?_, ?_⟩
  ·
   exact ⟨hjn, by show nAt tk n (q + 2) = (j + 1) + nAt tk (n - (j + 1)) (q + 2 + (j + 1)); rw [hna, hn1]; omega, fun _ => by
    rcases zek j with h | h
    · subst h; exact hii
    exact hi0 jo, hX9⟩
  exact jq
 have hc5 := of_decide_eq_false hc5
 have hj0 : j ≠ 0 ∧ ¬ IsT tk (q + 2 + j) 0 := ⟨fun h => hc5 (.inl h), fun h => hc5 (.inr h)⟩
 have hz : nAt tk (n - j) (q + 2 + j) = 0 := by
  cases n - j with
  | zero => rfl
  | succ m => unfold nAt; rw [if_neg hj0.2]
 have hsf : jI tk (q + 2) = some (bS tk (q + 2) j, q + 2 + j) := by
  unfold jI
  rw [if_neg (by simpa using hc4), if_pos (hi0 hj0.1), hln, hna, hz]
  rfl
 refine jX ?_
 refine qV (qV (qC ?_))
 refine cB ?_
 rw [hsf]
 obtain ⟨FA, d, o1, rfl, o3, o4, o5⟩ := hXj
 exact ⟨rfl, FA, d, Bs, ds, o1, hsp o4, o3, K7.trans o4 hin⟩
def kQ : List Tx := [[66, 69, 70, 79, 82, 69], [79, 78], [83, 73, 78, 67, 69], [83, 69, 78, 84, 66, 69, 70, 79, 82, 69], [83, 69, 78, 84, 79, 78], [83, 69, 78, 84, 83, 73, 78, 67, 69]]
def tA (s : Tx) : List Tx → Nat → Int
 | [], _ => -1
 | m :: r, k => if s = m then ((2 + k : Nat) : Int) else tA s r (k + 1)
def rV (s : Tx) : Int := tA s kQ 0
theorem qJz {i : Nat} (h : i < 6) : (SB kQ).toArray[i]? = some (encStr (kQ.getD i [])) := by
 have h2 : i < kQ.length := h
 simp [SB, zf, zb h2]
theorem zC {s : Tx} {i : Nat} (h : i < 6) : tA s (kQ.drop i) i = if s = kQ.getD i [] then ((2 + i : Nat) : Int) else tA s (kQ.drop (i + 1)) (i + 1) := by
 have h2 : i < kQ.length := h
 rw [zao h2, zf, zb h2]
 rfl
theorem vQ (q : Tx) (w : World) : Calls Tryz.prog 95 #[encStr q] w fun e w' => e = .returned (.int .i64 (rV q)) ∧ w = w' := by
 refine jV Tryz.func95 Tryz.ntmps95 Tryz.results95 ?_
 refine jS (jR (jz 0 (jO (jN (jv1 0 ?_)))))
 refine jS (jS (jR (je (Run.buildA (evs.cons rfl (evs.cons rfl (evs.cons rfl (evs.cons rfl (evs.cons rfl (evs.cons rfl evs.nil)))))) sI zda zd (cells := (SB kQ).toArray) jK) ?_)))
 obtain ⟨MA, hMA⟩ : ∃ a : Array Value, a = (SB kQ).toArray := ⟨_, rfl⟩
 rw [← hMA]
 refine jx .i64 0 ?_
 refine jO (jN (jB ?_))
 refine VC.loop (σ := Nat) (fun s => [(0, encStr q), (5, .agg MA), (6, jI1 s)]) (fun s wr => s ≤ 6 ∧ tA q (kQ.drop s) s = rV q ∧ w = wr) (fun s => 6 - s) 0 (js3 rfl rfl rfl) ⟨jo, rfl, rfl⟩ ?_
 rintro i _ ⟨hi, hm, rfl⟩
 refine jS (jR (jb rfl rfl (Bin.lssN _ 6) (jO (jN (jS ?_)))))
 refine jD rfl (fun hc1 => ?_) fun hc1 => ?_
 ·
  have hst := zC (s := q) hc1
  obtain ⟨mm, hmm⟩ : ∃ m, kQ.getD i [] = m := ⟨_, rfl⟩
  rw [hmm] at hst
  refine jQ (jN (jv3 0 5 6 ?_))
  refine jS (jB (jS (jR (jM ?_))))
  refine Ops.r (Run.indexArr1 (v := encStr mm) _ rfl rfl zda zj zd (by rw [hMA]; rfl) (by rw [hMA, ← hmm]; exact qJz hc1)) rfl ?_
  refine ja rfl (ja rfl (jO (jN (jv5 0 3 4 5 6 ?_))))
  refine jS (jR (jm rfl (jm rfl (je (Run.eqlT rfl rfl) (jO (jN (jv5 0 3 5 6 12 ?_)))))))
  refine jD rfl (fun hc2 => ?_) fun hc2 => ?_
  ·
   refine jS (jR (jm rfl (jb rfl rfl (Bin.add_i64 2 _ jo) (ja rfl (jO (jN (jv1 2 ?_)))))))
   refine jT ?_
   refine qN (qZ (qZ (qN (qZ (qD rfl ?_)))))
   exact ⟨by rw [← hm, hst, if_pos hc2], rfl⟩
  refine jQ ?_
  refine qS (jN ?_)
  refine jv3 0 5 6 ?_
  refine jR (jb rfl rfl (Bin.add_i64 _ 1 jo) (jm rfl (jO ?_)))
  refine jN ⟨(i + 1), (js3 rfl rfl rfl), ?_, ?_⟩
  · exact ⟨hc1, by rw [← hm, hst, if_neg hc2], rfl⟩
  exact jq
 refine jX ?_
 refine qV (qV (qC ?_))
 refine jN ?_
 refine VC.sub [] .nil ?_
 refine jS (jR ?_)
 refine Ops.r (v := .int .i64 (-1)) (Run.asg rfl) rfl ?_
 refine jO (jN (jT ?_))
 refine qD rfl ?_
 exact ⟨by rw [← hm, show i = 6 by omega]; rfl, rfl⟩
def mN (k : KeyV) : KeyV := .mk 15 [] [] 0 [] [k]
def fJ (s : Tx) : Option KeyV := if (cR s).2 = 0 then some (.mk 1 (cR s).1 [] 0 [] []) else none
theorem RdK.leaf (W : World) (B : Nat → Prop) (kind : Int) (s t : Tx) (n : Int) : RdK 1 W B (KeC (.mk kind s t n [] []) none 0 none 0) (.mk kind s t n [] []) := ⟨none, 0, none, 0, [], rfl, Own.nil _ _ _, Own.nil _ _ _, ⟨by simp [ob], by simp [ob]⟩, rfl, fun i hi => absurd hi (Nat.not_lt_zero i)⟩
theorem RdK.spans {W : World} {B : Nat → Prop} {SA : Option Addr} {sc : Nat} {sp : List Sp} (kind : Int) (s t : Tx) (n : Int) (h : Own W 96 2 SA sp.length sc (SC sp)) (hB : ∀ x ∈ ob SA, B x) : RdK 1 W B (KeC (.mk kind s t n sp []) SA sc none 0) (.mk kind s t n sp []) := ⟨SA, sc, none, 0, [], rfl, h, Own.nil _ _ _, ⟨hB, by simp [ob]⟩, rfl, fun i hi => absurd hi (Nat.not_lt_zero i)⟩
theorem lK (d : Nat) (cs : List Value) (k : KeyV) (w : World) (B : Nat → Prop) (hk : RdK d w B cs k) : Calls Tryz.prog 97 #[.agg cs.toArray] w fun e w' => Frm [] w w' ∧ ∃ cs', e = .returned (.agg cs'.toArray) ∧ RdK (d + 1) w' (fun x => B x ∨ w.heap.size ≤ x) cs' (mN k) := by
 have hz := hk.cells
 refine jV Tryz.func97 Tryz.ntmps97 Tryz.results97 ?_
 refine jS (jR ?_)
 refine Ops.m (qH.box rfl) rfl ?_
 rintro _ w1 ⟨rfl, hF1⟩
 have hb1 : Blk w1 w.heap.size 30 cs.toArray := hF1.blk
 have s1 := hF1.size
 refine Ops.m (qH.alloc bU) rfl ?_
 rintro _ w2 ⟨rfl, hF2⟩
 have hb2 := hF2.blk
 have s2 := hF2.size
 have hb1 := hb1.frm hF2.frm jp
 have K2 := hF1.frm.trans hF2.frm jp
 refine jO (jN (jv2 1 2 ?_))
 refine jS (jR (je (Run.loadA (cs := cs) rfl zaf zh (by simpa using hb1.cells) hz.1) ?_))
 refine Ops.m (qH.buildS1 rfl zah zh bU jd jd (by simp [Value.cells, hz.1]) rfl) rfl ?_
 rintro _ w3 ⟨rfl, hF3⟩
 have s3 := hF3.size
 have hb3 : Blk w3 w2.heap.size 30 cs.toArray := hF3.blk
 have K3 := K2.trans hF3.frm jp
 have hb2 := hb2.frm hF3.frm jp
 refine je (Run.build (evs.cons rfl (evs.cons rfl evs.nil)) bU (bQ).choose_spec.1 (bQ).choose_spec.2 (cells := (KeC (mN k) none 0 (some ⟨w2.heap.size, 0, none⟩) 1).toArray) rfl) ?_
 refine Ops.st (qJ.storeA rfl rfl zh hb2 rfl (cX _ _ _ _ _)) ?_
 rintro w4 ⟨hb4, f4, s4⟩
 have K4 := K3.own f4 (by simp; omega)
 have hb3 := hb3.frm f4 (by simp; omega)
 refine jO (jN (jv1 2 ?_))
 refine jT ?_
 refine bM ?_
 refine qB rfl zaf zh (hb4.cells) (by first | rfl | (simp; done) | (simp [*]; done)) ?_
 refine qF ?_
 refine ⟨K4, KeC (mN k) none 0 (some ⟨w2.heap.size, 0, none⟩) 1, rfl, none, 0, some ⟨w2.heap.size, 0, none⟩, 1, [cs], rfl, Own.nil _ _ _, ?_, ⟨by simp [ob], fun x hx => .inr (by simp [ob] at hx; omega)⟩, rfl, fun i hi => ?_⟩
 ·
  have := Own.of_blk (n := 1) (size := 6) hb3 (by simp [hz.1]) jd
  exact (by simpa using this : Own w4 30 6 (some ⟨w2.heap.size, 0, none⟩) 1 1 [cs].flatten)
 obtain rfl : i = 0 := by have : i < 1 := hi; omega
 exact (hk.frm K4 jp).mono (fun x hx _ => .inl hx)
theorem gA (q : Tx) (w : World) (hq : q.length ≤ 1000000) : Calls Tryz.prog 98 #[encStr q] w fun e w' => Frm [] w w' ∧ match fJ q with
   | none => e = .panicked cY
   | some k => e = .returned (.agg (KeC k none 0 none 0).toArray) ∧ ∃ t, k = .mk 1 t [] 0 [] [] := by
 refine jV Tryz.func98 Tryz.ntmps98 Tryz.results98 ?_
 refine jS (jR ?_)
 refine Ops.m (qH.alloc bU) rfl ?_
 rintro _ w1 ⟨rfl, hF1⟩
 have hb1 := hF1.blk
 have s1 := hF1.size
 refine jO (jN (jS (jR (jM ?_))))
 refine jc (jE1 Tryz.call103) (rL q w1 hq) ?_
 rintro _ w2 ⟨rfl, f2⟩
 refine ⟨_, rfl, ?_⟩
 have hb1 := hb1.frm f2 jp
 have K2 := hF1.frm.trans f2 jp
 refine jm rfl (jY rfl rfl (jY rfl rfl (ja rfl (ja rfl (jO (jN (jv3 2 3 4 ?_)))))))
 refine jS (jR (jm rfl (jb rfl rfl (Bin.eqlN _ 0) ?_)))
 refine Ops.clp (jE1 zbb) (bZ (decide ((cR q).2 = 0)) w2) rfl ?_
 rintro e _ ⟨rfl, he⟩
 by_cases hcd : (cR q).2 = 0
 rotate_left
 ·
  rw [decide_eq_false hcd] at he
  exact .inr ⟨_, he, qK (qP ⟨K2, by rw [show fJ q = none from if_neg hcd]⟩)⟩
 rw [decide_eq_true hcd] at he
 refine .inl ⟨_, he, ?_⟩
 refine jO (jN (jv2 2 3 ?_))
 refine jS (jR (jm rfl (je (Run.build (evs.cons rfl (evs.cons rfl evs.nil)) bU (bQ).choose_spec.1 (bQ).choose_spec.2 (cells := (KeC (.mk 1 (cR q).1 [] 0 [] []) none 0 none 0).toArray) rfl) ?_)))
 refine Ops.st (qJ.storeA rfl rfl zh hb1 rfl (cX _ _ _ _ _)) ?_
 rintro w4 ⟨hb4, f4, s4⟩
 refine jO (jN (jv1 2 ?_))
 refine jT ?_
 refine bM ?_
 refine qB rfl zaf zh (hb4.cells) (by first | rfl | (simp; done) | (simp [*]; done)) ?_
 refine qF ?_
 refine ⟨K2.own f4 jp, ?_⟩
 rw [show fJ q = some (.mk 1 (cR q).1 [] 0 [] []) from if_pos hcd]
 exact ⟨rfl, _, rfl⟩
section
variable {P : Program} {w : World} {g : Nat} {e : TypeId}
theorem Blk.setCells : ∀ (vs : List Value) (o : Nat) (w : World) (cs : Array Value), Blk w g e cs → o + vs.length ≤ cs.size → Blk (w.setCells g o vs) g e (cs.toList.take o ++ vs ++ cs.toList.drop (o + vs.length)).toArray
 | [], o, w, cs, h, _ => by
  simp only [World.setCells, List.length_nil, zdg, zdq, List.take_append_drop]
  exact h
 | v :: r, o, w, cs, h, hl => by
  have hl' : o + (r.length + 1) ≤ cs.size := hl
  have ih := Blk.setCells r (o + 1) (w.setCell ⟨g, o, none⟩ v) (cs.setIfInBounds o v) (h.set o v) (by rw [zet]; omega)
  rw [World.setCells]
  have e1 : (cs.setIfInBounds o v).toList = cs.toList.set o v := zcd ..
  have hsz : o < cs.toList.length := by rw [zdk]; omega
  have e2 : (cs.toList.set o v).take (o + 1) = cs.toList.take o ++ [v] := by
   rw [List.take_set, List.set_eq_take_append_cons_drop, if_pos (by rw [zbd]; omega), List.take_take, zbj jo]
   congr 2
   rw [zbq (by rw [zbd]; omega)]
  have e3 : (cs.toList.set o v).drop (o + 1 + r.length) = cs.toList.drop (o + 1 + r.length) := by
   rw [List.drop_set, if_pos jo]
  rw [e1, e2, e3] at ih
  have e4 : cs.toList.take o ++ [v] ++ r ++ cs.toList.drop (o + 1 + r.length) = cs.toList.take o ++ v :: r ++ cs.toList.drop (o + (v :: r).length) := by
   rw [zbo, show o + (r.length + 1) = o + 1 + r.length by omega]
   simp
  rw [e4] at ih
  exact ih
theorem Frm.setCells : ∀ (vs : List Value) (o : Nat) (w : World), Frm [g] w (w.setCells g o vs) ∧ (w.setCells g o vs).heap.size = w.heap.size
 | [], o, w => ⟨Frm.refl _ _, rfl⟩
 | v :: r, o, w => by
  obtain ⟨h1, h2⟩ := Frm.setCells r (o + 1) (w.setCell ⟨g, o, none⟩ v)
  exact ⟨(Frm.set1 w ⟨g, o, none⟩ v).trans h1 (fun x hx => .inl hx), h2.trans jp⟩
theorem vX (vs : List Value) (o : Nat) (w : World) (cs : Array Value) (h : Blk w g e cs) (hl : o + vs.length ≤ cs.size) (h1 : ∀ v ∈ vs, v.oneCell' = true) : (storeCells ⟨g, o, none⟩ vs).run P w = .ok () (w.setCells g o vs) := by
 have := run_storeCells_cells (P := P) g o vs 0 w (fun j hj => by
  rw [h.cell, zef jo]; rfl) (fun j _ => h.frozen _) h1
 simpa using this
theorem Own.write {size N cap o : Nat} {xs ys : List Value} (h : Own w e size (some ⟨g, 0, none⟩) N cap xs) (hle : o + ys.length ≤ xs.length) (h1 : ∀ v ∈ ys, v.oneCell' = true) :
  (storeCells ⟨g, o, none⟩ ys).run P w = .ok () (w.setCells g o ys) ∧ Own (w.setCells g o ys) e size (some ⟨g, 0, none⟩) N cap (xs.take o ++ ys ++ xs.drop (o + ys.length)) ∧ Frm [g] w (w.setCells g o ys) ∧ (w.setCells g o ys).heap.size = w.heap.size := by
 have hl := h.len
 rcases h.cases with ⟨h0, _⟩ | ⟨g', cur, hA, hb, hnc, hc, hs, ht⟩
 · cases h0
 cases hA
 have hm : N * size ≤ cap * size := Nat.mul_le_mul_right _ hnc
 have e1 : cur.toList.take (N * size) = xs := ht
 have hcl : cur.toList.length = cap * size := by rw [zdk, hs]
 refine ⟨vX ys o w cur hb jo h1, ⟨?_, .inr ⟨g, cap, _, rfl, zac _, Blk.setCells ys o w cur hb jo, hnc, hc, ?_, ?_⟩⟩, Frm.setCells ys o w⟩
 ·
  rw [zz, zz, zbd, zbl]
  omega
 ·
  simp only [zcl, zz, zbd, zbl]
  omega
 show (cur.toList.take o ++ ys ++ cur.toList.drop (o + ys.length)).take (N * size) = _
 have hAB : (cur.toList.take o ++ ys).length = o + ys.length := by rw [zz, zbd]; omega
 rw [← e1, List.take_take, zbj jo, List.take_append, zy jo, hAB, List.drop_take]
end
section
variable {P : Program} {w : World} {g : Nat} {e : TypeId} {Γ : Env} {dst : Option Tmp} {T : TypeId} {pos : String} {after : Array Edge} {gd : Option (Nat × Bool)}
theorem qJ.storeSub {t : TypeId} {size N cap o : Nat} {x y : Operand} {xs : List Value} {vs : Array Value} (hx : ev? Γ x = some (.pointer (some ⟨g, o, none⟩))) (hy : ev? Γ y = some (.agg vs))
  (hz : ∀ w, (sizeOf t).run P w = .ok vs.size w) (ho : Own w e size (some ⟨g, 0, none⟩) N cap xs) (hle : o + vs.size ≤ xs.length) (h1 : ∀ v ∈ vs.toList, v.oneCell' = true) :
  qJ P ⟨dst, .store t x y, T, pos, after, gd⟩ Γ w (fun w' => Own w' e size (some ⟨g, 0, none⟩) N cap (xs.take o ++ vs.toList ++ xs.drop (o + vs.size)) ∧ Frm [g] w w' ∧ w'.heap.size = w.heap.size) := fun ρ hρ => by
 obtain ⟨h2, h3, h4, h5⟩ := ho.write (P := P) (o := o) (ys := vs.toList) (by rw [zdk]; exact hle) h1
 rw [zdk] at h3
 refine ⟨w.setCells g o vs.toList, ?_, h3, h4, h5⟩
 simp only [execOp, Instr.storeAt, Instr.sureAddr, storeVar, hρ _ _ hx, hρ _ _ hy, Value.cells, Sem.run_bind, Sem.run_pure, Result.andThen_ok, hz, ne_eq, not_true_eq_false, if_false, Sem.run_ite, h2]
theorem qZd (g o n : Nat) : (⟨g, o, none⟩ : Addr).add n = ⟨g, o + n, none⟩ := by unfold Addr.add; split <;> simp_all
end
section
variable {P : Program} {n : NF} {Γ : Env} {w : World} {K : Env → World → Prop} {Pn : List PanicEntry → World → Prop} {ops : Array Oper} {S : World → Prop} {L fuel : Nat} {listed : Array Bool} {i : Nat} {oi : Oper} {d : Nat}
theorem hU.clp {f : FuncId} {args : Array Value} {R : Ending → World → Prop} (hi : ops[i]? = some oi) (he : bJ P oi Γ w f args) (hc : Calls P f args w R) (hup : Up ops Γ oi.guard) (hd : oi.dst = some d) (hn : Nat.blt d n.n = true)
  (k : ∀ e w', R e w' → (∃ v, e = .returned v ∧ S w' ∧ qQ P n ops S Pn L fuel (listed.setIfInBounds i true) ((d, v) :: Γ) w' K) ∨ (∃ ch, e = .panicked ch ∧ Pn ch w')) : hU P n ops S Pn L fuel listed i Γ w K :=
 hU.of_wp hi hup fun a hs => by
  unfold Oper.wp
  rw [he _ hs.fits, Oper.upon_enter, hd]
  refine hc.mono ?_
  intro e w' hR
  rcases k e w' hR with ⟨v, rfl, h1, h2⟩ | ⟨ch, rfl, h1⟩
  · exact ⟨h1, h2 _ (hs.put hn v)⟩
  exact ⟨⟨hs.size, hs.defers⟩, h1⟩
theorem qJ.imp {o : Oper} {R R' : World → Prop} (h : qJ P o Γ w R) (k : ∀ w', R w' → R' w') : qJ P o Γ w R' := fun ρ hρ => by
 obtain ⟨w', h1, h2⟩ := h ρ hρ
 exact ⟨w', h1, k w' h2⟩
end
def cT (R : Nat → Option (KeyV × Nat)) (q0 : Nat) : Nat → Option (List KeyV × Nat)
 | 0 => some ([], q0)
 | j + 1 => (cT R q0 j).bind fun p => (R p.2).map fun k => (p.1 ++ [k.1], k.2)
def xC (tk : List Tk) (R : Nat → Option (KeyV × Nat)) (dp : Int) (d : Nat) : Prop := ∀ (gp gc : Nat) (A : Option Addr) (n c q : Nat) (cs : Array Value) (w : World), IsCp w gp gc A n c tk q cs → (0 < n → ∀ x ∈ ob A, x < w.heap.size) → bT w → Calls Tryz.prog 67 #[jI0 gp, .int .i64 dp] w fun e w' => match R q with
 | none => e = .panicked cY ∧ Frm [gp, gc] w w'
 | some (k, q2) => Frm [gp] w w' ∧ ∃ cs', e = .returned (.agg cs'.toArray) ∧ RdK d w' (fun x => w.heap.size ≤ x) cs' k ∧ IsCp w' gp gc A n c tk q2 cs
theorem sX {S : List Nat} {w w' : World} {a : Addr} {v : Value} (h : w.cell? a = some v) (k : Frm S w w') (hS : a.block ∉ S) : w'.cell? a = some v := by
 have hlt : a.block < w.heap.size := by
  apply Classical.byContradiction
  intro hn
  have : w.heap[a.block]? = none := by simp; omega
  simp [World.cell?, this] at h
 have e := k.block a.block hlt hS
 simp only [World.cell?] at h ⊢
 rw [e]
 exact h
theorem bT.frmS {S : List Nat} {w w' : World} (h : bT w) (k : Frm S w w') (h0 : 1 ∉ S) (h2 : 4 ∉ S) : bT w' := by
 obtain ⟨⟨m, h1⟩, ev, h3, h4⟩ := h
 exact ⟨⟨m, sX h1 k h0⟩, ev, sX h3 k h2, h4⟩
theorem bT.ne {w : World} {gp gc : Nat} {A : Option Addr} {n c : Nat} {tk : List Tk} {q : Nat} {cs : Array Value} (h : bT w) (hP : IsCp w gp gc A n c tk q cs) : gp ≠ 1 ∧ gp ≠ 4 := by
 obtain ⟨⟨m, h1⟩, ev, h3, h4⟩ := h
 have hc : w.cell? ⟨gp, 0, none⟩ = some (.slice A n c) := hP.p.cell 0
 refine ⟨fun e => ?_, fun e => ?_⟩
 · subst e; rw [h1] at hc; cases hc
 subst e; rw [h3] at hc; rcases h4 with rfl | ⟨te, pe, rfl⟩ <;> cases hc
structure KsX (w0 : World) (gp gc : Nat) (A : Option Addr) (n c : Nat) (tk : List Tk) (cs : Array Value) (g5 d : Nat) (ks : List KeyV) (LA : Option Addr) (lc : Nat) (css : List (List Value)) (W : World) (q : Nat) : Prop where
 isCp : IsCp W gp gc A n c tk q cs
 fr : Frm [gp] w0 W
 lib : bT w0
 ne : gp ≠ 1 ∧ gp ≠ 4
 up : w0.heap.size ≤ g5
 k : Blk W g5 30 (KeC (.mk 17 [] [] 0 [] ks) none 0 LA lc).toArray
 row : Own W 30 6 LA ks.length lc css.flatten
 ks : eX d W (fun x => w0.heap.size ≤ x ∧ x ≠ g5 ∧ x ∉ ob LA) css ks
 off : ∀ x ∈ ob LA, w0.heap.size ≤ x ∧ x ≠ g5
section
variable {w0 : World} {gp gc : Nat} {A : Option Addr} {n c : Nat} {tk : List Tk} {cs : Array Value} {g5 d : Nat} {ks : List KeyV} {LA : Option Addr} {lc : Nat} {css : List (List Value)} {W W' : World} {q q2 : Nat}
theorem eX.frm {S : List Nat} {B : Nat → Prop} (h : eX d W B css ks) (k : Frm S W W') (hS : ∀ x ∈ S, ¬ B x) : eX d W' B css ks := ⟨h.1, fun i hi => (h.2 i hi).frm k hS⟩
theorem eX.mono {B B' : Nat → Prop} (h : eX d W B css ks) (hB : ∀ x, B x → x < W.heap.size → B' x) : eX d W B' css ks := ⟨h.1, fun i hi => (h.2 i hi).mono hB⟩
theorem eX.add {B : Nat → Prop} {cs' : List Value} {k : KeyV} (h : eX d W B css ks) (hk : RdK d W B cs' k) : eX d W B (css ++ [cs']) (ks ++ [k]) := by
 refine ⟨by simp [h.1], fun i hi => ?_⟩
 rw [zz, List.length_singleton] at hi
 by_cases h1 : i < ks.length
 ·
  have := h.2 i h1
  rwa [show (css ++ [cs']).getD i [] = css.getD i [] by simp [zf, zeb, h.1, h1], show (ks ++ [k]).getD i k0 = ks.getD i k0 by simp [zf, zeb, h1]]
 have e : i = ks.length := jo
 subst e
 rwa [show (css ++ [cs']).getD ks.length [] = cs' by simp [zf, zeb, h.1], show (ks ++ [k]).getD ks.length k0 = k by simp [zf, zeb]]
theorem KsX.read (h : KsX w0 gp gc A n c tk cs g5 d ks LA lc css W q) (hgp : gp < w0.heap.size) (k : Frm [gp] W W') (hP : IsCp W' gp gc A n c tk q2 cs) : KsX w0 gp gc A n c tk cs g5 d ks LA lc css W' q2 :=
 have hl : ∀ x ∈ ob LA, x ∉ [gp] := fun x hx h2 => by have := (h.off x hx).1; simp at h2; omega
 have hu := h.up
 ⟨hP, h.fr.trans k (fun x hx => .inl hx), h.lib, h.ne, h.up, h.k.frm k (by simp; omega), h.row.frm k hl, h.ks.frm k (fun x hx hb => by simp at hx; have := hb.1; omega), h.off⟩
theorem KsX.lv (h : KsX w0 gp gc A n c tk cs g5 d ks LA lc css W q) : bT W := h.lib.frmS h.fr (by simpa using Ne.symm h.ne.1) (by simpa using Ne.symm h.ne.2)
theorem KsX.frm (h : KsX w0 gp gc A n c tk cs g5 d ks LA lc css W q) (hgp : gp < w0.heap.size) (k : Frm [] W W') : KsX w0 gp gc A n c tk cs g5 d ks LA lc css W' q := h.read hgp (k.mono jp) (h.isCp.frm k)
theorem KsX.add {k : KeyV} {cs' : List Value} {LA4 : Option Addr} {lc4 g4 : Nat} {W4 W5 : World} {css4 : List Value} (h : KsX w0 gp gc A n c tk cs g5 d ks LA lc css W q) (hgp : gp < w0.heap.size) (hgc : gc < w0.heap.size) (hA : 0 < n → ∀ x ∈ ob A, x < w0.heap.size)
  (hk : RdK d W (fun x => w0.heap.size ≤ x ∧ x ≠ g5 ∧ x ∉ ob LA) cs' k) (hf4 : Frm (ob LA) W W4) (hob : ob LA4 = ob LA ∨ ob LA4 = [W.heap.size]) (hLA : LA4 = some ⟨g4, 0, none⟩)
  (hO : Own W5 30 6 LA4 (ks.length + 1) lc4 css4) (hc4 : css4 = css.flatten ++ cs') (hb : Blk W5 g5 30 (KeC (.mk 17 [] [] 0 [] (ks ++ [k])) none 0 LA4 lc4).toArray) (hf5 : Frm [g4, g5] W4 W5) : KsX w0 gp gc A n c tk cs g5 d (ks ++ [k]) LA4 lc4 (css ++ [cs']) W5 q := by
 have hu := h.up
 have hg5 := h.k.lt
 have hz := h.fr.size
 have hob4 : ob LA4 = [g4] := by rw [hLA]; rfl
 have hl4 : w0.heap.size ≤ g4 ∧ g4 ≠ g5 := by
  rcases hob with e | e
  · exact h.off g4 (by rw [← e, hob4]; simp)
  rw [hob4] at e; simp at e; omega
 have hn : ∀ x, x < w0.heap.size → x ∉ ob LA ∧ x ∉ [g4, g5] := fun x hx => ⟨fun hm => by have := (h.off x hm).1; omega, by simp; omega⟩
 have K : Frm (ob LA ++ [g4, g5]) W W5 := (hf4.mono (fun x hx => .inl (zee.2 (.inl hx))) : Frm (ob LA ++ [g4, g5]) W W4).trans hf5 (fun x hx => .inl (by simp at hx ⊢; rcases hx with rfl | rfl <;> simp))
 have hnew : ∀ x, (w0.heap.size ≤ x ∧ x ≠ g5 ∧ x ∉ ob LA) → x < W.heap.size → (w0.heap.size ≤ x ∧ x ≠ g5 ∧ x ∉ ob LA ∧ x ≠ g4) := fun x hx hlt => ⟨hx.1, hx.2.1, hx.2.2, by
  rcases hob with e | e
  · rw [← e, hob4] at hx; simpa using hx.2.2
  rw [hob4] at e; simp at e; omega⟩
 have hS : ∀ x ∈ ob LA ++ [g4, g5], ¬ (w0.heap.size ≤ x ∧ x ≠ g5 ∧ x ∉ ob LA ∧ x ≠ g4) := fun x hx hb => by
  rcases zee.1 hx with hx | hx
  · exact hb.2.2.1 hx
  simp at hx; rcases hx with rfl | rfl
  · exact hb.2.2.2 rfl
  exact hb.2.1 rfl
 have hlast : ∀ x, (w0.heap.size ≤ x ∧ x ≠ g5 ∧ x ∉ ob LA ∧ x ≠ g4) → x < W5.heap.size → (w0.heap.size ≤ x ∧ x ≠ g5 ∧ x ∉ ob LA4) := fun x hx _ => ⟨hx.1, hx.2.1, by rw [hob4]; simpa using hx.2.2.2⟩
 refine ⟨h.isCp.frmS K ?_ ?_ (fun h0 x hx => ?_), ?_, h.lib, h.ne, h.up, hb, ?_, ?_, fun x hx => by rw [hob4] at hx; simp at hx; subst hx; exact hl4⟩
 · have := hn gp hgp; simp only [zee]; exact fun e => e.elim this.1 this.2
 · have := hn gc hgc; simp only [zee]; exact fun e => e.elim this.1 this.2
 · have := hn x (hA h0 x hx); simp only [zee]; exact fun e => e.elim this.1 this.2
 ·
  exact h.fr.trans K (fun x hx => .inr (by
   rcases zee.1 hx with hx | hx
   · exact (h.off x hx).1
   simp at hx; omega))
 ·
  rw [zz, List.length_singleton, List.flatten_append, List.flatten_singleton, ← hc4]
  exact hO
 exact (((h.ks.mono hnew).frm K hS).mono hlast).add (((hk.mono hnew).frm K hS).mono hlast)
end
theorem xD (R : Nat → Option (KeyV × Nat)) (deep d : Nat) (tk : List Tk) (hkey : xC tk R ((deep + 1 : Nat) : Int) d) (hdeep : deep ≤ 9) (w0 : World) (gp gc : Nat) (A : Option Addr) (n c : Nat) (cs : Array Value) (g5 gb gd : Nat) (ks : List KeyV) (LA : Option Addr) (lc : Nat) (css : List (List Value)) (w : World) (q : Nat)
  (hX : KsX w0 gp gc A n c tk cs g5 d ks LA lc css w q) (hG : Blk w gb 61 #[jI0 gp]) (hD : Blk w gd 3 #[jI1 deep]) (hgp : gp < w0.heap.size) (hgc : gc < w0.heap.size) (hA : 0 < n → ∀ x ∈ ob A, x < w0.heap.size) (h64 : ks.length ≤ 64) (hLw : ∀ x ∈ ob LA, x < w.heap.size) : Calls Tryz.prog 94 #[jI0 g5, jI0 gb, jI0 gd] w fun e w' => match R q with
   | none => e = .panicked cY ∧ Frm [gp, gc] w0 w'
   | some (k, q2) => e = .returned (.tuple #[]) ∧ Blk w' gb 61 #[jI0 gp] ∧ Blk w' gd 3 #[jI1 deep] ∧ ∃ LA' lc' css', KsX w0 gp gc A n c tk cs g5 d (ks ++ [k]) LA' lc' css' w' q2 := by
 have hgb : gb ≠ gp := hG.ne hX.isCp.p jd
 have hgd : gd ≠ gp := hD.ne hX.isCp.p jd
 have hg5w := hX.k.lt
 have hfs := hX.fr.size
 refine jV Tryz.func94 Tryz.ntmps94 Tryz.results94 ?_
 refine VC.heldL 9 (fun V => V.cell? ⟨gb, 0, none⟩ = some (jI0 gp) ∧ V.cell? ⟨gd, 0, none⟩ = some (jI1 deep) ∧ V.cell? ⟨g5, 5, none⟩ = some (.slice LA ks.length lc)) jK ?_
 have hd := (qL.drew w).frm
 have hXd := hX.frm hgp hd
 have hGd := hG.frm hd jp
 have hDd := hD.frm hd jp
 have hsz := hd.size
 have mkS : ∀ V q1, KsX w0 gp gc A n c tk cs g5 d ks LA lc css V q1 → Blk V gb 61 #[jI0 gp] → Blk V gd 3 #[jI1 deep] → (V.cell? ⟨gb, 0, none⟩ = some (jI0 gp) ∧ V.cell? ⟨gd, 0, none⟩ = some (jI1 deep) ∧ V.cell? ⟨g5, 5, none⟩ = some (.slice LA ks.length lc)) := fun V q1 h h0 h1 => ⟨h0.cell 0, h1.cell 0, h.k.cell 5⟩
 have mkB : ∀ V : World, ∀ x, V.heap.size ≤ x → w.heap.size ≤ V.heap.size → (w0.heap.size ≤ x ∧ x ≠ g5 ∧ x ∉ ob LA) := fun V x hx hV => ⟨by have := hX.fr.size; omega, jo, fun h => by have := hLw x h; omega⟩
 have hS := mkS _ _ hXd hGd hDd
 refine jH 0 rfl hS (fun w0 hw0 => Run.fieldAddr rfl zu rfl zaz jd) ?_
 refine jH 1 rfl hS (fun w0 hw0 => Run.load rfl zcj hw0.2.2) ?_
 refine jH 2 rfl hS (fun w0 hw0 => Run.load rfl zae hw0.1) ?_
 refine jH 3 rfl hS (fun w0 hw0 => Run.load rfl zi hw0.2.1) ?_
 refine jH 4 rfl hS (fun w0 hw0 => Run.bin rfl rfl (Bin.add_i64 _ 1 jo)) ?_
 refine jH 6 rfl hS (fun w0 hw0 => Run.lenS rfl zah) ?_
 refine qQ.or2 5 7 jK ?_ ?_
 ·
  refine hU.clp rfl (jE2 Tryz.call67) (hkey gp gc A n c q _ _ hXd.isCp (fun h0 x hx => zaw (hA h0 x hx) hXd.fr.size) hXd.lv) trivial rfl rfl ?_
  rintro e w2 he
  rcases hT : R q with _ | ⟨k, q2⟩
  ·
   rw [hT] at he
   exact .inr ⟨_, he.1, qP ⟨rfl, (hXd.fr.mono jp).trans he.2 (fun x hx => .inl hx)⟩⟩
  rw [hT] at he
  obtain ⟨hfk, cs', rfl, hk, hPk⟩ := he
  have hX2 := hXd.read hgp hfk hPk
  have hG2 := hGd.frm hfk (by simp; exact hgb)
  have hD2 := hDd.frm hfk (by simp; exact hgd)
  have hk2 := hk.mono (B' := fun x => w0.heap.size ≤ x ∧ x ≠ g5 ∧ x ∉ ob LA) (fun x hx _ => mkB _ x hx jo)
  have hS := mkS _ _ hX2 hG2 hD2
  refine .inl ⟨_, rfl, hS, ?_⟩
  refine qQ.m 7 rfl jK (qH.buildS1 rfl zah zh bU jd jd rfl rfl) trivial rfl rfl ?_
  rintro _ w3 ⟨rfl, hF3⟩
  have hX3 := hX2.frm hgp hF3.frm
  have hG3 := hG2.frm hF3.frm jp
  have hD3 := hD2.frm hF3.frm jp
  have hk3 := hk2.frm hF3.frm jp
  obtain ⟨z6, hz6, hz1, hrd⟩ : ∃ z6 : List Value, z6.length = 6 ∧ (∀ u ∈ z6, u.oneCell' = true) ∧ Rd w3 6 (some ⟨w2.heap.size, 0, none⟩) 1 z6 := ⟨_, rfl, jd, Rd.of_blk (n := 1) (size := 6) hF3.blk rfl⟩
  have hS := mkS _ _ hX3 hG3 hD3
  refine ⟨hS, ?_⟩
  refine qQ.m 8 rfl jK (qH.app rfl rfl zah (sF) rfl jd hX3.row hrd hz1 jo jo) trivial rfl rfl ?_
  rintro _ w4 ⟨LA4, lc4, rfl, hO4, hf4, hob4⟩
  obtain ⟨g4, rfl⟩ : ∃ g4, LA4 = some ⟨g4, 0, none⟩ := by
   rcases hO4.cases with ⟨_, h0, _⟩ | ⟨g, _, h, _⟩
   · omega
   exact ⟨g, h⟩
  have hS : w4.cell? ⟨gb, 0, none⟩ = some (jI0 gp) ∧ w4.cell? ⟨gd, 0, none⟩ = some (jI1 deep) ∧ w4.cell? ⟨g5, 5, none⟩ = some (.slice LA ks.length lc) := ⟨(hG3.frm hf4 (hX3.row.ne_blk hG3 jd)).cell 0, (hD3.frm hf4 (hX3.row.ne_blk hD3 jd)).cell 0, (hX3.k.frm hf4 (fun h => (hX3.off g5 h).2 rfl)).cell 5⟩
  refine ⟨hS, ?_⟩
  refine qQ.takeG 9 rfl jK jK jK jK (fun w0 => Run.indexS ks.length rfl rfl zah zh jo) trivial rfl rfl ?_
  refine qQ.takeG 11 rfl jK jK jK jK (fun w0 => Run.fieldAddr rfl zu rfl zaz jd) trivial rfl rfl ?_
  have hl6 := hk3.cells
  have hfl : css.flatten.length = ks.length * 6 := hX3.row.len
  have hcs6 : cs'.toArray.size = 6 := by simp [hl6.1]
  have hl4 := hO4.len
  have hne : g4 ≠ g5 := by
   rcases hob4 with e | e
   ·
    have h9 : g4 ∈ ob LA := by rw [← e]; exact zg.2 rfl
    exact (hX3.off g4 h9).2
   have h9 : g4 = w3.heap.size := by simpa [ob] using e
   have := hX3.k.lt
   omega
  have hb5 := hX3.k.frm hf4 (fun h => (hX3.off g5 h).2 rfl)
  have hO4 : Own w4 30 6 (some ⟨g4, 0, none⟩) (ks.length + 1) lc4 (css.flatten ++ z6) := hO4
  obtain ⟨kc5, hkc5⟩ : ∃ x, x = (KeC (.mk 17 [] [] 0 [] ks) none 0 LA lc).toArray := ⟨_, rfl⟩
  rw [← hkc5] at hb5
  have hk5 : kc5.size = 6 := by rw [hkc5]; rfl
  obtain ⟨xs5, hxs5⟩ : ∃ x, x = css.flatten ++ z6 := ⟨_, rfl⟩
  rw [← hxs5] at hO4
  have hx5 : xs5.length = ks.length * 6 + 6 := by rw [hxs5, zz, hfl]; rw [zz, hfl] at hl4; omega
  have hAd : some (Value.pointer (some ((⟨g4, 0, none⟩ : Addr).add (ks.length * 6)))) = some (Value.pointer (some ⟨g4, 0 + ks.length * 6, none⟩)) := by rw [qZd]
  have hone' : ∀ v ∈ cs'.toArray.toList, v.oneCell' = true := by simpa using hl6.2
  refine qQ.st2 10 12 (R1 := fun V => Own V 30 6 (some ⟨g4, 0, none⟩) (ks.length + 1) lc4 (xs5.take (0 + ks.length * 6) ++ cs'.toArray.toList ++ xs5.drop (0 + ks.length * 6 + cs'.toArray.size)) ∧ Frm [g4] w4 V ∧ V.heap.size = w4.heap.size)
   (R2 := fun V => Blk V g5 30 (kc5.setIfInBounds 5 (.slice (some ⟨g4, 0, none⟩) (ks.length + 1) lc4)) ∧ Frm [g5] w4 V ∧ V.heap.size = w4.heap.size)
   (R3 := fun V => Own V 30 6 (some ⟨g4, 0, none⟩) (ks.length + 1) lc4 (xs5.take (0 + ks.length * 6) ++ cs'.toArray.toList ++ xs5.drop (0 + ks.length * 6 + cs'.toArray.size)) ∧ Blk V g5 30 (kc5.setIfInBounds 5 (.slice (some ⟨g4, 0, none⟩) (ks.length + 1) lc4)) ∧ Frm [g4, g5] w4 V)
   rfl rfl jK jK jK jK jK (qJ.storeSub (o := 0 + ks.length * 6) (by exact hAd) rfl (by rw [hcs6]; exact zh) hO4 jo hone') (qJ.store (i := 5) rfl rfl zaz hb5 (by rw [hk5]; rfl) rfl)
   (fun V h => (qJ.store (i := 5) rfl rfl zaz (hb5.frm h.2.1 (by simp; exact Ne.symm hne)) (by rw [hk5]; rfl) rfl).imp fun V2 h2 => ⟨h.1.frm h2.2.1 (by simpa [ob] using hne), h2.1, (h.2.1.mono jp).trans h2.2.1 (fun x hx => .inl (by simp at hx; simp [hx]))⟩)
   (fun V h => (qJ.storeSub (o := 0 + ks.length * 6) (by exact hAd) rfl (by rw [hcs6]; exact zh) (hO4.frm h.2.1 (by simpa [ob] using hne)) jo hone').imp fun V2 h2 => ⟨h2.1, h.1.frm h2.2.1 (by simp; exact Ne.symm hne), (h.2.1.mono jp).trans h2.2.1 (fun x hx => .inl (by simp at hx; simp [hx]))⟩)
   rfl rfl rfl rfl jK ?_
  rintro w5 ⟨hO5, hb6, hf5⟩
  refine qQ.done jK ?_
  have hK5 := KsX.add (k := k) (cs' := cs') (W4 := w4) (W5 := w5) (g4 := g4) (lc4 := lc4) hX3 hgp hgc hA hk3 hf4 hob4 rfl hO5 (by
   rw [hxs5, show 0 + ks.length * 6 = css.flatten.length by omega, List.take_left, hcs6, zdr (Nat.le_of_eq (by rw [zz, hz6])), zdq]) (by
   rw [hkc5] at hb6
   rw [show KeC (.mk 17 [] [] 0 [] (ks ++ [k])) none 0 (some ⟨g4, 0, none⟩) lc4 = [.int .i64 17, encStr [], encStr [], .int .i64 0, .slice none 0 0, .slice (some ⟨g4, 0, none⟩) (ks.length + 1) lc4] by simp [KeC, KeyV.kind, KeyV.s, KeyV.t, KeyV.n, KeyV.set, KeyV.l]]
   exact hb6) hf5
  refine cB ?_
  exact ⟨rfl, (hG3.frm hf4 (hX3.row.ne_blk hG3 jd)).frm hf5 (by have h1 := (hX3.row.ne_blk hG3 jd); have h2 := hG3.ne hX3.k jd; have h3 := hO4.ne_blk (hG3.frm hf4 h1) jd; simp [ob] at h3; simp; exact ⟨h3, h2⟩), (hD3.frm hf4 (hX3.row.ne_blk hD3 jd)).frm hf5 (by have h1 := (hX3.row.ne_blk hD3 jd); have h2 := hD3.ne hX3.k jd; have h3 := hO4.ne_blk (hD3.frm hf4 h1) jd; simp [ob] at h3; simp; exact ⟨h3, h2⟩), _, _, _, hK5⟩
 refine hU.m rfl (qH.buildS1 rfl zah zh bU jd jd rfl rfl) trivial rfl rfl ?_
 rintro _ w2 ⟨rfl, hF3⟩
 have hX2 := hXd.frm hgp hF3.frm
 have hG2 := hGd.frm hF3.frm jp
 have hD2 := hDd.frm hF3.frm jp
 have hs2 := hF3.frm.size
 have hgpw := hXd.isCp.p.lt
 obtain ⟨z6, hz6, hz1, hrd0⟩ : ∃ z6 : List Value, z6.length = 6 ∧ (∀ u ∈ z6, u.oneCell' = true) ∧ Rd w2 6 (some ⟨w.drew.heap.size, 0, none⟩) 1 z6 := ⟨_, rfl, jd, Rd.of_blk (n := 1) (size := 6) hF3.blk rfl⟩
 have hS := mkS _ _ hX2 hG2 hD2
 refine ⟨hS, ?_⟩
 refine qQ.clp 5 rfl jK (jE2 Tryz.call67) (hkey gp gc A n c q _ _ hX2.isCp (fun h0 x hx => zaw (hA h0 x hx) hX2.fr.size) hX2.lv) trivial rfl rfl ?_
 rintro e w3 he
 rcases hT : R q with _ | ⟨k, q2⟩
 ·
  rw [hT] at he
  exact .inr ⟨_, he.1, qP ⟨rfl, (hX2.fr.mono jp).trans he.2 (fun x hx => .inl hx)⟩⟩
 rw [hT] at he
 obtain ⟨hfk, cs', rfl, hk, hPk⟩ := he
 have hX3 := hX2.read hgp hfk hPk
 have hG3 := hG2.frm hfk (by simp; exact hgb)
 have hD3 := hD2.frm hfk (by simp; exact hgd)
 have hk3 := hk.mono (B' := fun x => w0.heap.size ≤ x ∧ x ≠ g5 ∧ x ∉ ob LA) (fun x hx _ => mkB _ x hx jo)
 have hS := mkS _ _ hX3 hG3 hD3
 have hrd := hrd0.frm hfk (by simp [ob]; omega)
 refine .inl ⟨_, rfl, hS, ?_⟩
 refine qQ.m 8 rfl jK (qH.app rfl rfl zah (sF) rfl jd hX3.row hrd hz1 jo jo) trivial rfl rfl ?_
 rintro _ w4 ⟨LA4, lc4, rfl, hO4, hf4, hob4⟩
 obtain ⟨g4, rfl⟩ : ∃ g4, LA4 = some ⟨g4, 0, none⟩ := by
  rcases hO4.cases with ⟨_, h0, _⟩ | ⟨g, _, h, _⟩
  · omega
  exact ⟨g, h⟩
 have hS : w4.cell? ⟨gb, 0, none⟩ = some (jI0 gp) ∧ w4.cell? ⟨gd, 0, none⟩ = some (jI1 deep) ∧ w4.cell? ⟨g5, 5, none⟩ = some (.slice LA ks.length lc) := ⟨(hG3.frm hf4 (hX3.row.ne_blk hG3 jd)).cell 0, (hD3.frm hf4 (hX3.row.ne_blk hD3 jd)).cell 0, (hX3.k.frm hf4 (fun h => (hX3.off g5 h).2 rfl)).cell 5⟩
 refine ⟨hS, ?_⟩
 refine qQ.takeG 9 rfl jK jK jK jK (fun w0 => Run.indexS ks.length rfl rfl zah zh jo) trivial rfl rfl ?_
 refine qQ.takeG 11 rfl jK jK jK jK (fun w0 => Run.fieldAddr rfl zu rfl zaz jd) trivial rfl rfl ?_
 have hl6 := hk3.cells
 have hfl : css.flatten.length = ks.length * 6 := hX3.row.len
 have hcs6 : cs'.toArray.size = 6 := by simp [hl6.1]
 have hl4 := hO4.len
 have hne : g4 ≠ g5 := by
  rcases hob4 with e | e
  ·
   have h9 : g4 ∈ ob LA := by rw [← e]; exact zg.2 rfl
   exact (hX3.off g4 h9).2
  have h9 : g4 = w3.heap.size := by simpa [ob] using e
  have := hX3.k.lt
  omega
 have hb5 := hX3.k.frm hf4 (fun h => (hX3.off g5 h).2 rfl)
 have hO4 : Own w4 30 6 (some ⟨g4, 0, none⟩) (ks.length + 1) lc4 (css.flatten ++ z6) := hO4
 obtain ⟨kc5, hkc5⟩ : ∃ x, x = (KeC (.mk 17 [] [] 0 [] ks) none 0 LA lc).toArray := ⟨_, rfl⟩
 rw [← hkc5] at hb5
 have hk5 : kc5.size = 6 := by rw [hkc5]; rfl
 obtain ⟨xs5, hxs5⟩ : ∃ x, x = css.flatten ++ z6 := ⟨_, rfl⟩
 rw [← hxs5] at hO4
 have hx5 : xs5.length = ks.length * 6 + 6 := by rw [hxs5, zz, hfl]; rw [zz, hfl] at hl4; omega
 have hAd : some (Value.pointer (some ((⟨g4, 0, none⟩ : Addr).add (ks.length * 6)))) = some (Value.pointer (some ⟨g4, 0 + ks.length * 6, none⟩)) := by rw [qZd]
 have hone' : ∀ v ∈ cs'.toArray.toList, v.oneCell' = true := by simpa using hl6.2
 refine qQ.st2 10 12 (R1 := fun V => Own V 30 6 (some ⟨g4, 0, none⟩) (ks.length + 1) lc4 (xs5.take (0 + ks.length * 6) ++ cs'.toArray.toList ++ xs5.drop (0 + ks.length * 6 + cs'.toArray.size)) ∧ Frm [g4] w4 V ∧ V.heap.size = w4.heap.size)
  (R2 := fun V => Blk V g5 30 (kc5.setIfInBounds 5 (.slice (some ⟨g4, 0, none⟩) (ks.length + 1) lc4)) ∧ Frm [g5] w4 V ∧ V.heap.size = w4.heap.size)
  (R3 := fun V => Own V 30 6 (some ⟨g4, 0, none⟩) (ks.length + 1) lc4 (xs5.take (0 + ks.length * 6) ++ cs'.toArray.toList ++ xs5.drop (0 + ks.length * 6 + cs'.toArray.size)) ∧ Blk V g5 30 (kc5.setIfInBounds 5 (.slice (some ⟨g4, 0, none⟩) (ks.length + 1) lc4)) ∧ Frm [g4, g5] w4 V)
  rfl rfl jK jK jK jK jK (qJ.storeSub (o := 0 + ks.length * 6) (by exact hAd) rfl (by rw [hcs6]; exact zh) hO4 jo hone') (qJ.store (i := 5) rfl rfl zaz hb5 (by rw [hk5]; rfl) rfl)
  (fun V h => (qJ.store (i := 5) rfl rfl zaz (hb5.frm h.2.1 (by simp; exact Ne.symm hne)) (by rw [hk5]; rfl) rfl).imp fun V2 h2 => ⟨h.1.frm h2.2.1 (by simpa [ob] using hne), h2.1, (h.2.1.mono jp).trans h2.2.1 (fun x hx => .inl (by simp at hx; simp [hx]))⟩)
  (fun V h => (qJ.storeSub (o := 0 + ks.length * 6) (by exact hAd) rfl (by rw [hcs6]; exact zh) (hO4.frm h.2.1 (by simpa [ob] using hne)) jo hone').imp fun V2 h2 => ⟨h2.1, h.1.frm h2.2.1 (by simp; exact Ne.symm hne), (h.2.1.mono jp).trans h2.2.1 (fun x hx => .inl (by simp at hx; simp [hx]))⟩)
  rfl rfl rfl rfl jK ?_
 rintro w5 ⟨hO5, hb6, hf5⟩
 refine qQ.done jK ?_
 have hK5 := KsX.add (k := k) (cs' := cs') (W4 := w4) (W5 := w5) (g4 := g4) (lc4 := lc4) hX3 hgp hgc hA hk3 hf4 hob4 rfl hO5 (by
  rw [hxs5, show 0 + ks.length * 6 = css.flatten.length by omega, List.take_left, hcs6, zdr (Nat.le_of_eq (by rw [zz, hz6])), zdq]) (by
  rw [hkc5] at hb6
  rw [show KeC (.mk 17 [] [] 0 [] (ks ++ [k])) none 0 (some ⟨g4, 0, none⟩) lc4 = [.int .i64 17, encStr [], encStr [], .int .i64 0, .slice none 0 0, .slice (some ⟨g4, 0, none⟩) (ks.length + 1) lc4] by simp [KeC, KeyV.kind, KeyV.s, KeyV.t, KeyV.n, KeyV.set, KeyV.l]]
  exact hb6) hf5
 refine cB ?_
 exact ⟨rfl, (hG3.frm hf4 (hX3.row.ne_blk hG3 jd)).frm hf5 (by have h1 := (hX3.row.ne_blk hG3 jd); have h2 := hG3.ne hX3.k jd; have h3 := hO4.ne_blk (hG3.frm hf4 h1) jd; simp [ob] at h3; simp; exact ⟨h3, h2⟩), (hD3.frm hf4 (hX3.row.ne_blk hD3 jd)).frm hf5 (by have h1 := (hX3.row.ne_blk hD3 jd); have h2 := hD3.ne hX3.k jd; have h3 := hO4.ne_blk (hD3.frm hf4 h1) jd; simp [ob] at h3; simp; exact ⟨h3, h2⟩), _, _, _, hK5⟩
def xE : List Tx := [[65, 76, 76], [79, 76, 68]]
def xF : List Tx := [[78, 69, 87], [82, 69, 67, 69, 78, 84]]
def kFl : List Tx := [[65, 78, 83, 87, 69, 82, 69, 68], [68, 69, 76, 69, 84, 69, 68], [68, 82, 65, 70, 84], [70, 76, 65, 71, 71, 69, 68], [83, 69, 69, 78]]
def kUn : List Tx := [[85, 78, 65, 78, 83, 87, 69, 82, 69, 68], [85, 78, 68, 69, 76, 69, 84, 69, 68], [85, 78, 68, 82, 65, 70, 84], [85, 78, 70, 76, 65, 71, 71, 69, 68], [85, 78, 83, 69, 69, 78]]
def kSz : List Tx := [[76, 65, 82, 71, 69, 82], [83, 77, 65, 76, 76, 69, 82]]
def kHd : List Tx := [[83, 85, 66, 74, 69, 67, 84], [70, 82, 79, 77], [84, 79], [67, 67], [66, 67, 67]]
noncomputable def fK (tk : List Tk) (R : Nat → Option (KeyV × Nat)) (own s : Tx) (q : Nat) : Option (KeyV × Nat) :=
 if 0 ≤ rV s then (qW tk q [0, 1]).bind fun t => (mM t).map fun z => (.mk (rV s) [] [] z [] [], q + 1)
 else if s ∈ xE then some (k0, q)
 else if s ∈ xF then some (mN k0, q)
 else if s ∈ kFl then (fJ (92 :: s)).map fun k => (k, q)
 else if s ∈ kUn then (fJ (92 :: s.drop 2)).map fun k => (mN k, q)
 else if s = [75, 69, 89, 87, 79, 82, 68] then (qW tk q [0]).bind fun t => (fJ t).map fun k => (k, q + 1)
 else if s = [85, 78, 75, 69, 89, 87, 79, 82, 68] then (qW tk q [0]).bind fun t => (fJ t).map fun k => (mN k, q + 1)
 else if s ∈ kSz then (qW tk q [0]).bind fun t => if 0 ≤ gN t then some (.mk ((8 + s.length - 6 : Nat) : Int) [] [] (gN t) [] [], q + 1) else none
 else if s ∈ kHd then (qW tk q [0, 1]).map fun t => (.mk 10 s t 0 [] [], q + 1)
 else if s = [72, 69, 65, 68, 69, 82] then (qW tk q [0, 1]).bind fun t => (qW tk (q + 1) [0, 1]).map fun u => (.mk 10 t u 0 [] [], q + 1 + 1)
 else if s = [66, 79, 68, 89] then (qW tk q [0, 1]).map fun t => (.mk 11 t [] 0 [] [], q + 1)
 else if s = [84, 69, 88, 84] then (qW tk q [0, 1]).map fun t => (.mk 12 t [] 0 [] [], q + 1)
 else if s = [85, 73, 68] then (dF tk q).map fun l => (.mk 13 [] [] 0 l [], q + 1)
 else if s = [78, 79, 84] then (R q).map fun p => (mN p.1, p.2)
 else if s = [79, 82] then (R q).bind fun p => (R p.2).map fun r => (.mk 16 [] [] 0 [] [p.1, r.1], r.2)
 else if kP own = 0 then some (.mk 14 [] [] 0 (eF own) [], q)
 else none
noncomputable def fN (tk : List Tk) (R : Nat → Option (KeyV × Nat)) (q : Nat) : Option (KeyV × Nat) :=
 if IsT tk q 2 then (cN tk (fun _ k => (R k).map (·.2)) 1 64 q).bind fun p => (cT R (q + 1) p.2).map fun r => (.mk 17 [] [] 0 [] r.1, p.1 + 1)
 else (qW tk q [0]).bind fun own => fK tk R own (qT own) (q + 1)
structure KeB (w v : World) (gp gb gd g4 deep : Nat) : Prop where
 b : Blk v gb 61 #[jI0 gp]
 d : Blk v gd 3 #[jI1 deep]
 r : Blk v g4 30 (KeC k0 none 0 none 0).toArray
 ub : w.heap.size ≤ gb ∧ w.heap.size ≤ gd ∧ w.heap.size ≤ g4
 lib : bT v
 fr : Frm [] w v
 ne : gp ≠ 1 ∧ gp ≠ 4
 lt : gp < w.heap.size
section
variable {w v W W' : World} {gp gb gd g4 deep gc n c q d : Nat} {A : Option Addr} {tk : List Tk} {cs : Array Value}
theorem KeB.at (h : KeB w v gp gb gd g4 deep) (k : Frm [gp] v W) : (Blk W gb 61 #[jI0 gp] ∧ Blk W gd 3 #[jI1 deep] ∧ Blk W g4 30 (KeC k0 none 0 none 0).toArray) ∧ bT W ∧ Frm [gp] w W ∧ v.heap.size ≤ W.heap.size := by
 have hu := h.ub
 have hl := h.lt
 exact ⟨⟨h.b.frm k (by simp; omega), h.d.frm k (by simp; omega), h.r.frm k (by simp; omega)⟩, h.lib.frmS k (by simpa using Ne.symm h.ne.1) (by simpa using Ne.symm h.ne.2), (h.fr.mono jp).trans k (fun x hx => .inl hx), k.size⟩
theorem KeB.bad (h : KeB w v gp gb gd g4 deep) (k : Frm [gp] v W) (k2 : Frm [gp] W W') : Frm [gp, gc] w W' := ((h.at k).2.2.1.mono jp).trans k2 (fun x hx => .inl (by simp at hx; simp [hx]))
theorem KeB.out {cs' : List Value} {kv : KeyV} (h : KeB w v gp gb gd g4 deep) (k : Frm [gp] v W) (hP : IsCp W gp gc A n c tk q cs) (hA : 0 < n → ∀ x ∈ ob A, x < w.heap.size) (hb : Blk W' g4 30 cs'.toArray) (kf : Frm [g4] W W') (hk : RdK d W (fun x => v.heap.size ≤ x) cs' kv) : Frm [gp] w W' ∧ RdK d W' (fun x => w.heap.size ≤ x) cs' kv ∧ IsCp W' gp gc A n c tk q cs := by
 have h4 := h.r.lt
 have hs := h.fr.size
 have hu := h.ub
 have hX := h.at k
 refine ⟨hX.2.2.1.trans kf (fun x hx => .inr (by simp at hx; omega)), (hk.frm kf (fun x hx hb => by simp at hx; subst hx; omega)).mono (fun x hx _ => jo), hP.frmS kf ?_ ?_ (fun h0 x hx => ?_)⟩
 · have := h.lt; simp; omega
 · have := hP.k.ne hX.1.2.2 jd; simpa using this
 have := hA h0 x hx; simp; omega
end
section
variable {w0 : World} {gp gc : Nat} {A : Option Addr} {n c : Nat} {tk : List Tk} {cs : Array Value} {g5 d : Nat} {ks : List KeyV} {LA : Option Addr} {lc : Nat} {css : List (List Value)} {W W' : World} {q q2 : Nat}
theorem six {l : List Value} (h : l.length = 6) : ∃ a b c d e f, l = [a, b, c, d, e, f] := by
 match l, h with
 | [a, b, c, d, e, f], _ => exact ⟨a, b, c, d, e, f, rfl⟩
theorem KsX.nil (hP : IsCp W gp gc A n c tk q cs) (k : Frm [gp] w0 W) (hv : bT w0) (hn : gp ≠ 1 ∧ gp ≠ 4) (hu : w0.heap.size ≤ g5) (hb : Blk W g5 30 (KeC (.mk 17 [] [] 0 [] []) none 0 none 0).toArray) : KsX w0 gp gc A n c tk cs g5 d [] none 0 [] W q := ⟨hP, k, hv, hn, hu, hb, Own.nil _ _ _, ⟨rfl, fun i hi => absurd hi (Nat.not_lt_zero i)⟩, by simp [ob]⟩
theorem KsX.rdK (h : KsX w0 gp gc A n c tk cs g5 d ks LA lc css W q) : RdK (d + 1) W (fun x => w0.heap.size ≤ x) (KeC (.mk 17 [] [] 0 [] ks) none 0 LA lc) (.mk 17 [] [] 0 [] ks) := ⟨none, 0, LA, lc, css, rfl, Own.nil _ _ _, h.row, ⟨by simp [ob], fun x hx => (h.off x hx).1⟩, h.ks.1, fun i hi => (h.ks.2 i hi).mono (fun x hx _ => hx.1)⟩
end
theorem sZ (R : Nat → Option (KeyV × Nat)) (deep d : Nat) (hd1 : 1 ≤ d) (tk : List Tk) (hkey : deep ≤ 8 → xC tk R ((deep + 1 : Nat) : Int) d) (hdeep : deep ≤ 9) (hl : ∀ x ∈ tk, x.2.length ≤ 50000) (gp gc : Nat) (A : Option Addr) (n c : Nat) (q : Nat) (cs : Array Value) (w : World) (hP : IsCp w gp gc A n c tk q cs) (hA : 0 < n → ∀ x ∈ ob A, x < w.heap.size) (hv : bT w) : Calls Tryz.prog 67 #[jI0 gp, jI1 deep] w fun e w' => match (if deep ≤ 8 then fN tk R q else none) with
   | none => e = .panicked cY ∧ Frm [gp, gc] w w'
   | some (k, q2) => Frm [gp] w w' ∧ ∃ cs', e = .returned (.agg cs'.toArray) ∧ RdK (d + 1) w' (fun x => w.heap.size ≤ x) cs' k ∧ IsCp w' gp gc A n c tk q2 cs := by
 have hl' : ∀ x ∈ tk, x.2.length ≤ 1000000 := fun x hx => zr (hl x hx) jd
 obtain ⟨M, hM⟩ : ∃ M, (if deep ≤ 8 then fN tk R q else none) = M := ⟨_, rfl⟩
 rw [hM]
 refine jV Tryz.func67 Tryz.ntmps67 Tryz.results67 ?_
 refine jS (jR ?_)
 refine Ops.m (qH.box rfl) rfl ?_
 rintro _ w1 ⟨rfl, hF1⟩
 have b1 : Blk w1 w.heap.size 61 #[jI0 gp] := hF1.blk
 have s1 := hF1.size
 refine Ops.m (qH.box rfl) rfl ?_
 rintro _ w2 ⟨rfl, hF2⟩
 have b2 : Blk w2 w1.heap.size 3 #[jI1 deep] := hF2.blk
 have s2 := hF2.size
 refine Ops.m (qH.alloc bU) rfl ?_
 rintro _ v ⟨rfl, hF3⟩
 have b3 : Blk v w2.heap.size 30 (KeC k0 none 0 none 0).toArray := hF3.blk
 have s3 := hF3.size
 have fv : Frm [] w v := (hF1.frm.trans hF2.frm jp).trans hF3.frm jp
 have hPv := hP.frm fv
 have hv' := hv.frm0 fv
 have b1 := b1.frm (hF2.frm.trans hF3.frm jp) jp
 have b2 := b2.frm hF3.frm jp
 obtain ⟨gb, hgb⟩ : ∃ g, g = w.heap.size := ⟨_, rfl⟩
 obtain ⟨gd, hgd⟩ : ∃ g, g = w1.heap.size := ⟨_, rfl⟩
 obtain ⟨g4, hg4⟩ : ∃ g, g = w2.heap.size := ⟨_, rfl⟩
 rw [← hgb] at b1
 rw [← hgd] at b2
 rw [← hg4] at b3
 rw [← hgb, ← hgd, ← hg4]
 have hB : KeB w v gp gb gd g4 deep := ⟨b1, b2, b3, ⟨jo, jo, jo⟩, hv', fv, hv.ne hP, hP.p.lt⟩
 have hAv : 0 < n → ∀ x ∈ ob A, x < v.heap.size := fun h0 x hx => by have := hA h0 x hx; omega
 clear hgd hg4
 have Kv : Frm [gp] v v := Frm.refl _ _
 refine jO (jN (jv3 2 3 4 ?_))
 refine jS (jR (jl rfl zi (hB.d.cell 0) (jb rfl rfl (Bin.leqN _ 8) ?_)))
 refine Ops.clp (jE1 zbb) (bZ (decide (deep ≤ 8)) v) rfl ?_
 rintro e _ ⟨rfl, he⟩
 by_cases h8 : deep ≤ 8
 rotate_left
 ·
  rw [decide_eq_false h8] at he
  exact .inr ⟨_, he, qK (qP (by rw [if_neg h8] at hM; subst hM; exact ⟨rfl, hB.bad Kv (Frm.refl _ _)⟩))⟩
 rw [decide_eq_true h8] at he
 rw [if_pos h8] at hM
 have hkey := hkey h8
 refine .inl ⟨_, he, ?_⟩
 refine jO (jN (jv3 2 3 4 ?_))
 refine jS (jS (jR (jl rfl zae (hB.b.cell 0) ?_)))
 refine jc (jE3 zco) (dR 0 2 gp gc A n c tk q cs v hPv jo) ?_
 rintro _ w4 ⟨hf4, rfl⟩
 refine ⟨_, rfl, ?_⟩
 have K4 : Frm [gp] v w4 := hf4.mono jp
 have hP4 := hPv.frm hf4
 refine jO (jN (jv4 2 3 4 18 ?_))
 refine VC.condB rfl (fun hc1 => ?_) (fun hc1 => ?_)
 ·
  have hc1 : IsT tk q 2 := by simpa using hc1
  unfold fN at hM
  rw [if_pos hc1] at hM
  refine jS (jR (je (Run.build (evs.cons rfl evs.nil) bU (bQ).choose_spec.1 (bQ).choose_spec.2 (cells := (KeC (.mk 17 [] [] 0 [] []) none 0 none 0).toArray) rfl) ?_))
  refine Ops.m (qH.alloc bU) rfl ?_
  rintro _ w5 ⟨rfl, hF5⟩
  obtain ⟨g5, hg5⟩ : ∃ g, g = w4.heap.size := ⟨_, rfl⟩
  have b5 := hF5.blk
  rw [← hg5] at b5 ⊢
  refine Ops.st (qJ.storeA rfl rfl zh b5 rfl (cX _ _ _ _ _)) ?_
  rintro w6 ⟨b6, hf6, hs6⟩
  have hgpv : gp < v.heap.size := by have := hB.lt; have := hB.fr.size; omega
  have hu5 : v.heap.size ≤ g5 := by rw [hg5]; exact (hB.at K4).2.2.2
  have K6 : Frm [gp] v w6 := (K4.trans (hF5.frm.mono jp) (fun x hx => .inl hx)).trans hf6 (fun x hx => .inr (by simp at hx; omega))
  have hP6 := (hP4.frm hF5.frm).frmS hf6 (by simp; omega) (by have := hPv.k.lt; simp; omega) (fun h0 x hx => by have := hAv h0 x hx; simp; omega)
  have hX0 : ∀ W, Frm [gp] w6 W → IsCp W gp gc A n c tk (q + 1) cs → (fun j W q1 cs1 => cs1 = cs ∧ ∃ ks LA lc css, KsX v gp gc A n c tk cs g5 d ks LA lc css W q1 ∧ cT R (q + 1) j = some (ks, q1) ∧ ks.length = j) 0 W (q + 1) cs := fun W k hPW => ⟨rfl, [], none, 0, [], KsX.nil hPW (K6.trans k (fun x hx => .inl hx)) hB.lib hB.ne hu5 (b6.frm k (by simp; omega)), rfl, rfl⟩
  have hXa : ∀ j W q1 cs1, (fun j W q1 cs1 => cs1 = cs ∧ ∃ ks LA lc css, KsX v gp gc A n c tk cs g5 d ks LA lc css W q1 ∧ cT R (q + 1) j = some (ks, q1) ∧ ks.length = j) j W q1 cs1 → IsCp W gp gc A n c tk q1 cs1 ∧ Frm [gp, gc] v W := fun j W q1 cs1 h => by
   obtain ⟨rfl, ks, LA, lc, css, h1, _⟩ := h
   exact ⟨h1.isCp, h1.fr.mono jp⟩
  have hXb : ∀ j W W' q1 cs1, (fun j W q1 cs1 => cs1 = cs ∧ ∃ ks LA lc css, KsX v gp gc A n c tk cs g5 d ks LA lc css W q1 ∧ cT R (q + 1) j = some (ks, q1) ∧ ks.length = j) j W q1 cs1 → Frm [] W W' → (fun j W q1 cs1 => cs1 = cs ∧ ∃ ks LA lc css, KsX v gp gc A n c tk cs g5 d ks LA lc css W q1 ∧ cT R (q + 1) j = some (ks, q1) ∧ ks.length = j) j W' q1 cs1 := fun j W W' q1 cs1 h k => by
   obtain ⟨rfl, ks, LA, lc, css, h1, h2⟩ := h
   exact ⟨rfl, ks, LA, lc, css, h1.frm hgpv k, h2⟩
  have hone : ∀ j W q1 cs1, j < 64 → ¬ IsT tk q1 3 → (fun j W q1 cs1 => cs1 = cs ∧ ∃ ks LA lc css, KsX v gp gc A n c tk cs g5 d ks LA lc css W q1 ∧ cT R (q + 1) j = some (ks, q1) ∧ ks.length = j) j W q1 cs1 → Calls Tryz.prog 94 ([] ++ [] ++ [jI0 g5, jI0 gb, jI0 gd] : List Value).toArray W fun e w' => match (R q1).map (·.2) with
     | none => e = .panicked cY ∧ Frm [gp, gc] v w'
     | some q2 => e = .returned (.tuple #[]) ∧ ∃ cs2, (fun j W q1 cs1 => cs1 = cs ∧ ∃ ks LA lc css, KsX v gp gc A n c tk cs g5 d ks LA lc css W q1 ∧ cT R (q + 1) j = some (ks, q1) ∧ ks.length = j) (j + 1) w' q2 cs2 := fun j W q1 cs1 hj _ h => by
   obtain ⟨rfl, ks, LA, lc, css, h1, h2, h3⟩ := h
   refine (xD R deep d tk hkey hdeep v gp gc A n c cs1 g5 gb gd ks LA lc css W q1 h1 (hB.at h1.fr).1.1 (hB.at h1.fr).1.2.1 hgpv hPv.k.lt hAv jo h1.row.lt).mono fun e w' he => ?_
   rcases hR : R q1 with _ | ⟨k, q2⟩
   · rw [hR] at he; exact he
   rw [hR] at he
   obtain ⟨he, _, _, LA', lc', css', hX'⟩ := he
   exact ⟨he, cs1, rfl, ks ++ [k], LA', lc', css', hX', by show (cT R (q + 1) j).bind _ = _; rw [h2, zn]; dsimp only; rw [hR]; rfl, by simp [h3]⟩
  refine jO (jN (jv4 2 3 4 5 ?_))
  refine jS (jR (jl rfl zae ((hB.at K6).1.1.cell 0) (je (Run.mkFunc evs.nil (evs.cons rfl (evs.cons rfl (evs.cons rfl evs.nil)))) ?_)))
  refine Ops.clp (jE4 Tryz.call62) (kK 94 [] [jI0 g5, jI0 gb, jI0 gd] 1 64 (fun _ k => (R k).map (·.2)) (fun j W q1 cs1 => cs1 = cs ∧ ∃ ks LA lc css, KsX v gp gc A n c tk cs g5 d ks LA lc css W q1 ∧ cT R (q + 1) j = some (ks, q1) ∧ ks.length = j) v gp gc A n c tk q cs w6 hP6 (K6.mono jp) jo jo Tryz.call94 hX0 hXa hXb hone) rfl ?_
  rintro e w7 he
  rcases hL : cN tk (fun _ k => (R k).map (·.2)) 1 64 q with _ | ⟨q2, j⟩
  ·
   rw [hL] at he hM
   exact .inr ⟨_, he.1, qK (qK (qP (by subst hM; exact ⟨rfl, (hB.fr.mono jp).trans he.2 (fun x hx => .inl hx)⟩)))⟩
  rw [hL] at he hM
  obtain ⟨rfl, cs2, W1, ⟨rfl, ks, LA, lc, css, hX1, hkt, _⟩, hf7, hP7⟩ := he
  have hX7 := hX1.read hgpv hf7 hP7
  rw [zn] at hM
  dsimp only at hM
  rw [hkt] at hM
  refine .inl ⟨_, rfl, ?_⟩
  refine jO (jN (jv2 4 5 ?_))
  refine jS (jR (je (Run.loadA (cs := KeC (.mk 17 [] [] 0 [] ks) none 0 LA lc) rfl zaf zh (by simpa using hX7.k.cells) rfl) ?_))
  refine Ops.st (qJ.storeA rfl rfl zh (hB.at hX7.fr).1.2.2 rfl (cX _ _ _ _ _)) ?_
  rintro we ⟨hbe, hfe, hse⟩
  have Ke := hX7.fr
  have hPe := hP7
  have hke := hX7.rdK
  refine jO (jN (jv1 4 ?_))
  refine jT ?_
  refine qZ (bM ?_)
  refine qB rfl zaf zh (hbe.cells) (by first | rfl | (simp; done) | (simp [*]; done)) ?_
  refine qF ?_
  subst hM
  obtain ⟨r1, r2, r3⟩ := hB.out Ke hPe hA hbe hfe hke
  rw [← hgb] at r2
  refine ⟨r1, _, ?_, r2, r3⟩
  first | rfl | simp
 have hc1 : ¬ IsT tk q 2 := by simpa using hc1
 unfold fN at hM
 rw [if_neg hc1] at hM
 refine jQ (jN (jv3 2 3 4 ?_))
 refine jS (jR (jl rfl zae ((hB.at K4).1.1.cell 0) ?_))
 refine Ops.m (qH.buildS1 rfl zl zc dH jd jd rfl rfl) rfl ?_
 rintro _ wb ⟨rfl, hFB⟩
 have hKB : Rd wb 1 (some ⟨w4.heap.size, 0, none⟩) 1 (IB [0]) := Rd.of_blk (n := 1) (size := 1) hFB.blk rfl
 have hPb := hP4.frm hFB.frm
 have Kb : Frm [gp] v wb := K4.trans (hFB.frm.mono jp) (fun x hx => .inl hx)
 have hgl := hP4.p.lt
 refine Ops.clp (jE2 zca) (bO (some ⟨w4.heap.size, 0, none⟩) 1 1 [0] gp gc A n c tk (q) cs wb hPb rfl jo hKB (fun _ x hx => by rw [zg.1 hx]; show w4.heap.size ≠ gp; omega)) rfl ?_
 rintro e w6 ⟨hf6, he⟩
 rcases hT6 : qW tk (q) [0] with _ | own
 ·
  rw [hT6] at he
  exact .inr ⟨_, he, qK (qP (by rw [hT6] at hM; subst hM; exact ⟨rfl, hB.bad Kb hf6⟩))⟩
 rw [hT6] at he hM
 obtain ⟨rfl, hP6⟩ := he
 have K6 : Frm [gp] v w6 := Kb.trans hf6 (fun x hx => .inl hx)
 refine .inl ⟨_, rfl, ?_⟩
 rw [zn] at hM
 refine ja rfl (jO (jN (jv4 2 3 4 6 ?_)))
 refine jS (jR (jM ?_))
 refine jc (jE1 Tryz.call30) (eY own w6 (bL hT6 hl')) ?_
 rintro _ w7 ⟨rfl, hf7⟩
 refine ⟨_, rfl, ?_⟩
 have K7 : Frm [gp] v w7 := K6.trans (hf7.mono jp) (fun x hx => .inl hx)
 have hP7 := hP6.frm hf7
 have hsl : (qT own).length ≤ 50000 := by rw [dS]; exact bL hT6 hl
 obtain ⟨sn, hs⟩ : ∃ x, x = qT own := ⟨_, rfl⟩
 rw [← hs] at hM hsl ⊢
 clear hs
 refine ja rfl (jO (jN (jv5 2 3 4 6 7 ?_)))
 refine jS (jS (jR (jM ?_)))
 refine jc (jE1 Tryz.call95) (vQ sn w7) ?_
 rintro _ _ ⟨rfl, rfl⟩
 refine ⟨_, rfl, ?_⟩
 refine ja rfl (jO (jN (jv6 2 3 4 6 7 8 ?_)))
 refine jS (jR (jm rfl (jb rfl rfl (Bin.geq _ 0) (jO (jN (jv7 2 3 4 6 7 8 32 ?_))))))
 refine jD rfl (fun hc2 => ?_) fun hc2 => ?_
 ·
  unfold fK at hM
  rw [if_pos (by simpa using hc2)] at hM
  refine jS (jR (jl rfl zae ((hB.at K7).1.1.cell 0) ?_))
  refine Ops.clp (jE1 zcp) (cC gp gc A n c tk (q + 1) cs w7 hP7) rfl ?_
  rintro e w8 ⟨hfw8, he⟩
  rcases hT8 : qW tk (q + 1) [0, 1] with _ | tx
  ·
   rw [hT8] at he
   exact .inr ⟨_, he, qK (qK (qP (by rw [hT8] at hM; subst hM; exact ⟨rfl, hB.bad K7 hfw8⟩)))⟩
  rw [hT8] at he hM
  obtain ⟨rfl, hP8⟩ := he
  have K8 : Frm [gp] v w8 := K7.trans hfw8 (fun x hx => .inl hx)
  refine .inl ⟨_, rfl, ?_⟩
  rw [zn] at hM
  refine jc (jE1 Tryz.call96) (zT tx w8 (bL hT8 hl') (hB.at K8).2.1) ?_
  rintro _ w9 ⟨hf9, z, code, rfl, hz⟩
  refine ⟨_, rfl, ?_⟩
  have K9 : Frm [gp] v w9 := K8.trans (hf9.mono jp) (fun x hx => .inl hx)
  have hP9 := hP8.frm hf9
  refine jm rfl (jY rfl rfl (jY rfl rfl (ja rfl (ja rfl (jO (jN (jv4 4 8 9 10 ?_)))))))
  refine jS (jR (jm rfl (jb rfl rfl (Bin.eql _ 0) ?_)))
  refine Ops.clp (jE1 zbb) (bZ (decide (code = 0)) w9) rfl ?_
  rintro e _ ⟨rfl, he⟩
  rcases hpd : mM tx with _ | z0
  ·
   rw [hpd] at hz hM
   dsimp only at hz
   rw [decide_eq_false hz] at he
   exact .inr ⟨_, he, qK (qK (qP (by subst hM; exact ⟨rfl, hB.bad K9 (Frm.refl _ _)⟩)))⟩
  rw [hpd] at hz hM
  obtain ⟨rfl, hz2⟩ := hz
  rw [decide_eq_true hz2] at he
  refine .inl ⟨_, he, ?_⟩
  refine jO (jN (jv3 4 8 9 ?_))
  refine jS (jR (jm rfl (jm rfl (je (Run.build (evs.cons rfl (evs.cons rfl evs.nil)) bU (bQ).choose_spec.1 (bQ).choose_spec.2 (cells := (KeC (.mk (rV sn) [] [] z0 [] []) none 0 none 0).toArray) rfl) ?_))))
  refine Ops.st (qJ.storeA rfl rfl zh (hB.at K9).1.2.2 rfl (cX _ _ _ _ _)) ?_
  rintro we ⟨hbe, hfe, hse⟩
  have Ke := K9
  have hPe := hP9
  have hke := (RdK.leaf w9 (fun x => v.heap.size ≤ x) (rV sn) [] [] z0).le (d' := d + 1) jo
  refine jO (jN (jv1 4 ?_))
  refine jT ?_
  refine qZ (bM ?_)
  refine qB rfl zaf zh (hbe.cells) (by first | rfl | (simp; done) | (simp [*]; done)) ?_
  refine qF ?_
  subst hM
  obtain ⟨r1, r2, r3⟩ := hB.out Ke hPe hA hbe hfe hke
  rw [← hgb] at r2
  refine ⟨r1, _, ?_, r2, r3⟩
  first | rfl | simp
 unfold fK at hM
 rw [if_neg (by simpa using hc2)] at hM
 refine jQ (jN (jv5 2 3 4 6 7 ?_))
 refine jS (jS (jR (jm rfl (jO (jN (jB (jS (jS (jR (je (Run.eqlT rfl rfl) (ja rfl (jO (jN (jv7 2 3 4 6 7 45 46 ?_))))))))))))))
 refine VC.meet (σ := Unit) (fun s => [(2, jI0 gb), (3, jI0 gd), (4, jI0 g4), (6, encStr own), (7, encStr sn), (45, encStr sn), (46, .bool (decide (sn ∈ xE)))]) (fun s wr => w7 = wr) ?_ ?_
 ·
  refine jD rfl (fun hc3 => ?_) fun hc3 => ?_
  ·
   refine jQ ?_
   refine jN ⟨(), (js7 rfl rfl rfl rfl rfl rfl (jC (by simp [xE, *]))), ?_⟩
   rfl
  refine jR (je (Run.eqlT rfl rfl) (ja rfl (jO ?_)))
  refine jN ⟨(), (js7 rfl rfl rfl rfl rfl rfl (jC (by simp [xE, *]))), ?_⟩
  rfl
 intro s wr hinv Γ hΓ
 refine jN (VC.sub _ hΓ ?_)
 refine jD rfl (fun hc4 => ?_) fun hc4 => ?_
 ·
  subst hinv
  rw [if_pos hc4] at hM
  refine jS (jR (je (Run.build evs.nil bU (bQ).choose_spec.1 (bQ).choose_spec.2 (cells := (KeC k0 none 0 none 0).toArray) rfl) ?_))
  refine Ops.st (qJ.storeA rfl rfl zh (hB.at K7).1.2.2 rfl (cX _ _ _ _ _)) ?_
  rintro we ⟨hbe, hfe, hse⟩
  have Ke := K7
  have hPe := hP7
  have hke := (RdK.leaf w7 (fun x => v.heap.size ≤ x) 0 [] [] 0).le (d' := d + 1) jo
  refine jO (jN (jv1 4 ?_))
  refine jT ?_
  refine qN (qZ (bM ?_))
  refine qB rfl zaf zh (hbe.cells) (by first | rfl | (simp; done) | (simp [*]; done)) ?_
  refine qF ?_
  subst hM
  obtain ⟨r1, r2, r3⟩ := hB.out Ke hPe hA hbe hfe hke
  rw [← hgb] at r2
  refine ⟨r1, _, ?_, r2, r3⟩
  first | rfl | simp
 subst hinv
 rw [if_neg hc4] at hM
 refine jS (jS (jR (je (Run.eqlT rfl rfl) (ja rfl (jO (jN (jv7 2 3 4 6 7 45 50 ?_)))))))
 refine VC.meet (σ := Unit) (fun s => [(2, jI0 gb), (3, jI0 gd), (4, jI0 g4), (6, encStr own), (7, encStr sn), (45, encStr sn), (50, .bool (decide (sn ∈ xF)))]) (fun s wr => w7 = wr) ?_ ?_
 ·
  refine jD rfl (fun hc5 => ?_) fun hc5 => ?_
  ·
   refine jQ ?_
   refine jN ⟨(), (js7 rfl rfl rfl rfl rfl rfl (jC (by simp [xF, *]))), ?_⟩
   rfl
  refine jR (je (Run.eqlT rfl rfl) (ja rfl (jO ?_)))
  refine jN ⟨(), (js7 rfl rfl rfl rfl rfl rfl (jC (by simp [xF, *]))), ?_⟩
  rfl
 intro s wr hinv Γ hΓ
 refine jN (VC.sub _ hΓ ?_)
 refine jD rfl (fun hc6 => ?_) fun hc6 => ?_
 ·
  subst hinv
  rw [if_pos hc6] at hM
  refine jS (jR (je (Run.build evs.nil bU (bQ).choose_spec.1 (bQ).choose_spec.2 (cells := (KeC k0 none 0 none 0).toArray) rfl) ?_))
  refine jc (jE1 Tryz.call97) (lK 1 (KeC k0 none 0 none 0) k0 w7 (fun x => v.heap.size ≤ x) (RdK.nil _ _)) ?_
  rintro _ wn ⟨hfn, csn, rfl, hkn⟩
  refine ⟨_, rfl, ?_⟩
  have Kn : Frm [gp] v wn := K7.trans (hfn.mono jp) (fun x hx => .inl hx)
  have hPn := hP7.frm hfn
  have hzn := hkn.cells
  have hsn := (hB.at K7).2.2.2
  have hkn := hkn.mono (B' := fun x => v.heap.size ≤ x) (fun x hx _ => hx.elim id (fun h => jo))
  refine Ops.st (qJ.storeA rfl rfl (by rw [show csn.toArray.size = 6 by simp [hzn.1]]; exact zh) (hB.at Kn).1.2.2 (by simp [hzn.1]; rfl) (by simpa using hzn.2)) ?_
  rintro we ⟨hbe, hfe, hse⟩
  have Ke := Kn
  have hPe := hPn
  have hke := hkn.le (d' := d + 1) jo
  refine jO (jN (jv1 4 ?_))
  refine jT ?_
  refine qN (qZ (bM ?_))
  refine qB rfl zaf zh (hbe.cells) (by first | rfl | (simp; done) | (simp [*]; done)) ?_
  refine qF ?_
  subst hM
  obtain ⟨r1, r2, r3⟩ := hB.out Ke hPe hA hbe hfe hke
  rw [← hgb] at r2
  refine ⟨r1, _, ?_, r2, r3⟩
  first | rfl | simp
 subst hinv
 rw [if_neg hc6] at hM
 refine jS (jS (jR (je (Run.eqlT rfl rfl) (ja rfl (jO (jN (jv7 2 3 4 6 7 45 55 ?_)))))))
 refine VC.meet (σ := Unit) (fun s => [(2, jI0 gb), (3, jI0 gd), (4, jI0 g4), (6, encStr own), (7, encStr sn), (45, encStr sn), (55, .bool (decide (sn ∈ kFl)))]) (fun s wr => w7 = wr) ?_ ?_
 ·
  refine jD rfl (fun hc7 => ?_) fun hc7 => ?_
  ·
   refine jQ ?_
   refine jN ⟨(), (js7 rfl rfl rfl rfl rfl rfl (jC (by simp [kFl, *]))), ?_⟩
   rfl
  refine jS (jR (je (Run.eqlT rfl rfl) (ja rfl (jO (jN (jv7 2 3 4 6 7 45 55 ?_))))))
  refine VC.meet (σ := Unit) (fun s => [(2, jI0 gb), (3, jI0 gd), (4, jI0 g4), (6, encStr own), (7, encStr sn), (45, encStr sn), (55, .bool (decide (sn ∈ kFl)))]) (fun s wr => w7 = wr) ?_ ?_
  ·
   refine jD rfl (fun hc8 => ?_) fun hc8 => ?_
   ·
    refine jQ ?_
    refine jN ⟨(), (js7 rfl rfl rfl rfl rfl rfl (jC (by simp [kFl, *]))), ?_⟩
    rfl
   refine jS (jR (je (Run.eqlT rfl rfl) (ja rfl (jO (jN (jv7 2 3 4 6 7 45 55 ?_))))))
   refine VC.meet (σ := Unit) (fun s => [(2, jI0 gb), (3, jI0 gd), (4, jI0 g4), (6, encStr own), (7, encStr sn), (45, encStr sn), (55, .bool (decide (sn ∈ kFl)))]) (fun s wr => w7 = wr) ?_ ?_
   ·
    refine jD rfl (fun hc9 => ?_) fun hc9 => ?_
    ·
     refine jQ ?_
     refine jN ⟨(), (js7 rfl rfl rfl rfl rfl rfl (jC (by simp [kFl, *]))), ?_⟩
     rfl
    refine jS (jR (je (Run.eqlT rfl rfl) (ja rfl (jO (jN (jv7 2 3 4 6 7 45 55 ?_))))))
    refine VC.meet (σ := Unit) (fun s => [(2, jI0 gb), (3, jI0 gd), (4, jI0 g4), (6, encStr own), (7, encStr sn), (45, encStr sn), (55, .bool (decide (sn ∈ kFl)))]) (fun s wr => w7 = wr) ?_ ?_
    ·
     refine jD rfl (fun hc10 => ?_) fun hc10 => ?_
     ·
      refine jQ ?_
      refine jN ⟨(), (js7 rfl rfl rfl rfl rfl rfl (jC (by simp [kFl, *]))), ?_⟩
      rfl
     refine jR (je (Run.eqlT rfl rfl) (ja rfl (jO ?_)))
     refine jN ⟨(), (js7 rfl rfl rfl rfl rfl rfl (jC (by simp [kFl, *]))), ?_⟩
     rfl
    intro s wr hinv Γ hΓ
    refine jN ⟨(), (js7 (hΓ.get _ _ rfl) (hΓ.get _ _ rfl) (hΓ.get _ _ rfl) (hΓ.get _ _ rfl) (hΓ.get _ _ rfl) (hΓ.get _ _ rfl) (hΓ.get _ _ rfl)), ?_⟩
    exact hinv
   intro s wr hinv Γ hΓ
   refine jN ⟨(), (js7 (hΓ.get _ _ rfl) (hΓ.get _ _ rfl) (hΓ.get _ _ rfl) (hΓ.get _ _ rfl) (hΓ.get _ _ rfl) (hΓ.get _ _ rfl) (hΓ.get _ _ rfl)), ?_⟩
   exact hinv
  intro s wr hinv Γ hΓ
  refine jN ⟨(), (js7 (hΓ.get _ _ rfl) (hΓ.get _ _ rfl) (hΓ.get _ _ rfl) (hΓ.get _ _ rfl) (hΓ.get _ _ rfl) (hΓ.get _ _ rfl) (hΓ.get _ _ rfl)), ?_⟩
  exact hinv
 intro s wr hinv Γ hΓ
 refine jN (VC.sub _ hΓ ?_)
 refine jD rfl (fun hc11 => ?_) fun hc11 => ?_
 ·
  subst hinv
  rw [if_pos hc11] at hM
  refine jS (jR (jm rfl (je (Run.addT (a := [92]) (b := sn) rfl rfl (by simp; omega)) ?_)))
  refine Ops.clp (jE1 Tryz.call98) (gA (92 :: sn) w7 (by simp; omega)) rfl ?_
  rintro e wf ⟨hff, he⟩
  rcases hFk : fJ (92 :: sn) with _ | kf
  ·
   rw [hFk] at he
   exact .inr ⟨_, he, qK (bX (qK (qP (by rw [hFk] at hM; subst hM; exact ⟨rfl, hB.bad K7 (hff.mono jp)⟩))))⟩
  rw [hFk] at he hM
  obtain ⟨rfl, tt, rfl⟩ := he
  have Kf : Frm [gp] v wf := K7.trans (hff.mono jp) (fun x hx => .inl hx)
  have hPf := hP7.frm hff
  refine .inl ⟨_, rfl, ?_⟩
  refine Ops.st (qJ.storeA rfl rfl zh (hB.at Kf).1.2.2 rfl (cX _ _ _ _ _)) ?_
  rintro we ⟨hbe, hfe, hse⟩
  have Ke := Kf
  have hPe := hPf
  have hke := (RdK.leaf wf (fun x => v.heap.size ≤ x) 1 tt [] 0).le (d' := d + 1) jo
  refine jO (jN (jv1 4 ?_))
  refine jT ?_
  refine qN (qZ (bM ?_))
  refine qB rfl zaf zh (hbe.cells) (by first | rfl | (simp; done) | (simp [*]; done)) ?_
  refine qF ?_
  subst hM
  obtain ⟨r1, r2, r3⟩ := hB.out Ke hPe hA hbe hfe hke
  rw [← hgb] at r2
  refine ⟨r1, _, ?_, r2, r3⟩
  first | rfl | simp
 subst hinv
 rw [if_neg hc11] at hM
 refine jS (jS (jR (je (Run.eqlT rfl rfl) (ja rfl (jO (jN (jv7 2 3 4 6 7 45 64 ?_)))))))
 refine VC.meet (σ := Unit) (fun s => [(2, jI0 gb), (3, jI0 gd), (4, jI0 g4), (6, encStr own), (7, encStr sn), (45, encStr sn), (64, .bool (decide (sn ∈ kUn)))]) (fun s wr => w7 = wr) ?_ ?_
 ·
  refine jD rfl (fun hc12 => ?_) fun hc12 => ?_
  ·
   refine jQ ?_
   refine jN ⟨(), (js7 rfl rfl rfl rfl rfl rfl (jC (by simp [kUn, *]))), ?_⟩
   rfl
  refine jS (jR (je (Run.eqlT rfl rfl) (ja rfl (jO (jN (jv7 2 3 4 6 7 45 64 ?_))))))
  refine VC.meet (σ := Unit) (fun s => [(2, jI0 gb), (3, jI0 gd), (4, jI0 g4), (6, encStr own), (7, encStr sn), (45, encStr sn), (64, .bool (decide (sn ∈ kUn)))]) (fun s wr => w7 = wr) ?_ ?_
  ·
   refine jD rfl (fun hc13 => ?_) fun hc13 => ?_
   ·
    refine jQ ?_
    refine jN ⟨(), (js7 rfl rfl rfl rfl rfl rfl (jC (by simp [kUn, *]))), ?_⟩
    rfl
   refine jS (jR (je (Run.eqlT rfl rfl) (ja rfl (jO (jN (jv7 2 3 4 6 7 45 64 ?_))))))
   refine VC.meet (σ := Unit) (fun s => [(2, jI0 gb), (3, jI0 gd), (4, jI0 g4), (6, encStr own), (7, encStr sn), (45, encStr sn), (64, .bool (decide (sn ∈ kUn)))]) (fun s wr => w7 = wr) ?_ ?_
   ·
    refine jD rfl (fun hc14 => ?_) fun hc14 => ?_
    ·
     refine jQ ?_
     refine jN ⟨(), (js7 rfl rfl rfl rfl rfl rfl (jC (by simp [kUn, *]))), ?_⟩
     rfl
    refine jS (jR (je (Run.eqlT rfl rfl) (ja rfl (jO (jN (jv7 2 3 4 6 7 45 64 ?_))))))
    refine VC.meet (σ := Unit) (fun s => [(2, jI0 gb), (3, jI0 gd), (4, jI0 g4), (6, encStr own), (7, encStr sn), (45, encStr sn), (64, .bool (decide (sn ∈ kUn)))]) (fun s wr => w7 = wr) ?_ ?_
    ·
     refine jD rfl (fun hc15 => ?_) fun hc15 => ?_
     ·
      refine jQ ?_
      refine jN ⟨(), (js7 rfl rfl rfl rfl rfl rfl (jC (by simp [kUn, *]))), ?_⟩
      rfl
     refine jR (je (Run.eqlT rfl rfl) (ja rfl (jO ?_)))
     refine jN ⟨(), (js7 rfl rfl rfl rfl rfl rfl (jC (by simp [kUn, *]))), ?_⟩
     rfl
    intro s wr hinv Γ hΓ
    refine jN ⟨(), (js7 (hΓ.get _ _ rfl) (hΓ.get _ _ rfl) (hΓ.get _ _ rfl) (hΓ.get _ _ rfl) (hΓ.get _ _ rfl) (hΓ.get _ _ rfl) (hΓ.get _ _ rfl)), ?_⟩
    exact hinv
   intro s wr hinv Γ hΓ
   refine jN ⟨(), (js7 (hΓ.get _ _ rfl) (hΓ.get _ _ rfl) (hΓ.get _ _ rfl) (hΓ.get _ _ rfl) (hΓ.get _ _ rfl) (hΓ.get _ _ rfl) (hΓ.get _ _ rfl)), ?_⟩
   exact hinv
  intro s wr hinv Γ hΓ
  refine jN ⟨(), (js7 (hΓ.get _ _ rfl) (hΓ.get _ _ rfl) (hΓ.get _ _ rfl) (hΓ.get _ _ rfl) (hΓ.get _ _ rfl) (hΓ.get _ _ rfl) (hΓ.get _ _ rfl)), ?_⟩
  exact hinv
 intro s wr hinv Γ hΓ
 refine jN (VC.sub _ hΓ ?_)
 refine jD rfl (fun hc16 => ?_) fun hc16 => ?_
 ·
  subst hinv
  rw [if_pos hc16] at hM
  have h2n : 2 ≤ sn.length := by
   simp only [kUn, zab, zag, or_false] at hc16
   rcases hc16 with rfl | rfl | rfl | rfl | rfl <;> decide
  refine jS (jR (jm rfl (je (Run.sliceT 2 sn.length rfl za (evB.some_ rfl) evB.none_ h2n (zt _)) ?_)))
  rw [show (sn.drop 2).take (sn.length - 2) = sn.drop 2 from zy (Nat.le_of_eq (by rw [zbl]))]
  obtain ⟨sd, hsd⟩ : ∃ x, x = sn.drop 2 := ⟨_, rfl⟩
  have hsdl : sd.length ≤ 50000 := by rw [hsd, zbl]; omega
  rw [← hsd] at hM ⊢
  refine je (Run.addT (a := [92]) (b := sd) rfl rfl (by simp; omega)) ?_
  refine Ops.clp (jE1 Tryz.call98) (gA (92 :: sd) w7 (by simp; omega)) rfl ?_
  rintro e wf ⟨hff, he⟩
  rcases hFk : fJ (92 :: sd) with _ | kf
  ·
   rw [hFk] at he
   exact .inr ⟨_, he, qK (bX (qK (qP (by rw [hFk] at hM; subst hM; exact ⟨rfl, hB.bad K7 (hff.mono jp)⟩))))⟩
  rw [hFk] at he hM
  obtain ⟨rfl, tt, rfl⟩ := he
  have Kf : Frm [gp] v wf := K7.trans (hff.mono jp) (fun x hx => .inl hx)
  have hPf := hP7.frm hff
  refine .inl ⟨_, rfl, ?_⟩
  refine jc (jE1 Tryz.call97) (lK 1 (KeC (.mk 1 tt [] 0 [] []) none 0 none 0) (.mk 1 tt [] 0 [] []) wf (fun x => v.heap.size ≤ x) (RdK.leaf _ _ _ _ _ _)) ?_
  rintro _ wn ⟨hfn, csn, rfl, hkn⟩
  refine ⟨_, rfl, ?_⟩
  have Kn : Frm [gp] v wn := Kf.trans (hfn.mono jp) (fun x hx => .inl hx)
  have hPn := hPf.frm hfn
  have hzn := hkn.cells
  have hsn := (hB.at Kf).2.2.2
  have hkn := hkn.mono (B' := fun x => v.heap.size ≤ x) (fun x hx _ => hx.elim id (fun h => jo))
  refine Ops.st (qJ.storeA rfl rfl (by rw [show csn.toArray.size = 6 by simp [hzn.1]]; exact zh) (hB.at Kn).1.2.2 (by simp [hzn.1]; rfl) (by simpa using hzn.2)) ?_
  rintro we ⟨hbe, hfe, hse⟩
  have Ke := Kn
  have hPe := hPn
  have hke := hkn.le (d' := d + 1) jo
  refine jO (jN (jv1 4 ?_))
  refine jT ?_
  refine qN (qZ (bM ?_))
  refine qB rfl zaf zh (hbe.cells) (by first | rfl | (simp; done) | (simp [*]; done)) ?_
  refine qF ?_
  subst hM
  obtain ⟨r1, r2, r3⟩ := hB.out Ke hPe hA hbe hfe hke
  rw [← hgb] at r2
  refine ⟨r1, _, ?_, r2, r3⟩
  first | rfl | simp
 subst hinv
 rw [if_neg hc16] at hM
 refine jS (jR (je (Run.eqlT rfl rfl) (ja rfl (jO (jN (jv7 2 3 4 6 7 45 75 ?_))))))
 refine jD rfl (fun hc17 => ?_) fun hc17 => ?_
 ·
  rw [if_pos hc17] at hM
  refine jS (jR (jl rfl zae ((hB.at K7).1.1.cell 0) ?_))
  refine Ops.m (qH.buildS1 rfl zl zc dH jd jd rfl rfl) rfl ?_
  rintro _ wb ⟨rfl, hFB⟩
  have hKB : Rd wb 1 (some ⟨w7.heap.size, 0, none⟩) 1 (IB [0]) := Rd.of_blk (n := 1) (size := 1) hFB.blk rfl
  have hPb := hP7.frm hFB.frm
  have Kb : Frm [gp] v wb := K7.trans (hFB.frm.mono jp) (fun x hx => .inl hx)
  have hgl := hP7.p.lt
  refine Ops.clp (jE2 zca) (bO (some ⟨w7.heap.size, 0, none⟩) 1 1 [0] gp gc A n c tk (q + 1) cs wb hPb rfl jo hKB (fun _ x hx => by rw [zg.1 hx]; show w7.heap.size ≠ gp; omega)) rfl ?_
  rintro e wc ⟨hfc, he⟩
  rcases hTc : qW tk (q + 1) [0] with _ | tc
  ·
   rw [hTc] at he
   exact .inr ⟨_, he, qK (bX (qK (qP (by rw [hTc] at hM; subst hM; exact ⟨rfl, hB.bad Kb hfc⟩))))⟩
  rw [hTc] at he hM
  obtain ⟨rfl, hPc⟩ := he
  have Kc : Frm [gp] v wc := Kb.trans hfc (fun x hx => .inl hx)
  refine .inl ⟨_, rfl, ?_⟩
  rw [zn] at hM
  refine Ops.clp (jE1 Tryz.call98) (gA (tc) wc (bL hTc hl')) rfl ?_
  rintro e wf ⟨hff, he⟩
  rcases hFk : fJ (tc) with _ | kf
  ·
   rw [hFk] at he
   exact .inr ⟨_, he, qK (bX (qK (qP (by rw [hFk] at hM; subst hM; exact ⟨rfl, hB.bad Kc (hff.mono jp)⟩))))⟩
  rw [hFk] at he hM
  obtain ⟨rfl, tt, rfl⟩ := he
  have Kf : Frm [gp] v wf := Kc.trans (hff.mono jp) (fun x hx => .inl hx)
  have hPf := hPc.frm hff
  refine .inl ⟨_, rfl, ?_⟩
  refine Ops.st (qJ.storeA rfl rfl zh (hB.at Kf).1.2.2 rfl (cX _ _ _ _ _)) ?_
  rintro we ⟨hbe, hfe, hse⟩
  have Ke := Kf
  have hPe := hPf
  have hke := (RdK.leaf wf (fun x => v.heap.size ≤ x) 1 tt [] 0).le (d' := d + 1) jo
  refine jO (jN (jv1 4 ?_))
  refine jT ?_
  refine qN (qZ (bM ?_))
  refine qB rfl zaf zh (hbe.cells) (by first | rfl | (simp; done) | (simp [*]; done)) ?_
  refine qF ?_
  subst hM
  obtain ⟨r1, r2, r3⟩ := hB.out Ke hPe hA hbe hfe hke
  rw [← hgb] at r2
  refine ⟨r1, _, ?_, r2, r3⟩
  first | rfl | simp
 rw [if_neg hc17] at hM
 refine jS (jR (je (Run.eqlT rfl rfl) (ja rfl (jO (jN (jv7 2 3 4 6 7 45 81 ?_))))))
 refine jD rfl (fun hc18 => ?_) fun hc18 => ?_
 ·
  rw [if_pos hc18] at hM
  refine jS (jR (jl rfl zae ((hB.at K7).1.1.cell 0) ?_))
  refine Ops.m (qH.buildS1 rfl zl zc dH jd jd rfl rfl) rfl ?_
  rintro _ wb ⟨rfl, hFB⟩
  have hKB : Rd wb 1 (some ⟨w7.heap.size, 0, none⟩) 1 (IB [0]) := Rd.of_blk (n := 1) (size := 1) hFB.blk rfl
  have hPb := hP7.frm hFB.frm
  have Kb : Frm [gp] v wb := K7.trans (hFB.frm.mono jp) (fun x hx => .inl hx)
  have hgl := hP7.p.lt
  refine Ops.clp (jE2 zca) (bO (some ⟨w7.heap.size, 0, none⟩) 1 1 [0] gp gc A n c tk (q + 1) cs wb hPb rfl jo hKB (fun _ x hx => by rw [zg.1 hx]; show w7.heap.size ≠ gp; omega)) rfl ?_
  rintro e wc ⟨hfc, he⟩
  rcases hTc : qW tk (q + 1) [0] with _ | tc
  ·
   rw [hTc] at he
   exact .inr ⟨_, he, qK (bX (qK (qP (by rw [hTc] at hM; subst hM; exact ⟨rfl, hB.bad Kb hfc⟩))))⟩
  rw [hTc] at he hM
  obtain ⟨rfl, hPc⟩ := he
  have Kc : Frm [gp] v wc := Kb.trans hfc (fun x hx => .inl hx)
  refine .inl ⟨_, rfl, ?_⟩
  rw [zn] at hM
  refine Ops.clp (jE1 Tryz.call98) (gA (tc) wc (bL hTc hl')) rfl ?_
  rintro e wf ⟨hff, he⟩
  rcases hFk : fJ (tc) with _ | kf
  ·
   rw [hFk] at he
   exact .inr ⟨_, he, qK (bX (qK (qP (by rw [hFk] at hM; subst hM; exact ⟨rfl, hB.bad Kc (hff.mono jp)⟩))))⟩
  rw [hFk] at he hM
  obtain ⟨rfl, tt, rfl⟩ := he
  have Kf : Frm [gp] v wf := Kc.trans (hff.mono jp) (fun x hx => .inl hx)
  have hPf := hPc.frm hff
  refine .inl ⟨_, rfl, ?_⟩
  refine jc (jE1 Tryz.call97) (lK 1 (KeC (.mk 1 tt [] 0 [] []) none 0 none 0) (.mk 1 tt [] 0 [] []) wf (fun x => v.heap.size ≤ x) (RdK.leaf _ _ _ _ _ _)) ?_
  rintro _ wn ⟨hfn, csn, rfl, hkn⟩
  refine ⟨_, rfl, ?_⟩
  have Kn : Frm [gp] v wn := Kf.trans (hfn.mono jp) (fun x hx => .inl hx)
  have hPn := hPf.frm hfn
  have hzn := hkn.cells
  have hsn := (hB.at Kf).2.2.2
  have hkn := hkn.mono (B' := fun x => v.heap.size ≤ x) (fun x hx _ => hx.elim id (fun h => jo))
  refine Ops.st (qJ.storeA rfl rfl (by rw [show csn.toArray.size = 6 by simp [hzn.1]]; exact zh) (hB.at Kn).1.2.2 (by simp [hzn.1]; rfl) (by simpa using hzn.2)) ?_
  rintro we ⟨hbe, hfe, hse⟩
  have Ke := Kn
  have hPe := hPn
  have hke := hkn.le (d' := d + 1) jo
  refine jO (jN (jv1 4 ?_))
  refine jT ?_
  refine qN (qZ (bM ?_))
  refine qB rfl zaf zh (hbe.cells) (by first | rfl | (simp; done) | (simp [*]; done)) ?_
  refine qF ?_
  subst hM
  obtain ⟨r1, r2, r3⟩ := hB.out Ke hPe hA hbe hfe hke
  rw [← hgb] at r2
  refine ⟨r1, _, ?_, r2, r3⟩
  first | rfl | simp
 rw [if_neg hc18] at hM
 refine jS (jS (jR (je (Run.eqlT rfl rfl) (ja rfl (jO (jN (jv7 2 3 4 6 7 45 88 ?_)))))))
 refine VC.meet (σ := Unit) (fun s => [(2, jI0 gb), (3, jI0 gd), (4, jI0 g4), (6, encStr own), (7, encStr sn), (45, encStr sn), (88, .bool (decide (sn ∈ kSz)))]) (fun s wr => w7 = wr) ?_ ?_
 ·
  refine jD rfl (fun hc19 => ?_) fun hc19 => ?_
  ·
   refine jQ ?_
   refine jN ⟨(), (js7 rfl rfl rfl rfl rfl rfl (jC (by simp [kSz, *]))), ?_⟩
   rfl
  refine jR (je (Run.eqlT rfl rfl) (ja rfl (jO ?_)))
  refine jN ⟨(), (js7 rfl rfl rfl rfl rfl rfl (jC (by simp [kSz, *]))), ?_⟩
  rfl
 intro s wr hinv Γ hΓ
 refine jN (VC.sub _ hΓ ?_)
 refine jD rfl (fun hc20 => ?_) fun hc20 => ?_
 ·
  subst hinv
  rw [if_pos hc20] at hM
  refine jS (jR (jl rfl zae ((hB.at K7).1.1.cell 0) ?_))
  refine Ops.m (qH.buildS1 rfl zl zc dH jd jd rfl rfl) rfl ?_
  rintro _ wb ⟨rfl, hFB⟩
  have hKB : Rd wb 1 (some ⟨w7.heap.size, 0, none⟩) 1 (IB [0]) := Rd.of_blk (n := 1) (size := 1) hFB.blk rfl
  have hPb := hP7.frm hFB.frm
  have Kb : Frm [gp] v wb := K7.trans (hFB.frm.mono jp) (fun x hx => .inl hx)
  have hgl := hP7.p.lt
  refine Ops.clp (jE2 zca) (bO (some ⟨w7.heap.size, 0, none⟩) 1 1 [0] gp gc A n c tk (q + 1) cs wb hPb rfl jo hKB (fun _ x hx => by rw [zg.1 hx]; show w7.heap.size ≠ gp; omega)) rfl ?_
  rintro e wc ⟨hfc, he⟩
  rcases hTc : qW tk (q + 1) [0] with _ | tc
  ·
   rw [hTc] at he
   exact .inr ⟨_, he, qK (bX (qK (qP (by rw [hTc] at hM; subst hM; exact ⟨rfl, hB.bad Kb hfc⟩))))⟩
  rw [hTc] at he hM
  obtain ⟨rfl, hPc⟩ := he
  have Kc : Frm [gp] v wc := Kb.trans hfc (fun x hx => .inl hx)
  refine .inl ⟨_, rfl, ?_⟩
  rw [zn] at hM
  refine jc (jE1 Tryz.call99) (nY tc wc (bL hTc hl') (hB.at Kc).2.1) ?_
  rintro _ wd ⟨rfl, hfd⟩
  refine ⟨_, rfl, ?_⟩
  have Kd : Frm [gp] v wd := Kc.trans (hfd.mono jp) (fun x hx => .inl hx)
  have hPd := hPc.frm hfd
  refine ja rfl (jO (jN (jv3 4 7 11 ?_)))
  refine jS (jR (jm rfl (jb rfl rfl (Bin.geq _ 0) ?_)))
  refine Ops.clp (jE1 zbb) (bZ (decide (0 ≤ gN tc)) wd) rfl ?_
  rintro e _ ⟨rfl, he⟩
  by_cases hnc : 0 ≤ gN tc
  rotate_left
  ·
   rw [decide_eq_false hnc] at he
   exact .inr ⟨_, he, qK (bX (qK (qP (by rw [if_neg hnc] at hM; subst hM; exact ⟨rfl, hB.bad Kd (Frm.refl _ _)⟩))))⟩
  rw [decide_eq_true hnc] at he
  rw [if_pos hnc] at hM
  refine .inl ⟨_, he, ?_⟩
  refine jO (jN (jv3 4 7 11 ?_))
  refine jS (jR (jm rfl (je (Run.lenT rfl za) (jb rfl rfl (Bin.add_i64 8 _ jo) (jb rfl rfl (Bin.sub_i64 _ 6 jo jo) (jm rfl (je (Run.build (evs.cons rfl (evs.cons rfl evs.nil)) bU (bQ).choose_spec.1 (bQ).choose_spec.2 (cells := (KeC (.mk ((8 + sn.length - 6 : Nat) : Int) [] [] (gN tc) [] []) none 0 none 0).toArray) rfl) ?_)))))))
  refine Ops.st (qJ.storeA rfl rfl zh (hB.at Kd).1.2.2 rfl (cX _ _ _ _ _)) ?_
  rintro we ⟨hbe, hfe, hse⟩
  have Ke := Kd
  have hPe := hPd
  have hke := (RdK.leaf wd (fun x => v.heap.size ≤ x) ((8 + sn.length - 6 : Nat) : Int) [] [] (gN tc)).le (d' := d + 1) jo
  refine jO (jN (jv1 4 ?_))
  refine jT ?_
  refine qN (qZ (bM ?_))
  refine qB rfl zaf zh (hbe.cells) (by first | rfl | (simp; done) | (simp [*]; done)) ?_
  refine qF ?_
  subst hM
  obtain ⟨r1, r2, r3⟩ := hB.out Ke hPe hA hbe hfe hke
  rw [← hgb] at r2
  refine ⟨r1, _, ?_, r2, r3⟩
  first | rfl | simp
 subst hinv
 rw [if_neg hc20] at hM
 refine jS (jS (jR (je (Run.eqlT rfl rfl) (ja rfl (jO (jN (jv7 2 3 4 6 7 45 104 ?_)))))))
 refine VC.meet (σ := Unit) (fun s => [(2, jI0 gb), (3, jI0 gd), (4, jI0 g4), (6, encStr own), (7, encStr sn), (45, encStr sn), (104, .bool (decide (sn ∈ kHd)))]) (fun s wr => w7 = wr) ?_ ?_
 ·
  refine jD rfl (fun hc21 => ?_) fun hc21 => ?_
  ·
   refine jQ ?_
   refine jN ⟨(), (js7 rfl rfl rfl rfl rfl rfl (jC (by simp [kHd, *]))), ?_⟩
   rfl
  refine jS (jR (je (Run.eqlT rfl rfl) (ja rfl (jO (jN (jv7 2 3 4 6 7 45 104 ?_))))))
  refine VC.meet (σ := Unit) (fun s => [(2, jI0 gb), (3, jI0 gd), (4, jI0 g4), (6, encStr own), (7, encStr sn), (45, encStr sn), (104, .bool (decide (sn ∈ kHd)))]) (fun s wr => w7 = wr) ?_ ?_
  ·
   refine jD rfl (fun hc22 => ?_) fun hc22 => ?_
   ·
    refine jQ ?_
    refine jN ⟨(), (js7 rfl rfl rfl rfl rfl rfl (jC (by simp [kHd, *]))), ?_⟩
    rfl
   refine jS (jR (je (Run.eqlT rfl rfl) (ja rfl (jO (jN (jv7 2 3 4 6 7 45 104 ?_))))))
   refine VC.meet (σ := Unit) (fun s => [(2, jI0 gb), (3, jI0 gd), (4, jI0 g4), (6, encStr own), (7, encStr sn), (45, encStr sn), (104, .bool (decide (sn ∈ kHd)))]) (fun s wr => w7 = wr) ?_ ?_
   ·
    refine jD rfl (fun hc23 => ?_) fun hc23 => ?_
    ·
     refine jQ ?_
     refine jN ⟨(), (js7 rfl rfl rfl rfl rfl rfl (jC (by simp [kHd, *]))), ?_⟩
     rfl
    refine jS (jR (je (Run.eqlT rfl rfl) (ja rfl (jO (jN (jv7 2 3 4 6 7 45 104 ?_))))))
    refine VC.meet (σ := Unit) (fun s => [(2, jI0 gb), (3, jI0 gd), (4, jI0 g4), (6, encStr own), (7, encStr sn), (45, encStr sn), (104, .bool (decide (sn ∈ kHd)))]) (fun s wr => w7 = wr) ?_ ?_
    ·
     refine jD rfl (fun hc24 => ?_) fun hc24 => ?_
     ·
      refine jQ ?_
      refine jN ⟨(), (js7 rfl rfl rfl rfl rfl rfl (jC (by simp [kHd, *]))), ?_⟩
      rfl
     refine jR (je (Run.eqlT rfl rfl) (ja rfl (jO ?_)))
     refine jN ⟨(), (js7 rfl rfl rfl rfl rfl rfl (jC (by simp [kHd, *]))), ?_⟩
     rfl
    intro s wr hinv Γ hΓ
    refine jN ⟨(), (js7 (hΓ.get _ _ rfl) (hΓ.get _ _ rfl) (hΓ.get _ _ rfl) (hΓ.get _ _ rfl) (hΓ.get _ _ rfl) (hΓ.get _ _ rfl) (hΓ.get _ _ rfl)), ?_⟩
    exact hinv
   intro s wr hinv Γ hΓ
   refine jN ⟨(), (js7 (hΓ.get _ _ rfl) (hΓ.get _ _ rfl) (hΓ.get _ _ rfl) (hΓ.get _ _ rfl) (hΓ.get _ _ rfl) (hΓ.get _ _ rfl) (hΓ.get _ _ rfl)), ?_⟩
   exact hinv
  intro s wr hinv Γ hΓ
  refine jN ⟨(), (js7 (hΓ.get _ _ rfl) (hΓ.get _ _ rfl) (hΓ.get _ _ rfl) (hΓ.get _ _ rfl) (hΓ.get _ _ rfl) (hΓ.get _ _ rfl) (hΓ.get _ _ rfl)), ?_⟩
  exact hinv
 intro s wr hinv Γ hΓ
 refine jN (VC.sub _ hΓ ?_)
 refine jD rfl (fun hc25 => ?_) fun hc25 => ?_
 ·
  subst hinv
  rw [if_pos hc25] at hM
  refine jS (jR (jm rfl (jl rfl zae ((hB.at K7).1.1.cell 0) ?_)))
  refine Ops.clp (jE1 zcp) (cC gp gc A n c tk (q + 1) cs w7 hP7) rfl ?_
  rintro e w8 ⟨hfw8, he⟩
  rcases hT8 : qW tk (q + 1) [0, 1] with _ | tx
  ·
   rw [hT8] at he
   exact .inr ⟨_, he, qK (bX (qK (qP (by rw [hT8] at hM; subst hM; exact ⟨rfl, hB.bad K7 hfw8⟩))))⟩
  rw [hT8] at he hM
  obtain ⟨rfl, hP8⟩ := he
  have K8 : Frm [gp] v w8 := K7.trans hfw8 (fun x hx => .inl hx)
  refine .inl ⟨_, rfl, ?_⟩
  refine je (Run.build (evs.cons rfl (evs.cons rfl (evs.cons rfl evs.nil))) bU (bQ).choose_spec.1 (bQ).choose_spec.2 (cells := (KeC (.mk 10 sn tx 0 [] []) none 0 none 0).toArray) rfl) ?_
  refine Ops.st (qJ.storeA rfl rfl zh (hB.at K8).1.2.2 rfl (cX _ _ _ _ _)) ?_
  rintro we ⟨hbe, hfe, hse⟩
  have Ke := K8
  have hPe := hP8
  have hke := (RdK.leaf w8 (fun x => v.heap.size ≤ x) 10 sn tx 0).le (d' := d + 1) jo
  refine jO (jN (jv1 4 ?_))
  refine jT ?_
  refine qN (qZ (bM ?_))
  refine qB rfl zaf zh (hbe.cells) (by first | rfl | (simp; done) | (simp [*]; done)) ?_
  refine qF ?_
  subst hM
  obtain ⟨r1, r2, r3⟩ := hB.out Ke hPe hA hbe hfe hke
  rw [← hgb] at r2
  refine ⟨r1, _, ?_, r2, r3⟩
  first | rfl | simp
 subst hinv
 rw [if_neg hc25] at hM
 refine jS (jR (je (Run.eqlT rfl rfl) (ja rfl (jO (jN (jv6 2 3 4 6 45 114 ?_))))))
 refine jD rfl (fun hc26 => ?_) fun hc26 => ?_
 ·
  rw [if_pos hc26] at hM
  refine jS ?_
  refine VC.heldL 5 (fun V => V.cell? ⟨gb, 0, none⟩ = some (jI0 gp)) jK ?_
  have hd7 := (qL.drew w7).frm
  have Kd7 : Frm [gp] v w7.drew := K7.trans (hd7.mono jp) (fun x hx => .inl hx)
  have hPd7 := hP7.frm hd7
  have hS := (hB.at Kd7).1.1.cell 0
  refine jH 0 rfl hS (fun w0 hw0 => Run.load rfl zae hw0) ?_
  refine jH 2 rfl hS (fun w0 hw0 => Run.load rfl zae hw0) ?_
  refine qQ.clp 1 rfl jK (jE1 zcp) (cC gp gc A n c tk (q + 1) cs _ hPd7) trivial rfl rfl ?_
  rintro e w8 ⟨hfw8, he⟩
  rcases hT8 : qW tk (q + 1) [0, 1] with _ | tx
  ·
   rw [hT8] at he
   exact .inr ⟨_, he, qK (bX (qK (qP (by rw [hT8] at hM; subst hM; exact ⟨rfl, hB.bad Kd7 hfw8⟩))))⟩
  rw [hT8] at he hM
  obtain ⟨rfl, hP8⟩ := he
  have K8 : Frm [gp] v w8 := Kd7.trans hfw8 (fun x hx => .inl hx)
  rw [zn] at hM
  have hS := (hB.at K8).1.1.cell 0
  refine .inl ⟨_, rfl, hS, ?_⟩
  refine qQ.clp 3 rfl jK (jE1 zcp) (cC gp gc A n c tk (q + 1 + 1) cs _ hP8) trivial rfl rfl ?_
  rintro e w9 ⟨hfw9, he⟩
  rcases hT9 : qW tk (q + 1 + 1) [0, 1] with _ | ty
  ·
   rw [hT9] at he
   exact .inr ⟨_, he, qK (bX (qK (qP (by rw [hT9] at hM; subst hM; exact ⟨rfl, hB.bad K8 hfw9⟩))))⟩
  rw [hT9] at he hM
  obtain ⟨rfl, hP9⟩ := he
  have K9 : Frm [gp] v w9 := K8.trans hfw9 (fun x hx => .inl hx)
  have hS := (hB.at K9).1.1.cell 0
  refine .inl ⟨_, rfl, hS, ?_⟩
  refine qQ.r1 4 rfl jK hS (Run.build (evs.cons rfl (evs.cons rfl (evs.cons rfl evs.nil))) bU (bQ).choose_spec.1 (bQ).choose_spec.2 (cells := (KeC (.mk 10 tx ty 0 [] []) none 0 none 0).toArray) rfl) trivial rfl rfl ?_
  refine qQ.stL rfl jK (qJ.storeA rfl rfl zh (hB.at K9).1.2.2 rfl (cX _ _ _ _ _)) trivial rfl ?_
  rintro we ⟨hbe, hfe, hse⟩
  have Ke := K9
  have hPe := hP9
  have hke := (RdK.leaf w9 (fun x => v.heap.size ≤ x) 10 tx ty 0).le (d' := d + 1) jo
  refine qQ.done jK ?_
  refine jN (jv1 4 ?_)
  refine jT ?_
  refine qN (qZ (bM ?_))
  refine qB rfl zaf zh (hbe.cells) (by first | rfl | (simp; done) | (simp [*]; done)) ?_
  refine qF ?_
  subst hM
  obtain ⟨r1, r2, r3⟩ := hB.out Ke hPe hA hbe hfe hke
  rw [← hgb] at r2
  refine ⟨r1, _, ?_, r2, r3⟩
  first | rfl | simp
 rw [if_neg hc26] at hM
 refine jS (jR (je (Run.eqlT rfl rfl) (ja rfl (jO (jN (jv6 2 3 4 6 45 121 ?_))))))
 refine jD rfl (fun hc27 => ?_) fun hc27 => ?_
 ·
  rw [if_pos hc27] at hM
  refine jS (jR (jl rfl zae ((hB.at K7).1.1.cell 0) ?_))
  refine Ops.clp (jE1 zcp) (cC gp gc A n c tk (q + 1) cs w7 hP7) rfl ?_
  rintro e w8 ⟨hfw8, he⟩
  rcases hT8 : qW tk (q + 1) [0, 1] with _ | tx
  ·
   rw [hT8] at he
   exact .inr ⟨_, he, qK (bX (qK (qP (by rw [hT8] at hM; subst hM; exact ⟨rfl, hB.bad K7 hfw8⟩))))⟩
  rw [hT8] at he hM
  obtain ⟨rfl, hP8⟩ := he
  have K8 : Frm [gp] v w8 := K7.trans hfw8 (fun x hx => .inl hx)
  refine .inl ⟨_, rfl, ?_⟩
  refine je (Run.build (evs.cons rfl (evs.cons rfl evs.nil)) bU (bQ).choose_spec.1 (bQ).choose_spec.2 (cells := (KeC (.mk 11 tx [] 0 [] []) none 0 none 0).toArray) rfl) ?_
  refine Ops.st (qJ.storeA rfl rfl zh (hB.at K8).1.2.2 rfl (cX _ _ _ _ _)) ?_
  rintro we ⟨hbe, hfe, hse⟩
  have Ke := K8
  have hPe := hP8
  have hke := (RdK.leaf w8 (fun x => v.heap.size ≤ x) 11 tx [] 0).le (d' := d + 1) jo
  refine jO (jN (jv1 4 ?_))
  refine jT ?_
  refine qN (qZ (bM ?_))
  refine qB rfl zaf zh (hbe.cells) (by first | rfl | (simp; done) | (simp [*]; done)) ?_
  refine qF ?_
  subst hM
  obtain ⟨r1, r2, r3⟩ := hB.out Ke hPe hA hbe hfe hke
  rw [← hgb] at r2
  refine ⟨r1, _, ?_, r2, r3⟩
  first | rfl | simp
 rw [if_neg hc27] at hM
 refine jS (jR (je (Run.eqlT rfl rfl) (ja rfl (jO (jN (jv6 2 3 4 6 45 126 ?_))))))
 refine jD rfl (fun hc28 => ?_) fun hc28 => ?_
 ·
  rw [if_pos hc28] at hM
  refine jS (jR (jl rfl zae ((hB.at K7).1.1.cell 0) ?_))
  refine Ops.clp (jE1 zcp) (cC gp gc A n c tk (q + 1) cs w7 hP7) rfl ?_
  rintro e w8 ⟨hfw8, he⟩
  rcases hT8 : qW tk (q + 1) [0, 1] with _ | tx
  ·
   rw [hT8] at he
   exact .inr ⟨_, he, qK (bX (qK (qP (by rw [hT8] at hM; subst hM; exact ⟨rfl, hB.bad K7 hfw8⟩))))⟩
  rw [hT8] at he hM
  obtain ⟨rfl, hP8⟩ := he
  have K8 : Frm [gp] v w8 := K7.trans hfw8 (fun x hx => .inl hx)
  refine .inl ⟨_, rfl, ?_⟩
  refine je (Run.build (evs.cons rfl (evs.cons rfl evs.nil)) bU (bQ).choose_spec.1 (bQ).choose_spec.2 (cells := (KeC (.mk 12 tx [] 0 [] []) none 0 none 0).toArray) rfl) ?_
  refine Ops.st (qJ.storeA rfl rfl zh (hB.at K8).1.2.2 rfl (cX _ _ _ _ _)) ?_
  rintro we ⟨hbe, hfe, hse⟩
  have Ke := K8
  have hPe := hP8
  have hke := (RdK.leaf w8 (fun x => v.heap.size ≤ x) 12 tx [] 0).le (d' := d + 1) jo
  refine jO (jN (jv1 4 ?_))
  refine jT ?_
  refine qN (qZ (bM ?_))
  refine qB rfl zaf zh (hbe.cells) (by first | rfl | (simp; done) | (simp [*]; done)) ?_
  refine qF ?_
  subst hM
  obtain ⟨r1, r2, r3⟩ := hB.out Ke hPe hA hbe hfe hke
  rw [← hgb] at r2
  refine ⟨r1, _, ?_, r2, r3⟩
  first | rfl | simp
 rw [if_neg hc28] at hM
 refine jS (jR (je (Run.eqlT rfl rfl) (ja rfl (jO (jN (jv6 2 3 4 6 45 131 ?_))))))
 refine jD rfl (fun hc29 => ?_) fun hc29 => ?_
 ·
  rw [if_pos hc29] at hM
  refine jS (jR (jl rfl zae ((hB.at K7).1.1.cell 0) ?_))
  refine Ops.clp (jE1 Tryz.call69) (hZ gp gc A n c tk (q + 1) cs w7 hP7 hl') rfl ?_
  rintro e w8 ⟨hf8, he⟩
  rcases hS8 : dF tk (q + 1) with _ | sp
  ·
   rw [hS8] at he hM
   exact .inr ⟨_, he, qK (bX (qK (qP (by subst hM; exact ⟨rfl, hB.bad K7 hf8⟩))))⟩
  rw [hS8] at he hM
  obtain ⟨SA, sc, rfl, hP8, hoS, hSu⟩ := he
  have K8 : Frm [gp] v w8 := K7.trans hf8 (fun x hx => .inl hx)
  have hs7 := (hB.at K7).2.2.2
  refine .inl ⟨_, rfl, ?_⟩
  refine je (Run.build (evs.cons rfl (evs.cons rfl evs.nil)) bU (bQ).choose_spec.1 (bQ).choose_spec.2 (cells := (KeC (.mk 13 [] [] 0 sp []) SA sc none 0).toArray) rfl) ?_
  refine Ops.st (qJ.storeA rfl rfl zh (hB.at K8).1.2.2 rfl (cX _ _ _ _ _)) ?_
  rintro we ⟨hbe, hfe, hse⟩
  have Ke := K8
  have hPe := hP8
  have hke := (RdK.spans (B := fun x => v.heap.size ≤ x) 13 [] [] 0 hoS (fun x hx => by have := hSu x hx; omega)).le (d' := d + 1) jo
  refine jO (jN (jv1 4 ?_))
  refine jT ?_
  refine qN (qZ (bM ?_))
  refine qB rfl zaf zh (hbe.cells) (by first | rfl | (simp; done) | (simp [*]; done)) ?_
  refine qF ?_
  subst hM
  obtain ⟨r1, r2, r3⟩ := hB.out Ke hPe hA hbe hfe hke
  rw [← hgb] at r2
  refine ⟨r1, _, ?_, r2, r3⟩
  first | rfl | simp
 rw [if_neg hc29] at hM
 refine jS (jR (je (Run.eqlT rfl rfl) (ja rfl (jO (jN (jv6 2 3 4 6 45 136 ?_))))))
 refine jD rfl (fun hc30 => ?_) fun hc30 => ?_
 ·
  rw [if_pos hc30] at hM
  refine jS (jR (jl rfl zae ((hB.at K7).1.1.cell 0) (jl rfl zi ((hB.at K7).1.2.1.cell 0) (jb rfl rfl (Bin.add_i64 _ 1 jo) ?_))))
  refine Ops.clp (jE2 Tryz.call67) (hkey gp gc A n c (q + 1) cs w7 hP7 (fun h0 x hx => zaw (hAv h0 x hx) (hB.at K7).2.2.2) (hB.at K7).2.1) rfl ?_
  rintro e w8 he
  rcases hR : R (q + 1) with _ | ⟨k1, q2⟩
  ·
   rw [hR] at he hM
   exact .inr ⟨_, he.1, qK (bX (qK (qP (by subst hM; exact ⟨rfl, ((hB.at K7).2.2.1.mono jp).trans he.2 (fun x hx => .inl hx)⟩))))⟩
  rw [hR] at he hM
  obtain ⟨hf8, cs1, rfl, hk1, hP8⟩ := he
  have K8 : Frm [gp] v w8 := K7.trans hf8 (fun x hx => .inl hx)
  have hs7 := (hB.at K7).2.2.2
  have hk1 := hk1.mono (B' := fun x => v.heap.size ≤ x) (fun x hx _ => jo)
  refine .inl ⟨_, rfl, ?_⟩
  refine jc (jE1 Tryz.call97) (lK d cs1 k1 w8 (fun x => v.heap.size ≤ x) hk1) ?_
  rintro _ wn ⟨hfn, csn, rfl, hkn⟩
  refine ⟨_, rfl, ?_⟩
  have Kn : Frm [gp] v wn := K8.trans (hfn.mono jp) (fun x hx => .inl hx)
  have hPn := hP8.frm hfn
  have hzn := hkn.cells
  have hsn := (hB.at K8).2.2.2
  have hkn := hkn.mono (B' := fun x => v.heap.size ≤ x) (fun x hx _ => hx.elim id (fun h => jo))
  refine Ops.st (qJ.storeA rfl rfl (by rw [show csn.toArray.size = 6 by simp [hzn.1]]; exact zh) (hB.at Kn).1.2.2 (by simp [hzn.1]; rfl) (by simpa using hzn.2)) ?_
  rintro we ⟨hbe, hfe, hse⟩
  have Ke := Kn
  have hPe := hPn
  have hke := hkn.le (d' := d + 1) jo
  refine jO (jN (jv1 4 ?_))
  refine jT ?_
  refine qN (qZ (bM ?_))
  refine qB rfl zaf zh (hbe.cells) (by first | rfl | (simp; done) | (simp [*]; done)) ?_
  refine qF ?_
  subst hM
  obtain ⟨r1, r2, r3⟩ := hB.out Ke hPe hA hbe hfe hke
  rw [← hgb] at r2
  refine ⟨r1, _, ?_, r2, r3⟩
  first | rfl | simp
 rw [if_neg hc30] at hM
 refine jS (jR (je (Run.eqlT rfl rfl) (ja rfl (jO (jN (jv5 2 3 4 6 143 ?_))))))
 refine jD rfl (fun hc31 => ?_) fun hc31 => ?_
 ·
  rw [if_pos hc31] at hM
  refine jS ?_
  refine VC.heldL 10 (fun V => V.cell? ⟨gb, 0, none⟩ = some (jI0 gp) ∧ V.cell? ⟨gd, 0, none⟩ = some (jI1 deep)) jK ?_
  have hd7 := (qL.drew w7).frm
  have Kd7 : Frm [gp] v w7.drew := K7.trans (hd7.mono jp) (fun x hx => .inl hx)
  have hPd7 := hP7.frm hd7
  have hS := And.intro ((hB.at Kd7).1.1.cell 0) ((hB.at Kd7).1.2.1.cell 0)
  refine jH 0 rfl hS (fun w0 hw0 => Run.load rfl zae hw0.1) ?_
  refine jH 1 rfl hS (fun w0 hw0 => Run.load rfl zi hw0.2) ?_
  refine jH 2 rfl hS (fun w0 hw0 => Run.bin rfl rfl (Bin.add_i64 _ 1 jo)) ?_
  refine jH 4 rfl hS (fun w0 hw0 => Run.load rfl zae hw0.1) ?_
  refine jH 5 rfl hS (fun w0 hw0 => Run.load rfl zi hw0.2) ?_
  refine jH 6 rfl hS (fun w0 hw0 => Run.bin rfl rfl (Bin.add_i64 _ 1 jo)) ?_
  refine qQ.clp 3 rfl jK (jE2 Tryz.call67) (hkey gp gc A n c (q + 1) cs _ hPd7 (fun h0 x hx => zaw (hAv h0 x hx) (hB.at Kd7).2.2.2) (hB.at Kd7).2.1) trivial rfl rfl ?_
  rintro e w8 he
  rcases hR : R (q + 1) with _ | ⟨k1, q2⟩
  ·
   rw [hR] at he hM
   exact .inr ⟨_, he.1, qK (bX (qK (qP (by subst hM; exact ⟨rfl, ((hB.at Kd7).2.2.1.mono jp).trans he.2 (fun x hx => .inl hx)⟩))))⟩
  rw [hR] at he hM
  rw [zn] at hM
  obtain ⟨hf8, cs1, rfl, hk1, hP8⟩ := he
  have K8 : Frm [gp] v w8 := Kd7.trans hf8 (fun x hx => .inl hx)
  have hs7 := (hB.at Kd7).2.2.2
  have hk1 := hk1.mono (B' := fun x => v.heap.size ≤ x) (fun x hx _ => jo)
  have hS := And.intro ((hB.at K8).1.1.cell 0) ((hB.at K8).1.2.1.cell 0)
  refine .inl ⟨_, rfl, hS, ?_⟩
  refine qQ.clp 7 rfl jK (jE2 Tryz.call67) (hkey gp gc A n c q2 cs w8 hP8 (fun h0 x hx => zaw (hAv h0 x hx) (hB.at K8).2.2.2) (hB.at K8).2.1) trivial rfl rfl ?_
  rintro e w9 he
  rcases hR2 : R q2 with _ | ⟨k2, q3⟩
  ·
   dsimp only at hM
   rw [hR2] at he hM
   exact .inr ⟨_, he.1, qK (bX (qK (qP (by subst hM; exact ⟨rfl, ((hB.at K8).2.2.1.mono jp).trans he.2 (fun x hx => .inl hx)⟩))))⟩
  dsimp only at hM
  rw [hR2] at he hM
  obtain ⟨hf9, cs2, rfl, hk2, hP9⟩ := he
  have K9 : Frm [gp] v w9 := K8.trans hf9 (fun x hx => .inl hx)
  have hs8 := (hB.at K8).2.2.2
  have hk2 := hk2.mono (B' := fun x => v.heap.size ≤ x) (fun x hx _ => jo)
  have hgpv : gp < v.heap.size := by have := hB.lt; have := hB.fr.size; omega
  have hk1 := hk1.frm hf9 (fun x hx hb => by simp at hx; omega)
  obtain ⟨a0, a1, a2, a3, a4, a5, rfl⟩ := six hk1.cells.1
  obtain ⟨c0, c1, c2, c3, c4, c5, rfl⟩ := six hk2.cells.1
  have hS := And.intro ((hB.at K9).1.1.cell 0) ((hB.at K9).1.2.1.cell 0)
  refine .inl ⟨_, rfl, hS, ?_⟩
  refine qQ.m 8 rfl jK (qH.buildN (cells := #[a0, a1, a2, a3, a4, a5, c0, c1, c2, c3, c4, c5]) (evs.cons rfl (evs.cons rfl evs.nil)) zah zh bU rfl rfl jK) trivial rfl rfl ?_
  rintro _ w10 ⟨rfl, hF10⟩
  have b10 : Blk w10 w9.heap.size 30 #[a0, a1, a2, a3, a4, a5, c0, c1, c2, c3, c4, c5] := hF10.blk
  have hs9 := (hB.at K9).2.2.2
  have K10 : Frm [gp] v w10 := K9.trans (hF10.frm.mono jp) (fun x hx => .inl hx)
  have hP10 := hP9.frm hF10.frm
  have hk1 := hk1.frm hF10.frm jp
  have hk2 := hk2.frm hF10.frm jp
  have hoL : Own w10 30 6 (some ⟨w9.heap.size, 0, none⟩) 2 2 [[a0, a1, a2, a3, a4, a5], [c0, c1, c2, c3, c4, c5]].flatten := Own.of_blk (n := 2) (size := 6) b10 rfl jd
  have hS := And.intro ((hB.at K10).1.1.cell 0) ((hB.at K10).1.2.1.cell 0)
  refine ⟨hS, ?_⟩
  refine qQ.r1 9 rfl jK hS (Run.build (evs.cons rfl (evs.cons rfl evs.nil)) bU (bQ).choose_spec.1 (bQ).choose_spec.2 (cells := (KeC (.mk 16 [] [] 0 [] [k1, k2]) none 0 (some ⟨w9.heap.size, 0, none⟩) 2).toArray) rfl) trivial rfl rfl ?_
  refine qQ.stL rfl jK (qJ.storeA rfl rfl zh (hB.at K10).1.2.2 rfl (cX _ _ _ _ _)) trivial rfl ?_
  rintro we ⟨hbe, hfe, hse⟩
  have Ke := K10
  have hPe := hP10
  have hke : RdK (d + 1) w10 (fun x => v.heap.size ≤ x) (KeC (.mk 16 [] [] 0 [] [k1, k2]) none 0 (some ⟨w9.heap.size, 0, none⟩) 2) (.mk 16 [] [] 0 [] [k1, k2]) := ⟨none, 0, _, 2, _, rfl, Own.nil _ _ _, hoL, ⟨by simp [ob], fun x hx => by simp [ob] at hx; omega⟩, rfl, fun i hi => by
   have hi : i < 2 := hi
   match i, hi with
   | 0, _ => exact hk1
   | 1, _ => exact hk2⟩
  refine qQ.done jK ?_
  refine jN (jv1 4 ?_)
  refine jT ?_
  refine qN (qZ (bM ?_))
  refine qB rfl zaf zh (hbe.cells) (by first | rfl | (simp; done) | (simp [*]; done)) ?_
  refine qF ?_
  subst hM
  obtain ⟨r1, r2, r3⟩ := hB.out Ke hPe hA hbe hfe hke
  rw [← hgb] at r2
  refine ⟨r1, _, ?_, r2, r3⟩
  first | rfl | simp
 rw [if_neg hc31] at hM
 refine jQ ?_
 refine qS (jN ?_)
 refine jv2 4 6 ?_
 refine jS (jR (jM ?_))
 refine jc (jE1 Tryz.call100) (pH own w7 (bL hT6 hl')) ?_
 rintro _ w8 ⟨hf8, SA, sc, rfl, hoS, hSu⟩
 refine ⟨_, rfl, ?_⟩
 have K8 : Frm [gp] v w8 := K7.trans (hf8.mono jp) (fun x hx => .inl hx)
 have hP8 := hP7.frm hf8
 have hs7 := (hB.at K7).2.2.2
 refine jm rfl (jY rfl rfl (jY rfl rfl (ja rfl (ja rfl (jO (jN (jv3 4 12 13 ?_)))))))
 refine jS (jR (jm rfl (jb rfl rfl (Bin.eql _ 0) ?_)))
 refine Ops.clp (jE1 zbb) (bZ (decide (kP own = 0)) w8) rfl ?_
 rintro e _ ⟨rfl, he⟩
 by_cases hpe : kP own = 0
 rotate_left
 ·
  rw [decide_eq_false hpe] at he
  exact .inr ⟨_, he, qK (qP (by rw [if_neg hpe] at hM; subst hM; exact ⟨rfl, hB.bad K8 (Frm.refl _ _)⟩))⟩
 rw [decide_eq_true hpe] at he
 rw [if_pos hpe] at hM
 refine .inl ⟨_, he, ?_⟩
 refine jO (jN (jv2 4 12 ?_))
 refine jS (jR (jm rfl (je (Run.build (evs.cons rfl (evs.cons rfl evs.nil)) bU (bQ).choose_spec.1 (bQ).choose_spec.2 (cells := (KeC (.mk 14 [] [] 0 (eF own) []) SA sc none 0).toArray) rfl) ?_)))
 refine Ops.st (qJ.storeA rfl rfl zh (hB.at K8).1.2.2 rfl (cX _ _ _ _ _)) ?_
 rintro we ⟨hbe, hfe, hse⟩
 have Ke := K8
 have hPe := hP8
 have hke := (RdK.spans (B := fun x => v.heap.size ≤ x) 14 [] [] 0 hoS (fun x hx => by have := hSu x hx; omega)).le (d' := d + 1) jo
 refine jO (jN (jv1 4 ?_))
 refine jT ?_
 refine bM ?_
 refine qB rfl zaf zh (hbe.cells) (by first | rfl | (simp; done) | (simp [*]; done)) ?_
 refine qF ?_
 subst hM
 obtain ⟨r1, r2, r3⟩ := hB.out Ke hPe hA hbe hfe hke
 rw [← hgb] at r2
 refine ⟨r1, _, ?_, r2, r3⟩
 first | rfl | simp
noncomputable def eZ (tk : List Tk) : Nat → Nat → Option (KeyV × Nat)
 | 0 => fun _ => none
 | f + 1 => fN tk (eZ tk f)
theorem zD {tk : List Tk} (hl : ∀ x ∈ tk, x.2.length ≤ 50000) : ∀ (f deep : Nat), deep + f = 9 → xC tk (eZ tk f) ((deep : Nat) : Int) (f + 1)
 | 0, deep, h => fun gp gc A n c q cs w hP hA hv => by
  have := sZ (fun _ => none) deep 1 (zt _) tk (fun h8 => jo) jo hl gp gc A n c q cs w hP hA hv
  rw [if_neg jo] at this
  exact this
 | f + 1, deep, h => fun gp gc A n c q cs w hP hA hv => by
  have := sZ (eZ tk f) deep (f + 1) jo tk (fun h8 => zD hl f (deep + 1) jo) jo hl gp gc A n c q cs w hP hA hv
  rw [if_pos jo] at this
  exact this
def cU (k : Int) : Int := if k = 15 then 1 else if k = 16 then 2 else if k = 17 then -1 else 0
theorem vZ (k : Int) (w : World) : Calls Tryz.prog 102 #[.int .i64 k] w fun e w' => e = .returned (.int .i64 (cU k)) ∧ w = w' := by
 refine jV Tryz.func102 Tryz.ntmps102 Tryz.results102 ?_
 refine jS (jR (jz 0 (jO (jN (jv1 0 ?_)))))
 refine jS (jS (jR (jm rfl (jO (jN (jv1 3 ?_))))))
 refine jB (jS (jR (jb rfl rfl (Bin.eql _ 15) (ja rfl (jO (jN (jv2 3 4 ?_)))))))
 refine jD rfl (fun hc1 => ?_) fun hc1 => ?_
 ·
  refine jS (jR (jz 1 (jO (jN (jv1 2 ?_)))))
  refine jT ?_
  refine qN (qZ (qD rfl ?_))
  exact ⟨by simp [cU, hc1], rfl⟩
 refine jS (jR (jb rfl rfl (Bin.eql _ 16) (ja rfl (jO (jN (jv2 3 6 ?_))))))
 refine jD rfl (fun hc2 => ?_) fun hc2 => ?_
 ·
  refine jS (jR (jz 2 (jO (jN (jv1 2 ?_)))))
  refine jT ?_
  refine qN (qZ (qD rfl ?_))
  exact ⟨by simp [cU, hc1, hc2], rfl⟩
 refine jS (jR (jb rfl rfl (Bin.eql _ 17) (ja rfl (jO (jN (jv1 8 ?_))))))
 refine jD rfl (fun hc3 => ?_) fun hc3 => ?_
 ·
  refine jS (jR ?_)
  refine Ops.r (v := .int .i64 (-1)) (Run.asg rfl) rfl ?_
  refine jO (jN (jv1 2 ?_))
  refine jT ?_
  refine qN (qZ (qD rfl ?_))
  exact ⟨by simp [cU, hc1, hc2, hc3], rfl⟩
 refine jQ ?_
 refine qS (jN ?_)
 refine VC.sub [] .nil ?_
 refine jS (jR (jz 0 (jO (jN (jT ?_)))))
 refine qD rfl ?_
 exact ⟨by simp [cU, hc1, hc2, hc3], rfl⟩
def oR (M : KeyV → Nat → Bool × Nat) : List KeyV → Nat → Bool × Nat
 | [], c => (true, c)
 | x :: r, c => if (M x c).1 = true then oR M r (M x c).2 else (false, (M x c).2)
def nM (M : KeyV → Nat → Bool × Nat) (k : KeyV) (c : Nat) : Bool × Nat :=
 if 64 < c + 1 ∨ k.kind < 0 ∨ 17 < k.kind then (false, c + 1)
 else if k.kind = 1 ∧ (cR k.s).2 ≠ 0 then (false, c + 1)
 else if cU k.kind = 0 then (true, c + 1)
 else if 0 < cU k.kind ∧ (k.l.length : Int) ≠ cU k.kind then (false, c + 1)
 else oR M k.l (c + 1)
def KOk : Nat → KeyV → Prop
 | 0, _ => True
 | d + 1, k => k.s.length ≤ 1000000 ∧ k.l.length ≤ 1000000 ∧ ∀ x ∈ k.l, KOk d x
def pB (M : KeyV → Nat → Bool × Nat) : Prop := ∀ k c, (M k c).1 = true → (M k c).2 ≤ 64
theorem vI {M : KeyV → Nat → Bool × Nat} (hM : pB M) : ∀ (l : List KeyV) (c : Nat), c ≤ 64 → (oR M l c).1 = true → (oR M l c).2 ≤ 64
 | [], c, hc, _ => hc
 | x :: r, c, hc, h => by
  unfold oR at h ⊢
  by_cases h1 : (M x c).1 = true
  ·
   rw [if_pos h1] at h ⊢
   exact vI hM r _ (hM x c h1) h
  rw [if_neg h1] at h; cases h
theorem qZu {M : KeyV → Nat → Bool × Nat} (hM : pB M) : pB (nM M) := fun k c h => by
 unfold nM at h ⊢
 by_cases h1 : 64 < c + 1 ∨ k.kind < 0 ∨ 17 < k.kind
 · rw [if_pos h1] at h; cases h
 rw [if_neg h1] at h ⊢
 have h2 : c + 1 ≤ 64 := jo
 by_cases h3 : k.kind = 1 ∧ (cR k.s).2 ≠ 0
 · rw [if_pos h3] at h; cases h
 rw [if_neg h3] at h ⊢
 by_cases h4 : cU k.kind = 0
 · rw [if_pos h4]; exact h2
 rw [if_neg h4] at h ⊢
 by_cases h5 : 0 < cU k.kind ∧ (k.l.length : Int) ≠ cU k.kind
 · rw [if_pos h5] at h; cases h
 rw [if_neg h5] at h ⊢
 exact vI hM _ _ h2 h
def qZe (M : KeyV → Nat → Bool × Nat) (dp : Int) : Prop := ∀ (d : Nat) (k : KeyV) (c : Nat) (B : Nat → Prop) (cs : List Value) (gn gm : Nat) (w : World), RdK d w B cs k → KOk d k → c ≤ 64 → Blk w gn 3 #[jI1 c] → Blk w gm 145 #[.func (.func 101) ([] : List Value).toArray ([jI0 gn, jI0 gm] : List Value).toArray] → Calls Tryz.prog 101 #[.agg cs.toArray, .int .i64 dp, jI0 gn, jI0 gm] w fun e w' => e = .returned (.bool (M k c).1) ∧ Blk w' gn 3 #[jI1 ((M k c).2)] ∧ Frm [gn] w w'
theorem pC (M : KeyV → Nat → Bool × Nat) (hM : pB M) (deep : Nat) (hsp : deep ≤ 8 → qZe M ((deep + 1 : Nat) : Int)) (hdeep : deep ≤ 9) (d : Nat) (k : KeyV) (c : Nat) (B : Nat → Prop) (cs : List Value) (gn gm : Nat) (w : World) (hk : RdK d w B cs k) (hok : KOk d k) (hc : c ≤ 64) (hbn : Blk w gn 3 #[jI1 c]) (hbm : Blk w gm 145 #[.func (.func 101) ([] : List Value).toArray ([jI0 gn, jI0 gm] : List Value).toArray]) : Calls Tryz.prog 101 #[.agg cs.toArray, jI1 deep, jI0 gn, jI0 gm] w fun e w' => e = .returned (.bool (if deep ≤ 8 then nM M k c else (false, c + 1)).1) ∧ Blk w' gn 3 #[jI1 ((if deep ≤ 8 then nM M k c else (false, c + 1)).2)] ∧ Frm [gn] w w' := by
 obtain ⟨R, hR⟩ : ∃ R, (if deep ≤ 8 then nM M k c else (false, c + 1)) = R := ⟨_, rfl⟩
 rw [hR]
 have hk0 := hk
 rcases d with _ | d
 · exact hk.elim
 obtain ⟨SA, sc, LA, lc, css, rfl, hoS, hoL, hBB, hcl, hch⟩ := hk
 obtain ⟨hks, hkl, hkc⟩ := hok
 have hgl := hbn.lt
 have hml := hbm.lt
 have hgm : gn ≠ gm := hbn.ne hbm jd
 refine jV Tryz.func101 Tryz.ntmps101 Tryz.results101 ?_
 refine jS (jR ?_)
 refine Ops.m (qH.box rfl) rfl ?_
 rintro _ w1 ⟨rfl, hF1⟩
 obtain ⟨gk, hgk⟩ : ∃ g, g = w.heap.size := ⟨_, rfl⟩
 have bk1 : Blk w1 gk 30 (KeC k SA sc LA lc).toArray := by rw [hgk]; exact hF1.blk
 rw [← hgk]
 have bn1 := hbn.frm hF1.frm jp
 have K1 : Frm [gn] w w1 := hF1.frm.mono jp
 have s1 := hF1.size
 refine ja rfl (jO (jN (jv4 1 2 3 4 ?_)))
 refine jS (jR (jl rfl zi (bn1.cell 0) (jb rfl rfl (Bin.add_i64 _ 1 jo) ?_)))
 refine Ops.st (qJ.store (i := 0) rfl rfl zc bn1 rfl rfl) ?_
 rintro w2 ⟨bn2, hf2, hs2⟩
 have bn2 : Blk w2 gn 3 #[jI1 (c + 1)] := bn2
 have bk2 := bk1.frm hf2 (by simp; omega)
 have K2 : Frm [gn] w w2 := K1.trans hf2 (fun x hx => .inl hx)
 refine jO (jN (jv4 1 2 3 4 ?_))
 refine jS (jR (jf rfl zu rfl zc (jl rfl zi (bk2.cell 0) ?_)))
 refine jc (jE1 Tryz.call102) (vZ k.kind w2) ?_
 rintro _ _ ⟨rfl, rfl⟩
 refine ⟨_, rfl, ?_⟩
 refine ja rfl (jO (jN (jv5 1 2 3 4 7 ?_)))
 refine jS (jS ?_)
 refine VC.split1 [(1, _), (3, _), (4, _), (7, _)] (js4 rfl rfl rfl rfl) 32 (.bool (decide (64 < c + 1 ∨ 8 < deep ∨ k.kind < 0 ∨ 17 < k.kind))) ?_ ?_
 ·
  refine jR (jl rfl zi (bn2.cell 0) (jb rfl rfl (Bin.gtrN _ 64) ?_))
  by_cases hs18 : 64 < c + 1
  ·
   refine jM ?_
   refine jU ?_
   refine jU ?_
   refine jW rfl rfl au (jM ?_)
   refine jU ?_
   refine jU ?_
   refine jU ?_
   refine jW rfl rfl au (jM ?_)
   refine jU ?_
   refine jU ?_
   refine jU ?_
   refine jW rfl rfl au (jO ?_)
   refine jN ⟨(js5 (jC (by grind)) rfl rfl rfl rfl), rfl⟩
  refine jM ?_
  refine jG ?_
  refine jk (Run.bin rfl rfl (Bin.gtrN _ 8)) ?_
  by_cases hs21 : 8 < deep
  ·
   refine jF rfl rfl au (jM ?_)
   refine jU ?_
   refine jU ?_
   refine jU ?_
   refine jW rfl rfl au (jM ?_)
   refine jU ?_
   refine jU ?_
   refine jU ?_
   refine jW rfl rfl au (jO ?_)
   refine jN ⟨(js5 (jC (by grind)) rfl rfl rfl rfl), rfl⟩
  refine jF rfl rfl au (jM ?_)
  refine jk (Run.fieldAddr rfl zu rfl zc jd) ?_
  refine jk (Run.load rfl zi (bk2.cell 0)) ?_
  refine jk (Run.bin rfl rfl (Bin.lss _ 0)) ?_
  by_cases hs26 : k.kind < 0
  ·
   refine jF rfl rfl au (jM ?_)
   refine jU ?_
   refine jU ?_
   refine jU ?_
   refine jW rfl rfl au (jO ?_)
   refine jN ⟨(js5 (jC (by grind)) rfl rfl rfl rfl), rfl⟩
  refine jF rfl rfl au (jM ?_)
  refine jk (Run.fieldAddr rfl zu rfl zc jd) ?_
  refine jk (Run.load rfl zi (bk2.cell 0)) ?_
  refine jk (Run.bin rfl rfl (Bin.gtr _ 17)) ?_
  by_cases hs31 : 17 < k.kind
  ·
   refine jF rfl rfl au (jO ?_)
   refine jN ⟨(js5 (jC (by grind)) rfl rfl rfl rfl), rfl⟩
  refine jF rfl rfl au (jO ?_)
  refine jN ⟨(js5 (jC (by grind)) rfl rfl rfl rfl), rfl⟩
 intro Γ hΓ
 refine jN (VC.sub _ hΓ ?_)
 refine jD rfl (fun hc1 => ?_) fun hc1 => ?_
 ·
  have hR : (false, c + 1) = R := by
   rw [← hR]; by_cases h8 : deep ≤ 8
   · rw [if_pos h8]; unfold nM; rw [if_pos jo]
   rw [if_neg h8]
  refine jS (jR (ja rfl (jO (jN (jv1 6 ?_)))))
  refine jT ?_
  refine qZ (qD rfl ?_)
  subst hR
  exact ⟨rfl, bn2, K2⟩
 have h8 : deep ≤ 8 := jo
 rw [if_pos h8] at hR
 unfold nM at hR
 rw [if_neg jo] at hR
 have hsp := hsp h8
 refine jQ (jN (jv4 1 3 4 7 ?_))
 refine jS (jS (jR (jf rfl zu rfl zd (jl rfl zj (bk2.cell 1) ?_))))
 refine jc (jE1 Tryz.call103) (rL k.s w2 hks) ?_
 rintro _ w3 ⟨rfl, hf3⟩
 refine ⟨_, rfl, ?_⟩
 have bn3 := bn2.frm hf3 jp
 have bk3 := bk2.frm hf3 jp
 have K3 : Frm [gn] w w3 := K2.trans (hf3.mono jp) (fun x hx => .inl hx)
 refine jm rfl (jY rfl rfl (jY rfl rfl (ja rfl (ja rfl (jO (jN (jv5 1 3 4 7 9 ?_)))))))
 refine jS ?_
 refine VC.split1 [(1, _), (3, _), (4, _), (7, _)] (js4 rfl rfl rfl rfl) 45 (.bool (decide (k.kind = 1 ∧ (cR k.s).2 ≠ 0))) ?_ ?_
 ·
  refine jR (jf rfl zu rfl zc (jl rfl zi (bk3.cell 0) (jb rfl rfl (Bin.eql _ 1) ?_)))
  by_cases hs41 : k.kind = 1
  ·
   refine jM ?_
   refine jG ?_
   refine jk (Run.bin rfl rfl (Bin.neqN _ 0)) ?_
   by_cases hs44 : (cR k.s).2 ≠ 0
   ·
    refine jW rfl rfl au (jO ?_)
    refine jN ⟨(js5 (jC (by grind)) rfl rfl rfl rfl), rfl⟩
   refine jW rfl rfl au (jO ?_)
   refine jN ⟨(js5 (jC (by grind)) rfl rfl rfl rfl), rfl⟩
  refine jM ?_
  refine jU ?_
  refine jU ?_
  refine jF rfl rfl au (jO ?_)
  refine jN ⟨(js5 (jC (by grind)) rfl rfl rfl rfl), rfl⟩
 intro Γ hΓ
 refine jN (VC.sub _ hΓ ?_)
 refine jD rfl (fun hc2 => ?_) fun hc2 => ?_
 ·
  rw [if_pos hc2] at hR
  refine jS (jR (ja rfl (jO (jN (jv1 6 ?_)))))
  refine jT ?_
  refine qZ (qD rfl ?_)
  subst hR
  exact ⟨rfl, bn3, K3⟩
 rw [if_neg hc2] at hR
 refine jQ (jN (jv4 1 3 4 7 ?_))
 refine jS (jS (jR (jm rfl (jb rfl rfl (Bin.eql _ 0) (jO (jN (jv5 1 3 4 7 47 ?_)))))))
 refine jD rfl (fun hc3 => ?_) fun hc3 => ?_
 ·
  rw [if_pos hc3] at hR
  refine jS (jR (ja rfl (jO (jN (jv1 6 ?_)))))
  refine jT ?_
  refine qZ (qD rfl ?_)
  subst hR
  exact ⟨rfl, bn3, K3⟩
 rw [if_neg hc3] at hR
 refine jQ (jN (jv4 1 3 4 7 ?_))
 refine jS (jS ?_)
 refine VC.split1 [(1, _), (3, _), (4, _)] (js3 rfl rfl rfl) 56 (.bool (decide (0 < cU k.kind ∧ (k.l.length : Int) ≠ cU k.kind))) ?_ ?_
 ·
  refine jR ?_
  refine jm rfl (jb rfl rfl (Bin.gtr _ 0) ?_)
  by_cases hs49 : 0 < cU k.kind
  ·
   refine jM ?_
   refine jk (Run.fieldAddr rfl zu rfl zaz jd) ?_
   refine jk (Run.load rfl zcj (bk3.cell 5)) ?_
   refine jk (Run.lenS rfl zah) ?_
   refine jG ?_
   refine jk (Run.bin rfl rfl (Bin.neq _ _)) ?_
   by_cases hs55 : (k.l.length : Int) ≠ cU k.kind
   ·
    refine jW rfl rfl au (jO ?_)
    refine jN ⟨(js4 (jC (by grind)) rfl rfl rfl), rfl⟩
   refine jW rfl rfl au (jO ?_)
   refine jN ⟨(js4 (jC (by grind)) rfl rfl rfl), rfl⟩
  refine jM ?_
  refine jU ?_
  refine jU ?_
  refine jU ?_
  refine jU ?_
  refine jU ?_
  refine jF rfl rfl au (jO ?_)
  refine jN ⟨(js4 (jC (by grind)) rfl rfl rfl), rfl⟩
 intro Γ hΓ
 refine jN (VC.sub _ hΓ ?_)
 refine jD rfl (fun hc4 => ?_) fun hc4 => ?_
 ·
  rw [if_pos hc4] at hR
  refine jS (jR (ja rfl (jO (jN (jv1 6 ?_)))))
  refine jT ?_
  refine qZ (qD rfl ?_)
  subst hR
  exact ⟨rfl, bn3, K3⟩
 rw [if_neg hc4] at hR
 refine jQ (jN (jv3 1 3 4 ?_))
 refine jS (jS (jR (jf rfl zu rfl zaz (jl rfl zcj (bk3.cell 5) (jL rfl zah ?_)))))
 refine jx .i64 0 ?_
 refine jO (jN (jv5 1 3 58 59 60 ?_))
 refine jB ?_
 refine VC.loop (σ := Nat × Nat) (fun s => [(1, _), (3, _), (58, _), (59, _), (60, jI1 s.1)]) (fun s wr => s.1 ≤ k.l.length ∧ s.2 ≤ 64 ∧ oR M (k.l.drop s.1) s.2 = R ∧ Blk wr gn 3 #[jI1 s.2] ∧ Frm [gn] w wr) (fun s => k.l.length - s.1) (0, c + 1) (js5 rfl rfl rfl rfl rfl) ⟨zac _, jo, hR, bn3, K3⟩ ?_
 rintro ⟨i, ci⟩ wr ⟨hi, hci, hml2, hbr, Kr⟩
 dsimp only at *
 refine jS (jR (jb rfl rfl (Bin.lssN _ _) (jO (jN (jS ?_)))))
 refine jD rfl (fun hc5 => ?_) fun hc5 => ?_
 ·
  have hilt : i < k.l.length := hc5
  have hoR := hoL.one Kr hbn jd
  have hkR : eX d wr B css k.l := ⟨hcl, fun i hi => (hch i hi).blk hbn Kr jd jd⟩
  obtain ⟨ad, rfl, hel⟩ := hkR.get hoR.rd hilt
  have hz := (hkR.2 i hilt).cells
  obtain ⟨xc, hxc⟩ : ∃ x, x = css.getD i [] := ⟨_, rfl⟩
  obtain ⟨kx, hkx⟩ : ∃ x, x = k.l.getD i k0 := ⟨_, rfl⟩
  have hkd := hkR.2 i hilt
  rw [← hxc, ← hkx] at hkd
  rw [← hxc] at hz hel
  have hkok : KOk d kx := hkc kx (by rw [hkx, zf, zb hilt]; exact zaj hilt)
  have hml3 : (if (M kx ci).1 = true then oR M (k.l.drop (i + 1)) (M kx ci).2 else (false, (M kx ci).2)) = R := by
   rw [← hml2, zao hilt, hkx, zf, zb hilt]
   rfl
  have hsw := Kr.size
  refine jQ (jN (jv5 1 3 58 59 60 ?_))
  refine jS (jB (jS (jR (je (Run.indexS i rfl rfl zah zh hilt) (je (Run.loadA (cs := xc) rfl zaf zh hel hz.1) ?_)))))
  refine Ops.m (qH.alloc bU) rfl ?_
  rintro _ w5 ⟨rfl, hF5⟩
  obtain ⟨gx, hgx⟩ : ∃ g, g = wr.heap.size := ⟨_, rfl⟩
  have b5 := hF5.blk
  rw [← hgx] at b5 ⊢
  refine Ops.st (qJ.storeA rfl rfl (by rw [show xc.toArray.size = 6 by simp [hz.1]]; exact zh) b5 (by simp [hz.1]; rfl) (by simpa using hz.2)) ?_
  rintro w6 ⟨bx6, hf6, hs6⟩
  have K6 : Frm [gn] w w6 := (Kr.trans (hF5.frm.mono jp) (fun x hx => .inl hx)).trans hf6 (fun x hx => .inr (by simp at hx; omega))
  have K56 : Frm [] wr w6 := hF5.frm.trans hf6 (fun x hx => .inr (by simp at hx; omega))
  have bn6 := hbr.frm K56 jp
  have bm6 := hbm.frm K6 (by simp; exact Ne.symm hgm)
  have hkd6 := hkd.frm K56 jp
  refine jO (jN (jv6 1 3 11 58 59 60 ?_))
  refine jS (jR (jl rfl Tryz.isAgg145 (bm6.cell 0) (je (Run.loadA (cs := xc) rfl zaf zh (by simpa using bx6.cells) hz.1) (jm rfl (jb rfl rfl (Bin.add_i64 _ 1 jo) ?_)))))
  refine Ops.cl (bJ.dyn rfl (evs.cons rfl (evs.cons rfl evs.nil)) Tryz.call101) (hsp d kx ci B xc gn gm w6 hkd6 hkok hci bn6 bm6) rfl ?_
  rintro _ w7 ⟨rfl, bn7, hf7⟩
  refine ⟨_, rfl, ?_⟩
  have K7 : Frm [gn] w w7 := K6.trans hf7 (fun x hx => .inl hx)
  refine je (Run.not rfl) (jO (jN (jv6 1 3 58 59 60 69 ?_)))
  refine VC.condB rfl (fun hc6 => ?_) (fun hc6 => ?_)
  ·
   have hb6 : (M kx ci).1 = false := by simpa using hc6
   rw [if_neg (by rw [hb6]; decide)] at hml3
   refine jS (jR (ja rfl (jO (jN (jv1 6 ?_)))))
   refine jT ?_
   refine qN (qZ (qZ (qN (qZ (qD rfl ?_)))))
   subst hml3
   exact ⟨rfl, bn7, K7⟩
  have hb6 : (M kx ci).1 = true := by simpa using hc6
  rw [if_pos hb6] at hml3
  refine jQ ?_
  refine qS (jN ?_)
  refine jv5 1 3 58 59 60 ?_
  refine jR (jb rfl rfl (Bin.add_i64 _ 1 jo) (jm rfl (jO ?_)))
  refine jN ⟨(i + 1, (M kx ci).2), (js5 rfl rfl rfl rfl rfl), ?_, ?_⟩
  · exact ⟨hilt, hM kx ci hb6, hml3, bn7, K7⟩
  dsimp only; omega
 have hR2 : (true, ci) = R := by
  rw [← hml2, zdr jo]
  rfl
 refine jX ?_
 refine qV (qV (qC ?_))
 refine jN ?_
 refine VC.sub [] .nil ?_
 refine jS (jR (ja rfl (jO (jN (jT ?_)))))
 refine qD rfl ?_
 subst hR2
 exact ⟨rfl, hbr, Kr⟩
def tI : Nat → KeyV → Nat → Bool × Nat
 | 0 => fun _ c => (false, c + 1)
 | f + 1 => nM (tI f)
theorem vL : ∀ f, pB (tI f)
 | 0 => fun _ _ h => by cases h
 | f + 1 => qZu (vL f)
theorem zE : ∀ (f deep : Nat), deep + f = 9 → qZe (tI f) ((deep : Nat) : Int)
 | 0, deep, h => fun d k c B cs gn gm w hk hok hc hbn hbm => by
  have := pC (fun _ c => (false, c)) (fun _ _ h => by cases h) deep (fun h8 => jo) jo d k c B cs gn gm w hk hok hc hbn hbm
  rw [if_neg jo] at this
  exact this
 | f + 1, deep, h => fun d k c B cs gn gm w hk hok hc hbn hbm => by
  have := pC (tI f) (vL f) deep (fun h8 => zE f (deep + 1) jo) jo d k c B cs gn gm w hk hok hc hbn hbm
  rw [if_pos jo] at this
  exact this
def xA (k : KeyV) : Bool := (tI 9 k 0).1
theorem qZv (w : World) : (zeroValue 145).run Tryz.prog w = .ok .nilFunc w := by
 simp only [zeroValue, Sem.run_bind, Tryz.typeInfo145, Result.andThen_ok]; rfl
theorem zF (d : Nat) (k : KeyV) (B : Nat → Prop) (cs : List Value) (w : World) (hk : RdK d w B cs k) (hok : KOk d k) : Calls Tryz.prog 68 #[.agg cs.toArray] w fun e w' => e = .returned (.bool (xA k)) ∧ Frm [] w w' := by
 have hz := hk.cells
 refine jV Tryz.func68 Tryz.ntmps68 Tryz.results68 ?_
 refine jS (jR ?_)
 refine Ops.m (qH.box rfl) rfl ?_
 rintro _ w1 ⟨rfl, hF1⟩
 obtain ⟨gk, hgk⟩ : ∃ g, g = w.heap.size := ⟨_, rfl⟩
 have bk : Blk w1 gk 30 cs.toArray := by rw [hgk]; exact hF1.blk
 rw [← hgk]
 have s1 := hF1.size
 refine ja rfl (jO (jN (jv1 1 ?_)))
 refine jS (jR ?_)
 refine Ops.m (qH.alloc dH) rfl ?_
 rintro _ w2 ⟨rfl, hF2⟩
 obtain ⟨gn, hgn⟩ : ∃ g, g = w1.heap.size := ⟨_, rfl⟩
 have bn := hF2.blk
 rw [← hgn] at bn ⊢
 have s2 := hF2.size
 have bk := bk.frm hF2.frm jp
 refine Ops.st (qJ.store (i := 0) rfl rfl zc bn rfl rfl) ?_
 rintro w3 ⟨bn3, hf3, hs3⟩
 have bn3 : Blk w3 gn 3 #[jI1 0] := bn3
 have bk := bk.frm hf3 (by simp; omega)
 refine jO (jN (jS (jR ?_)))
 refine Ops.m (qH.alloc qZv) rfl ?_
 rintro _ w4 ⟨rfl, hF4⟩
 obtain ⟨gm, hgm⟩ : ∃ g, g = w3.heap.size := ⟨_, rfl⟩
 have bm := hF4.blk
 rw [← hgm] at bm ⊢
 have s4 := hF4.size
 have bk := bk.frm hF4.frm jp
 have bn := bn3.frm hF4.frm jp
 refine jO (jN (jS (jR (je (Run.mkFunc evs.nil (evs.cons rfl (evs.cons rfl evs.nil))) ?_))))
 refine Ops.st (qJ.store (i := 0) rfl rfl Tryz.sizeOf145 bm rfl rfl) ?_
 rintro w5 ⟨bm5, hf5, hs5⟩
 have bm5 : Blk w5 gm 145 #[.func (.func 101) ([] : List Value).toArray ([jI0 gn, jI0 gm] : List Value).toArray] := bm5
 have bk := bk.frm hf5 (by simp; omega)
 have bn := bn.frm hf5 (by simp; omega)
 have K5 : Frm [] w w5 := (((hF1.frm.trans hF2.frm jp).trans hf3 (fun x hx => .inr (by simp at hx; omega))).trans hF4.frm jp).trans hf5 (fun x hx => .inr (by simp at hx; omega))
 refine jO (jN (jv2 1 4 ?_))
 refine jS (jR (jl rfl Tryz.isAgg145 (bm5.cell 0) (je (Run.loadA (cs := cs) rfl zaf zh (by simpa using bk.cells) hz.1) ?_)))
 refine Ops.cl (bJ.dyn rfl (evs.cons rfl (evs.cons rfl evs.nil)) Tryz.call101) (zE 9 0 rfl d k 0 B cs gn gm w5 (hk.frm K5 jp) hok (zac _) bn bm5) rfl ?_
 rintro _ w6 ⟨rfl, bn6, hf6⟩
 refine ⟨_, rfl, ?_⟩
 refine ja rfl (jO (jN (jv1 2 ?_)))
 refine jT ?_
 refine qD rfl ?_
 exact ⟨rfl, K5.trans hf6 (fun x hx => .inr (by simp at hx; omega))⟩
def fU (R : Nat → Option (KeyV × Nat)) (n : Nat) : Nat → List KeyV → Nat → Option (List KeyV × Nat)
 | 0, _, _ => none
 | f + 1, ks, q => (R q).bind fun p => if p.2 < n then fU R n f (ks ++ [p.1]) p.2 else some (ks ++ [p.1], p.2)
def gV (tk : List Tk) (q : Nat) : Option Nat := if IsT tk q 0 ∧ qT (tk.getD q tk0).2 = [67, 72, 65, 82, 83, 69, 84] then (qW tk (q + 1) [0, 1]).map fun _ => q + 2 else some q
noncomputable def dN (tk : List Tk) (q : Nat) : Option (KeyV × Nat) := (gV tk q).bind fun q1 => (fU (eZ tk 8) tk.length 64 [] q1).bind fun p => if xA (.mk 17 [] [] 0 [] p.1) = true then some (.mk 17 [] [] 0 [] p.1, p.2) else none
def tL (cs : Array Value) (kc : List Value) : Array Value := (cs.toList.take 10 ++ kc ++ cs.toList.drop 16).toArray
theorem tO (gp gc : Nat) (A : Option Addr) (n c : Nat) (tk : List Tk) (q : Nat) (cs : Array Value) (w : World) (hP : IsCp w gp gc A n c tk q cs) (hA : 0 < n → ∀ x ∈ ob A, x < w.heap.size) (hl : ∀ x ∈ tk, x.2.length ≤ 50000) (hv : bT w) (hko : ∀ q k q2, eZ tk 8 q = some (k, q2) → KOk 9 k) : Calls Tryz.prog 34 #[jI0 gp] w fun e w' => match dN tk q with
   | none => e = .panicked cY ∧ Frm [gp, gc] w w'
   | some (k, q2) => e = .returned (.tuple #[]) ∧ ∃ kc, RdK 10 w' (fun x => w.heap.size ≤ x) kc k ∧ IsCp w' gp gc A n c tk q2 (tL cs kc) ∧ Frm [gp, gc] w w' := by
 have hle := hP.le
 have hbig := hP.big
 have hln := hP.tk.len
 have hPl := hP.lt
 have hl' : ∀ x ∈ tk, x.2.length ≤ 1000000 := fun x hx => zr (hl x hx) jd
 have hit : IsT tk q 0 ↔ (q < n ∧ (tk.getD q tk0).1 = 0) := by unfold IsT; rw [hln]
 obtain ⟨M, hM⟩ : ∃ M, dN tk q = M := ⟨_, rfl⟩
 rw [hM]
 unfold dN at hM
 refine jV Tryz.func34 Tryz.ntmps34 Tryz.results34 ?_
 refine jS (jS ?_)
 refine VC.meet (σ := Unit) (fun s => [(0, jI0 gp), (20, .bool (decide (IsT tk q 0 ∧ qT (tk.getD q tk0).2 = [67, 72, 65, 82, 83, 69, 84])))]) (fun s wz => Frm [] w wz) ?_ ?_
 ·
  refine VC.held (fun W => Frm [] w W) jK ?_
  have hS : Frm [] w w.drew := (Frm.refl _ _).drew
  refine jh 0 hS ?_
  refine qQ.cl 1 rfl jK (jE3 zco) (dR 0 0 gp gc A n c tk q cs _ (hP.frm hS) jo) trivial rfl rfl ?_
  rintro _ w1 ⟨hf1, rfl⟩
  have hS := hS.trans hf1 jp
  refine ⟨_, rfl, hS, ?_⟩
  refine jh 2 hS ?_
  by_cases hs6 : IsT tk q 0
  ·
   obtain ⟨hqn, _⟩ := hit.1 hs6
   obtain ⟨ad, hA0, hel⟩ := hP.tk.cell hqn
   subst hA0
   refine qQ.take 3 rfl jK jK jK hS (fun w0 hw0 => Run.mv rfl) (Up.g rfl (by first | rfl | exact decide_eq_true hs6 | (simp [hs6]; done))) rfl rfl ?_
   refine qQ.take 4 rfl jK jK jK hS (fun w0 hw0 => Run.nilck rfl) (Up.g rfl (by first | rfl | exact decide_eq_true hs6 | (simp [hs6]; done))) rfl rfl ?_
   refine qQ.take 5 rfl jK jK jK hS (fun w0 hw0 => Run.fieldAddr rfl zk rfl zcy jd) (Up.g rfl (by first | rfl | exact decide_eq_true hs6 | (simp [hs6]; done))) rfl rfl ?_
   refine qQ.take 6 rfl jK jK jK hS (fun w0 hw0 => Run.load rfl zbu ((hP.frm hw0).p.cell 0)) (Up.g rfl (by first | rfl | exact decide_eq_true hs6 | (simp [hs6]; done))) rfl rfl ?_
   refine qQ.take 7 rfl jK jK jK hS (fun w0 hw0 => Run.mv rfl) (Up.g rfl (by first | rfl | exact decide_eq_true hs6 | (simp [hs6]; done))) rfl rfl ?_
   refine qQ.take 8 rfl jK jK jK hS (fun w0 hw0 => Run.nilck rfl) (Up.g rfl (by first | rfl | exact decide_eq_true hs6 | (simp [hs6]; done))) rfl rfl ?_
   refine qQ.take 9 rfl jK jK jK hS (fun w0 hw0 => Run.fieldAddr rfl zk rfl zc jd) (Up.g rfl (by first | rfl | exact decide_eq_true hs6 | (simp [hs6]; done))) rfl rfl ?_
   refine qQ.take 10 rfl jK jK jK hS (fun w0 hw0 => Run.load rfl zi ((hP.frm hw0).p.cell 1)) (Up.g rfl (by first | rfl | exact decide_eq_true hs6 | (simp [hs6]; done))) rfl rfl ?_
   refine qQ.take 11 rfl jK jK jK hS (fun w0 hw0 => Run.indexS _ rfl rfl zs zw jo) (Up.g rfl (by first | rfl | exact decide_eq_true hs6 | (simp [hs6]; done))) rfl rfl ?_
   refine qQ.take 12 rfl jK jK jK hS (fun w0 hw0 => Run.fieldAddr rfl zas rfl zd jd) (Up.g rfl (by first | rfl | exact decide_eq_true hs6 | (simp [hs6]; done))) rfl rfl ?_
   refine qQ.take 13 rfl jK jK jK hS (fun w0 hw0 => Run.load rfl zj (hel _ hw0 1 _ rfl)) (Up.g rfl (by first | rfl | exact decide_eq_true hs6 | (simp [hs6]; done))) rfl rfl ?_
   refine qQ.cl 14 rfl jK (jE1 Tryz.call30) (eY (tk.getD q tk0).2 _ (by rw [zf, zb (jo : q < tk.length)]; exact hl' _ (zaj _))) (Up.g rfl (by first | rfl | exact decide_eq_true hs6 | (simp [hs6]; done))) rfl rfl ?_
   rintro _ w2 ⟨rfl, hf2⟩
   have hS := hS.trans hf2 jp
   refine ⟨_, rfl, hS, ?_⟩
   refine qQ.take 15 rfl jK jK jK hS (fun w0 hw0 => Run.eqlT rfl rfl) (Up.g rfl (by first | rfl | exact decide_eq_true hs6 | (simp [hs6]; done))) rfl rfl ?_
   by_cases hs19 : qT (tk.getD q tk0).2 = [67, 72, 65, 82, 83, 69, 84]
   ·
    refine jH 16 rfl hS (fun w0 hw0 => Run.pickT rfl rfl (by first | rfl | exact decide_eq_true hs6 | exact decide_eq_true hs19 | (simp [hs6]; done) | (simp [hs19]; done))) ?_
    refine qQ.done jK ?_
    refine jN ⟨(), (js2 rfl (jC (by grind))), ?_⟩
    exact hS
   refine jH 16 rfl hS (fun w0 hw0 => Run.pickT rfl rfl (by first | rfl | exact decide_eq_true hs6 | exact decide_eq_false hs19 | (simp [hs6]; done) | (simp [hs19]; done))) ?_
   refine qQ.done jK ?_
   refine jN ⟨(), (js2 rfl (jC (by grind))), ?_⟩
   exact hS
  refine qQ.skip 3 rfl jK jK jK hS rfl rfl (by first | rfl | exact decide_eq_false hs6 | (simp [hs6]; done)) rfl rfl ?_
  refine qQ.skip 4 rfl jK jK jK hS rfl rfl (by first | rfl | exact decide_eq_false hs6 | (simp [hs6]; done)) rfl rfl ?_
  refine qQ.skip 5 rfl jK jK jK hS rfl rfl (by first | rfl | exact decide_eq_false hs6 | (simp [hs6]; done)) rfl rfl ?_
  refine qQ.skip 6 rfl jK jK jK hS rfl rfl (by first | rfl | exact decide_eq_false hs6 | (simp [hs6]; done)) rfl rfl ?_
  refine qQ.skip 7 rfl jK jK jK hS rfl rfl (by first | rfl | exact decide_eq_false hs6 | (simp [hs6]; done)) rfl rfl ?_
  refine qQ.skip 8 rfl jK jK jK hS rfl rfl (by first | rfl | exact decide_eq_false hs6 | (simp [hs6]; done)) rfl rfl ?_
  refine qQ.skip 9 rfl jK jK jK hS rfl rfl (by first | rfl | exact decide_eq_false hs6 | (simp [hs6]; done)) rfl rfl ?_
  refine qQ.skip 10 rfl jK jK jK hS rfl rfl (by first | rfl | exact decide_eq_false hs6 | (simp [hs6]; done)) rfl rfl ?_
  refine qQ.skip 11 rfl jK jK jK hS rfl rfl (by first | rfl | exact decide_eq_false hs6 | (simp [hs6]; done)) rfl rfl ?_
  refine qQ.skip 12 rfl jK jK jK hS rfl rfl (by first | rfl | exact decide_eq_false hs6 | (simp [hs6]; done)) rfl rfl ?_
  refine qQ.skip 13 rfl jK jK jK hS rfl rfl (by first | rfl | exact decide_eq_false hs6 | (simp [hs6]; done)) rfl rfl ?_
  refine qQ.skip 14 rfl jK jK jK hS rfl rfl (by first | rfl | exact decide_eq_false hs6 | (simp [hs6]; done)) rfl rfl ?_
  refine qQ.skip 15 rfl jK jK jK hS rfl rfl (by first | rfl | exact decide_eq_false hs6 | (simp [hs6]; done)) rfl rfl ?_
  refine jH 16 rfl hS (fun w0 hw0 => Run.pickF rfl rfl (by first | rfl | exact decide_eq_false hs6 | (simp [hs6]; done))) ?_
  refine qQ.done jK ?_
  refine jN ⟨(), (js2 rfl (jC (by grind))), ?_⟩
  exact hS
 rintro _ wz hfz Γ hΓ
 have hPz := hP.frm hfz
 refine jN (VC.sub _ hΓ ?_)
 refine VC.meet (σ := Nat) (fun s => [(0, jI0 gp)]) (fun s wr => gV tk q = some s ∧ IsCp wr gp gc A n c tk s cs ∧ Frm [gp] w wr) ?_ ?_
 ·
  refine jD rfl (fun hc1 => ?_) fun hc1 => ?_
  ·
   refine jS (jR (jm rfl (jZ rfl (jf rfl zk rfl zc (jl rfl zi (hPz.p.cell 1) (jb rfl rfl (Bin.add_i64 _ 1 jo) (jZ rfl (jf rfl zk rfl zc ?_))))))))
   refine Ops.st (qJ.store (i := 1) (v := jI1 (q + 1)) rfl rfl zc hPz.p rfl rfl) ?_
   rintro w3 ⟨hb3, hf3, hs3⟩
   have hP3 : IsCp w3 gp gc A n c tk (q + 1) cs := hPz.step hb3 hf3 (by have := (hit.1 hc1.1).1; omega)
   have K3 : Frm [gp] w w3 := (hfz.mono jp).trans hf3 (fun x hx => .inl hx)
   have hch : gV tk q = (qW tk (q + 1) [0, 1]).map fun _ => q + 2 := if_pos hc1
   refine jO (jN (jv1 0 ?_))
   refine jR (jM ?_)
   refine Ops.clp (jE1 zcp) (cC gp gc A n c tk (q + 1) cs w3 hP3) rfl ?_
   rintro e w4 ⟨hf4, he⟩
   have K4 : Frm [gp] w w4 := K3.trans hf4 (fun x hx => .inl hx)
   rcases hT : qW tk (q + 1) [0, 1] with _ | tx
   ·
    rw [hT] at he hch
    exact .inr ⟨_, he, qK (qK (qP (by rw [hch] at hM; subst hM; exact ⟨rfl, K4.mono jp⟩)))⟩
   rw [hT] at he hch
   obtain ⟨rfl, hP4⟩ := he
   refine .inl ⟨_, rfl, ?_⟩
   refine jO ?_
   refine jN ⟨q + 2, (js1 rfl), ?_⟩
   exact ⟨hch, hP4, K4⟩
  refine jQ ?_
  refine jN ⟨q, (js1 rfl), ?_⟩
  exact ⟨if_neg hc1, hPz, hfz.mono jp⟩
 intro s wr hinv Γ hΓ
 refine jN (VC.sub _ hΓ (jS (jR (je (Run.build (evs.cons rfl evs.nil) bU (bQ).choose_spec.1 (bQ).choose_spec.2 (cells := (KeC (.mk 17 [] [] 0 [] []) none 0 none 0).toArray) rfl) ?_))))
 refine Ops.m (qH.alloc bU) rfl ?_
 rintro _ w5 ⟨rfl, hF5⟩
 obtain ⟨hch, hPv, Kv⟩ := hinv
 obtain ⟨v, rfl⟩ : ∃ v, v = wr := ⟨_, rfl⟩
 obtain ⟨q0, rfl⟩ : ∃ x, x = s := ⟨_, rfl⟩
 obtain ⟨g5, hg5⟩ : ∃ g, g = v.heap.size := ⟨_, rfl⟩
 have b5 := hF5.blk
 rw [← hg5] at b5 ⊢
 have hne := hv.ne hP
 have hvv : bT v := hv.frmS Kv (by simpa using Ne.symm hne.1) (by simpa using Ne.symm hne.2)
 have hsv := Kv.size
 have hgpv : gp < v.heap.size := hPv.p.lt
 have hAv : 0 < n → ∀ x ∈ ob A, x < v.heap.size := fun h0 x hx => by have := hA h0 x hx; omega
 rw [hch, zn] at hM
 refine Ops.st (qJ.storeA rfl rfl zh b5 rfl (cX _ _ _ _ _)) ?_
 rintro w6 ⟨b6, hf6, hs6⟩
 have K6 : Frm [] v w6 := hF5.frm.trans hf6 (fun x hx => .inr (by simp at hx; omega))
 have hX6 : KsX v gp gc A n c tk cs g5 9 [] none 0 [] w6 q0 := KsX.nil (hPv.frm K6) (K6.mono jp) hvv hne jo b6
 obtain ⟨G, hG⟩ : ∃ G, fU (eZ tk 8) tk.length 64 [] q0 = G := ⟨_, rfl⟩
 rw [hG] at hM
 refine jO (jN (jv2 0 2 ?_))
 refine jS (jS (jR (ja rfl (jO (jN (jB ?_))))))
 refine VC.loop (σ := (List KeyV × Option Addr × Nat) × List (List Value) × Nat × Bool) (fun s => [(0, jI0 gp), (2, jI0 g5), (3, .bool s.2.2.2)]) (fun s wr => KsX v gp gc A n c tk cs g5 9 s.1.1 s.1.2.1 s.1.2.2 s.2.1 wr s.2.2.1 ∧ s.1.1.length ≤ 64 ∧ (∀ x ∈ s.1.1, KOk 9 x) ∧ (s.2.2.2 = true → fU (eZ tk 8) tk.length (64 - s.1.1.length) s.1.1 s.2.2.1 = G) ∧ (s.2.2.2 = false → some (s.1.1, s.2.2.1) = G)) (fun s => 64 - s.1.1.length) (([], none, 0), [], q0, true) (js3 rfl rfl rfl) ⟨hX6, zac _, jp, fun _ => hG, fun h => by cases h⟩ ?_
 rintro ⟨⟨ks, LA, lc⟩, css, q1, mo⟩ wr ⟨hXr, hkl, hkk, hmt, hmf⟩
 dsimp only at *
 refine jS (jS (jR (jm rfl (jO (jN (jv3 0 2 31 ?_))))))
 refine VC.condB rfl (fun hc2 => ?_) (fun hc2 => ?_)
 ·
  have hmt := hmt (by simpa using hc2)
  refine jQ (jN (jv2 0 2 ?_))
  refine jS (jB (jS (jR (jf rfl zu rfl zaz (jl rfl zcj (hXr.k.cell 5) (jL rfl zah (jb rfl rfl (Bin.lssN _ 64) ?_)))))))
  refine Ops.clp (jE1 zbb) (bZ (decide (ks.length < 64)) wr) rfl ?_
  rintro e _ ⟨rfl, he⟩
  by_cases h64 : ks.length < 64
  rotate_left
  ·
   rw [decide_eq_false h64] at he
   exact .inr ⟨_, he, qK (bX (qK (qK (bX (qK (qP (by rw [show 64 - ks.length = 0 by omega] at hmt; rw [← hmt] at hM; subst hM; exact ⟨rfl, (Kv.mono jp).trans hXr.fr (fun x hx => .inl (by simp at hx; simp [hx]))⟩)))))))⟩
  rw [decide_eq_true h64] at he
  obtain ⟨f, hf⟩ : ∃ f, 64 - ks.length = f + 1 := ⟨64 - ks.length - 1, jo⟩
  rw [hf] at hmt
  unfold fU at hmt
  refine .inl ⟨_, he, ?_⟩
  refine jO (jN (jv2 0 2 ?_))
  refine VC.heldL 7 (fun V => V.cell? ⟨g5, 5, none⟩ = some (.slice LA ks.length lc)) jK ?_
  have hd := (qL.drew wr).frm
  have hXd := hXr.frm hgpv hd
  have hS := hXd.k.cell 5
  refine jH 0 rfl hS (fun w0 hw0 => Run.fieldAddr rfl zu rfl zaz jd) ?_
  refine jH 1 rfl hS (fun w0 hw0 => Run.load rfl zcj hw0) ?_
  refine qQ.r1 2 rfl jK hS (Run.mv rfl) trivial rfl rfl ?_
  refine qQ.clp 3 rfl jK (jE2 Tryz.call67) (zD hl 8 1 rfl gp gc A n c q1 cs _ hXd.isCp (fun h0 x hx => zaw (hAv h0 x hx) hXd.fr.size) hXd.lv) trivial rfl rfl ?_
  rintro e w7 he
  rcases hR : eZ tk 8 q1 with _ | ⟨k, q2⟩
  ·
   rw [hR] at he hmt
   exact .inr ⟨_, he.1, bX (qK (qK (bX (qK (qP (by rw [← hmt] at hM; subst hM; exact ⟨rfl, ((Kv.mono jp).trans hXd.fr (fun x hx => .inl (by simp at hx; simp [hx]))).trans he.2 (fun x hx => .inl hx)⟩))))))⟩
  rw [hR] at he hmt
  rw [zn] at hmt
  dsimp only at hmt
  obtain ⟨hf7, cs', rfl, hk, hP7⟩ := he
  have hLd := hXd.row.lt
  have hg5d := hXd.k.lt
  have hsd := hXd.fr.size
  have hX7 := hXd.read hgpv hf7 hP7
  have hk7 := hk.mono (B' := fun x => v.heap.size ≤ x ∧ x ≠ g5 ∧ x ∉ ob LA) (fun x hx _ => ⟨jo, jo, fun h => by have := hLd x h; omega⟩)
  have hz := hk.cells
  have hS := hX7.k.cell 5
  refine .inl ⟨_, rfl, hS, ?_⟩
  refine qQ.m 4 rfl jK (qH.buildS1 rfl zah zh bU jd jd (by simp [Value.cells, hz.1]) rfl) trivial rfl rfl ?_
  rintro _ w8 ⟨rfl, hF8⟩
  have hX8 := hX7.frm hgpv hF8.frm
  have hk8 := hk7.frm hF8.frm jp
  have hrd : Rd w8 6 (some ⟨w7.heap.size, 0, none⟩) 1 cs' := by
   have := Rd.of_blk (n := 1) (size := 6) hF8.blk (by simp [Value.cells, hz.1])
   simpa [Value.cells] using this
  have hS := hX8.k.cell 5
  refine ⟨hS, ?_⟩
  refine qQ.m 5 rfl jK (qH.app rfl rfl zah (sF) rfl jd hX8.row hrd hz.2 jo jo) trivial rfl rfl ?_
  rintro _ w9 ⟨LA9, lc9, rfl, hO9, hf9, hob9⟩
  obtain ⟨g9, rfl⟩ : ∃ g9, LA9 = some ⟨g9, 0, none⟩ := by
   rcases hO9.cases with ⟨_, h0, _⟩ | ⟨g, _, h, _⟩
   · omega
   exact ⟨g, h⟩
  have b9 := hX8.k.frm hf9 (fun h => (hX8.off g5 h).2 rfl)
  have hS := b9.cell 5
  refine ⟨hS, ?_⟩
  refine qQ.r1 6 rfl jK hS (Run.fieldAddr rfl zu rfl zaz jd) trivial rfl rfl ?_
  refine qQ.stL rfl jK (qJ.store (i := 5) rfl rfl zaz b9 rfl rfl) trivial rfl ?_
  rintro wa ⟨ba, hfa, hsa⟩
  have hne9 : g9 ≠ g5 := by
   rcases hob9 with e | e
   ·
    have h9 : g9 ∈ ob LA := by rw [← e]; exact zg.2 rfl
    exact (hX8.off g9 h9).2
   have h9 : g9 = w8.heap.size := by simpa [ob] using e
   have := hX8.k.lt
   omega
  have hXa := KsX.add (k := k) (cs' := cs') (W4 := w9) (W5 := wa) (g4 := g9) (lc4 := lc9) hX8 hgpv hPv.k.lt hAv hk8 hf9 hob9 rfl (hO9.frm hfa (by simpa [ob] using hne9)) rfl (by
   rw [show KeC (.mk 17 [] [] 0 [] (ks ++ [k])) none 0 (some ⟨g9, 0, none⟩) lc9 = [.int .i64 17, encStr [], encStr [], .int .i64 0, .slice none 0 0, .slice (some ⟨g9, 0, none⟩) (ks.length + 1) lc9] by simp [KeC, KeyV.kind, KeyV.s, KeyV.t, KeyV.n, KeyV.set, KeyV.l]]
   exact ba) (hfa.mono jp)
  refine qQ.done jK ?_
  refine qS (jN ?_)
  refine jv2 0 2 ?_
  refine VC.still jK jK ?_
  refine qM ?_
  refine qE (Run.nilck rfl) ?_
  refine qE (Run.fieldAddr rfl zk rfl zc jd) ?_
  refine qE (Run.load rfl zi ((hXa.isCp.p.drawn (qL.drew _)).cell 1)) ?_
  refine qM ?_
  refine qE (Run.nilck rfl) ?_
  refine qE (Run.fieldAddr rfl zk rfl zcy jd) ?_
  refine qE (Run.load rfl zbu ((hXa.isCp.p.drawn (qL.drew _)).cell 0)) ?_
  refine qE (Run.lenS rfl zs) ?_
  refine qE (Run.bin rfl rfl (Bin.lssN _ _)) ?_
  refine qA ?_
  refine bG.nil ?_
  refine jN ⟨((ks ++ [k], some ⟨g9, 0, none⟩, lc9), css ++ [cs'], q2, decide (q2 < n)), (js3 rfl rfl rfl), ?_, ?_⟩
  ·
   refine ⟨hXa.frm hgpv (qL.drew _).frm, by simp; omega, fun x hx => ?_, fun h => ?_, fun h => ?_⟩
   ·
    rcases zee.1 hx with hx | hx
    · exact hkk x hx
    rw [zg] at hx
    subst hx
    exact hko q1 _ q2 hR
   ·
    have h9 : q2 < tk.length := by rw [hln]; exact of_decide_eq_true h
    rw [if_pos h9] at hmt
    rw [← hmt]
    congr 1
    simp
    omega
   have h9 : ¬ q2 < tk.length := by rw [hln]; exact of_decide_eq_false h
   rw [if_neg h9] at hmt
   exact hmt
  dsimp only; simp; omega
 have hmf := hmf (by first | exact hc2 | simpa using hc2)
 rw [← hmf] at hM
 rw [zn] at hM
 dsimp only at hM
 obtain ⟨kk, hkke⟩ : ∃ k, k = KeyV.mk 17 [] [] 0 [] ks := ⟨_, rfl⟩
 rw [← hkke] at hM
 have hok : KOk 10 kk := by rw [hkke]; exact ⟨by simp [KeyV.s], by show ks.length ≤ _; omega, hkk⟩
 have hrk : RdK 10 wr (fun x => v.heap.size ≤ x) (KeC (.mk 17 [] [] 0 [] ks) none 0 LA lc) kk := by rw [hkke]; exact hXr.rdK
 refine jX ?_
 refine qV (qV (qC ?_))
 refine jN (jv2 0 2 ?_)
 refine jS (jR (je (Run.loadA (cs := KeC (.mk 17 [] [] 0 [] ks) none 0 LA lc) rfl zaf zh (by simpa using hXr.k.cells) rfl) ?_))
 refine jc (jE1 Tryz.call68) (zF 10 kk (fun x => v.heap.size ≤ x) (KeC (.mk 17 [] [] 0 [] ks) none 0 LA lc) wr hrk hok) ?_
 rintro _ wb ⟨rfl, hfb⟩
 refine ⟨_, rfl, ?_⟩
 have hXb := hXr.frm hgpv hfb
 have hrb := hrk.frm hfb jp
 refine Ops.clp (jE1 zbb) (bZ (xA kk) wb) rfl ?_
 rintro e _ ⟨rfl, he⟩
 by_cases hmk : xA kk = true
 rotate_left
 ·
  rw [if_neg hmk] at he hM
  exact .inr ⟨_, he, qK (qP (by subst hM; exact ⟨rfl, (Kv.mono jp).trans hXb.fr (fun x hx => .inl (by simp at hx; simp [hx]))⟩))⟩
 rw [if_pos hmk] at he hM
 refine .inl ⟨_, he, ?_⟩
 refine jO (jN (jv2 0 2 ?_))
 refine VC.heldL 7 (fun V => V.cell? ⟨gp, 2, none⟩ = some (jI0 gc) ∧ ∀ i u, (KeC (.mk 17 [] [] 0 [] ks) none 0 LA lc)[i]? = some u → V.cell? ((⟨g5, 0, none⟩ : Addr).add i) = some u) jK ?_
 have hd := (qL.drew wb).frm
 have hXd := hXb.frm hgpv hd
 have hrd2 := hrb.frm hd jp
 have hS := And.intro (hXd.isCp.p.cell 2) (by simpa using hXd.k.cells)
 refine jh 0 hS ?_
 refine jH 1 rfl hS (fun w0 hw0 => Run.nilck rfl) ?_
 refine jH 2 rfl hS (fun w0 hw0 => Run.fieldAddr rfl zk rfl zad jd) ?_
 refine jH 3 rfl hS (fun w0 hw0 => Run.load rfl zak hw0.1) ?_
 refine qQ.r1 4 rfl jK hS (Run.loadA (cs := KeC (.mk 17 [] [] 0 [] ks) none 0 LA lc) rfl zaf zh hS.2 rfl) trivial rfl rfl ?_
 refine qQ.r1 5 rfl jK hS (Run.nilck rfl) trivial rfl rfl ?_
 refine qQ.r1 6 rfl jK hS (Run.fieldAddr rfl ze rfl zh jd) trivial rfl rfl ?_
 refine qQ.stL rfl jK (qJ.storeAt (i := 10) rfl rfl zh hXd.isCp.k (by rw [hXd.isCp.sz]; exact (by decide : 10 + 6 ≤ 20)) (cX _ _ _ _ _)) trivial rfl ?_
 rintro wc ⟨hbc, hfc, hsc⟩
 refine qQ.done jK ?_
 refine cB ?_
 subst hM
 have hsz20 := hXd.isCp.sz
 have hgc := hPl.2
 have hgcv := hPv.k.lt
 have hPc : IsCp wc gp gc A n c tk q1 (tL cs (KeC (.mk 17 [] [] 0 [] ks) none 0 LA lc)) := hXd.isCp.turn hbc (by unfold tL; simp [KeC, hsz20]) hfc
 exact ⟨rfl, _, (hrd2.frm hfc (fun x hx hb => by simp at hx; omega)).mono (fun x hx _ => jo), hPc, ((Kv.mono jp).trans hXd.fr (fun x hx => .inl (by simp at hx; simp [hx]))).trans hfc (fun x hx => .inl (by simp at hx; simp [hx]))⟩
theorem qZw (s : Tx) : (cR s).1.length ≤ 20 := by
 unfold cR
 cases h : kW s with
 | none => simp
 | some t => exact (rI h).2
theorem KOk.leaf (d : Nat) (kind : Int) (s t : Tx) (n : Int) (sp : List Sp) (hs : s.length ≤ 1000000) : KOk d (.mk kind s t n sp []) := by
 cases d with
 | zero => trivial
 | succ d => exact ⟨hs, zac _, fun x hx => by cases hx⟩
theorem KOk.not {d : Nat} {k : KeyV} (h : KOk d k) : KOk (d + 1) (mN k) := ⟨zac _, by show 1 ≤ 1000000; decide, fun x hx => by
 have : x = k := by simpa [mN, KeyV.l] using hx
 rw [this]; exact h⟩
theorem mP {s : Tx} {k : KeyV} (d : Nat) (h : fJ s = some k) : KOk d k := by
 unfold fJ at h
 split at h
 ·
  cases h
  exact KOk.leaf d _ _ _ _ _ (zr (qZw s) jd)
 cases h
theorem qR {α : Type} {p : Prop} [Decidable p] {a b : Option α} {x : α} (h : (if p then a else b) = some x) : (p ∧ a = some x) ∨ (¬ p ∧ b = some x) := by
 by_cases hp : p
 · rw [if_pos hp] at h; exact .inl ⟨hp, h⟩
 rw [if_neg hp] at h; exact .inr ⟨hp, h⟩
theorem qXp {tk : List Tk} {R : Nat → Option (KeyV × Nat)} {own s : Tx} {q q2 d : Nat} {k : KeyV} (hR : ∀ q k q2, R q = some (k, q2) → KOk d k) (hs : s.length ≤ 1000000) (hl : ∀ x ∈ tk, x.2.length ≤ 1000000) (h : fK tk R own s q = some (k, q2)) : KOk (d + 1) k := by
 unfold fK at h
 rcases qR h with ⟨_, h⟩ | ⟨_, h⟩
 ·
  obtain ⟨t, _, h⟩ := Option.bind_eq_some_iff.1 h
  obtain ⟨z, _, h⟩ := Option.map_eq_some_iff.1 h
  cases h
  exact KOk.leaf _ _ _ _ _ _ (zac _)
 rcases qR h with ⟨_, h⟩ | ⟨_, h⟩
 ·
  cases h
  exact KOk.leaf _ _ _ _ _ _ (zac _)
 rcases qR h with ⟨_, h⟩ | ⟨_, h⟩
 ·
  cases h
  exact KOk.not (KOk.leaf _ _ _ _ _ _ (zac _))
 rcases qR h with ⟨_, h⟩ | ⟨_, h⟩
 ·
  obtain ⟨t, h1, h⟩ := Option.map_eq_some_iff.1 h
  cases h
  exact mP _ h1
 rcases qR h with ⟨_, h⟩ | ⟨_, h⟩
 ·
  obtain ⟨t, h1, h⟩ := Option.map_eq_some_iff.1 h
  cases h
  exact KOk.not (mP _ h1)
 rcases qR h with ⟨_, h⟩ | ⟨_, h⟩
 ·
  obtain ⟨t, _, h⟩ := Option.bind_eq_some_iff.1 h
  obtain ⟨z, h1, h⟩ := Option.map_eq_some_iff.1 h
  cases h
  exact mP _ h1
 rcases qR h with ⟨_, h⟩ | ⟨_, h⟩
 ·
  obtain ⟨t, _, h⟩ := Option.bind_eq_some_iff.1 h
  obtain ⟨z, h1, h⟩ := Option.map_eq_some_iff.1 h
  cases h
  exact KOk.not (mP _ h1)
 rcases qR h with ⟨_, h⟩ | ⟨_, h⟩
 ·
  obtain ⟨t, _, h⟩ := Option.bind_eq_some_iff.1 h
  rcases qR h with ⟨_, h⟩ | ⟨_, h⟩
  ·
   cases h
   exact KOk.leaf _ _ _ _ _ _ (zac _)
  cases h
 rcases qR h with ⟨_, h⟩ | ⟨_, h⟩
 ·
  obtain ⟨t, _, h⟩ := Option.map_eq_some_iff.1 h
  cases h
  exact KOk.leaf _ _ _ _ _ _ hs
 rcases qR h with ⟨_, h⟩ | ⟨_, h⟩
 ·
  obtain ⟨t, h1, h⟩ := Option.bind_eq_some_iff.1 h
  obtain ⟨u, _, h⟩ := Option.map_eq_some_iff.1 h
  cases h
  exact KOk.leaf _ _ _ _ _ _ (bL h1 hl)
 rcases qR h with ⟨_, h⟩ | ⟨_, h⟩
 ·
  obtain ⟨t, h1, h⟩ := Option.map_eq_some_iff.1 h
  cases h
  exact KOk.leaf _ _ _ _ _ _ (bL h1 hl)
 rcases qR h with ⟨_, h⟩ | ⟨_, h⟩
 ·
  obtain ⟨t, h1, h⟩ := Option.map_eq_some_iff.1 h
  cases h
  exact KOk.leaf _ _ _ _ _ _ (bL h1 hl)
 rcases qR h with ⟨_, h⟩ | ⟨_, h⟩
 ·
  obtain ⟨l, _, h⟩ := Option.map_eq_some_iff.1 h
  cases h
  exact KOk.leaf _ _ _ _ _ _ (zac _)
 rcases qR h with ⟨_, h⟩ | ⟨_, h⟩
 ·
  obtain ⟨p, h1, h⟩ := Option.map_eq_some_iff.1 h
  cases h
  exact KOk.not (hR q p.1 p.2 h1)
 rcases qR h with ⟨_, h⟩ | ⟨_, h⟩
 ·
  obtain ⟨p, h1, h⟩ := Option.bind_eq_some_iff.1 h
  obtain ⟨r, h2, h⟩ := Option.map_eq_some_iff.1 h
  cases h
  refine ⟨zac _, by show 2 ≤ _; decide, fun x hx => ?_⟩
  have hx : x = p.1 ∨ x = r.1 := by simpa [KeyV.l] using hx
  rcases hx with rfl | rfl
  · exact hR q p.1 p.2 h1
  exact hR p.2 r.1 r.2 h2
 rcases qR h with ⟨_, h⟩ | ⟨_, h⟩
 ·
  cases h
  exact KOk.leaf _ _ _ _ _ _ (zac _)
 cases h
theorem sJ {R : Nat → Option (KeyV × Nat)} {d : Nat} (hR : ∀ q k q2, R q = some (k, q2) → KOk d k) (q0 : Nat) : ∀ (j : Nat) (r : List KeyV × Nat), cT R q0 j = some r → r.1.length = j ∧ ∀ x ∈ r.1, KOk d x
 | 0, r, h => by cases h; exact ⟨rfl, fun x hx => by cases hx⟩
 | j + 1, r, h => by
  obtain ⟨p, h1, h⟩ := Option.bind_eq_some_iff.1 h
  obtain ⟨k, h2, h⟩ := Option.map_eq_some_iff.1 h
  obtain ⟨e1, e2⟩ := sJ hR q0 j p h1
  cases h
  refine ⟨by simp [e1], fun x hx => ?_⟩
  rcases zee.1 hx with hx | hx
  · exact e2 x hx
  rw [zg] at hx
  subst hx
  exact hR p.2 k.1 k.2 h2
theorem uQ {tk : List Tk} {R : Nat → Nat → Option Nat} {least most : Nat} : ∀ (k j q : Nat) (r : Nat × Nat), dW tk R least most k j q = some r → r.2 ≤ j + k
 | 0, _, _, _, h => by cases h
 | k + 1, j, q, r, h => by
  unfold dW at h
  rcases qR h with ⟨_, h⟩ | ⟨_, h⟩
  ·
   rcases qR h with ⟨_, h⟩ | ⟨_, h⟩
   · cases h; show j ≤ _; omega
   cases h
  rcases qR h with ⟨_, h⟩ | ⟨_, h⟩
  ·
   obtain ⟨q2, _, h⟩ := Option.bind_eq_some_iff.1 h
   have := uQ k (j + 1) q2 r h
   omega
  cases h
theorem rW {tk : List Tk} (hl : ∀ x ∈ tk, x.2.length ≤ 50000) : ∀ (f q : Nat) (k : KeyV) (q2 : Nat), eZ tk f q = some (k, q2) → KOk (f + 1) k
 | 0, _, _, _, h => by cases h
 | f + 1, q, k, q2, h => by
  have hl' : ∀ x ∈ tk, x.2.length ≤ 1000000 := fun x hx => zr (hl x hx) jd
  have h : fN tk (eZ tk f) q = some (k, q2) := h
  unfold fN at h
  rcases qR h with ⟨_, h⟩ | ⟨_, h⟩
  ·
   obtain ⟨p, h1, h⟩ := Option.bind_eq_some_iff.1 h
   obtain ⟨r, h2, h⟩ := Option.map_eq_some_iff.1 h
   obtain ⟨_, _, h1⟩ := Option.bind_eq_some_iff.1 h1
   have h4 := uQ _ _ _ _ h1
   obtain ⟨e1, e2⟩ := sJ (rW hl f) (q + 1) p.2 r h2
   cases h
   exact ⟨zac _, by show r.1.length ≤ _; omega, e2⟩
  obtain ⟨own, h1, h⟩ := Option.bind_eq_some_iff.1 h
  exact qXp (rW hl f) (by rw [dS]; exact bL h1 hl') hl' h
def base (tag nm : Tx) (u : Bool) : Array Value := apC tag nm u [] [] cM 0 false cM 0 0 false
abbrev cV (w0 : World) (A : Option Addr) (n c : Nat) (tk : List Tk) (q0 : Nat) (tag nm : Tx) (u : Bool) (m : Option (CmV × Nat)) (f : Nat) : Prop :=
 lH w0 A n c tk q0 (fun nm => base tag nm u) (fun _ => m.map (·.2)) (fun W cs => ∃ v q2, m = some (v, q2) ∧ bR W cs v) nm f
section
variable {w0 : World} {A : Option Addr} {n c : Nat} {tk : List Tk} {q0 : Nat} {tag nm : Tx} {u : Bool}
theorem oX (hA : 0 < n → ∀ x ∈ ob A, x < w0.heap.size) (hl : ∀ x ∈ tk, x.2.length ≤ 50000) (hv : bT w0) :
  cV w0 A n c tk q0 tag nm u ((dN tk q0).map fun p => ({ cm0 tag with name := nm, uid := u, k := p.1 }, p.2)) 34 := by
 intro W gp gc cs hP hcs K hgp hgc
 subst hcs
 refine (tO gp gc A n c tk q0 _ W hP (fun h0 x hx => zaw (hA h0 x hx) K.size) hl (hv.frm0 K) (fun q k q2 h => rW hl 8 q k q2 h)).mono fun e w' he => ?_
 rcases hm : dN tk q0 with _ | ⟨k, q2⟩
 ·
  rw [hm] at he
  exact he
 rw [hm] at he
 obtain ⟨rfl, kc, hrk, hP2, hf⟩ := he
 have hr : bR w' (tL (base tag nm u) kc) { cm0 tag with name := nm, uid := u, k := k } :=
  ⟨none, 0, none, 0, none, 0, [], 10, _, kc, none, 0, by simp [tL, base, apC, CmC, cm0], Own.nil _ _ _, Own.nil _ _ _, rfl, IsIt.nil _ _, hrk, Own.nil _ _ _⟩
 exact ⟨rfl, _, hP2, hf, ⟨_, q2, rfl, hr⟩, hr.cells.2⟩
theorem pD (hA : 0 < n → ∀ x ∈ ob A, x < w0.heap.size) (hl : ∀ x ∈ tk, x.2.length ≤ 50000) :
  cV w0 A n c tk q0 tag nm u ((eT tk q0).map fun p => ({ cm0 tag with name := nm, uid := u, set := p.1, op := p.2.1, silent := p.2.2.1, flags := p.2.2.2.1 }, p.2.2.2.2)) 36 := by
 intro W gp gc cs hP hcs K hgp hgc
 subst hcs
 refine (zB tag nm u gp gc A n c tk q0 W hP (fun h0 x hx => zaw (hA h0 x hx) K.size) (fun x hx => zr (hl x hx) jd)).mono fun e w' he => ?_
 rcases hm : eT tk q0 with _ | ⟨sp, op, si, l, q2⟩
 ·
  rw [hm] at he
  exact he
 rw [hm] at he
 obtain ⟨rfl, FA, d, Bs, ds, h1, h2, hP2, hf⟩ := he
 have hr : bR w' (apC tag nm u [] [] (.slice FA l.length d) op si (.slice Bs sp.length ds) 0 0 false) { cm0 tag with name := nm, uid := u, set := sp, op := op, silent := si, flags := l } :=
  ⟨FA, d, Bs, ds, none, 0, [], 1, fun _ => True, KeC k0 none 0 none 0, none, 0, rfl, h1, h2, rfl, IsIt.nil _ _, RdK.nil _ _, Own.nil _ _ _⟩
 exact ⟨rfl, _, hP2, hf, ⟨_, q2, rfl, hr⟩, hr.cells.2⟩
theorem vJ (hA : 0 < n → ∀ x ∈ ob A, x < w0.heap.size) (hl : ∀ x ∈ tk, x.2.length ≤ 50000) :
  cV w0 A n c tk q0 tag nm false ((dY tk q0).map fun p => ({ cm0 tag with name := nm, a := p.1, b := p.2.2.2.1, flags := p.2.1, sec := (p.2.2.1.getD (0, 0)).1, zone := (p.2.2.1.getD (0, 0)).2, dated := p.2.2.1.isSome }, p.2.2.2.2)) 33 := by
 intro W gp gc cs hP hcs K hgp hgc
 subst hcs
 refine (zU tag nm gp gc A n c tk q0 W hP (fun h0 x hx => zaw (hA h0 x hx) K.size) (fun x hx => zr (hl x hx) jd)).mono fun e w' he => ?_
 rcases hm : dY tk q0 with _ | ⟨a, l, dt, b, q2⟩
 ·
  rw [hm] at he
  exact he
 rw [hm] at he
 obtain ⟨rfl, FA, d, h1, hP2, hf⟩ := he
 have hr : bR w' (apC tag nm false a b (.slice FA l.length d) 0 false cM (dt.getD (0, 0)).1 (dt.getD (0, 0)).2 dt.isSome) { cm0 tag with name := nm, a := a, b := b, flags := l, sec := (dt.getD (0, 0)).1, zone := (dt.getD (0, 0)).2, dated := dt.isSome } :=
  ⟨FA, d, none, 0, none, 0, [], 1, fun _ => True, KeC k0 none 0 none 0, none, 0, rfl, h1, Own.nil _ _ _, rfl, IsIt.nil _ _, RdK.nil _ _, Own.nil _ _ _⟩
 exact ⟨rfl, _, hP2, hf, ⟨_, q2, rfl, hr⟩, hr.cells.2⟩
theorem sV (hl : ∀ x ∈ tk, x.2.length ≤ 50000) :
  cV w0 A n c tk q0 tag nm u ((eS tk q0).map fun p => ({ cm0 tag with name := nm, uid := u, set := p.1, a := p.2.1 }, p.2.2)) 37 := by
 intro W gp gc cs hP hcs K hgp hgc
 subst hcs
 refine (zH gp gc A n c tk q0 _ W hP (fun x hx => zr (hl x hx) jd)).mono fun e w' he => ?_
 rcases hm : eS tk q0 with _ | ⟨sp, a, q2⟩
 ·
  rw [hm] at he
  exact he
 rw [hm] at he
 obtain ⟨rfl, Bs, ds, hP2, h2, hf⟩ := he
 have hr : bR w' (((base tag nm u).setIfInBounds 8 (.slice Bs sp.length ds)).setIfInBounds 3 (encStr a)) { cm0 tag with name := nm, uid := u, set := sp, a := a } :=
  ⟨none, 0, Bs, ds, none, 0, [], 1, fun _ => True, KeC k0 none 0 none 0, none, 0, rfl, Own.nil _ _ _, h2, rfl, IsIt.nil _ _, RdK.nil _ _, Own.nil _ _ _⟩
 exact ⟨rfl, _, hP2, hf, ⟨_, q2, rfl, hr⟩, hr.cells.2⟩
theorem uX (hl : ∀ x ∈ tk, x.2.length ≤ 50000) :
  cV w0 A n c tk q0 tag nm u ((gK tk q0).map fun p => ({ cm0 tag with name := nm, uid := u, set := p.1 }, p.2)) 75 := by
 intro W gp gc cs hP hcs K hgp hgc
 subst hcs
 refine (zG gp gc A n c tk q0 _ W hP (fun x hx => zr (hl x hx) jd)).mono fun e w' he => ?_
 rcases hm : gK tk q0 with _ | ⟨sp, q2⟩
 ·
  rw [hm] at he
  exact he
 rw [hm] at he
 obtain ⟨rfl, Bs, ds, hP2, h2, hf⟩ := he
 have hr : bR w' ((base tag nm u).setIfInBounds 8 (.slice Bs sp.length ds)) { cm0 tag with name := nm, uid := u, set := sp } :=
  ⟨none, 0, Bs, ds, none, 0, [], 1, fun _ => True, KeC k0 none 0 none 0, none, 0, rfl, Own.nil _ _ _, h2, rfl, IsIt.nil _ _, RdK.nil _ _, Own.nil _ _ _⟩
 exact ⟨rfl, _, hP2, hf, ⟨_, q2, rfl, hr⟩, hr.cells.2⟩
theorem vK (hA : 0 < n → ∀ x ∈ ob A, x < w0.heap.size) (hl : ∀ x ∈ tk, x.2.length ≤ 50000) :
  cV w0 A n c tk q0 tag nm u ((cL tk q0).map fun p => ({ cm0 tag with name := nm, uid := u, a := p.1, attrs := p.2.1 }, p.2.2)) 32 := by
 intro W gp gc cs hP hcs K hgp hgc
 subst hcs
 refine (tC gp gc A n c tk q0 _ W hP rfl (fun h0 x hx => zaw (hA h0 x hx) K.size) (fun x hx => zr (hl x hx) jd)).mono fun e w' he => ?_
 rcases hm : cL tk q0 with _ | ⟨a, l, q2⟩
 ·
  rw [hm] at he
  exact he
 rw [hm] at he
 obtain ⟨rfl, cs2, FA, d, h1, rfl, hP2, hf, _⟩ := he
 have hr : bR w' (((base tag nm u).setIfInBounds 3 (encStr a)).setIfInBounds 19 (.slice FA l.length d)) { cm0 tag with name := nm, uid := u, a := a, attrs := l } :=
  ⟨none, 0, none, 0, none, 0, [], 1, fun _ => True, KeC k0 none 0 none 0, FA, d, rfl, Own.nil _ _ _, Own.nil _ _ _, rfl, IsIt.nil _ _, RdK.nil _ _, h1⟩
 exact ⟨rfl, _, hP2, hf, ⟨_, q2, rfl, hr⟩, hr.cells.2⟩
theorem vV : cV w0 A n c tk q0 tag nm u (some ({ cm0 tag with name := nm, uid := u }, q0)) 39 := by
 intro W gp gc cs hP hcs K hgp hgc
 subst hcs
 refine (nL gp W).mono fun e w' he => ?_
 obtain ⟨rfl, rfl⟩ := he
 have hr : bR W (base tag nm u) { cm0 tag with name := nm, uid := u } := bR.plain W tag nm [] [] u
 exact ⟨rfl, _, hP, Frm.refl _ _, ⟨_, q0, rfl, hr⟩, hr.cells.2⟩
theorem zA : cV w0 A n c tk q0 tag nm u ((qW tk q0 [0, 1]).map fun a => ({ cm0 tag with name := nm, uid := u, a := a }, q0 + 1)) 40 := by
 intro W gp gc cs hP hcs K hgp hgc
 subst hcs
 refine (lZ gp gc A n c tk q0 _ W hP).mono fun e w' he => ?_
 obtain ⟨hf, he⟩ := he
 rcases hm : qW tk q0 [0, 1] with _ | a
 ·
  rw [hm] at he
  exact ⟨he, hf⟩
 rw [hm] at he
 obtain ⟨rfl, hP2⟩ := he
 have hr : bR w' ((base tag nm u).setIfInBounds 3 (encStr a)) { cm0 tag with name := nm, uid := u, a := a } := bR.plain w' tag nm a [] u
 exact ⟨rfl, _, hP2, hf, ⟨_, q0 + 1, rfl, hr⟩, hr.cells.2⟩
theorem zI : cV w0 A n c tk q0 tag nm u ((dO tk q0).map fun s => ({ cm0 tag with name := nm, uid := u, a := s.1, b := s.2 }, q0 + 2)) 41 := by
 intro W gp gc cs hP hcs K hgp hgc
 subst hcs
 refine (rT gp gc A n c tk q0 _ W hP).mono fun e w' he => ?_
 obtain ⟨hf, he⟩ := he
 rcases hm : dO tk q0 with _ | s
 ·
  rw [hm] at he
  exact ⟨he, hf⟩
 rw [hm] at he
 obtain ⟨rfl, hP2⟩ := he
 have hr : bR w' (((base tag nm u).setIfInBounds 3 (encStr s.1)).setIfInBounds 4 (encStr s.2)) { cm0 tag with name := nm, uid := u, a := s.1, b := s.2 } := bR.plain w' tag nm s.1 s.2 u
 exact ⟨rfl, _, hP2, hf, ⟨_, q0 + 2, rfl, hr⟩, hr.cells.2⟩
theorem oZ (hA : 0 < n → ∀ x ∈ ob A, x < w0.heap.size) (hl : ∀ x ∈ tk, x.2.length ≤ 50000) (hv : bT w0) (htb : Tab w0) :
  cV w0 A n c tk q0 tag nm u ((cK tk q0).map fun p => ({ cm0 tag with name := nm, uid := u, set := p.1, items := p.2.1 }, p.2.2)) 35 := by
 intro W gp gc cs hP hcs K hgp hgc
 subst hcs
 refine (nO w0 gp gc A n c tk q0 _ W hP rfl hA K ⟨hgp, hgc⟩ hl hv htb).mono fun e w' he => ?_
 rcases hm : cK tk q0 with _ | ⟨sp, xs, q2⟩
 ·
  rw [hm] at he
  exact he
 rw [hm] at he
 obtain ⟨rfl, gf, gb, Bs, ds, cs2, I, d, rs, h1, h2, h3, h4, h5, _, _, h8, h9, _⟩ := he
 have h6 : cs2 = ((base tag nm u).setIfInBounds 8 (.slice Bs sp.length ds)).setIfInBounds 9 (.slice I rs.length d) := by rw [← h4, oP h3]
 have hrl : rs.length = xs.length := by rw [← h1, zbc]
 have hr : bR w' cs2 { cm0 tag with name := nm, uid := u, set := sp, items := xs } :=
  ⟨none, 0, Bs, ds, I, d, rs, 1, fun _ => True, KeC k0 none 0 none 0, none, 0, by rw [h6, hrl]; rfl, Own.nil _ _ _, h8, h1, ⟨h2.row, h2.ok, fun x _ => zac x⟩, RdK.nil _ _, Own.nil _ _ _⟩
 exact ⟨rfl, _, h5, h9, ⟨_, q2, rfl, hr⟩, hr.cells.2⟩
end
noncomputable def bI (tk : List Tk) (tag y : Tx) : Option (CmV × Nat) :=
 if y = [69, 88, 80, 85, 78, 71, 69] then (gK tk 3).map fun p => ({ cm0 tag with name := y, uid := true, set := p.1 }, p.2)
 else if y = [83, 69, 65, 82, 67, 72] then (dN tk 3).map fun p => ({ cm0 tag with name := y, uid := true, k := p.1 }, p.2)
 else if y = [67, 79, 80, 89] then (eS tk 3).map fun p => ({ cm0 tag with name := y, uid := true, set := p.1, a := p.2.1 }, p.2.2)
 else if y = [83, 84, 79, 82, 69] then (eT tk 3).map fun p => ({ cm0 tag with name := y, uid := true, set := p.1, op := p.2.1, silent := p.2.2.1, flags := p.2.2.2.1 }, p.2.2.2.2)
 else if y = [70, 69, 84, 67, 72] then (cK tk 3).map fun p => ({ cm0 tag with name := y, uid := true, set := p.1, items := p.2.1 }, p.2.2)
 else none
noncomputable def bH (tk : List Tk) (tag y : Tx) : Option (CmV × Nat) :=
 if y ∈ gH then (dO tk 2).map fun s => ({ cm0 tag with name := y, uid := false, a := s.1, b := s.2 }, 2 + 2)
 else if y ∈ gG then (qW tk 2 [0, 1]).map fun a => ({ cm0 tag with name := y, uid := false, a := a }, 2 + 1)
 else if y ∈ dE then some ({ cm0 tag with name := y, uid := false }, 2)
 else if y = [85, 73, 68] then (qW tk 2 [0]).bind fun s => bI tk tag (qT s)
 else if y = [67, 79, 80, 89] then (eS tk 2).map fun p => ({ cm0 tag with name := y, uid := false, set := p.1, a := p.2.1 }, p.2.2)
 else if y = [83, 84, 79, 82, 69] then (eT tk 2).map fun p => ({ cm0 tag with name := y, uid := false, set := p.1, op := p.2.1, silent := p.2.2.1, flags := p.2.2.2.1 }, p.2.2.2.2)
 else if y = [70, 69, 84, 67, 72] then (cK tk 2).map fun p => ({ cm0 tag with name := y, uid := false, set := p.1, items := p.2.1 }, p.2.2)
 else if y = [83, 69, 65, 82, 67, 72] then (dN tk 2).map fun p => ({ cm0 tag with name := y, uid := false, k := p.1 }, p.2)
 else if y = [65, 80, 80, 69, 78, 68] then (dY tk 2).map fun p => ({ cm0 tag with name := y, a := p.1, b := p.2.2.2.1, flags := p.2.1, sec := (p.2.2.1.getD (0, 0)).1, zone := (p.2.2.1.getD (0, 0)).2, dated := p.2.2.1.isSome }, p.2.2.2.2)
 else if y = [83, 84, 65, 84, 85, 83] then (cL tk 2).map fun p => ({ cm0 tag with name := y, uid := false, a := p.1, attrs := p.2.1 }, p.2.2)
 else none
section
variable {w0 : World} {A : Option Addr} {n c : Nat} {tk : List Tk} {q0 : Nat} {tag nm : Tx} {u : Bool}
theorem cV.to {m : Option (CmV × Nat)} {f : Nat} {C : Tx → Array Value} {D : Tx → Option Nat} {Y : World → Array Value → Prop} (h : cV w0 A n c tk q0 tag nm u m f) (hC : C nm = base tag nm u) (hD : D nm = m.map (·.2)) (hY : ∀ W cs v q2, m = some (v, q2) → bR W cs v → Y W cs) : lH w0 A n c tk q0 C D Y nm f := by
 intro W gp gc cs hP hcs K h1 h2
 refine (h W gp gc cs hP (hcs.trans hC) K h1 h2).mono fun e w' he => ?_
 rw [hD]
 rcases m with _ | p
 · exact he
 obtain ⟨r1, cs2, a, b, ⟨v, q2, e1, e2⟩, o⟩ := he
 exact ⟨r1, cs2, a, b, hY _ _ _ _ e1 e2, o⟩
theorem xI (tag y : Tx) (hA : 0 < n → ∀ x ∈ ob A, x < w0.heap.size) (hl : ∀ x ∈ tk, x.2.length ≤ 50000) (hv : bT w0) (htb : Tab w0) (fv : Value) (h : lM y = some fv) :
  ∃ f, fv = .func (.func f) ([] : List Value).toArray ([] : List Value).toArray ∧ (∀ args w, (callFunc f args).run Tryz.prog w = .ok (.enter f args) w) ∧ lH w0 A n c tk 3 (tT tag) (fun y => (bI tk tag y).map (·.2)) (fun W cs => ∃ v q2, bI tk tag y = some (v, q2) ∧ bR W cs v) y f := by
 unfold lM at h
 rcases qR h with ⟨h0, h⟩ | ⟨h0, h⟩
 ·
  cases h
  have e : bI tk tag y = ((gK tk 3).map fun p => ({ cm0 tag with name := y, uid := true, set := p.1 }, p.2)) := by unfold bI; rw [if_pos h0]
  exact ⟨_, rfl, Tryz.call75, cV.to (uX hl) rfl (congrArg (Option.map _) e) (fun W cs v q2 hm hr => ⟨v, q2, e.trans hm, hr⟩)⟩
 rcases qR h with ⟨h1, h⟩ | ⟨h1, h⟩
 ·
  cases h
  have e : bI tk tag y = ((dN tk 3).map fun p => ({ cm0 tag with name := y, uid := true, k := p.1 }, p.2)) := by unfold bI; rw [if_neg h0, if_pos h1]
  exact ⟨_, rfl, Tryz.call34, cV.to (oX hA hl hv) rfl (congrArg (Option.map _) e) (fun W cs v q2 hm hr => ⟨v, q2, e.trans hm, hr⟩)⟩
 rcases qR h with ⟨h2, h⟩ | ⟨h2, h⟩
 ·
  cases h
  have e : bI tk tag y = ((eS tk 3).map fun p => ({ cm0 tag with name := y, uid := true, set := p.1, a := p.2.1 }, p.2.2)) := by unfold bI; rw [if_neg h0, if_neg h1, if_pos h2]
  exact ⟨_, rfl, Tryz.call37, cV.to (sV hl) rfl (congrArg (Option.map _) e) (fun W cs v q2 hm hr => ⟨v, q2, e.trans hm, hr⟩)⟩
 rcases qR h with ⟨h3, h⟩ | ⟨h3, h⟩
 ·
  cases h
  have e : bI tk tag y = ((eT tk 3).map fun p => ({ cm0 tag with name := y, uid := true, set := p.1, op := p.2.1, silent := p.2.2.1, flags := p.2.2.2.1 }, p.2.2.2.2)) := by unfold bI; rw [if_neg h0, if_neg h1, if_neg h2, if_pos h3]
  exact ⟨_, rfl, Tryz.call36, cV.to (pD hA hl) rfl (congrArg (Option.map _) e) (fun W cs v q2 hm hr => ⟨v, q2, e.trans hm, hr⟩)⟩
 rcases qR h with ⟨h4, h⟩ | ⟨h4, h⟩
 ·
  cases h
  have e : bI tk tag y = ((cK tk 3).map fun p => ({ cm0 tag with name := y, uid := true, set := p.1, items := p.2.1 }, p.2.2)) := by unfold bI; rw [if_neg h0, if_neg h1, if_neg h2, if_neg h3, if_pos h4]
  exact ⟨_, rfl, Tryz.call35, cV.to (oZ hA hl hv htb) rfl (congrArg (Option.map _) e) (fun W cs v q2 hm hr => ⟨v, q2, e.trans hm, hr⟩)⟩
 cases h
theorem xL {y : Tx} (h : lM y = none) : bI tk tag y = none := by
 unfold lM at h
 unfold bI
 split at h
 · cases h
 rw [if_neg ‹_›]
 split at h
 · cases h
 rw [if_neg ‹_›]
 split at h
 · cases h
 rw [if_neg ‹_›]
 split at h
 · cases h
 rw [if_neg ‹_›]
 split at h
 · cases h
 rw [if_neg ‹_›]
theorem qZx : kT tk (fun y => (bI tk tag y).map (·.2)) = ((qW tk 2 [0]).bind fun s => bI tk tag (qT s)).map (·.2) := by
 unfold kT
 rcases qW tk 2 [0] with _ | s
 · rfl
 rw [zn, zn]
 cases hu : lM (qT s) with
 | none => rw [xL hu]; rfl
 | some x => rfl
theorem xO (tag y : Tx) (hA : 0 < n → ∀ x ∈ ob A, x < w0.heap.size) (hl : ∀ x ∈ tk, x.2.length ≤ 50000) (hv : bT w0) (htb : Tab w0) (fv : Value) (h : eO y = some fv) :
  ∃ f, fv = .func (.func f) ([] : List Value).toArray ([] : List Value).toArray ∧ (∀ args w, (callFunc f args).run Tryz.prog w = .ok (.enter f args) w) ∧ lH w0 A n c tk 2 (nG tag) (fun y => (bH tk tag y).map (·.2)) (fun W cs => ∃ v q2, bH tk tag y = some (v, q2) ∧ bR W cs v) y f := by
 unfold eO pK pJ pZ at h
 rcases qR h with ⟨h0, h⟩ | ⟨h0, h⟩
 ·
  cases h
  have e : bH tk tag y = ((dO tk 2).map fun s => ({ cm0 tag with name := y, uid := false, a := s.1, b := s.2 }, 2 + 2)) := by unfold bH; rw [if_pos h0]
  exact ⟨_, rfl, Tryz.call41, cV.to (zI) rfl (congrArg (Option.map _) e) (fun W cs v q2 hm hr => ⟨v, q2, e.trans hm, hr⟩)⟩
 rcases qR h with ⟨h1, h⟩ | ⟨h1, h⟩
 ·
  cases h
  have e : bH tk tag y = ((qW tk 2 [0, 1]).map fun a => ({ cm0 tag with name := y, uid := false, a := a }, 2 + 1)) := by unfold bH; rw [if_neg h0, if_pos h1]
  exact ⟨_, rfl, Tryz.call40, cV.to (zA) rfl (congrArg (Option.map _) e) (fun W cs v q2 hm hr => ⟨v, q2, e.trans hm, hr⟩)⟩
 rcases qR h with ⟨h2, h⟩ | ⟨h2, h⟩
 ·
  cases h
  have e : bH tk tag y = (some ({ cm0 tag with name := y, uid := false }, 2)) := by unfold bH; rw [if_neg h0, if_neg h1, if_pos h2]
  exact ⟨_, rfl, Tryz.call39, cV.to (vV) rfl (congrArg (Option.map _) e) (fun W cs v q2 hm hr => ⟨v, q2, e.trans hm, hr⟩)⟩
 rcases qR h with ⟨h3, h⟩ | ⟨h3, h⟩
 ·
  cases h
  have e : bH tk tag y = ((qW tk 2 [0]).bind fun s => bI tk tag (qT s)) := by unfold bH; rw [if_neg h0, if_neg h1, if_neg h2, if_pos h3]
  refine ⟨_, rfl, Tryz.call38, rA A n c tk tag (fun y => (bI tk tag y).map (·.2)) _ _ w0 (fun x hx => zr (hl x hx) jd) y ((congrArg (Option.map _) e).trans qZx.symm) hA (fun s hs fv hfv => ?_)⟩
  obtain ⟨f, e1, e2, e3⟩ := xI (n := n) (c := c) tag (qT s) hA hl hv htb fv hfv
  refine ⟨f, e1, e2, fun W gp gc cs hP hcs K g1 g2 => (e3 W gp gc cs hP hcs K g1 g2).mono fun e' w' he => ?_⟩
  dsimp only at he ⊢
  rcases hm : bI tk tag (qT s) with _ | ⟨v, q2⟩
  · rw [hm] at he; exact he
  rw [hm] at he
  obtain ⟨r1, cs2, a, b, ⟨v', q2', e4, e5⟩, o⟩ := he
  exact ⟨r1, cs2, a, b, ⟨v', q2', by rw [e, hs, zn, hm]; exact e4, e5⟩, o⟩
 rcases qR h with ⟨h4, h⟩ | ⟨h4, h⟩
 ·
  cases h
  have e : bH tk tag y = ((eS tk 2).map fun p => ({ cm0 tag with name := y, uid := false, set := p.1, a := p.2.1 }, p.2.2)) := by unfold bH; rw [if_neg h0, if_neg h1, if_neg h2, if_neg h3, if_pos h4]
  exact ⟨_, rfl, Tryz.call37, cV.to (sV hl) rfl (congrArg (Option.map _) e) (fun W cs v q2 hm hr => ⟨v, q2, e.trans hm, hr⟩)⟩
 rcases qR h with ⟨h5, h⟩ | ⟨h5, h⟩
 ·
  cases h
  have e : bH tk tag y = ((eT tk 2).map fun p => ({ cm0 tag with name := y, uid := false, set := p.1, op := p.2.1, silent := p.2.2.1, flags := p.2.2.2.1 }, p.2.2.2.2)) := by unfold bH; rw [if_neg h0, if_neg h1, if_neg h2, if_neg h3, if_neg h4, if_pos h5]
  exact ⟨_, rfl, Tryz.call36, cV.to (pD hA hl) rfl (congrArg (Option.map _) e) (fun W cs v q2 hm hr => ⟨v, q2, e.trans hm, hr⟩)⟩
 rcases qR h with ⟨h6, h⟩ | ⟨h6, h⟩
 ·
  cases h
  have e : bH tk tag y = ((cK tk 2).map fun p => ({ cm0 tag with name := y, uid := false, set := p.1, items := p.2.1 }, p.2.2)) := by unfold bH; rw [if_neg h0, if_neg h1, if_neg h2, if_neg h3, if_neg h4, if_neg h5, if_pos h6]
  exact ⟨_, rfl, Tryz.call35, cV.to (oZ hA hl hv htb) rfl (congrArg (Option.map _) e) (fun W cs v q2 hm hr => ⟨v, q2, e.trans hm, hr⟩)⟩
 rcases qR h with ⟨h7, h⟩ | ⟨h7, h⟩
 ·
  cases h
  have e : bH tk tag y = ((dN tk 2).map fun p => ({ cm0 tag with name := y, uid := false, k := p.1 }, p.2)) := by unfold bH; rw [if_neg h0, if_neg h1, if_neg h2, if_neg h3, if_neg h4, if_neg h5, if_neg h6, if_pos h7]
  exact ⟨_, rfl, Tryz.call34, cV.to (oX hA hl hv) rfl (congrArg (Option.map _) e) (fun W cs v q2 hm hr => ⟨v, q2, e.trans hm, hr⟩)⟩
 rcases qR h with ⟨h8, h⟩ | ⟨h8, h⟩
 ·
  cases h
  have e : bH tk tag y = ((dY tk 2).map fun p => ({ cm0 tag with name := y, a := p.1, b := p.2.2.2.1, flags := p.2.1, sec := (p.2.2.1.getD (0, 0)).1, zone := (p.2.2.1.getD (0, 0)).2, dated := p.2.2.1.isSome }, p.2.2.2.2)) := by unfold bH; rw [if_neg h0, if_neg h1, if_neg h2, if_neg h3, if_neg h4, if_neg h5, if_neg h6, if_neg h7, if_pos h8]
  exact ⟨_, rfl, Tryz.call33, cV.to (vJ hA hl) rfl (congrArg (Option.map _) e) (fun W cs v q2 hm hr => ⟨v, q2, e.trans hm, hr⟩)⟩
 rcases qR h with ⟨h9, h⟩ | ⟨h9, h⟩
 ·
  cases h
  have e : bH tk tag y = ((cL tk 2).map fun p => ({ cm0 tag with name := y, uid := false, a := p.1, attrs := p.2.1 }, p.2.2)) := by unfold bH; rw [if_neg h0, if_neg h1, if_neg h2, if_neg h3, if_neg h4, if_neg h5, if_neg h6, if_neg h7, if_neg h8, if_pos h9]
  exact ⟨_, rfl, Tryz.call32, cV.to (vK hA hl) rfl (congrArg (Option.map _) e) (fun W cs v q2 hm hr => ⟨v, q2, e.trans hm, hr⟩)⟩
 cases h
end
noncomputable def cE (tk : List Tk) : Option CmV := if 0 < tk.length ∧ (tk.getD 0 tk0).1 = 0 then (qW tk 1 [0]).bind fun s => (bH tk (bW tk) (qT s)).bind fun p => if p.2 = tk.length then some p.1 else none else none
theorem yQ {tk : List Tk} {tag y : Tx} (h : eO y = none) : bH tk tag y = none := by
 unfold eO pK pJ pZ at h
 unfold bH
 split at h
 · cases h
 rw [if_neg ‹_›]
 split at h
 · cases h
 rw [if_neg ‹_›]
 split at h
 · cases h
 rw [if_neg ‹_›]
 split at h
 · cases h
 rw [if_neg ‹_›]
 split at h
 · cases h
 rw [if_neg ‹_›]
 split at h
 · cases h
 rw [if_neg ‹_›]
 split at h
 · cases h
 rw [if_neg ‹_›]
 split at h
 · cases h
 rw [if_neg ‹_›]
 split at h
 · cases h
 rw [if_neg ‹_›]
 split at h
 · cases h
 rw [if_neg ‹_›]
theorem qZy (tk : List Tk) : eR tk (fun y => (bH tk (bW tk) y).map (·.2)) = (cE tk).map fun _ => () := by
 unfold eR cE
 split
 ·
  rcases qW tk 1 [0] with _ | s
  · rfl
  rw [zn, zn]
  cases hk : eO (qT s) with
  | none => rw [yQ hk]; rfl
  | some x =>
   rw [if_pos (show (some x).isSome = true from rfl)]
   dsimp only
   rcases bH tk (bW tk) (qT s) with _ | p
   · rfl
   rw [Option.map_some, zn, zn]
   split <;> rfl
 rfl
theorem zL (A : Option Addr) (n c : Nat) (tk : List Tk) (w : World) (hR : RdT w A n tk) (hn : n ≤ 100000) (hl : ∀ x ∈ tk, x.2.length ≤ 50000) (hA : 0 < n → ∀ x ∈ ob A, x < w.heap.size) (hv : bT w) (htb : Tab w) :
  Calls Tryz.prog 10 #[.slice A n c] w fun e w' => Frm [] w w' ∧ ∃ cs' code, e = .returned (.tuple #[.agg cs', .int .i64 code]) ∧ match cE tk with
   | none => cs' = dJ (bW tk) ∧ code = 20
   | some v => code = 0 ∧ bR w' cs' v := by
 refine (gE A n c tk (fun y => (bH tk (bW tk) y).map (·.2)) (fun W cs => ∃ s v q2, qW tk 1 [0] = some s ∧ bH tk (bW tk) (qT s) = some (v, q2) ∧ bR W cs v) w hR hn (fun x hx => zr (hl x hx) jd) (fun W W' g t csx cs h hb ht k => ?_) (fun s hs fv hfv => ?_)).mono fun e w' he => ?_
 ·
  obtain ⟨s, v, q2, h1, h2, h3⟩ := h
  exact ⟨s, v, q2, h1, h2, h3.blk hb ht k⟩
 ·
  obtain ⟨f, e1, e2, e3⟩ := xO (n := n) (c := c) (bW tk) (qT s) hA hl hv htb fv hfv
  refine ⟨f, e1, e2, fun W gp gc cs hP hcs K g1 g2 => (e3 W gp gc cs hP hcs K g1 g2).mono fun e' w' he => ?_⟩
  dsimp only at he ⊢
  rcases hm : bH tk (bW tk) (qT s) with _ | ⟨v, q2⟩
  · rw [hm] at he; exact he
  rw [hm] at he
  obtain ⟨r1, cs2, a, b, ⟨v', q2', e4, e5⟩, o⟩ := he
  exact ⟨r1, cs2, a, b, ⟨s, v', q2', hs, hm.trans e4, e5⟩, o⟩
 obtain ⟨hf, cs', code, r1, h⟩ := he
 rw [qZy] at h
 refine ⟨hf, cs', code, r1, ?_⟩
 rcases hm : cE tk with _ | v
 ·
  rw [hm] at h
  exact h
 rw [hm] at h
 obtain ⟨h1, _, s, v', q2, e1, e2, e3⟩ := h
 refine ⟨h1, ?_⟩
 unfold cE at hm
 rcases qR hm with ⟨_, hm⟩ | ⟨_, hm⟩
 ·
  rw [e1, zn, e2, zn] at hm
  rcases qR hm with ⟨_, hm⟩ | ⟨_, hm⟩
  · cases hm; exact e3
  cases hm
 cases hm
structure Agree (q0 : Nat) (tk tk' : List Tk) : Prop where
 len : tk.length = tk'.length
 at_ : ∀ i, q0 ≤ i → tk.getD i tk0 = tk'.getD i tk0
section
variable {q0 q : Nat} {tk tk' : List Tk} {ks : List Int} {k : Int}
theorem bA (h : Agree q0 tk tk') (hq : q0 ≤ q) : qW tk q ks = qW tk' q ks := by
 unfold qW
 rw [h.len, h.at_ q hq]
theorem cF (h : Agree q0 tk tk') (hq : q0 ≤ q) : IsT tk q k ↔ IsT tk' q k := by
 unfold IsT
 rw [h.len, h.at_ q hq]
theorem nN (h : Agree q0 tk tk') (hq : q0 ≤ q) : dF tk q = dF tk' q := by
 unfold dF
 rw [bA h hq]
theorem qJ0 (h : Agree q0 tk tk') (hq : q0 ≤ q) : gK tk q = gK tk' q := by
 unfold gK
 rw [nN h hq]
theorem zO (h : Agree q0 tk tk') (hq : q0 ≤ q) : eS tk q = eS tk' q := by
 unfold eS
 rw [nN h hq, bA h (jo : q0 ≤ q + 1)]
theorem oS (h : Agree q0 tk tk') (hq : q0 ≤ q) (j : Nat) : bS tk q j = bS tk' q j := by
 unfold bS
 exact zbx fun i _ => by rw [h.at_ (q + i) jo]
theorem uZ (h : Agree q0 tk tk') {R R' : Nat → Nat → Option Nat} {least most : Nat} (hR : ∀ j q, q0 ≤ q → R j q = R' j q) (hm : ∀ j q q2, R j q = some q2 → q ≤ q2) : ∀ (f j q : Nat), q0 ≤ q → dW tk R least most f j q = dW tk' R' least most f j q
 | 0, _, _, _ => rfl
 | f + 1, j, q, hq => by
  unfold dW
  by_cases h1 : IsT tk q 3
  · rw [if_pos h1, if_pos ((cF h hq).1 h1)]
  rw [if_neg h1, if_neg (fun h2 => h1 ((cF h hq).2 h2))]
  by_cases h2 : j < most
  ·
   rw [if_pos h2, if_pos h2, ← hR j q hq]
   cases hr : R j q with
   | none => rfl
   | some q2 =>
    rw [zn, zn]
    exact uZ h hR hm f (j + 1) q2 (zr hq (hm j q q2 hr))
  rw [if_neg h2, if_neg h2]
theorem mR (h : Agree q0 tk tk') {R R' : Nat → Nat → Option Nat} {least most : Nat} (hR : ∀ j q, q0 ≤ q → R j q = R' j q) (hm : ∀ j q q2, R j q = some q2 → q ≤ q2) (hq : q0 ≤ q) : cN tk R least most q = cN tk' R' least most q := by
 unfold cN
 rw [bA h hq]
 congr 1
 funext _
 exact uZ h hR hm _ _ _ jo
theorem qJ1 (h : Agree q0 tk tk') (j : Nat) (hq : q0 ≤ q) : fI tk j q = fI tk' j q := by
 unfold fI
 rw [bA h hq]
theorem qXq (j q q2 : Nat) (h : fI tk j q = some q2) : q ≤ q2 := by
 unfold fI at h
 obtain ⟨_, _, h⟩ := Option.map_eq_some_iff.1 h
 omega
theorem qQa (h : Agree q0 tk tk') (hq : q0 ≤ q) : cL tk q = cL tk' q := by
 unfold cL
 rw [bA h hq, mR h (fun j q hq => qJ1 h j hq) qXq (jo : q0 ≤ q + 1)]
 simp only [oS h (jo : q0 ≤ q + 2)]
theorem qJ2 (h : Agree q0 tk tk') (hq : q0 ≤ q) : dO tk q = dO tk' q := by
 unfold dO
 rw [bA h hq, bA h (jo : q0 ≤ q + 1)]
theorem sW (j q q2 : Nat) (h : kF tk j q = some q2) : q ≤ q2 := by
 obtain ⟨_, _, h⟩ := Option.map_eq_some_iff.1 h
 omega
theorem qQb (h : Agree q0 tk tk') (hq : q0 ≤ q) : gT tk q = gT tk' q := by
 unfold gT
 rw [h.len, mR h (R' := kF tk') (fun j q hq => by unfold kF; rw [bA h hq]) sW hq]
 simp only [oS h (jo : q0 ≤ q + 1)]
theorem vO (h : Agree q0 tk tk') (hq : q0 ≤ q) : lP tk q = lP tk' q := by
 unfold lP
 by_cases h1 : IsT tk q 2
 · rw [if_pos h1, if_pos ((cF h hq).1 h1), qQb h hq]
 rw [if_neg h1, if_neg (fun h2 => h1 ((cF h hq).2 h2))]
theorem qZz (h : Agree q0 tk tk') (hq : q0 ≤ q) : kA tk q = kA tk' q := by
 unfold kA
 have e : (IsT tk q 1 ∧ IsT tk (q + 1) 1) ↔ (IsT tk' q 1 ∧ IsT tk' (q + 1) 1) := and_congr (cF h hq) (cF h jo)
 by_cases h1 : IsT tk q 1 ∧ IsT tk (q + 1) 1
 · rw [if_pos h1, if_pos (e.1 h1), bA h hq]
 rw [if_neg h1, if_neg (fun h2 => h1 (e.2 h2))]
theorem pE {R : Nat → Nat → Option Nat} {least most : Nat} (hm : ∀ j q q2, R j q = some q2 → q ≤ q2) : ∀ (f j q : Nat) (r : Nat × Nat), dW tk R least most f j q = some r → q ≤ r.1
 | 0, _, _, _, h => by cases h
 | f + 1, j, q, r, h => by
  unfold dW at h
  rcases qR h with ⟨_, h⟩ | ⟨_, h⟩
  ·
   rcases qR h with ⟨_, h⟩ | ⟨_, h⟩
   · cases h; exact zt _
   cases h
  rcases qR h with ⟨_, h⟩ | ⟨_, h⟩
  ·
   obtain ⟨q2, h1, h⟩ := Option.bind_eq_some_iff.1 h
   have := pE hm f (j + 1) q2 r h
   have := hm j q q2 h1
   omega
  cases h
theorem pF {R : Nat → Nat → Option Nat} {least most : Nat} (hm : ∀ j q q2, R j q = some q2 → q ≤ q2) {r : Nat × Nat} (h : cN tk R least most q = some r) : q + 1 ≤ r.1 := by
 obtain ⟨_, _, h⟩ := Option.bind_eq_some_iff.1 h
 exact pE hm _ _ _ _ h
theorem qQc {r : List Tx × Nat} (h : lP tk q = some r) : q ≤ r.2 := by
 unfold lP at h
 rcases qR h with ⟨_, h⟩ | ⟨_, h⟩
 ·
  obtain ⟨p, h1, h⟩ := Option.map_eq_some_iff.1 h
  have := pF sW h1
  rw [← h]
  show q ≤ p.1 + 1
  omega
 cases h; exact zt _
theorem qQd {r : Option (Int × Int) × Nat} (h : kA tk q = some r) : q ≤ r.2 := by
 unfold kA at h
 rcases qR h with ⟨_, h⟩ | ⟨_, h⟩
 ·
  obtain ⟨p, h1, h⟩ := Option.bind_eq_some_iff.1 h
  obtain ⟨d, _, h⟩ := Option.map_eq_some_iff.1 h
  rw [← h]
  show q ≤ q + 1
  omega
 cases h; exact zt _
theorem fV {α β : Type} {a : Option α} {f g : α → Option β} (h : ∀ x, a = some x → f x = g x) : a.bind f = a.bind g := by
 cases a with
 | none => rfl
 | some x => exact h x rfl
theorem qJ3 (h : Agree q0 tk tk') (hq : q0 ≤ q) : dY tk q = dY tk' q := by
 unfold dY
 rw [bA h hq, vO h (jo : q0 ≤ q + 1)]
 refine fV fun a _ => fV fun f hf => ?_
 rw [← vO h (jo : q0 ≤ q + 1)] at hf
 have h1 := qQc hf
 rw [qZz h (jo : q0 ≤ f.2)]
 refine fV fun d hd => ?_
 have h2 := qQd hd
 rw [bA h (jo : q0 ≤ d.2)]
theorem qQe (h : Agree q0 tk tk') : ∀ (f q : Nat), q0 ≤ q → nAt tk f q = nAt tk' f q
 | 0, _, _ => rfl
 | f + 1, q, hq => by
  unfold nAt
  by_cases h1 : IsT tk q 0
  · rw [if_pos h1, if_pos ((cF h hq).1 h1), qQe h f (q + 1) jo]
  rw [if_neg h1, if_neg (fun h2 => h1 ((cF h hq).2 h2))]
theorem qZ0 (h : Agree q0 tk tk') (hq : q0 ≤ q) : jI tk q = jI tk' q := by
 unfold jI
 by_cases h1 : IsT tk q 2
 · rw [if_pos h1, if_pos ((cF h hq).1 h1), qQb h hq]
 rw [if_neg h1, if_neg (fun h2 => h1 ((cF h hq).2 h2))]
 by_cases h3 : IsT tk q 0
 · rw [if_pos h3, if_pos ((cF h hq).1 h3), h.len, qQe h _ q hq, oS h hq]
 rw [if_neg h3, if_neg (fun h2 => h3 ((cF h hq).2 h2))]
theorem qQf (h : Agree q0 tk tk') (hq : q0 ≤ q) : eT tk q = eT tk' q := by
 unfold eT
 rw [nN h hq, bA h (jo : q0 ≤ q + 1), qZ0 h (jo : q0 ≤ q + 2)]
theorem wQ (h : Agree q0 tk tk') (hq : q0 ≤ q) : dA tk q = dA tk' q := by
 unfold dA
 rw [bA h hq]
theorem qXr (j q q2 : Nat) (h : jJ tk j q = some q2) : q ≤ q2 := by
 obtain ⟨_, _, h⟩ := Option.map_eq_some_iff.1 h
 omega
theorem uJ (h : Agree q0 tk tk') (hq : q0 ≤ q) : cK tk q = cK tk' q := by
 unfold cK
 rw [nN h hq]
 refine fV fun sp _ => ?_
 by_cases h1 : IsT tk (q + 1) 2
 ·
  rw [if_pos h1, if_pos ((cF h jo).1 h1), mR h (R' := jJ tk') (fun j q hq => by unfold jJ; rw [wQ h hq]) (fun j q q2 hh => qXr j q q2 hh) (jo : q0 ≤ q + 1)]
  congr 1
  funext p
  congr 2
  exact zbx fun i _ => by rw [wQ h (jo : q0 ≤ q + 2 + i)]
 rw [if_neg h1, if_neg (fun h2 => h1 ((cF h jo).2 h2)), bA h (jo : q0 ≤ q + 1)]
def nP (R : Nat → Option (KeyV × Nat)) : Prop := ∀ q k q2, R q = some (k, q2) → q ≤ q2
theorem qXs (h : Agree q0 tk tk') {R R' : Nat → Option (KeyV × Nat)} (hR : ∀ q, q0 ≤ q → R q = R' q) (hg : nP R) (own s : Tx) (hq : q0 ≤ q) : fK tk R own s q = fK tk' R' own s q := by
 unfold fK
 have e : ((R q).bind fun p => (R p.2).map fun r => ((.mk 16 [] [] 0 [] [p.1, r.1] : KeyV), r.2)) = ((R' q).bind fun p => (R' p.2).map fun r => ((.mk 16 [] [] 0 [] [p.1, r.1] : KeyV), r.2)) := by
  rw [← hR q hq]
  exact fV fun p hp => by rw [hR p.2 (zr hq (hg q p.1 p.2 hp))]
 rw [e]
 simp only [bA h hq, bA h (jo : q0 ≤ q + 1), nN h hq, hR q hq]
theorem yX {R : Nat → Option (KeyV × Nat)} (hg : nP R) {own sx : Tx} {q q2 : Nat} {k : KeyV} (h : fK tk R own sx q = some (k, q2)) : q ≤ q2 := by
 unfold fK at h
 rcases qR h with ⟨_, h⟩ | ⟨_, h⟩
 ·
  obtain ⟨t, _, h⟩ := Option.bind_eq_some_iff.1 h
  obtain ⟨z, _, h⟩ := Option.map_eq_some_iff.1 h
  cases h
  omega
 rcases qR h with ⟨_, h⟩ | ⟨_, h⟩
 · cases h; exact zt _
 rcases qR h with ⟨_, h⟩ | ⟨_, h⟩
 · cases h; exact zt _
 rcases qR h with ⟨_, h⟩ | ⟨_, h⟩
 ·
  obtain ⟨t, _, h⟩ := Option.map_eq_some_iff.1 h
  cases h
  omega
 rcases qR h with ⟨_, h⟩ | ⟨_, h⟩
 ·
  obtain ⟨t, _, h⟩ := Option.map_eq_some_iff.1 h
  cases h
  omega
 rcases qR h with ⟨_, h⟩ | ⟨_, h⟩
 ·
  obtain ⟨t, _, h⟩ := Option.bind_eq_some_iff.1 h
  obtain ⟨z, _, h⟩ := Option.map_eq_some_iff.1 h
  cases h
  omega
 rcases qR h with ⟨_, h⟩ | ⟨_, h⟩
 ·
  obtain ⟨t, _, h⟩ := Option.bind_eq_some_iff.1 h
  obtain ⟨z, _, h⟩ := Option.map_eq_some_iff.1 h
  cases h
  omega
 rcases qR h with ⟨_, h⟩ | ⟨_, h⟩
 ·
  obtain ⟨t, _, h⟩ := Option.bind_eq_some_iff.1 h
  rcases qR h with ⟨_, h⟩ | ⟨_, h⟩
  · cases h; omega
  cases h
 rcases qR h with ⟨_, h⟩ | ⟨_, h⟩
 ·
  obtain ⟨t, _, h⟩ := Option.map_eq_some_iff.1 h
  cases h
  omega
 rcases qR h with ⟨_, h⟩ | ⟨_, h⟩
 ·
  obtain ⟨t, _, h⟩ := Option.bind_eq_some_iff.1 h
  obtain ⟨z, _, h⟩ := Option.map_eq_some_iff.1 h
  cases h
  omega
 rcases qR h with ⟨_, h⟩ | ⟨_, h⟩
 ·
  obtain ⟨t, _, h⟩ := Option.map_eq_some_iff.1 h
  cases h
  omega
 rcases qR h with ⟨_, h⟩ | ⟨_, h⟩
 ·
  obtain ⟨t, _, h⟩ := Option.map_eq_some_iff.1 h
  cases h
  omega
 rcases qR h with ⟨_, h⟩ | ⟨_, h⟩
 ·
  obtain ⟨t, _, h⟩ := Option.map_eq_some_iff.1 h
  cases h
  omega
 rcases qR h with ⟨_, h⟩ | ⟨_, h⟩
 ·
  obtain ⟨p, h1, h⟩ := Option.map_eq_some_iff.1 h
  cases h
  exact hg q p.1 p.2 h1
 rcases qR h with ⟨_, h⟩ | ⟨_, h⟩
 ·
  obtain ⟨p, h1, h⟩ := Option.bind_eq_some_iff.1 h
  obtain ⟨r, h2, h⟩ := Option.map_eq_some_iff.1 h
  cases h
  exact zr (hg q p.1 p.2 h1) (hg p.2 r.1 r.2 h2)
 rcases qR h with ⟨_, h⟩ | ⟨_, h⟩
 · cases h; exact zt _
 cases h
theorem qQg {R : Nat → Option (KeyV × Nat)} (hg : nP R) : nP (fN tk R) := fun q k q2 h => by
 unfold fN at h
 rcases qR h with ⟨_, h⟩ | ⟨_, h⟩
 ·
  obtain ⟨p, h1, h⟩ := Option.bind_eq_some_iff.1 h
  obtain ⟨r, _, h⟩ := Option.map_eq_some_iff.1 h
  have := pF (fun j q q2 hh => by
   obtain ⟨x, hx, e⟩ := Option.map_eq_some_iff.1 hh
   rw [← e]
   exact hg q x.1 x.2 hx) h1
  cases h
  omega
 obtain ⟨own, _, h⟩ := Option.bind_eq_some_iff.1 h
 have := yX hg h
 omega
theorem sY {R R' : Nat → Option (KeyV × Nat)} (hR : ∀ q, q0 ≤ q → R q = R' q) (hg : nP R) {q1 : Nat} (hq : q0 ≤ q1) : ∀ j, cT R q1 j = cT R' q1 j ∧ ∀ r, cT R q1 j = some r → q0 ≤ r.2
 | 0 => ⟨rfl, fun r h => by cases h; exact hq⟩
 | j + 1 => by
  obtain ⟨e1, e2⟩ := sY hR hg hq j
  refine ⟨?_, fun r h => ?_⟩
  ·
   show (cT R q1 j).bind _ = (cT R' q1 j).bind _
   rw [← e1]
   exact fV fun p hp => by rw [hR p.2 (e2 p hp)]
  obtain ⟨p, h1, h⟩ := Option.bind_eq_some_iff.1 h
  obtain ⟨k, h2, h⟩ := Option.map_eq_some_iff.1 h
  rw [← h]
  exact zr (e2 p h1) (hg p.2 k.1 k.2 h2)
theorem qZ1 (h : Agree q0 tk tk') {R R' : Nat → Option (KeyV × Nat)} (hR : ∀ q, q0 ≤ q → R q = R' q) (hg : nP R) (hq : q0 ≤ q) : fN tk R q = fN tk' R' q := by
 unfold fN
 by_cases h1 : IsT tk q 2
 ·
  rw [if_pos h1, if_pos ((cF h hq).1 h1), mR h (R' := fun _ k => (R' k).map (·.2)) (fun j q hq => by rw [hR q hq]) (fun j q q2 hh => by
   obtain ⟨x, hx, e⟩ := Option.map_eq_some_iff.1 hh
   rw [← e]
   exact hg q x.1 x.2 hx) hq]
  congr 1
  funext p
  rw [(sY hR hg (jo : q0 ≤ q + 1) p.2).1]
 rw [if_neg h1, if_neg (fun h2 => h1 ((cF h hq).2 h2)), bA h hq]
 congr 1
 funext own
 exact qXs h hR hg own _ jo
theorem lB (h : Agree q0 tk tk') : ∀ f, (∀ q, q0 ≤ q → eZ tk f q = eZ tk' f q) ∧ nP (eZ tk f)
 | 0 => ⟨fun _ _ => rfl, fun _ _ _ h => by cases h⟩
 | f + 1 => ⟨fun q hq => qZ1 h (lB h f).1 (lB h f).2 hq, qQg (lB h f).2⟩
theorem uK {R R' : Nat → Option (KeyV × Nat)} (hR : ∀ q, q0 ≤ q → R q = R' q) (hg : nP R) (m : Nat) : ∀ (f : Nat) (l : List KeyV) (q : Nat), q0 ≤ q → fU R m f l q = fU R' m f l q
 | 0, _, _, _ => rfl
 | f + 1, l, q, hq => by
  unfold fU
  rw [← hR q hq]
  refine fV fun p hp => ?_
  rw [uK hR hg m f _ p.2 (zr hq (hg q p.1 p.2 hp))]
theorem qZ2 (h : Agree q0 tk tk') (hq : q0 ≤ q) : gV tk q = gV tk' q := by
 unfold gV
 have e : (IsT tk q 0 ∧ qT (tk.getD q tk0).2 = [67, 72, 65, 82, 83, 69, 84]) ↔ (IsT tk' q 0 ∧ qT (tk'.getD q tk0).2 = [67, 72, 65, 82, 83, 69, 84]) := by rw [h.at_ q hq]; exact and_congr (cF h hq) Iff.rfl
 by_cases h1 : IsT tk q 0 ∧ qT (tk.getD q tk0).2 = [67, 72, 65, 82, 83, 69, 84]
 · rw [if_pos h1, if_pos (e.1 h1), bA h (jo : q0 ≤ q + 1)]
 rw [if_neg h1, if_neg (fun h2 => h1 (e.2 h2))]
theorem qQh {r : Nat} (h : gV tk q = some r) : q ≤ r := by
 unfold gV at h
 rcases qR h with ⟨_, h⟩ | ⟨_, h⟩
 ·
  obtain ⟨t, _, h⟩ := Option.map_eq_some_iff.1 h
  omega
 cases h; exact zt _
theorem wX (h : Agree q0 tk tk') (hq : q0 ≤ q) : dN tk q = dN tk' q := by
 unfold dN
 rw [← qZ2 h hq]
 refine fV fun q1 h1 => ?_
 rw [h.len, uK (lB h 8).1 (lB h 8).2 tk'.length 64 [] q1 (zr hq (qQh h1))]
end
section
variable {q0 q : Nat} {tk tk' : List Tk} {ks : List Int} {k : Int}
theorem qXt (h : Agree 2 tk tk') (tag y : Tx) : bI tk tag y = bI tk' tag y := by
 unfold bI
 rw [qJ0 h (jo : 2 ≤ 3), wX h (jo : 2 ≤ 3), zO h (jo : 2 ≤ 3), qQf h (jo : 2 ≤ 3), uJ h (jo : 2 ≤ 3)]
theorem qXu (h : Agree 2 tk tk') (tag y : Tx) : bH tk tag y = bH tk' tag y := by
 unfold bH
 have e : ((qW tk 2 [0]).bind fun s => bI tk tag (qT s)) = ((qW tk' 2 [0]).bind fun s => bI tk' tag (qT s)) := by
  rw [bA h (zt 2)]
  exact fV fun s _ => qXt h tag (qT s)
 rw [e, qJ2 h (zt 2), bA h (zt 2), zO h (zt 2), qQf h (zt 2), uJ h (zt 2), wX h (zt 2), qJ3 h (zt 2), qQa h (zt 2)]
theorem qJ4 (h : Agree 2 tk tk') (h0 : tk.getD 0 tk0 = tk'.getD 0 tk0) (h1 : (tk.getD 1 tk0).1 = (tk'.getD 1 tk0).1) (h2 : qT (tk.getD 1 tk0).2 = qT (tk'.getD 1 tk0).2) : cE tk = cE tk' := by
 have hp : bW tk = bW tk' := by unfold bW; rw [h.len, h0]
 unfold cE
 rw [h.len, h0, hp]
 have e : ((qW tk 1 [0]).bind fun s => (bH tk (bW tk') (qT s)).bind fun p => if p.2 = tk'.length then some p.1 else none) = ((qW tk' 1 [0]).bind fun s => (bH tk' (bW tk') (qT s)).bind fun p => if p.2 = tk'.length then some p.1 else none) := by
  by_cases hc : 1 < tk'.length ∧ (tk'.getD 1 tk0).1 ∈ ([0] : List Int)
  ·
   have a1 : qW tk 1 [0] = some (tk.getD 1 tk0).2 := by unfold qW; rw [h.len, h1]; exact if_pos hc
   have a2 : qW tk' 1 [0] = some (tk'.getD 1 tk0).2 := if_pos hc
   rw [a1, a2, zn, zn, h2, qXu h]
  have a1 : qW tk 1 [0] = none := by unfold qW; rw [h.len, h1]; exact if_neg hc
  have a2 : qW tk' 1 [0] = none := if_neg hc
  rw [a1, a2, Option.bind_none, Option.bind_none]
 rw [e]
end
def Le {α : Type} (a a' : Option α) : Prop := ∀ x, a = some x → a' = some x
theorem Le.refl {α : Type} (a : Option α) : Le a a := fun _ h => h
theorem Le.bind {α β : Type} {a a' : Option α} {f f' : α → Option β} (h : Le a a') (hf : ∀ x, a = some x → Le (f x) (f' x)) : Le (a.bind f) (a'.bind f') := fun r hr => by
 obtain ⟨x, h1, h2⟩ := Option.bind_eq_some_iff.1 hr
 rw [h x h1, zn]
 exact hf x h1 r h2
theorem Le.map {α β : Type} {a a' : Option α} {f f' : α → β} (h : Le a a') (hf : ∀ x, a = some x → f x = f' x) : Le (a.map f) (a'.map f') := fun r hr => by
 obtain ⟨x, h1, h2⟩ := Option.map_eq_some_iff.1 hr
 rw [h x h1, Option.map_some, ← hf x h1, h2]
theorem Le.ite {α : Type} {c c' : Prop} [Decidable c] [Decidable c'] {a a' b b' : Option α} (hc : c ↔ c') (h1 : c → Le a a') (h2 : ¬ c → Le b b') : Le (if c then a else b) (if c' then a' else b') := by
 by_cases h : c
 · rw [if_pos h, if_pos (hc.1 h)]; exact h1 h
 rw [if_neg h, if_neg (fun h' => h (hc.2 h'))]; exact h2 h
theorem Le.same {α : Type} {c : Prop} [Decidable c] {a a' b b' : Option α} (h1 : Le a a') (h2 : Le b b') : Le (if c then a else b) (if c then a' else b') := Le.ite Iff.rfl (fun _ => h1) fun _ => h2
def Mo (tk : List Tk) : List Tk := tk ++ [((3 : Int), ([41] : Tx))]
section
variable {tk : List Tk} {q : Nat} {ks : List Int} {k : Int}
theorem cA : (Mo tk).length = tk.length + 1 := by simp [Mo]
theorem lV (h : q < tk.length) : (Mo tk).getD q tk0 = tk.getD q tk0 := by
 unfold Mo
 rw [zf, zf, zdd h]
theorem qQi : (Mo tk).getD tk.length tk0 = (3, [41]) := by
 unfold Mo
 rw [zf, zav (zt _), zeh]
 rfl
theorem bY : Le (qW tk q ks) (qW (Mo tk) q ks) := fun s h => by
 unfold qW at h ⊢
 rcases qR h with ⟨hc, h⟩ | ⟨_, h⟩
 · rw [lV hc.1, cA, if_pos ⟨jo, hc.2⟩]; exact h
 cases h
theorem nF {s : Tx} (h : qW tk q ks = some s) : q < tk.length := by
 unfold qW at h
 rcases qR h with ⟨hc, h⟩ | ⟨_, h⟩
 · exact hc.1
 cases h
theorem dI (hk : k ≠ 3) : IsT tk q k ↔ IsT (Mo tk) q k := by
 unfold IsT
 rw [cA]
 rcases Nat.lt_trichotomy q tk.length with h | h | h
 · rw [lV h]; exact ⟨fun x => ⟨jo, x.2⟩, fun x => ⟨h, x.2⟩⟩
 ·
  subst h
  rw [qQi]
  exact ⟨fun x => absurd x.1 (Nat.lt_irrefl _), fun x => absurd x.2.symm hk⟩
 exact ⟨fun x => jo, fun x => jo⟩
theorem wZ (h : q < tk.length) : IsT tk q k ↔ IsT (Mo tk) q k := by
 unfold IsT
 rw [cA, lV h]
 exact ⟨fun x => ⟨jo, x.2⟩, fun x => ⟨h, x.2⟩⟩
theorem nR : Le (dF tk q) (dF (Mo tk) q) := bY.bind fun _ _ => Le.refl _
theorem qJ5 : Le (gK tk q) (gK (Mo tk) q) := nR.map fun _ _ => rfl
theorem qQj : Le (eS tk q) (eS (Mo tk) q) := nR.bind fun _ _ => bY.map fun _ _ => rfl
theorem qJ6 : Le (dO tk q) (dO (Mo tk) q) := bY.bind fun _ _ => bY.map fun _ _ => rfl
theorem oT {j : Nat} (h : q + j ≤ tk.length) : bS tk q j = bS (Mo tk) q j := by
 unfold bS
 exact zbx fun i hi => by rw [lV (by have := List.mem_range.1 hi; omega)]
theorem uV {R R' : Nat → Nat → Option Nat} {least most most' : Nat} (hR : ∀ j q, Le (R j q) (R' j q)) (hl : ∀ j q q2, R j q = some q2 → q < tk.length) (hm : most ≤ most') : ∀ (f f' j q : Nat), f ≤ f' → Le (dW tk R least most f j q) (dW (Mo tk) R' least most' f' j q)
 | 0, _, _, _, _ => fun _ h => by cases h
 | f + 1, 0, _, _, h => jo
 | f + 1, f' + 1, j, q, hf => fun r h => by
  unfold dW at h ⊢
  rcases qR h with ⟨h1, h⟩ | ⟨h1, h⟩
  · rw [if_pos ((wZ h1.1).1 h1)]; exact h
  rcases qR h with ⟨h2, h⟩ | ⟨_, h⟩
  ·
   obtain ⟨q2, h3, h4⟩ := Option.bind_eq_some_iff.1 h
   rw [if_neg (fun x => h1 ((wZ (hl j q q2 h3)).2 x)), if_pos jo, hR j q q2 h3, zn]
   exact uV hR hl hm f f' (j + 1) q2 jo r h4
  cases h
theorem mS {R R' : Nat → Nat → Option Nat} {least most most' : Nat} (hR : ∀ j q, Le (R j q) (R' j q)) (hl : ∀ j q q2, R j q = some q2 → q < tk.length) (hm : most ≤ most') : Le (cN tk R least most q) (cN (Mo tk) R' least most' q) :=
 bY.bind fun _ _ => uV hR hl hm _ _ _ _ jo
theorem pA {R : Nat → Nat → Option Nat} {least most : Nat} (hs : ∀ j q q2, R j q = some q2 → q2 = q + 1) : ∀ (f j q : Nat) (r : Nat × Nat), dW tk R least most f j q = some r → r.1 + j = q + r.2 ∧ r.1 < tk.length ∧ j ≤ r.2
 | 0, _, _, _, h => by cases h
 | f + 1, j, q, r, h => by
  unfold dW at h
  rcases qR h with ⟨h1, h⟩ | ⟨_, h⟩
  ·
   rcases qR h with ⟨_, h⟩ | ⟨_, h⟩
   · cases h; exact ⟨rfl, h1.1, zt _⟩
   cases h
  rcases qR h with ⟨_, h⟩ | ⟨_, h⟩
  ·
   obtain ⟨q2, h1, h⟩ := Option.bind_eq_some_iff.1 h
   have := pA hs f (j + 1) q2 r h
   have := hs j q q2 h1
   omega
  cases h
theorem mT {R : Nat → Nat → Option Nat} {least most : Nat} (hs : ∀ j q q2, R j q = some q2 → q2 = q + 1) {r : Nat × Nat} (h : cN tk R least most q = some r) : r.1 = q + 1 + r.2 ∧ r.1 < tk.length := by
 obtain ⟨_, _, h⟩ := Option.bind_eq_some_iff.1 h
 have := pA hs _ _ _ _ h
 omega
theorem qJ7 (j q : Nat) : Le (fI tk j q) (fI (Mo tk) j q) := (bY.bind fun _ _ => Le.refl _).map fun _ _ => rfl
theorem qXv (j q q2 : Nat) (h : fI tk j q = some q2) : q2 = q + 1 := by
 obtain ⟨_, _, h⟩ := Option.map_eq_some_iff.1 h
 exact h.symm
theorem qJ8 (j q q2 : Nat) (h : fI tk j q = some q2) : q < tk.length := by
 obtain ⟨_, h, _⟩ := Option.map_eq_some_iff.1 h
 obtain ⟨_, h, _⟩ := Option.bind_eq_some_iff.1 h
 exact nF h
theorem qQk : Le (cL tk q) (cL (Mo tk) q) :=
 bY.bind fun _ _ => (mS qJ7 qJ8 (zt _)).map fun p hp => by
  have := mT qXv hp
  rw [oT jo]
theorem qQl (j q q2 : Nat) (h : kF tk j q = some q2) : q2 = q + 1 := by
 obtain ⟨_, _, h⟩ := Option.map_eq_some_iff.1 h
 exact h.symm
theorem qZ3 (j q q2 : Nat) (h : kF tk j q = some q2) : q < tk.length := by
 obtain ⟨_, h, _⟩ := Option.map_eq_some_iff.1 h
 exact nF h
theorem qQm : Le (gT tk q) (gT (Mo tk) q) :=
 (mS (R' := kF (Mo tk)) (fun _ _ => bY.map fun _ _ => rfl) qZ3 (by rw [cA]; omega)).map fun p hp => by
  have := mT qQl hp
  rw [oT jo]
theorem qZ4 : Le (lP tk q) (lP (Mo tk) q) := Le.ite (dI jd) (fun _ => qQm) fun _ => Le.refl _
theorem qZ5 : Le (kA tk q) (kA (Mo tk) q) := Le.ite (and_congr (dI jd) (dI jd)) (fun _ => bY.bind fun _ _ => Le.refl _) fun _ => Le.refl _
theorem qJ9 : Le (dY tk q) (dY (Mo tk) q) := bY.bind fun _ _ => qZ4.bind fun _ _ => qZ5.bind fun _ _ => bY.map fun _ _ => rfl
theorem qQn : ∀ (f q : Nat), tk.length ≤ q + f → nAt tk f q = nAt (Mo tk) (f + 1) q
 | 0, q, h => by
  have : ¬ IsT (Mo tk) q 0 := fun x => by have := ((dI (tk := tk) jd).2 x).1; omega
  show 0 = if IsT (Mo tk) q 0 then _ else 0
  rw [if_neg this]
 | f + 1, q, h => by
  have e := qQn f (q + 1) jo
  show (if IsT tk q 0 then nAt tk f (q + 1) + 1 else 0) = if IsT (Mo tk) q 0 then nAt (Mo tk) (f + 1) (q + 1) + 1 else 0
  rw [e]
  by_cases h1 : IsT tk q 0
  · rw [if_pos h1, if_pos ((dI jd).1 h1)]
  rw [if_neg h1, if_neg (fun x => h1 ((dI jd).2 x))]
theorem qQo : ∀ (f q : Nat), q ≤ tk.length → q + nAt tk f q ≤ tk.length
 | 0, q, h => h
 | f + 1, q, h => by
  show q + (if IsT tk q 0 then nAt tk f (q + 1) + 1 else 0) ≤ _
  by_cases h1 : IsT tk q 0
  ·
   rw [if_pos h1]
   have := qQo f (q + 1) h1.1
   omega
  rw [if_neg h1]; exact h
theorem qZ6 : Le (jI tk q) (jI (Mo tk) q) := Le.ite (dI jd) (fun _ => qQm) fun _ => Le.ite (dI jd) (fun h => by
  rw [cA, ← qQn tk.length q jo, oT (qQo _ _ (Nat.le_of_lt h.1))]
  exact Le.refl _) fun _ => Le.refl _
theorem qQp : Le (eT tk q) (eT (Mo tk) q) := nR.bind fun _ _ => bY.bind fun _ _ => Le.bind (Le.refl _) fun _ _ => qZ6.map fun _ _ => rfl
theorem qZ7 : Le (dA tk q) (dA (Mo tk) q) := bY.bind fun _ _ => Le.refl _
theorem qZ8 (h : q < tk.length) : dA tk q = dA (Mo tk) q := by
 unfold dA qW
 rw [lV h, cA]
 congr 1
 have e : (q < tk.length ∧ (tk.getD q tk0).1 ∈ ([0] : List Int)) ↔ (q < tk.length + 1 ∧ (tk.getD q tk0).1 ∈ ([0] : List Int)) := ⟨fun x => ⟨jo, x.2⟩, fun x => ⟨h, x.2⟩⟩
 by_cases h1 : q < tk.length ∧ (tk.getD q tk0).1 ∈ ([0] : List Int)
 · rw [if_pos h1, if_pos (e.1 h1)]
 rw [if_neg h1, if_neg (fun x => h1 (e.2 x))]
theorem qXw (j q q2 : Nat) (h : jJ tk j q = some q2) : q2 = q + 1 := by
 obtain ⟨_, _, h⟩ := Option.map_eq_some_iff.1 h
 exact h.symm
theorem qKa (j q q2 : Nat) (h : jJ tk j q = some q2) : q < tk.length := by
 obtain ⟨_, h, _⟩ := Option.map_eq_some_iff.1 h
 obtain ⟨_, h, _⟩ := Option.bind_eq_some_iff.1 h
 exact nF h
theorem uW : Le (cK tk q) (cK (Mo tk) q) := nR.bind fun _ _ => Le.ite (dI jd) (fun _ => (mS (R' := jJ (Mo tk)) (fun _ _ => qZ7.map fun _ _ => rfl) qKa (zt _)).map fun p hp => by
  have := mT qXw hp
  congr 2
  exact zbx fun i hi => by rw [qZ8 (by have := List.mem_range.1 hi; omega)]) fun _ => bY.bind fun _ _ => Le.refl _
theorem qXx {R R' : Nat → Option (KeyV × Nat)} (hR : ∀ q, Le (R q) (R' q)) (own s : Tx) : Le (fK tk R own s q) (fK (Mo tk) R' own s q) := by
 unfold fK
 refine Le.same (bY.bind fun _ _ => Le.refl _) ?_
 refine Le.same (Le.refl _) ?_
 refine Le.same (Le.refl _) ?_
 refine Le.same (Le.refl _) ?_
 refine Le.same (Le.refl _) ?_
 refine Le.same (bY.bind fun _ _ => Le.refl _) ?_
 refine Le.same (bY.bind fun _ _ => Le.refl _) ?_
 refine Le.same (bY.bind fun _ _ => Le.refl _) ?_
 refine Le.same (bY.map fun _ _ => rfl) ?_
 refine Le.same (bY.bind fun _ _ => bY.map fun _ _ => rfl) ?_
 refine Le.same (bY.map fun _ _ => rfl) ?_
 refine Le.same (bY.map fun _ _ => rfl) ?_
 refine Le.same (nR.map fun _ _ => rfl) ?_
 refine Le.same ((hR _).map fun _ _ => rfl) ?_
 refine Le.same ((hR _).bind fun _ _ => (hR _).map fun _ _ => rfl) ?_
 exact Le.refl _
theorem sG {R R' : Nat → Option (KeyV × Nat)} (hR : ∀ q, Le (R q) (R' q)) : ∀ j, Le (cT R q j) (cT R' q j)
 | 0 => Le.refl _
 | j + 1 => (sG hR j).bind fun _ _ => (hR _).map fun _ _ => rfl
theorem qZ9 {R R' : Nat → Option (KeyV × Nat)} (hR : ∀ q, Le (R q) (R' q)) (hl : ∀ q p, R q = some p → q < tk.length) : Le (fN tk R q) (fN (Mo tk) R' q) :=
 Le.ite (dI jd) (fun _ => (mS (R := fun _ k => (R k).map (·.2)) (R' := fun _ k => (R' k).map (·.2)) (fun _ _ => (hR _).map fun _ _ => rfl) (fun _ q _ h => by
  obtain ⟨p, h, _⟩ := Option.map_eq_some_iff.1 h
  exact hl q p h) (zt _)).bind fun _ _ => (sG hR _).map fun _ _ => rfl) fun _ => bY.bind fun _ _ => qXx hR _ _
theorem qJa : ∀ f q p, eZ tk f q = some p → q < tk.length
 | 0, _, _, h => by cases h
 | f + 1, q, p, h => by
  unfold eZ fN at h
  rcases qR h with ⟨h1, _⟩ | ⟨_, h⟩
  · exact h1.1
  obtain ⟨_, h, _⟩ := Option.bind_eq_some_iff.1 h
  exact nF h
theorem wJ : ∀ f q, Le (eZ tk f q) (eZ (Mo tk) f q)
 | 0, _ => Le.refl _
 | f + 1, _ => qZ9 (wJ f) (qJa f)
theorem qXy : ∀ f, eZ (Mo tk) f tk.length = none
 | 0 => rfl
 | f + 1 => by
  unfold eZ fN
  rw [if_neg (fun h => by have := ((dI (tk := tk) (k := 2) jd).2 h).1; omega)]
  have : qW (Mo tk) tk.length [0] = none := by
   unfold qW
   rw [qQi, if_neg jp]
  rw [this]
  rfl
theorem uY {R R' : Nat → Option (KeyV × Nat)} {n : Nat} (hR : ∀ q, Le (R q) (R' q)) (he : R' n = none) : ∀ (f : Nat) (l : List KeyV) (q : Nat) (r : List KeyV × Nat), fU R n f l q = some r → r.2 = n → fU R' (n + 1) f l q = none
 | 0, _, _, _, h, _ => by cases h
 | f + 1, l, q, r, h, hr => by
  unfold fU at h ⊢
  obtain ⟨p, h1, h⟩ := Option.bind_eq_some_iff.1 h
  rw [hR q p h1, zn]
  rcases qR h with ⟨h2, h⟩ | ⟨h2, h⟩
  ·
   rw [if_pos jo]
   exact uY hR he f _ _ r h hr
  cases h
  dsimp only at hr
  rw [if_pos jo, hr]
  cases f with
  | zero => rfl
  | succ f => unfold fU; rw [he]; rfl
theorem qJb : Le (gV tk q) (gV (Mo tk) q) := fun r h => by
 unfold gV at h ⊢
 rcases qR h with ⟨h1, h⟩ | ⟨h1, h⟩
 ·
  have h2 := h1.1.1
  rw [if_pos ⟨(dI jd).1 h1.1, by rw [lV h2]; exact h1.2⟩]
  exact (bY.map (fun _ _ => rfl)) r h
 rw [if_neg (fun x => ?_)]
 · exact h
 have h3 := (dI (tk := tk) jd).2 x.1
 exact h1 ⟨h3, by rw [← lV h3.1]; exact x.2⟩
theorem qJc {p : KeyV × Nat} (h : dN tk q = some p) (hp : p.2 = tk.length) : dN (Mo tk) q = none := by
 unfold dN at h ⊢
 obtain ⟨q1, h1, h⟩ := Option.bind_eq_some_iff.1 h
 obtain ⟨r, h2, h⟩ := Option.bind_eq_some_iff.1 h
 have hr : r.2 = tk.length := by
  rcases qR h with ⟨_, h⟩ | ⟨_, h⟩
  · cases h; exact hp
  cases h
 rw [qJb q1 h1, zn, cA, uY (wJ 8) (qXy 8) _ _ _ r h2 hr]
 rfl
def Lo {α : Type} (n : Nat) (a a' : Option (α × Nat)) : Prop := ∀ x, a = some x → x.2 = n → a' = some x ∨ a' = none
theorem Le.lo {α : Type} {n : Nat} {a a' : Option (α × Nat)} (h : Le a a') : Lo n a a' := fun x hx _ => .inl (h x hx)
theorem Lo.same {α : Type} {n : Nat} {c : Prop} [Decidable c] {a a' b b' : Option (α × Nat)} (h1 : Lo n a a') (h2 : Lo n b b') : Lo n (if c then a else b) (if c then a' else b') := by
 by_cases h : c
 · rw [if_pos h, if_pos h]; exact h1
 rw [if_neg h, if_neg h]; exact h2
theorem wK {α : Type} (g : KeyV → α) : Lo tk.length ((dN tk q).map fun p => (g p.1, p.2)) ((dN (Mo tk) q).map fun p => (g p.1, p.2)) := fun x hx hn => by
 obtain ⟨p, h1, h2⟩ := Option.map_eq_some_iff.1 hx
 subst h2
 rw [qJc h1 hn]
 exact .inr rfl
theorem qXz (tag y : Tx) : Lo tk.length (bI tk tag y) (bI (Mo tk) tag y) := by
 unfold bI
 refine Lo.same (qJ5.map fun _ _ => rfl).lo ?_
 refine Lo.same (wK fun k => ({ cm0 tag with name := y, uid := true, k := k } : CmV)) ?_
 refine Lo.same (qQj.map fun _ _ => rfl).lo ?_
 refine Lo.same (qQp.map fun _ _ => rfl).lo ?_
 refine Lo.same (uW.map fun _ _ => rfl).lo ?_
 exact (Le.refl _).lo
theorem qX0 (tag y : Tx) : Lo tk.length (bH tk tag y) (bH (Mo tk) tag y) := by
 unfold bH
 refine Lo.same (qJ6.map fun _ _ => rfl).lo ?_
 refine Lo.same (bY.map fun _ _ => rfl).lo ?_
 refine Lo.same (Le.refl _).lo ?_
 refine Lo.same (fun x hx hn => ?_) ?_
 ·
  obtain ⟨s, h1, h2⟩ := Option.bind_eq_some_iff.1 hx
  rw [bY s h1, zn]
  exact qXz tag _ x h2 hn
 refine Lo.same (qQj.map fun _ _ => rfl).lo ?_
 refine Lo.same (qQp.map fun _ _ => rfl).lo ?_
 refine Lo.same (uW.map fun _ _ => rfl).lo ?_
 refine Lo.same (wK fun k => ({ cm0 tag with name := y, uid := false, k := k } : CmV)) ?_
 refine Lo.same (qJ9.map fun _ _ => rfl).lo ?_
 refine Lo.same (qQk.map fun _ _ => rfl).lo ?_
 exact (Le.refl _).lo
theorem qKb {v : CmV} (h : cE tk = some v) : cE (Mo tk) = none ∧ bW (Mo tk) = bW tk := by
 unfold cE at h
 rcases qR h with ⟨h0, h⟩ | ⟨_, h⟩
 ·
  have e0 := lV h0.1
  have hp : bW (Mo tk) = bW tk := by
   unfold bW
   rw [cA, e0, if_pos ⟨jo, h0.2⟩, if_pos h0]
  refine ⟨?_, hp⟩
  unfold cE
  rw [cA, e0, hp, if_pos ⟨jo, h0.2⟩]
  obtain ⟨s, h1, h⟩ := Option.bind_eq_some_iff.1 h
  obtain ⟨p, h2, h⟩ := Option.bind_eq_some_iff.1 h
  rw [bY s h1, zn]
  rcases qR h with ⟨h3, _⟩ | ⟨_, h⟩
  ·
   rcases qX0 (bW tk) (qT s) p h2 h3 with e | e
   · rw [e, zn, if_neg jo]
   rw [e]; rfl
  cases h
 cases h
end
theorem cutZ (A : Option Addr) (cap sz : Nat) : wP A cap 0 sz = A := by
 unfold wP
 split
 · rfl
 cases A with
 | none => rfl
 | some a => simp [Addr.add]
def TC (l : List Tk) : List Value := l.flatMap tkC
theorem qQq (l : List Tk) (x : Tk) : TC (l ++ [x]) = TC l ++ tkC x := by simp [TC]
def dG (l : List Tk) : List Tk := (l.take 120).map fun x => (x.1, x.2.take 200)
theorem oU (l : List Tk) : (dG l).length = min 120 l.length := by simp [dG]
theorem qKc {l : List Tk} {i : Nat} (h : i < (dG l).length) : (dG l).take (i + 1) = (dG l).take i ++ [((l.getD i tk0).1, (l.getD i tk0).2.take 200)] := by
 have h2 : i < 120 ∧ i < l.length := by rw [oU] at h; omega
 rw [List.take_succ_eq_append_getElem h]
 congr 2
 simp [dG, zf, h2.2]
theorem oB (A : Option Addr) (n c : Nat) (tk : List Tk) (w : World) (hR : RdT w A n tk) (hn : n ≤ c) (hc : c ≤ 9223372036854775807) : Calls Tryz.prog 9 #[.slice A n c] w fun e w' => ∃ F d, e = .returned (.slice F (dG tk).length d) ∧ Own w' 41 2 F (dG tk).length d (TC (dG tk)) ∧ (∀ x ∈ ob F, w.heap.size ≤ x) ∧ Frm [] w w' := by
 have hln := hR.len
 obtain ⟨N, hN⟩ : ∃ N, N = (dG tk).length := ⟨_, rfl⟩
 have hN2 : N = min 120 n := by rw [hN, oU, hln]
 have K0 := Frm.refl [] w
 rw [← hN]
 refine jV Tryz.func9 Tryz.ntmps9 Tryz.results9 ?_
 refine jS (jR (ja rfl (jO (jN (jv1 0 ?_)))))
 refine jS (jS (jR (jm rfl (jL rfl zs (jb rfl rfl (Bin.gtrN _ 120) (jO (jN (jv2 0 8 ?_))))))))
 refine VC.meet (σ := Unit) (fun s => [(0, .slice A N c)]) (fun s wr => w = wr) ?_ ?_
 ·
  refine jD rfl (fun hc1 => ?_) fun hc1 => ?_
  ·
   refine jR (jm rfl (je (Run.sliceS 0 120 rfl zs zw evB.none_ (evB.some_ rfl) jo jo) (ja rfl (jO ?_))))
   refine jN ⟨(), (js1 (show some (Value.slice (wP A c 0 2) (120 - 0) (c - 0)) = _ from by rw [cutZ, show 120 - 0 = N by omega, zeg])), ?_⟩
   rfl
  refine jQ ?_
  refine jN ⟨(), (js1 (congrArg (fun b => some (Value.slice A b c)) (jo : n = N))), ?_⟩
  rfl
 intro s wr hinv Γ hΓ
 refine jN (VC.sub _ hΓ (jS (jR (ja rfl (jO (jN (jS (jS (jR (jz 0 (jO (jN (jB ?_)))))))))))))
 refine VC.loop (σ := Nat × Option Addr × Nat) (fun s => [(0, .slice A N c), (3, .slice s.2.1 s.1 s.2.2), (4, jI1 s.1)]) (fun s wr => s.1 ≤ N ∧ Own wr 41 2 s.2.1 s.1 s.2.2 (TC ((dG tk).take s.1)) ∧ (∀ x ∈ ob s.2.1, w.heap.size ≤ x) ∧ Frm [] w wr) (fun s => N - s.1) (0, none, 0) (js3 rfl rfl rfl) (by subst hinv; exact ⟨zac _, Own.nil _ _ _, by simp [ob], K0⟩) ?_
 rintro ⟨i, F, d⟩ wr ⟨hi, hO, hF, Kr⟩
 dsimp only at *
 refine jS (jS (jR (jm rfl (jm rfl (jL rfl zs (jb rfl rfl (Bin.lssN _ _) (jO (jN (jv4 0 3 4 14 ?_)))))))))
 refine jD rfl (fun hc2 => ?_) fun hc2 => ?_
 ·
  have hiN : i < N := hc2
  obtain ⟨ad, rfl, hel⟩ := hR.cell (jo : i < n)
  have hstep := qKc (jo : i < (dG tk).length)
  obtain ⟨⟨kd, tx⟩, hx⟩ : ∃ x, x = tk.getD i tk0 := ⟨_, rfl⟩
  rw [← hx] at hel hstep
  have hsz := Kr.size
  refine jQ (jN (jv3 0 3 4 ?_))
  refine jS (jB (jS (jR (jm rfl (jm rfl (je (Run.indexS i rfl rfl zs zw hiN) (je (Run.loadA (cs := tkC (kd, tx)) rfl zdi zw (hel wr Kr) rfl) ?_)))))))
  refine Ops.m (qH.alloc eK) rfl ?_
  rintro _ w5 ⟨rfl, hF5⟩
  obtain ⟨g5, hg5⟩ : ∃ g, g = wr.heap.size := ⟨_, rfl⟩
  have b5 := hF5.blk
  rw [← hg5] at b5 ⊢
  refine Ops.st (qJ.storeA rfl rfl zw b5 rfl (eW _)) ?_
  rintro w6 ⟨b6, hf6, hs6⟩
  have K56 : Frm [] wr w6 := hF5.frm.trans hf6 (fun x hx => .inr (by simp at hx; omega))
  have hO6 := hO.frm K56 jp
  have K6 := Kr.trans K56 jp
  refine jO (jN (jv4 0 3 4 5 ?_))
  refine jS (jS (jR (jf rfl zas rfl zd (jl rfl zj (b6.cell 1) (je (Run.lenT rfl za) (jb rfl rfl (Bin.gtrN _ 200) (jO (jN (jv5 0 3 4 5 24 ?_)))))))))
  refine VC.meet (σ := Unit) (fun s => [(0, .slice (some ad) N c), (3, .slice F i d), (4, jI1 i), (5, jI0 g5)]) (fun s wq => Blk wq g5 41 (tkC (kd, tx.take 200)).toArray ∧ Own wq 41 2 F i d (TC ((dG tk).take i)) ∧ Frm [] w wq) ?_ ?_
  ·
   refine jD rfl (fun hc3 => ?_) fun hc3 => ?_
   ·
    refine jR (jf rfl zas rfl zd (jl rfl zj (b6.cell 1) (je (Run.sliceT 0 200 rfl za evB.none_ (evB.some_ rfl) jo jo) (jf rfl zas rfl zd ?_))))
    refine Ops.st (qJ.store (i := 1) rfl rfl zd b6 rfl rfl) ?_
    rintro w7 ⟨b7, hf7, hs7⟩
    have K7 : Frm [] w w7 := K6.trans hf7 (fun x hx => .inr (by simp at hx; omega))
    have hO7 := hO6.frm hf7 (fun x hx h => by simp at h; have := hO.lt x hx; omega)
    refine jO ?_
    refine jN ⟨(), (js4 rfl rfl rfl rfl), ?_⟩
    exact ⟨b7, hO7, K7⟩
   refine jQ ?_
   refine jN ⟨(), (js4 rfl rfl rfl rfl), ?_⟩
   exact ⟨by rw [zy (Nat.le_of_not_lt hc3)]; exact b6, hO6, K6⟩
  intro s wr hinv Γ hΓ
  refine jN (VC.sub _ hΓ (jR (jm rfl (je (Run.loadA (cs := tkC (kd, tx.take 200)) rfl zdi zw (by simpa using hinv.1.cells) rfl) ?_))))
  refine Ops.m (qH.buildS1 rfl zs zw eK jd jd (by simp [Value.cells, tkC]) rfl) rfl ?_
  rintro _ w8 ⟨rfl, hF8⟩
  obtain ⟨b7, hO7, K7⟩ := hinv
  have hrd : Rd w8 2 (some ⟨wr.heap.size, 0, none⟩) 1 (tkC (kd, tx.take 200)) := Rd.of_blk (n := 1) (size := 2) hF8.blk rfl
  have hO8 := hO7.frm hF8.frm jp
  have hs8 := hF8.frm.size
  have hs7 := K7.size
  refine Ops.m (qH.app rfl rfl zs (sA) rfl jd hO8 hrd (eW _) jo jo) rfl ?_
  rintro _ w9 ⟨F9, d9, rfl, hO9, hf9, hob9⟩
  have K9 : Frm [] w w9 := (K7.trans hF8.frm jp).trans hf9 (fun x hx => .inr (hF x hx))
  refine ja rfl (jO ?_)
  refine qS (jN ?_)
  refine jv3 0 3 4 ?_
  refine jR (jm rfl (jb rfl rfl (Bin.add_i64 _ 1 jo) (ja rfl (jO ?_))))
  refine jN ⟨(i + 1, F9, d9), (js3 rfl rfl rfl), ?_, ?_⟩
  ·
   refine ⟨hiN, ?_, fun x hx => ?_, K9⟩
   · rw [hstep, qQq]; exact hO9
   rcases hob9 with h | h
   · rw [h] at hx; exact hF x hx
   rw [h, zg] at hx; omega
  dsimp only; omega
 refine jX ?_
 refine qV (qV (qC ?_))
 refine jN (jv1 3 ?_)
 refine jS (jR (jm rfl (ja rfl (jO (jN (jv1 2 ?_))))))
 refine jT ?_
 refine qD rfl ?_
 have e : i = N := by have : ¬ i < N := hc2; omega
 subst e
 have h9 : (dG tk).take i = dG tk := by rw [hN, zbp]
 rw [h9] at hO
 exact ⟨F, d, rfl, hO, hF, Kr⟩
end
end Go.Proofs.YtjklfpccmaljjaaGreatDoor
