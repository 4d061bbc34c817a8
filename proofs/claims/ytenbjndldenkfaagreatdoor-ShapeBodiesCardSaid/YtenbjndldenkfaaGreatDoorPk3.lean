/-
  Lemmas on the way, joined: AdS, SecQ, ShP, ShW, ShQ, PartW, PartV, PartU, Eng17, PartO, SecW, ShV.
-/
import Derived.Lib.ItoaNum
import Derived.Lib.SmallJoins
import Derived.Lib.ItoaMem
import Derived.Lib.Join
import Derived.ArgAppend
import Derived.Shelf.Bytes.SlCountOne
import Derived.Test.YtenbjndldenkfaaGreatDoorPk2
namespace Go.Proofs.YtenbjndldenkfaaGreatDoor
open Go.RowKit Go.Sort
set_option maxRecDepth 100000 in
theorem eqA3 (w : World) (a b c : Tx) : (Op.eqFields 9999 #[encStr a, encStr b, encStr c] #[encStr [], encStr [], encStr []] (Tryz.prog.fieldsOf 91).toList).run Tryz.prog w = .ok (decide (a = []) && (decide (b = []) && (decide (c = []) && true))) w := by
 obtain ⟨f0, f1, f2, e, n0, n1, n2, o0, o1, o2, t0, t1, t2⟩ : ∃ f0 f1 f2 : Field, (Tryz.prog.fieldsOf 91).toList = [f0, f1, f2] ∧ f0.name = "Name" ∧ f1.name = "Box" ∧ f2.name = "Host" ∧ f0.offset = 0 ∧ f1.offset = 1 ∧ f2.offset = 2 ∧ f0.type = 9 ∧ f1.type = 9 ∧ f2.type = 9 := ⟨_, _, _, rfl, by kernel_rfl, by kernel_rfl, by kernel_rfl, by kernel_rfl, by kernel_rfl, by kernel_rfl, by kernel_rfl, by kernel_rfl, by kernel_rfl⟩
 rw [e]
 exact eqF_str (P := Tryz.prog) (w := w) (d := 9998) (a := a) (b := []) (by rw [n0]; decide) (by rw [t0]; exact Tryz.isAgg9) (by rw [t0]; exact Tryz.underlying9) (by rw [o0]; rfl) (by rw [o0]; rfl)
  (eqF_str (a := b) (b := []) (by rw [n1]; decide) (by rw [t1]; exact Tryz.isAgg9) (by rw [t1]; exact Tryz.underlying9) (by rw [o1]; rfl) (by rw [o1]; rfl)
   (eqF_str (a := c) (b := []) (by rw [n2]; decide) (by rw [t2]; exact Tryz.isAgg9) (by rw [t2]; exact Tryz.underlying9) (by rw [o2]; rfl) (by rw [o2]; rfl) eqF_nil))
theorem SB_atA {w : World} {A : Option Addr} {l : List Tx} {k : Nat} (h : Rd w 1 A l.length (SB l)) (hk : k < l.length) : ∃ ad, A = some ad ∧ w.cell? (ad.add (k * 1)) = some (encStr l[k]) := by
 rw [Nat.mul_one]
 exact SB_at h hk
def nilA : Adr := ⟨[], [], []⟩
theorem listA_snoc (ps : List Tx) (p : Tx) : ((ps ++ [p]).map oneA).filter (fun a => decide (a ≠ nilA)) = (ps.map oneA).filter (fun a => decide (a ≠ nilA)) ++ (if oneA p = nilA then [] else [oneA p]) := by
 rw [List.map_append, List.filter_append]
 congr 1
 by_cases h : oneA p = nilA
 ·
  rw [if_pos h]; simp [h]
 ·
  rw [if_neg h]; simp [h]
set_option maxRecDepth 100000 in
set_option maxHeartbeats 800000 in
theorem alist_spec (q : Tx) (w : World) (hq : q.length ≤ 400000) :
  Calls Tryz.prog 59 #[encStr q] w fun e w' => Frm [] w w' ∧ ∃ A c, e = .returned (.slice A (listA q).length c) ∧ Own w' 91 3 A (listA q).length c (AC (listA q)) ∧ ∀ x ∈ ob A, w.heap.size ≤ x := by
 have K := Frm.refl [] w
 refine VC.calls (nt := 25) (res := #[.tmp 2]) Tryz.func59 rfl Tryz.ntmps59 Tryz.results59 rfl ?_
 refine js (jr (ja ?_))
 refine jo (jn (jv1 0 ?_))
 refine js (jr (ja ?_))
 refine jo (jn (js (js (jr (jm ?_)))))
 refine Ops.cl (Enters.fn (evs.cons rfl evs.nil) Tryz.call91) ((apieces_spec q _ (by omega))) rfl ?_
 rintro e w1 ⟨f1, P, pc, rfl, hP, hubP⟩
 refine ⟨_, rfl, ?_⟩
 have K := K.trans f1 (by simp)
 have hpl := pcsA_count q (q.zip (usesQ q)) 0 0 false []
 rw [zip_len, show pcsA q (q.zip (usesQ q)) 0 0 false [] = piecesA q from rfl] at hpl
 simp only [List.length_nil, Nat.zero_add] at hpl
 have hpe : ∀ x ∈ piecesA q, x.length ≤ q.length := pcsA_mem q _ 0 0 false [] (by simp)
 refine Ops.r (Run.lenS rfl Tryz.underlying36) rfl ?_
 refine Ops.r (v := .int .i64 ((0 : Nat) : Int)) (Run.mv rfl) rfl ?_
 refine jo (jn (jv4 3 8 9 10 ?_))
 refine jb ?_
 refine VC.loop (σ := Nat × List Adr × Option Addr × Nat) (fun s => [(3, .slice s.2.2.1 s.2.1.length s.2.2.2), (8, .slice P (piecesA q).length pc), (9, .int .i64 (((piecesA q).length : Nat) : Int)), (10, .int .i64 ((s.1 : Nat) : Int))]) (fun s wr => s.1 ≤ (piecesA q).length ∧ s.2.1 = (((piecesA q).take s.1).map oneA).filter (fun a => decide (a ≠ nilA)) ∧ Frm [] w wr ∧ Own wr 9 1 P (piecesA q).length pc (SB (piecesA q)) ∧ Own wr 91 3 s.2.2.1 s.2.1.length s.2.2.2 (AC s.2.1) ∧ s.2.1.length ≤ s.1 ∧ ∀ x ∈ ob s.2.2.1, w.heap.size ≤ x) (fun s => (piecesA q).length - s.1) (0, [], none, 0) (js4 rfl rfl rfl rfl) ⟨Nat.zero_le _, by simp, K, hP, Own.nil _ _ _, Nat.le_refl _, by simp [ob]⟩ ?_
 rintro ⟨k, o, A, c⟩ wr ⟨hk, ho, K, hP, hO, hol, hub⟩
 dsimp only at hk ho hO hol hub ⊢
 refine js (jr ?_)
 refine Ops.r (Run.bin rfl rfl (Bin.lssN _ _)) rfl ?_
 refine jo (jn (js ?_))
 refine VC.condD rfl (fun hc1 => ?_) (fun hc1 => ?_)
 ·
  obtain ⟨adP, hPe, hcell⟩ := SB_atA hP.rd hc1
  have hts := take_snoc hc1
  have hxl := hpe _ (List.getElem_mem hc1)
  have hsn := listA_snoc ((piecesA q).take k) (piecesA q)[k]
  rw [← hts, ← ho] at hsn
  generalize (piecesA q)[k] = x at *
  have hol2 := oneA_len x
  refine jk (jn (jv4 3 8 9 10 ?_))
  refine js (jb (js (jr ?_)))
  refine Ops.r (Run.indexS k (by rw [← hPe]; rfl) rfl Tryz.underlying36 Tryz.sizeOf9 hc1) rfl ?_
  refine Ops.r (Run.load rfl Tryz.isAgg9 hcell) rfl ?_
  refine ja ?_
  refine jo (jn (jv5 3 5 8 9 10 ?_))
  refine js (jr (jm ?_))
  refine Ops.cl (Enters.fn (evs.cons rfl evs.nil) Tryz.call92) ((one_spec x _ (by omega))) rfl ?_
  rintro e w2 ⟨rfl, f2⟩
  refine ⟨_, rfl, ?_⟩
  have K := K.trans f2 (by simp)
  have hP := hP.frm f2 (by simp)
  have hO := hO.frm f2 (by simp)
  generalize oneA x = a at *
  refine Ops.m (Does.alloc zero91) rfl ?_
  rintro _ w3 ⟨rfl, hF3⟩
  have hb6 := hF3.blk
  have sK := K.size
  have hO6 := hO.lt
  have hP6 := hP.lt
  have K := K.trans hF3.frm (by simp)
  have hP := hP.frm hF3.frm (by simp)
  have hO := hO.frm hF3.frm (by simp)
  generalize hg6 : w2.heap.size = g6 at hb6 sK hO6 hP6 ⊢
  refine Ops.st (Acts.storeA rfl rfl Tryz.sizeOf91 hb6 rfl (AC1_one a)) ?_
  rintro w4 ⟨hb6n, f4, _⟩
  have hb6 : Blk w4 g6 91 (AC1 a).toArray := hb6n
  have hP := hP.frm f4 (fun y hy => by have := hP6 y hy; simp; omega)
  have hO := hO.frm f4 (fun y hy => by have := hO6 y hy; simp; omega)
  have K := Frm.own K f4 (fun y hy => by simp at hy; omega)
  refine jo (jn (jv5 3 6 8 9 10 ?_))
  refine js (jr ?_)
  refine Ops.r (Run.loadA rfl Tryz.isAgg91 Tryz.sizeOf91 (fun j v hj => hb6.cells j v hj) (by first | rfl | (simp; done))) rfl ?_
  refine Ops.r (Run.build evs.nil zero91 (places91).choose_spec.1 (places91).choose_spec.2 (cells := #[encStr [], encStr [], encStr []]) rfl) rfl ?_
  refine Ops.r (Run.neqAgg rfl rfl jK jK jK ((eqA3 _ a.name a.box a.host))) rfl ?_
  refine jo (jn (jv6 3 6 8 9 10 18 ?_))
  refine VC.condB rfl (fun hc2 => ?_) (fun hc2 => ?_)
  ·
   have hne : a ≠ nilA := by rintro rfl; exact absurd hc2 (by decide)
   rw [if_neg hne] at hsn
   refine jr (jm ?_)
   refine Ops.r (Run.loadA rfl Tryz.isAgg91 Tryz.sizeOf91 (fun j v hj => hb6.cells j v hj) (by first | rfl | (simp; done))) rfl ?_
   refine Ops.m (Does.buildS1 rfl Tryz.underlying88 Tryz.sizeOf91 zero91 (by decide) (by decide) rfl rfl) rfl ?_
   rintro _ w5 ⟨rfl, hF5⟩
   have hr5 := hrdA (x := a) hF5
   have K := K.trans hF5.frm (by simp)
   have hP := hP.frm hF5.frm (by simp)
   have hO := hO.frm hF5.frm (by simp)
   refine Ops.m (Does.app rfl rfl Tryz.underlying88 (info91) rfl (by decide) hO hr5 (AC_one _) (by omega) (by omega)) rfl ?_
   rintro _ w6 ⟨A6, c6, rfl, hO6, f6, hob6⟩
   have sK := K.size
   have hP := hP.frm f6 (fun y hy => hP.ne_own hO (by decide) y hy)
   have K := Frm.own K f6 hub
   rw [← AC_append] at hO6
   have hub6 : ∀ x ∈ ob A6, w.heap.size ≤ x := up_app hub hob6 sK
   refine ja ?_
   refine jo ?_
   refine blockQ_n (jn ?_)
   refine jv4 3 8 9 10 ?_
   refine jr ?_
   refine Ops.r (Run.bin rfl rfl (Bin.add_i64 _ 1 (by omega))) rfl ?_
   refine jm ?_
   refine jo ?_
   refine jn ⟨(k + 1, o ++ [a], A6, c6), (js4 (by rw [List.length_append]; rfl) rfl rfl rfl), ?_, ?_⟩
   ·
    exact ⟨hc1, hsn.symm, K, hP, by rw [List.length_append]; exact hO6, by simp; omega, hub6⟩
   ·
    first | omega | (dsimp only; omega)
  ·
   have heq : a = nilA := by
    obtain ⟨n, b, c2⟩ := a
    simp only [Bool.not_eq_true, Bool.not_eq_false', Bool.and_eq_true, decide_eq_true_eq, and_true] at hc2
    obtain ⟨h1, h2, h3⟩ := hc2
    have h1 : n = [] := h1
    have h2 : b = [] := h2
    have h3 : c2 = [] := h3
    rw [h1, h2, h3]
    rfl
   rw [if_pos heq, List.append_nil] at hsn
   refine jk ?_
   refine blockQ_n (jn ?_)
   refine jv4 3 8 9 10 ?_
   refine jr ?_
   refine Ops.r (Run.bin rfl rfl (Bin.add_i64 _ 1 (by omega))) rfl ?_
   refine jm ?_
   refine jo ?_
   refine jn ⟨(k + 1, o, A, c), (js4 rfl rfl rfl rfl), ?_, ?_⟩
   ·
    exact ⟨hc1, hsn.symm, K, hP, hO, by dsimp only; omega, hub⟩
   ·
    first | omega | (dsimp only; omega)
 ·
  have hkl : k = (piecesA q).length := by omega
  subst hkl
  rw [List.take_length] at ho
  have ho : o = listA q := ho
  refine jx ?_
  refine thenQ_x (thenQ_x (blockQ_x ?_))
  refine jn (jv1 3 ?_)
  refine js (jr (jm ?_))
  refine ja ?_
  refine jo (jn (jv1 2 ?_))
  refine jt ?_
  refine end1 rfl ?_
  rw [← ho]
  exact ⟨K, A, c, rfl, hO, hub⟩
end Go.Proofs.YtenbjndldenkfaaGreatDoor
namespace Go.Proofs.YtenbjndldenkfaaGreatDoor
open Go.RowKit
def kidL (i : Int) : List Prt → Nat → Int → Int
 | [], _, _ => -1
 | p :: r, k, n => if p.up = i then (if n = 1 then (k : Int) else kidL i r (k + 1) (n - 1)) else kidL i r (k + 1) n
def kidQ (l : List Prt) (i n : Int) : Int := kidL i l 0 n
theorem kidL_res (i : Int) : ∀ (l : List Prt) (k : Nat) (n : Int), kidL i l k n = -1 ∨ ∃ (j : Nat) (p : Prt), l[j]? = some p ∧ kidL i l k n = ((k + j : Nat) : Int) ∧ p.up = i
 | [], _, _ => .inl rfl
 | p :: r, k, n => by
  unfold kidL
  split
  ·
   rename_i hp
   split
   ·
    exact .inr ⟨0, p, rfl, by simp, hp⟩
   ·
    rcases kidL_res i r (k + 1) (n - 1) with h | ⟨j, q, h1, h2, h3⟩
    ·
     exact .inl h
    ·
     exact .inr ⟨j + 1, q, by simpa using h1, by rw [h2]; congr 1; omega, h3⟩
  ·
   rcases kidL_res i r (k + 1) n with h | ⟨j, q, h1, h2, h3⟩
   ·
    exact .inl h
   ·
    exact .inr ⟨j + 1, q, by simpa using h1, by rw [h2]; congr 1; omega, h3⟩
theorem kidQ_res (l : List Prt) (i n : Int) : kidQ l i n = -1 ∨ ∃ (j : Nat) (p : Prt), l[j]? = some p ∧ kidQ l i n = (j : Int) ∧ p.up = i := by
 rcases kidL_res i l 0 n with h | ⟨j, p, h1, h2, h3⟩
 ·
  exact .inl h
 ·
  exact .inr ⟨j, p, h1, by rw [kidQ, h2]; congr 1; omega, h3⟩
theorem kidL_next {i : Int} {l : List Prt} {k : Nat} {n : Int} (h : k < l.length) : kidL i (l.drop k) k n = if l[k].up = i then (if n = 1 then (k : Int) else kidL i (l.drop (k + 1)) (k + 1) (n - 1)) else kidL i (l.drop (k + 1)) (k + 1) n := by
 rw [List.drop_eq_getElem_cons h, kidL]

theorem wrap_dec (m : Int) : IntKind.i64.wrap (IntKind.i64.wrap m - 1) = IntKind.i64.wrap (m - 1) := by
 simp only [IntKind.wrap, IntKind.bits, IntKind.signed, Bool.true_and]
 split <;> split <;> split <;> simp_all <;> omega
theorem wrap_zero {m : Int} (h1 : -9223372036854785808 ≤ m) (h2 : m ≤ 9223372036854775807) : IntKind.i64.wrap m = 0 ↔ m = 0 := by
 simp only [IntKind.wrap, IntKind.bits, IntKind.signed, Bool.true_and]
 split <;> simp_all <;> omega
end Go.Proofs.YtenbjndldenkfaaGreatDoor
namespace Go.Proofs.YtenbjndldenkfaaGreatDoor
open Go.RowKit
def PlainT (s : Tx) : Prop := (∀ c ∈ s, 32 ≤ c.toNat ∧ c.toNat ≤ 126) ∧ s.length ≤ 200
instance (s : Tx) : Decidable (PlainT s) := by unfold PlainT; infer_instance
def escQ : Tx → Tx
 | [] => []
 | c :: r => (if c = 34 ∨ c = 92 then [92, c] else [c]) ++ escQ r
def strQ (s : Tx) : Tx := if PlainT s then 34 :: (escQ s ++ [34]) else 123 :: (Lib.decDigits s.length ++ ([125, 13, 10] ++ s))
def nilT : Tx := [78, 73, 76]
def nstrQ (s : Tx) : Tx := if s = [] then nilT else strQ s
def jnQ : List Tx → Tx
 | [] => []
 | [x] => x
 | x :: r => x ++ 32 :: jnQ r
def listQ (l : List Tx) : Tx := 40 :: (jnQ l ++ [41])
theorem decL (n : Nat) : (Lib.decDigits n).length ≤ n + 1 := by
 induction n using Nat.strongRecOn with
 | ind n ih =>
  unfold Lib.decDigits
  split
  ·
   simp
  ·
   rw [List.length_append]
   have := ih (n / 10) (by omega)
   simp
   omega
theorem escQ_len : ∀ s : Tx, (escQ s).length ≤ 2 * s.length
 | [] => Nat.le_refl _
 | c :: r => by
  have := escQ_len r
  unfold escQ
  rw [List.length_append, List.length_cons]
  split
  ·
   simp only [List.length_cons, List.length_nil]; omega
  ·
   simp only [List.length_cons, List.length_nil]; omega
theorem escQ_app : ∀ a b : Tx, escQ (a ++ b) = escQ a ++ escQ b
 | [], _ => rfl
 | c :: a, b => by
  show _ ++ escQ (a ++ b) = _
  rw [escQ_app a b, ← List.append_assoc]
  rfl
theorem strQ_len (s : Tx) : (strQ s).length ≤ 2 * s.length + 6 := by
 have h1 := escQ_len s
 have h2 := decL s.length
 unfold strQ
 split
 ·
  simp; omega
 ·
  simp; omega
theorem nstrQ_len (s : Tx) : (nstrQ s).length ≤ 2 * s.length + 6 := by
 unfold nstrQ
 split
 ·
  simp [nilT]
 ·
  exact strQ_len s
theorem jnQ_cons (x y : Tx) (r : List Tx) : jnQ (x :: y :: r) = x ++ 32 :: jnQ (y :: r) := rfl
theorem jnQ_len : ∀ l : List Tx, (jnQ l).length ≤ l.flatten.length + l.length
 | [] => Nat.le_refl _
 | [x] => by simp [jnQ]
 | x :: y :: r => by
  have := jnQ_len (y :: r)
  rw [jnQ_cons, List.length_append, List.length_cons, List.flatten_cons, List.length_append]
  simp only [List.length_cons] at this ⊢
  omega
theorem listQ_len (l : List Tx) : (listQ l).length ≤ l.flatten.length + l.length + 2 := by
 have := jnQ_len l
 show (40 :: (jnQ l ++ [41])).length ≤ _
 simp only [List.length_cons, List.length_append, List.length_nil]
 omega

def skipQ (s : Tx) : Tx := match s with
 | [] => []
 | c :: r => if c = 34 then r else if c = 92 then (match r with
  | [] => []
  | _ :: r2 => skipQ r2) else skipQ r
termination_by s.length
theorem skipQ_le : ∀ (n : Nat) (s : Tx), s.length ≤ n → (skipQ s).length ≤ s.length
 | _, [], _ => by unfold skipQ; exact Nat.le_refl _
 | 0, c :: r, h => by simp at h
 | n + 1, c :: r, h => by
  have h1 := skipQ_le n r (by simpa using h)
  unfold skipQ
  split
  ·
   simp
  ·
   split
   ·
    cases r with
    | nil => simp
    | cons x r2 =>
     have := skipQ_le n r2 (by simp at h; omega)
     simp only [List.length_cons]
     omega
   ·
    simp only [List.length_cons]; omega
def numS : Nat → Tx → Nat × Tx
 | n, [] => (n, [])
 | n, c :: r => if 48 ≤ c.toNat ∧ c.toNat ≤ 57 ∧ n < 1000000 then numS (10 * n + c.toNat - 48) r else (n, c :: r)
theorem numS_le : ∀ (s : Tx) (n : Nat), (numS n s).2.length ≤ s.length
 | [], _ => Nat.le_refl _
 | c :: r, n => by
  unfold numS
  split
  ·
   have := numS_le r (10 * n + c.toNat - 48); simp only [List.length_cons]; omega
  ·
   exact Nat.le_refl _
def litQ (s : Tx) : Tx := (numS 0 s).2.drop (3 + (numS 0 s).1)
theorem litQ_le (s : Tx) : (litQ s).length ≤ s.length := by
 have := numS_le s 0
 unfold litQ
 rw [List.length_drop]
 omega
def evenL (s : Tx) (d : Nat) : Bool := match s with
 | [] => false
 | c :: r =>
  if c = 40 then evenL r (d + 1)
  else if c = 41 then (if d ≤ 1 then decide (d = 1 ∧ r = []) else evenL r (d - 1))
  else if c = 34 then evenL (skipQ r) d
  else if c = 123 then evenL (litQ r) d
  else evenL r d
termination_by s.length
decreasing_by
 ·
  simp
 ·
  simp
 ·
  have := skipQ_le r.length r (Nat.le_refl _); simp only [List.length_cons]; omega
 ·
  have := litQ_le r; simp only [List.length_cons]; omega
 ·
  simp
theorem even_on {c : UInt8} (h1 : c ≠ 40) (h2 : c ≠ 41) (h3 : c ≠ 34) (h4 : c ≠ 123) (r : Tx) (d : Nat) : evenL (c :: r) d = evenL r d := by
 conv => lhs; unfold evenL
 rw [if_neg h1, if_neg h2, if_neg h3, if_neg h4]
def Shut (s : Tx) : Prop := ∀ (r : Tx) (d : Nat), 1 ≤ d → evenL (s ++ r) d = evenL r d
theorem Shut.nil : Shut [] := fun _ _ _ => rfl
theorem Shut.app {a b : Tx} (ha : Shut a) (hb : Shut b) : Shut (a ++ b) := fun r d h => by rw [List.append_assoc, ha _ d h, hb r d h]
theorem Shut.cons {c : UInt8} {s : Tx} (h1 : c ≠ 40) (h2 : c ≠ 41) (h3 : c ≠ 34) (h4 : c ≠ 123) (hs : Shut s) : Shut (c :: s) := fun r d h => by
 show evenL (c :: (s ++ r)) d = _
 rw [even_on h1 h2 h3 h4, hs r d h]

def fieldS (q name non : Tx) : Tx := if (findH q name).2 = true then strQ (findH q name).1 else non
def adrS (a : Adr) : Tx := listQ [nstrQ a.name, nilT, nstrQ a.box, nstrQ a.host]
def peopleS (q name non : Tx) : Tx := if listA (findH q name).1 = [] then non else 40 :: (((listA (findH q name).1).map adrS).flatten ++ [41])
def datT : Tx := [68, 97, 116, 101]
def subjT : Tx := [83, 117, 98, 106, 101, 99, 116]
def fromT : Tx := [70, 114, 111, 109]
def sendT : Tx := [83, 101, 110, 100, 101, 114]
def replT : Tx := [82, 101, 112, 108, 121, 45, 84, 111]
def toT : Tx := [84, 111]
def ccT : Tx := [67, 99]
def bccT : Tx := [66, 99, 99]
def inrT : Tx := [73, 110, 45, 82, 101, 112, 108, 121, 45, 84, 111]
def midT : Tx := [77, 101, 115, 115, 97, 103, 101, 45, 73, 68]
def envS (q : Tx) : Tx := listQ [fieldS q datT nilT, fieldS q subjT nilT, peopleS q fromT nilT, peopleS q sendT (peopleS q fromT nilT), peopleS q replT (peopleS q fromT nilT), peopleS q toT nilT, peopleS q ccT nilT, peopleS q bccT nilT, fieldS q inrT nilT, fieldS q midT nilT]
theorem findH_len (q name : Tx) : (findH q name).1.length ≤ q.length := findF_len q name _
theorem fieldS_len (q name non : Tx) (M : Nat) (h : 2 * q.length + 6 ≤ M) (hn : non.length ≤ M) : (fieldS q name non).length ≤ M := by
 unfold fieldS
 split
 ·
  have := strQ_len (findH q name).1
  have := findH_len q name
  omega
 ·
  exact hn
theorem adrS_len {t : Tx} {a : Adr} (h : a ∈ listA t) : (adrS a).length ≤ 12 * t.length + 27 := by
 obtain ⟨h1, h2, h3⟩ := listA_mem a h
 have g1 := nstrQ_len a.name
 have g2 := nstrQ_len a.box
 have g3 := nstrQ_len a.host
 have := listQ_len [nstrQ a.name, nilT, nstrQ a.box, nstrQ a.host]
 simp only [List.flatten_cons, List.length_append, List.flatten_nil, List.length_nil, List.length_cons] at this
 have : nilT.length = 3 := rfl
 unfold adrS
 omega
theorem flat_bound {α : Type} (f : α → Tx) (M : Nat) : ∀ l : List α, (∀ a ∈ l, (f a).length ≤ M) → (l.map f).flatten.length ≤ l.length * M
 | [], _ => by simp
 | a :: r, h => by
  have := flat_bound f M r fun x hx => h x (by simp [hx])
  have := h a (by simp)
  rw [List.map_cons, List.flatten_cons, List.length_append, List.length_cons, Nat.add_mul]
  omega
theorem people_flat {t : Tx} (h : t.length ≤ 2000) : ((listA t).map adrS).flatten.length ≤ 50000000 := by
 have h1 := flat_bound adrS 24027 (listA t) fun a ha => by have := adrS_len ha; omega
 have h2 := listA_count t
 have h3 : (listA t).length * 24027 ≤ 2001 * 24027 := Nat.mul_le_mul_right _ (by omega)
 omega
theorem peopleS_len {q name non : Tx} (h : q.length ≤ 2000) (hn : non.length ≤ 50000002) : (peopleS q name non).length ≤ 50000002 := by
 have h1 := people_flat (t := (findH q name).1) (by have := findH_len q name; omega)
 unfold peopleS
 split
 ·
  exact hn
 ·
  simp only [List.length_cons, List.length_append, List.length_nil]; omega
theorem envS_len {q : Tx} (h : q.length ≤ 2000) : (envS q).length ≤ 400000000 := by
 have hn : nilT.length = 3 := rfl
 have hf := fun n => fieldS_len q n nilT 4006 (by omega) (by omega)
 have hp := fun n => peopleS_len (q := q) (name := n) (non := nilT) h (by omega)
 have hp2 := fun n => peopleS_len (q := q) (name := n) (non := peopleS q fromT nilT) h (hp fromT)
 have := listQ_len [fieldS q datT nilT, fieldS q subjT nilT, peopleS q fromT nilT, peopleS q sendT (peopleS q fromT nilT), peopleS q replT (peopleS q fromT nilT), peopleS q toT nilT, peopleS q ccT nilT, peopleS q bccT nilT, fieldS q inrT nilT, fieldS q midT nilT]
 simp only [List.flatten_cons, List.length_append, List.flatten_nil, List.length_nil, List.length_cons] at this
 have h1 := hf datT; have h2 := hf subjT; have h3 := hf inrT; have h4 := hf midT
 have p1 := hp fromT; have p2 := hp toT; have p3 := hp ccT; have p4 := hp bccT; have p5 := hp2 sendT; have p6 := hp2 replT
 unfold envS
 omega
end Go.Proofs.YtenbjndldenkfaaGreatDoor
namespace Go.Proofs.YtenbjndldenkfaaGreatDoor
open Go.RowKit Go.Sort
def Tab (w : World) : Prop := Lib.TabIs Tryz.prog w "internal/strconv.uint64pow10" .u64 Lib.pow10Tab
theorem Tab.frm {w w' : World} (h : Tab w) (hf : Frm [] w w') : Tab w' := by
 cases hg : Tryz.prog.globalNamed "internal/strconv.uint64pow10" with
 | none =>
  unfold Tab Lib.TabIs World.var? at h
  rw [hg] at h
  cases h
 | some g =>
  unfold Tab Lib.TabIs World.var? at h ⊢
  rw [hg] at h ⊢
  simp only [Option.bind_some] at h ⊢
  cases hb : w.heap[g]? with
  | none => rw [hb] at h; cases h
  | some o => rw [(hf.block g (Array.getElem?_eq_some_iff.1 hb).1 (by simp)).trans hb]; rw [hb] at h; exact h
theorem frm_grown (w : World) (k : Nat) (os : Array Obj) : Frm [] w (grow (w.drewN k) os) := by
 refine ⟨rfl, rfl, rfl, by simp, fun i hi _ => ?_⟩
 rw [heap_grow_old _ _ (by simpa using hi)]
 rfl
theorem itoaN_spec (n : Nat) (w : World) (ht : Tab w) (h1 : n ≤ 9223372036854775807) : Calls Tryz.prog 26 #[.int .i64 ((n : Nat) : Int)] w fun e w' => e = .returned (encStr (Lib.decDigits n)) ∧ Frm [] w w' := by
 refine (Tryz.strconv_Itoa ((n : Nat) : Int) (by omega) (by omega) w ht).mono fun e w' ⟨he, k, os, hw⟩ => ⟨?_, by rw [hw]; exact frm_grown _ _ _⟩
 rw [he]
 have e : Lib.itoa ((n : Nat) : Int) = Lib.decDigits n := by unfold Lib.itoa; rw [if_neg (by omega), Int.toNat_natCast]
 rw [e]
theorem join_jn : ∀ l : List Tx, Lib.join l [32] = jnQ l
 | [] => rfl
 | [x] => Lib.join_one x [32]
 | x :: y :: r => by
  rw [Lib.join_cons, jnQ_cons, ← join_jn (y :: r), Lib.join_cons]
  simp [Lib.joinTail]
theorem joinS_spec (A : Option Addr) (c : Nat) (l : List Tx) (w : World) (h : Rd w 1 A l.length (SB l)) (h0 : 0 < l.length) (hc : l.length ≤ c) (hn : l.length ≤ 1000000) (hl : (jnQ l).length ≤ 100000000000000) :
  Calls Tryz.prog 61 #[.slice A l.length c, encStr [32]] w fun e w' => e = .returned (encStr (jnQ l)) ∧ Frm [] w w' := by
 obtain ⟨b, o, rfl, hb, hcell⟩ := h.plain h0
 have e1 : (l.map (fun s : Tx => (⟨s.toArray⟩ : ByteArray))).length = l.length := by simp
 have e2 : (l.map (fun s : Tx => (⟨s.toArray⟩ : ByteArray))).map (·.data.toList) = l := by
  rw [List.map_map]
  conv => rhs; rw [← List.map_id l]
  exact List.map_congr_left fun s _ => by simp
 have hj := Tryz.strings_Join b o c (l.map (fun s : Tx => (⟨s.toArray⟩ : ByteArray))) ⟨#[32]⟩ w (fun j x hx => by
  rw [List.getElem?_map] at hx
  obtain ⟨s, hs, rfl⟩ := Option.map_eq_some_iff.1 hx
  exact hcell j _ (by show (SB l)[j]? = _; unfold SB; rw [List.getElem?_map, hs]; rfl)) hb (by rw [e1]; omega) (by rw [e1]; exact hc) (by
  rw [e2]
  show (Lib.join l [32]).length ≤ _
  rw [join_jn]
  omega)
 rw [e1, e2] at hj
 refine hj.mono fun e w' ⟨he, hbe⟩ => ⟨?_, Frm.of_below hbe⟩
 rw [he]
 show Ending.returned (encStr (Lib.join l [32])) = _
 rw [join_jn]
set_option maxRecDepth 100000 in
theorem plain_spec (q : Tx) (w : World) (hq : q.length ≤ 1000000) : Calls Tryz.prog 25 #[encStr q] w fun e w' => e = .returned (.bool (decide (PlainT q))) ∧ w = w' := by
 refine VC.calls (nt := 23) (res := #[.tmp 2]) Tryz.func25 rfl Tryz.ntmps25 Tryz.results25 rfl ?_
 refine js (jr (ja ?_))
 refine jo (jn (jv1 0 ?_))
 refine js (js (jr (jm ?_)))
 refine Ops.r (Run.lenT rfl Tryz.underlying9) rfl ?_
 refine Ops.r (v := .int .i64 ((0 : Nat) : Int)) (Run.mv rfl) rfl ?_
 refine jo (jn (jv3 0 5 6 ?_))
 refine jb ?_
 refine VC.loop (σ := Nat) (fun s => [(0, encStr q), (5, .int .i64 ((q.length : Nat) : Int)), (6, .int .i64 ((s : Nat) : Int))]) (fun s wr => s ≤ q.length ∧ w = wr ∧ ∀ c ∈ q.take s, 32 ≤ c.toNat ∧ c.toNat ≤ 126) (fun s => q.length - s) 0 (js3 rfl rfl rfl) ⟨Nat.zero_le _, rfl, by simp⟩ ?_
 rintro k _ ⟨hk, rfl, hall⟩
 refine js (jr ?_)
 refine Ops.r (Run.bin rfl rfl (Bin.lssN _ _)) rfl ?_
 refine jo (jn (js ?_))
 refine VC.condD rfl (fun hc1 => ?_) (fun hc1 => ?_)
 ·
  have hgx : q[k]? = some q[k] := List.getElem?_eq_getElem hc1
  have hts := take_snoc hc1
  have hmem := List.getElem_mem hc1
  generalize q[k] = x at *
  refine jk (jn (jv3 0 5 6 ?_))
  refine js (jb (js (jr (jm ?_))))
  refine ja ?_
  refine jo (jn (jv4 0 3 5 6 ?_))
  refine js ?_
  refine VC.split1 [(0, _), (5, _), (6, _)] (js3 rfl rfl rfl) 18 (.bool (decide (x.toNat < 32 ∨ 126 < x.toNat))) ?_ ?_
  ·
   refine jr ?_
   refine jm ?_
   refine jm ?_
   refine Ops.r (Run.indexT _ rfl rfl Tryz.underlying9 hgx) rfl ?_
   refine Ops.r (Run.bin rfl rfl (Bin.lssN _ 32)) rfl ?_
   by_cases hs12 : x.toNat < 32
   ·
    refine jm ?_
    refine ju ?_
    refine ju ?_
    refine ju ?_
    refine ju ?_
    refine Ops.r (Run.pickT rfl rfl au) rfl ?_
    refine jo ?_
    refine jn ⟨(js4 (jc (by simp [*])) rfl rfl rfl), rfl⟩
   ·
    refine jm ?_
    refine jg ?_
    refine jg ?_
    refine Ops.rg rfl au (Run.indexT _ rfl rfl Tryz.underlying9 hgx) rfl ?_
    refine Ops.rg rfl au (Run.bin rfl rfl (Bin.gtrN _ 126)) rfl ?_
    by_cases hs17 : 126 < x.toNat
    ·
     refine Ops.r (Run.pickF rfl rfl au) rfl ?_
     refine jo ?_
     refine jn ⟨(js4 (jc (by simp [*])) rfl rfl rfl), rfl⟩
    ·
     refine Ops.r (Run.pickF rfl rfl au) rfl ?_
     refine jo ?_
     refine jn ⟨(js4 (jc (by simp [*])) rfl rfl rfl), rfl⟩
  ·
   intro Γ hΓ
   refine jn (VC.sub _ hΓ ?_)
   refine VC.condD rfl (fun hc2 => ?_) (fun hc2 => ?_)
   ·
    refine js (jr (ja ?_))
    refine jo (jn (jv1 2 ?_))
    refine jt ?_
    refine blockQ_r (thenQ_r (thenQ_r (blockQ_r (thenQ_r (end1 rfl ?_)))))
    exact ⟨by rw [decide_eq_false (fun h => by have := h.1 x hmem; omega)], rfl⟩
   ·
    refine jk ?_
    refine blockQ_n (jn ?_)
    refine jv3 0 5 6 ?_
    refine jr ?_
    refine Ops.r (Run.bin rfl rfl (Bin.add_i64 _ 1 (by omega))) rfl ?_
    refine jm ?_
    refine jo ?_
    refine jn ⟨(k + 1), (js3 rfl rfl rfl), ?_, ?_⟩
    ·
     refine ⟨hc1, rfl, fun y hy => ?_⟩
     rw [hts] at hy
     rcases List.mem_append.1 hy with h | h
     ·
      exact hall y h
     ·
      simp only [List.mem_singleton] at h; subst h; omega
    ·
     first | omega | (dsimp only; omega)
 ·
  have hkl : k = q.length := by omega
  subst hkl
  rw [List.take_length] at hall
  refine jx ?_
  refine thenQ_x (thenQ_x (blockQ_x ?_))
  refine jn (jv1 0 ?_)
  refine js (jr (jm ?_))
  refine Ops.r (Run.lenT rfl Tryz.underlying9) rfl ?_
  refine Ops.r (Run.bin rfl rfl (Bin.leqN _ 200)) rfl ?_
  refine ja ?_
  refine jo (jn (jv1 2 ?_))
  refine jt ?_
  refine end1 rfl ?_
  exact ⟨by rw [decide_eq_decide.2 (show q.length ≤ 200 ↔ PlainT q from ⟨fun h => ⟨hall, h⟩, fun h => h.2⟩)], rfl⟩
set_option maxRecDepth 100000 in
set_option maxHeartbeats 800000 in
theorem string_spec (q : Tx) (w : World) (ht : Tab w) (hq : q.length ≤ 400000) : Calls Tryz.prog 10 #[encStr q] w fun e w' => e = .returned (encStr (strQ q)) ∧ Frm [] w w' := by
 have K := Frm.refl [] w
 refine VC.calls (nt := 39) (res := #[.tmp 2]) Tryz.func10 rfl Tryz.ntmps10 Tryz.results10 rfl ?_
 refine js (jr (ja ?_))
 refine jo (jn (jv1 0 ?_))
 refine js (js (jr (jm ?_)))
 refine Ops.cl (Enters.fn (evs.cons rfl evs.nil) Tryz.call25) (plain_spec q _ (by omega)) rfl ?_
 rintro e _ ⟨rfl, rfl⟩
 refine ⟨_, rfl, ?_⟩
 refine Ops.r (Run.not rfl) rfl ?_
 rw [show (!decide (PlainT q)) = decide (¬ PlainT q) by by_cases h : PlainT q <;> simp [h]]
 refine jo (jn (jv2 0 7 ?_))
 refine VC.condB rfl (fun hc1 => ?_) (fun hc1 => ?_)
 ·
  have hsq : strQ q = 123 :: (Lib.decDigits q.length ++ ([125, 13, 10] ++ q)) := by unfold strQ; rw [if_neg (of_decide_eq_true hc1)]
  have hdl := decL q.length
  refine js (jr (jm ?_))
  refine Ops.r (Run.lenT rfl Tryz.underlying9) rfl ?_
  refine Ops.cl (Enters.fn (evs.cons rfl evs.nil) Tryz.call26) ((itoaN_spec q.length _ ht (by omega))) rfl ?_
  rintro e w1 ⟨rfl, f1⟩
  refine ⟨_, rfl, ?_⟩
  have K := K.trans f1 (by simp)
  refine Ops.r (Run.addT (a := [123]) rfl rfl (by simp; omega)) rfl ?_
  refine Ops.r (Run.addT (b := [125, 13, 10]) rfl rfl (by simp; omega)) rfl ?_
  refine jm ?_
  refine Ops.r (Run.addT rfl rfl (by simp; omega)) rfl ?_
  refine ja ?_
  refine jo (jn (jv1 2 ?_))
  refine jt ?_
  refine thenQ_r (end1 rfl ?_)
  exact ⟨by rw [hsq]; simp, K⟩
 ·
  have hsq : strQ q = 34 :: (escQ q ++ [34]) := by unfold strQ; rw [if_pos (Classical.not_not.1 (of_decide_eq_false hc1))]
  refine jk (jn (jv1 0 ?_))
  refine js (jr ?_)
  refine Ops.m (Does.alloc zero50) rfl ?_
  rintro _ w1 ⟨rfl, hF1⟩
  have hb5 : Blk w1 w.heap.size 50 #[.pointer none, .slice none ([] : Tx).length 0] := hF1.blk
  have hg5 := K.size
  have K := K.trans hF1.frm (by simp)
  obtain ⟨g5, hg⟩ : ∃ g, w.heap.size = g := ⟨_, rfl⟩
  rw [hg] at hb5 ⊢
  refine jo (jn (js (jr ?_)))
  refine Ops.cl (Enters.fn (evs.cons rfl (evs.cons rfl evs.nil)) Tryz.call27) (writeByte_spec g5 ([]) 34 none none 0 _ (.inl rfl) hb5 (Own.nil _ _ _) (by simp)) rfl ?_
  have hub : ∀ x ∈ ob none, w.heap.size ≤ x := by simp [ob]
  have hub0 := hub
  rintro e w2 ⟨rfl, Aw2, cw2, hb5, hO, hfw2, hobw2⟩
  refine ⟨_, rfl, ?_⟩
  have hub := up_step hub hobw2 K.size
  have K := Frm.own K hfw2 (fun y hy => by
   simp only [List.mem_cons] at hy
   rcases hy with rfl | hy
   ·
    omega
   ·
    exact hub0 y hy)
  refine jo (jn (jv2 0 3 ?_))
  refine js (js (jr (jm ?_)))
  refine Ops.r (Run.lenT rfl Tryz.underlying9) rfl ?_
  refine Ops.r (v := .int .i64 ((0 : Nat) : Int)) (Run.mv rfl) rfl ?_
  refine jo (jn (jv4 0 3 17 18 ?_))
  refine jb ?_
  refine VC.loop (σ := Nat × Tx × Option Addr × Option Addr × Nat) (fun s => [(0, encStr q), (3, .pointer (some ⟨g5, 0, none⟩)), (17, .int .i64 ((q.length : Nat) : Int)), (18, .int .i64 ((s.1 : Nat) : Int))]) (fun s wr => s.1 ≤ q.length ∧ s.2.1 = 34 :: escQ (q.take s.1) ∧ s.2.1.length ≤ 2 * s.1 + 1 ∧ (s.2.2.1 = none ∨ s.2.2.1 = some (⟨g5, 0, none⟩ : Addr)) ∧ Blk wr g5 50 #[.pointer s.2.2.1, .slice s.2.2.2.1 (s.2.1).length s.2.2.2.2] ∧ Own wr 5 1 s.2.2.2.1 (s.2.1).length s.2.2.2.2 (U8 (s.2.1)) ∧ (∀ x ∈ ob s.2.2.2.1, w.heap.size ≤ x) ∧ Frm [] w wr) (fun s => q.length - s.1) (0, [34], some ⟨g5, 0, none⟩, Aw2, cw2) (js4 rfl rfl rfl rfl) ⟨Nat.zero_le _, rfl, by simp, .inr rfl, hb5, hO, hub, K⟩ ?_
  rintro ⟨k, o, p, A, c⟩ wr ⟨hk, ho, hol, hp, hb5, hO, hub, K⟩
  dsimp only at hk ho hol hp hb5 hO hub ⊢
  refine js (jr ?_)
  refine Ops.r (Run.bin rfl rfl (Bin.lssN _ _)) rfl ?_
  refine jo (jn (js ?_))
  refine VC.condD rfl (fun hc2 => ?_) (fun hc2 => ?_)
  ·
   have hgx : q[k]? = some q[k] := List.getElem?_eq_getElem hc2
   have hts := take_snoc hc2
   generalize q[k] = x at *
   have e34 : x.toNat = 34 ↔ x = 34 := u8n rfl
   have e92 : x.toNat = 92 ↔ x = 92 := u8n rfl
   have hsn : 34 :: escQ (q.take (k + 1)) = (o ++ (if x = 34 ∨ x = 92 then [92] else [])) ++ [x] := by
    rw [hts, escQ_app, ho]
    by_cases h : x = 34 ∨ x = 92 <;> simp [escQ, h]
   refine jk (jn (jv4 0 3 17 18 ?_))
   refine js (jb (js (jr (jm ?_))))
   refine ja ?_
   refine jo (jn (jv5 0 3 4 17 18 ?_))
   refine js (js ?_)
   refine VC.split1 [(0, _), (3, _), (4, _), (17, _), (18, _)] (js5 rfl rfl rfl rfl rfl) 30 (.bool (decide ((x.toNat = 34) ∨ (x.toNat = 92)))) ?_ ?_
   ·
    by_cases hs0 : x.toNat = 34
    ·
     refine jr (jm ?_)
     refine jm ?_
     refine Ops.r (Run.indexT _ rfl rfl Tryz.underlying9 hgx) rfl ?_
     refine Ops.r (Run.bin rfl rfl (Bin.eqlN _ 34)) rfl ?_
     refine jm ?_
     refine ju ?_
     refine ju ?_
     refine ju ?_
     refine ju ?_
     refine Ops.r (Run.pickT rfl rfl au) rfl ?_
     refine jo ?_
     refine jn ⟨(js6 (by rw [dor1 hs0]; rfl) rfl rfl rfl rfl rfl), rfl⟩
    ·
     refine jr (jm ?_)
     refine jm ?_
     refine Ops.r (Run.indexT _ rfl rfl Tryz.underlying9 hgx) rfl ?_
     refine Ops.r (Run.bin rfl rfl (Bin.eqlN _ 34)) rfl ?_
     refine jm ?_
     refine jg ?_
     refine jg ?_
     refine Ops.rg rfl au (Run.indexT _ rfl rfl Tryz.underlying9 hgx) rfl ?_
     refine Ops.rg rfl au (Run.bin rfl rfl (Bin.eqlN _ 92)) rfl ?_
     refine Ops.r (Run.pickF rfl rfl au) rfl ?_
     refine jo ?_
     refine jn ⟨(js6 (by rw [dor0 hs0]; rfl) rfl rfl rfl rfl rfl), rfl⟩
   ·
    intro Γ hΓ
    refine jn (VC.sub _ hΓ ?_)
    refine VC.meet (σ := Tx × Option Addr × Option Addr × Nat) (fun s => [(0, encStr q), (3, .pointer (some ⟨g5, 0, none⟩)), (4, .int .i64 ((k : Nat) : Int)), (17, .int .i64 ((q.length : Nat) : Int)), (18, .int .i64 ((k : Nat) : Int))]) (fun s wz => s.1 = o ++ (if x = 34 ∨ x = 92 then [92] else []) ∧ s.1.length ≤ 2 * k + 2 ∧ (s.2.1 = none ∨ s.2.1 = some (⟨g5, 0, none⟩ : Addr)) ∧ Blk wz g5 50 #[.pointer s.2.1, .slice s.2.2.1 (s.1).length s.2.2.2] ∧ Own wz 5 1 s.2.2.1 (s.1).length s.2.2.2 (U8 (s.1)) ∧ (∀ x ∈ ob s.2.2.1, w.heap.size ≤ x) ∧ Frm [] w wz) ?_ ?_
    ·
     refine VC.condD rfl (fun hc3 => ?_) (fun hc3 => ?_)
     ·
      refine jr ?_
      refine Ops.cl (Enters.fn (evs.cons rfl (evs.cons rfl evs.nil)) Tryz.call27) (writeByte_spec g5 (o) 92 p A c _ hp hb5 hO (by omega)) rfl ?_
      have hub0 := hub
      rintro e w3 ⟨rfl, Aw3, cw3, hb5, hO, hfw3, hobw3⟩
      refine ⟨_, rfl, ?_⟩
      have hub := up_step hub hobw3 K.size
      have K := Frm.own K hfw3 (fun y hy => by
       simp only [List.mem_cons] at hy
       rcases hy with rfl | hy
       ·
        omega
       ·
        exact hub0 y hy)
      refine jo ?_
      refine jn ⟨(o ++ [92], some ⟨g5, 0, none⟩, Aw3, cw3), (js5 rfl rfl rfl rfl rfl), ?_⟩
      exact ⟨by rw [if_pos (hc3.imp e34.1 e92.1)], by simp; omega, .inr rfl, hb5, hO, hub, K⟩
     ·
      refine jk ?_
      refine jn ⟨(o, p, A, c), (js5 rfl rfl rfl rfl rfl), ?_⟩
      exact ⟨by rw [if_neg (fun h => hc3 (h.imp e34.2 e92.2)), List.append_nil], by dsimp only; omega, hp, hb5, hO, hub, K⟩
    ·
     rintro ⟨o2, p, A, c⟩ wz ⟨ho2, ho2l, hp, hb5, hO, hub, K⟩ Γ hΓ
     dsimp only at ho2 ho2l hp hb5 hO hub
     rw [← ho2] at hsn
     refine jn (VC.sub _ hΓ ?_)
     refine jr (jm ?_)
     refine jm ?_
     refine Ops.r (Run.indexT _ rfl rfl Tryz.underlying9 hgx) rfl ?_
     refine Ops.cl (Enters.fn (evs.cons rfl (evs.cons rfl evs.nil)) Tryz.call27) (writeByte_spec g5 (o2) x p A c _ hp hb5 hO (by omega)) rfl ?_
     have hub0 := hub
     rintro e w4 ⟨rfl, Aw4, cw4, hb5, hO, hfw4, hobw4⟩
     refine ⟨_, rfl, ?_⟩
     have hub := up_step hub hobw4 K.size
     have K := Frm.own K hfw4 (fun y hy => by
      simp only [List.mem_cons] at hy
      rcases hy with rfl | hy
      ·
       omega
      ·
       exact hub0 y hy)
     refine jo ?_
     refine blockQ_n (jn ?_)
     refine jv4 0 3 17 18 ?_
     refine jr ?_
     refine Ops.r (Run.bin rfl rfl (Bin.add_i64 _ 1 (by omega))) rfl ?_
     refine jm ?_
     refine jo ?_
     refine jn ⟨(k + 1, o2 ++ [x], some ⟨g5, 0, none⟩, Aw4, cw4), (js4 rfl rfl rfl rfl), ?_, ?_⟩
     ·
      exact ⟨hc2, hsn.symm, by simp; omega, .inr rfl, hb5, hO, hub, K⟩
     ·
      first | omega | (dsimp only; omega)
  ·
   have hkl : k = q.length := by omega
   subst hkl
   rw [List.take_length] at ho
   refine jx ?_
   refine thenQ_x (thenQ_x (blockQ_x ?_))
   refine jn (jv1 3 ?_)
   refine js (jr ?_)
   refine Ops.cl (Enters.fn (evs.cons rfl (evs.cons rfl evs.nil)) Tryz.call27) (writeByte_spec g5 (o) 34 p A c _ hp hb5 hO (by omega)) rfl ?_
   have hub0 := hub
   rintro e w5 ⟨rfl, Aw5, cw5, hb5, hO, hfw5, hobw5⟩
   refine ⟨_, rfl, ?_⟩
   have hub := up_step hub hobw5 K.size
   have K := Frm.own K hfw5 (fun y hy => by
    simp only [List.mem_cons] at hy
    rcases hy with rfl | hy
    ·
     omega
    ·
     exact hub0 y hy)
   refine jo (jn (jv1 3 ?_))
   refine js (jr ?_)
   refine Ops.cl (Enters.fn (evs.cons rfl evs.nil) Tryz.call28) ((Tryz.Builder_String_any w.heap.size g5 (o ++ [34]) _ (Bld.isB (.inr rfl) hb5 hO (by omega) (fun x hx => by have := hub x hx; omega)) K.size)) rfl ?_
   rintro e w6 ⟨rfl, hbe⟩
   refine ⟨_, rfl, ?_⟩
   have K6 := Frm.of_below (K.below.trans hbe)
   refine ja ?_
   refine jo (jn (jv1 2 ?_))
   refine jt ?_
   refine end1 rfl ?_
   exact ⟨by rw [hsq, ho]; rfl, K6⟩
set_option maxRecDepth 100000 in
theorem nstring_spec (q : Tx) (w : World) (ht : Tab w) (hq : q.length ≤ 400000) : Calls Tryz.prog 60 #[encStr q] w fun e w' => e = .returned (encStr (nstrQ q)) ∧ Frm [] w w' := by
 refine VC.calls (nt := 7) (res := #[.tmp 2]) Tryz.func60 rfl Tryz.ntmps60 Tryz.results60 rfl ?_
 refine js (jr (ja ?_))
 refine jo (jn (jv1 0 ?_))
 refine js (js (jr (jm ?_)))
 refine Ops.r (Run.eqlT rfl rfl) rfl ?_
 refine jo (jn (jv2 0 4 ?_))
 refine VC.condD rfl (fun hc1 => ?_) (fun hc1 => ?_)
 ·
  refine js (jr (ja ?_))
  refine jo (jn (jv1 2 ?_))
  refine jt ?_
  refine thenQ_r (end1 rfl ?_)
  exact ⟨by unfold nstrQ; rw [if_pos hc1]; rfl, Frm.refl _ _⟩
 ·
  refine jk (jn (jv1 0 ?_))
  refine js (jr (jm ?_))
  refine Ops.cl (Enters.fn (evs.cons rfl evs.nil) Tryz.call10) ((string_spec q _ ht hq)) rfl ?_
  rintro e w1 ⟨rfl, f1⟩
  refine ⟨_, rfl, ?_⟩
  refine ja ?_
  refine jo (jn (jv1 2 ?_))
  refine jt ?_
  refine end1 rfl ?_
  exact ⟨by unfold nstrQ; rw [if_neg hc1], f1⟩
set_option maxRecDepth 100000 in
theorem list_spec (A : Option Addr) (c : Nat) (l : List Tx) (w : World) (h : Rd w 1 A l.length (SB l)) (h0 : 0 < l.length) (hc : l.length ≤ c) (hn : l.length ≤ 1000000) (hl : l.flatten.length ≤ 90000000000000) :
  Calls Tryz.prog 34 #[.slice A l.length c] w fun e w' => e = .returned (encStr (listQ l)) ∧ Frm [] w w' := by
 have hj := jnQ_len l
 refine VC.calls (nt := 7) (res := #[.tmp 2]) Tryz.func34 rfl Tryz.ntmps34 Tryz.results34 rfl ?_
 refine js (jr (ja ?_))
 refine jo (jn (jv1 0 ?_))
 refine js (jr (jm ?_))
 refine Ops.cl (Enters.fn (evs.cons rfl (evs.cons rfl evs.nil)) Tryz.call61) ((joinS_spec A c l _ h h0 hc hn (by omega))) rfl ?_
 rintro e w1 ⟨rfl, f1⟩
 refine ⟨_, rfl, ?_⟩
 refine Ops.r (Run.addT (a := [40]) rfl rfl (by simp; omega)) rfl ?_
 refine Ops.r (Run.addT (b := [41]) rfl rfl (by simp; omega)) rfl ?_
 refine ja ?_
 refine jo (jn (jv1 2 ?_))
 refine jt ?_
 refine end1 rfl ?_
 exact ⟨by unfold listQ; simp, f1⟩
set_option maxRecDepth 100000 in
theorem field_spec (A : Option Addr) (c : Nat) (q nm non : Tx) (w : World) (ht : Tab w) (hrd : Rd w 1 A q.length (U8 q)) (hq : q.length ≤ 400000) (hc : q.length ≤ c) (hnl : nm.length ≤ 1000000) :
  Calls Tryz.prog 31 #[.slice A q.length c, encStr nm, encStr non] w fun e w' => e = .returned (encStr (fieldS q nm non)) ∧ Frm [] w w' := by
 have K := Frm.refl [] w
 have hfl := findH_len q nm
 refine VC.calls (nt := 19) (res := #[.tmp 6]) Tryz.func31 rfl Tryz.ntmps31 Tryz.results31 rfl ?_
 refine js (jr (ja ?_))
 refine jo (jn (jv3 0 1 2 ?_))
 refine js (js (jr (jm ?_)))
 refine jm ?_
 refine Ops.cl (Enters.fn (evs.cons rfl (evs.cons rfl evs.nil)) Tryz.call58) ((hfind_spec A c q nm _ hrd (by omega) hc hnl)) rfl ?_
 rintro e w1 ⟨rfl, f1⟩
 refine ⟨_, rfl, ?_⟩
 have K := K.trans f1 (by simp)
 refine jm ?_
 refine Ops.r (Run.extract rfl rfl) rfl ?_
 refine Ops.r (Run.extract rfl rfl) rfl ?_
 refine ja ?_
 refine ja ?_
 refine jo (jn (jv3 2 7 8 ?_))
 refine js (jr (jm ?_))
 refine jo (jn (jv3 2 7 15 ?_))
 refine VC.condB rfl (fun hc1 => ?_) (fun hc1 => ?_)
 ·
  refine js (jr (jm ?_))
  refine Ops.cl (Enters.fn (evs.cons rfl evs.nil) Tryz.call10) ((string_spec (findH q nm).1 _ (ht.frm K) (by omega))) rfl ?_
  rintro e w2 ⟨rfl, f2⟩
  refine ⟨_, rfl, ?_⟩
  have K := K.trans f2 (by simp)
  refine ja ?_
  refine jo (jn (jv1 6 ?_))
  refine jt ?_
  refine thenQ_r (end1 rfl ?_)
  exact ⟨by unfold fieldS; rw [if_pos hc1], K⟩
 ·
  refine jk (jn (jv1 2 ?_))
  refine js (jr (jm ?_))
  refine ja ?_
  refine jo (jn (jv1 6 ?_))
  refine jt ?_
  refine end1 rfl ?_
  exact ⟨by unfold fieldS; rw [if_neg (by simp [hc1])], K⟩
set_option maxRecDepth 100000 in
set_option maxHeartbeats 800000 in
theorem people_spec (A : Option Addr) (c : Nat) (q nm non : Tx) (w : World) (ht : Tab w) (hrd : Rd w 1 A q.length (U8 q)) (hq : q.length ≤ 2000) (hc : q.length ≤ c) (hnl : nm.length ≤ 1000000) :
  Calls Tryz.prog 33 #[.slice A q.length c, encStr nm, encStr non] w fun e w' => e = .returned (encStr (peopleS q nm non)) ∧ Frm [] w w' := by
 have K := Frm.refl [] w
 have hfl := findH_len q nm
 refine VC.calls (nt := 48) (res := #[.tmp 6]) Tryz.func33 rfl Tryz.ntmps33 Tryz.results33 rfl ?_
 refine js (jr (ja ?_))
 refine jo (jn (jv3 0 1 2 ?_))
 refine js (jr (jm ?_))
 refine jm ?_
 refine Ops.cl (Enters.fn (evs.cons rfl (evs.cons rfl evs.nil)) Tryz.call58) ((hfind_spec A c q nm _ hrd (by omega) hc hnl)) rfl ?_
 rintro e w1 ⟨rfl, f1⟩
 refine ⟨_, rfl, ?_⟩
 have K := K.trans f1 (by simp)
 have hpf := people_flat (t := (findH q nm).1) (by omega)
 have hcnt := listA_count (findH q nm).1
 have hmem : ∀ a ∈ listA (findH q nm).1, a.name.length ≤ 4000 ∧ a.box.length ≤ 4000 ∧ a.host.length ≤ 4000 := fun a ha => by have := listA_mem a ha; omega
 have hpS : peopleS q nm non = if listA (findH q nm).1 = [] then non else 40 :: (((listA (findH q nm).1).map adrS).flatten ++ [41]) := rfl
 have hal : ∀ a ∈ listA (findH q nm).1, (adrS a).length ≤ 12 * (findH q nm).1.length + 27 := fun a ha => adrS_len ha
 refine jm ?_
 refine Ops.r (Run.extract rfl rfl) rfl ?_
 refine Ops.r (Run.extract rfl rfl) rfl ?_
 refine ja ?_
 refine ja ?_
 refine jo (jn (jv2 2 7 ?_))
 refine js (jr (jm ?_))
 refine Ops.cl (Enters.fn (evs.cons rfl evs.nil) Tryz.call59) ((alist_spec (findH q nm).1 _ (by omega))) rfl ?_
 rintro e w2 ⟨f2, L, lc, rfl, hL, hubL⟩
 refine ⟨_, rfl, ?_⟩
 have K := K.trans f2 (by simp)
 generalize listA (findH q nm).1 = l at *
 refine ja ?_
 refine jo (jn (jv2 2 9 ?_))
 refine js (js (jr (jm ?_)))
 refine Ops.r (Run.lenS rfl Tryz.underlying88) rfl ?_
 refine Ops.r (Run.bin rfl rfl (Bin.eqlN _ 0)) rfl ?_
 refine jo (jn (jv3 2 9 23 ?_))
 refine VC.condD rfl (fun hc1 => ?_) (fun hc1 => ?_)
 ·
  have hl0 : l = [] := List.length_eq_zero_iff.1 hc1
  refine js (jr (jm ?_))
  refine ja ?_
  refine jo (jn (jv1 6 ?_))
  refine jt ?_
  refine thenQ_r (end1 rfl ?_)
  exact ⟨by rw [hpS, if_pos hl0], K⟩
 ·
  have hl0 : l ≠ [] := fun h => hc1 (by rw [h]; rfl)
  refine jk (jn (jv1 9 ?_))
  refine js (jr (ja ?_))
  refine jo (jn (js (js (jr (jm ?_)))))
  refine Ops.r (Run.lenS rfl Tryz.underlying88) rfl ?_
  refine Ops.r (v := .int .i64 ((0 : Nat) : Int)) (Run.mv rfl) rfl ?_
  refine jo (jn (jv4 10 25 26 27 ?_))
  refine jb ?_
  refine VC.loop (σ := Nat) (fun s => [(10, encStr (((l.take s).map adrS).flatten)), (25, .slice L l.length lc), (26, .int .i64 ((l.length : Nat) : Int)), (27, .int .i64 ((s : Nat) : Int))]) (fun s wr => s ≤ l.length ∧ Frm [] w wr ∧ Own wr 91 3 L l.length lc (AC l)) (fun s => l.length - s) 0 (js4 rfl rfl rfl rfl) ⟨Nat.zero_le _, K, hL⟩ ?_
  rintro k wr ⟨hk, K, hL⟩
  have hpre : (((l.take k).map adrS).flatten).length ≤ ((l.map adrS).flatten).length := by
   conv => rhs; rw [← List.take_append_drop k l, List.map_append, List.flatten_append, List.length_append]
   omega
  refine js (jr ?_)
  refine Ops.r (Run.bin rfl rfl (Bin.lssN _ _)) rfl ?_
  refine jo (jn (js ?_))
  refine VC.condD rfl (fun hc2 => ?_) (fun hc2 => ?_)
  ·
   obtain ⟨adL, hLe, hcell⟩ := AC_at hL.rd hc2
   have hts := take_snoc hc2
   have hm := hmem _ (List.getElem_mem hc2)
   have hal1 := hal _ (List.getElem_mem hc2)
   have hsn : ((l.take (k + 1)).map adrS).flatten = ((l.take k).map adrS).flatten ++ adrS l[k] := by rw [hts, List.map_append, List.flatten_append]; simp
   generalize l[k] = a at *
   have g1 := nstrQ_len a.name
   have g2 := nstrQ_len a.box
   have g3 := nstrQ_len a.host
   have g4 : nilT.length = 3 := rfl
   refine jk (jn (jv4 10 25 26 27 ?_))
   refine js (jb (js (jr ?_)))
   refine Ops.r (Run.indexS k (by rw [← hLe]; rfl) rfl Tryz.underlying88 Tryz.sizeOf91 hc2) rfl ?_
   refine Ops.r (Run.loadA rfl Tryz.isAgg91 Tryz.sizeOf91 hcell (by first | rfl | (simp; done))) rfl ?_
   refine Ops.m (Does.alloc zero91) rfl ?_
   rintro _ w3 ⟨rfl, hF3⟩
   have hb12 := hF3.blk
   have sK := K.size
   have hL3 := hL.lt
   have K := K.trans hF3.frm (by simp)
   have hL := hL.frm hF3.frm (by simp)
   generalize hg12 : wr.heap.size = g12 at hb12 sK hL3 ⊢
   refine Ops.st (Acts.storeA rfl rfl Tryz.sizeOf91 hb12 rfl (AC1_one a)) ?_
   rintro w4 ⟨hb12n, f4, _⟩
   have hb12 : Blk w4 g12 91 (AC1 a).toArray := hb12n
   have hL := hL.frm f4 (fun y hy => by have := hL3 y hy; simp; omega)
   have K := Frm.own K f4 (fun y hy => by simp at hy; omega)
   refine jo (jn (jv5 10 12 25 26 27 ?_))
   refine VC.held (fun W => Frm [] w4 W) jK ?_
   have hS : Frm [] w4 w4.drew := (Frm.refl _ _).drew
   refine jh 0 rfl hS (fun w0 hw0 => Run.mv rfl) ?_
   refine jh 1 rfl hS (fun w0 hw0 => Run.fieldAddr rfl Tryz.underlying91 rfl Tryz.sizeOf9 (by decide)) ?_
   refine jh 2 rfl hS (fun w0 hw0 => Run.load rfl Tryz.isAgg9 ((hb12.frm hw0 (by simp)).cell 0)) ?_
   refine jh 4 rfl hS (fun w0 hw0 => Run.fieldAddr rfl Tryz.underlying91 rfl Tryz.sizeOf9 (by decide)) ?_
   refine jh 5 rfl hS (fun w0 hw0 => Run.load rfl Tryz.isAgg9 ((hb12.frm hw0 (by simp)).cell 1)) ?_
   refine jh 7 rfl hS (fun w0 hw0 => Run.fieldAddr rfl Tryz.underlying91 rfl Tryz.sizeOf9 (by decide)) ?_
   refine jh 8 rfl hS (fun w0 hw0 => Run.load rfl Tryz.isAgg9 ((hb12.frm hw0 (by simp)).cell 2)) ?_
   refine HOps.cl 3 rfl jK (Enters.fn (evs.cons rfl evs.nil) Tryz.call60) ((nstring_spec a.name _ (ht.frm (K.trans hS (by simp))) (by omega))) trivial rfl rfl ?_
   rintro e w5 ⟨rfl, fw5⟩
   have hS := hS.trans fw5 (by simp)
   refine ⟨_, rfl, hS, ?_⟩
   refine HOps.cl 6 rfl jK (Enters.fn (evs.cons rfl evs.nil) Tryz.call60) ((nstring_spec a.box _ (ht.frm (K.trans hS (by simp))) (by omega))) trivial rfl rfl ?_
   rintro e w6 ⟨rfl, fw6⟩
   have hS := hS.trans fw6 (by simp)
   refine ⟨_, rfl, hS, ?_⟩
   refine HOps.cl 9 rfl jK (Enters.fn (evs.cons rfl evs.nil) Tryz.call60) ((nstring_spec a.host _ (ht.frm (K.trans hS (by simp))) (by omega))) trivial rfl rfl ?_
   rintro e w7 ⟨rfl, fw7⟩
   have hS := hS.trans fw7 (by simp)
   refine ⟨_, rfl, hS, ?_⟩
   refine HOps.m 10 rfl jK (Does.buildN (cells := (SB [nstrQ a.name, nilT, nstrQ a.box, nstrQ a.host]).toArray) (evs.cons rfl (evs.cons rfl (evs.cons rfl (evs.cons rfl evs.nil)))) Tryz.underlying36 Tryz.sizeOf9 zero9 rfl rfl jK) trivial rfl rfl ?_
   rintro _ w8 ⟨rfl, hFw8⟩
   have hrw8 : Rd w8 1 (some ⟨_, 0, none⟩) 4 (SB [nstrQ a.name, nilT, nstrQ a.box, nstrQ a.host]) := Rd.of_blk (n := 4) (size := 1) hFw8.blk rfl
   have hS := hS.trans hFw8.frm (by simp)
   refine ⟨hS, ?_⟩
   refine HOps.cl 11 rfl jK (Enters.fn (evs.cons rfl evs.nil) Tryz.call34) ((list_spec _ _ [nstrQ a.name, nilT, nstrQ a.box, nstrQ a.host] _ hrw8 (by simp) (by simp) (by simp) (by simp [List.flatten_cons, List.length_append]; omega))) trivial rfl rfl ?_
   rintro e w9 ⟨rfl, fw9⟩
   have hS := hS.trans fw9 (by simp)
   refine ⟨_, rfl, hS, ?_⟩
   refine jh 12 rfl hS (fun w0 hw0 => Run.addT rfl rfl (by show _ + (adrS a).length ≤ _; omega)) ?_
   refine jh 13 rfl hS (fun w0 hw0 => Run.asg rfl) ?_
   refine HOps.done jK ?_
   refine blockQ_n (jn ?_)
   refine jv4 10 25 26 27 ?_
   refine jr ?_
   refine Ops.r (Run.bin rfl rfl (Bin.add_i64 _ 1 (by omega))) rfl ?_
   refine jm ?_
   refine jo ?_
   refine jn ⟨(k + 1), (js4 (by rw [hsn]; rfl) rfl rfl rfl), ?_, ?_⟩
   ·
    exact ⟨hc2, K.trans hS (by simp), hL.frm hS (by simp)⟩
   ·
    first | omega | (dsimp only; omega)
  ·
   have hkl : k = l.length := by omega
   subst hkl
   rw [List.take_length]
   refine jx ?_
   refine thenQ_x (thenQ_x (blockQ_x ?_))
   refine jn (jv1 10 ?_)
   refine js (jr (jm ?_))
   refine Ops.r (Run.addT (a := [40]) rfl rfl (by simp only [List.length_cons, List.length_nil]; omega)) rfl ?_
   refine Ops.r (Run.addT (b := [41]) rfl rfl (by simp only [List.length_cons, List.length_append, List.length_nil]; omega)) rfl ?_
   refine ja ?_
   refine jo (jn (jv1 6 ?_))
   refine jt ?_
   refine end1 rfl ?_
   exact ⟨by rw [hpS, if_neg hl0]; simp, K⟩
set_option maxRecDepth 100000 in
theorem env1_spec (A : Option Addr) (c g : Nat) (q nm : Tx) (w : World) (hb : Blk w g 22 #[.slice A q.length c]) (ht : Tab w) (hrd : Rd w 1 A q.length (U8 q)) (hq : q.length ≤ 2000) (hc : q.length ≤ c) (hnl : nm.length ≤ 1000000) :
  Calls Tryz.prog 30 #[encStr nm, .pointer (some ⟨g, 0, none⟩)] w fun e w' => e = .returned (encStr (fieldS q nm nilT)) ∧ Frm [] w w' := by
 refine VC.calls (nt := 7) (res := #[.tmp 3]) Tryz.func30 rfl Tryz.ntmps30 Tryz.results30 rfl ?_
 refine js (jr (ja ?_))
 refine jo (jn (jv2 0 1 ?_))
 refine js (jr ?_)
 refine Ops.r (Run.load rfl Tryz.isAgg22 (hb.cell 0)) rfl ?_
 refine jm ?_
 refine Ops.cl (Enters.fn (evs.cons rfl (evs.cons rfl (evs.cons rfl evs.nil))) Tryz.call31) ((field_spec A c q nm nilT _ ht hrd (by omega) hc hnl)) rfl ?_
 rintro e w1 ⟨rfl, f1⟩
 refine ⟨_, rfl, ?_⟩
 refine ja ?_
 refine jo (jn (jv1 3 ?_))
 refine jt ?_
 refine end1 rfl ?_
 exact ⟨rfl, f1⟩
set_option maxRecDepth 100000 in
theorem env2_spec (A : Option Addr) (c g : Nat) (q nm non : Tx) (w : World) (hb : Blk w g 22 #[.slice A q.length c]) (ht : Tab w) (hrd : Rd w 1 A q.length (U8 q)) (hq : q.length ≤ 2000) (hc : q.length ≤ c) (hnl : nm.length ≤ 1000000) :
  Calls Tryz.prog 32 #[encStr nm, encStr non, .pointer (some ⟨g, 0, none⟩)] w fun e w' => e = .returned (encStr (peopleS q nm non)) ∧ Frm [] w w' := by
 refine VC.calls (nt := 10) (res := #[.tmp 5]) Tryz.func32 rfl Tryz.ntmps32 Tryz.results32 rfl ?_
 refine js (jr (ja ?_))
 refine jo (jn (jv3 0 1 2 ?_))
 refine js (jr ?_)
 refine Ops.r (Run.load rfl Tryz.isAgg22 (hb.cell 0)) rfl ?_
 refine jm ?_
 refine jm ?_
 refine Ops.cl (Enters.fn (evs.cons rfl (evs.cons rfl (evs.cons rfl evs.nil))) Tryz.call33) ((people_spec A c q nm non _ ht hrd hq hc hnl)) rfl ?_
 rintro e w1 ⟨rfl, f1⟩
 refine ⟨_, rfl, ?_⟩
 refine ja ?_
 refine jo (jn (jv1 5 ?_))
 refine jt ?_
 refine end1 rfl ?_
 exact ⟨rfl, f1⟩
theorem envS_flat {q : Tx} (h : q.length ≤ 2000) : ([fieldS q datT nilT, fieldS q subjT nilT, peopleS q fromT nilT, peopleS q sendT (peopleS q fromT nilT), peopleS q replT (peopleS q fromT nilT), peopleS q toT nilT, peopleS q ccT nilT, peopleS q bccT nilT, fieldS q inrT nilT, fieldS q midT nilT] : List Tx).flatten.length ≤ 90000000000000 := by
 have hn : nilT.length = 3 := rfl
 have hf := fun n => fieldS_len q n nilT 4006 (by omega) (by omega)
 have hp := fun n => peopleS_len (q := q) (name := n) (non := nilT) h (by omega)
 have hp2 := fun n => peopleS_len (q := q) (name := n) (non := peopleS q fromT nilT) h (hp fromT)
 simp only [List.flatten_cons, List.length_append, List.flatten_nil, List.length_nil]
 have h1 := hf datT; have h2 := hf subjT; have h3 := hf inrT; have h4 := hf midT
 have p1 := hp fromT; have p2 := hp toT; have p3 := hp ccT; have p4 := hp bccT; have p5 := hp2 sendT; have p6 := hp2 replT
 omega
set_option maxRecDepth 100000 in
set_option maxHeartbeats 1600000 in
theorem envelope_spec (A : Option Addr) (c : Nat) (q : Tx) (w : World) (ht : Tab w) (hrd : Rd w 1 A q.length (U8 q)) (hq : q.length ≤ 2000) (hc : q.length ≤ c) :
  Calls Tryz.prog 12 #[.slice A q.length c] w fun e w' => e = .returned (encStr (envS q)) ∧ Frm [] w w' := by
 have K := Frm.refl [] w
 refine VC.calls (nt := 33) (res := #[.tmp 2]) Tryz.func12 rfl Tryz.ntmps12 Tryz.results12 rfl ?_
 refine js (jr ?_)
 refine Ops.m (Does.box rfl) rfl ?_
 rintro _ w1 ⟨rfl, hF1⟩
 have hb1 : Blk w1 w.heap.size 22 #[.slice A q.length c] := hF1.blk
 have K := K.trans hF1.frm (by simp)
 obtain ⟨g1, hg⟩ : ∃ g, w.heap.size = g := ⟨_, rfl⟩
 rw [hg] at hb1 ⊢
 refine ja ?_
 refine jo (jn (jv1 1 ?_))
 refine js (jr ?_)
 refine Ops.r (Run.mkFunc evs.nil (evs.cons rfl evs.nil)) rfl ?_
 refine ja ?_
 refine jo (jn (jv2 1 3 ?_))
 refine js (jr ?_)
 refine Ops.r (Run.mkFunc evs.nil (evs.cons rfl evs.nil)) rfl ?_
 refine ja ?_
 refine jo (jn (jv2 3 4 ?_))
 refine js (jr (jm ?_))
 refine Ops.cl (Enters.dyn rfl (evs.cons rfl (evs.cons rfl evs.nil)) Tryz.call32) ((env2_spec A c g1 q fromT nilT _ hb1 (ht.frm K) (hrd.frm K (by simp)) hq hc (by decide))) rfl ?_
 rintro e w2 ⟨rfl, fw2⟩
 refine ⟨_, rfl, ?_⟩
 have K := K.trans fw2 (by simp)
 have hb1 := hb1.frm fw2 (by simp)
 refine ja ?_
 refine jo (jn (jv3 3 4 5 ?_))
 refine js (jr (jm ?_))
 refine Ops.cl (Enters.dyn rfl (evs.cons rfl evs.nil) Tryz.call30) ((env1_spec A c g1 q datT _ hb1 (ht.frm K) (hrd.frm K (by simp)) hq hc (by decide))) rfl ?_
 rintro e w3 ⟨rfl, fw3⟩
 refine ⟨_, rfl, ?_⟩
 have K := K.trans fw3 (by simp)
 have hb1 := hb1.frm fw3 (by simp)
 refine jm ?_
 refine Ops.cl (Enters.dyn rfl (evs.cons rfl evs.nil) Tryz.call30) ((env1_spec A c g1 q subjT _ hb1 (ht.frm K) (hrd.frm K (by simp)) hq hc (by decide))) rfl ?_
 rintro e w4 ⟨rfl, fw4⟩
 refine ⟨_, rfl, ?_⟩
 have K := K.trans fw4 (by simp)
 have hb1 := hb1.frm fw4 (by simp)
 refine jm ?_
 refine jm ?_
 refine jm ?_
 refine Ops.cl (Enters.dyn rfl (evs.cons rfl (evs.cons rfl evs.nil)) Tryz.call32) ((env2_spec A c g1 q sendT (peopleS q fromT nilT) _ hb1 (ht.frm K) (hrd.frm K (by simp)) hq hc (by decide))) rfl ?_
 rintro e w5 ⟨rfl, fw5⟩
 refine ⟨_, rfl, ?_⟩
 have K := K.trans fw5 (by simp)
 have hb1 := hb1.frm fw5 (by simp)
 refine jm ?_
 refine jm ?_
 refine Ops.cl (Enters.dyn rfl (evs.cons rfl (evs.cons rfl evs.nil)) Tryz.call32) ((env2_spec A c g1 q replT (peopleS q fromT nilT) _ hb1 (ht.frm K) (hrd.frm K (by simp)) hq hc (by decide))) rfl ?_
 rintro e w6 ⟨rfl, fw6⟩
 refine ⟨_, rfl, ?_⟩
 have K := K.trans fw6 (by simp)
 have hb1 := hb1.frm fw6 (by simp)
 refine jm ?_
 refine Ops.cl (Enters.dyn rfl (evs.cons rfl (evs.cons rfl evs.nil)) Tryz.call32) ((env2_spec A c g1 q toT nilT _ hb1 (ht.frm K) (hrd.frm K (by simp)) hq hc (by decide))) rfl ?_
 rintro e w7 ⟨rfl, fw7⟩
 refine ⟨_, rfl, ?_⟩
 have K := K.trans fw7 (by simp)
 have hb1 := hb1.frm fw7 (by simp)
 refine jm ?_
 refine Ops.cl (Enters.dyn rfl (evs.cons rfl (evs.cons rfl evs.nil)) Tryz.call32) ((env2_spec A c g1 q ccT nilT _ hb1 (ht.frm K) (hrd.frm K (by simp)) hq hc (by decide))) rfl ?_
 rintro e w8 ⟨rfl, fw8⟩
 refine ⟨_, rfl, ?_⟩
 have K := K.trans fw8 (by simp)
 have hb1 := hb1.frm fw8 (by simp)
 refine jm ?_
 refine Ops.cl (Enters.dyn rfl (evs.cons rfl (evs.cons rfl evs.nil)) Tryz.call32) ((env2_spec A c g1 q bccT nilT _ hb1 (ht.frm K) (hrd.frm K (by simp)) hq hc (by decide))) rfl ?_
 rintro e w9 ⟨rfl, fw9⟩
 refine ⟨_, rfl, ?_⟩
 have K := K.trans fw9 (by simp)
 have hb1 := hb1.frm fw9 (by simp)
 refine jm ?_
 refine Ops.cl (Enters.dyn rfl (evs.cons rfl evs.nil) Tryz.call30) ((env1_spec A c g1 q inrT _ hb1 (ht.frm K) (hrd.frm K (by simp)) hq hc (by decide))) rfl ?_
 rintro e w10 ⟨rfl, fw10⟩
 refine ⟨_, rfl, ?_⟩
 have K := K.trans fw10 (by simp)
 have hb1 := hb1.frm fw10 (by simp)
 refine jm ?_
 refine Ops.cl (Enters.dyn rfl (evs.cons rfl evs.nil) Tryz.call30) ((env1_spec A c g1 q midT _ hb1 (ht.frm K) (hrd.frm K (by simp)) hq hc (by decide))) rfl ?_
 rintro e w11 ⟨rfl, fw11⟩
 refine ⟨_, rfl, ?_⟩
 have K := K.trans fw11 (by simp)
 have hb1 := hb1.frm fw11 (by simp)
 refine Ops.m (Does.buildN (cells := (SB [fieldS q datT nilT, fieldS q subjT nilT, peopleS q fromT nilT, peopleS q sendT (peopleS q fromT nilT), peopleS q replT (peopleS q fromT nilT), peopleS q toT nilT, peopleS q ccT nilT, peopleS q bccT nilT, fieldS q inrT nilT, fieldS q midT nilT]).toArray) (evs.cons rfl (evs.cons rfl (evs.cons rfl (evs.cons rfl (evs.cons rfl (evs.cons rfl (evs.cons rfl (evs.cons rfl (evs.cons rfl (evs.cons rfl evs.nil)))))))))) Tryz.underlying36 Tryz.sizeOf9 zero9 rfl rfl jK) rfl ?_
 rintro _ w12 ⟨rfl, hF12⟩
 have hr12 : Rd w12 1 (some ⟨_, 0, none⟩) 10 (SB [fieldS q datT nilT, fieldS q subjT nilT, peopleS q fromT nilT, peopleS q sendT (peopleS q fromT nilT), peopleS q replT (peopleS q fromT nilT), peopleS q toT nilT, peopleS q ccT nilT, peopleS q bccT nilT, fieldS q inrT nilT, fieldS q midT nilT]) := Rd.of_blk (n := 10) (size := 1) hF12.blk rfl
 have K := K.trans hF12.frm (by simp)
 refine Ops.cl (Enters.fn (evs.cons rfl evs.nil) Tryz.call34) ((list_spec _ _ [fieldS q datT nilT, fieldS q subjT nilT, peopleS q fromT nilT, peopleS q sendT (peopleS q fromT nilT), peopleS q replT (peopleS q fromT nilT), peopleS q toT nilT, peopleS q ccT nilT, peopleS q bccT nilT, fieldS q inrT nilT, fieldS q midT nilT] _ hr12 (by simp) (by simp) (by simp) (envS_flat hq))) rfl ?_
 rintro e w13 ⟨rfl, f13⟩
 refine ⟨_, rfl, ?_⟩
 have K := K.trans f13 (by simp)
 refine ja ?_
 refine jo (jn (jv1 2 ?_))
 refine jt ?_
 refine end1 rfl ?_
 exact ⟨rfl, K⟩
end Go.Proofs.YtenbjndldenkfaaGreatDoor
namespace Go.Proofs.YtenbjndldenkfaaGreatDoor
open Go.RowKit

def newQ (s : Tx) (frm tu : Nat) (up : Int) (dg : Bool) : Prt := ⟨0, frm, frm + splitQ (sliceQ s frm tu), tu, mediaQ (sliceQ s frm tu) dg, up, 0⟩
theorem fnd_keeps (s : Tx) : ∀ (n : Nat) (l : List Prt) (frm tu : Nat) (up : Int) (dg : Bool), l.length ≤ 64 → l.length ≤ (fndQ s n l frm tu up dg).length ∧ (fndQ s n l frm tu up dg).length ≤ 64 := by
 intro n
 induction n with
 | zero =>
  intro l frm tu up dg hl
  unfold fndQ
  split
  ·
   omega
  ·
   dsimp only; rw [kid1_len]; simp; omega
 | succ n ih =>
  intro l frm tu up dg hl
  unfold fndQ
  split
  ·
   omega
  ·
   dsimp only
   have h1 : (kid1 (l ++ [(⟨0, frm, frm + splitQ (sliceQ s frm tu), tu, mediaQ (sliceQ s frm tu) dg, up, 0⟩ : Prt)]) up).length = l.length + 1 := by rw [kid1_len]; simp
   generalize kid1 (l ++ [(⟨0, frm, frm + splitQ (sliceQ s frm tu), tu, mediaQ (sliceQ s frm tu) dg, up, 0⟩ : Prt)]) up = l1 at *
   split
   ·
    have := ih (setK l1 l.length 2) (frm + splitQ (sliceQ s frm tu)) tu (l.length : Int) false (by rw [setK_len]; omega)
    rw [setK_len] at this
    omega
   ·
    split
    ·
     omega
    ·
     have key : ∀ (sp : List (Nat × Nat)) (acc : List Prt) (dg2 : Bool), acc.length ≤ 64 → acc.length ≤ (sp.foldl (fun acc x => fndQ s n (setK acc l.length 1) x.1 x.2 (l.length : Int) dg2) acc).length ∧ (sp.foldl (fun acc x => fndQ s n (setK acc l.length 1) x.1 x.2 (l.length : Int) dg2) acc).length ≤ 64 := by
      intro sp
      induction sp with
      | nil => exact fun acc _ h => ⟨Nat.le_refl _, h⟩
      | cons x r ihs =>
       intro acc dg2 ha
       rw [List.foldl_cons]
       have h2 := ih (setK acc l.length 1) x.1 x.2 (l.length : Int) dg2 (by rw [setK_len]; exact ha)
       rw [setK_len] at h2
       have h3 := ihs (fndQ s n (setK acc l.length 1) x.1 x.2 (l.length : Int) dg2) dg2 h2.2
       omega
     have := key (spansQ s (findQ (mediaQ (sliceQ s frm tu) dg).ps bndT).1 (frm + splitQ (sliceQ s frm tu)) tu) l1 (decide ((mediaQ (sliceQ s frm tu) dg).sub = digT)) (by omega)
     omega
theorem fnd_inv (s : Tx) (Inv : List Prt → Prop) (hadd : ∀ (l : List Prt) (frm tu : Nat) (up : Int) (dg : Bool), Inv l → up < (l.length : Int) → Inv (kid1 (l ++ [newQ s frm tu up dg]) up)) (hset : ∀ (l : List Prt) (i k : Nat), Inv l → Inv (setK l i k)) :
  ∀ (n : Nat) (l : List Prt) (frm tu : Nat) (up : Int) (dg : Bool), l.length ≤ 64 → up < (l.length : Int) → Inv l → Inv (fndQ s n l frm tu up dg) := by
 intro n
 induction n with
 | zero =>
  intro l frm tu up dg hl hup hi
  unfold fndQ
  split
  ·
   exact hi
  ·
   exact hadd l frm tu up dg hi hup
 | succ n ih =>
  intro l frm tu up dg hl hup hi
  have h0 := hadd l frm tu up dg hi hup
  unfold fndQ
  split
  ·
   exact hi
  ·
   dsimp only
   have h1 : (kid1 (l ++ [newQ s frm tu up dg]) up).length = l.length + 1 := by rw [kid1_len]; simp
   unfold newQ at h0 h1
   generalize kid1 (l ++ [(⟨0, frm, frm + splitQ (sliceQ s frm tu), tu, mediaQ (sliceQ s frm tu) dg, up, 0⟩ : Prt)]) up = l1 at *
   split
   ·
    exact ih _ _ _ _ _ (by rw [setK_len]; omega) (by rw [setK_len]; omega) (hset _ _ _ h0)
   ·
    split
    ·
     exact h0
    ·
     have key : ∀ (sp : List (Nat × Nat)) (acc : List Prt) (dg2 : Bool), acc.length ≤ 64 → l.length < acc.length → Inv acc → Inv (sp.foldl (fun acc x => fndQ s n (setK acc l.length 1) x.1 x.2 (l.length : Int) dg2) acc) := by
      intro sp
      induction sp with
      | nil => exact fun acc _ _ _ h => h
      | cons x r ihs =>
       intro acc dg2 ha hla hia
       rw [List.foldl_cons]
       have hk := fnd_keeps s n (setK acc l.length 1) x.1 x.2 (l.length : Int) dg2 (by rw [setK_len]; exact ha)
       rw [setK_len] at hk
       exact ihs _ dg2 hk.2 (by omega) (ih _ _ _ _ _ (by rw [setK_len]; exact ha) (by rw [setK_len]; omega) (hset _ _ _ hia))
     exact key _ _ _ (by omega) (by omega) h0
theorem parts_inv (s : Tx) (Inv : List Prt → Prop) (h0 : Inv []) (hadd : ∀ (l : List Prt) (frm tu : Nat) (up : Int) (dg : Bool), Inv l → up < (l.length : Int) → Inv (kid1 (l ++ [newQ s frm tu up dg]) up)) (hset : ∀ (l : List Prt) (i k : Nat), Inv l → Inv (setK l i k)) : Inv (partsQ s) :=
 fnd_inv s Inv hadd hset 6 [] 0 s.length (-1) false (by simp) (by simp) h0
def MedOk (N : Nat) (m : Med) : Prop := m.ty.length ≤ N + 10 ∧ m.sub.length ≤ N + 10 ∧ m.ps.length ≤ N + 1 ∧ ∀ p ∈ m.ps, p.1.length ≤ N ∧ p.2.length ≤ N
theorem aftB_len (x : UInt8) (s : Tx) : (aftF x s).length ≤ s.length := by
 induction s with
 | nil => exact Nat.le_refl _
 | cons c r ih =>
  unfold aftF
  split
  ·
   simp
  ·
   simp only [List.length_cons]; omega
theorem medQ_ok (q : Tx) : MedOk q.length (medQ q) := by
 have h0 : MedOk q.length med0 := ⟨by simp [med0], by simp [med0], by simp [med0], by simp [med0]⟩
 have hc := pcs_count _ false q (Nat.le_refl _)
 have hl := pcs_len _ false q (Nat.le_refl _)
 unfold medQ
 split
 ·
  exact h0
 ·
  rename_i p ps h
  rw [h] at hc hl
  have hp := hl p (by simp)
  have ht := trimQ_len p
  have hb := bef_len 47 (trimQ p)
  have ha := aftB_len 47 (trimQ p)
  unfold medOf
  split
  ·
   refine ⟨?_, ?_, ?_, ?_⟩
   ·
    show (smallS _).length ≤ _
    rw [smallS_len]; omega
   ·
    show (smallS _).length ≤ _
    rw [smallS_len]; omega
   ·
    show (ps.flatMap parQ).length ≤ _
    have := pars_count ps
    simp only [List.length_cons] at hc
    omega
   ·
    intro y hy
    have hy : y ∈ ps.flatMap parQ := hy
    obtain ⟨z, hz, hyz⟩ := List.mem_flatMap.1 hy
    have hzl := hl z (by simp [hz])
    unfold parQ at hyz
    split at hyz
    ·
     simp only [List.mem_singleton] at hyz
     subst hyz
     have g1 := bef_len 61 z
     have g2 := trimQ_len (befF 61 z)
     have g3 := aftB_len 61 z
     have g4 := valQ_len (aftF 61 z)
     refine ⟨?_, ?_⟩
     ·
      show (nameQ z).length ≤ _
      unfold nameQ
      rw [smallS_len]; omega
     ·
      show (valQ _).length ≤ _; omega
    ·
     simp at hyz
  ·
   exact h0
theorem mediaM_ok {s : Tx} {a b : Nat} {dg : Bool} : MedOk s.length (mediaQ (sliceQ s a b) dg) := by
 have hs : (sliceQ s a b).length ≤ s.length := by unfold sliceQ; simp; omega
 have hf := findH_len (sliceQ s a b) ctype
 unfold mediaQ
 split
 ·
  exact ⟨by simp [msgT], by simp [rfcT], by simp, by simp⟩
 ·
  obtain ⟨h1, h2, h3, h4⟩ := medQ_ok (findH (sliceQ s a b) ctype).1
  exact ⟨by omega, by omega, by omega, fun p hp => by have := h4 p hp; omega⟩
theorem parts_med (s : Tx) : ∀ p ∈ partsQ s, MedOk s.length p.m := by
 refine parts_inv s (fun l => ∀ p ∈ l, MedOk s.length p.m) (by simp) ?_ ?_
 ·
  intro l frm tu up dg hi _ p hp
  obtain ⟨k, hk⟩ := List.mem_iff_getElem?.1 hp
  obtain ⟨q, hq, c, rfl⟩ := kid1_get _ _ _ hk
  rcases List.mem_append.1 (List.mem_of_getElem? hq) with h | h
  ·
   exact hi q h
  ·
   simp only [List.mem_singleton] at h
   subst h
   exact mediaM_ok
 ·
  intro l i k hi p hp
  obtain ⟨j, hj⟩ := List.mem_iff_getElem?.1 hp
  rw [setK_get] at hj
  obtain ⟨q, hq, rfl⟩ := Option.map_eq_some_iff.1 hj
  have := hi q (List.mem_of_getElem? hq)
  split <;> exact this
def cntK (i : Int) : List Prt → Nat
 | [] => 0
 | p :: r => (if p.up = i then 1 else 0) + cntK i r
theorem cntK_app (i : Int) : ∀ a b : List Prt, cntK i (a ++ b) = cntK i a + cntK i b
 | [], _ => by show _ = 0 + _; rw [Nat.zero_add]; rfl
 | p :: a, b => by
  show _ + cntK i (a ++ b) = _ + cntK i a + _
  rw [cntK_app i a b, Nat.add_assoc]
theorem cntK_ups (i : Int) : ∀ {a b : List Prt}, a.map (·.up) = b.map (·.up) → cntK i a = cntK i b
 | [], [], _ => rfl
 | [], _ :: _, h => by simp at h
 | _ :: _, [], h => by simp at h
 | p :: a, q :: b, h => by
  simp only [List.map_cons, List.cons.injEq] at h
  show (if p.up = i then 1 else 0) + cntK i a = (if q.up = i then 1 else 0) + cntK i b
  rw [h.1, cntK_ups i h.2]
theorem kid1_ups (l : List Prt) (up : Int) : (kid1 l up).map (·.up) = l.map (·.up) := by
 unfold kid1
 split
 ·
  apply List.ext_getElem?
  intro j
  rw [List.getElem?_map, List.getElem?_map, List.getElem?_modify]
  cases l[j]? with
  | none => rfl
  | some p => by_cases e : up.toNat = j <;> simp [e]
 ·
  rfl
theorem setK_ups (l : List Prt) (i k : Nat) : (setK l i k).map (·.up) = l.map (·.up) := by
 apply List.ext_getElem?
 intro j
 rw [List.getElem?_map, List.getElem?_map, setK_get]
 cases l[j]? with
 | none => rfl
 | some p => by_cases e : i = j <;> simp [e]
def KidsQk (l : List Prt) : Prop := (∀ (k : Nat) (p : Prt), l[k]? = some p → p.kids = cntK (k : Int) l ∧ p.up < (k : Int))
theorem cntK_none {l : List Prt} (h : ∀ (k : Nat) (p : Prt), l[k]? = some p → p.up < (k : Int)) (j : Nat) (hj : l.length ≤ j) : cntK (j : Int) l = 0 := by
 have key : ∀ (r : List Prt), (∀ p ∈ r, p.up < (j : Int)) → cntK (j : Int) r = 0 := by
  intro r
  induction r with
  | nil => intro _; rfl
  | cons p r ih =>
   intro hr
   show (if p.up = (j : Int) then 1 else 0) + cntK (j : Int) r = 0
   rw [if_neg (by have := hr p (by simp); omega), ih fun q hq => hr q (by simp [hq])]
 refine key l fun p hp => ?_
 obtain ⟨k, hk⟩ := List.mem_iff_getElem?.1 hp
 have h1 := h k p hk
 have h2 := (List.getElem?_eq_some_iff.1 hk).1
 omega
theorem parts_kids (s : Tx) : KidsQk (partsQ s) := by
 refine parts_inv s KidsQk (fun k p h => by simp at h) ?_ ?_
 ·
  intro l frm tu up dg hi hup
  have hups : (kid1 (l ++ [newQ s frm tu up dg]) up).map (·.up) = (l ++ [newQ s frm tu up dg]).map (·.up) := kid1_ups _ _
  have hlt : ∀ (k : Nat) (p : Prt), l[k]? = some p → p.up < (k : Int) := fun k p h => (hi k p h).2
  intro k p hk
  have hc : cntK (k : Int) (kid1 (l ++ [newQ s frm tu up dg]) up) = cntK (k : Int) l + (if up = (k : Int) then 1 else 0) := by
   rw [cntK_ups _ hups, cntK_app]
   rfl
  have hkk : (if 0 ≤ up then (l ++ [newQ s frm tu up dg]).modify up.toNat (fun p => { p with kids := p.kids + 1 }) else (l ++ [newQ s frm tu up dg]))[k]? = some p := hk
  have hold : ∀ q : Prt, (l ++ [newQ s frm tu up dg])[k]? = some q → q.kids = cntK (k : Int) l ∧ q.up < (k : Int) := by
   intro q hq
   by_cases hkl : k < l.length
   ·
    rw [List.getElem?_append_left hkl] at hq
    exact hi k q hq
   ·
    have hkl2 : k = l.length := by
     have := (List.getElem?_eq_some_iff.1 hq).1
     simp at this
     omega
    subst hkl2
    rw [List.getElem?_concat_length] at hq
    cases hq
    exact ⟨(cntK_none hlt _ (Nat.le_refl _)).symm, hup⟩
  rw [hc]
  split at hkk
  ·
   rename_i h0
   rw [List.getElem?_modify] at hkk
   cases hq : (l ++ [newQ s frm tu up dg])[k]? with
   | none => rw [hq] at hkk; simp at hkk
   | some q =>
    obtain ⟨h1, h2⟩ := hold q hq
    rw [hq] at hkk
    simp only [Option.map_eq_map, Option.map_some, Option.some.injEq] at hkk
    by_cases e : up.toNat = k
    ·
     rw [if_pos e] at hkk
     subst hkk
     refine ⟨?_, h2⟩
     show q.kids + 1 = _
     rw [if_pos (by omega), h1]
    ·
     rw [if_neg e] at hkk
     subst hkk
     refine ⟨?_, h2⟩
     rw [if_neg (by omega), h1, Nat.add_zero]
  ·
   rename_i h0
   obtain ⟨h1, h2⟩ := hold p hkk
   refine ⟨?_, h2⟩
   rw [if_neg (by omega), h1, Nat.add_zero]
 ·
  intro l i k hi j p hj
  rw [setK_get] at hj
  obtain ⟨q, hq, rfl⟩ := Option.map_eq_some_iff.1 hj
  have := hi j q hq
  rw [cntK_ups _ (setK_ups l i k)]
  split <;> exact this

def cidT : Tx := [67, 111, 110, 116, 101, 110, 116, 45, 73, 68]
def cdsT : Tx := [67, 111, 110, 116, 101, 110, 116, 45, 68, 101, 115, 99, 114, 105, 112, 116, 105, 111, 110]
def cteT : Tx := [67, 111, 110, 116, 101, 110, 116, 45, 84, 114, 97, 110, 115, 102, 101, 114, 45, 69, 110, 99, 111, 100, 105, 110, 103]
def bitT : Tx := [55, 98, 105, 116]
def texT : Tx := [116, 101, 120, 116]
def parsL (ps : List Par) : List Tx := ps.flatMap fun p => [strQ p.1, strQ p.2]
def parsS (ps : List Par) : Tx := if ps = [] then nilT else listQ (parsL ps)
def linesS (q : Tx) (p : Prt) : Tx := Lib.decDigits ((sliceQ q p.body p.tu).count 10)
def leaf7 (q : Tx) (p : Prt) : List Tx := [strQ p.m.ty, strQ p.m.sub, parsS p.m.ps, fieldS (sliceQ q p.frm p.body) cidT nilT, fieldS (sliceQ q p.frm p.body) cdsT nilT, fieldS (sliceQ q p.frm p.body) cteT (strQ bitT), Lib.decDigits (p.tu - p.body)]
def leafL (q : Tx) (p : Prt) (mid : List Tx) : List Tx := (leaf7 q p ++ mid) ++ (if p.m.ty = texT then [linesS q p] else [])
def kidsC (f : Nat → Tx) (i : Int) : List Prt → Nat → Tx
 | [], _ => []
 | p :: r, k => (if p.up = i then f k else []) ++ kidsC f i r (k + 1)
def midL (f : Nat → Tx) (q : Tx) (l : List Prt) (i : Nat) (p : Prt) : List Tx :=
 if p.kind = 2 ∧ 0 ≤ kidQ l i 1 then (match l[(kidQ l i 1).toNat]? with
  | some k => [envS (sliceQ q k.frm k.tu), f (kidQ l i 1).toNat, linesS q p]
  | none => []) else []
def oneP (f : Nat → Tx) (q : Tx) (l : List Prt) (i : Nat) (p : Prt) : Tx :=
 if p.kind = 1 then 40 :: (kidsC f i l 0 ++ (32 :: (strQ p.m.sub ++ [41]))) else listQ (leafL q p (midL f q l i p))
def oneS : Nat → Tx → List Prt → Nat → Tx
 | 0, _, _, _ => []
 | n + 1, q, l, i => match l[i]? with
  | none => []
  | some p => oneP (oneS n q l) q l i p
def bodyS (q : Tx) : Tx := oneS 64 q (partsQ q) 0
theorem oneS_at {n : Nat} {q : Tx} {l : List Prt} {i : Nat} {p : Prt} (h : l[i]? = some p) : oneS (n + 1) q l i = oneP (oneS n q l) q l i p := by
 conv => lhs; unfold oneS
 rw [h]
theorem kidsC_congr {f g : Nat → Tx} {i : Int} : ∀ {l : List Prt} {k : Nat}, (∀ (j : Nat) (p : Prt), l[j]? = some p → p.up = i → f (k + j) = g (k + j)) → kidsC f i l k = kidsC g i l k
 | [], _, _ => rfl
 | p :: r, k, h => by
  show (if p.up = i then f k else []) ++ kidsC f i r (k + 1) = (if p.up = i then g k else []) ++ kidsC g i r (k + 1)
  have e : kidsC f i r (k + 1) = kidsC g i r (k + 1) := kidsC_congr fun j q hj hq => by
   have := h (j + 1) q (by simpa using hj) hq
   rw [show k + 1 + j = k + (j + 1) by omega]
   exact this
  rw [e]
  congr 1
  split
  ·
   exact h 0 p rfl (by assumption)
  ·
   rfl
theorem oneP_congr {f g : Nat → Tx} {q : Tx} {l : List Prt} {i : Nat} {p : Prt} (h : ∀ (j : Nat) (y : Prt), l[j]? = some y → y.up = (i : Int) → f j = g j) : oneP f q l i p = oneP g q l i p := by
 have h1 : kidsC f i l 0 = kidsC g i l 0 := kidsC_congr fun j y hj hy => by rw [Nat.zero_add]; exact h j y hj hy
 have h2 : midL f q l i p = midL g q l i p := by
  unfold midL
  split
  ·
   rename_i hc
   rcases kidQ_res l i 1 with hk | ⟨j, y, hj, hk, hy⟩
   ·
    omega
   ·
    rw [hk, Int.toNat_natCast, hj]
    dsimp only
    rw [h j y hj hy]
  ·
   rfl
 unfold oneP
 rw [h1, h2]
theorem oneS_deep {q : Tx} {l : List Prt} (hup : ∀ (k : Nat) (p : Prt), l[k]? = some p → p.up < (k : Int)) : ∀ (n m i : Nat), l.length - i ≤ n → l.length - i ≤ m → oneS n q l i = oneS m q l i := by
 have hout : ∀ m i, l.length ≤ i → oneS m q l i = [] := by
  intro m i hi
  cases m with
  | zero => rfl
  | succ m => unfold oneS; rw [List.getElem?_eq_none hi]
 intro n
 induction n with
 | zero => intro m i h1 _; rw [hout 0 i (by omega), hout m i (by omega)]
 | succ n ih =>
  intro m i h1 h2
  by_cases hi : i < l.length
  ·
   cases m with
   | zero => omega
   | succ m =>
    rw [oneS_at (List.getElem?_eq_getElem hi), oneS_at (List.getElem?_eq_getElem hi)]
    refine oneP_congr fun j y hj hy => ih m j ?_ ?_
    ·
     have := hup j y hj; omega
    ·
     have := hup j y hj; omega
  ·
   rw [hout _ i (by omega), hout _ i (by omega)]
def smE (F : Nat → Nat) (c : Int) : List Prt → Nat → Nat
 | [], _ => 0
 | p :: r, k => (if p.up = c then F k else 0) + smE F c r (k + 1)
def smL (F : Nat → Nat) (b : Int) : List Prt → Nat → Nat
 | [], _ => 0
 | p :: r, k => (if p.up < b then F k else 0) + smL F b r (k + 1)
theorem kidsC_len (f : Nat → Tx) (i : Int) : ∀ (l : List Prt) (k : Nat), (kidsC f i l k).length = smE (fun j => (f j).length) i l k
 | [], _ => rfl
 | p :: r, k => by
  show ((if p.up = i then f k else []) ++ kidsC f i r (k + 1)).length = _
  rw [List.length_append, kidsC_len f i r]
  show _ = (if p.up = i then (f k).length else 0) + smE (fun j => (f j).length) i r (k + 1)
  congr 1
  split <;> rfl
theorem smL_succ (F : Nat → Nat) (b : Nat) : ∀ (l : List Prt) (k : Nat), smL F ((b + 1 : Nat) : Int) l k = smL F (b : Int) l k + smE F (b : Int) l k
 | [], _ => rfl
 | p :: r, k => by
  have := smL_succ F b r (k + 1)
  show (if p.up < ((b + 1 : Nat) : Int) then F k else 0) + smL F ((b + 1 : Nat) : Int) r (k + 1) = (if p.up < (b : Int) then F k else 0) + smL F (b : Int) r (k + 1) + ((if p.up = (b : Int) then F k else 0) + smE F (b : Int) r (k + 1))
  rw [this]
  by_cases h1 : p.up < (b : Int)
  ·
   rw [if_pos (by omega), if_pos h1, if_neg (by omega)]; omega
  ·
   by_cases h2 : p.up = (b : Int)
   ·
    rw [if_pos (by omega), if_neg h1, if_pos h2]; omega
   ·
    rw [if_neg (by omega), if_neg h1, if_neg h2]; omega
theorem smE_late {F : Nat → Nat} {l : List Prt} (hup : ∀ (k : Nat) (p : Prt), l[k]? = some p → p.up < (k : Int)) (i : Nat) : ∀ j, j ≤ i + 1 → smE F (i : Int) l 0 = smE F (i : Int) (l.drop j) j := by
 intro j
 induction j with
 | zero => intro _; rfl
 | succ j ih =>
  intro hj
  rw [ih (by omega)]
  by_cases hl : j < l.length
  ·
   have h1 := hup j _ (List.getElem?_eq_getElem hl)
   rw [List.drop_eq_getElem_cons hl]
   show (if l[j].up = (i : Int) then F j else 0) + smE F (i : Int) (l.drop (j + 1)) (j + 1) = _
   rw [if_neg (by omega), Nat.zero_add]
  ·
   rw [List.drop_eq_nil_of_le (by omega), List.drop_eq_nil_of_le (by omega)]
   rfl
theorem mass {F : Nat → Nat} {C : Nat} {l : List Prt} (hup : ∀ (k : Nat) (p : Prt), l[k]? = some p → p.up < (k : Int)) (hF : ∀ i, i < l.length → F i ≤ C + smE F (i : Int) l 0) :
  ∀ d i : Nat, i + d = l.length → smL F (i : Int) (l.drop i) i ≤ C * d := by
 intro d
 induction d with
 | zero =>
  intro i hi
  rw [List.drop_eq_nil_of_le (by omega)]
  exact Nat.zero_le _
 | succ d ih =>
  intro i hi
  have hl : i < l.length := by omega
  have h1 := ih (i + 1) (by omega)
  have h2 := hF i hl
  rw [smE_late hup i (i + 1) (Nat.le_refl _)] at h2
  rw [smL_succ] at h1
  rw [List.drop_eq_getElem_cons hl]
  show (if l[i].up < (i : Int) then F i else 0) + smL F (i : Int) (l.drop (i + 1)) (i + 1) ≤ _
  rw [if_pos (hup i _ (List.getElem?_eq_getElem hl)), Nat.mul_succ]
  omega
theorem mass_at {F : Nat → Nat} {C : Nat} {l : List Prt} (hup : ∀ (k : Nat) (p : Prt), l[k]? = some p → p.up < (k : Int)) (hF : ∀ i, i < l.length → F i ≤ C + smE F (i : Int) l 0) {i : Nat} (hi : i < l.length) : F i ≤ C * l.length := by
 have h := mass hup hF (l.length - i) i (by omega)
 rw [List.drop_eq_getElem_cons hi] at h
 have h2 : F i ≤ smL F (i : Int) (l[i] :: l.drop (i + 1)) i := by
  show _ ≤ (if l[i].up < (i : Int) then F i else 0) + _
  rw [if_pos (hup i _ (List.getElem?_eq_getElem hi))]
  omega
 exact Nat.le_trans h2 (Nat.le_trans h (Nat.mul_le_mul_left _ (Nat.sub_le _ _)))
theorem smE_one {F : Nat → Nat} {c : Int} : ∀ {l : List Prt} {k j : Nat} {p : Prt}, l[j]? = some p → p.up = c → F (k + j) ≤ smE F c l k
 | [], _, _, _, h, _ => by simp at h
 | x :: r, k, 0, p, h, hp => by
  simp only [List.getElem?_cons_zero, Option.some.injEq] at h
  subst h
  show _ ≤ (if x.up = c then F k else 0) + _
  rw [if_pos hp]
  exact Nat.le_add_right _ _
 | x :: r, k, j + 1, p, h, hp => by
  have := smE_one (F := F) (c := c) (l := r) (k := k + 1) (j := j) (p := p) (by simpa using h) hp
  show _ ≤ _ + smE F c r (k + 1)
  rw [show k + (j + 1) = k + 1 + j by omega]
  omega
theorem parsL_len {N : Nat} : ∀ {ps : List Par}, (∀ p ∈ ps, p.1.length ≤ N ∧ p.2.length ≤ N) → (parsL ps).flatten.length ≤ ps.length * (4 * N + 12) ∧ (parsL ps).length = 2 * ps.length
 | [], _ => ⟨by simp [parsL], rfl⟩
 | p :: r, h => by
  obtain ⟨h1, h2⟩ := parsL_len (ps := r) fun x hx => h x (by simp [hx])
  have h3 := h p (by simp)
  have g1 := strQ_len p.1
  have g2 := strQ_len p.2
  have e : parsL (p :: r) = strQ p.1 :: strQ p.2 :: parsL r := rfl
  rw [e]
  simp only [List.flatten_cons, List.length_append, List.length_cons, Nat.add_mul]
  exact ⟨by omega, by omega⟩
theorem parsS_len {q : Tx} {m : Med} (hq : q.length ≤ 2000) (h : MedOk q.length m) : (parsS m.ps).length ≤ 17000000 := by
 obtain ⟨_, _, h3, h4⟩ := h
 obtain ⟨g1, g2⟩ := parsL_len h4
 have g3 : m.ps.length * (4 * q.length + 12) ≤ 2001 * 8012 := Nat.mul_le_mul (by omega) (by omega)
 have g4 := listQ_len (parsL m.ps)
 unfold parsS
 split
 ·
  simp [nilT]
 ·
  omega
theorem leafL_len {q : Tx} {p : Prt} {mid : List Tx} (hq : q.length ≤ 2000) (h : MedOk q.length p.m) : (leafL q p mid).flatten.length ≤ 17100000 + mid.flatten.length + p.tu ∧ (leafL q p mid).length ≤ 8 + mid.length := by
 have hs : (sliceQ q p.frm p.body).length ≤ 2000 := by unfold sliceQ; simp; omega
 have hn : nilT.length = 3 := rfl
 have f1 := fieldS_len (sliceQ q p.frm p.body) cidT nilT 4006 (by omega) (by omega)
 have f2 := fieldS_len (sliceQ q p.frm p.body) cdsT nilT 4006 (by omega) (by omega)
 have f3 := fieldS_len (sliceQ q p.frm p.body) cteT (strQ bitT) 4006 (by omega) (by have := strQ_len bitT; have e : bitT.length = 4 := rfl; omega)
 have f4 := parsS_len hq h
 have f5 := strQ_len p.m.ty
 have f6 := strQ_len p.m.sub
 obtain ⟨h1, h2, _, _⟩ := h
 have f7 := decL (p.tu - p.body)
 have f8 : (linesS q p).length ≤ 2001 := by
  have := decL ((sliceQ q p.body p.tu).count 10)
  have g := List.count_le_length (a := 10) (l := sliceQ q p.body p.tu)
  have g2 : (sliceQ q p.body p.tu).length ≤ 2000 := by unfold sliceQ; simp; omega
  unfold linesS
  omega
 have f9 : (if p.m.ty = texT then [linesS q p] else []).flatten.length ≤ 2001 ∧ (if p.m.ty = texT then [linesS q p] else []).length ≤ 1 := by
  split
  ·
   exact ⟨by simpa using f8, by simp⟩
  ·
   exact ⟨by simp, by simp⟩
 unfold leafL leaf7
 simp only [List.flatten_append, List.flatten_cons, List.length_append, List.flatten_nil, List.length_nil, List.length_cons]
 omega
theorem midL_len {f : Nat → Tx} {q : Tx} {l : List Prt} {i : Nat} {p : Prt} (hq : q.length ≤ 2000) : (midL f q l i p).flatten.length ≤ 400002001 + smE (fun j => (f j).length) (i : Int) l 0 ∧ (midL f q l i p).length ≤ 3 := by
 have f8 : (linesS q p).length ≤ 2001 := by
  have := decL ((sliceQ q p.body p.tu).count 10)
  have g := List.count_le_length (a := 10) (l := sliceQ q p.body p.tu)
  have g2 : (sliceQ q p.body p.tu).length ≤ 2000 := by unfold sliceQ; simp; omega
  unfold linesS
  omega
 unfold midL
 split
 ·
  rcases kidQ_res l i 1 with hk | ⟨j, y, hj, hk, hy⟩
  ·
   omega
  ·
   rw [hk, Int.toNat_natCast, hj]
   have g1 := envS_len (q := sliceQ q y.frm y.tu) (by unfold sliceQ; simp; omega)
   have g2 := smE_one (F := fun j => (f j).length) (k := 0) hj hy
   rw [Nat.zero_add] at g2
   dsimp only
   simp only [List.flatten_cons, List.length_append, List.flatten_nil, List.length_nil, List.length_cons]
   omega
 ·
  exact ⟨by simp, by simp⟩
theorem oneP_len {f : Nat → Tx} {q : Tx} {l : List Prt} {i : Nat} {p : Prt} (hq : q.length ≤ 2000) (h : MedOk q.length p.m) (ht : p.tu ≤ q.length) : (oneP f q l i p).length ≤ 500000000 + smE (fun j => (f j).length) (i : Int) l 0 := by
 unfold oneP
 split
 ·
  have f6 := strQ_len p.m.sub
  have h2 := h.2.1
  have := kidsC_len f i l 0
  simp only [List.length_cons, List.length_append, List.length_nil]
  omega
 ·
  have h1 := listQ_len (leafL q p (midL f q l i p))
  have h2 := leafL_len (mid := midL f q l i p) hq h
  have h3 := midL_len (f := f) (l := l) (i := i) (p := p) hq
  omega
theorem oneS_len {q : Tx} (hq : q.length ≤ 2000) {n i : Nat} (hn : 64 ≤ n + i) (hi : i < (partsQ q).length) : (oneS n q (partsQ q) i).length ≤ 32000000000 := by
 obtain ⟨hok, hl64, _⟩ := parts_ok q
 have hup : ∀ (k : Nat) (p : Prt), (partsQ q)[k]? = some p → p.up < (k : Int) := fun k p h => (hok k p h).2.2.2.2.1
 have hm := parts_med q
 generalize partsQ q = l at *
 rw [oneS_deep hup n 64 i (by omega) (by omega)]
 refine Nat.le_trans (mass_at (F := fun i => (oneS 64 q l i).length) (C := 500000000) hup ?_ hi) ?_
 ·
  intro j hj
  have hp := List.getElem?_eq_getElem hj
  have h1 := oneP_len (f := oneS 63 q l) (i := j) (l := l) hq (hm _ (List.getElem_mem hj)) (hok j _ hp).2.2.1
  rw [← oneS_at hp] at h1
  refine Nat.le_trans h1 ?_
  have e : smE (fun k => (oneS 63 q l k).length) (j : Int) l 0 = smE (fun k => (oneS 64 q l k).length) (j : Int) l 0 := by
   rw [← kidsC_len, ← kidsC_len]
   rw [kidsC_congr (f := oneS 63 q l) (g := oneS 64 q l) fun k y hk hy => by
    rw [Nat.zero_add]
    have := hup k y hk
    exact oneS_deep hup 63 64 k (by omega) (by omega)]
  rw [e]
  exact Nat.le_refl _
 ·
  have := Nat.mul_le_mul_left 500000000 hl64
  omega
theorem kidsC_none (f : Nat → Tx) (i : Int) : ∀ {r : List Prt} {k : Nat}, cntK i r = 0 → kidsC f i r k = []
 | [], _, _ => rfl
 | p :: r, k, h => by
  have h : (if p.up = i then 1 else 0) + cntK i r = 0 := h
  have h1 : ¬ p.up = i := fun e => by rw [if_pos e] at h; omega
  rw [if_neg h1] at h
  show (if p.up = i then f k else []) ++ kidsC f i r (k + 1) = []
  rw [if_neg h1, kidsC_none f i (r := r) (by omega)]
  rfl
theorem kidL_first (f : Nat → Tx) (i : Int) : ∀ (r : List Prt) (k : Nat), 0 < cntK i r → ∃ (j : Nat) (p : Prt), r[j]? = some p ∧ p.up = i ∧ kidL i r k 1 = ((k + j : Nat) : Int) ∧ cntK i (r.take (j + 1)) = 1 ∧ kidsC f i r k = f (k + j) ++ kidsC f i (r.drop (j + 1)) (k + j + 1)
 | [], _, h => absurd h (by show ¬ 0 < 0; omega)
 | p :: r, k, h => by
  by_cases e : p.up = i
  ·
   refine ⟨0, p, rfl, e, ?_, ?_, ?_⟩
   ·
    unfold kidL; rw [if_pos e, if_pos rfl, Nat.add_zero]
   ·
    show (if p.up = i then 1 else 0) + 0 = 1
    rw [if_pos e]
   ·
    show (if p.up = i then f k else []) ++ kidsC f i r (k + 1) = _
    rw [if_pos e]
    rfl
  ·
   have h : 0 < (if p.up = i then 1 else 0) + cntK i r := h
   rw [if_neg e] at h
   obtain ⟨j, q, h1, h2, h3, h4, h5⟩ := kidL_first f i r (k + 1) (by omega)
   refine ⟨j + 1, q, by simpa using h1, h2, ?_, ?_, ?_⟩
   ·
    unfold kidL; rw [if_neg e, h3]; congr 1; omega
   ·
    show (if p.up = i then 1 else 0) + cntK i (r.take (j + 1)) = 1
    rw [if_neg e, h4]
   ·
    show (if p.up = i then f k else []) ++ kidsC f i r (k + 1) = _
    rw [if_neg e, h5, show k + 1 + j = k + (j + 1) by omega]
    rfl
theorem kidL_skip (i : Int) : ∀ (a b : List Prt) (k : Nat) (n : Nat), cntK i a < n → kidL i (a ++ b) k (n : Int) = kidL i b (k + a.length) ((n - cntK i a : Nat) : Int)
 | [], b, k, n, _ => rfl
 | p :: a, b, k, n, h => by
  have h : (if p.up = i then 1 else 0) + cntK i a < n := h
  have e2 : cntK i (p :: a) = (if p.up = i then 1 else 0) + cntK i a := rfl
  rw [e2, List.length_cons, show k + (a.length + 1) = k + 1 + a.length by omega]
  show (if p.up = i then (if (n : Int) = 1 then (k : Int) else kidL i (a ++ b) (k + 1) ((n : Int) - 1)) else kidL i (a ++ b) (k + 1) (n : Int)) = _
  by_cases e : p.up = i
  ·
   rw [if_pos e] at h ⊢
   rw [if_neg (by omega), show ((n : Int) - 1) = ((n - 1 : Nat) : Int) by omega, kidL_skip i a b (k + 1) (n - 1) (by omega), if_pos e, show n - 1 - cntK i a = n - (1 + cntK i a) by omega]
  ·
   rw [if_neg e] at h ⊢
   rw [kidL_skip i a b (k + 1) n (by omega), if_neg e, show n - cntK i a = n - (0 + cntK i a) by omega]
theorem kid_next (f : Nat → Tx) {i : Int} {l : List Prt} {pos j : Nat} (hp : pos ≤ l.length) (h1 : cntK i (l.take pos) = j) (h2 : j < cntK i l) :
  ∃ (k : Nat) (p : Prt), pos ≤ k ∧ l[k]? = some p ∧ p.up = i ∧ kidQ l i ((j + 1 : Nat) : Int) = (k : Int) ∧ cntK i (l.take (k + 1)) = j + 1 ∧ kidsC f i (l.drop pos) pos = f k ++ kidsC f i (l.drop (k + 1)) (k + 1) := by
 have e : l.take pos ++ l.drop pos = l := List.take_append_drop pos l
 have hc : cntK i l = j + cntK i (l.drop pos) := by conv => lhs; rw [← e, cntK_app, h1]
 obtain ⟨m, p, g1, g2, g3, g4, g5⟩ := kidL_first f i (l.drop pos) pos (by omega)
 have hlt : (l.take pos).length = pos := by rw [List.length_take]; omega
 refine ⟨pos + m, p, by omega, by rw [← List.getElem?_drop]; exact g1, g2, ?_, ?_, ?_⟩
 ·
  have := kidL_skip i (l.take pos) (l.drop pos) 0 (j + 1) (by omega)
  rw [e, h1, Nat.zero_add, hlt, show j + 1 - j = 1 by omega] at this
  unfold kidQ
  rw [this]
  exact g3
 ·
  rw [show pos + m + 1 = pos + (m + 1) by omega, List.take_add, cntK_app, h1, g4]
 ·
  rw [g5, List.drop_drop]
  rfl

end Go.Proofs.YtenbjndldenkfaaGreatDoor
namespace Go.Proofs.YtenbjndldenkfaaGreatDoor
open Go.RowKit Go.Sort
set_option maxRecDepth 100000 in
theorem plines_iter (q : Tx) (A : Option Addr) (c g1 g2 g3 frm tu : Nat) (hs : q.length ≤ 1000000) (hc : q.length ≤ c) (hft : frm ≤ tu) (htl : tu ≤ q.length) (hn12 : g1 ≠ g2) (hn13 : g1 ≠ g3) (hnA : g1 ∉ obN A q.length) :
  Iter Tryz.prog 185 #[.pointer (some ⟨g1, 0, none⟩), .pointer (some ⟨g2, 0, none⟩), .pointer (some ⟨g3, 0, none⟩)] (fun x : Nat × Nat => #[.int .i64 ((x.1 : Nat) : Int), .int .i64 ((x.2 : Nat) : Int)]) [g1] (g1 :: g2 :: g3 :: obN A q.length) (fun w => Blk w g1 3 #[.int .i64 ((frm : Nat) : Int)] ∧ Blk w g2 3 #[.int .i64 ((tu : Nat) : Int)] ∧ Blk w g3 22 #[.slice A q.length c] ∧ Rd w 1 A q.length (U8 q)) (offsF frm (linesF (sliceQ q frm tu))) := by
 intro l J Jx w hJ hJx hK hY h0
 obtain ⟨hb1, hb2, hb3, hrd⟩ := hK
 refine VC.calls (nt := 28) (res := #[]) Tryz.func185 rfl Tryz.ntmps185 Tryz.results185 rfl ?_
 refine jb ?_
 refine VC.loop (σ := Nat × List (Nat × Nat)) (fun s1 => [(0, .func (.yield l) #[] #[]), (1, .pointer (some ⟨g1, 0, none⟩)), (2, .pointer (some ⟨g2, 0, none⟩)), (3, .pointer (some ⟨g3, 0, none⟩))]) (fun s1 wr => frm ≤ s1.1 ∧ s1.1 ≤ tu ∧ offsF frm (linesF (sliceQ q frm tu)) = s1.2 ++ offsF s1.1 (linesF (sliceQ q s1.1 tu)) ∧ Blk wr g1 3 #[.int .i64 ((s1.1 : Nat) : Int)] ∧ Blk wr g2 3 #[.int .i64 ((tu : Nat) : Int)] ∧ Blk wr g3 22 #[.slice A q.length c] ∧ Rd wr 1 A q.length (U8 q) ∧ J s1.2 wr) (fun s1 => tu - s1.1) (frm, []) (js4 rfl rfl rfl rfl) ⟨Nat.le_refl _, hft, rfl, hb1, hb2, hb3, hrd, h0⟩ ?_
 rintro ⟨i, pre⟩ wr ⟨hi0, hi, hsp, hb1, hb2, hb3, hrd, hj⟩
 dsimp only at hi0 hi hsp hb1 hj ⊢
 refine js (js (jr ?_))
 refine Ops.r (Run.load rfl Tryz.isAgg3 (hb1.cell 0)) rfl ?_
 refine Ops.r (Run.load rfl Tryz.isAgg3 (hb2.cell 0)) rfl ?_
 refine Ops.r (Run.bin rfl rfl (Bin.lssN _ _)) rfl ?_
 refine jo (jn (jv5 0 1 2 3 9 ?_))
 refine VC.condD rfl (fun hc1 => ?_) (fun hc1 => ?_)
 ·
  have hdl : (sliceQ q i tu).length = tu - i := sliceQ_len htl
  have hr0 : sliceQ q i tu ≠ [] := fun h => by have := congrArg List.length h; rw [hdl] at this; simp at this; omega
  have hcut := U8_cut hrd (show i ≤ tu by omega) htl hc
  refine jk (jn (jv4 0 1 2 3 ?_))
  refine jb (js (jr ?_))
  refine Ops.r (Run.load rfl Tryz.isAgg3 (hb2.cell 0)) rfl ?_
  refine ja ?_
  refine jo (jn (jv5 0 1 2 3 5 ?_))
  refine js (js (jr ?_))
  refine Ops.r (Run.load rfl Tryz.isAgg22 (hb3.cell 0)) rfl ?_
  refine Ops.r (Run.load rfl Tryz.isAgg3 (hb1.cell 0)) rfl ?_
  refine Ops.r (Run.load rfl Tryz.isAgg3 (hb2.cell 0)) rfl ?_
  refine Ops.r (Run.sliceS i tu rfl Tryz.underlying22 Tryz.sizeOf5 (evB.some_ rfl) (evB.some_ rfl) (by omega) (by omega)) rfl ?_
  refine Ops.cl (Enters.fn (evs.cons rfl (evs.cons rfl evs.nil)) Tryz.call87) ((by rw [← hdl]; exact idxBytes_spec _ _ (sliceQ q i tu) 10 _ hcut hr0)) rfl ?_
  rintro e _ ⟨rfl, rfl⟩
  refine ⟨_, rfl, ?_⟩
  refine ja ?_
  refine jo (jn (jv6 0 1 2 3 5 6 ?_))
  refine js (jr (jm ?_))
  refine Ops.r (Run.bin rfl rfl (Bin.geq _ 0)) rfl ?_
  refine jo (jn (jv7 0 1 2 3 5 6 17 ?_))
  refine VC.meet (σ := Nat) (fun s1 => [(0, .func (.yield l) #[] #[]), (1, .pointer (some ⟨g1, 0, none⟩)), (2, .pointer (some ⟨g2, 0, none⟩)), (3, .pointer (some ⟨g3, 0, none⟩)), (5, .int .i64 ((s1 : Nat) : Int))]) (fun s1 wr2 => i < s1 ∧ s1 ≤ tu ∧ offsF i (linesF (sliceQ q i tu)) = (i, s1) :: offsF s1 (linesF (sliceQ q s1 tu)) ∧ wr = wr2) ?_ ?_
  ·
   refine VC.condD rfl (fun hc2 => ?_) (fun hc2 => ?_)
   ·
    obtain ⟨a, b, hab, hna, hix⟩ := (idxB_cases (sliceQ q i tu) 10).resolve_left (fun h => by rw [h.1] at hc2; omega)
    rw [hix]
    have hal : i + a.length + 1 ≤ tu := by
     have := congrArg List.length hab
     rw [hdl] at this
     simp at this
     omega
    have hcutl : offsF i (linesF (sliceQ q i tu)) = (i, i + a.length + 1) :: offsF (i + a.length + 1) (linesF (sliceQ q (i + a.length + 1) tu)) := by
     have e : sliceQ q (i + a.length + 1) tu = b := by
      have e1 : sliceQ (sliceQ q i tu) (a.length + 1) (tu - i) = sliceQ q (i + (a.length + 1)) (i + (tu - i)) := slice_slice (by omega)
      rw [show i + (tu - i) = tu by omega] at e1
      rw [show i + a.length + 1 = i + (a.length + 1) by omega, ← e1, ← hdl, slice_end, hab, List.drop_append, List.drop_eq_nil_of_le (by omega)]
      simp
     rw [e, hab, linesF_cut b hna]
     show (i, i + (a ++ [10]).length) :: offsF (i + (a ++ [10]).length) _ = _
     rw [List.length_append]
     rfl
    refine jr ?_
    refine Ops.r (Run.load rfl Tryz.isAgg3 (hb1.cell 0)) rfl ?_
    refine jm ?_
    refine Ops.r (Run.bin rfl rfl (Bin.add_i64 i a.length (by omega))) rfl ?_
    refine Ops.r (Run.bin rfl rfl (Bin.add_i64 (i + a.length) 1 (by omega))) rfl ?_
    refine ja ?_
    refine jo ?_
    refine jn ⟨(i + a.length + 1), (js5 rfl rfl rfl rfl rfl), ?_⟩
    exact ⟨by omega, hal, hcutl, rfl⟩
   ·
    have hna : (10 : UInt8) ∉ sliceQ q i tu := by
     rcases idxB_cases (sliceQ q i tu) 10 with ⟨_, h⟩ | ⟨a, b, _, _, hi⟩
     ·
      exact h
     ·
      rw [hi] at hc2; omega
    have hcutl : offsF i (linesF (sliceQ q i tu)) = (i, tu) :: offsF tu (linesF (sliceQ q tu tu)) := by
     rw [linesF_last hr0 hna]
     show [(i, i + (sliceQ q i tu).length)] = _
     rw [hdl, show i + (tu - i) = tu by omega]
     unfold sliceQ
     rw [Nat.sub_self, List.take_zero]
     rfl
    refine jk ?_
    refine jn ⟨tu, (js5 rfl rfl rfl rfl rfl), ?_⟩
    exact ⟨hc1, Nat.le_refl _, hcutl, rfl⟩
  ·
   rintro t _ ⟨hit, htl2, hcutl, rfl⟩ Γ hΓ
   have hpre : (pre ++ [(i, t)]) <+: offsF frm (linesF (sliceQ q frm tu)) := ⟨offsF t (linesF (sliceQ q t tu)), by rw [hsp, hcutl]; simp⟩
   refine jn (VC.sub _ hΓ ?_)
   refine js (js (jr (jm ?_)))
   refine Ops.r (Run.load rfl Tryz.isAgg3 (hb1.cell 0)) rfl ?_
   refine jm ?_
   refine Ops.yield rfl rfl (evs.cons rfl (evs.cons rfl evs.nil)) ((by simpa using hY pre (i, t) wr hj hpre : YieldsTo Tryz.prog l #[_, _] wr _)) rfl rfl ?_
   rintro e w1 ⟨hoff, hR0⟩
   obtain ⟨yb, rfl, hR⟩ : ∃ yb : Bool, e = .returned (.bool yb) ∧ ((yb = true ∧ J (pre ++ [(i, t)]) w1) ∨ (yb = false ∧ Jx (pre ++ [(i, t)]) w1)) := by
    rcases hR0 with ⟨rfl, h⟩ | ⟨rfl, h⟩
    ·
     exact ⟨true, rfl, .inl ⟨rfl, h⟩⟩
    ·
     exact ⟨false, rfl, .inr ⟨rfl, h⟩⟩
   refine ⟨_, rfl, ?_⟩
   have hb1 := hoff.blk hb1 (by simp)
   have hb2 := hoff.blk hb2 (by simp)
   have hb3 := hoff.blk hb3 (by simp)
   have hrd := hoff.rd hrd (fun hn x hx => List.mem_cons_of_mem _ (List.mem_cons_of_mem _ (List.mem_cons_of_mem _ (obN_of hn hx))))
   refine Ops.r (Run.not rfl) rfl ?_
   refine jo (jn (jv6 0 1 2 3 5 26 ?_))
   refine VC.condB rfl (fun hc3 => ?_) (fun hc3 => ?_)
   ·
    refine jt ?_
    refine thenQ_r (blockQ_r (thenQ_r (blockQ_r (end0 ?_))))
    exact ⟨⟨_, rfl⟩, .inr ⟨_, (hR.resolve_left (fun h => by rw [h.1] at hc3; simp at hc3)).2⟩⟩
   ·
    refine jk (jn (jv5 0 1 2 3 5 ?_))
    refine jr (jm ?_)
    refine Ops.st (Acts.store rfl rfl Tryz.sizeOf3 hb1 rfl rfl) ?_
    rintro w2 ⟨hb1n, hf2, _⟩
    have hb1n : Blk w2 g1 3 #[.int .i64 ((t : Nat) : Int)] := hb1n
    have hb2 := hb2.frm hf2 (by simp; exact fun e => hn12 e.symm)
    have hb3 := hb3.frm hf2 (by simp; exact fun e => hn13 e.symm)
    have hrd := hrd.frm hf2 (fun hn x hx => by simp; rintro rfl; exact hnA (obN_of hn hx))
    have hj2 := hJ _ _ _ (hR.resolve_right (fun h => by rw [h.1] at hc3; simp at hc3)).2 hf2
    refine jo ?_
    refine blockQ_n (jn ⟨(t, pre ++ [(i, t)]), (js4 rfl rfl rfl rfl), ?_, ?_⟩)
    ·
     exact ⟨by dsimp only; omega, htl2, by rw [hsp, hcutl]; simp, hb1n, hb2, hb3, hrd, hj2⟩
    ·
     simp only; omega
 ·
  have hil : i = tu := by omega
  have hfin : offsF frm (linesF (sliceQ q frm tu)) = pre := by rw [hsp, hil]; unfold sliceQ; rw [Nat.sub_self, List.take_zero]; simp [linesF, offsF]
  refine jx ?_
  refine thenQ_x (thenQ_x (blockQ_x ?_))
  refine end0n ?_
  exact ⟨⟨_, rfl⟩, .inl (by rw [hfin]; exact hj)⟩
set_option maxRecDepth 100000 in
theorem plines_spec (A : Option Addr) (n c frm tu : Nat) (w : World) : Calls Tryz.prog 142 #[.slice A n c, .int .i64 ((frm : Nat) : Int), .int .i64 ((tu : Nat) : Int)] w fun e w' => Frm [] w w' ∧ ∃ g1 g2 g3, e = .returned (.func (.func 185) #[] #[.pointer (some ⟨g1, 0, none⟩), .pointer (some ⟨g2, 0, none⟩), .pointer (some ⟨g3, 0, none⟩)]) ∧ Blk w' g1 3 #[.int .i64 ((frm : Nat) : Int)] ∧ Blk w' g2 3 #[.int .i64 ((tu : Nat) : Int)] ∧ Blk w' g3 22 #[.slice A n c] ∧ w.heap.size ≤ g1 ∧ w.heap.size ≤ g2 ∧ w.heap.size ≤ g3 ∧ g1 ≠ g2 ∧ g1 ≠ g3 ∧ g1 < w'.heap.size ∧ g2 < w'.heap.size ∧ g3 < w'.heap.size := by
 refine VC.calls (nt := 8) (res := #[.tmp 6]) Tryz.func142 rfl Tryz.ntmps142 Tryz.results142 rfl ?_
 refine js (jr ?_)
 refine Ops.m (Does.box rfl) rfl ?_
 rintro _ w1 ⟨rfl, hF1⟩
 have hb3 := hF1.blk
 refine Ops.m (Does.box rfl) rfl ?_
 rintro _ w2 ⟨rfl, hF2⟩
 have hb4 := hF2.blk
 have hb3 := hb3.frm hF2.frm (by simp)
 refine Ops.m (Does.box rfl) rfl ?_
 rintro _ w3 ⟨rfl, hF3⟩
 have hb5 := hF3.blk
 have l3 := hb3.lt
 have l4 := hb4.lt
 have hb3 := hb3.frm hF3.frm (by simp)
 have hb4 := hb4.frm hF3.frm (by simp)
 have hs1 := hF1.size
 have hs2 := hF2.size
 have hs3 := hF3.size
 have l1 := hF1.blk.lt
 refine ja ?_
 refine jo (jn (jv3 3 4 5 ?_))
 refine js (jr ?_)
 refine Ops.r (Run.mkFunc evs.nil (evs.cons rfl (evs.cons rfl (evs.cons rfl evs.nil)))) rfl ?_
 refine ja ?_
 refine jo (jn (jv1 6 ?_))
 refine jt ?_
 refine end1 rfl ?_
 exact ⟨(hF1.frm.trans hF2.frm (by simp)).trans hF3.frm (by simp), _, _, _, rfl, hb4, hb5, hb3, by omega, by omega, by omega, by omega, by omega, hb4.lt, hb5.lt, hb3.lt⟩
set_option maxRecDepth 100000 in
theorem bare_spec (A : Option Addr) (c : Nat) (l : Tx) (w : World) (h : Rd w 1 A l.length (U8 l)) (hl : l.length ≤ 1000000) : Calls Tryz.prog 186 #[.slice A l.length c] w fun e w' => e = .returned (encStr (bareL l)) ∧ w = w' := by
 refine VC.calls (nt := 15) (res := #[.tmp 2]) Tryz.func186 rfl Tryz.ntmps186 Tryz.results186 rfl ?_
 refine js (jr (ja ?_))
 refine jo (jn (jv1 0 ?_))
 refine js (jr (jm ?_))
 refine Ops.r (Run.strOfT rfl Tryz.underlying22 Tryz.underlying5 Tryz.underlying9 h) rfl ?_
 refine ja ?_
 refine jo (jn (jv1 3 ?_))
 refine js (js (jr (jm ?_)))
 refine Ops.cl (Enters.fn (evs.cons rfl (evs.cons rfl evs.nil)) Tryz.call211) (sufSS_spec l 10 _ hl) rfl ?_
 rintro e _ ⟨rfl, rfl⟩
 refine ⟨_, rfl, ?_⟩
 refine jo (jn (jv2 3 7 ?_))
 refine VC.condB rfl (fun hc1 => ?_) (fun hc1 => ?_)
 ·
  have hlast : l.getLast? = some 10 := of_decide_eq_true hc1
  have h0 : 0 < l.length := List.length_pos_iff.2 (fun e => by rw [e] at hlast; cases hlast)
  have hdl : (l.drop 0).take (l.length - 1 - 0) = l.dropLast := by rw [List.dropLast_eq_take]; simp
  refine js (jr (jm ?_))
  refine jm ?_
  refine Ops.r (Run.lenT rfl Tryz.underlying9) rfl ?_
  refine Ops.r (Run.bin rfl rfl (Bin.sub_i64 l.length 1 h0 (by omega))) rfl ?_
  refine Ops.r (Run.sliceT 0 (l.length - 1) rfl Tryz.underlying9 evB.none_ (evB.some_ rfl) (Nat.zero_le _) (by omega)) rfl ?_
  rw [hdl]
  refine Ops.cl (Enters.fn (evs.cons rfl (evs.cons rfl evs.nil)) Tryz.call124) (trimSfxS_spec l.dropLast 13 _ (by simp; omega)) rfl ?_
  rintro e _ ⟨rfl, rfl⟩
  refine ⟨_, rfl, ?_⟩
  refine ja ?_
  refine jo (jn (jv1 2 ?_))
  refine jt ?_
  refine thenQ_r (end1 rfl ?_)
  exact ⟨by rw [bare_trim, if_pos hlast], rfl⟩
 ·
  refine jk (jn (jv1 3 ?_))
  refine js (jr (jm ?_))
  refine ja ?_
  refine jo (jn (jv1 2 ?_))
  refine jt ?_
  refine end1 rfl ?_
  exact ⟨by rw [bare_trim, if_neg (of_decide_eq_false hc1)], rfl⟩
theorem cutPre_spec (s p : Tx) (w : World) : Calls Tryz.prog 80 #[encStr s, encStr p] w fun e w' => e = .returned (.tuple #[encStr (Lib.trimPrefix s p), .bool (p.isPrefixOf s)]) ∧ w = w' := by
 have h := Tryz.strings_CutPrefix ⟨s.toArray⟩ ⟨p.toArray⟩ w
 exact h.mono fun e w' ⟨h, hw⟩ => ⟨h, hw.symm⟩
theorem trimPre_yes {s p : Tx} (h : p.isPrefixOf s = true) : Lib.trimPrefix s p = s.drop p.length ∧ cutPre p s = some (s.drop p.length) := by
 unfold Lib.trimPrefix Lib.hasPrefix cutPre
 rw [if_pos h, if_pos h]
 exact ⟨rfl, rfl⟩
theorem trimPre_no {s p : Tx} (h : p.isPrefixOf s = false) : Lib.trimPrefix s p = s ∧ cutPre p s = none := by
 unfold Lib.trimPrefix Lib.hasPrefix cutPre
 rw [if_neg (by rw [h]; simp), if_neg (by rw [h]; simp)]
 exact ⟨rfl, rfl⟩
theorem trimPre_le (s p : Tx) : (Lib.trimPrefix s p).length ≤ s.length := by unfold Lib.trimPrefix; split <;> simp
theorem parts_of (bd l : Tx) (h : (dash2 ++ bd).isPrefixOf (bareL l) = true) : partsL bd l = (decide (trimQ (Lib.trimPrefix (Lib.trimPrefix (bareL l) (dash2 ++ bd)) dash2) = []), dash2.isPrefixOf (Lib.trimPrefix (bareL l) (dash2 ++ bd))) := by
 obtain ⟨e1, e2⟩ := trimPre_yes h
 unfold partsL
 rw [e2, e1]
 cases h2 : dash2.isPrefixOf ((bareL l).drop (dash2 ++ bd).length) with
 | true =>
  obtain ⟨e3, e4⟩ := trimPre_yes h2
  dsimp only
  rw [e4, e3]
 | false =>
  obtain ⟨e3, e4⟩ := trimPre_no h2
  dsimp only
  rw [e4, e3]
theorem parts_not (bd l : Tx) (h : (dash2 ++ bd).isPrefixOf (bareL l) = false) : partsL bd l = (false, false) := by
 unfold partsL
 rw [(trimPre_no h).2]
set_option maxRecDepth 100000 in
theorem parts_spec (A : Option Addr) (c : Nat) (l bd : Tx) (w : World) (h : Rd w 1 A l.length (U8 l)) (hl : l.length ≤ 1000000) (hb : bd.length ≤ 1000000) : Calls Tryz.prog 143 #[.slice A l.length c, encStr bd] w fun e w' => e = .returned (.tuple #[.bool (partsL bd l).1, .bool (partsL bd l).2]) ∧ Frm [] w w' := by
 refine VC.calls (nt := 28) (res := #[.tmp 4, .tmp 5]) Tryz.func143 rfl Tryz.ntmps143 Tryz.results143 rfl ?_
 refine js (jr (ja ?_))
 refine ja ?_
 refine jo (jn (jv2 0 1 ?_))
 refine js (jr (jm ?_))
 refine Ops.cl (Enters.fn (evs.cons rfl evs.nil) Tryz.call186) (bare_spec _ _ l _ h hl) rfl ?_
 rintro e _ ⟨rfl, rfl⟩
 refine ⟨_, rfl, ?_⟩
 have hbl := bareL_le l
 refine jm ?_
 refine Ops.r (Run.addT rfl rfl (by simp; omega)) rfl ?_
 refine Ops.cl (Enters.fn (evs.cons rfl (evs.cons rfl evs.nil)) Tryz.call80) (cutPre_spec (bareL l) (dash2 ++ bd) _) rfl ?_
 rintro e _ ⟨rfl, rfl⟩
 refine ⟨_, rfl, ?_⟩
 have htl := trimPre_le (bareL l) (dash2 ++ bd)
 refine jm ?_
 refine Ops.r (Run.extract rfl rfl) rfl ?_
 refine Ops.r (Run.extract rfl rfl) rfl ?_
 refine ja ?_
 refine ja ?_
 refine jo (jn (jv2 6 7 ?_))
 refine js (js (jr (jm ?_)))
 refine Ops.r (Run.not rfl) rfl ?_
 refine jo (jn (jv2 6 18 ?_))
 refine VC.condB rfl (fun hc1 => ?_) (fun hc1 => ?_)
 ·
  refine js (jr (ja ?_))
  refine ja ?_
  refine jo (jn (jv2 4 5 ?_))
  refine jt ?_
  refine thenQ_r (end2 rfl rfl ?_)
  exact ⟨by rw [parts_not bd l (by simpa using hc1)], Frm.refl _ _⟩
 ·
  refine jk (jn (jv1 6 ?_))
  refine js (jr (jm ?_))
  refine Ops.cl (Enters.fn (evs.cons rfl (evs.cons rfl evs.nil)) Tryz.call80) (cutPre_spec (Lib.trimPrefix (bareL l) (dash2 ++ bd)) dash2 _) rfl ?_
  rintro e _ ⟨rfl, rfl⟩
  refine ⟨_, rfl, ?_⟩
  have htl2 := trimPre_le (Lib.trimPrefix (bareL l) (dash2 ++ bd)) dash2
  refine jm ?_
  refine Ops.r (Run.extract rfl rfl) rfl ?_
  refine Ops.r (Run.extract rfl rfl) rfl ?_
  refine ja ?_
  refine ja ?_
  refine jo (jn (jv2 6 8 ?_))
  refine js (jr (jm ?_))
  refine Ops.cl (Enters.fn (evs.cons rfl (evs.cons rfl evs.nil)) Tryz.call125) (trimS_spec (Lib.trimPrefix (Lib.trimPrefix (bareL l) (dash2 ++ bd)) dash2) _ (by omega)) rfl ?_
  rintro e w1 ⟨rfl, hf1⟩
  refine ⟨_, rfl, ?_⟩
  refine Ops.r (Run.eqlT rfl rfl) rfl ?_
  refine jm ?_
  refine ja ?_
  refine ja ?_
  refine jo (jn (jv2 4 5 ?_))
  refine jt ?_
  refine end2 rfl rfl ?_
  exact ⟨by rw [parts_of bd l (by simpa using hc1)]; rfl, hf1⟩
set_option maxRecDepth 100000 in
theorem ahead_spec (A : Option Addr) (c : Nat) (q : Tx) (frm line : Nat) (w : World) (h : Rd w 1 A q.length (U8 q)) (hq : q.length ≤ 1000000) (hl : line ≤ q.length) : Calls Tryz.prog 144 #[.slice A q.length c, .int .i64 ((frm : Nat) : Int), .int .i64 ((line : Nat) : Int)] w fun e w' => e = .returned (.int .i64 ((aheadQ q frm line : Nat) : Int)) ∧ w = w' := by
 have hah : aheadQ q frm line = if line > frm ∧ q[line - 1]? = some 10 then (if line - 1 > frm ∧ q[line - 2]? = some 13 then line - 2 else line - 1) else line := rfl
 refine VC.calls (nt := 34) (res := #[.tmp 6]) Tryz.func144 rfl Tryz.ntmps144 Tryz.results144 rfl ?_
 refine js (jr ?_)
 refine Ops.r (v := .int .i64 ((0 : Nat) : Int)) (Run.asg rfl) rfl ?_
 refine jo (jn (jv3 0 1 2 ?_))
 refine js (js ?_)
 refine VC.split1 [(0, _), (1, _), (2, _)] (js3 rfl rfl rfl) 17 (.bool (decide (line > frm ∧ q[line - 1]? = some 10))) ?_ ?_
 ·
  refine jr ?_
  refine jm ?_
  refine jm ?_
  refine Ops.r (Run.bin rfl rfl (Bin.gtrN _ _)) rfl ?_
  by_cases hs9 : frm < line
  ·
   have hil : line - 1 < q.length := by omega
   obtain ⟨ad, rfl, hcell⟩ := U8_at h hil
   have hgx : q[line - 1]? = some q[line - 1] := List.getElem?_eq_getElem hil
   generalize hz : q[line - 1] = z at *
   have hzb : some z = some (10 : UInt8) ↔ z.toNat = 10 := ⟨fun e => by rw [Option.some.inj e]; rfl, fun e => congrArg some (UInt8.toNat_inj.1 e)⟩
   refine jm ?_
   refine jg ?_
   refine jg ?_
   refine Ops.rg rfl au (Run.bin rfl rfl (Bin.sub_i64 line 1 (by omega) (by omega))) rfl ?_
   refine Ops.rg rfl au (Run.index1 (line - 1) rfl rfl Tryz.underlying22 Tryz.sizeOf5 hil) rfl ?_
   refine Ops.rg rfl au (Run.load rfl Tryz.isAgg5 hcell) rfl ?_
   refine Ops.rg rfl au (Run.bin rfl rfl (Bin.eqlN _ 10)) rfl ?_
   by_cases hs16 : z.toNat = 10
   ·
    refine Ops.r (Run.pickT rfl rfl au) rfl ?_
    refine jo ?_
    refine jn ⟨(js4 (jc (by first | (symm; exact decide_eq_false (fun h => by omega)) | (rw [hgx]; exact decide_eq_decide.2 ⟨fun e => ⟨hs9, hzb.2 e⟩, fun e => hzb.1 e.2⟩))) rfl rfl rfl), rfl⟩
   ·
    refine Ops.r (Run.pickT rfl rfl au) rfl ?_
    refine jo ?_
    refine jn ⟨(js4 (jc (by first | (symm; exact decide_eq_false (fun h => by omega)) | (rw [hgx]; exact decide_eq_decide.2 ⟨fun e => ⟨hs9, hzb.2 e⟩, fun e => hzb.1 e.2⟩))) rfl rfl rfl), rfl⟩
  ·
   refine jm ?_
   refine ju ?_
   refine ju ?_
   refine ju ?_
   refine ju ?_
   refine ju ?_
   refine ju ?_
   refine Ops.r (Run.pickF rfl rfl au) rfl ?_
   refine jo ?_
   refine jn ⟨(js4 (jc (by first | (symm; exact decide_eq_false (fun h => by omega)) | (rw [hgx]; exact decide_eq_decide.2 ⟨fun e => ⟨hs9, hzb.2 e⟩, fun e => hzb.1 e.2⟩))) rfl rfl rfl), rfl⟩
 ·
  intro Γ hΓ
  refine jn (VC.sub _ hΓ ?_)
  refine VC.condD rfl (fun hc1 => ?_) (fun hc1 => ?_)
  ·
   have hlf := hc1.1
   rw [if_pos hc1] at hah
   refine js (jr (jm ?_))
   refine Ops.r (Run.bin rfl rfl (Bin.sub_i64 line 1 (by omega) (by omega))) rfl ?_
   refine ja ?_
   refine jo (jn (jv3 0 1 2 ?_))
   refine js ?_
   refine VC.split1 [(2, _)] (js1 rfl) 30 (.bool (decide (line - 1 > frm ∧ q[line - 2]? = some 13))) ?_ ?_
   ·
    refine jr ?_
    refine jm ?_
    refine jm ?_
    refine Ops.r (Run.bin rfl rfl (Bin.gtrN _ _)) rfl ?_
    by_cases hs22 : frm < line - 1
    ·
     have hil : line - 2 < q.length := by omega
     obtain ⟨ad, rfl, hcell⟩ := U8_at h hil
     have hgx : q[line - 2]? = some q[line - 2] := List.getElem?_eq_getElem hil
     generalize hz : q[line - 2] = z at *
     have hzb : some z = some (13 : UInt8) ↔ z.toNat = 13 := ⟨fun e => by rw [Option.some.inj e]; rfl, fun e => congrArg some (UInt8.toNat_inj.1 e)⟩
     refine jm ?_
     refine jg ?_
     refine jg ?_
     refine Ops.rg rfl au (Run.bin rfl rfl (Bin.sub_i64 (line - 1) 1 (by omega) (by omega))) rfl ?_
     refine Ops.rg rfl au (Run.index1 (line - 1 - 1) rfl rfl Tryz.underlying22 Tryz.sizeOf5 (by omega)) rfl ?_
     refine Ops.rg rfl au (Run.load rfl Tryz.isAgg5 hcell) rfl ?_
     refine Ops.rg rfl au (Run.bin rfl rfl (Bin.eqlN _ 13)) rfl ?_
     by_cases hs29 : z.toNat = 13
     ·
      refine Ops.r (Run.pickT rfl rfl au) rfl ?_
      refine jo ?_
      refine jn ⟨(js2 (jc (by first | (symm; exact decide_eq_false (fun h => by omega)) | (rw [hgx]; exact decide_eq_decide.2 ⟨fun e => ⟨hs22, hzb.2 e⟩, fun e => hzb.1 e.2⟩))) rfl), rfl⟩
     ·
      refine Ops.r (Run.pickT rfl rfl au) rfl ?_
      refine jo ?_
      refine jn ⟨(js2 (jc (by first | (symm; exact decide_eq_false (fun h => by omega)) | (rw [hgx]; exact decide_eq_decide.2 ⟨fun e => ⟨hs22, hzb.2 e⟩, fun e => hzb.1 e.2⟩))) rfl), rfl⟩
    ·
     refine jm ?_
     refine ju ?_
     refine ju ?_
     refine ju ?_
     refine ju ?_
     refine ju ?_
     refine ju ?_
     refine Ops.r (Run.pickF rfl rfl au) rfl ?_
     refine jo ?_
     refine jn ⟨(js2 (jc (by first | (symm; exact decide_eq_false (fun h => by omega)) | (rw [hgx]; exact decide_eq_decide.2 ⟨fun e => ⟨hs22, hzb.2 e⟩, fun e => hzb.1 e.2⟩))) rfl), rfl⟩
   ·
    intro Γ hΓ
    refine jn (VC.sub _ hΓ ?_)
    refine VC.condD rfl (fun hc2 => ?_) (fun hc2 => ?_)
    ·
     rw [if_pos hc2] at hah
     refine jr (jm ?_)
     refine Ops.r (Run.bin rfl rfl (Bin.sub_i64 (line - 1) 1 (by have := hc2.1; omega) (by omega))) rfl ?_
     refine ja ?_
     refine jo (jn (jv1 2 ?_))
     refine js (jr (jm ?_))
     refine ja ?_
     refine jo (jn (jv1 6 ?_))
     refine jt ?_
     refine end1 rfl ?_
     exact ⟨by rw [hah]; rfl, rfl⟩
    ·
     rw [if_neg hc2] at hah
     refine jk (jn (jv1 2 ?_))
     refine js (jr (jm ?_))
     refine ja ?_
     refine jo (jn (jv1 6 ?_))
     refine jt ?_
     refine end1 rfl ?_
     exact ⟨by rw [hah], rfl⟩
  ·
   rw [if_neg hc1] at hah
   refine jk (jn (jv1 2 ?_))
   refine js (jr (jm ?_))
   refine ja ?_
   refine jo (jn (jv1 6 ?_))
   refine jt ?_
   refine end1 rfl ?_
   exact ⟨by rw [hah], rfl⟩
end Go.Proofs.YtenbjndldenkfaaGreatDoor
namespace Go.Proofs.YtenbjndldenkfaaGreatDoor
open Go.RowKit Go.Sort
def PN1 (x : Nat × Nat) : List Value := [.int .i64 ((x.1 : Nat) : Int), .int .i64 ((x.2 : Nat) : Int)]
theorem PN1_len (x : Nat × Nat) : (PN1 x).length = 2 := rfl
theorem PN1_one (x : Nat × Nat) : ∀ u ∈ PN1 x, u.oneCell' = true := by
 intro u hu
 simp only [PN1, List.mem_cons, List.not_mem_nil, or_false] at hu
 rcases hu with rfl | rfl <;> rfl
def PN (l : List (Nat × Nat)) : List Value := l.flatMap PN1
theorem PN_append (a b : List (Nat × Nat)) : PN (a ++ b) = PN a ++ PN b := by simp [PN]
theorem PN_one (l : List (Nat × Nat)) : ∀ u ∈ PN l, u.oneCell' = true := flat_one PN1 PN1_one l
theorem PN_at {w : World} {A : Option Addr} {l : List (Nat × Nat)} {k : Nat} (h : Rd w 2 A l.length (PN l)) (hk : k < l.length) : ∃ ad, A = some ad ∧ ∀ j v, (PN1 l[k])[j]? = some v → w.cell? ((ad.add (k * 2)).add j) = some v := by
 obtain ⟨ad, rfl, hc⟩ := h.elem hk
 refine ⟨ad, rfl, fun j v hj => hc j v ?_⟩
 rw [show PN l = l.flatMap PN1 from rfl, flat_get PN1 2 PN1_len l k hk]
 exact hj
theorem hrdN {w w' : World} {t : TypeId} {x : Nat × Nat} (h : Fresh w w' t (PN1 x).toArray) : Rd w' 2 (some ⟨w.heap.size, 0, none⟩) 1 (PN [x]) := Rd.of_blk (n := 1) (size := 2) h.blk rfl
def begI : Option Nat → Int
 | none => -1
 | some b => (b : Int)
theorem lines_nextO {q : Tx} {frm tu : Nat} {pre : List (Nat × Nat)} {x : Nat × Nat} {ls ls2 : List Tx} (hft : frm ≤ tu) (htl : tu ≤ q.length) (h1 : linesF (sliceQ q frm tu) = ls ++ ls2) (h2 : pre = offsF frm ls) (h3 : (pre ++ [x]) <+: offsF frm (linesF (sliceQ q frm tu))) :
  ∃ l b, ls2 = l :: b ∧ x.1 = frm + ls.flatten.length ∧ x.2 = x.1 + l.length ∧ pre ++ [x] = offsF frm (ls ++ [l]) ∧ linesF (sliceQ q frm tu) = (ls ++ [l]) ++ b ∧ sliceQ q x.1 x.2 = l ∧ x.2 ≤ tu ∧ l ≠ [] ∧ x.2 = frm + (ls ++ [l]).flatten.length := by
 obtain ⟨a, l, b, e1, e2, e3⟩ := offs_pre h3
 have hl : ls.length = a.length := by rw [← offsF_len frm ls, ← h2, e2, offsF_len]
 obtain ⟨rfl, e4⟩ := List.append_inj (h1.symm.trans e1) hl
 obtain ⟨s1, s2⟩ := slice_at e1
 rw [sliceQ_len htl] at s2
 refine ⟨l, b, e4, by rw [e3], by rw [e3], ?_, by rw [e1]; simp, ?_, by rw [e3]; dsimp only; omega, linesF_ne (s := sliceQ q frm tu) (by rw [e1]; simp), by rw [e3]; simp; omega⟩
 ·
  rw [offs_app, h2, e3]
  rfl
 ·
  rw [e3]
  show sliceQ q (frm + ls.flatten.length) (frm + ls.flatten.length + l.length) = l
  rw [Nat.add_assoc, ← slice_slice (q := q) (a := frm) (b := tu) (by omega), s1]
theorem lines_doneO {s : Tx} {o : Nat} {ls ls2 : List Tx} (h1 : linesF s = ls ++ ls2) (h2 : offsF o (linesF s) = offsF o ls) : ls2 = [] ∧ ls = linesF s := by
 have hl : (linesF s).length = ls.length := by rw [← offsF_len o (linesF s), h2, offsF_len]
 rw [h1] at hl ⊢
 simp only [List.length_append] at hl
 have e := List.length_eq_zero_iff.1 (show ls2.length = 0 by omega)
 exact ⟨e, by rw [e, List.append_nil]⟩
def SnI (w : World) (q bd : Tx) (frm tu g4 g7 g8 g9 g10 : Nat) (A : Option Addr) (c : Nat) (Bt : List Nat) (pre : List (Nat × Nat)) (W : World) : Prop :=
 ∃ (ls ls2 : List Tx) (bg : Option Nat) (out : List (Nat × Nat)) (A2 : Option Addr) (c2 : Nat), linesF (sliceQ q frm tu) = ls ++ ls2 ∧ pre = offsF frm ls ∧ spansQ q bd frm tu = spnL q bd tu (frm + ls.flatten.length) bg out ls2 ∧ (∀ b, bg = some b → frm ≤ b ∧ b ≤ frm + ls.flatten.length) ∧ out.length ≤ ls.length ∧ Frm [] w W ∧
  Blk W g4 22 #[.slice A q.length c] ∧ Blk W g7 9 #[encStr bd] ∧ Blk W g8 134 #[.slice none 0 0] ∧ Blk W g9 134 #[.slice A2 out.length c2] ∧ Own W 136 2 A2 out.length c2 (PN out) ∧ Blk W g10 3 #[.int .i64 (begI bg)] ∧ ∀ x ∈ ob A2, w.heap.size ≤ x ∧ x ∉ Bt
def SnX (w : World) (q bd : Tx) (frm tu g8 : Nat) (Bt : List Nat) (e : Exit) (_pre : List (Nat × Nat)) (W : World) : Prop :=
 e = .ret ∧ Frm [] w W ∧ ∃ A2 c2, Blk W g8 134 #[.slice A2 (spansQ q bd frm tu).length c2] ∧ Own W 136 2 A2 (spansQ q bd frm tu).length c2 (PN (spansQ q bd frm tu)) ∧ ∀ x ∈ ob A2, w.heap.size ≤ x ∧ x ∉ Bt
theorem spn_no {s bd : Tx} {tu o : Nat} {bg : Option Nat} {out : List (Nat × Nat)} {l : Tx} {r : List Tx} (h : (partsL bd l).1 = false) : spnL s bd tu o bg out (l :: r) = spnL s bd tu (o + l.length) bg out r := by rw [spnL, if_pos h]
theorem spn_last {s bd : Tx} {tu o : Nat} {bg : Option Nat} {out : List (Nat × Nat)} {l : Tx} {r : List Tx} (h : (partsL bd l).1 = true) (h2 : (partsL bd l).2 = true) : spnL s bd tu o bg out (l :: r) = addB s o bg out := by rw [spnL, if_neg (by rw [h]; simp), if_pos h2]
theorem spn_next {s bd : Tx} {tu o : Nat} {bg : Option Nat} {out : List (Nat × Nat)} {l : Tx} {r : List Tx} (h : (partsL bd l).1 = true) (h2 : (partsL bd l).2 = false) : spnL s bd tu o bg out (l :: r) = spnL s bd tu (o + l.length) (some (o + l.length)) (addB s o bg out) r := by rw [spnL, if_neg (by rw [h]; simp), if_neg (by rw [h2]; simp)]
set_option maxRecDepth 100000 in
theorem spans_spec (A : Option Addr) (c : Nat) (q bd : Tx) (frm tu : Nat) (w : World) (hrd0 : Rd w 1 A q.length (U8 q)) (hq : q.length ≤ 1000000) (hc : q.length ≤ c) (hbd : bd.length ≤ 1000000) (hft : frm ≤ tu) (htl : tu ≤ q.length) :
  Calls Tryz.prog 106 #[.slice A q.length c, .int .i64 ((frm : Nat) : Int), .int .i64 ((tu : Nat) : Int), encStr bd] w fun e w' => Frm [] w w' ∧ ∃ A2 c2, e = .returned (.slice A2 (spansQ q bd frm tu).length c2) ∧ Own w' 136 2 A2 (spansQ q bd frm tu).length c2 (PN (spansQ q bd frm tu)) ∧ ∀ x ∈ ob A2, w.heap.size ≤ x := by
 have K := Frm.refl [] w
 refine DV.calls (nt := 55) (res := #[.cell 8 134]) Tryz.func106 rfl Tryz.ntmps106 Tryz.results106 rfl ?_
 refine DV.seq ?_
 refine DV.vc ?_
 refine jr ?_
 refine Ops.m (Does.box rfl) rfl ?_
 rintro _ w1 ⟨rfl, hF_w1⟩
 have hb4 := hF_w1.blk
 have hs4_K := K.size
 have K := Frm.trans K hF_w1.frm (by simp)
 generalize hg4 : w.heap.size = g4 at hb4 hs4_K ⊢
 refine Ops.m (Does.box rfl) rfl ?_
 rintro _ w2 ⟨rfl, hF_w2⟩
 have hb7 := hF_w2.blk
 have hs7_K := K.size
 have lt_hb4_7 := hb4.lt
 have hb4 := hb4.frm hF_w2.frm (by simp)
 have K := Frm.trans K hF_w2.frm (by simp)
 generalize hg7 : w1.heap.size = g7 at hb7 hs7_K lt_hb4_7 ⊢
 refine Ops.m (Does.alloc zero134) rfl ?_
 rintro _ w3 ⟨rfl, hF_w3⟩
 have hb8 := hF_w3.blk
 have hs8_K := K.size
 have lt_hb4_8 := hb4.lt
 have lt_hb7_8 := hb7.lt
 have hb4 := hb4.frm hF_w3.frm (by simp)
 have hb7 := hb7.frm hF_w3.frm (by simp)
 have K := Frm.trans K hF_w3.frm (by simp)
 generalize hg8 : w2.heap.size = g8 at hb8 hs8_K lt_hb4_8 lt_hb7_8 ⊢
 refine jo ?_
 refine thenD_n ?_
 refine DV.sub [(1, _), (2, _), (4, _), (7, _), (8, _)] (js5 rfl rfl rfl rfl rfl) ?_
 refine DV.seq ?_
 refine DV.vc ?_
 refine jr ?_
 refine Ops.m (Does.alloc zero134) rfl ?_
 rintro _ w4 ⟨rfl, hF_w4⟩
 have hb9 := hF_w4.blk
 have hs9_K := K.size
 have lt_hb4_9 := hb4.lt
 have lt_hb7_9 := hb7.lt
 have lt_hb8_9 := hb8.lt
 have hb4 := hb4.frm hF_w4.frm (by simp)
 have hb7 := hb7.frm hF_w4.frm (by simp)
 have hb8 := hb8.frm hF_w4.frm (by simp)
 have K := Frm.trans K hF_w4.frm (by simp)
 generalize hg9 : w3.heap.size = g9 at hb9 hs9_K lt_hb4_9 lt_hb7_9 lt_hb8_9 ⊢
 refine jo ?_
 refine thenD_n ?_
 refine DV.seq ?_
 refine DV.vc ?_
 refine jr ?_
 refine Ops.m (Does.alloc zero3) rfl ?_
 rintro _ w5 ⟨rfl, hF_w5⟩
 have hb10 := hF_w5.blk
 have hs10_K := K.size
 have lt_hb4_10 := hb4.lt
 have lt_hb7_10 := hb7.lt
 have lt_hb8_10 := hb8.lt
 have lt_hb9_10 := hb9.lt
 have hb4 := hb4.frm hF_w5.frm (by simp)
 have hb7 := hb7.frm hF_w5.frm (by simp)
 have hb8 := hb8.frm hF_w5.frm (by simp)
 have hb9 := hb9.frm hF_w5.frm (by simp)
 have K := Frm.trans K hF_w5.frm (by simp)
 generalize hg10 : w4.heap.size = g10 at hb10 hs10_K lt_hb4_10 lt_hb7_10 lt_hb8_10 lt_hb9_10 ⊢
 refine Ops.st (Acts.store rfl rfl Tryz.sizeOf3 hb10 rfl rfl) ?_
 rintro w6 ⟨hbn_w6, hf_w6, hsz_w6⟩
 have hb4 := hb4.frm hf_w6 (by simp; omega)
 have hb7 := hb7.frm hf_w6 (by simp; omega)
 have hb8 := hb8.frm hf_w6 (by simp; omega)
 have hb9 := hb9.frm hf_w6 (by simp; omega)
 have hb10 : Blk w6 g10 3 (#[.int .i64 (begI none)]) := hbn_w6
 have K := Frm.own K hf_w6 (fun y hy => by simp at hy; omega)
 refine jo ?_
 refine thenD_n ?_
 refine DV.seq ?_
 refine DV.seq ?_
 refine DV.vc ?_
 refine jr ?_
 refine Ops.r (Run.load rfl Tryz.isAgg22 (hb4.cell 0)) rfl ?_
 refine jm ?_
 refine jm ?_
 refine Ops.cl (Enters.fn (evs.cons rfl (evs.cons rfl (evs.cons rfl evs.nil))) Tryz.call142) (plines_spec A q.length c frm tu _) rfl ?_
 rintro e w7 ⟨hf_w7, ga, gb, gc, rfl, hpa, hpb, hpc, hga, hgb, hgc, hgab, hgac, hga2, hgb2, hgc2⟩
 have l4 := hb4.lt
 have l7 := hb7.lt
 have l8 := hb8.lt
 have l9 := hb9.lt
 have l10 := hb10.lt
 refine ⟨_, rfl, ?_⟩
 have hb4 := hb4.frm hf_w7 (by simp)
 have hb7 := hb7.frm hf_w7 (by simp)
 have hb8 := hb8.frm hf_w7 (by simp)
 have hb9 := hb9.frm hf_w7 (by simp)
 have hb10 := hb10.frm hf_w7 (by simp)
 have K := Frm.trans K hf_w7 (by simp)
 have hA : ∀ x ∈ obN A q.length, x < w.heap.size := fun x hx => hrd0.lt (obN_mem hx).1 x (obN_mem hx).2
 have hs6 := hf_w6.size
 refine jo ?_
 refine thenD_n ?_
 refine DV.sub [(2, _), (4, _), (7, _), (8, _), (9, _), (10, _), (18, _)] (js7 rfl rfl rfl rfl rfl rfl rfl) ?_
 refine DV.block ?_
 have hKs := K.size
 refine DV.range (ps := [19, 20]) (fun x : Nat × Nat => [.int .i64 ((x.1 : Nat) : Int), .int .i64 ((x.2 : Nat) : Int)]) (plines_iter q A c ga gb gc frm tu hq hc hft htl hgab hgac (fun hm => by have := hA _ hm; omega)) rfl Tryz.call185 (fun _ => rfl) rfl (SnI w q bd frm tu g4 g7 g8 g9 g10 A c (ga :: gb :: gc :: obN A q.length)) (SnX w q bd frm tu g8 (ga :: gb :: gc :: obN A q.length)) (fun x => [(4, .pointer (some ⟨g4, 0, none⟩)), (7, .pointer (some ⟨g7, 0, none⟩)), (8, .pointer (some ⟨g8, 0, none⟩)), (9, .pointer (some ⟨g9, 0, none⟩)), (10, .pointer (some ⟨g10, 0, none⟩)), (11, .int .i64 ((x.1 : Nat) : Int)), (12, .int .i64 ((x.2 : Nat) : Int))]) ?_ ?_ ?_ ?_ ?_ ?_ ?_ ?_ ?_ ?_ ?_
 ·
  rintro pre W W' S ⟨ls, ls2, bg, outs, A2, c2, h1, h2, h3, h4, h5, h6, h7, h8, h9, h10, h11, h12, h13⟩ hf hS
  exact ⟨ls, ls2, bg, outs, A2, c2, h1, h2, h3, h4, h5, h6.nc hf hS (by simp; omega) K.size, h7.frm hf (h7.nc hS (by simp; omega)), h8.frm hf (h8.nc hS (by simp; omega)), h9.frm hf (h9.nc hS (by simp; omega)), h10.frm hf (h10.nc hS (by simp; omega)), h11.frm hf (h11.nc hS (fun x hx hb => (h13 x hx).2 (by simp at hb; simp [hb]))), h12.frm hf (h12.nc hS (by simp; omega)), h13⟩
 ·
  rintro e pre W W' S ⟨h1, h2, A2, c2, h3, h4, h5⟩ hf hS
  exact ⟨h1, h2.nc hf hS (by simp; omega) K.size, A2, c2, h3.frm hf (h3.nc hS (by simp; omega)), h4.frm hf (h4.nc hS (fun x hx hb => (h5 x hx).2 (by simp at hb; simp [hb]))), h5⟩
 ·
  exact fun W hf => ⟨hpa.frm hf (by simp), hpb.frm hf (by simp), hpc.frm hf (by simp), (hrd0.frm K (by simp)).frm hf (by simp)⟩
 ·
  simp
 ·
  intro b hb
  simp only [List.mem_cons] at hb
  rcases hb with rfl | rfl | rfl | hb
  ·
   exact hga2
  ·
   exact hgb2
  ·
   exact hgc2
  ·
   have := hA b hb; omega
 ·
  exact ⟨[], linesF (sliceQ q frm tu), none, [], none, 0, rfl, rfl, rfl, by simp, by simp, K, hb4, hb7, hb8, hb9, Own.nil _ _ _, hb10, by simp [ob]⟩
 ·
  intro l x W
  refine jv7 4 7 8 9 10 19 20 ?_
  refine js (jr (ja ?_))
  refine jo (jn (jv7 4 7 8 9 10 11 20 ?_))
  refine jr (ja ?_)
  refine jo ?_
  refine jn ⟨rfl, (js7 rfl rfl rfl rfl rfl rfl rfl)⟩
 ·
  rintro l pre x W ⟨ls, ls2, bg, outs, A2, c2, hls, hpr, hsp, hbg, hol, K, hb4, hb7, hb8, hb9, hO, hb10, hAB⟩ hpre hsz hmk
  obtain ⟨ll, rest, hl2, hx1, hx2, hpe, hnl, hsl, hxt, hne, hx3⟩ := lines_nextO hft htl hls hpr hpre
  have hll : x.2 - x.1 = ll.length := by omega
  have hcut : Rd W 1 (cutA A c x.1 1) ll.length (U8 ll) := by
   have := U8_cut (hrd0.frm K (by simp)) (show x.1 ≤ x.2 by omega) (by omega) hc
   rwa [hsl] at this
  have hlc := linesF_count (sliceQ q frm tu)
  rw [hls, sliceQ_len htl] at hlc
  simp only [List.length_append] at hlc
  have hnb8 : g8 ∉ (ga :: gb :: gc :: obN A q.length) := by
   simp only [List.mem_cons, not_or]
   exact ⟨by omega, by omega, by omega, fun hm => by have := hA _ hm; omega⟩
  have hnb9 : g9 ∉ (ga :: gb :: gc :: obN A q.length) := by
   simp only [List.mem_cons, not_or]
   exact ⟨by omega, by omega, by omega, fun hm => by have := hA _ hm; omega⟩
  have hnb10 : g10 ∉ (ga :: gb :: gc :: obN A q.length) := by
   simp only [List.mem_cons, not_or]
   exact ⟨by omega, by omega, by omega, fun hm => by have := hA _ hm; omega⟩
  have h80 := hb8
  have h90 := hb9
  have h100 := hb10
  have hO0 := hO
  refine jb (js ?_)
  refine VC.held (fun V => Frm [] W V) jK ?_
  have hS : Frm [] W W.drew := (Frm.refl [] W).drew
  have hb4v := hb4
  have hb7v := hb7
  refine jh 0 rfl hS (fun w0 hw0 => Run.load rfl Tryz.isAgg22 ((hb4v.frm hw0 (by simp)).cell 0)) ?_
  refine jh 1 rfl hS (fun w0 hw0 => Run.mv rfl) ?_
  refine jh 2 rfl hS (fun w0 hw0 => Run.mv rfl) ?_
  refine jh 3 rfl hS (fun w0 hw0 => Run.sliceS x.1 x.2 rfl Tryz.underlying22 Tryz.sizeOf5 (evB.some_ rfl) (evB.some_ rfl) (by omega) (by omega)) ?_
  rw [hll]
  refine jh 4 rfl hS (fun w0 hw0 => Run.load rfl Tryz.isAgg9 ((hb7v.frm hw0 (by simp)).cell 0)) ?_
  refine HOps.cl 5 rfl jK (Enters.fn (evs.cons rfl (evs.cons rfl evs.nil)) Tryz.call143) (parts_spec _ _ ll bd _ (hcut.frm hS (by simp)) (by omega) (by omega)) trivial rfl rfl ?_
  rintro e V1 ⟨rfl, hfv⟩
  have hS := hS.trans hfv (by simp)
  refine ⟨_, rfl, hS, ?_⟩
  have KW := hS
  have hb4 := hb4.frm hS (by simp)
  have hb7 := hb7.frm hS (by simp)
  have hb8 := hb8.frm hS (by simp)
  have hb9 := hb9.frm hS (by simp)
  have hb10 := hb10.frm hS (by simp)
  have hO := hO.frm hS (by simp)
  have K := K.trans hS (by simp)
  refine jh 6 rfl hS (fun w0 hw0 => Run.mv rfl) ?_
  refine jh 7 rfl hS (fun w0 hw0 => Run.extract rfl rfl) ?_
  refine jh 8 rfl hS (fun w0 hw0 => Run.extract rfl rfl) ?_
  refine jh 9 rfl hS (fun w0 hw0 => Run.asg rfl) ?_
  refine jh 10 rfl hS (fun w0 hw0 => Run.asg rfl) ?_
  refine HOps.done jK ?_
  refine jn (jv8 4 8 9 10 11 12 13 14 ?_)
  refine js (js (jr (jm ?_)))
  refine Ops.r (Run.not rfl) rfl ?_
  refine jo (jn (jv8 4 8 9 10 11 12 14 31 ?_))
  refine VC.condB rfl (fun hc1 => ?_) (fun hc1 => ?_)
  ·
   have hno : (partsL bd ll).1 = false := by simpa using hc1
   refine jx ?_
   refine thenQ_x (blockQ_x ?_)
   refine ⟨.frm0 KW, ls ++ [ll], rest, bg, outs, A2, c2, hnl, hpe, ?_, fun b hb => by have := hbg b hb; rw [← hx3]; omega, by simp; omega, K, hb4, hb7, hb8, hb9, hO, hb10, hAB⟩
   rw [hsp, hl2, ← hx1, spn_no hno, ← hx2, ← hx3]
  ·
   have hyes : (partsL bd ll).1 = true := by simpa using hc1
   refine jk (jn (jv7 4 8 9 10 11 12 14 ?_))
   refine js (js (jr ?_))
   refine Ops.r (Run.load rfl Tryz.isAgg3 (hb10.cell 0)) rfl ?_
   refine Ops.r (Run.bin rfl rfl (Bin.geq _ 0)) rfl ?_
   refine jo (jn (jv8 4 8 9 10 11 12 14 33 ?_))
   refine VC.meet (σ := Option Addr × Nat) (fun s => [(8, .pointer (some ⟨g8, 0, none⟩)), (9, .pointer (some ⟨g9, 0, none⟩)), (10, .pointer (some ⟨g10, 0, none⟩)), (12, .int .i64 ((x.2 : Nat) : Int)), (14, .bool (partsL bd ll).2)]) (fun s1 wr => Frm (ob A2 ++ [g9]) W wr ∧ Frm [] w wr ∧ Blk wr g4 22 #[.slice A q.length c] ∧ Blk wr g7 9 #[encStr bd] ∧ Blk wr g8 134 #[.slice none 0 0] ∧ Blk wr g9 134 #[.slice s1.1 (addB q x.1 bg outs).length s1.2] ∧ Own wr 136 2 s1.1 (addB q x.1 bg outs).length s1.2 (PN (addB q x.1 bg outs)) ∧ Blk wr g10 3 #[.int .i64 (begI bg)] ∧ ∀ y ∈ ob s1.1, w.heap.size ≤ y ∧ y ∉ (ga :: gb :: gc :: obN A q.length)) ?_ ?_
   ·
    refine VC.condD rfl (fun hc2 => ?_) (fun hc2 => ?_)
    ·
     obtain ⟨b0, rfl⟩ : ∃ b, bg = some b := by
      cases bg with
      | none => exact absurd hc2 (by simp [begI])
      | some b => exact ⟨b, rfl⟩
     have hb0 := hbg b0 rfl
     refine VC.heldL 9 (fun V => Frm (ob A2) V1 V) jK ?_
     have hS0 : Frm [] V1 V1.drew := (Frm.refl [] V1).drew
     have hS : Frm (ob A2) V1 V1.drew := hS0.mono (by simp)
     have hn9 := hO.ne_blk hb9 (by decide)
     have hn10 := hO.ne_blk hb10 (by decide)
     have hn4 := hO.ne_blk hb4 (by decide)
     have hb9v := hb9
     have hb10v := hb10
     have hb4v := hb4
     have hO := hO.frm hS0 (by simp)
     have hb4 := hb4.frm hS0 (by simp)
     have hb7 := hb7.frm hS0 (by simp)
     have hb8 := hb8.frm hS0 (by simp)
     have hb9 := hb9.frm hS0 (by simp)
     have hb10 := hb10.frm hS0 (by simp)
     have K := K.drew
     have KW := KW.drew
     refine jh 0 rfl hS (fun w0 hw0 => Run.load rfl Tryz.isAgg134 ((hb9v.frm hw0 hn9).cell 0)) ?_
     refine jh 1 rfl hS (fun w0 hw0 => Run.load rfl Tryz.isAgg3 ((hb10v.frm hw0 hn10).cell 0)) ?_
     refine jh 2 rfl hS (fun w0 hw0 => Run.load rfl Tryz.isAgg22 ((hb4v.frm hw0 hn4).cell 0)) ?_
     refine jh 3 rfl hS (fun w0 hw0 => Run.load rfl Tryz.isAgg3 ((hb10v.frm hw0 hn10).cell 0)) ?_
     refine HOps.r1 4 rfl jK hS (Run.mv rfl) trivial rfl rfl ?_
     refine HOps.cl 5 rfl jK (Enters.fn (evs.cons rfl (evs.cons rfl (evs.cons rfl evs.nil))) Tryz.call144) (ahead_spec A c q b0 x.1 _ (hrd0.frm K (by simp)) hq (by omega)) trivial rfl rfl ?_
     rintro e _ ⟨rfl, rfl⟩
     refine ⟨_, rfl, hS, ?_⟩
     refine HOps.r1 6 rfl jK hS (Run.buildA (evs.cons rfl (evs.cons rfl evs.nil)) zero136 Tryz.underlying136 Tryz.sizeOf3 (cells := (PN1 (b0, aheadQ q b0 x.1)).toArray) (by rfl)) trivial rfl rfl ?_
     refine HOps.m 7 rfl jK (Does.buildS1 rfl Tryz.underlying134 Tryz.sizeOf136 zero136 (by decide) (by decide) rfl rfl) trivial rfl rfl ?_
     rintro _ V5 ⟨rfl, hF5⟩
     have hrd := hrdN (x := (b0, aheadQ q b0 x.1)) hF5
     have hb4 := hb4.frm hF5.frm (by simp)
     have hb7 := hb7.frm hF5.frm (by simp)
     have hb8 := hb8.frm hF5.frm (by simp)
     have hb9 := hb9.frm hF5.frm (by simp)
     have hb10 := hb10.frm hF5.frm (by simp)
     have hO := hO.frm hF5.frm (by simp)
     have K := K.trans hF5.frm (by simp)
     have KW := KW.trans hF5.frm (by simp)
     have hS := hS.trans hF5.frm (by simp)
     refine ⟨hS, ?_⟩
     refine HOps.m 8 rfl jK (Does.app rfl rfl Tryz.underlying134 (info136) rfl (by decide) hO hrd (PN_one _) (by omega) (by omega)) trivial rfl rfl ?_
     rintro _ V6 ⟨A6, c6, rfl, hO6, hf6, hob6⟩
     rw [← PN_append] at hO6
     have hne6 : ∀ y ∈ ob A2, y ≠ g4 ∧ y ≠ g7 ∧ y ≠ g8 ∧ y ≠ g9 ∧ y ≠ g10 := fun y hy => ⟨by rintro rfl; exact hO.ne_blk hb4 (by decide) hy, by rintro rfl; exact hO.ne_blk hb7 (by decide) hy, by rintro rfl; exact hO.ne_blk hb8 (by decide) hy, by rintro rfl; exact hO.ne_blk hb9 (by decide) hy, by rintro rfl; exact hO.ne_blk hb10 (by decide) hy⟩
     have hb4 := hb4.frm hf6 (fun hy => (hne6 _ hy).1 rfl)
     have hb7 := hb7.frm hf6 (fun hy => (hne6 _ hy).2.1 rfl)
     have hb8 := hb8.frm hf6 (fun hy => (hne6 _ hy).2.2.1 rfl)
     have hb9 := hb9.frm hf6 (fun hy => (hne6 _ hy).2.2.2.1 rfl)
     have hb10 := hb10.frm hf6 (fun hy => (hne6 _ hy).2.2.2.2 rfl)
     have K5 := K
     have KW5 := KW
     have K := Frm.own K hf6 (fun y hy => (hAB y hy).1)
     have hnA := hO6.ne_blk hb9 (by decide)
     have hS := hS.trans hf6 (fun y hy => .inl hy)
     refine ⟨hS, ?_⟩
     refine HOps.stL rfl jK (Acts.store rfl rfl Tryz.sizeOf134 hb9 rfl rfl) trivial rfl ?_
     rintro V7 ⟨hb9n, hf7, _⟩
     refine HOps.done jK ?_
     refine jn ⟨(A6, c6), (js5 rfl rfl rfl rfl rfl), ?_⟩
     refine ⟨?_, Frm.own K hf7 (fun y hy => by simp at hy; omega), hb4.frm hf7 (by simp; omega), hb7.frm hf7 (by simp; omega), hb8.frm hf7 (by simp; omega), ?_, ?_, hb10.frm hf7 (by simp; omega), ?_⟩
     ·
      exact ((KW.mono (T := ob A2 ++ [g9]) (by simp)).trans hf6 (fun y hy => .inl (by simp [hy]))).trans hf7 (fun y hy => .inl (by simp at hy; simp [hy]))
     ·
      show Blk V7 g9 _ #[.slice A6 (outs ++ [(b0, aheadQ q b0 x.1)]).length c6]
      rw [List.length_append]; exact hb9n
     ·
      show Own V7 _ 2 A6 (outs ++ [(b0, aheadQ q b0 x.1)]).length c6 _
      rw [List.length_append]
      exact hO6.frm hf7 (fun y hy => by simp; rintro rfl; exact hnA hy)
     ·
      intro y hy
      rcases hob6 with h | h
      ·
       dsimp only at hy; rw [h] at hy; exact hAB y hy
      ·
       dsimp only at hy
       rw [h] at hy
       simp only [List.mem_singleton] at hy
       have h1 := K5.size
       have h2 := KW5.size
       subst hy
       refine ⟨h1, ?_⟩
       simp only [List.mem_cons, not_or]
       exact ⟨by omega, by omega, by omega, fun hm => by have := hA _ hm; omega⟩
    ·
     have hbn : bg = none := by
      cases bg with
      | none => rfl
      | some b => exact absurd (show (0 : Int) ≤ begI (some b) by simp [begI]) hc2
     have hab : addB q x.1 bg outs = outs := by rw [hbn]; rfl
     refine jk ?_
     refine jn ⟨(A2, c2), (js5 rfl rfl rfl rfl rfl), ?_⟩
     rw [hab]
     exact ⟨KW.mono (by simp), K, hb4, hb7, hb8, hb9, hO, hb10, hAB⟩
   ·
    rintro ⟨A3, c3⟩ V8 ⟨KW, K, hb4, hb7, hb8, hb9, hO3, hb10, hAB3⟩ Γ hΓ
    dsimp only at hb9 hO3 hAB3
    have hadl := addB_len q x.1 bg outs
    generalize hou : addB q x.1 bg outs = outs2 at *
    refine jn (VC.sub _ hΓ ?_)
    refine js (js (jr (jm ?_)))
    refine jo (jn (jv5 8 9 10 12 43 ?_))
    refine VC.condB rfl (fun hc3 => ?_) (fun hc3 => ?_)
    ·
     have hfin := hsp
     rw [hl2, ← hx1, spn_last hyes hc3, hou] at hfin
     refine js (jr ?_)
     refine Ops.r (Run.load rfl Tryz.isAgg134 (hb9.cell 0)) rfl ?_
     refine Ops.st (Acts.store rfl rfl Tryz.sizeOf134 hb8 rfl rfl) ?_
     rintro V9 ⟨hb8n, hf9, _⟩
     refine jo (jn (jv1 8 ?_))
     refine jt ?_
     refine thenQ_r (blockQ_r (?_))
     refine ⟨⟨ob A2 ++ [g9] ++ [g8], ?_, ?_⟩, rfl, Frm.own K hf9 (fun y hy => by simp at hy; omega), A3, c3, ?_, ?_, hAB3⟩
     ·
      exact (KW.mono (T := ob A2 ++ [g9] ++ [g8]) (fun y hy => .inl (by simp at hy; simp; rcases hy with h | h <;> simp [h]))).trans hf9 (fun y hy => .inl (by simp at hy; simp [hy]))
     ·
      intro b hb
      rcases List.mem_append.1 hb with hb | hb
      ·
       rcases List.mem_append.1 hb with hb | hb
       ·
        exact ⟨(hAB b hb).2, hO0.isC b hb⟩
       ·
        simp only [List.mem_singleton] at hb; subst hb; exact ⟨hnb9, h90.isC⟩
      ·
       simp only [List.mem_singleton] at hb; subst hb; exact ⟨hnb8, h80.isC⟩
     ·
      rw [hfin]; exact hb8n
     ·
      rw [hfin]; exact hO3.frm hf9 (fun y hy => by have := hO3.ne_blk hb8 (by decide); simp; rintro rfl; exact this hy)
    ·
     rw [hl2, ← hx1, spn_next hyes hc3, hou, ← hx2] at hsp
     refine jk (jn (jv2 10 12 ?_))
     refine jr (jm ?_)
     refine Ops.st (Acts.store rfl rfl Tryz.sizeOf3 hb10 rfl rfl) ?_
     rintro V9 ⟨hb10n, hf9, _⟩
     refine jo ?_
     refine blockQ_n (?_)
     refine ⟨⟨ob A2 ++ [g9] ++ [g10], ?_, ?_⟩, ls ++ [ll], rest, some x.2, outs2, A3, c3, hnl, hpe, by rw [hsp, ← hx3], fun b hb => by cases hb; rw [← hx3]; omega, by simp; omega, Frm.own K hf9 (fun y hy => by simp at hy; omega), hb4.frm hf9 (by simp; omega), hb7.frm hf9 (by simp; omega), hb8.frm hf9 (by simp; omega), hb9.frm hf9 (by simp; omega), ?_, hb10n, hAB3⟩
     ·
      exact (KW.mono (T := ob A2 ++ [g9] ++ [g10]) (fun y hy => .inl (by simp at hy; simp; rcases hy with h | h <;> simp [h]))).trans hf9 (fun y hy => .inl (by simp at hy; simp [hy]))
     ·
      intro b hb
      rcases List.mem_append.1 hb with hb | hb
      ·
       rcases List.mem_append.1 hb with hb | hb
       ·
        exact ⟨(hAB b hb).2, hO0.isC b hb⟩
       ·
        simp only [List.mem_singleton] at hb; subst hb; exact ⟨hnb9, h90.isC⟩
      ·
       simp only [List.mem_singleton] at hb; subst hb; exact ⟨hnb10, h100.isC⟩
     ·
      exact hO3.frm hf9 (fun y hy => by have := hO3.ne_blk hb10 (by decide); simp; rintro rfl; exact this hy)
 ·
  rintro W ⟨ls, ls2, bg, outs, A2, c2, hls, hpr, hsp, hbg, hol, K, hb4, hb7, hb8, hb9, hO, hb10, hAB⟩ hsz hmk
  obtain ⟨e1, e2⟩ := lines_doneO hls hpr
  subst e1
  have hlc := linesF_count (sliceQ q frm tu)
  rw [← e2, sliceQ_len htl] at hlc
  refine blockD_n (thenD_n ?_)
  refine DV.sub [(2, _), (8, _), (9, _), (10, _)] (js4 rfl rfl rfl rfl) ?_
  refine DV.seq ?_
  refine DV.seq ?_
  refine DV.vc ?_
  refine jr ?_
  refine Ops.r (Run.load rfl Tryz.isAgg3 (hb10.cell 0)) rfl ?_
  refine Ops.r (Run.bin rfl rfl (Bin.geq _ 0)) rfl ?_
  refine jo ?_
  refine thenD_n ?_
  refine DV.sub [(2, _), (8, _), (9, _), (10, _), (47, _)] (js5 rfl rfl rfl rfl rfl) ?_
  refine DV.vc ?_
  refine VC.condD rfl (fun hc4 => ?_) (fun hc4 => ?_)
  ·
   obtain ⟨b0, rfl⟩ : ∃ b, bg = some b := by
    cases bg with
    | none => exact absurd hc4 (by simp [begI])
    | some b => exact ⟨b, rfl⟩
   have hfin : spansQ q bd frm tu = outs ++ [(b0, tu)] := hsp
   refine jr ?_
   refine Ops.r (Run.load rfl Tryz.isAgg134 (hb9.cell 0)) rfl ?_
   refine Ops.r (Run.load rfl Tryz.isAgg3 (hb10.cell 0)) rfl ?_
   refine jm ?_
   refine Ops.r (Run.buildA (evs.cons rfl (evs.cons rfl evs.nil)) zero136 Tryz.underlying136 Tryz.sizeOf3 (cells := (PN1 (b0, tu)).toArray) (by rfl)) rfl ?_
   refine Ops.m (Does.buildS1 rfl Tryz.underlying134 Tryz.sizeOf136 zero136 (by decide) (by decide) rfl rfl) rfl ?_
   rintro _ U5 ⟨rfl, hF5⟩
   have hrd := hrdN (x := (b0, tu)) hF5
   have hb4 := hb4.frm hF5.frm (by simp)
   have hb7 := hb7.frm hF5.frm (by simp)
   have hb8 := hb8.frm hF5.frm (by simp)
   have hb9 := hb9.frm hF5.frm (by simp)
   have hb10 := hb10.frm hF5.frm (by simp)
   have hO := hO.frm hF5.frm (by simp)
   have K := K.trans hF5.frm (by simp)
   have hmk := hmk.frm hF5.frm (by simp)
   have hsz5 := hF5.frm.size
   refine Ops.m (Does.app rfl rfl Tryz.underlying134 (info136) rfl (by decide) hO hrd (PN_one _) (by omega) (by omega)) rfl ?_
   rintro _ U6 ⟨A6, c6, rfl, hO6, hf6, hob6⟩
   rw [← PN_append] at hO6
   have hb8 := hb8.frm hf6 (hO.ne_blk hb8 (by decide))
   have hb9 := hb9.frm hf6 (hO.ne_blk hb9 (by decide))
   have hmk := hmk.frm hf6 (hmk.ne_own hO)
   have K5 := K
   have K := Frm.own K hf6 (fun y hy => (hAB y hy).1)
   have hub6 : ∀ y ∈ ob A6, w.heap.size ≤ y := fun y hy => by
    rcases hob6 with h | h
    ·
     rw [h] at hy; exact (hAB y hy).1
    ·
     rw [h] at hy; simp only [List.mem_singleton] at hy; have := K5.size; omega
   have hb9o := hb9
   refine Ops.st (Acts.store rfl rfl Tryz.sizeOf134 hb9 rfl rfl) ?_
   rintro U7 ⟨hb9n, hf7, _⟩
   have hb9 : Blk U7 g9 134 #[.slice A6 (outs ++ [(b0, tu)]).length c6] := by rw [List.length_append]; exact hb9n
   have hO : Own U7 136 2 A6 (outs ++ [(b0, tu)]).length c6 (PN (outs ++ [(b0, tu)])) := by
    rw [List.length_append]
    exact hO6.frm hf7 (fun y hy => by simp; rintro rfl; exact absurd hy (hO6.ne_blk hb9o (by decide)))
   have hb8 := hb8.frm hf7 (by simp; omega)
   have hmk := hmk.frm hf7 (by simp; exact hmk.ne_blk hb9o)
   have K := Frm.own K hf7 (fun y hy => by simp at hy; omega)
   rw [← hfin] at hb9 hO
   refine jo ?_
   refine thenD_n ?_
   refine DV.sub [(8, _), (9, _)] (js2 rfl rfl) ?_
   refine DV.seq ?_
   refine DV.vc ?_
   refine jr ?_
   refine Ops.r (Run.load rfl Tryz.isAgg134 (hb9.cell 0)) rfl ?_
   refine Ops.st (Acts.store rfl rfl Tryz.sizeOf134 hb8 rfl rfl) ?_
   rintro Z1 ⟨hb8n, hf_Z1, _⟩
   have hmk := hmk.frm hf_Z1 (by simp; exact hmk.ne_blk hb8)
   have hO := hO.frm hf_Z1 (fun y hy => by have := hO.ne_blk hb8 (by decide); simp; rintro rfl; exact this hy)
   have K := Frm.own K hf_Z1 (fun y hy => by simp at hy; omega)
   refine jo ?_
   refine thenD_n ?_
   refine DV.sub [(8, _)] (js1 rfl) ?_
   refine DV.vc (jt ?_)
   refine endD_r (by simp) (fun d hd => by simp only [List.mem_singleton] at hd; subst hd; exact hmk) (fun wz hsh => ?_)
   have hb8n := hb8n.frm hsh (by simp; omega)
   have hO := hO.frm hsh (fun y hy => by have := hmk.ne_own hO; simp; rintro rfl; exact this hy)
   have K := Frm.own K hsh (fun y hy => by have := hKs; simp at hy; omega)
   refine endR ?_
   refine res_cell rfl Tryz.isAgg134 (hb8n.cell 0) ?_
   refine res_nil ?_
   exact ⟨K, A6, c6, rfl, hO, fun x hx => by have := hub6 x hx; omega⟩
  ·
   have hfin : spansQ q bd frm tu = outs := by
    cases bg with
    | none => exact hsp
    | some b => exact absurd (show (0 : Int) ≤ begI (some b) by simp [begI]) hc4
   refine jk ?_
   refine thenD_n ?_
   refine DV.sub [(8, _), (9, _)] (js2 rfl rfl) ?_
   refine DV.seq ?_
   refine DV.vc ?_
   refine jr ?_
   refine Ops.r (Run.load rfl Tryz.isAgg134 (hb9.cell 0)) rfl ?_
   rw [← hfin] at hb9 hO
   refine Ops.st (Acts.store rfl rfl Tryz.sizeOf134 hb8 rfl rfl) ?_
   rintro Z1 ⟨hb8n, hf_Z1, _⟩
   have hub6 : ∀ y ∈ ob A2, w.heap.size ≤ y := fun y hy => (hAB y hy).1
   have hmk := hmk.frm hf_Z1 (by simp; exact hmk.ne_blk hb8)
   have hO := hO.frm hf_Z1 (fun y hy => by have := hO.ne_blk hb8 (by decide); simp; rintro rfl; exact this hy)
   have K := Frm.own K hf_Z1 (fun y hy => by simp at hy; omega)
   refine jo ?_
   refine thenD_n ?_
   refine DV.sub [(8, _)] (js1 rfl) ?_
   refine DV.vc (jt ?_)
   refine endD_r (by simp) (fun d hd => by simp only [List.mem_singleton] at hd; subst hd; exact hmk) (fun wz hsh => ?_)
   have hb8n := hb8n.frm hsh (by simp; omega)
   have hO := hO.frm hsh (fun y hy => by have := hmk.ne_own hO; simp; rintro rfl; exact this hy)
   have K := Frm.own K hsh (fun y hy => by have := hKs; simp at hy; omega)
   refine endR ?_
   refine res_cell rfl Tryz.isAgg134 (hb8n.cell 0) ?_
   refine res_nil ?_
   exact ⟨K, A2, c2, by rw [hfin]; rfl, hO, fun x hx => by have := hub6 x hx; omega⟩
 ·
  rintro pre W ⟨_, K, A2, c2, hb8, hO, hAB⟩ hsz hmk
  refine blockD_r (thenD_r (endD_r (by simp) (fun d hd => by simp only [List.mem_singleton] at hd; subst hd; exact hmk) (fun wz hsh => ?_)))
  have hb8 := hb8.frm hsh (by simp; omega)
  have hO := hO.frm hsh (fun y hy => by have := hmk.ne_own hO; simp; rintro rfl; exact this hy)
  have K := Frm.own K hsh (fun y hy => by have := hKs; simp at hy; omega)
  refine endR ?_
  refine res_cell rfl Tryz.isAgg134 (hb8.cell 0) ?_
  refine res_nil ?_
  exact ⟨K, A2, c2, rfl, hO, fun x hx => by have := (hAB x hx).1; omega⟩
 ·
  exact fun _ _ _ h => absurd h.1 (by simp)
set_option maxRecDepth 100000 in
theorem media_spec (A : Option Addr) (c : Nat) (q : Tx) (dg : Bool) (w : World) (hrd0 : Rd w 1 A q.length (U8 q)) (hq : q.length ≤ 500000) (hc : q.length ≤ c) :
  Calls Tryz.prog 104 #[.slice A q.length c, .bool dg] w fun e w' => Frm [] w w' ∧ ∃ A2 c2, e = .returned (.agg (MdC (mediaQ q dg) A2 c2)) ∧ Own w' 102 2 A2 (mediaQ q dg).ps.length c2 (PC (mediaQ q dg).ps) ∧ (∀ x ∈ ob A2, w.heap.size ≤ x) := by
 refine VC.calls (nt := 20) (res := #[.cell 4 67]) Tryz.func104 rfl Tryz.ntmps104 Tryz.results104 rfl ?_
 refine js (jr ?_)
 refine Ops.m (Does.alloc zero67) rfl ?_
 rintro _ w1 ⟨rfl, hF1⟩
 have hb4 := hF1.blk
 have K := hF1.frm
 generalize hg4 : w.heap.size = g4 at hb4 ⊢
 refine jo (jn (js (jr (jm ?_))))
 refine Ops.cl (Enters.fn (evs.cons rfl (evs.cons rfl evs.nil)) Tryz.call58) (hfind_spec A c q ctype _ (hrd0.frm K (by simp)) hq hc (by decide)) rfl ?_
 rintro e w2 ⟨rfl, hf2⟩
 refine ⟨_, rfl, ?_⟩
 have hb4 := hb4.frm hf2 (by simp)
 have K := K.trans hf2 (by simp)
 have hfl := findF_len q ctype (fieldsQ q)
 have hmq : mediaQ q dg = if (findH q ctype).2 = false ∧ dg = true then ⟨msgT, rfcT, []⟩ else medQ (findH q ctype).1 := rfl
 have hfh : findH q ctype = findF q ctype (fieldsQ q) := rfl
 rw [← hfh] at hfl
 generalize findH q ctype = fh at *
 obtain ⟨ft, fb⟩ := fh
 dsimp only at hfl hmq
 refine jm ?_
 refine Ops.r (Run.extract rfl rfl) rfl ?_
 refine Ops.r (Run.extract rfl rfl) rfl ?_
 refine ja ?_
 refine ja ?_
 refine jo (jn (jv4 1 4 5 6 ?_))
 refine js (js ?_)
 refine VC.split1 [(4, _), (5, _)] (js2 rfl rfl) 16 (.bool (decide (fb = false ∧ dg = true))) ?_ ?_
 ·
  refine jr ?_
  refine jm ?_
  by_cases hs12 : fb = true
  ·
   refine Ops.r (Run.not rfl) rfl ?_
   refine jm ?_
   refine ju ?_
   refine Ops.r (Run.pickF rfl rfl au) rfl ?_
   refine jo ?_
   refine jn ⟨(js3 (jc (by first | (simp [*]; done) | (simp_all; done))) rfl rfl), rfl⟩
  ·
   refine Ops.r (Run.not rfl) rfl ?_
   refine jm ?_
   refine jg ?_
   by_cases hs15 : dg = true
   ·
    refine Ops.r (Run.pickT rfl rfl au) rfl ?_
    refine jo ?_
    refine jn ⟨(js3 (jc (by first | (simp [*]; done) | (simp_all; done))) rfl rfl), rfl⟩
   ·
    refine Ops.r (Run.pickT rfl rfl au) rfl ?_
    refine jo ?_
    refine jn ⟨(js3 (jc (by first | (simp [*]; done) | (simp_all; done))) rfl rfl), rfl⟩
 ·
  intro Γ hΓ
  refine jn (VC.sub _ hΓ ?_)
  refine VC.condD rfl (fun hc1 => ?_) (fun hc1 => ?_)
  ·
   rw [if_pos hc1] at hmq
   refine js (jr ?_)
   refine Ops.r (Run.build (evs.cons rfl (evs.cons rfl evs.nil)) zero67 (places67).choose_spec.1 (places67).choose_spec.2 rfl) rfl ?_
   refine Ops.st (Acts.storeA rfl rfl Tryz.sizeOf67 hb4 rfl (MdC_one ⟨msgT, rfcT, []⟩ none 0)) ?_
   rintro w3 ⟨hb4n, hf3, _⟩
   have hb4n : Blk w3 g4 67 (MdC ⟨msgT, rfcT, []⟩ none 0) := hb4n
   have K := Frm.own K hf3 (fun y hy => by simp at hy; omega)
   refine jo (jn (jv1 4 ?_))
   refine jt ?_
   refine thenQ_r (endR ?_)
   refine res_cellA rfl Tryz.isAgg67 Tryz.sizeOf67 (fun j v hj => hb4n.cells j v hj) (by first | rfl | (simp; done)) ?_
   refine res_nil ?_
   rw [hmq]
   exact ⟨K, none, 0, rfl, Own.nil _ _ _, by simp [ob]⟩
  ·
   rw [if_neg hc1] at hmq
   refine jk (jn (jv2 4 5 ?_))
   refine js (jr (jm ?_))
   refine Ops.cl (Enters.fn (evs.cons rfl evs.nil) Tryz.call139) (read_spec ft _ (by omega)) rfl ?_
   rintro e w4 ⟨hf4, A2, c2, rfl, hO, hub⟩
   refine ⟨_, rfl, ?_⟩
   have hs2 := K.size
   have hb4 := hb4.frm hf4 (by simp)
   have K := K.trans hf4 (by simp)
   refine Ops.st (Acts.storeA rfl rfl Tryz.sizeOf67 hb4 rfl (MdC_one (medQ ft) A2 c2)) ?_
   rintro w5 ⟨hb4n, hf5, _⟩
   have hb4n : Blk w5 g4 67 (MdC (medQ ft) A2 c2) := hb4n
   have hO := hO.frm hf5 (fun y hy => by have := hO.ne_blk hb4 (by decide); simp; rintro rfl; exact this hy)
   have K := Frm.own K hf5 (fun y hy => by simp at hy; omega)
   refine jo (jn (jv1 4 ?_))
   refine jt ?_
   refine endR ?_
   refine res_cellA rfl Tryz.isAgg67 Tryz.sizeOf67 (fun j v hj => hb4n.cells j v hj) (by first | rfl | (simp; done)) ?_
   refine res_nil ?_
   rw [hmq]
   exact ⟨K, A2, c2, rfl, hO, fun x hx => by have := hub x hx; omega⟩
end Go.Proofs.YtenbjndldenkfaaGreatDoor
namespace Go.Proofs.YtenbjndldenkfaaGreatDoor
open Go.RowKit Go.Sort
abbrev Pc := Prt × Option Addr × Nat
def PP1 (x : Pc) : List Value := [.int .i64 ((x.1.kind : Nat) : Int), .int .i64 ((x.1.frm : Nat) : Int), .int .i64 ((x.1.body : Nat) : Int), .int .i64 ((x.1.tu : Nat) : Int), encStr x.1.m.ty, encStr x.1.m.sub, .slice x.2.1 x.1.m.ps.length x.2.2, .int .i64 x.1.up, .int .i64 ((x.1.kids : Nat) : Int)]
theorem PP1_len (x : Pc) : (PP1 x).length = 9 := rfl
theorem PP1_one (x : Pc) : ∀ u ∈ PP1 x, u.oneCell' = true := by
 intro u hu
 simp only [PP1, List.mem_cons, List.not_mem_nil, or_false] at hu
 rcases hu with rfl | rfl | rfl | rfl | rfl | rfl | rfl | rfl | rfl <;> rfl
def PP (l : List Pc) : List Value := l.flatMap PP1
theorem PP_append (a b : List Pc) : PP (a ++ b) = PP a ++ PP b := by simp [PP]
theorem PP_len (l : List Pc) : (PP l).length = l.length * 9 := flat_len PP1 9 PP1_len l
theorem PP_one (l : List Pc) : ∀ u ∈ PP l, u.oneCell' = true := flat_one PP1 PP1_one l
theorem PP_at {w : World} {A : Option Addr} {l : List Pc} {k : Nat} (h : Rd w 9 A l.length (PP l)) (hk : k < l.length) : ∃ ad, A = some ad ∧ ∀ j v, (PP1 l[k])[j]? = some v → w.cell? ((ad.add (k * 9)).add j) = some v := by
 obtain ⟨ad, rfl, hc⟩ := h.elem hk
 refine ⟨ad, rfl, fun j v hj => hc j v ?_⟩
 rw [show PP l = l.flatMap PP1 from rfl, flat_get PP1 9 PP1_len l k hk]
 exact hj
theorem hrdQ {w w' : World} {t : TypeId} {x : Pc} (h : Fresh w w' t (PP1 x).toArray) : Rd w' 9 (some ⟨w.heap.size, 0, none⟩) 1 (PP [x]) := Rd.of_blk (n := 1) (size := 9) h.blk rfl
theorem PP_set (l : List Pc) (k j : Nat) (hk : k < l.length) (hj : j < 9) (v : Value) (x : Pc) (hx : (PP1 l[k]).set j v = PP1 x) : (PP l).set (k * 9 + j) v = PP (l.set k x) := by
 have e : l = l.take k ++ l[k] :: l.drop (k + 1) := by rw [← drop_cons hk, List.take_append_drop]
 have hlt : (l.take k).length = k := by rw [List.length_take]; omega
 have h1 : PP l = PP (l.take k) ++ (PP1 l[k] ++ PP (l.drop (k + 1))) := by
  conv => lhs; rw [e]
  rw [PP_append]
  rfl
 have h2 : PP (l.set k x) = PP (l.take k) ++ (PP1 x ++ PP (l.drop (k + 1))) := by
  rw [List.set_eq_take_append_cons_drop, if_pos hk, PP_append]
  rfl
 have h3 : (PP (l.take k)).length = k * 9 := by rw [PP_len, hlt]
 rw [h1, h2, List.set_append_right _ _ (by omega), h3, show k * 9 + j - k * 9 = j by omega, List.set_append_left _ _ (by rw [PP1_len]; exact hj), hx]
theorem fillP (a b c u : Int) (x y z k : Value) : Instr.fill (fun i => (#[(0, 1), (1, 1), (2, 1), (3, 1), (4, 3), (7, 1), (8, 1)] : Array (Nat × Nat))[i]?) #[k, .int .i64 0, .int .i64 0, .int .i64 0, .string ⟨#[]⟩, .string ⟨#[]⟩, .slice none 0 0, .int .i64 0, .int .i64 0] [(1, .int .i64 a), (2, .int .i64 b), (3, .int .i64 c), (4, .agg #[x, y, z]), (5, .int .i64 u)] = some #[k, .int .i64 a, .int .i64 b, .int .i64 c, x, y, z, .int .i64 u, .int .i64 0] := by
 simp [Instr.fill, Value.cells]
def OwnPs (w : World) (l : List Pc) : Prop := ∀ x ∈ l, Own w 102 2 x.2.1 x.1.m.ps.length x.2.2 (PC x.1.m.ps)
theorem OwnPs.frm0 {w w' : World} {l : List Pc} (h : OwnPs w l) (k : Frm [] w w') : OwnPs w' l := fun x hx => (h x hx).frm k (by simp)
theorem OwnPs.blk {w w' : World} {l : List Pc} {g : Nat} {t : TypeId} {cs : Array Value} (h : OwnPs w l) (k : Frm [g] w w') (hb : Blk w g t cs) (hne : 102 ≠ t) : OwnPs w' l := fun x hx => (h x hx).frm k (fun y hy => by have := (h x hx).ne_blk hb hne; simp; rintro rfl; exact this hy)
theorem OwnPs.own {w w' : World} {l : List Pc} {e size n c : Nat} {A : Option Addr} {xs : List Value} (h : OwnPs w l) (k : Frm (ob A) w w') (ho : Own w e size A n c xs) (hne : 102 ≠ e) : OwnPs w' l := fun x hx => (h x hx).frm k (fun y hy => (h x hx).ne_own ho hne y hy)
theorem OwnPs.set {w : World} {l : List Pc} {k : Nat} {x : Pc} (h : OwnPs w l) (hk : k < l.length) (hx : x.2 = l[k].2) (hm : x.1.m = l[k].1.m) : OwnPs w (l.set k x) := by
 intro y hy
 rcases List.mem_or_eq_of_mem_set hy with hy | rfl
 ·
  exact h y hy
 ·
  have := h l[k] (List.getElem_mem hk)
  rw [← hx, ← hm] at this
  exact this
theorem map_set (l : List Pc) (k : Nat) (x : Pc) : (l.set k x).map (·.1) = (l.map (·.1)).set k x.1 := by rw [List.map_set]
theorem modify_set (l : List Prt) (k : Nat) (hk : k < l.length) (f : Prt → Prt) : l.modify k f = l.set k (f l[k]) := by
 apply List.ext_getElem?
 intro i
 rw [List.getElem?_modify, List.getElem?_set]
 by_cases e : k = i
 ·
  subst e
  simp [hk]
 ·
  simp [e]
theorem fnd_full {s : Tx} {n : Nat} {l : List Prt} {frm tu : Nat} {up : Int} {dg : Bool} (h : l.length = 64) : fndQ s n l frm tu up dg = l := by unfold fndQ; rw [if_pos h]
def newP (s : Tx) (frm tu : Nat) (up : Int) (dg : Bool) : Prt := ⟨0, frm, frm + splitQ (sliceQ s frm tu), tu, mediaQ (sliceQ s frm tu) dg, up, 0⟩
theorem fnd_zero {s : Tx} {l : List Prt} {frm tu : Nat} {up : Int} {dg : Bool} (h : l.length ≠ 64) : fndQ s 0 l frm tu up dg = kid1 (l ++ [newP s frm tu up dg]) up := by unfold fndQ; rw [if_neg h]; rfl
theorem fnd_let {s : Tx} {n : Nat} {l : List Prt} {frm tu : Nat} {up : Int} {dg : Bool} (h : l.length ≠ 64) (h2 : IsLet (newP s frm tu up dg).m) : fndQ s (n + 1) l frm tu up dg = fndQ s n (setK (kid1 (l ++ [newP s frm tu up dg]) up) l.length 2) (newP s frm tu up dg).body tu (l.length : Int) false := by
 conv => lhs; unfold fndQ
 rw [if_neg h]
 exact (if_pos (show IsLet (mediaQ (sliceQ s frm tu) dg) from h2)).trans rfl
theorem fnd_plain {s : Tx} {n : Nat} {l : List Prt} {frm tu : Nat} {up : Int} {dg : Bool} (h : l.length ≠ 64) (h2 : ¬ IsLet (newP s frm tu up dg).m) (h3 : (newP s frm tu up dg).m.ty ≠ multT ∨ (findQ (newP s frm tu up dg).m.ps bndT).1 = []) : fndQ s (n + 1) l frm tu up dg = kid1 (l ++ [newP s frm tu up dg]) up := by
 conv => lhs; unfold fndQ
 rw [if_neg h]
 refine (if_neg (show ¬ IsLet (mediaQ (sliceQ s frm tu) dg) from h2)).trans ?_
 exact (if_pos h3).trans rfl
theorem fnd_mult {s : Tx} {n : Nat} {l : List Prt} {frm tu : Nat} {up : Int} {dg : Bool} (h : l.length ≠ 64) (h2 : ¬ IsLet (newP s frm tu up dg).m) (h3 : ¬ ((newP s frm tu up dg).m.ty ≠ multT ∨ (findQ (newP s frm tu up dg).m.ps bndT).1 = [])) : fndQ s (n + 1) l frm tu up dg = (spansQ s (findQ (newP s frm tu up dg).m.ps bndT).1 (newP s frm tu up dg).body tu).foldl (fun acc x => fndQ s n (setK acc l.length 1) x.1 x.2 (l.length : Int) (decide ((newP s frm tu up dg).m.sub = digT))) (kid1 (l ++ [newP s frm tu up dg]) up) := by
 conv => lhs; unfold fndQ
 rw [if_neg h]
 refine (if_neg (show ¬ IsLet (mediaQ (sliceQ s frm tu) dg) from h2)).trans ?_
 exact (if_neg h3).trans rfl
theorem fnd_len (s : Tx) : ∀ (n : Nat) (l : List Prt) (frm tu : Nat) (up : Int) (dg : Bool), l.length ≤ 64 → l.length ≤ (fndQ s n l frm tu up dg).length ∧ (fndQ s n l frm tu up dg).length ≤ 64 := by
 intro n
 induction n with
 | zero =>
  intro l frm tu up dg hl
  by_cases h : l.length = 64
  ·
   rw [fnd_full h]; omega
  ·
   rw [fnd_zero h, kid1_len]; simp; omega
 | succ n ih =>
  intro l frm tu up dg hl
  by_cases h : l.length = 64
  ·
   rw [fnd_full h]; omega
  have h1 : (kid1 (l ++ [newP s frm tu up dg]) up).length = l.length + 1 := by rw [kid1_len]; simp
  by_cases h2 : IsLet (newP s frm tu up dg).m
  ·
   rw [fnd_let h h2]
   have := ih (setK (kid1 (l ++ [newP s frm tu up dg]) up) l.length 2) (newP s frm tu up dg).body tu (l.length : Int) false (by rw [setK_len]; omega)
   rw [setK_len] at this
   omega
  ·
   by_cases h3 : (newP s frm tu up dg).m.ty ≠ multT ∨ (findQ (newP s frm tu up dg).m.ps bndT).1 = []
   ·
    rw [fnd_plain h h2 h3]; omega
   ·
    rw [fnd_mult h h2 h3]
    generalize kid1 (l ++ [newP s frm tu up dg]) up = l1 at *
    generalize spansQ s (findQ (newP s frm tu up dg).m.ps bndT).1 (newP s frm tu up dg).body tu = sp
    have key : ∀ (sp : List (Nat × Nat)) (acc : List Prt), l1.length ≤ acc.length → acc.length ≤ 64 → l1.length ≤ (sp.foldl (fun acc x => fndQ s n (setK acc l.length 1) x.1 x.2 (l.length : Int) (decide ((newP s frm tu up dg).m.sub = digT))) acc).length ∧ (sp.foldl (fun acc x => fndQ s n (setK acc l.length 1) x.1 x.2 (l.length : Int) (decide ((newP s frm tu up dg).m.sub = digT))) acc).length ≤ 64 := by
     intro sp
     induction sp with
     | nil => exact fun acc a b => ⟨a, b⟩
     | cons x r ihs =>
      intro acc ha hb
      rw [List.foldl_cons]
      have := ih (setK acc l.length 1) x.1 x.2 (l.length : Int) (decide ((newP s frm tu up dg).m.sub = digT)) (by rw [setK_len]; exact hb)
      rw [setK_len] at this
      exact ihs _ (by omega) this.2
    have := key sp l1 (Nat.le_refl _) (by omega)
    omega
theorem Own.blk' {w w' : World} {e size n c g : Nat} {A : Option Addr} {xs : List Value} {t : TypeId} {cs : Array Value} (h : Own w e size A n c xs) (k : Frm [g] w w') (hb : Blk w g t cs) (hne : e ≠ t) : Own w' e size A n c xs := h.frm k (fun y hy => by have := h.ne_blk hb hne; simp; rintro rfl; exact this hy)
theorem Own.own' {w w' : World} {e size n c e2 size2 n2 c2 : Nat} {A B : Option Addr} {xs ys : List Value} (h : Own w e size A n c xs) (k : Frm (ob B) w w') (ho : Own w e2 size2 B n2 c2 ys) (hne : e ≠ e2) : Own w' e size A n c xs := h.frm k (fun y hy => h.ne_own ho hne y hy)

theorem medQ_val (q : Tx) : ∀ p ∈ (medQ q).ps, p.2.length ≤ q.length := by
 unfold medQ
 split
 ·
  simp [med0]
 ·
  rename_i p ps h
  unfold medOf
  split
  ·
   intro y hy
   obtain ⟨x, hx, hy⟩ := List.mem_flatMap.1 (show y ∈ ps.flatMap parQ from hy)
   have h1 := pcs_len _ false q (Nat.le_refl _) x (by rw [h]; simp [hx])
   unfold parQ at hy
   split at hy
   ·
    simp only [List.mem_singleton] at hy
    subst hy
    have h2 := valQ_len (aftF 61 x)
    have h3 := (bef_len 61 x).2
    show (valQ (aftF 61 x)).length ≤ _
    omega
   ·
    simp at hy
  ·
   intro y hy
   simp [med0] at hy
theorem find_val {k : Nat} (n : Tx) : ∀ ps : List Par, (∀ p ∈ ps, p.2.length ≤ k) → (findQ ps n).1.length ≤ k
 | [], _ => by simp [findQ]
 | p :: r, h => by
  unfold findQ
  split
  ·
   exact h p (by simp)
  ·
   exact find_val n r (fun p hp => h p (by simp [hp]))
theorem mediaQ_ok (s : Tx) (dg : Bool) : (mediaQ s dg).ps.length ≤ s.length + 1 ∧ (findQ (mediaQ s dg).ps bndT).1.length ≤ s.length := by
 unfold mediaQ
 split
 ·
  exact ⟨by simp, by simp [findQ]⟩
 ·
  have h1 := medQ_count (findH s ctype).1
  have h2 := pcs_count _ false (findH s ctype).1 (Nat.le_refl _)
  have h3 := findF_len s ctype (fieldsQ s)
  have h4 : findH s ctype = findF s ctype (fieldsQ s) := rfl
  have h5 := find_val bndT _ (medQ_val (findH s ctype).1)
  rw [← h4] at h3
  omega

def KidsOk (l : List Prt) : Prop := ∀ (i : Nat) (x : Prt), l[i]? = some x → x.kids ≤ l.length
theorem kid1_kids {l : List Prt} {p : Prt} {up : Int} (h : KidsOk l) (hp : p.kids = 0) : KidsOk (kid1 (l ++ [p]) up) := by
 have h1 : ∀ (i : Nat) (x : Prt), (l ++ [p])[i]? = some x → x.kids ≤ l.length := by
  intro i x hx
  have hm := List.mem_of_getElem? hx
  rcases List.mem_append.1 hm with hm | hm
  ·
   obtain ⟨j, hj⟩ := List.getElem?_of_mem hm
   exact h j x hj
  ·
   simp only [List.mem_singleton] at hm
   subst hm
   omega
 intro i x hx
 rw [kid1_len, List.length_append]
 show x.kids ≤ l.length + 1
 unfold kid1 at hx
 split at hx
 ·
  rw [List.getElem?_modify] at hx
  cases e : (l ++ [p])[i]? with
  | none => rw [e] at hx; simp at hx
  | some y =>
   have h2 := h1 i y e
   rw [e] at hx
   simp only [Option.map_eq_map, Option.map_some, Option.some.injEq] at hx
   subst hx
   split
   ·
    show y.kids + 1 ≤ _; omega
   ·
    show y.kids ≤ _; omega
 ·
  have := h1 i x hx
  omega
theorem setK_kids {l : List Prt} {i k : Nat} (h : KidsOk l) : KidsOk (setK l i k) := by
 intro j x hx
 rw [setK_len]
 unfold setK at hx
 rw [List.getElem?_modify] at hx
 cases e : l[j]? with
 | none => rw [e] at hx; simp at hx
 | some y =>
  have h2 := h j y e
  rw [e] at hx
  simp only [Option.map_eq_map, Option.map_some, Option.some.injEq] at hx
  subst hx
  split
  ·
   exact h2
  ·
   exact h2
theorem fnd_kids (s : Tx) : ∀ (n : Nat) (l : List Prt) (frm tu : Nat) (up : Int) (dg : Bool), KidsOk l → KidsOk (fndQ s n l frm tu up dg) := by
 intro n
 induction n with
 | zero =>
  intro l frm tu up dg hl
  by_cases h : l.length = 64
  ·
   rw [fnd_full h]; exact hl
  ·
   rw [fnd_zero h]; exact kid1_kids hl rfl
 | succ n ih =>
  intro l frm tu up dg hl
  by_cases h : l.length = 64
  ·
   rw [fnd_full h]; exact hl
  have h1 : KidsOk (kid1 (l ++ [newP s frm tu up dg]) up) := kid1_kids hl rfl
  by_cases h2 : IsLet (newP s frm tu up dg).m
  ·
   rw [fnd_let h h2]
   exact ih _ _ _ _ _ (setK_kids h1)
  ·
   by_cases h3 : (newP s frm tu up dg).m.ty ≠ multT ∨ (findQ (newP s frm tu up dg).m.ps bndT).1 = []
   ·
    rw [fnd_plain h h2 h3]; exact h1
   ·
    rw [fnd_mult h h2 h3]
    generalize spansQ s (findQ (newP s frm tu up dg).m.ps bndT).1 (newP s frm tu up dg).body tu = sp
    generalize kid1 (l ++ [newP s frm tu up dg]) up = a at h1
    induction sp generalizing a with
    | nil => exact h1
    | cons x r ihs => rw [List.foldl_cons]; exact ihs _ (ih _ _ _ _ _ (setK_kids h1))
theorem setK_map (l : List Pc) (i k : Nat) (hi : i < l.length) : (l.set i ({ l[i].1 with kind := k }, l[i].2)).map (·.1) = setK (l.map (·.1)) i k := by
 unfold setK
 rw [map_set, modify_set _ _ (by simpa using hi)]
 simp [List.getElem_map]
theorem kid1_map (l : List Pc) (u : Nat) (hu : u < l.length) : (l.set u ({ l[u].1 with kids := l[u].1.kids + 1 }, l[u].2)).map (·.1) = kid1 (l.map (·.1)) (u : Int) := by
 unfold kid1
 rw [if_pos (by omega), map_set, Int.toNat_natCast, modify_set _ _ (by simpa using hu)]
 simp [List.getElem_map]
theorem foldl_snoc' {α β : Type} (f : β → α → β) (b : β) (l : List α) (i : Nat) (h : i < l.length) : (l.take (i + 1)).foldl f b = f ((l.take i).foldl f b) l[i] := by rw [take_snoc h, List.foldl_append]; rfl
def FindAt (n : Nat) : Prop := ∀ (nest : Nat), nest + n = 6 → ∀ (g : Nat) (A : Option Addr) (c : Nat) (q : Tx) (l : List Pc) (LA : Option Addr) (lc frm tu : Nat) (up : Int) (dg : Bool) (w : World), Rd w 1 A q.length (U8 q) → q.length ≤ 400000 → q.length ≤ c → frm ≤ tu → tu ≤ q.length → l.length ≤ 64 → -1 ≤ up → up < (l.length : Int) → KidsOk (l.map (·.1)) →
 Blk w g 99 #[.slice A q.length c, .slice LA l.length lc] → Own w 69 9 LA l.length lc (PP l) → OwnPs w l → (∀ x ∈ obN A q.length, x ≠ g ∧ x ∉ ob LA) →
 Calls Tryz.prog 68 #[.pointer (some ⟨g, 0, none⟩), .int .i64 ((frm : Nat) : Int), .int .i64 ((tu : Nat) : Int), .int .i64 up, .int .i64 ((nest : Nat) : Int), .bool dg] w fun e w' => e = .returned (.tuple #[]) ∧
  ∃ (l2 : List Pc) (LA2 : Option Addr) (lc2 : Nat), l2.map (·.1) = fndQ q n (l.map (·.1)) frm tu up dg ∧ Blk w' g 99 #[.slice A q.length c, .slice LA2 l2.length lc2] ∧ Own w' 69 9 LA2 l2.length lc2 (PP l2) ∧ OwnPs w' l2 ∧ Frm (g :: ob LA) w w' ∧ ∀ x ∈ ob LA2, x ∈ ob LA ∨ w.heap.size ≤ x
theorem loadM {w : World} {gp : Nat} {x : Pc} (h : Blk w gp 69 (PP1 x).toArray) : ∀ j v, ((MdC x.1.m x.2.1 x.2.2).toList)[j]? = some v → w.cell? (((⟨gp, 0, none⟩ : Addr).add 4).add j) = some v := by
 intro j v hj
 rw [add_add, add_mk]
 have := h.cell (4 + j)
 rw [this, ← hj]
 match j with
 | 0 => rfl
 | 1 => rfl
 | 2 => rfl
 | j + 3 =>
  rw [show 4 + (j + 3) = j + 7 by omega]
  have : ((MdC x.1.m x.2.1 x.2.2).toList)[j + 3]? = none := by simp [MdC]
  rw [this] at hj
  cases hj
set_option maxRecDepth 100000 in
theorem find_step (n : Nat) (ih : ∀ m, m < n → FindAt m) : FindAt n := by
 intro nest hnn g A c q l LA lc frm tu up dg w hrd hq hc hft htl hl64 hup1 hup2 hkid hbg hO hPs hdis
 have hml : (l.map (·.1)).length = l.length := by simp
 refine VC.calls (nt := 147) (res := #[]) Tryz.func68 rfl Tryz.ntmps68 Tryz.results68 rfl ?_
 refine js (js (jr (jm ?_)))
 refine Ops.r (Run.nilck rfl) rfl ?_
 refine Ops.r (Run.fieldAddr rfl Tryz.underlying99 rfl Tryz.sizeOf60 (by decide)) rfl ?_
 refine Ops.r (Run.load rfl Tryz.isAgg60 (hbg.cell 1)) rfl ?_
 refine Ops.r (Run.lenS rfl Tryz.underlying60) rfl ?_
 refine Ops.r (Run.bin rfl rfl (Bin.eqlN _ 64)) rfl ?_
 refine jo (jn (jv7 0 1 2 3 4 5 24 ?_))
 refine VC.condD rfl (fun hc1 => ?_) (fun hc1 => ?_)
 ·
  refine jt ?_
  refine thenQ_r (end0 ?_)
  exact ⟨rfl, l, LA, lc, (fnd_full (by rw [hml]; exact hc1)).symm, hbg, hO, hPs, Frm.refl _ _, fun x hx => .inl hx⟩
 ·
  have hl63 : l.length ≤ 63 := by omega
  have hml64 : (l.map (·.1)).length ≠ 64 := by rw [hml]; exact hc1
  have hcut := U8_cut hrd hft htl hc
  have hsl := sliceQ_len (a := frm) htl
  have hspl := splitQ_le (sliceQ q frm tu)
  have hkl := kid1_len (l.map (·.1) ++ [newP q frm tu up dg]) up
  refine jk (jn (jv6 0 1 2 3 4 5 ?_))
  refine js (jr (jm ?_))
  refine Ops.r (Run.nilck rfl) rfl ?_
  refine Ops.r (Run.fieldAddr rfl Tryz.underlying99 rfl Tryz.sizeOf22 (by decide)) rfl ?_
  refine Ops.r (Run.load rfl Tryz.isAgg22 (hbg.cell 0)) rfl ?_
  refine jm ?_
  refine jm ?_
  refine Ops.r (Run.sliceS frm tu rfl Tryz.underlying22 Tryz.sizeOf5 (evB.some_ rfl) (evB.some_ rfl) hft (by omega)) rfl ?_
  rw [← hsl]
  refine ja ?_
  refine jo (jn (jv7 0 1 2 3 4 5 12 ?_))
  refine js (jr (jm ?_))
  refine Ops.r (Run.nilck rfl) rfl ?_
  refine Ops.r (Run.fieldAddr rfl Tryz.underlying99 rfl Tryz.sizeOf60 (by decide)) rfl ?_
  refine Ops.r (Run.load rfl Tryz.isAgg60 (hbg.cell 1)) rfl ?_
  refine Ops.r (Run.lenS rfl Tryz.underlying60) rfl ?_
  refine ja ?_
  refine jo (jn (jv8 0 1 2 3 4 5 12 13 ?_))
  refine js (jr (jm ?_))
  refine jm ?_
  refine jm ?_
  refine Ops.cl (Enters.fn (evs.cons rfl evs.nil) Tryz.call51) (split_spec _ _ (sliceQ q frm tu) _ hcut (by omega) (by omega)) rfl ?_
  rintro e w1 ⟨rfl, K⟩
  refine ⟨_, rfl, ?_⟩
  have hbg := hbg.frm K (by simp)
  have hO := hO.frm K (by simp)
  have hPs := hPs.frm0 K
  refine Ops.r (Run.bin rfl rfl (Bin.add_i64 _ _ (by omega))) rfl ?_
  refine jm ?_
  refine jm ?_
  refine jm ?_
  refine Ops.cl (Enters.fn (evs.cons rfl (evs.cons rfl evs.nil)) Tryz.call104) (media_spec _ _ (sliceQ q frm tu) dg _ (hcut.frm K (by simp)) (by omega) (by omega)) rfl ?_
  rintro e w2 ⟨hf2, MA, mc, rfl, hMO, hMub⟩
  refine ⟨_, rfl, ?_⟩
  have hbg := hbg.frm hf2 (by simp)
  have hO := hO.frm hf2 (by simp)
  have hPs := hPs.frm0 hf2
  have K := K.trans hf2 (by simp)
  obtain ⟨p, hp⟩ : ∃ p, newP q frm tu up dg = p := ⟨_, rfl⟩
  have hpm : mediaQ (sliceQ q frm tu) dg = p.m := by rw [← hp]; rfl
  have hmok := mediaQ_ok (sliceQ q frm tu) dg
  have hpb : frm + splitQ (sliceQ q frm tu) = p.body := by rw [← hp]; rfl
  have hpbt : p.body ≤ tu := by omega
  have hpc : (PP1 (p, MA, mc)) = [.int .i64 ((0 : Nat) : Int), .int .i64 ((frm : Nat) : Int), .int .i64 ((p.body : Nat) : Int), .int .i64 ((tu : Nat) : Int), encStr p.m.ty, encStr p.m.sub, .slice MA p.m.ps.length mc, .int .i64 up, .int .i64 ((0 : Nat) : Int)] := by rw [← hp]; rfl
  rw [hpm, hpb]
  rw [hpm] at hMO hmok
  rw [hp] at hkl
  have hkid1 : KidsOk (kid1 (l.map (·.1) ++ [p]) up) := kid1_kids hkid (by rw [← hp]; rfl)
  have hpk : p.kids = 0 := by rw [← hp]; rfl
  have hO0 := hO
  have lgw := hbg.lt
  refine jm ?_
  refine Ops.r (Run.build (evs.cons rfl (evs.cons rfl (evs.cons rfl (evs.cons rfl (evs.cons rfl evs.nil))))) zero69 (places69).choose_spec.1 (places69).choose_spec.2 (cells := (PP1 (p, MA, mc)).toArray) (by rw [hpc]; exact fillP _ _ _ _ _ _ _ _)) rfl ?_
  refine Ops.m (Does.alloc zero69) rfl ?_
  rintro _ w3 ⟨rfl, hF3⟩
  have hbp := hF3.blk
  have hbp0 := hbp
  have lg := hbg.lt
  have hbg := hbg.frm hF3.frm (by simp)
  have hO := hO.frm hF3.frm (by simp)
  have hPs := hPs.frm0 hF3.frm
  have hMO := hMO.frm hF3.frm (by simp)
  have sK := K.size
  have K := K.trans hF3.frm (by simp)
  generalize hgp : w2.heap.size = gp at hbp hbp0 lg sK ⊢
  refine Ops.st (Acts.storeA rfl rfl Tryz.sizeOf69 hbp rfl (PP1_one (p, MA, mc))) ?_
  rintro w4 ⟨hbpn, hf4, _⟩
  have hbp : Blk w4 gp 69 (PP1 (p, MA, mc)).toArray := hbpn
  have hbg := hbg.frm hf4 (by simp; omega)
  have hO := hO.frm hf4 (fun y hy => by have h1 := hO0.lt y hy; have h2 := K.size; simp; omega)
  have hPs := hPs.blk hf4 hbp0 (by decide)
  have hMO := hMO.blk' hf4 hbp0 (by decide)
  have K := Frm.own K hf4 (fun y hy => by simp at hy; omega)
  refine jo (jn (jv6 0 2 3 4 13 14 ?_))
  refine js ?_
  refine VC.heldL 10 (fun V => Frm (ob LA) w4 V) jK ?_
  have hS0 : Frm [] w4 w4.drew := (Frm.refl [] w4).drew
  have hS : Frm (ob LA) w4 w4.drew := hS0.mono (by simp)
  have hng := hO.ne_blk hbg (by decide)
  have hngp : gp ∉ ob LA := fun hm => by have h1 := hO0.lt gp hm; omega
  have hbgv := hbg
  have hbpv := hbp
  have hO := hO.frm hS0 (by simp)
  have hbg := hbg.frm hS0 (by simp)
  have hbp := hbp.frm hS0 (by simp)
  have hPs := hPs.frm0 hS0
  have hMO := hMO.frm hS0 (by simp)
  have K := K.drew
  refine jh 0 rfl hS (fun w0 hw0 => Run.mv rfl) ?_
  refine jh 1 rfl hS (fun w0 hw0 => Run.mv rfl) ?_
  refine jh 2 rfl hS (fun w0 hw0 => Run.nilck rfl) ?_
  refine jh 3 rfl hS (fun w0 hw0 => Run.fieldAddr rfl Tryz.underlying99 rfl Tryz.sizeOf60 (by decide)) ?_
  refine jh 4 rfl hS (fun w0 hw0 => Run.load rfl Tryz.isAgg60 ((hbgv.frm hw0 hng).cell 1)) ?_
  refine HOps.r1 5 rfl jK hS (Run.loadA rfl Tryz.isAgg69 Tryz.sizeOf69 (fun j v hj => hbp.cells j v hj) (by first | rfl | (simp; done))) trivial rfl rfl ?_
  refine HOps.m 6 rfl jK (Does.buildS1 rfl Tryz.underlying60 Tryz.sizeOf69 zero69 (by decide) (by decide) rfl rfl) trivial rfl rfl ?_
  rintro _ w5 ⟨rfl, hF5⟩
  have hrdp := hrdQ (x := (p, MA, mc)) hF5
  have hO := hO.frm hF5.frm (by simp)
  have hbg := hbg.frm hF5.frm (by simp)
  have hbp := hbp.frm hF5.frm (by simp)
  have hPs := hPs.frm0 hF5.frm
  have hMO := hMO.frm hF5.frm (by simp)
  have K := K.trans hF5.frm (by simp)
  have hS := hS.trans hF5.frm (by simp)
  refine ⟨hS, ?_⟩
  refine HOps.m 7 rfl jK (Does.app rfl rfl Tryz.underlying60 (info69) rfl (by decide) hO hrdp (PP_one _) (by omega) (by omega)) trivial rfl rfl ?_
  rintro _ w6 ⟨LA6, lc6, rfl, hO6, hf6, hob6⟩
  rw [← PP_append] at hO6
  have hbg := hbg.frm hf6 hng
  have hbp := hbp.frm hf6 hngp
  have hPs := hPs.own hf6 hO (by decide)
  have hMO := hMO.own' hf6 hO (by decide)
  have K5 := K
  have KL := (K.mono (T := g :: ob LA) (by simp)).trans hf6 (fun y hy => .inl (by simp [hy]))
  have hS := hS.trans hf6 (fun y hy => .inl hy)
  refine ⟨hS, ?_⟩
  refine HOps.r1 8 rfl jK hS (Run.nilck rfl) trivial rfl rfl ?_
  refine HOps.r1 9 rfl jK hS (Run.fieldAddr rfl Tryz.underlying99 rfl Tryz.sizeOf60 (by decide)) trivial rfl rfl ?_
  refine HOps.stL rfl jK (Acts.store rfl rfl Tryz.sizeOf60 hbg rfl rfl) trivial rfl ?_
  rintro w7 ⟨hbgn, hf7, _⟩
  obtain ⟨L, hL⟩ : ∃ L : List Pc, l ++ [((p, MA, mc) : Pc)] = L := ⟨_, rfl⟩
  have hl1 : L.length = l.length + 1 := by rw [← hL]; simp
  have hbgn : Blk w7 g 99 #[.slice A q.length c, .slice LA6 L.length lc6] := by rw [hl1]; exact hbgn
  have hng6 := hO6.ne_blk hbg (by decide)
  have hO : Own w7 69 9 LA6 L.length lc6 (PP L) := by rw [hl1, ← hL]; exact hO6.frm hf7 (fun y hy => by simp; rintro rfl; exact hng6 hy)
  have hMO := hMO.blk' hf7 hbg (by decide)
  have hPs2 : OwnPs w7 L := by
   intro x hx
   rw [← hL] at hx
   rcases List.mem_append.1 hx with hx | hx
   ·
    exact (hPs.blk hf7 hbg (by decide)) x hx
   ·
    simp only [List.mem_singleton] at hx
    subst hx
    exact hMO
  have hbp := hbp.frm hf7 (by simp; omega)
  have K := KL.trans hf7 (fun y hy => .inl (by simp at hy; simp [hy]))
  have sK5 := K5.size
  have hgp6 : gp ∉ ob LA6 := fun hm => by
   rcases hob6 with h | h
   ·
    rw [h] at hm; exact hngp hm
   ·
    rw [h] at hm; simp only [List.mem_singleton] at hm; have := hbpv.lt; have h5 := hS0.size; have h6 := hF5.frm.size; omega
  have hub6 : ∀ x ∈ ob LA6, x ∈ ob LA ∨ w.heap.size ≤ x := fun x hx => by
   rcases hob6 with h | h
   ·
    rw [h] at hx; exact .inl hx
   ·
    rw [h] at hx; simp only [List.mem_singleton] at hx; exact .inr (by omega)
  have hm1 : L.map (·.1) = l.map (·.1) ++ [p] := by rw [← hL]; simp
  have hkL : ∀ (i : Nat) (hi : i < L.length), L[i].1.kids ≤ 64 := by
   intro i hi
   have hm : L[i].1 ∈ l.map (·.1) ++ [p] := by rw [← hm1]; exact List.mem_map_of_mem (List.getElem_mem hi)
   rcases List.mem_append.1 hm with hm | hm
   ·
    obtain ⟨j, hj⟩ := List.getElem?_of_mem hm
    have := hkid j _ hj
    omega
   ·
    simp only [List.mem_singleton] at hm
    rw [hm]
    omega
  clear hPs hO6
  refine HOps.done jK ?_
  refine jn (jv6 0 2 3 4 13 14 ?_)
  refine js (js (jr (jm ?_)))
  refine Ops.r (Run.bin rfl rfl (Bin.geq _ 0)) rfl ?_
  refine jo (jn (jv7 0 2 3 4 13 14 59 ?_))
  refine VC.meet (σ := List Pc) (fun s => [(0, .pointer (some ⟨g, 0, none⟩)), (2, .int .i64 ((tu : Nat) : Int)), (4, .int .i64 ((nest : Nat) : Int)), (13, .int .i64 ((l.length : Nat) : Int)), (14, .pointer (some ⟨gp, 0, none⟩))]) (fun s wr => s.map (·.1) = kid1 (l.map (·.1) ++ [p]) up ∧ Own wr 69 9 LA6 s.length lc6 (PP s) ∧ OwnPs wr s ∧ Blk wr g 99 #[.slice A q.length c, .slice LA6 s.length lc6] ∧ Blk wr gp 69 (PP1 (p, MA, mc)).toArray ∧ Own wr 102 2 MA p.m.ps.length mc (PC p.m.ps) ∧ Frm (g :: ob LA) w wr) ?_ ?_
  ·
   refine VC.condD rfl (fun hc2 => ?_) (fun hc2 => ?_)
   ·
    obtain ⟨u, rfl⟩ : ∃ u : Nat, up = (u : Int) := ⟨up.toNat, by omega⟩
    have hul : u < L.length := by omega
    obtain ⟨ad6, rfl, hcell⟩ := PP_at hO.rd hul
    have hku := hkL u hul
    have hset := PP_set L u 8 hul (by omega) (.int .i64 ((L[u].1.kids + 1 : Nat) : Int)) ({ L[u].1 with kids := L[u].1.kids + 1 }, L[u].2) rfl
    refine jr (jm ?_)
    refine Ops.r (Run.nilck rfl) rfl ?_
    refine Ops.r (Run.fieldAddr rfl Tryz.underlying99 rfl Tryz.sizeOf60 (by decide)) rfl ?_
    refine Ops.r (Run.load rfl Tryz.isAgg60 (hbgn.cell 1)) rfl ?_
    refine jm ?_
    refine Ops.r (Run.indexS u rfl rfl Tryz.underlying60 Tryz.sizeOf69 hul) rfl ?_
    refine Ops.r (Run.fieldAddr rfl Tryz.underlying69 rfl Tryz.sizeOf3 (by decide)) rfl ?_
    refine Ops.r (Run.load rfl Tryz.isAgg3 (hcell 8 (.int .i64 ((L[u].1.kids : Nat) : Int)) rfl)) rfl ?_
    refine Ops.r (Run.bin rfl rfl (Bin.add_i64 L[u].1.kids 1 (by omega))) rfl ?_
    refine Ops.r (Run.indexS u rfl rfl Tryz.underlying60 Tryz.sizeOf69 hul) rfl ?_
    refine Ops.r (Run.fieldAddr rfl Tryz.underlying69 rfl Tryz.sizeOf3 (by decide)) rfl ?_
    refine Ops.st (Acts.storeOwn (u * 9 + 8) (congrArg (fun a => some (Value.pointer (some a))) (add_add ad6 _ 8)) rfl Tryz.sizeOf3 hO rfl (by omega) rfl) ?_
    rintro w8 ⟨hO8, hf8, _⟩
    rw [hset] at hO8
    have hng8 := hO.ne_blk hbgn (by decide)
    refine jo ?_
    refine jn ⟨(L.set u ({ L[u].1 with kids := L[u].1.kids + 1 }, L[u].2)), (js5 rfl rfl rfl rfl rfl), ?_⟩
    refine ⟨by rw [kid1_map, hm1], by rw [List.length_set]; exact hO8, ?_, by rw [List.length_set]; exact hbgn.frm hf8 hng8, hbp.frm hf8 hgp6, hMO.own' hf8 hO (by decide), K.trans hf8 (fun y hy => by rcases hub6 y hy with h | h; exact .inl (by simp [h]); exact .inr h)⟩
    exact OwnPs.set (hPs2.own hf8 hO (by decide)) hul rfl rfl
   ·
    refine jk ?_
    refine jn ⟨L, (js5 rfl rfl rfl rfl rfl), ?_⟩
    refine ⟨?_, hO, hPs2, hbgn, hbp, hMO, K⟩
    rw [hm1]
    unfold kid1
    rw [if_neg hc2]
  ·
   rintro l1 w8 ⟨hm1, hO, hPs, hbg, hbp, hMO, K⟩ Γ hΓ
   have hl1 : l1.length = l.length + 1 := by
    have := congrArg List.length hm1
    rw [List.length_map, hkl] at this
    simpa using this
   have hl1i : l.length < l1.length := by omega
   have hk1 : KidsOk (l1.map (·.1)) := by rw [hm1]; exact hkid1
   have hrdK : ∀ {w' : World}, Frm (g :: ob LA) w w' → Rd w' 1 A q.length (U8 q) := fun K => hrd.frm K (fun hn x hx => by have := hdis x (obN_of hn hx); simp only [List.mem_cons, not_or]; exact ⟨this.1, this.2⟩)
   have hdisK : ∀ {B : Option Addr}, (∀ x ∈ ob B, x ∈ ob LA ∨ w.heap.size ≤ x) → ∀ x ∈ obN A q.length, x ≠ g ∧ x ∉ ob B := fun hB x hx => ⟨(hdis x hx).1, fun hm => by
    rcases hB x hm with h | h
    ·
     exact (hdis x hx).2 h
    ·
     have := hrd.lt (obN_mem hx).1 x (obN_mem hx).2; omega⟩
   refine jn (VC.sub _ hΓ ?_)
   refine js (js (jr (jm ?_)))
   refine Ops.r (Run.bin rfl rfl (Bin.eqlN _ 6)) rfl ?_
   refine jo (jn (jv6 0 2 4 13 14 72 ?_))
   refine VC.condD rfl (fun hc3 => ?_) (fun hc3 => ?_)
   ·
    have hn0 : n = 0 := by omega
    subst hn0
    have hz := fnd_zero (s := q) (frm := frm) (tu := tu) (up := up) (dg := dg) hml64
    rw [hp, ← hm1] at hz
    refine jt ?_
    refine thenQ_r (end0 ?_)
    exact ⟨rfl, l1, LA6, lc6, hz.symm, hbg, hO, hPs, K, hub6⟩
   ·
    obtain ⟨n', rfl⟩ : ∃ n', n = n' + 1 := ⟨n - 1, by omega⟩
    have hnm : ¬ IsLet p.m → ¬ (p.m.ty ≠ multT ∨ (findQ p.m.ps bndT).1 = []) → fndQ q (n' + 1) (l.map (·.1)) frm tu up dg = (spansQ q (findQ p.m.ps bndT).1 p.body tu).foldl (fun acc x => fndQ q n' (setK acc l.length 1) x.1 x.2 (l.length : Int) (decide (p.m.sub = digT))) (l1.map (·.1)) := by
     intro h2 h3
     have h := fnd_mult (s := q) (n := n') (frm := frm) (tu := tu) (up := up) (dg := dg) hml64 (by rw [hp]; exact h2) (by rw [hp]; exact h3)
     rw [hp, hml, ← hm1] at h
     exact h
    have hnp : ¬ IsLet p.m → (p.m.ty ≠ multT ∨ (findQ p.m.ps bndT).1 = []) → fndQ q (n' + 1) (l.map (·.1)) frm tu up dg = l1.map (·.1) := by
     intro h2 h3
     have h := fnd_plain (s := q) (n := n') (frm := frm) (tu := tu) (up := up) (dg := dg) hml64 (by rw [hp]; exact h2) (by rw [hp]; exact h3)
     rw [hp, ← hm1] at h
     exact h
    have hnl : IsLet p.m → fndQ q (n' + 1) (l.map (·.1)) frm tu up dg = fndQ q n' (setK (l1.map (·.1)) l.length 2) p.body tu (l.length : Int) false := by
     intro h2
     have h := fnd_let (s := q) (n := n') (frm := frm) (tu := tu) (up := up) (dg := dg) hml64 (by rw [hp]; exact h2)
     rw [hp, hml, ← hm1] at h
     exact h
    refine jk (jn (jv5 0 2 4 13 14 ?_))
    refine js (js ?_)
    refine VC.split1 [(0, _), (2, _), (4, _), (13, _), (14, _)] (js5 rfl rfl rfl rfl rfl) 82 (.bool (decide (IsLet p.m))) ?_ ?_
    ·
     refine jr ?_
     refine Ops.r (Run.fieldAddr rfl Tryz.underlying69 rfl Tryz.sizeOf67 (by decide)) rfl ?_
     refine Ops.r (Run.fieldAddr rfl Tryz.underlying67 rfl Tryz.sizeOf9 (by decide)) rfl ?_
     refine Ops.r (Run.load rfl Tryz.isAgg9 (loadM hbp 0 _ rfl)) rfl ?_
     refine Ops.r (Run.eqlT rfl rfl) rfl ?_
     by_cases hs76 : p.m.ty = msgT
     ·
      refine jm ?_
      refine Ops.rg rfl au (Run.fieldAddr rfl Tryz.underlying69 rfl Tryz.sizeOf67 (by decide)) rfl ?_
      refine Ops.rg rfl au (Run.fieldAddr rfl Tryz.underlying67 rfl Tryz.sizeOf9 (by decide)) rfl ?_
      refine Ops.rg rfl au (Run.load rfl Tryz.isAgg9 (loadM hbp 1 _ rfl)) rfl ?_
      refine Ops.rg rfl au (Run.eqlT rfl rfl) rfl ?_
      by_cases hs81 : p.m.sub = rfcT
      ·
       refine Ops.r (Run.pickT rfl rfl au) rfl ?_
       refine jo ?_
       refine jn ⟨(js6 (jc (by first | exact (decide_eq_true hs81).trans (decide_eq_true ⟨hs76, hs81⟩).symm | exact (decide_eq_false hs81).trans (decide_eq_false (show ¬ IsLet p.m from fun h => hs81 h.2)).symm | exact (decide_eq_false (show ¬ IsLet p.m from fun h => hs76 h.1)).symm | exact (decide_eq_false hs76).trans (decide_eq_false (show ¬ IsLet p.m from fun h => hs76 h.1)).symm)) rfl rfl rfl rfl rfl), rfl⟩
      ·
       refine Ops.r (Run.pickT rfl rfl au) rfl ?_
       refine jo ?_
       refine jn ⟨(js6 (jc (by first | exact (decide_eq_true hs81).trans (decide_eq_true ⟨hs76, hs81⟩).symm | exact (decide_eq_false hs81).trans (decide_eq_false (show ¬ IsLet p.m from fun h => hs81 h.2)).symm | exact (decide_eq_false (show ¬ IsLet p.m from fun h => hs76 h.1)).symm | exact (decide_eq_false hs76).trans (decide_eq_false (show ¬ IsLet p.m from fun h => hs76 h.1)).symm)) rfl rfl rfl rfl rfl), rfl⟩
     ·
      refine jm ?_
      refine ju ?_
      refine ju ?_
      refine ju ?_
      refine ju ?_
      refine Ops.r (Run.pickF rfl rfl au) rfl ?_
      refine jo ?_
      refine jn ⟨(js6 (jc (by first | exact (decide_eq_true hs81).trans (decide_eq_true ⟨hs76, hs81⟩).symm | exact (decide_eq_false hs81).trans (decide_eq_false (show ¬ IsLet p.m from fun h => hs81 h.2)).symm | exact (decide_eq_false (show ¬ IsLet p.m from fun h => hs76 h.1)).symm | exact (decide_eq_false hs76).trans (decide_eq_false (show ¬ IsLet p.m from fun h => hs76 h.1)).symm)) rfl rfl rfl rfl rfl), rfl⟩
    ·
     intro Γ hΓ
     refine jn (VC.sub _ hΓ ?_)
     refine VC.condD rfl (fun hc4 => ?_) (fun hc4 => ?_)
     ·
      obtain ⟨ad6, rfl, hcell⟩ := PP_at hO.rd hl1i
      have hset := PP_set l1 l.length 0 hl1i (by omega) (.int .i64 2) ({ l1[l.length].1 with kind := 2 }, l1[l.length].2) rfl
      refine js (jr (jm ?_))
      refine Ops.r (Run.nilck rfl) rfl ?_
      refine Ops.r (Run.fieldAddr rfl Tryz.underlying99 rfl Tryz.sizeOf60 (by decide)) rfl ?_
      refine Ops.r (Run.load rfl Tryz.isAgg60 (hbg.cell 1)) rfl ?_
      refine jm ?_
      refine Ops.r (Run.indexS l.length rfl rfl Tryz.underlying60 Tryz.sizeOf69 hl1i) rfl ?_
      refine Ops.r (Run.fieldAddr rfl Tryz.underlying69 rfl Tryz.sizeOf3 (by decide)) rfl ?_
      refine Ops.st (Acts.storeOwn (l.length * 9 + 0) (congrArg (fun a => some (Value.pointer (some a))) (add_add ad6 _ 0)) rfl Tryz.sizeOf3 hO rfl (by omega) rfl) ?_
      rintro w9 ⟨hO9, hf9, _⟩
      rw [hset] at hO9
      have hng9 := hO.ne_blk hbg (by decide)
      have hPs9 := OwnPs.set (x := ({ l1[l.length].1 with kind := 2 }, l1[l.length].2)) (hPs.own hf9 hO (by decide)) hl1i rfl rfl
      have hbg9 := hbg.frm hf9 hng9
      have hbp := hbp.frm hf9 hgp6
      have hm9 := setK_map l1 l.length 2 hl1i
      have K := K.trans hf9 (fun y hy => by rcases hub6 y hy with h | h; exact .inl (by simp [h]); exact .inr h)
      have hl2l : (l1.set l.length ({ l1[l.length].1 with kind := 2 }, l1[l.length].2)).length = l1.length := List.length_set
      obtain ⟨l2, hl2⟩ : ∃ l2 : List Pc, l1.set l.length ({ l1[l.length].1 with kind := 2 }, l1[l.length].2) = l2 := ⟨_, rfl⟩
      rw [hl2] at hO9 hPs9 hm9 hl2l
      have hk2 : KidsOk (l2.map (·.1)) := by rw [hm9]; exact setK_kids hk1
      rw [← hl2l] at hO9 hbg9
      refine jo (jn (jv5 0 2 4 13 14 ?_))
      refine js (jr (jm ?_))
      refine Ops.r (Run.fieldAddr rfl Tryz.underlying69 rfl Tryz.sizeOf3 (by decide)) rfl ?_
      refine Ops.r (Run.load rfl Tryz.isAgg3 (hbp.cell 2)) rfl ?_
      refine jm ?_
      refine jm ?_
      refine jm ?_
      refine Ops.r (Run.bin rfl rfl (Bin.add_i64 nest 1 (by omega))) rfl ?_
      refine Ops.cl (Enters.fn (evs.cons rfl (evs.cons rfl (evs.cons rfl (evs.cons rfl (evs.cons rfl (evs.cons rfl evs.nil)))))) Tryz.call68) ((ih n' (by omega) (nest + 1) (by omega) g A c q l2 (some ad6) lc6 p.body tu (l.length : Int) false _ (hrdK K) hq hc hpbt htl (by omega) (by omega) (by omega) hk2 hbg9 hO9 hPs9 (hdisK hub6))) rfl ?_
      rintro e w10 ⟨rfl, l3, LA3, lc3, hm3, hbg3, hO3, hPs3, hf3, hub3⟩
      refine ⟨_, rfl, ?_⟩
      have hKs := K.size
      have K3 := K.trans hf3 (fun y hy => by rcases List.mem_cons.1 hy with h | h; exact .inl (by simp [h]); rcases hub6 y h with h | h; exact .inl (by simp [h]); exact .inr h)
      have hub3' : ∀ x ∈ ob LA3, x ∈ ob LA ∨ w.heap.size ≤ x := fun x hx => by
       rcases hub3 x hx with h | h
       ·
        exact hub6 x h
       ·
        exact .inr (by omega)
      refine jo (jn ?_)
      refine VC.sub [] .nil ?_
      refine jt ?_
      refine thenQ_r (end0 ?_)
      exact ⟨rfl, l3, LA3, lc3, by rw [hm3, hm9, hnl hc4], hbg3, hO3, hPs3, K3, hub3'⟩
     ·
      refine jk (jn (jv5 0 2 4 13 14 ?_))
      refine js (jr ?_)
      refine Ops.r (Run.fieldAddr rfl Tryz.underlying69 rfl Tryz.sizeOf67 (by decide)) rfl ?_
      refine Ops.r (Run.loadA rfl Tryz.isAgg67 Tryz.sizeOf67 (loadM hbp) (by first | rfl | (simp; done))) rfl ?_
      refine Ops.cl (Enters.fn (evs.cons rfl (evs.cons rfl evs.nil)) Tryz.call105) ((find_spec p.m MA mc bndT _ hMO.rd (by omega))) rfl ?_
      rintro e w9 ⟨hf9, rfl⟩
      refine ⟨_, rfl, ?_⟩
      have hbg := hbg.frm hf9 (by simp)
      have hbp := hbp.frm hf9 (by simp)
      have hO := hO.frm hf9 (by simp)
      have hPs := hPs.frm0 hf9
      have K := K.trans hf9 (by simp)
      refine jm ?_
      refine Ops.r (Run.extract rfl rfl) rfl ?_
      refine Ops.r (Run.extract rfl rfl) rfl ?_
      refine ja ?_
      refine ja ?_
      refine jo (jn (jv6 0 2 4 13 14 15 ?_))
      refine js (js ?_)
      refine VC.split1 [(0, _), (2, _), (4, _), (13, _), (14, _), (15, _)] (js6 rfl rfl rfl rfl rfl rfl) 111 (.bool (decide (p.m.ty ≠ multT ∨ (findQ p.m.ps bndT).1 = []))) ?_ ?_
      ·
       refine jr ?_
       refine Ops.r (Run.fieldAddr rfl Tryz.underlying69 rfl Tryz.sizeOf67 (by decide)) rfl ?_
       refine Ops.r (Run.fieldAddr rfl Tryz.underlying67 rfl Tryz.sizeOf9 (by decide)) rfl ?_
       refine Ops.r (Run.load rfl Tryz.isAgg9 (loadM hbp 0 _ rfl)) rfl ?_
       refine Ops.r (Run.neqT rfl rfl) rfl ?_
       by_cases hs107 : p.m.ty ≠ multT
       ·
        refine jm ?_
        refine ju ?_
        refine ju ?_
        refine Ops.r (Run.pickT rfl rfl au) rfl ?_
        refine jo ?_
        refine jn ⟨(js7 (jc (by first | (simp [hs107, hs110]; done) | (simp [hs107]; done))) rfl rfl rfl rfl rfl rfl), rfl⟩
       ·
        refine jm ?_
        refine jg ?_
        refine Ops.rg rfl au (Run.eqlT rfl rfl) rfl ?_
        by_cases hs110 : (findQ p.m.ps bndT).1 = []
        ·
         refine Ops.r (Run.pickF rfl rfl au) rfl ?_
         refine jo ?_
         refine jn ⟨(js7 (jc (by first | (simp [hs107, hs110]; done) | (simp [hs107]; done))) rfl rfl rfl rfl rfl rfl), rfl⟩
        ·
         refine Ops.r (Run.pickF rfl rfl au) rfl ?_
         refine jo ?_
         refine jn ⟨(js7 (jc (by first | (simp [hs107, hs110]; done) | (simp [hs107]; done))) rfl rfl rfl rfl rfl rfl), rfl⟩
      ·
       intro Γ hΓ
       refine jn (VC.sub _ hΓ ?_)
       refine VC.condD rfl (fun hc5 => ?_) (fun hc5 => ?_)
       ·
        refine jt ?_
        refine thenQ_r (end0 ?_)
        exact ⟨rfl, l1, LA6, lc6, (hnp hc4 hc5).symm, hbg, hO, hPs, K, hub6⟩
       ·
        refine jk (jn (jv6 0 2 4 13 14 15 ?_))
        refine js ?_
        refine VC.held (fun V => Frm [] w9 V) jK ?_
        have hS0 : Frm [] w9 w9.drew := (Frm.refl [] w9).drew
        have hS := hS0
        have hbgv := hbg
        have hbpv := hbp
        have hO := hO.frm hS0 (by simp)
        have hbg := hbg.frm hS0 (by simp)
        have hbp := hbp.frm hS0 (by simp)
        have hPs := hPs.frm0 hS0
        have K := K.drew
        refine jh 0 rfl hS (fun w0 hw0 => Run.mv rfl) ?_
        refine jh 1 rfl hS (fun w0 hw0 => Run.nilck rfl) ?_
        refine jh 2 rfl hS (fun w0 hw0 => Run.fieldAddr rfl Tryz.underlying99 rfl Tryz.sizeOf22 (by decide)) ?_
        refine jh 3 rfl hS (fun w0 hw0 => Run.load rfl Tryz.isAgg22 ((hbgv.frm hw0 (by simp)).cell 0)) ?_
        refine jh 4 rfl hS (fun w0 hw0 => Run.fieldAddr rfl Tryz.underlying69 rfl Tryz.sizeOf3 (by decide)) ?_
        refine jh 5 rfl hS (fun w0 hw0 => Run.load rfl Tryz.isAgg3 ((hbpv.frm hw0 (by simp)).cell 2)) ?_
        refine jh 6 rfl hS (fun w0 hw0 => Run.mv rfl) ?_
        refine jh 7 rfl hS (fun w0 hw0 => Run.mv rfl) ?_
        refine HOps.take (v := .int .i64 ((0 : Nat) : Int)) 10 rfl jK jK jK hS (fun w0 hw0 => Run.mv rfl) trivial rfl rfl ?_
        refine HOps.cl 8 rfl jK (Enters.fn (evs.cons rfl (evs.cons rfl (evs.cons rfl (evs.cons rfl evs.nil)))) Tryz.call106) ((spans_spec A c q (findQ p.m.ps bndT).1 p.body tu _ (hrdK K) (by omega) hc (by omega) hpbt htl)) trivial rfl rfl ?_
        rintro e w10 ⟨hf10, SA, sc, rfl, hSO, hSub⟩
        have hbg := hbg.frm hf10 (by simp)
        have hbp := hbp.frm hf10 (by simp)
        have hO := hO.frm hf10 (by simp)
        have hPs := hPs.frm0 hf10
        have K := K.trans hf10 (by simp)
        have hspo := spansQ_ok (s := q) (bd := (findQ p.m.ps bndT).1) hpbt htl
        have hspc := spansQ_count q (findQ p.m.ps bndT).1 p.body tu
        have hnm := hnm hc4 hc5
        generalize spansQ q (findQ p.m.ps bndT).1 p.body tu = sp at *
        have hS := hS.trans hf10 (by simp)
        refine ⟨_, rfl, hS, ?_⟩
        refine jh 9 rfl hS (fun w0 hw0 => Run.lenS rfl Tryz.underlying134) ?_
        refine HOps.done jK ?_
        refine jn (jv7 0 4 13 14 120 121 122 ?_)
        refine jb ?_
        refine VC.loop (σ := Nat × List Pc × Option Addr × Nat) (fun s => [(0, .pointer (some ⟨g, 0, none⟩)), (4, .int .i64 ((nest : Nat) : Int)), (13, .int .i64 ((l.length : Nat) : Int)), (14, .pointer (some ⟨gp, 0, none⟩)), (120, .slice SA sp.length sc), (121, .int .i64 ((sp.length : Nat) : Int)), (122, .int .i64 ((s.1 : Nat) : Int))]) (fun s wr => s.1 ≤ sp.length ∧ s.2.1.map (·.1) = (sp.take s.1).foldl (fun acc x => fndQ q n' (setK acc l.length 1) x.1 x.2 (l.length : Int) (decide (p.m.sub = digT))) (l1.map (·.1)) ∧ l.length < s.2.1.length ∧ s.2.1.length ≤ 64 ∧ KidsOk (s.2.1.map (·.1)) ∧ Own wr 69 9 s.2.2.1 s.2.1.length s.2.2.2 (PP s.2.1) ∧ OwnPs wr s.2.1 ∧ Blk wr g 99 #[.slice A q.length c, .slice s.2.2.1 s.2.1.length s.2.2.2] ∧ Blk wr gp 69 (PP1 (p, MA, mc)).toArray ∧ Own wr 136 2 SA sp.length sc (PN sp) ∧ Frm (g :: ob LA) w wr ∧ (∀ x ∈ ob s.2.2.1, x ∈ ob LA ∨ w.heap.size ≤ x) ∧ gp ∉ ob s.2.2.1) (fun s => sp.length - s.1) (0, l1, LA6, lc6) (js7 rfl rfl rfl rfl rfl rfl rfl) ⟨by omega, rfl, hl1i, by show l1.length ≤ 64; omega, hk1, hO, hPs, hbg, hbp, hSO, K, hub6, hgp6⟩ ?_
        rintro ⟨j, l2, LA2, lc2⟩ wr ⟨hj, hm2, hl2a, hl2b, hk2, hO, hPs, hbg, hbp, hSO, K, hub2, hgp2⟩
        dsimp only at hj hm2 hl2a hl2b hk2 hO hPs hbg hbp hSO K hub2 hgp2 ⊢
        refine js (jr ?_)
        refine Ops.r (Run.bin rfl rfl (Bin.lssN _ _)) rfl ?_
        refine jo (jn (js ?_))
        refine VC.condD rfl (fun hc6 => ?_) (fun hc6 => ?_)
        ·
         obtain ⟨adS, rfl, hcS⟩ := PN_at hSO.rd hc6
         have hfs := foldl_snoc' (fun acc x => fndQ q n' (setK acc l.length 1) x.1 x.2 (l.length : Int) (decide (p.m.sub = digT))) (l1.map (·.1)) sp j hc6
         rw [← hm2] at hfs
         have hxo := hspo sp[j] (List.getElem_mem hc6)
         generalize hx : sp[j] = x at *
         have lgp := hbp.lt
         have lgg := hbg.lt
         have lSO := hSO.lt
         have lOO := hO.lt
         refine jk (jn (jv7 0 4 13 14 120 121 122 ?_))
         refine js (jb (js (jr ?_)))
         refine Ops.r (Run.indexS j rfl rfl Tryz.underlying134 Tryz.sizeOf136 hc6) rfl ?_
         refine Ops.r (Run.loadA rfl Tryz.isAgg136 Tryz.sizeOf136 hcS (by first | rfl | (simp; done))) rfl ?_
         refine Ops.m (Does.alloc zero136) rfl ?_
         rintro _ V1 ⟨rfl, hF1⟩
         have hb18 := hF1.blk
         have hg18 : wr.heap.size < V1.heap.size := hb18.lt
         have hO := hO.frm hF1.frm (by simp)
         have hPs := hPs.frm0 hF1.frm
         have hbg := hbg.frm hF1.frm (by simp)
         have hbp := hbp.frm hF1.frm (by simp)
         have hSO := hSO.frm hF1.frm (by simp)
         have sKr := K.size
         have K := K.trans hF1.frm (by simp)
         generalize hg18e : wr.heap.size = g18 at *
         have hb18o := hb18
         refine Ops.st (Acts.storeA rfl rfl Tryz.sizeOf136 hb18 rfl (PN1_one x)) ?_
         rintro V2 ⟨hb18n, hf2, _⟩
         have hb18 : Blk V2 g18 136 (PN1 x).toArray := hb18n
         have hO := hO.frm hf2 (fun y hy => by have := lOO y hy; simp; omega)
         have hPs := hPs.blk hf2 hb18o (by decide)
         have hbg := hbg.frm hf2 (by simp; omega)
         have hbp := hbp.frm hf2 (by simp; omega)
         have hSO := hSO.frm hf2 (fun y hy => by have := lSO y hy; simp; omega)
         have K := K.trans hf2 (fun y hy => by simp at hy; exact .inr (by omega))
         have hl2i : l.length < l2.length := hl2a
         obtain ⟨ad2, rfl, hcell⟩ := PP_at hO.rd hl2i
         have hset := PP_set l2 l.length 0 hl2i (by omega) (.int .i64 1) ({ l2[l.length].1 with kind := 1 }, l2[l.length].2) rfl
         refine jo (jn (jv8 0 4 13 14 18 120 121 122 ?_))
         refine js (jr (jm ?_))
         refine Ops.r (Run.nilck rfl) rfl ?_
         refine Ops.r (Run.fieldAddr rfl Tryz.underlying99 rfl Tryz.sizeOf60 (by decide)) rfl ?_
         refine Ops.r (Run.load rfl Tryz.isAgg60 (hbg.cell 1)) rfl ?_
         refine jm ?_
         refine Ops.r (Run.indexS l.length rfl rfl Tryz.underlying60 Tryz.sizeOf69 hl2i) rfl ?_
         refine Ops.r (Run.fieldAddr rfl Tryz.underlying69 rfl Tryz.sizeOf3 (by decide)) rfl ?_
         refine Ops.st (Acts.storeOwn (l.length * 9 + 0) (congrArg (fun a => some (Value.pointer (some a))) (add_add ad2 _ 0)) rfl Tryz.sizeOf3 hO rfl (by omega) rfl) ?_
         rintro V3 ⟨hO3, hf3, _⟩
         rw [hset] at hO3
         have hng3 := hO.ne_blk hbg (by decide)
         have hPs3 := OwnPs.set (x := ({ l2[l.length].1 with kind := 1 }, l2[l.length].2)) (hPs.own hf3 hO (by decide)) hl2i rfl rfl
         have hbg3 := hbg.frm hf3 hng3
         have hbp := hbp.frm hf3 hgp2
         have hb18 := hb18.frm hf3 (fun hm => by have := lOO _ hm; omega)
         have hSO := hSO.own' hf3 hO (by decide)
         have hm3 := setK_map l2 l.length 1 hl2i
         have K := K.trans hf3 (fun y hy => by rcases hub2 y hy with h | h; exact .inl (by simp [h]); exact .inr h)
         have hl3l : (l2.set l.length ({ l2[l.length].1 with kind := 1 }, l2[l.length].2)).length = l2.length := List.length_set
         obtain ⟨l3, hl3⟩ : ∃ l3 : List Pc, l2.set l.length ({ l2[l.length].1 with kind := 1 }, l2[l.length].2) = l3 := ⟨_, rfl⟩
         rw [hl3] at hO3 hPs3 hm3 hl3l
         have hk3 : KidsOk (l3.map (·.1)) := by rw [hm3]; exact setK_kids hk2
         rw [← hl3l] at hO3 hbg3
         refine jo (jn (jv8 0 4 13 14 18 120 121 122 ?_))
         refine jr (jm ?_)
         refine Ops.r (Run.indexA1 0 rfl rfl Tryz.underlying136 Tryz.sizeOf3 (by omega)) rfl ?_
         refine Ops.r (Run.load rfl Tryz.isAgg3 (hb18.cell 0)) rfl ?_
         refine Ops.r (Run.indexA1 1 rfl rfl Tryz.underlying136 Tryz.sizeOf3 (by omega)) rfl ?_
         refine Ops.r (Run.load rfl Tryz.isAgg3 (hb18.cell 1)) rfl ?_
         refine jm ?_
         refine jm ?_
         refine Ops.r (Run.bin rfl rfl (Bin.add_i64 nest 1 (by omega))) rfl ?_
         refine Ops.r (Run.fieldAddr rfl Tryz.underlying69 rfl Tryz.sizeOf67 (by decide)) rfl ?_
         refine Ops.r (Run.fieldAddr rfl Tryz.underlying67 rfl Tryz.sizeOf9 (by decide)) rfl ?_
         refine Ops.r (Run.load rfl Tryz.isAgg9 (loadM hbp 1 _ rfl)) rfl ?_
         refine Ops.r (Run.eqlT rfl rfl) rfl ?_
         refine Ops.cl (Enters.fn (evs.cons rfl (evs.cons rfl (evs.cons rfl (evs.cons rfl (evs.cons rfl (evs.cons rfl evs.nil)))))) Tryz.call68) ((ih n' (by omega) (nest + 1) (by omega) g A c q l3 (some ad2) lc2 x.1 x.2 (l.length : Int) (decide (p.m.sub = digT)) _ (hrdK K) hq hc (by omega) (by omega) (by omega) (by omega) (by omega) hk3 hbg3 hO3 hPs3 (hdisK hub2))) rfl ?_
         rintro e V4 ⟨rfl, l4, LA4, lc4, hm4, hbg4, hO4, hPs4, hf4, hub4⟩
         refine ⟨_, rfl, ?_⟩
         have hKs := K.size
         have hng3' := hO3.ne_blk hbg3 (by decide)
         have hfl := fnd_len q n' (l3.map (·.1)) x.1 x.2 (l.length : Int) (decide (p.m.sub = digT)) (by rw [List.length_map]; omega)
         rw [← hm4, List.length_map, List.length_map] at hfl
         have hk4 : KidsOk (l4.map (·.1)) := by rw [hm4]; exact fnd_kids q _ _ _ _ _ _ hk3
         have hsz3 := hf3.size
         have hbp := hbp.frm hf4 (by simp only [List.mem_cons, not_or]; exact ⟨by omega, hgp2⟩)
         have hSO4 := hSO.frm hf4 (fun y hy => by
          have h1 := hSO.ne_own hO3 (by decide) y hy
          have h2 := hSO.ne_blk hbg3 (by decide)
          simp only [List.mem_cons, not_or]
          exact ⟨by rintro rfl; exact h2 hy, h1⟩)
         have K4 := K.trans hf4 (fun y hy => by rcases List.mem_cons.1 hy with h | h; exact .inl (by simp [h]); rcases hub2 y h with h | h; exact .inl (by simp [h]); exact .inr h)
         have hub4' : ∀ x ∈ ob LA4, x ∈ ob LA ∨ w.heap.size ≤ x := fun x hx => by
          rcases hub4 x hx with h | h
          ·
           exact hub2 x h
          ·
           exact .inr (by omega)
         have hgp4 : gp ∉ ob LA4 := fun hm => by
          rcases hub4 gp hm with h | h
          ·
           exact hgp2 h
          ·
           have := hf2.size; omega
         refine jo ?_
         refine blockQ_n (jn ?_)
         refine jv7 0 4 13 14 120 121 122 ?_
         refine jr ?_
         refine Ops.r (Run.bin rfl rfl (Bin.add_i64 _ 1 (by omega))) rfl ?_
         refine jm ?_
         refine jo ?_
         refine jn ⟨(j + 1, l4, LA4, lc4), (js7 rfl rfl rfl rfl rfl rfl rfl), ?_, ?_⟩
         ·
          refine ⟨hc6, ?_, by show l.length < l4.length; omega, by show l4.length ≤ 64; omega, hk4, hO4, hPs4, hbg4, hbp, hSO4, K4, hub4', hgp4⟩
          rw [hfs, hm4, hm3]
         ·
          first | omega | (dsimp only; omega)
        ·
         have hje : j = sp.length := by omega
         subst hje
         rw [List.take_length, ← hnm] at hm2
         refine jx ?_
         refine thenQ_x (thenQ_x (blockQ_x ?_))
         refine end0n ?_
         exact ⟨rfl, l2, LA2, lc2, hm2, hbg, hO, hPs, K, hub2⟩
theorem find_all (n : Nat) : FindAt n := Nat.strongRecOn n (fun n ih => find_step n ih)
end Go.Proofs.YtenbjndldenkfaaGreatDoor
namespace Go.Proofs.YtenbjndldenkfaaGreatDoor
open Go.RowKit
section
variable {P : Program} {Γ : Env} {w : World} {dst : Option Tmp} {pos : String} {after : Array Edge} {g : Option (Nat × Bool)} {T : TypeId}
theorem Does.mark {t e : TypeId} {x : Operand} {gb n c : Nat} {cs : Array Value} (hx : ev? Γ x = some (.slice (some ⟨gb, 0, none⟩) n c)) (ht : P.underlying t = some (.slice e)) (he : P.underlying e = some (.int .u8)) (hb : Blk w gb e cs) :
  Does P ⟨dst, .convert t t x, T, pos, after, g⟩ Γ w (fun r w' => r = .slice (some ⟨gb, 0, none⟩) n c ∧ Fro w' gb e cs ∧ Frm [gb] w w') := fun ρ hρ => by
 have hsh : w.shape? gb = some (e, cs.size) := by
  unfold Blk at hb
  unfold World.shape?
  rw [hb]
 refine ⟨.slice (some ⟨gb, 0, none⟩) n c, w.freeze ⟨gb, cs.size, none⟩ 1, ?_, rfl, ?_, ?_⟩
 ·
  simp [execOp, hρ _ _ hx, convert, run_underlying ht, run_underlying he, markStringish, hsh]
 ·
  unfold Blk at hb
  unfold Fro World.freeze
  rw [if_neg (by decide)]
  show (w.heap.modify gb _)[gb]? = _
  rw [Array.getElem?_modify, if_pos rfl, hb]
  rfl
 ·
  refine ⟨?_, ?_, ?_, ?_, ?_⟩
  ·
   unfold World.freeze; rw [if_neg (by decide)]
  ·
   unfold World.freeze; rw [if_neg (by decide)]
  ·
   unfold World.freeze; rw [if_neg (by decide)]
  ·
   unfold World.freeze; rw [if_neg (by decide)]; simp
  ·
   intro i hi hni
   unfold World.freeze
   rw [if_neg (by decide)]
   show (w.heap.modify gb _)[i]? = _
   rw [Array.getElem?_modify, if_neg (fun h => hni (by simp [h]))]
def OwnF (w : World) (e : TypeId) (A : Option Addr) (n c : Nat) (xs : List Value) : Prop := Own w e 1 A n c xs ∨ ∃ (gb : Nat) (cs : Array Value), A = some ⟨gb, 0, none⟩ ∧ c = n ∧ cs.toList = xs ∧ xs.length = n ∧ Fro w gb e cs
theorem OwnF.frm {w w' : World} {S : List Nat} {e n c : Nat} {A : Option Addr} {xs : List Value} (h : OwnF w e A n c xs) (k : Frm S w w') (hS : ∀ x ∈ ob A, x ∉ S) : OwnF w' e A n c xs := by
 rcases h with h | ⟨gb, cs, rfl, h1, h2, h3, h4⟩
 ·
  exact .inl (h.frm k hS)
 ·
  exact .inr ⟨gb, cs, rfl, h1, h2, h3, h4.frm k (hS gb (by simp [ob]))⟩
theorem OwnF.lt {w : World} {e n c : Nat} {A : Option Addr} {xs : List Value} (h : OwnF w e A n c xs) : ∀ x ∈ ob A, x < w.heap.size := by
 rcases h with h | ⟨gb, cs, rfl, h1, h2, h3, h4⟩
 ·
  exact h.lt
 ·
  simpa [ob] using h4.lt
theorem OwnF.cells {w : World} {e n c gb : Nat} {cs : Array Value} {xs : List Value} (h2 : cs.toList = xs) (h4 : Fro w gb e cs) : ∀ j u, xs[j]? = some u → w.cell? ((⟨gb, 0, none⟩ : Addr).add j) = some u := by
 intro j u hu
 have e1 : (⟨gb, 0, none⟩ : Addr).add j = ⟨gb, j, none⟩ := by unfold Addr.add; split <;> simp_all
 rw [e1, h4.cell, ← hu, ← h2, Array.getElem?_toList]
theorem OwnF.rd {w : World} {e n c : Nat} {A : Option Addr} {xs : List Value} (h : OwnF w e A n c xs) : Rd w 1 A n xs := by
 rcases h with h | ⟨gb, cs, rfl, h1, h2, h3, h4⟩
 ·
  exact h.rd
 ·
  exact ⟨by omega, fun hn => ⟨_, rfl, h4.lt, OwnF.cells (n := n) (c := c) h2 h4⟩⟩
theorem OwnF.le {w : World} {e n c : Nat} {A : Option Addr} {xs : List Value} (h : OwnF w e A n c xs) : n ≤ c := by
 rcases h with h | ⟨gb, cs, rfl, h1, h2, h3, h4⟩
 ·
  exact h.le
 ·
  omega
theorem OwnF.ne_blk {w : World} {e t n c gb : Nat} {A : Option Addr} {xs : List Value} {cs : Array Value} (h : OwnF w e A n c xs) (hb : Blk w gb t cs) (hne : e ≠ t) : gb ∉ ob A := by
 rcases h with h | ⟨g2, cs2, rfl, h1, h2, h3, h4⟩
 ·
  exact h.ne_blk hb hne
 ·
  intro hm
  simp only [ob, List.mem_singleton] at hm
  subst hm
  unfold Fro at h4
  unfold Blk at hb
  rw [h4] at hb
  injection hb with hb
  injection hb with _ hb _
  exact hne hb
end
end Go.Proofs.YtenbjndldenkfaaGreatDoor
namespace Go.Proofs.YtenbjndldenkfaaGreatDoor
open Go.RowKit Go.Sort
set_option maxRecDepth 100000 in
theorem all_spec (A : Option Addr) (c : Nat) (q : Tx) (w : World) (hrd : Rd w 1 A q.length (U8 q)) (hq : q.length ≤ 400000) (hc : q.length ≤ c) :
  Calls Tryz.prog 38 #[.slice A q.length c] w fun e w' => Frm [] w w' ∧ ∃ (l : List Pc) (LA : Option Addr) (lc : Nat), l.map (·.1) = partsQ q ∧ e = .returned (.slice LA l.length lc) ∧ Own w' 69 9 LA l.length lc (PP l) ∧ OwnPs w' l ∧ ∀ x ∈ ob LA, w.heap.size ≤ x := by
 refine VC.calls (nt := 15) (res := #[.tmp 2]) Tryz.func38 rfl Tryz.ntmps38 Tryz.results38 rfl ?_
 refine js (jr (ja ?_))
 refine jo (jn (jv1 0 ?_))
 refine js (jr (jm ?_))
 refine Ops.r (Run.build (evs.cons rfl evs.nil) zero99 (places99).choose_spec.1 (places99).choose_spec.2 rfl) rfl ?_
 refine Ops.m (Does.box rfl) rfl ?_
 rintro _ w1 ⟨rfl, hF1⟩
 have hbg : Blk w1 w.heap.size 99 #[.slice A q.length c, .slice none 0 0] := hF1.blk
 have K := hF1.frm
 have hlt := hbg.lt
 refine ja ?_
 refine jo (jn (jv2 0 3 ?_))
 refine js (jr (jm ?_))
 refine jm ?_
 refine Ops.r (Run.lenS rfl Tryz.underlying22) rfl ?_
 refine Ops.cl (Enters.fn (evs.cons rfl (evs.cons rfl (evs.cons rfl (evs.cons rfl (evs.cons rfl (evs.cons rfl evs.nil)))))) Tryz.call68) ((find_all 6 0 rfl w.heap.size A c q [] none 0 0 q.length (-1) false _ (hrd.frm K (by simp)) hq hc (Nat.zero_le _) (Nat.le_refl _) (by simp) (by omega) (by simp) (by intro i x hx; simp at hx) hbg (Own.nil _ _ _) (by intro x hx; simp at hx) (fun x hx => ⟨by have := hrd.lt (obN_mem hx).1 x (obN_mem hx).2; omega, by simp [ob]⟩))) rfl ?_
 rintro e w2 ⟨rfl, l, LA, lc, hm, hbg, hO, hPs, hf2, hub⟩
 refine ⟨_, rfl, ?_⟩
 have K2 := Frm.own K hf2 (fun y hy => by simp [ob] at hy; omega)
 have hm : l.map (·.1) = partsQ q := hm
 refine jo (jn (jv1 3 ?_))
 refine js (jr (jm ?_))
 refine Ops.r (Run.nilck rfl) rfl ?_
 refine Ops.r (Run.fieldAddr rfl Tryz.underlying99 rfl Tryz.sizeOf60 (by decide)) rfl ?_
 refine Ops.r (Run.load rfl Tryz.isAgg60 (hbg.cell 1)) rfl ?_
 refine ja ?_
 refine jo (jn (jv1 2 ?_))
 refine jt ?_
 refine end1 rfl ?_
 exact ⟨K2, l, LA, lc, hm, rfl, hO, hPs, fun x hx => by rcases hub x hx with h | h; simp [ob] at h; omega⟩
end Go.Proofs.YtenbjndldenkfaaGreatDoor
namespace Go.Proofs.YtenbjndldenkfaaGreatDoor
open Go.RowKit Go.Sort
theorem Bin.subW (x y : Int) : Bin .sub .i64 x .i64 y (.int .i64 (IntKind.i64.wrap (x - y))) := fun P T w => by simp [binOp, Op.intArith]
theorem wrap_in {n : Int} (h1 : -9223372036854775808 ≤ n) (h2 : n ≤ 9223372036854775807) : IntKind.i64.wrap n = n := wrap_fit _ _ (by simp only [bmin]; omega) (by simp only [bmax]; omega)
set_option maxRecDepth 100000 in
theorem kid_spec (A : Option Addr) (c : Nat) (l : List Pc) (i n : Int) (w : World) (hrd : Rd w 9 A l.length (PP l)) (hl : l.length ≤ 1000) (hn1 : -9223372036854775808 ≤ n) (hn2 : n ≤ 9223372036854775807) :
  Calls Tryz.prog 65 #[.slice A l.length c, .int .i64 i, .int .i64 n] w fun e w' => e = .returned (.int .i64 (kidQ (l.map (·.1)) i n)) ∧ Frm [] w w' := by
 refine VC.calls (nt := 26) (res := #[.tmp 6]) Tryz.func65 rfl Tryz.ntmps65 Tryz.results65 rfl ?_
 refine js (jr ?_)
 refine Ops.r (v := .int .i64 ((0 : Nat) : Int)) (Run.asg rfl) rfl ?_
 refine jo (jn (jv3 0 1 2 ?_))
 refine js (js (jr (jm ?_)))
 refine Ops.r (Run.lenS rfl Tryz.underlying60) rfl ?_
 refine Ops.r (v := .int .i64 ((0 : Nat) : Int)) (Run.mv rfl) rfl ?_
 refine jo (jn (jv5 1 2 9 10 11 ?_))
 refine jb ?_
 refine VC.loop (σ := Nat × Int) (fun s => [(1, .int .i64 i), (2, .int .i64 (IntKind.i64.wrap s.2)), (9, .slice A l.length c), (10, .int .i64 ((l.length : Nat) : Int)), (11, .int .i64 ((s.1 : Nat) : Int))]) (fun s wr => s.1 ≤ l.length ∧ n - s.1 ≤ s.2 ∧ s.2 ≤ n ∧ kidL i ((l.map (·.1)).drop s.1) s.1 s.2 = kidQ (l.map (·.1)) i n ∧ Frm [] w wr) (fun s => l.length - s.1) (0, n) (js5 rfl (by rw [wrap_in hn1 hn2]; rfl) rfl rfl rfl) ⟨by omega, by simp, by simp, rfl, Frm.refl _ _⟩ ?_
 rintro ⟨k, m⟩ wr ⟨hk, hm1, hm2, hq, K⟩
 dsimp only at hk hm1 hm2 hq K ⊢
 have hml : (l.map (·.1)).length = l.length := by simp
 refine js (jr ?_)
 refine Ops.r (Run.bin rfl rfl (Bin.lssN _ _)) rfl ?_
 refine jo (jn (js ?_))
 refine VC.condD rfl (fun hc1 => ?_) (fun hc1 => ?_)
 ·
  obtain ⟨ad, rfl, hcell⟩ := PP_at (hrd.frm K (by simp)) hc1
  have hnx := kidL_next (i := i) (l := (l.map (·.1))) (k := k) (n := m) (by omega)
  rw [List.getElem_map, hq] at hnx
  refine jk (jn (jv5 1 2 9 10 11 ?_))
  refine js (jb (js (jr (jm ?_))))
  refine Ops.r (Run.indexS k rfl rfl Tryz.underlying60 Tryz.sizeOf69 hc1) rfl ?_
  refine Ops.r (Run.loadA rfl Tryz.isAgg69 Tryz.sizeOf69 hcell (by first | rfl | (simp; done))) rfl ?_
  refine Ops.m (Does.alloc zero69) rfl ?_
  rintro _ w2 ⟨rfl, hF2⟩
  have hb8 := hF2.blk
  have sK := K.size
  have K := K.trans hF2.frm (by simp)
  generalize hg8 : wr.heap.size = g8 at hb8 sK ⊢
  refine ja ?_
  refine Ops.st (Acts.storeA rfl rfl Tryz.sizeOf69 hb8 rfl (PP1_one l[k])) ?_
  rintro w3 ⟨hb8n, hf3, _⟩
  have hb8 : Blk w3 g8 69 (PP1 l[k]).toArray := hb8n
  have K := Frm.own K hf3 (fun y hy => by simp at hy; omega)
  refine jo (jn (jv7 1 2 7 8 9 10 11 ?_))
  refine js (jr ?_)
  refine Ops.r (Run.fieldAddr rfl Tryz.underlying69 rfl Tryz.sizeOf3 (by decide)) rfl ?_
  refine Ops.r (Run.load rfl Tryz.isAgg3 (hb8.cell 7)) rfl ?_
  refine jm ?_
  refine Ops.r (Run.bin rfl rfl (Bin.eql _ _)) rfl ?_
  refine jo (jn (jv7 1 2 7 9 10 11 19 ?_))
  refine VC.meet (σ := Int) (fun s => [(1, .int .i64 i), (2, .int .i64 (IntKind.i64.wrap s)), (9, .slice (some ad) l.length c), (10, .int .i64 ((l.length : Nat) : Int)), (11, .int .i64 ((k : Nat) : Int))]) (fun s wr => n - ((k + 1 : Nat) : Int) ≤ s ∧ s ≤ n ∧ kidL i ((l.map (·.1)).drop (k + 1)) (k + 1) s = kidQ (l.map (·.1)) i n ∧ Frm [] w wr) ?_ ?_
  ·
   refine VC.condD rfl (fun hc2 => ?_) (fun hc2 => ?_)
   ·
    rw [if_pos hc2] at hnx
    refine js (jr (jm ?_))
    refine Ops.r (Run.bin rfl rfl (Bin.subW _ 1)) rfl ?_
    rw [wrap_dec]
    refine ja ?_
    refine jo (jn (jv6 1 2 7 9 10 11 ?_))
    refine js (jr (jm ?_))
    refine Ops.r (Run.bin rfl rfl (Bin.eql _ 0)) rfl ?_
    refine jo (jn (jv7 1 2 7 9 10 11 23 ?_))
    refine VC.condD rfl (fun hc3 => ?_) (fun hc3 => ?_)
    ·
     have hm : m = 1 := by have := (wrap_zero (m := m - 1) (by omega) (by omega)).1 hc3; omega
     rw [if_pos hm] at hnx
     refine js (jr (jm ?_))
     refine ja ?_
     refine jo (jn (jv1 6 ?_))
     refine jt ?_
     refine thenQ_r (blockQ_r (thenQ_r (thenQ_r (blockQ_r (thenQ_r (end1 rfl ?_))))))
     exact ⟨by rw [hnx], K⟩
    ·
     have hm : m ≠ 1 := fun h => hc3 ((wrap_zero (m := m - 1) (by omega) (by omega)).2 (by omega))
     rw [if_neg hm] at hnx
     refine jk ?_
     refine jn ⟨(m - 1), (js5 rfl rfl rfl rfl rfl), ?_⟩
     exact ⟨by omega, by omega, hnx.symm, K⟩
   ·
    rw [if_neg hc2] at hnx
    refine jk ?_
    refine jn ⟨m, (js5 rfl rfl rfl rfl rfl), ?_⟩
    exact ⟨by omega, by omega, hnx.symm, K⟩
  ·
   rintro m2 w4 ⟨hm1, hm2, hq, K⟩ Γ hΓ
   refine blockQ_n (jn (VC.sub _ hΓ ?_))
   refine jr ?_
   refine Ops.r (Run.bin rfl rfl (Bin.add_i64 _ 1 (by omega))) rfl ?_
   refine jm ?_
   refine jo ?_
   refine jn ⟨(k + 1, m2), (js5 rfl rfl rfl rfl rfl), ?_, ?_⟩
   ·
    exact ⟨hc1, hm1, hm2, hq, K⟩
   ·
    first | omega | (dsimp only; omega)
 ·
  have hkl : k = l.length := by omega
  rw [List.drop_of_length_le (by omega)] at hq
  have hq : -1 = kidQ (l.map (·.1)) i n := hq
  refine jx ?_
  refine thenQ_x (thenQ_x (blockQ_x ?_))
  refine jn ?_
  refine VC.sub [] .nil ?_
  refine js (jr ?_)
  refine Ops.r (v := .int .i64 (-1)) (Run.asg rfl) rfl ?_
  refine jo (jn (jt ?_))
  refine end1 rfl ?_
  exact ⟨by rw [← hq], K⟩
end Go.Proofs.YtenbjndldenkfaaGreatDoor
namespace Go.Proofs.YtenbjndldenkfaaGreatDoor
open Go.RowKit Go.Sort
section
variable {P : Program} {Γ : Env} {w : World} {dst : Option Tmp} {T : TypeId} {pos : String} {after : Array Edge} {g : Option (Nat × Bool)}
theorem Run.extA {f : FuncId} {xs : List Operand} {vs : List Value} {ts : Array TypeId} {v : Value} (hv : evs Γ xs vs) (hf : (callFunc f vs.toArray).run P w = .ok (.value v) w) :
  Run P ⟨dst, .call ⟨.value (.func f), xs.toArray, ts⟩, T, pos, after, g⟩ Γ w v := fun ρ hρ => by
 have e := evs_map hρ xs vs hv
 have e2 : ρ (.func f) = .func (.func f) #[] #[] := hρ _ _ rfl
 simp [execOp, resolve, e2, Deferred.ofValue, invoke, e, hf]
end
theorem count_run (A : Option Addr) (c : Nat) (q : Tx) (w : World) (hrd : Rd w 1 A q.length (U8 q)) : (callFunc 179 #[.slice A q.length c, .int .u8 ((10 : Nat) : Int)]).run Tryz.prog w = .ok (.value (.int .i64 ((q.count 10 : Nat) : Int))) w := by
 rw [run_callFunc_extern Tryz.func179 jK jK jK (e := Extern.BytealgCount.count) jK]
 cases A with
 | none =>
  have h0 : q = [] := by
   cases q with
   | nil => rfl
   | cons x r =>
    obtain ⟨ad, he, _⟩ := hrd.2 (by simp)
    cases he
  subst h0
  have h := Lib.run_countNil (P := Tryz.prog) w ([] : Tx).length c ((10 : Nat) : Int)
  rw [h]
  rfl
 | some a =>
  have h := Lib.run_countAt (P := Tryz.prog) w a q.length c (q.map fun x => ((x.toNat : Nat) : Int)) (by simp) (fun i hi => by
   obtain ⟨ad, u, he, hu, hc⟩ := hrd.at1 hi
   cases he
   rw [hc]
   simp only [U8, List.getElem?_map, List.getElem?_eq_getElem hi, Option.map_some, Option.some.injEq] at hu
   rw [← hu, List.getD_eq_getElem?_getD, List.getElem?_map, List.getElem?_eq_getElem hi]
   rfl) ((10 : Nat) : Int)
  rw [h]
  have e : Lib.bytesOf (q.map fun x => ((x.toNat : Nat) : Int)) = q := by
   unfold Lib.bytesOf
   rw [List.map_map]
   conv => rhs; rw [← List.map_id q]
   exact List.map_congr_left fun x _ => by simp
  rw [e]
  rfl
theorem parsL_count : ∀ ps : List Par, (parsL ps).length = 2 * ps.length
 | [] => rfl
 | p :: r => by
  show (strQ p.1 :: strQ p.2 :: parsL r).length = _
  simp only [List.length_cons, parsL_count r]
  omega
theorem parsL_snoc (ps : List Par) (p : Par) : parsL (ps ++ [p]) = parsL ps ++ [strQ p.1, strQ p.2] := by simp [parsL]
theorem oneS_P {q : Tx} {P : List Prt} (hup : ∀ (k : Nat) (p : Prt), P[k]? = some p → p.up < (k : Int)) (h64 : P.length ≤ 64) {i : Nat} {p : Prt} (h : P[i]? = some p) : oneS 64 q P i = oneP (oneS 64 q P) q P i p := by
 rw [oneS_at (n := 63) h]
 exact oneP_congr fun j y hj hy => oneS_deep hup 63 64 j (by have := hup j y hj; omega) (by omega)
theorem PM_cells {w : World} {g : Nat} {t : TypeId} {x : Pc} (hb : Blk w g t (PP1 x).toArray) : ∀ (j : Nat) (v : Value), (MdC x.1.m x.2.1 x.2.2).toList[j]? = some v → w.cell? ((⟨g, 4, none⟩ : Addr).add j) = some v := by
 intro j v hj
 match j, hj with
 | 0, hj => cases hj; exact hb.cell 4
 | 1, hj => cases hj; exact hb.cell 5
 | 2, hj => cases hj; exact hb.cell 6
theorem sliceQ_ln {q : Tx} {a b : Nat} (hb : b ≤ q.length) : (sliceQ q a b).length = b - a := by unfold sliceQ; simp; omega
set_option maxRecDepth 100000 in
theorem bcount_spec (A : Option Addr) (c g d : Nat) (q : Tx) (w : World) (hrd : Rd w 1 A q.length (U8 q)) (hg : w.cell? ⟨g, 0, none⟩ = some (.int .u8 ((10 : Nat) : Int))) :
  Calls Tryz.prog 138 #[.slice A q.length c, .slice (some ⟨g, 0, none⟩) 1 d] w fun e w' => e = .returned (.int .i64 ((q.count 10 : Nat) : Int)) ∧ w = w' := by
 refine VC.calls (nt := 35) (res := #[.tmp 4]) Tryz.func138 rfl Tryz.ntmps138 Tryz.results138 rfl ?_
 refine js (jr ?_)
 refine Ops.r (v := .int .i64 ((0 : Nat) : Int)) (Run.asg rfl) rfl ?_
 refine jo (jn (jv2 0 1 ?_))
 refine js (js (jr (jm ?_)))
 refine Ops.r (Run.lenS rfl Tryz.underlying22) rfl ?_
 refine Ops.r (Run.bin rfl rfl (Bin.eqlN _ 0)) rfl ?_
 refine jo (jn (jv3 0 1 9 ?_))
 refine VC.condF rfl (rfl) ?_
 refine jk (jn (jv2 0 1 ?_))
 refine js (js (jr (jm ?_)))
 refine Ops.r (Run.lenS rfl Tryz.underlying22) rfl ?_
 refine Ops.r (Run.bin rfl rfl (Bin.eqlN _ 1)) rfl ?_
 refine jo (jn (jv3 0 1 15 ?_))
 refine VC.condT rfl (rfl) ?_
 refine js (jr (jm ?_))
 refine jm ?_
 refine Ops.r (Run.index1 0 rfl rfl Tryz.underlying22 Tryz.sizeOf5 (by omega)) rfl ?_
 refine Ops.r (Run.load rfl Tryz.isAgg5 hg) rfl ?_
 refine Ops.r (Run.extA (evs.cons rfl (evs.cons rfl evs.nil)) (count_run A c q _ hrd)) rfl ?_
 refine ja ?_
 refine jo (jn (jv1 4 ?_))
 refine jt ?_
 refine thenQ_r (end1 rfl ?_)
 exact ⟨rfl, rfl⟩
set_option maxRecDepth 100000 in
theorem hlinesN_spec (A : Option Addr) (c : Nat) (q : Tx) (w : World) (hrd : Rd w 1 A q.length (U8 q)) :
  Calls Tryz.prog 103 #[.slice A q.length c] w fun e w' => e = .returned (.int .i64 ((q.count 10 : Nat) : Int)) ∧ Frm [] w w' := by
 refine VC.calls (nt := 7) (res := #[.tmp 2]) Tryz.func103 rfl Tryz.ntmps103 Tryz.results103 rfl ?_
 refine js (jr ?_)
 refine Ops.r (v := .int .i64 ((0 : Nat) : Int)) (Run.asg rfl) rfl ?_
 refine jo (jn (jv1 0 ?_))
 refine js (jr (jm ?_))
 refine Ops.m (Does.buildS1 rfl Tryz.underlying22 Tryz.sizeOf5 zero5 (by decide) (by decide) rfl rfl) rfl ?_
 rintro _ w1 ⟨rfl, hF1⟩
 have hb4 : Blk w1 w.heap.size 5 #[.int .u8 ((10 : Nat) : Int)] := hF1.blk
 have K := hF1.frm
 refine Ops.m (Does.mark rfl Tryz.underlying22 Tryz.underlying5 hb4) rfl ?_
 rintro _ w2 ⟨rfl, hfro, f2⟩
 have K := Frm.own K f2 (fun y hy => by simp at hy; omega)
 have hc10 : w2.cell? ⟨w.heap.size, 0, none⟩ = some (.int .u8 ((10 : Nat) : Int)) := hfro.cell 0
 refine Ops.cl (Enters.fn (evs.cons rfl (evs.cons rfl evs.nil)) Tryz.call138) ((bcount_spec A c _ 1 q _ (hrd.frm K (by simp)) hc10)) rfl ?_
 rintro e _ ⟨rfl, rfl⟩
 refine ⟨_, rfl, ?_⟩
 refine ja ?_
 refine jo (jn (jv1 2 ?_))
 refine jt ?_
 refine end1 rfl ?_
 exact ⟨rfl, K⟩
set_option maxRecDepth 100000 in
theorem plinesN_spec (A : Option Addr) (c : Nat) (q : Tx) (x : Pc) (w : World) (hrd : Rd w 1 A q.length (U8 q)) (hc : q.length ≤ c) (hq : q.length ≤ 1000000) (h1 : x.1.body ≤ x.1.tu) (h2 : x.1.tu ≤ q.length) :
  Calls Tryz.prog 67 #[.slice A q.length c, .agg (PP1 x).toArray] w fun e w' => e = .returned (.int .i64 (((sliceQ q x.1.body x.1.tu).count 10 : Nat) : Int)) ∧ Frm [] w w' := by
 refine VC.calls (nt := 29) (res := #[.tmp 4]) Tryz.func67 rfl Tryz.ntmps67 Tryz.results67 rfl ?_
 refine js (jr ?_)
 refine Ops.m (Does.box rfl) rfl ?_
 rintro _ w1 ⟨rfl, hF1⟩
 have hb3 : Blk w1 w.heap.size 69 (PP1 x).toArray := hF1.blk
 have K := hF1.frm
 generalize w.heap.size = g3 at hb3 ⊢
 refine Ops.r (v := .int .i64 ((0 : Nat) : Int)) (Run.asg rfl) rfl ?_
 refine jo (jn (jv2 0 3 ?_))
 refine js (js (jr ?_))
 refine Ops.r (Run.fieldAddr rfl Tryz.underlying69 rfl Tryz.sizeOf3 (by decide)) rfl ?_
 refine Ops.r (Run.load rfl Tryz.isAgg3 (hb3.cell 2)) rfl ?_
 refine Ops.r (Run.bin rfl rfl (Bin.lssN _ 0)) rfl ?_
 refine jm ?_
 refine Ops.rg rfl au (Run.fieldAddr rfl Tryz.underlying69 rfl Tryz.sizeOf3 (by decide)) rfl ?_
 refine Ops.rg rfl au (Run.load rfl Tryz.isAgg3 (hb3.cell 3)) rfl ?_
 refine Ops.rg rfl au (Run.fieldAddr rfl Tryz.underlying69 rfl Tryz.sizeOf3 (by decide)) rfl ?_
 refine Ops.rg rfl au (Run.load rfl Tryz.isAgg3 (hb3.cell 2)) rfl ?_
 refine Ops.rg rfl au (Run.bin rfl rfl (Bin.lssN _ _)) rfl ?_
 refine Ops.r (Run.pickF rfl rfl au) rfl ?_
 refine jm ?_
 refine Ops.rg rfl au (Run.fieldAddr rfl Tryz.underlying69 rfl Tryz.sizeOf3 (by decide)) rfl ?_
 refine Ops.rg rfl au (Run.load rfl Tryz.isAgg3 (hb3.cell 3)) rfl ?_
 refine jg ?_
 refine Ops.rg rfl au (Run.lenS rfl Tryz.underlying22) rfl ?_
 refine Ops.rg rfl au (Run.bin rfl rfl (Bin.gtrN _ _)) rfl ?_
 refine Ops.r (Run.pickF rfl rfl au) rfl ?_
 refine jo (jn (jv3 0 3 21 ?_))
 refine VC.condF rfl ((decide_eq_false (by omega))) ?_
 refine jk (jn (jv2 0 3 ?_))
 refine js (jr (jm ?_))
 refine Ops.r (Run.fieldAddr rfl Tryz.underlying69 rfl Tryz.sizeOf3 (by decide)) rfl ?_
 refine Ops.r (Run.load rfl Tryz.isAgg3 (hb3.cell 2)) rfl ?_
 refine Ops.r (Run.fieldAddr rfl Tryz.underlying69 rfl Tryz.sizeOf3 (by decide)) rfl ?_
 refine Ops.r (Run.load rfl Tryz.isAgg3 (hb3.cell 3)) rfl ?_
 refine Ops.r (Run.sliceS x.1.body x.1.tu rfl Tryz.underlying22 Tryz.sizeOf5 (evB.some_ rfl) (evB.some_ rfl) h1 (by omega)) rfl ?_
 rw [← sliceQ_ln (q := q) (a := x.1.body) (b := x.1.tu) h2]
 refine Ops.cl (Enters.fn (evs.cons rfl evs.nil) Tryz.call103) ((hlinesN_spec _ _ (sliceQ q x.1.body x.1.tu) _ (U8_cut (hrd.frm K (by simp)) h1 h2 hc))) rfl ?_
 rintro e w2 ⟨rfl, f2⟩
 refine ⟨_, rfl, ?_⟩
 have K := K.trans f2 (by simp)
 refine ja ?_
 refine jo (jn (jv1 4 ?_))
 refine jt ?_
 refine end1 rfl ?_
 exact ⟨rfl, K⟩
set_option maxRecDepth 100000 in
set_option maxHeartbeats 800000 in
theorem params_spec (m : Med) (PA : Option Addr) (pc : Nat) (w : World) (ht : Tab w) (hps : Rd w 2 PA m.ps.length (PC m.ps)) (hn : m.ps.length ≤ 10000) (hlen : ∀ p ∈ m.ps, p.1.length ≤ 4000 ∧ p.2.length ≤ 4000) :
  Calls Tryz.prog 66 #[.agg (MdC m PA pc)] w fun e w' => e = .returned (encStr (parsS m.ps)) ∧ Frm [] w w' := by
 have K := Frm.refl [] w
 refine VC.calls (nt := 28) (res := #[.tmp 2]) Tryz.func66 rfl Tryz.ntmps66 Tryz.results66 rfl ?_
 refine js (jr ?_)
 refine Ops.m (Does.box rfl) rfl ?_
 rintro _ w1 ⟨rfl, hF1⟩
 have hb1 : Blk w1 w.heap.size 67 (MdC m PA pc) := hF1.blk
 have K := K.trans hF1.frm (by simp)
 generalize hg1 : w.heap.size = g1 at hb1 ⊢
 refine ja ?_
 refine jo (jn (jv1 1 ?_))
 refine js (jr (ja ?_))
 refine jo (jn (js (js (jr ?_))))
 refine Ops.r (Run.fieldAddr rfl Tryz.underlying67 rfl Tryz.sizeOf65 (by decide)) rfl ?_
 refine Ops.r (Run.load rfl Tryz.isAgg65 (hb1.cell 2)) rfl ?_
 refine Ops.r (Run.lenS rfl Tryz.underlying65) rfl ?_
 refine Ops.r (v := .int .i64 ((0 : Nat) : Int)) (Run.mv rfl) rfl ?_
 refine jo (jn (jv4 3 7 8 9 ?_))
 refine jb ?_
 refine VC.loop (σ := Nat × Option Addr × Nat) (fun s => [(3, .slice s.2.1 (parsL (m.ps.take s.1)).length s.2.2), (7, .slice PA m.ps.length pc), (8, .int .i64 ((m.ps.length : Nat) : Int)), (9, .int .i64 ((s.1 : Nat) : Int))]) (fun s wr => s.1 ≤ m.ps.length ∧ Own wr 9 1 s.2.1 (parsL (m.ps.take s.1)).length s.2.2 (SB (parsL (m.ps.take s.1))) ∧ Frm [] w wr ∧ ∀ x ∈ ob s.2.1, w.heap.size ≤ x) (fun s => m.ps.length - s.1) (0, none, 0) (js4 rfl rfl rfl rfl) ⟨Nat.zero_le _, Own.nil _ _ _, K, by simp [ob]⟩ ?_
 rintro ⟨k, LA, cp⟩ wr ⟨hk, hO, K, hub⟩
 dsimp only at hk hO hub ⊢
 have hpc := parsL_count (m.ps.take k)
 rw [List.length_take] at hpc
 refine js (jr ?_)
 refine Ops.r (Run.bin rfl rfl (Bin.lssN _ _)) rfl ?_
 refine jo (jn (js ?_))
 refine VC.condD rfl (fun hc1 => ?_) (fun hc1 => ?_)
 ·
  obtain ⟨ad, rfl, hcell⟩ := PC_at (hps.frm K (by simp)) hc1
  have hsn := parsL_snoc (m.ps.take k) m.ps[k]
  rw [← take_snoc hc1] at hsn
  obtain ⟨hl1, hl2⟩ := hlen _ (List.getElem_mem hc1)
  generalize m.ps[k] = p at *
  refine jk (jn (jv4 3 7 8 9 ?_))
  refine js (jb (js (jr ?_)))
  refine Ops.r (Run.indexS k rfl rfl Tryz.underlying65 Tryz.sizeOf102 hc1) rfl ?_
  refine Ops.r (Run.loadA rfl Tryz.isAgg102 Tryz.sizeOf102 hcell (by first | rfl | (simp; done))) rfl ?_
  refine Ops.m (Does.alloc zero102) rfl ?_
  rintro _ w3 ⟨rfl, hF3⟩
  have hb5 := hF3.blk
  have sK := K.size
  have lO := hO.lt
  have K := K.trans hF3.frm (by simp)
  have hO := hO.frm hF3.frm (by simp)
  generalize hg5 : wr.heap.size = g5 at hb5 sK lO ⊢
  refine Ops.st (Acts.storeA rfl rfl Tryz.sizeOf102 hb5 rfl (PC1_one p)) ?_
  rintro w4 ⟨hb5n, f4, _⟩
  have hb5 : Blk w4 g5 102 (PC1 p).toArray := hb5n
  have hO := hO.frm f4 (fun y hy => by have := lO y hy; simp; omega)
  have K := Frm.own K f4 (fun y hy => by simp at hy; omega)
  have hg5L : g5 ∉ ob LA := fun h => by have := lO g5 h; omega
  refine jo (jn (jv5 3 5 7 8 9 ?_))
  refine VC.held (fun W => Frm (ob LA) w4 W) jK ?_
  have hS : Frm (ob LA) w4 w4.drew := (Frm.refl _ _).drew
  have hO := hO.drawn (Drawn.drew _)
  refine jh 0 rfl hS (fun w0 hw0 => Run.mv rfl) ?_
  refine jh 1 rfl hS (fun w0 hw0 => Run.fieldAddr rfl Tryz.underlying102 rfl Tryz.sizeOf9 (by decide)) ?_
  refine jh 2 rfl hS (fun w0 hw0 => Run.load rfl Tryz.isAgg9 ((hb5.frm hw0 hg5L).cell 0)) ?_
  refine jh 4 rfl hS (fun w0 hw0 => Run.fieldAddr rfl Tryz.underlying102 rfl Tryz.sizeOf9 (by decide)) ?_
  refine jh 5 rfl hS (fun w0 hw0 => Run.load rfl Tryz.isAgg9 ((hb5.frm hw0 hg5L).cell 1)) ?_
  refine HOps.cl 3 rfl jK (Enters.fn (evs.cons rfl evs.nil) Tryz.call10) ((string_spec p.1 _ (ht.frm (Frm.own K hS hub)) (by omega))) trivial rfl rfl ?_
  rintro e w5 ⟨rfl, fw5⟩
  have hS := hS.trans fw5 (by simp)
  have hO := hO.frm fw5 (by simp)
  refine ⟨_, rfl, hS, ?_⟩
  refine HOps.cl 6 rfl jK (Enters.fn (evs.cons rfl evs.nil) Tryz.call10) ((string_spec p.2 _ (ht.frm (Frm.own K hS hub)) (by omega))) trivial rfl rfl ?_
  rintro e w6 ⟨rfl, fw6⟩
  have hS := hS.trans fw6 (by simp)
  have hO := hO.frm fw6 (by simp)
  refine ⟨_, rfl, hS, ?_⟩
  refine HOps.m 7 rfl jK (Does.buildN (cells := (SB [strQ p.1, strQ p.2]).toArray) (evs.cons rfl (evs.cons rfl evs.nil)) Tryz.underlying36 Tryz.sizeOf9 zero9 rfl rfl jK) trivial rfl rfl ?_
  rintro _ w7 ⟨rfl, hFw7⟩
  have hrw7 : Rd w7 1 (some ⟨_, 0, none⟩) 2 (SB [strQ p.1, strQ p.2]) := Rd.of_blk (n := 2) (size := 1) hFw7.blk rfl
  have hS := hS.trans hFw7.frm (by simp)
  have hO := hO.frm hFw7.frm (by simp)
  refine ⟨hS, ?_⟩
  refine HOps.m 8 rfl jK (Does.app rfl rfl Tryz.underlying36 (info9) rfl (by decide) hO hrw7 (SB_one _) (by omega) (by omega)) trivial rfl rfl ?_
  rintro _ w8 ⟨A8, c8, rfl, hO8, f8, hob8⟩
  have sK7 := (Frm.own K hS hub).size
  have hS := hS.trans f8 (fun x hx => .inl hx)
  have hO9 : Own w8 9 1 A8 (parsL (m.ps.take (k + 1))).length c8 (SB (parsL (m.ps.take (k + 1)))) := by rw [hsn, SB_append, List.length_append]; exact hO8
  refine ⟨hS, ?_⟩
  refine jh 9 rfl hS (fun w0 hw0 => Run.asg rfl) ?_
  refine HOps.done jK ?_
  refine blockQ_n (jn ?_)
  refine jv4 3 7 8 9 ?_
  refine jr ?_
  refine Ops.r (Run.bin rfl rfl (Bin.add_i64 _ 1 (by omega))) rfl ?_
  refine jm ?_
  refine jo ?_
  refine jn ⟨(k + 1, A8, c8), (js4 (by rw [hsn, List.length_append]; rfl) rfl rfl rfl), ?_, ?_⟩
  ·
   exact ⟨hc1, hO9, Frm.own K hS hub, up_app hub hob8 (by omega)⟩
  ·
   first | omega | (dsimp only; omega)
 ·
  have hkl : k = m.ps.length := by omega
  subst hkl
  rw [List.take_length] at hO hpc ⊢
  refine jx ?_
  refine thenQ_x (thenQ_x (blockQ_x ?_))
  refine jn (jv1 3 ?_)
  refine js (js (jr (jm ?_)))
  refine Ops.r (Run.lenS rfl Tryz.underlying36) rfl ?_
  refine Ops.r (Run.bin rfl rfl (Bin.eqlN _ 0)) rfl ?_
  refine jo (jn (jv2 3 25 ?_))
  refine VC.condD rfl (fun hc2 => ?_) (fun hc2 => ?_)
  ·
   have hps0 : m.ps = [] := by cases hm : m.ps with
    | nil => rfl
    | cons x r => rw [hm] at hpc hc2; simp at hpc; omega
   refine js (jr (ja ?_))
   refine jo (jn (jv1 2 ?_))
   refine jt ?_
   refine thenQ_r (end1 rfl ?_)
   exact ⟨by unfold parsS; rw [if_pos hps0]; rfl, K⟩
  ·
   have hps0 : m.ps ≠ [] := fun h => by rw [h] at hc2; exact hc2 rfl
   have hps1 : 0 < (parsL m.ps).length := by omega
   have hflat : (parsL m.ps).flatten.length ≤ 90000000000000 := by
    have := (parsL_len (N := 4000) hlen).1
    have h2 : m.ps.length * (4 * 4000 + 12) ≤ 10000 * 16012 := Nat.mul_le_mul_right _ hn
    omega
   refine jk (jn (jv1 3 ?_))
   refine js (jr (jm ?_))
   refine Ops.cl (Enters.fn (evs.cons rfl evs.nil) Tryz.call34) ((list_spec LA cp (parsL m.ps) _ hO.rd hps1 hO.le (by omega) hflat)) rfl ?_
   rintro e w9 ⟨rfl, f9⟩
   refine ⟨_, rfl, ?_⟩
   have K := K.trans f9 (by simp)
   refine ja ?_
   refine jo (jn (jv1 2 ?_))
   refine jt ?_
   refine end1 rfl ?_
   exact ⟨by unfold parsS; rw [if_neg hps0], K⟩
end Go.Proofs.YtenbjndldenkfaaGreatDoor
