/-
  Lemmas on the way, joined: PartP, AdP, SecP, HeadW, HeadV, Eng16, HeadU, HeadT, HeadS, AdW, AdV, AdU, AdT.
-/
import Derived.Lib.LastIndexByte
import Derived.Lib.AppendStr
import Derived.Test.YtenbjndldenkfaaGreatDoorPk1
namespace Go.Proofs.YtenbjndldenkfaaGreatDoor
open Go.RowKit

def dash2 : Tx := [45, 45]
def cutPre (p s : Tx) : Option Tx := if p.isPrefixOf s then some (s.drop p.length) else none
def partsL (bd l : Tx) : Bool × Bool := match cutPre (dash2 ++ bd) (bareL l) with
 | none => (false, false)
 | some s => match cutPre dash2 s with
  | none => (decide (trimQ s = []), false)
  | some t => (decide (trimQ t = []), true)
def aheadQ (s : Tx) (frm line : Nat) : Nat :=
 if line > frm ∧ s[line - 1]? = some 10 then (if line - 1 > frm ∧ s[line - 2]? = some 13 then line - 2 else line - 1) else line
theorem aheadQ_le {s : Tx} {frm line : Nat} (h : frm ≤ line) : frm ≤ aheadQ s frm line ∧ aheadQ s frm line ≤ line := by
 unfold aheadQ
 split
 ·
  split <;> omega
 ·
  omega
def addB (s : Tx) (o : Nat) (bg : Option Nat) (out : List (Nat × Nat)) : List (Nat × Nat) := match bg with
 | some b => out ++ [(b, aheadQ s b o)]
 | none => out
theorem addB_len (s : Tx) (o : Nat) (bg : Option Nat) (out : List (Nat × Nat)) : (addB s o bg out).length ≤ out.length + 1 := by cases bg <;> simp [addB]
def spnL (s bd : Tx) (tu : Nat) : Nat → Option Nat → List (Nat × Nat) → List Tx → List (Nat × Nat)
 | _, bg, out, [] => match bg with
  | some b => out ++ [(b, tu)]
  | none => out
 | o, bg, out, l :: r =>
  if (partsL bd l).1 = false then spnL s bd tu (o + l.length) bg out r
  else if (partsL bd l).2 then addB s o bg out else spnL s bd tu (o + l.length) (some (o + l.length)) (addB s o bg out) r
def sliceQ (s : Tx) (a b : Nat) : Tx := (s.drop a).take (b - a)
theorem sliceQ_len {s : Tx} {a b : Nat} (h : b ≤ s.length) : (sliceQ s a b).length = b - a := by unfold sliceQ; simp; omega
def spansQ (s bd : Tx) (frm tu : Nat) : List (Nat × Nat) := spnL s bd tu frm none [] (linesF (sliceQ s frm tu))
theorem spnL_ok (s bd : Tx) (tu lo : Nat) : ∀ (ls : List Tx) (o : Nat) (bg : Option Nat) (out : List (Nat × Nat)), lo ≤ o → o + ls.flatten.length = tu → (∀ b, bg = some b → lo ≤ b ∧ b ≤ o) → (∀ x ∈ out, lo ≤ x.1 ∧ x.1 ≤ x.2 ∧ x.2 ≤ tu) → ∀ x ∈ spnL s bd tu o bg out ls, lo ≤ x.1 ∧ x.1 ≤ x.2 ∧ x.2 ≤ tu
 | [], o, bg, out, hlo, hto, hbg, hout => by
  simp only [List.flatten_nil, List.length_nil] at hto
  unfold spnL
  cases bg with
  | none => exact hout
  | some b =>
   intro x hx
   rcases List.mem_append.1 hx with hx | hx
   ·
    exact hout x hx
   ·
    simp only [List.mem_singleton] at hx
    subst hx
    have := hbg b rfl
    exact ⟨this.1, by show b ≤ tu; omega, Nat.le_refl _⟩
 | l :: r, o, bg, out, hlo, hto, hbg, hout => by
  rw [List.flatten_cons, List.length_append] at hto
  unfold spnL
  split
  ·
   exact spnL_ok s bd tu lo r _ bg out (by omega) (by omega) (fun b hb => by have := hbg b hb; omega) hout
  ·
   have h2 : ∀ x ∈ addB s o bg out, lo ≤ x.1 ∧ x.1 ≤ x.2 ∧ x.2 ≤ tu := by
    cases bg with
    | none => exact hout
    | some b =>
     intro x hx
     rcases List.mem_append.1 hx with hx | hx
     ·
      exact hout x hx
     ·
      simp only [List.mem_singleton] at hx
      subst hx
      have := hbg b rfl
      have h3 := aheadQ_le (s := s) this.2
      exact ⟨this.1, h3.1, by show aheadQ s b o ≤ tu; omega⟩
   split
   ·
    exact h2
   ·
    exact spnL_ok s bd tu lo r _ _ _ (by omega) (by omega) (fun b hb => by cases hb; omega) h2
theorem spansQ_ok {s bd : Tx} {frm tu : Nat} (h : frm ≤ tu) (hs : tu ≤ s.length) : ∀ x ∈ spansQ s bd frm tu, frm ≤ x.1 ∧ x.1 ≤ x.2 ∧ x.2 ≤ tu := by
 refine spnL_ok s bd tu frm _ _ _ _ (Nat.le_refl _) ?_ (by simp) (by simp)
 rw [linesF_flat, sliceQ_len hs]
 omega
theorem spnL_count (s bd : Tx) (tu : Nat) : ∀ (ls : List Tx) (o : Nat) (bg : Option Nat) (out : List (Nat × Nat)), (spnL s bd tu o bg out ls).length ≤ out.length + ls.length + 1
 | [], o, bg, out => by unfold spnL; cases bg <;> simp
 | l :: r, o, bg, out => by
  have h2 := addB_len s o bg out
  unfold spnL
  split
  ·
   have := spnL_count s bd tu r (o + l.length) bg out
   simp only [List.length_cons]; omega
  ·
   split
   ·
    simp only [List.length_cons]; omega
   ·
    have := spnL_count s bd tu r (o + l.length) (some (o + l.length)) (addB s o bg out)
    simp only [List.length_cons]; omega
theorem spansQ_count (s bd : Tx) (frm tu : Nat) : (spansQ s bd frm tu).length ≤ s.length + 1 := by
 have h1 := spnL_count s bd tu (linesF (sliceQ s frm tu)) frm none []
 have h2 := linesF_count (sliceQ s frm tu)
 have h3 : (sliceQ s frm tu).length ≤ s.length := by unfold sliceQ; simp; omega
 unfold spansQ
 simp only [List.length_nil] at h1
 omega

def ctype : Tx := [67, 111, 110, 116, 101, 110, 116, 45, 84, 121, 112, 101]
def msgT : Tx := [109, 101, 115, 115, 97, 103, 101]
def rfcT : Tx := [114, 102, 99, 56, 50, 50]
def multT : Tx := [109, 117, 108, 116, 105, 112, 97, 114, 116]
def digT : Tx := [100, 105, 103, 101, 115, 116]
def bndT : Tx := [98, 111, 117, 110, 100, 97, 114, 121]
def mediaQ (s : Tx) (digest : Bool) : Med := if (findH s ctype).2 = false ∧ digest = true then ⟨msgT, rfcT, []⟩ else medQ (findH s ctype).1
structure Prt where
 kind : Nat
 frm : Nat
 body : Nat
 tu : Nat
 m : Med
 up : Int
 kids : Nat
def kid1 (l : List Prt) (up : Int) : List Prt := if 0 ≤ up then l.modify up.toNat (fun p => { p with kids := p.kids + 1 }) else l
def setK (l : List Prt) (i k : Nat) : List Prt := l.modify i (fun p => { p with kind := k })
def IsLet (m : Med) : Prop := m.ty = msgT ∧ m.sub = rfcT
instance (m : Med) : Decidable (IsLet m) := by unfold IsLet; infer_instance
def fndQ (s : Tx) : Nat → List Prt → Nat → Nat → Int → Bool → List Prt
 | n, l, frm, tu, up, dg =>
  if l.length = 64 then l else
  let b := sliceQ s frm tu
  let p : Prt := ⟨0, frm, frm + splitQ b, tu, mediaQ b dg, up, 0⟩
  let l1 := kid1 (l ++ [p]) up
  match n with
  | 0 => l1
  | n + 1 =>
   if IsLet p.m then fndQ s n (setK l1 l.length 2) p.body tu (l.length : Int) false
   else if p.m.ty ≠ multT ∨ (findQ p.m.ps bndT).1 = [] then l1
   else (spansQ s (findQ p.m.ps bndT).1 p.body tu).foldl (fun acc x => fndQ s n (setK acc l.length 1) x.1 x.2 (l.length : Int) (decide (p.m.sub = digT))) l1
def partsQ (s : Tx) : List Prt := fndQ s 6 [] 0 s.length (-1) false
end Go.Proofs.YtenbjndldenkfaaGreatDoor
namespace Go.Proofs.YtenbjndldenkfaaGreatDoor
open Go.RowKit
def usesF (u d : Nat) (s : Tx) : List Nat := match s with
 | [] => []
 | c :: r =>
  if u ≠ 0 ∧ c = 92 then (match r with
   | [] => [3]
   | _ :: r2 => 3 :: u :: usesF u d r2)
  else if u = 0 ∧ c = 34 then 3 :: usesF 1 d r
  else if u = 1 ∧ c = 34 then 3 :: usesF 0 d r
  else if u ≠ 1 ∧ c = 40 then 2 :: usesF 2 (d + 1) r
  else if u = 2 ∧ c = 41 then 2 :: usesF (if d - 1 = 0 then 0 else 2) (d - 1) r
  else u :: usesF u d r
termination_by s.length
theorem usesF_len : ∀ (n : Nat) (s : Tx) (u d : Nat), s.length ≤ n → (usesF u d s).length = s.length
 | _, [], u, d, _ => by unfold usesF; rfl
 | 0, c :: r, _, _, h => by simp at h
 | n + 1, c :: r, u, d, h => by
  have ih := fun u d => usesF_len n r u d (by simpa using h)
  unfold usesF
  split
  ·
   cases r with
   | nil => rfl
   | cons x r2 =>
    have ih2 := usesF_len n r2 u d (by simp at h; omega)
    simp [ih2]
  ·
   split
   ·
    simp [ih]
   ·
    split
    ·
     simp [ih]
    ·
     split
     ·
      simp [ih]
     ·
      split
      ·
       simp [ih]
      ·
       simp [ih]
def usesQ (s : Tx) : List Nat := usesF 0 0 s
theorem usesQ_len (s : Tx) : (usesQ s).length = s.length := usesF_len s.length s 0 0 (Nat.le_refl _)
theorem uses_esc {u d : Nat} {c x : UInt8} {r : Tx} (h : u ≠ 0 ∧ c = 92) : usesF u d (c :: x :: r) = 3 :: u :: usesF u d r := by
 conv => lhs; unfold usesF
 rw [if_pos h]
theorem uses_esc1 {u d : Nat} {c : UInt8} (h : u ≠ 0 ∧ c = 92) : usesF u d [c] = [3] := by
 conv => lhs; unfold usesF
 rw [if_pos h]
theorem uses_open {u d : Nat} {c : UInt8} {r : Tx} (h1 : ¬ (u ≠ 0 ∧ c = 92)) (h : u = 0 ∧ c = 34) : usesF u d (c :: r) = 3 :: usesF 1 d r := by
 conv => lhs; unfold usesF
 rw [if_neg h1, if_pos h]
theorem uses_shut {u d : Nat} {c : UInt8} {r : Tx} (h1 : ¬ (u ≠ 0 ∧ c = 92)) (h2 : ¬ (u = 0 ∧ c = 34)) (h : u = 1 ∧ c = 34) : usesF u d (c :: r) = 3 :: usesF 0 d r := by
 conv => lhs; unfold usesF
 rw [if_neg h1, if_neg h2, if_pos h]
theorem uses_in {u d : Nat} {c : UInt8} {r : Tx} (h1 : ¬ (u ≠ 0 ∧ c = 92)) (h2 : ¬ (u = 0 ∧ c = 34)) (h3 : ¬ (u = 1 ∧ c = 34)) (h : u ≠ 1 ∧ c = 40) : usesF u d (c :: r) = 2 :: usesF 2 (d + 1) r := by
 conv => lhs; unfold usesF
 rw [if_neg h1, if_neg h2, if_neg h3, if_pos h]
theorem uses_out {u d : Nat} {c : UInt8} {r : Tx} (h1 : ¬ (u ≠ 0 ∧ c = 92)) (h2 : ¬ (u = 0 ∧ c = 34)) (h3 : ¬ (u = 1 ∧ c = 34)) (h4 : ¬ (u ≠ 1 ∧ c = 40)) (h : u = 2 ∧ c = 41) : usesF u d (c :: r) = 2 :: usesF (if d - 1 = 0 then 0 else 2) (d - 1) r := by
 conv => lhs; unfold usesF
 rw [if_neg h1, if_neg h2, if_neg h3, if_neg h4, if_pos h]
theorem uses_in_it {u d : Nat} {c : UInt8} {r : Tx} (h1 : ¬ (u ≠ 0 ∧ c = 92)) (h2 : ¬ (u = 0 ∧ c = 34)) (h3 : ¬ (u = 1 ∧ c = 34)) (h4 : ¬ (u ≠ 1 ∧ c = 40)) (h5 : ¬ (u = 2 ∧ c = 41)) : usesF u d (c :: r) = u :: usesF u d r := by
 conv => lhs; unfold usesF
 rw [if_neg h1, if_neg h2, if_neg h3, if_neg h4, if_neg h5]
def saysF : Bool → Tx → List (UInt8 × Nat) → Tx
 | _, out, [] => out
 | wt, out, (c, u) :: r =>
  if u = 3 then saysF wt out r
  else if u = 2 ∨ (u = 0 ∧ Bl c) then saysF (decide (0 < out.length)) out r
  else saysF false ((if wt then out ++ [32] else out) ++ [c]) r
def saysQ (z : List (UInt8 × Nat)) : Tx := saysF false [] z
theorem saysF_len : ∀ (z : List (UInt8 × Nat)) (wt : Bool) (out : Tx), (saysF wt out z).length ≤ out.length + 2 * z.length
 | [], _, out => by simp [saysF]
 | (c, u) :: r, wt, out => by
  unfold saysF
  split
  ·
   have := saysF_len r wt out
   simp only [List.length_cons]; omega
  ·
   split
   ·
    have := saysF_len r (decide (0 < out.length)) out
    simp only [List.length_cons]; omega
   ·
    have := saysF_len r false ((if wt then out ++ [32] else out) ++ [c])
    have h2 : (if wt then out ++ [32] else out).length ≤ out.length + 1 := by split <;> simp
    rw [List.length_append] at this
    simp only [List.length_cons, List.length_nil] at this ⊢
    omega
theorem saysQ_len (z : List (UInt8 × Nat)) : (saysQ z).length ≤ 2 * z.length := by
 have := saysF_len z false []
 simpa [saysQ] using this
def fndA (sign : UInt8) : List (UInt8 × Nat) → Nat → Int
 | [], _ => -1
 | (c, u) :: r, k => if u = 0 ∧ c = sign then (k : Int) else fndA sign r (k + 1)
theorem fndA_res (sign : UInt8) : ∀ (z : List (UInt8 × Nat)) (k : Nat), fndA sign z k = -1 ∨ ∃ i : Nat, i < z.length ∧ fndA sign z k = ((k + i : Nat) : Int) ∧ z[i]? = some (sign, 0)
 | [], _ => .inl rfl
 | (c, u) :: r, k => by
  unfold fndA
  split
  ·
   rename_i h
   exact .inr ⟨0, by simp, by simp, by rw [List.getElem?_cons_zero, h.1, h.2]⟩
  ·
   rcases fndA_res sign r (k + 1) with h | ⟨i, h1, h2, h3⟩
   ·
    exact .inl h
   ·
    exact .inr ⟨i + 1, by simp; omega, by rw [h2]; congr 1; omega, by simpa using h3⟩
def pcsA (s : Tx) : List (UInt8 × Nat) → Nat → Nat → Bool → List Tx → List Tx
 | [], _, frm, _, out => out ++ [s.drop frm]
 | (c, u) :: r, k, frm, ang, out =>
  if u ≠ 0 then pcsA s r (k + 1) frm ang out
  else if c = 60 then pcsA s r (k + 1) frm true out
  else if c = 62 then pcsA s r (k + 1) frm false out
  else if c = 44 ∧ ang = false then pcsA s r (k + 1) (k + 1) ang (out ++ [sliceQ s frm k])
  else pcsA s r (k + 1) frm ang out
def piecesA (s : Tx) : List Tx := pcsA s (s.zip (usesQ s)) 0 0 false []
theorem pcsA_mem (s : Tx) : ∀ (z : List (UInt8 × Nat)) (k frm : Nat) (ang : Bool) (out : List Tx), (∀ x ∈ out, x.length ≤ s.length) → ∀ x ∈ pcsA s z k frm ang out, x.length ≤ s.length
 | [], _, frm, _, out, h => by
  intro x hx
  rcases List.mem_append.1 hx with hx | hx
  ·
   exact h x hx
  ·
   simp only [List.mem_singleton] at hx
   subst hx
   simp
 | (c, u) :: r, k, frm, ang, out, h => by
  unfold pcsA
  split
  ·
   exact pcsA_mem s r _ _ _ _ h
  ·
   split
   ·
    exact pcsA_mem s r _ _ _ _ h
   ·
    split
    ·
     exact pcsA_mem s r _ _ _ _ h
    ·
     split
     ·
      refine pcsA_mem s r _ _ _ _ fun x hx => ?_
      rcases List.mem_append.1 hx with hx | hx
      ·
       exact h x hx
      ·
       simp only [List.mem_singleton] at hx
       subst hx
       unfold sliceQ
       simp
       omega
     ·
      exact pcsA_mem s r _ _ _ _ h
theorem pcsA_count (s : Tx) : ∀ (z : List (UInt8 × Nat)) (k frm : Nat) (ang : Bool) (out : List Tx), (pcsA s z k frm ang out).length ≤ out.length + z.length + 1
 | [], _, frm, _, out => by simp [pcsA]
 | (c, u) :: r, k, frm, ang, out => by
  have h1 := fun frm ang out => pcsA_count s r (k + 1) frm ang out
  unfold pcsA
  simp only [List.length_cons]
  split
  ·
   have := h1 frm ang out; omega
  ·
   split
   ·
    have := h1 frm true out; omega
   ·
    split
    ·
     have := h1 frm false out; omega
    ·
     split
     ·
      have := h1 (k + 1) ang (out ++ [sliceQ s frm k]); simp only [List.length_append, List.length_cons, List.length_nil] at this; omega
     ·
      have := h1 frm ang out; omega
def frsA : Bool → Int → Tx → List (UInt8 × Nat) → Tx
 | _, _, out, [] => out
 | fr, d, out, (c, u) :: r =>
  if u = 2 ∧ c = 40 ∧ fr = true ∧ d = 0 then frsA (decide (u ≠ 3 ∨ c ≠ 92)) 1 out r
  else
   if u = 2 ∧ (if u = 2 ∧ c = 40 ∧ fr = true then d + 1 else if u = 2 ∧ c = 41 ∧ fr = true then d - 1 else d) = 0 then out
   else frsA (decide (u ≠ 3 ∨ c ≠ 92)) (if u = 2 ∧ c = 40 ∧ fr = true then d + 1 else if u = 2 ∧ c = 41 ∧ fr = true then d - 1 else d) (if u = 2 then out ++ [c] else out) r
theorem frsA_len : ∀ (z : List (UInt8 × Nat)) (fr : Bool) (d : Int) (out : Tx), (frsA fr d out z).length ≤ out.length + z.length
 | [], _, _, out => by simp [frsA]
 | (c, u) :: r, fr, d, out => by
  unfold frsA
  simp only [List.length_cons]
  generalize (if u = 2 ∧ c = 40 ∧ fr = true then d + 1 else if u = 2 ∧ c = 41 ∧ fr = true then d - 1 else d) = d2
  split
  ·
   have := frsA_len r (decide (u ≠ 3 ∨ c ≠ 92)) 1 out; omega
  ·
   split
   ·
    omega
   ·
    have := fun b e => frsA_len r b e (if u = 2 then out ++ [c] else out)
    have h2 : (if u = 2 then out ++ [c] else out).length ≤ out.length + 1 := by split <;> simp
    have h3 := this (decide (u ≠ 3 ∨ c ≠ 92)) d2
    omega
def firstA (z : List (UInt8 × Nat)) : Tx := trimQ (frsA true 0 [] z)
structure Adr where
 name : Tx
 box : Tx
 host : Tx
deriving DecidableEq
def lastAt (x : UInt8) : Tx → Option (Tx × Tx)
 | [] => none
 | c :: r => match lastAt x r with
  | some (a, b) => some (c :: a, b)
  | none => if c = x then some ([], r) else none
theorem lastAt_none {x : UInt8} : ∀ {t : Tx}, lastAt x t = none → x ∉ t
 | [], _ => by simp
 | y :: t, h => by
  unfold lastAt at h
  cases ht : lastAt x t with
  | some p => rw [ht] at h; cases h
  | none =>
   rw [ht] at h
   dsimp only at h
   by_cases hy : y = x
   ·
    rw [if_pos hy] at h; cases h
   ·
    simp only [List.mem_cons, not_or]
    exact ⟨fun e => hy e.symm, lastAt_none ht⟩
theorem lastAt_some {x : UInt8} : ∀ {s a b : Tx}, lastAt x s = some (a, b) → s = a ++ x :: b ∧ x ∉ b
 | c :: r, a, b, h => by
  unfold lastAt at h
  cases hr : lastAt x r with
  | some p =>
   rw [hr] at h
   cases h
   obtain ⟨h1, h2⟩ := lastAt_some (a := p.1) (b := p.2) hr
   exact ⟨by rw [h1]; rfl, h2⟩
  | none =>
   rw [hr] at h
   dsimp only at h
   by_cases hc : c = x
   ·
    rw [if_pos hc] at h
    cases h
    exact ⟨by rw [hc]; rfl, lastAt_none hr⟩
   ·
    rw [if_neg hc] at h; cases h
def boxHost (all : Tx) : Tx × Tx := match lastAt 64 all with
 | some (a, b) => (a, b)
 | none => (all, [])
def angTo (z : List (UInt8 × Nat)) (frm : Nat) : Nat := if fndA 62 (z.drop frm) frm < 0 then z.length else (fndA 62 (z.drop frm) frm).toNat
def nmA (z : List (UInt8 × Nat)) : Tx := if fndA 60 z 0 < 0 then firstA z else saysQ (z.take (fndA 60 z 0).toNat)
def allA (z : List (UInt8 × Nat)) : Tx := if fndA 60 z 0 < 0 then saysQ z else saysQ ((z.drop ((fndA 60 z 0).toNat + 1)).take (angTo z (fndA 60 z 0).toNat - ((fndA 60 z 0).toNat + 1)))
def oneA (s : Tx) : Adr := ⟨nmA (s.zip (usesQ s)), (boxHost (allA (s.zip (usesQ s)))).1, (boxHost (allA (s.zip (usesQ s)))).2⟩
def listA (s : Tx) : List Adr := ((piecesA s).map oneA).filter (fun a => decide (a ≠ ⟨[], [], []⟩))
theorem boxHost_len (t : Tx) : (boxHost t).1.length ≤ t.length ∧ (boxHost t).2.length ≤ t.length := by
 unfold boxHost
 cases h : lastAt 64 t with
 | none => exact ⟨Nat.le_refl _, by simp⟩
 | some p =>
  obtain ⟨a, b⟩ := p
  have := (lastAt_some h).1
  have := congrArg List.length this
  simp at this
  exact ⟨by show a.length ≤ _; omega, by show b.length ≤ _; omega⟩
theorem zip_len (s : Tx) : (s.zip (usesQ s)).length = s.length := by rw [List.length_zip, usesQ_len, Nat.min_self]
theorem firstA_len (z : List (UInt8 × Nat)) : (firstA z).length ≤ z.length := by
 refine Nat.le_trans (trimQ_len _) ?_
 have := frsA_len z true 0 []
 simp only [List.length_nil, Nat.zero_add] at this
 exact this
theorem nmA_len (z : List (UInt8 × Nat)) : (nmA z).length ≤ 2 * z.length := by
 unfold nmA
 split
 ·
  have := firstA_len z; omega
 ·
  have := saysQ_len (z.take (fndA 60 z 0).toNat)
  rw [List.length_take] at this
  omega
theorem allA_len (z : List (UInt8 × Nat)) : (allA z).length ≤ 2 * z.length := by
 unfold allA
 split
 ·
  exact saysQ_len z
 ·
  generalize (fndA 60 z 0).toNat = f
  have := saysQ_len ((z.drop (f + 1)).take (angTo z f - (f + 1)))
  simp only [List.length_take, List.length_drop] at this
  omega
theorem oneA_len (s : Tx) : (oneA s).name.length ≤ 2 * s.length ∧ (oneA s).box.length ≤ 2 * s.length ∧ (oneA s).host.length ≤ 2 * s.length := by
 have hz := zip_len s
 have h1 := nmA_len (s.zip (usesQ s))
 have h2 := allA_len (s.zip (usesQ s))
 have h3 := boxHost_len (allA (s.zip (usesQ s)))
 rw [hz] at h1 h2
 exact ⟨h1, Nat.le_trans h3.1 h2, Nat.le_trans h3.2 h2⟩
theorem listA_mem {s : Tx} : ∀ a ∈ listA s, a.name.length ≤ 2 * s.length ∧ a.box.length ≤ 2 * s.length ∧ a.host.length ≤ 2 * s.length := by
 intro a ha
 obtain ⟨p, hp, rfl⟩ := List.mem_map.1 (List.mem_filter.1 ha).1
 have h1 := pcsA_mem s _ 0 0 false [] (by simp) p hp
 have h2 := oneA_len p
 omega
theorem listA_count (s : Tx) : (listA s).length ≤ s.length + 1 := by
 have h1 := pcsA_count s (s.zip (usesQ s)) 0 0 false []
 rw [zip_len] at h1
 have h2 : (listA s).length ≤ (piecesA s).length := by
  unfold listA
  refine Nat.le_trans (List.length_filter_le _ _) ?_
  rw [List.length_map]
  exact Nat.le_refl _
 simp only [List.length_nil, Nat.zero_add] at h1
 exact Nat.le_trans h2 h1
end Go.Proofs.YtenbjndldenkfaaGreatDoor
namespace Go.Proofs.YtenbjndldenkfaaGreatDoor
open Go.RowKit

def PartOk (N : Nat) (l : List Prt) (k : Nat) (p : Prt) : Prop :=
 p.frm ≤ p.body ∧ p.body ≤ p.tu ∧ p.tu ≤ N ∧ p.kind ≤ 2 ∧ p.up < (k : Int) ∧ (0 ≤ p.up → ∀ u, l[p.up.toNat]? = some u → u.kind = 2 → p.frm = u.body ∧ p.tu = u.tu)
def AllOk (N : Nat) (l : List Prt) : Prop := ∀ (k : Nat) (p : Prt), l[k]? = some p → PartOk N l k p
def Ext (l l2 : List Prt) : Prop := l.length ≤ l2.length ∧ ∀ (k : Nat) (p : Prt), l[k]? = some p → ∃ j, l2[k]? = some { p with kids := j }
theorem Ext.refl (l : List Prt) : Ext l l := ⟨Nat.le_refl _, fun _ p h => ⟨p.kids, h⟩⟩
theorem Ext.trans {a b c : List Prt} (h : Ext a b) (k : Ext b c) : Ext a c := ⟨Nat.le_trans h.1 k.1, fun i p hp => by
 obtain ⟨j, hj⟩ := h.2 i p hp
 obtain ⟨j2, hj2⟩ := k.2 i _ hj
 exact ⟨j2, hj2⟩⟩
theorem kid1_len (l : List Prt) (up : Int) : (kid1 l up).length = l.length := by unfold kid1; split <;> simp
theorem kid1_ext (l : List Prt) (up : Int) : Ext l (kid1 l up) := by
 refine ⟨by rw [kid1_len]; exact Nat.le_refl _, fun k p h => ?_⟩
 unfold kid1
 split
 ·
  rw [List.getElem?_modify, h]
  by_cases e : up.toNat = k
  ·
   exact ⟨p.kids + 1, by simp [e]⟩
  ·
   exact ⟨p.kids, by simp [e]⟩
 ·
  exact ⟨p.kids, h⟩
theorem snoc_ext (l : List Prt) (p : Prt) : Ext l (l ++ [p]) := ⟨by simp, fun k q h => ⟨q.kids, by
 have := (List.getElem?_eq_some_iff.1 h).1
 rw [List.getElem?_append_left this, h]⟩⟩
theorem setK_len (l : List Prt) (i k : Nat) : (setK l i k).length = l.length := by unfold setK; simp
theorem setK_get (l : List Prt) (i k j : Nat) : (setK l i k)[j]? = (l[j]?).map (fun p => if i = j then { p with kind := k } else p) := by
 unfold setK
 rw [List.getElem?_modify]
 cases l[j]? with
 | none => rfl
 | some p => by_cases e : i = j <;> simp [e]
theorem kid1_get (l : List Prt) (up : Int) (j : Nat) {p : Prt} (h : (kid1 l up)[j]? = some p) : ∃ q, l[j]? = some q ∧ ∃ c, p = { q with kids := c } := by
 unfold kid1 at h
 split at h
 ·
  rw [List.getElem?_modify] at h
  cases hl : l[j]? with
  | none => rw [hl] at h; simp at h
  | some q =>
   rw [hl] at h
   simp only [Option.map_eq_map, Option.map_some, Option.some.injEq] at h
   by_cases e : up.toNat = j
   ·
    rw [if_pos e] at h; exact ⟨q, rfl, _, h.symm⟩
   ·
    rw [if_neg e] at h; exact ⟨q, rfl, q.kids, h.symm⟩
 ·
  exact ⟨p, h, p.kids, rfl⟩
def Lies (l : List Prt) (i frm body tu : Nat) (up : Int) : Prop := ∃ q, l[i]? = some q ∧ q.frm = frm ∧ q.body = body ∧ q.tu = tu ∧ q.up = up
theorem Lies.ext {l l2 : List Prt} {i a b c : Nat} {up : Int} (h : Lies l i a b c up) (k : Ext l l2) : Lies l2 i a b c up := by
 obtain ⟨q, h1, h2, h3, h4, h5⟩ := h
 obtain ⟨j, hj⟩ := k.2 i q h1
 exact ⟨_, hj, h2, h3, h4, h5⟩
theorem Lies.set {l : List Prt} {i a b c j k : Nat} {up : Int} (h : Lies l i a b c up) : Lies (setK l j k) i a b c up := by
 obtain ⟨q, h1, h2, h3, h4, h5⟩ := h
 rw [Lies]
 rw [setK_get, h1]
 by_cases e : j = i
 ·
  exact ⟨{ q with kind := k }, by simp [e], h2, h3, h4, h5⟩
 ·
  exact ⟨q, by simp [e], h2, h3, h4, h5⟩
theorem setK_ext {l l2 : List Prt} {i k : Nat} (h : Ext l l2) (hi : l.length ≤ i) : Ext l (setK l2 i k) := by
 refine ⟨by rw [setK_len]; exact h.1, fun j p hp => ?_⟩
 obtain ⟨c, hc⟩ := h.2 j p hp
 have hj := (List.getElem?_eq_some_iff.1 hp).1
 refine ⟨c, ?_⟩
 rw [setK_get, hc]
 simp [show i ≠ j by omega]
theorem set1_ok {N : Nat} {l : List Prt} (h : AllOk N l) (i : Nat) : AllOk N (setK l i 1) := by
 intro k p hp
 rw [setK_get] at hp
 cases hl : l[k]? with
 | none => rw [hl] at hp; cases hp
 | some q =>
  rw [hl] at hp
  simp only [Option.map_some, Option.some.injEq] at hp
  obtain ⟨h1, h2, h3, h4, h5, h6⟩ := h k q hl
  have hu : ∀ u, (setK l i 1)[q.up.toNat]? = some u → u.kind = 2 → ∃ u2, l[q.up.toNat]? = some u2 ∧ u2.kind = 2 ∧ u2.body = u.body ∧ u2.tu = u.tu := by
   intro u hu hk
   rw [setK_get] at hu
   cases hl2 : l[q.up.toNat]? with
   | none => rw [hl2] at hu; cases hu
   | some u2 =>
    rw [hl2] at hu
    simp only [Option.map_some, Option.some.injEq] at hu
    split at hu
    ·
     subst hu; simp at hk
    ·
     subst hu; exact ⟨u2, rfl, hk, rfl, rfl⟩
  by_cases e : i = k
  ·
   rw [if_pos e] at hp
   subst hp
   refine ⟨h1, h2, h3, by show (1 : Nat) ≤ 2; omega, h5, fun hup u hu2 hk => ?_⟩
   obtain ⟨u2, e1, e2, e3, e4⟩ := hu u hu2 hk
   have := h6 hup u2 e1 e2
   exact ⟨this.1.trans e3, this.2.trans e4⟩
  ·
   rw [if_neg e] at hp
   subst hp
   refine ⟨h1, h2, h3, h4, h5, fun hup u hu2 hk => ?_⟩
   obtain ⟨u2, e1, e2, e3, e4⟩ := hu u hu2 hk
   have := h6 hup u2 e1 e2
   exact ⟨this.1.trans e3, this.2.trans e4⟩
theorem set2_ok {N : Nat} {l : List Prt} (h : AllOk N l) {i : Nat} (hi : l.length = i + 1) : AllOk N (setK l i 2) := by
 intro k p hp
 rw [setK_get] at hp
 cases hl : l[k]? with
 | none => rw [hl] at hp; cases hp
 | some q =>
  rw [hl] at hp
  simp only [Option.map_some, Option.some.injEq] at hp
  have hk := (List.getElem?_eq_some_iff.1 hl).1
  obtain ⟨h1, h2, h3, h4, h5, h6⟩ := h k q hl
  have hne : 0 ≤ q.up → i ≠ q.up.toNat := fun hup => by omega
  have hu : 0 ≤ q.up → ∀ u, (setK l i 2)[q.up.toNat]? = some u → l[q.up.toNat]? = some u := by
   intro hup u hu
   rw [setK_get] at hu
   cases hl2 : l[q.up.toNat]? with
   | none => rw [hl2] at hu; cases hu
   | some u2 =>
    rw [hl2] at hu
    simp only [Option.map_some, Option.some.injEq] at hu
    rw [if_neg (hne hup)] at hu
    rw [hu]
  by_cases e : i = k
  ·
   rw [if_pos e] at hp
   subst hp
   exact ⟨h1, h2, h3, by show (2 : Nat) ≤ 2; omega, h5, fun hup u hu2 hk2 => h6 hup u (hu hup u hu2) hk2⟩
  ·
   rw [if_neg e] at hp
   subst hp
   exact ⟨h1, h2, h3, h4, h5, fun hup u hu2 hk2 => h6 hup u (hu hup u hu2) hk2⟩
theorem add_ok {N : Nat} {l : List Prt} {p : Prt} (h : AllOk N l) (h1 : p.frm ≤ p.body) (h2 : p.body ≤ p.tu) (h3 : p.tu ≤ N) (h4 : p.kind = 0) (h5 : p.up < (l.length : Int)) (h6 : 0 ≤ p.up → ∀ u, l[p.up.toNat]? = some u → u.kind = 2 → p.frm = u.body ∧ p.tu = u.tu) (up : Int) : AllOk N (kid1 (l ++ [p]) up) := by
 intro k q hq
 obtain ⟨q2, hq2, c, rfl⟩ := kid1_get _ _ _ hq
 have hu : ∀ (j : Nat) (u : Prt), j < l.length → (kid1 (l ++ [p]) up)[j]? = some u → ∃ u2, l[j]? = some u2 ∧ u2.kind = u.kind ∧ u2.body = u.body ∧ u2.tu = u.tu := by
  intro j u hj hu
  obtain ⟨u2, hu2, c2, rfl⟩ := kid1_get _ _ _ hu
  rw [List.getElem?_append_left hj] at hu2
  exact ⟨u2, hu2, rfl, rfl, rfl⟩
 by_cases hk : k < l.length
 ·
  rw [List.getElem?_append_left hk] at hq2
  obtain ⟨g1, g2, g3, g4, g5, g6⟩ := h k q2 hq2
  refine ⟨g1, g2, g3, g4, g5, fun hup u hu1 hk2 => ?_⟩
  have hup : 0 ≤ q2.up := hup
  obtain ⟨u2, e1, e2, e3, e4⟩ := hu q2.up.toNat u (by omega) hu1
  have := g6 hup u2 e1 (e2.trans hk2)
  exact ⟨this.1.trans e3, this.2.trans e4⟩
 ·
  have hkl : k = l.length := by
   have := (List.getElem?_eq_some_iff.1 hq2).1
   simp at this
   omega
  subst hkl
  rw [List.getElem?_concat_length] at hq2
  cases hq2
  refine ⟨h1, h2, h3, by show p.kind ≤ 2; omega, h5, fun hup u hu1 hk2 => ?_⟩
  have hup : 0 ≤ p.up := hup
  obtain ⟨u2, e1, e2, e3, e4⟩ := hu p.up.toNat u (by omega) hu1
  have := h6 hup u2 e1 (e2.trans hk2)
  exact ⟨this.1.trans e3, this.2.trans e4⟩
theorem fnd_ok (s : Tx) : ∀ (n : Nat) (l : List Prt) (frm tu : Nat) (up : Int) (dg : Bool), frm ≤ tu → tu ≤ s.length → l.length ≤ 64 → AllOk s.length l → up < (l.length : Int) → (0 ≤ up → ∀ u, l[up.toNat]? = some u → u.kind = 2 → frm = u.body ∧ tu = u.tu) →
  AllOk s.length (fndQ s n l frm tu up dg) ∧ Ext l (fndQ s n l frm tu up dg) ∧ (fndQ s n l frm tu up dg).length ≤ 64 ∧ (l.length < 64 → Lies (fndQ s n l frm tu up dg) l.length frm (frm + splitQ (sliceQ s frm tu)) tu up) := by
 intro n
 induction n with
 | zero =>
  intro l frm tu up dg hft hts hl hok hup hu
  unfold fndQ
  by_cases h64 : l.length = 64
  ·
   rw [if_pos h64]; exact ⟨hok, Ext.refl l, hl, fun h => absurd h (by omega)⟩
  rw [if_neg h64]
  have hsp : splitQ (sliceQ s frm tu) ≤ tu - frm := by have := splitQ_le (sliceQ s frm tu); rw [sliceQ_len hts] at this; exact this
  refine ⟨add_ok hok (by dsimp only; omega) (by dsimp only; omega) hts rfl hup hu up, (snoc_ext _ _).trans (kid1_ext _ _), by rw [kid1_len]; simp; omega, fun _ => ?_⟩
  have : Lies (l ++ [(⟨0, frm, frm + splitQ (sliceQ s frm tu), tu, mediaQ (sliceQ s frm tu) dg, up, 0⟩ : Prt)]) l.length frm (frm + splitQ (sliceQ s frm tu)) tu up := ⟨_, List.getElem?_concat_length .., rfl, rfl, rfl, rfl⟩
  exact this.ext (kid1_ext _ _)
 | succ n ih =>
  intro l frm tu up dg hft hts hl hok hup hu
  unfold fndQ
  by_cases h64 : l.length = 64
  ·
   rw [if_pos h64]; exact ⟨hok, Ext.refl l, hl, fun h => absurd h (by omega)⟩
  rw [if_neg h64]
  have hsp : splitQ (sliceQ s frm tu) ≤ tu - frm := by have := splitQ_le (sliceQ s frm tu); rw [sliceQ_len hts] at this; exact this
  have hok1 := add_ok (p := ⟨0, frm, frm + splitQ (sliceQ s frm tu), tu, mediaQ (sliceQ s frm tu) dg, up, 0⟩) hok (by dsimp only; omega) (by dsimp only; omega) hts rfl hup hu up
  have hex1 : Ext l (kid1 (l ++ [(⟨0, frm, frm + splitQ (sliceQ s frm tu), tu, mediaQ (sliceQ s frm tu) dg, up, 0⟩ : Prt)]) up) := (snoc_ext _ _).trans (kid1_ext _ _)
  have hlen1 : (kid1 (l ++ [(⟨0, frm, frm + splitQ (sliceQ s frm tu), tu, mediaQ (sliceQ s frm tu) dg, up, 0⟩ : Prt)]) up).length = l.length + 1 := by rw [kid1_len]; simp
  have hli1 : Lies (kid1 (l ++ [(⟨0, frm, frm + splitQ (sliceQ s frm tu), tu, mediaQ (sliceQ s frm tu) dg, up, 0⟩ : Prt)]) up) l.length frm (frm + splitQ (sliceQ s frm tu)) tu up := by
   have : Lies (l ++ [(⟨0, frm, frm + splitQ (sliceQ s frm tu), tu, mediaQ (sliceQ s frm tu) dg, up, 0⟩ : Prt)]) l.length frm (frm + splitQ (sliceQ s frm tu)) tu up := ⟨_, List.getElem?_concat_length .., rfl, rfl, rfl, rfl⟩
   exact this.ext (kid1_ext _ _)
  dsimp only
  generalize hm : mediaQ (sliceQ s frm tu) dg = m at *
  generalize hbd : frm + splitQ (sliceQ s frm tu) = body at *
  generalize kid1 (l ++ [(⟨0, frm, body, tu, m, up, 0⟩ : Prt)]) up = l1 at *
  by_cases hlet : IsLet m
  ·
   rw [if_pos hlet]
   have hex2 := setK_ext (k := 2) hex1 (Nat.le_refl _)
   have hlen2 : (setK l1 l.length 2).length = l.length + 1 := by rw [setK_len, hlen1]
   obtain ⟨r1, r2, r3, _⟩ := ih (setK l1 l.length 2) body tu (l.length : Int) false (by omega) hts (by omega) (set2_ok hok1 hlen1) (by omega) (fun _ u hu1 _ => by
    obtain ⟨q, e1, e2, e3, e4, e5⟩ := (hli1.set (j := l.length) (k := 2))
    rw [Int.toNat_natCast, e1] at hu1
    cases hu1
    exact ⟨e3.symm, e4.symm⟩)
   exact ⟨r1, hex2.trans r2, r3, fun _ => (hli1.set).ext r2⟩
  ·
   rw [if_neg hlet]
   split
   ·
    exact ⟨hok1, hex1, by omega, fun _ => hli1⟩
   ·
    have hsps := spansQ_ok (s := s) (bd := (findQ m.ps bndT).1) (frm := body) (tu := tu) (by omega) hts
    generalize spansQ s (findQ m.ps bndT).1 body tu = sp at *
    have key : ∀ (sp : List (Nat × Nat)) (acc : List Prt), (∀ x ∈ sp, body ≤ x.1 ∧ x.1 ≤ x.2 ∧ x.2 ≤ tu) → AllOk s.length acc → Ext l acc → acc.length ≤ 64 → l.length < acc.length → Lies acc l.length frm body tu up →
      (AllOk s.length (sp.foldl (fun acc x => fndQ s n (setK acc l.length 1) x.1 x.2 (l.length : Int) (decide (m.sub = digT))) acc) ∧ Ext l (sp.foldl (fun acc x => fndQ s n (setK acc l.length 1) x.1 x.2 (l.length : Int) (decide (m.sub = digT))) acc) ∧ (sp.foldl (fun acc x => fndQ s n (setK acc l.length 1) x.1 x.2 (l.length : Int) (decide (m.sub = digT))) acc).length ≤ 64 ∧ Lies (sp.foldl (fun acc x => fndQ s n (setK acc l.length 1) x.1 x.2 (l.length : Int) (decide (m.sub = digT))) acc) l.length frm body tu up) := by
     intro sp
     induction sp with
     | nil => exact fun acc _ a b c _ d => ⟨a, b, c, d⟩
     | cons x r ihs =>
      intro acc hb ha he hle hlt hli
      have hx := hb x (by simp)
      have hk : (setK acc l.length 1).length = acc.length := setK_len _ _ _
      obtain ⟨r1, r2, r3, _⟩ := ih (setK acc l.length 1) x.1 x.2 (l.length : Int) (decide (m.sub = digT)) hx.2.1 (by omega) (by omega) (set1_ok ha _) (by omega) (fun _ u hu1 hk2 => by
       rw [Int.toNat_natCast, setK_get] at hu1
       cases hc : acc[l.length]? with
       | none => rw [hc] at hu1; cases hu1
       | some u2 =>
        rw [hc] at hu1
        simp only [Option.map_some, if_true, Option.some.injEq] at hu1
        subst hu1
        simp at hk2)
      rw [List.foldl_cons]
      exact ihs _ (fun y hy => hb y (by simp [hy])) r1 ((setK_ext he (Nat.le_refl _)).trans r2) r3 (by have := r2.1; omega) ((hli.set).ext r2)
    obtain ⟨r1, r2, r3, r4⟩ := key sp l1 hsps hok1 hex1 (by omega) (by omega) hli1
    exact ⟨r1, r2, r3, fun _ => r4⟩
theorem parts_ok (s : Tx) : AllOk s.length (partsQ s) ∧ (partsQ s).length ≤ 64 ∧ Lies (partsQ s) 0 0 (splitQ s) s.length (-1) := by
 obtain ⟨h1, _, h3, h4⟩ := fnd_ok s 6 [] 0 s.length (-1) false (Nat.zero_le _) (Nat.le_refl _) (by simp) (fun k p h => by simp at h) (by simp) (fun h => absurd h (by decide))
 have h4 := h4 (by simp)
 have hs0 : sliceQ s 0 s.length = s := by unfold sliceQ; simp
 rw [hs0, Nat.zero_add] at h4
 exact ⟨h1, h3, h4⟩
end Go.Proofs.YtenbjndldenkfaaGreatDoor
namespace Go.Proofs.YtenbjndldenkfaaGreatDoor
open Go.RowKit Go.Sort
theorem bytes_of (l : Tx) : Lib.bytesOf (l.map fun u : UInt8 => ((u.toNat : Nat) : Int)) = l := by
 unfold Lib.bytesOf
 rw [List.map_map]
 conv => rhs; rw [← List.map_id l]
 exact List.map_congr_left fun c _ => by simp
theorem idxBytes_spec (A : Option Addr) (c : Nat) (l : Tx) (x : UInt8) (w : World) (h : Rd w 1 A l.length (U8 l)) (h0 : l ≠ []) :
  Calls Tryz.prog 87 #[.slice A l.length c, .int .u8 ((x.toNat : Nat) : Int)] w fun e w' => e = .returned (.int .i64 (Lib.indexByte l x)) ∧ w = w' := by
 obtain ⟨b, o, rfl, _, hc⟩ := h.plain (List.length_pos_iff.2 h0)
 have h := Tryz.bytes_IndexByte b o l.length c (l.map fun u : UInt8 => ((u.toNat : Nat) : Int)) ((x.toNat : Nat) : Int) w (by simp) (fun i hi => by
  have h1 : (U8 l)[i]? = some (.int .u8 ((l[i].toNat : Nat) : Int)) := by simp [U8, hi]
  rw [hc i _ h1]
  congr 2
  simp [List.getD_eq_getElem?_getD, hi])
 rw [bytes_of, show (((x.toNat : Nat) : Int)).toNat.toUInt8 = x by simp] at h
 exact h.mono fun e w' ⟨h, hw⟩ => ⟨h, hw.symm⟩
def obN (A : Option Addr) (n : Nat) : List Nat := if n = 0 then [] else ob A
theorem obN_mem {A : Option Addr} {n x : Nat} (h : x ∈ obN A n) : 0 < n ∧ x ∈ ob A := by
 unfold obN at h
 split at h
 ·
  simp at h
 ·
  exact ⟨by omega, h⟩
theorem obN_of {A : Option Addr} {n x : Nat} (hn : 0 < n) (h : x ∈ ob A) : x ∈ obN A n := by
 unfold obN
 rw [if_neg (by omega)]
 exact h
theorem U8_len (l : Tx) : (U8 l).length = l.length := by simp [U8]
theorem U8_cut {w : World} {A : Option Addr} {c : Nat} {s : Tx} (h : Rd w 1 A s.length (U8 s)) {a b : Nat} (h1 : a ≤ b) (h2 : b ≤ s.length) (hc : s.length ≤ c) : Rd w 1 (cutA A c a 1) (sliceQ s a b).length (U8 (sliceQ s a b)) := by
 have e := h.cut (l := a) (r := b) (cap := c) h1 h2 hc
 rw [sliceQ_len h2]
 have e2 : U8 (sliceQ s a b) = ((U8 s).drop (a * 1)).take ((b - a) * 1) := by simp [U8, sliceQ, List.map_take, List.map_drop]
 rw [e2]
 exact e
theorem U8_at {w : World} {A : Option Addr} {s : Tx} {k : Nat} (h : Rd w 1 A s.length (U8 s)) (hk : k < s.length) : ∃ ad, A = some ad ∧ w.cell? (ad.add k) = some (.int .u8 ((s[k].toNat : Nat) : Int)) := by
 obtain ⟨ad, u, h1, h2, h3⟩ := h.at1 hk
 refine ⟨ad, h1, ?_⟩
 rw [h3, ← h2]
 simp [U8, hk]
theorem slice_end (s : Tx) (a : Nat) : sliceQ s a s.length = s.drop a := by unfold sliceQ; rw [List.take_of_length_le (by simp)]
theorem offs_app : ∀ (a b : List Tx) (o : Nat), offsF o (a ++ b) = offsF o a ++ offsF (o + a.flatten.length) b
 | [], b, o => rfl
 | l :: a, b, o => by
  show (o, o + l.length) :: offsF (o + l.length) (a ++ b) = _
  rw [offs_app a b]
  show _ = (o, o + l.length) :: (offsF (o + l.length) a ++ _)
  rw [List.flatten_cons, List.length_append, Nat.add_assoc]
theorem offs_pre : ∀ {ls : List Tx} {o : Nat} {pre : List (Nat × Nat)} {x : Nat × Nat}, (pre ++ [x]) <+: offsF o ls → ∃ a l b, ls = a ++ l :: b ∧ pre = offsF o a ∧ x = (o + a.flatten.length, o + a.flatten.length + l.length)
 | [], o, pre, x, h => by
  have := h.length_le
  simp [offsF] at this
 | l :: r, o, [], x, h => by
  obtain ⟨t, ht⟩ := h
  simp only [offsF, List.nil_append, List.singleton_append, List.cons.injEq] at ht
  exact ⟨[], l, r, rfl, rfl, by simpa using ht.1⟩
 | l :: r, o, y :: pre, x, h => by
  obtain ⟨t, ht⟩ := h
  simp only [offsF, List.cons_append, List.cons.injEq] at ht
  obtain ⟨a, l2, b, h1, h2, h3⟩ := offs_pre (ls := r) (o := o + l.length) (pre := pre) (x := x) ⟨t, by simpa using ht.2⟩
  refine ⟨l :: a, l2, b, by rw [h1]; rfl, by rw [h2, ht.1]; rfl, ?_⟩
  rw [h3, List.flatten_cons, List.length_append]
  simp [Nat.add_assoc]
theorem slice_at {s : Tx} {a b : List Tx} {l : Tx} (h : linesF s = a ++ l :: b) : sliceQ s a.flatten.length (a.flatten.length + l.length) = l ∧ a.flatten.length + l.length ≤ s.length := by
 have hs := linesF_flat s
 rw [h, List.flatten_append, List.flatten_cons] at hs
 refine ⟨?_, by rw [← hs]; simp⟩
 unfold sliceQ
 rw [← hs, List.drop_left' rfl, show a.flatten.length + l.length - a.flatten.length = l.length by omega, List.take_left' rfl]
theorem splitL_at {a b : List Tx} {l : Tx} (h : ∀ x ∈ a, ¬ EmptyL x) (hl : EmptyL l) : splitL (a ++ l :: b) = a.flatten.length + l.length := by
 induction a with
 | nil => show splitL (l :: b) = _; rw [splitL, if_pos hl]; simp
 | cons x r ih =>
  show splitL (x :: (r ++ l :: b)) = _
  rw [splitL, if_neg (h x (by simp)), ih fun y hy => h y (by simp [hy]), List.flatten_cons, List.length_append]
  omega
theorem splitL_none : ∀ {a : List Tx}, (∀ x ∈ a, ¬ EmptyL x) → splitL a = a.flatten.length
 | [], _ => rfl
 | x :: r, h => by
  rw [splitL, if_neg (h x (by simp)), splitL_none fun y hy => h y (by simp [hy]), List.flatten_cons, List.length_append]
set_option maxRecDepth 100000 in
theorem empty_spec (A : Option Addr) (c : Nat) (l : Tx) (w : World) (h : Rd w 1 A l.length (U8 l)) : Calls Tryz.prog 52 #[.slice A l.length c] w fun e w' => e = .returned (.bool (decide (EmptyL l))) ∧ w = w' := by
 refine VC.calls (nt := 11) (res := #[.tmp 2]) Tryz.func52 rfl Tryz.ntmps52 Tryz.results52 rfl ?_
 refine js (jr (ja ?_))
 refine jo (jn (jv1 0 ?_))
 refine js ?_
 refine VC.split1 [] .nil 2 (.bool (decide (EmptyL l))) ?_ ?_
 ·
  refine jr ?_
  refine jm ?_
  refine Ops.r (Run.strOfT rfl Tryz.underlying22 Tryz.underlying5 Tryz.underlying9 h) rfl ?_
  refine Ops.r (Run.eqlT rfl rfl) rfl ?_
  by_cases hs5 : l = [10]
  ·
   refine jm ?_
   refine ju ?_
   refine ju ?_
   refine ju ?_
   refine Ops.r (Run.pickT rfl rfl au) rfl ?_
   refine ja ?_
   refine jo ?_
   refine jn ⟨(js1 (jc (by (rw [show decide (EmptyL l) = decide (l = [10] ∨ l = [13, 10]) from decide_eq_decide.2 Iff.rfl]; simp [*])))), rfl⟩
  ·
   refine jm ?_
   refine jg ?_
   refine Ops.rg rfl au (Run.strOfT rfl Tryz.underlying22 Tryz.underlying5 Tryz.underlying9 h) rfl ?_
   refine Ops.rg rfl au (Run.eqlT rfl rfl) rfl ?_
   by_cases hs9 : l = [13, 10]
   ·
    refine Ops.r (Run.pickF rfl rfl au) rfl ?_
    refine ja ?_
    refine jo ?_
    refine jn ⟨(js1 (jc (by (rw [show decide (EmptyL l) = decide (l = [10] ∨ l = [13, 10]) from decide_eq_decide.2 Iff.rfl]; simp [*])))), rfl⟩
   ·
    refine Ops.r (Run.pickF rfl rfl au) rfl ?_
    refine ja ?_
    refine jo ?_
    refine jn ⟨(js1 (jc (by (rw [show decide (EmptyL l) = decide (l = [10] ∨ l = [13, 10]) from decide_eq_decide.2 Iff.rfl]; simp [*])))), rfl⟩
 ·
  intro Γ hΓ
  refine jn (VC.sub _ hΓ ?_)
  refine jt ?_
  refine end1 rfl ?_
  exact ⟨rfl, rfl⟩
set_option maxRecDepth 100000 in
theorem hblank_spec (x : UInt8) (w : World) : Calls Tryz.prog 53 #[.int .u8 ((x.toNat : Nat) : Int)] w fun e w' => e = .returned (.bool (decide (Bl x))) ∧ w = w' := by
 have hb := bl_nat x
 refine VC.calls (nt := 9) (res := #[.tmp 2]) Tryz.func53 rfl Tryz.ntmps53 Tryz.results53 rfl ?_
 refine js (jr (ja ?_))
 refine jo (jn (jv1 0 ?_))
 refine js ?_
 refine VC.split1 [] .nil 2 (.bool (decide (Bl x))) ?_ ?_
 ·
  refine jr ?_
  refine jm ?_
  refine Ops.r (Run.bin rfl rfl (Bin.eqlN _ 32)) rfl ?_
  by_cases hs4 : x.toNat = 32
  ·
   refine jm ?_
   refine ju ?_
   refine ju ?_
   refine Ops.r (Run.pickT rfl rfl au) rfl ?_
   refine ja ?_
   refine jo ?_
   refine jn ⟨(js1 (jc (by (rw [show decide (Bl x) = decide (x.toNat = 32 ∨ x.toNat = 9) from decide_eq_decide.2 hb]; simp [*])))), rfl⟩
  ·
   refine jm ?_
   refine jg ?_
   refine Ops.rg rfl au (Run.bin rfl rfl (Bin.eqlN _ 9)) rfl ?_
   by_cases hs7 : x.toNat = 9
   ·
    refine Ops.r (Run.pickF rfl rfl au) rfl ?_
    refine ja ?_
    refine jo ?_
    refine jn ⟨(js1 (jc (by (rw [show decide (Bl x) = decide (x.toNat = 32 ∨ x.toNat = 9) from decide_eq_decide.2 hb]; simp [*])))), rfl⟩
   ·
    refine Ops.r (Run.pickF rfl rfl au) rfl ?_
    refine ja ?_
    refine jo ?_
    refine jn ⟨(js1 (jc (by (rw [show decide (Bl x) = decide (x.toNat = 32 ∨ x.toNat = 9) from decide_eq_decide.2 hb]; simp [*])))), rfl⟩
 ·
  intro Γ hΓ
  refine jn (VC.sub _ hΓ ?_)
  refine jt ?_
  refine end1 rfl ?_
  exact ⟨rfl, rfl⟩
set_option maxRecDepth 100000 in
theorem hlines_iter (q : Tx) (A : Option Addr) (c g1 : Nat) (hs : q.length ≤ 1000000) (hc : q.length ≤ c) :
  Iter Tryz.prog 86 #[.pointer (some ⟨g1, 0, none⟩)] (fun x : Nat × Nat => #[.int .i64 ((x.1 : Nat) : Int), .int .i64 ((x.2 : Nat) : Int)]) [] (g1 :: obN A q.length) (fun w => Blk w g1 22 #[.slice A q.length c] ∧ Rd w 1 A q.length (U8 q)) (offsF 0 (linesF q)) := by
 intro l J Jx w hJ hJx hK hY h0
 obtain ⟨hb1, hrd⟩ := hK
 refine VC.calls (nt := 28) (res := #[]) Tryz.func86 rfl Tryz.ntmps86 Tryz.results86 rfl ?_
 refine js (jr ?_)
 refine Ops.r (v := .int .i64 ((0 : Nat) : Int)) (Run.asg rfl) rfl ?_
 refine jo (jn (jb ?_))
 refine VC.loop (σ := Nat × List (Nat × Nat)) (fun s1 => [(0, .func (.yield l) #[] #[]), (1, .pointer (some ⟨g1, 0, none⟩)), (3, .int .i64 ((s1.1 : Nat) : Int))]) (fun s1 wr => s1.1 ≤ q.length ∧ offsF 0 (linesF q) = s1.2 ++ offsF s1.1 (linesF (q.drop s1.1)) ∧ Blk wr g1 22 #[.slice A q.length c] ∧ Rd wr 1 A q.length (U8 q) ∧ J s1.2 wr) (fun s1 => q.length - s1.1) (0, []) (js3 rfl rfl rfl) ⟨by omega, rfl, hb1, hrd, h0⟩ ?_
 rintro ⟨i, pre⟩ wr ⟨hi, hsp, hb1, hrd, hj⟩
 dsimp only at hi hsp hj ⊢
 refine js (js (jr (jm ?_)))
 refine Ops.r (Run.load rfl Tryz.isAgg22 (hb1.cell 0)) rfl ?_
 refine Ops.r (Run.lenS rfl Tryz.underlying22) rfl ?_
 refine Ops.r (Run.bin rfl rfl (Bin.lssN _ _)) rfl ?_
 refine jo (jn (jv4 0 1 3 9 ?_))
 refine VC.condD rfl (fun hc1 => ?_) (fun hc1 => ?_)
 ·
  have hr0 : q.drop i ≠ [] := fun h => by have := congrArg List.length h; simp at this; omega
  have hcut := U8_cut hrd (show i ≤ q.length by omega) (Nat.le_refl _) hc
  rw [slice_end] at hcut
  have hdl : (q.drop i).length = q.length - i := by simp
  refine jk (jn (jv3 0 1 3 ?_))
  refine jb (js (jr ?_))
  refine Ops.r (Run.load rfl Tryz.isAgg22 (hb1.cell 0)) rfl ?_
  refine Ops.r (Run.lenS rfl Tryz.underlying22) rfl ?_
  refine ja ?_
  refine jo (jn (jv4 0 1 3 4 ?_))
  refine js (js (jr ?_))
  refine Ops.r (Run.load rfl Tryz.isAgg22 (hb1.cell 0)) rfl ?_
  refine jm ?_
  refine Ops.r (Run.sliceS i q.length rfl Tryz.underlying22 Tryz.sizeOf5 (evB.some_ rfl) evB.none_ (by omega) hc) rfl ?_
  refine Ops.cl (Enters.fn (evs.cons rfl (evs.cons rfl evs.nil)) Tryz.call87) ((by rw [← hdl]; exact idxBytes_spec _ _ (q.drop i) 10 _ hcut hr0)) rfl ?_
  rintro e _ ⟨rfl, rfl⟩
  refine ⟨_, rfl, ?_⟩
  refine ja ?_
  refine jo (jn (jv5 0 1 3 4 5 ?_))
  refine js (jr (jm ?_))
  refine Ops.r (Run.bin rfl rfl (Bin.geq _ 0)) rfl ?_
  refine jo (jn (jv6 0 1 3 4 5 17 ?_))
  refine VC.meet (σ := Nat) (fun s1 => [(0, .func (.yield l) #[] #[]), (1, .pointer (some ⟨g1, 0, none⟩)), (3, .int .i64 ((i : Nat) : Int)), (4, .int .i64 ((s1 : Nat) : Int))]) (fun s1 wr2 => i < s1 ∧ s1 ≤ q.length ∧ offsF i (linesF (q.drop i)) = (i, s1) :: offsF s1 (linesF (q.drop s1)) ∧ wr = wr2) ?_ ?_
  ·
   refine VC.condD rfl (fun hc2 => ?_) (fun hc2 => ?_)
   ·
    obtain ⟨a, b, hab, hna, hix⟩ := (idxB_cases (q.drop i) 10).resolve_left (fun h => by rw [h.1] at hc2; omega)
    rw [hix]
    have hal : i + a.length + 1 ≤ q.length := by
     have := congrArg List.length hab
     simp at this
     omega
    have hcutl : offsF i (linesF (q.drop i)) = (i, i + a.length + 1) :: offsF (i + a.length + 1) (linesF (q.drop (i + a.length + 1))) := by
     have e : q.drop (i + a.length + 1) = b := by rw [show i + a.length + 1 = i + (a.length + 1) by omega, ← List.drop_drop, hab, List.drop_append, List.drop_eq_nil_of_le (by omega)]; simp
     rw [e, hab, linesF_cut b hna]
     show (i, i + (a ++ [10]).length) :: offsF (i + (a ++ [10]).length) _ = _
     rw [List.length_append]
     rfl
    refine jr (jm ?_)
    refine jm ?_
    refine Ops.r (Run.bin rfl rfl (Bin.add_i64 i a.length (by omega))) rfl ?_
    refine Ops.r (Run.bin rfl rfl (Bin.add_i64 (i + a.length) 1 (by omega))) rfl ?_
    refine ja ?_
    refine jo ?_
    refine jn ⟨(i + a.length + 1), (js4 rfl rfl rfl rfl), ?_⟩
    exact ⟨by omega, hal, hcutl, rfl⟩
   ·
    have hna : (10 : UInt8) ∉ q.drop i := by
     rcases idxB_cases (q.drop i) 10 with ⟨_, h⟩ | ⟨a, b, _, _, hi⟩
     ·
      exact h
     ·
      rw [hi] at hc2; omega
    have hcutl : offsF i (linesF (q.drop i)) = (i, q.length) :: offsF q.length (linesF (q.drop q.length)) := by
     rw [linesF_last hr0 hna, List.drop_length]
     show [(i, i + (q.drop i).length)] = _
     rw [hdl, show i + (q.length - i) = q.length by omega]
     rfl
    refine jk ?_
    refine jn ⟨q.length, (js4 rfl rfl rfl rfl), ?_⟩
    exact ⟨hc1, Nat.le_refl _, hcutl, rfl⟩
  ·
   rintro t _ ⟨hit, htl, hcutl, rfl⟩ Γ hΓ
   have hpre : (pre ++ [(i, t)]) <+: offsF 0 (linesF q) := ⟨offsF t (linesF (q.drop t)), by rw [hsp, hcutl]; simp⟩
   refine jn (VC.sub _ hΓ ?_)
   refine js (js (jr (jm ?_)))
   refine jm ?_
   refine jm ?_
   refine Ops.yield rfl rfl (evs.cons rfl (evs.cons rfl evs.nil)) ((by simpa using hY pre (i, t) wr hj hpre : YieldsTo Tryz.prog l #[_, _] wr _)) rfl rfl ?_
   rintro e w1 ⟨hoff, hR0⟩
   obtain ⟨yb, rfl, hR⟩ : ∃ yb : Bool, e = .returned (.bool yb) ∧ ((yb = true ∧ J (pre ++ [(i, t)]) w1) ∨ (yb = false ∧ Jx (pre ++ [(i, t)]) w1)) := by
    rcases hR0 with ⟨rfl, h⟩ | ⟨rfl, h⟩
    ·
     exact ⟨true, rfl, .inl ⟨rfl, h⟩⟩
    ·
     exact ⟨false, rfl, .inr ⟨rfl, h⟩⟩
   refine ⟨_, rfl, ?_⟩
   have hb1 := hoff.blk hb1 (by simp)
   have hrd := hoff.rd hrd (fun hn x hx => List.mem_cons_of_mem _ (obN_of hn hx))
   refine Ops.r (Run.not rfl) rfl ?_
   refine jo (jn (jv4 0 1 4 26 ?_))
   refine VC.condB rfl (fun hc3 => ?_) (fun hc3 => ?_)
   ·
    refine jt ?_
    refine thenQ_r (blockQ_r (thenQ_r (blockQ_r (end0 ?_))))
    exact ⟨⟨_, rfl⟩, .inr ⟨_, (hR.resolve_left (fun h => by rw [h.1] at hc3; simp at hc3)).2⟩⟩
   ·
    refine jk (jn (jv3 0 1 4 ?_))
    refine jr (jm ?_)
    refine ja ?_
    refine jo ?_
    refine blockQ_n (jn ⟨(t, pre ++ [(i, t)]), (js3 rfl rfl rfl), ?_, ?_⟩)
    ·
     exact ⟨htl, by rw [hsp, hcutl]; simp, hb1, hrd, (hR.resolve_right (fun h => by rw [h.1] at hc3; simp at hc3)).2⟩
    ·
     simp only; omega
 ·
  have hil : i = q.length := by omega
  have hfin : offsF 0 (linesF q) = pre := by rw [hsp, hil, List.drop_length]; simp [linesF, offsF]
  refine jx ?_
  refine thenQ_x (thenQ_x (blockQ_x ?_))
  refine end0n ?_
  exact ⟨⟨_, rfl⟩, .inl (by rw [hfin]; exact hj)⟩
set_option maxRecDepth 100000 in
theorem hlines_spec (A : Option Addr) (n c : Nat) (w : World) : Calls Tryz.prog 50 #[.slice A n c] w fun e w' => Frm [] w w' ∧ ∃ g1, e = .returned (.func (.func 86) #[] #[.pointer (some ⟨g1, 0, none⟩)]) ∧ Blk w' g1 22 #[.slice A n c] ∧ w.heap.size ≤ g1 ∧ g1 < w'.heap.size := by
 refine VC.calls (nt := 4) (res := #[.tmp 2]) Tryz.func50 rfl Tryz.ntmps50 Tryz.results50 rfl ?_
 refine js (jr ?_)
 refine Ops.m (Does.box rfl) rfl ?_
 rintro _ w1 ⟨rfl, hF1⟩
 have hb1 := hF1.blk
 refine ja ?_
 refine jo (jn (jv1 1 ?_))
 refine js (jr ?_)
 refine Ops.r (Run.mkFunc evs.nil (evs.cons rfl evs.nil)) rfl ?_
 refine ja ?_
 refine jo (jn (jv1 2 ?_))
 refine jt ?_
 refine end1 rfl ?_
 exact ⟨hF1.frm, _, rfl, hb1, Nat.le_refl _, hb1.lt⟩
end Go.Proofs.YtenbjndldenkfaaGreatDoor
namespace Go.Proofs.YtenbjndldenkfaaGreatDoor
open Go.RowKit Go.Sort
theorem lines_next {q : Tx} {pre : List (Nat × Nat)} {x : Nat × Nat} {ls ls2 : List Tx} (h1 : linesF q = ls ++ ls2) (h2 : pre = offsF 0 ls) (h3 : (pre ++ [x]) <+: offsF 0 (linesF q)) :
  ∃ l b, ls2 = l :: b ∧ x = (ls.flatten.length, ls.flatten.length + l.length) ∧ pre ++ [x] = offsF 0 (ls ++ [l]) ∧ linesF q = (ls ++ [l]) ++ b ∧ sliceQ q x.1 x.2 = l ∧ x.1 ≤ x.2 ∧ x.2 ≤ q.length ∧ l ≠ [] ∧ x.2 = (ls ++ [l]).flatten.length := by
 obtain ⟨a, l, b, e1, e2, e3⟩ := offs_pre h3
 have hl : ls.length = a.length := by rw [← offsF_len 0 ls, ← h2, e2, offsF_len]
 obtain ⟨rfl, e4⟩ := List.append_inj (h1.symm.trans e1) hl
 rw [Nat.zero_add] at e3
 obtain ⟨s1, s2⟩ := slice_at e1
 refine ⟨l, b, e4, e3, ?_, by rw [e1]; simp, by rw [e3]; exact s1, by rw [e3]; simp, by rw [e3]; exact s2, linesF_ne (s := q) (by rw [e1]; simp), by rw [e3]; simp⟩
 rw [offs_app, h2, e3, Nat.zero_add]
 rfl
theorem lines_done {q : Tx} {ls ls2 : List Tx} (h1 : linesF q = ls ++ ls2) (h2 : offsF 0 (linesF q) = offsF 0 ls) : ls = linesF q := by
 have hl : (linesF q).length = ls.length := by rw [← offsF_len 0 (linesF q), h2, offsF_len]
 rw [h1] at hl ⊢
 simp only [List.length_append] at hl
 rw [List.length_eq_zero_iff.1 (show ls2.length = 0 by omega), List.append_nil]
def SpI (w : World) (q : Tx) (gb g2 : Nat) (A : Option Addr) (c : Nat) (pre : List (Nat × Nat)) (W : World) : Prop :=
 (∃ ls ls2, linesF q = ls ++ ls2 ∧ pre = offsF 0 ls ∧ ∀ l ∈ ls, ¬ EmptyL l) ∧ Frm [] w W ∧ Blk W gb 22 #[.slice A q.length c] ∧ Blk W g2 3 #[.int .i64 0]
def SpX (w : World) (q : Tx) (g2 : Nat) (e : Exit) (_pre : List (Nat × Nat)) (W : World) : Prop :=
 e = .ret ∧ Frm [] w W ∧ Blk W g2 3 #[.int .i64 ((splitQ q : Nat) : Int)]
set_option maxRecDepth 100000 in
theorem split_spec (A : Option Addr) (c : Nat) (q : Tx) (w : World) (hrd0 : Rd w 1 A q.length (U8 q)) (hq : q.length ≤ 1000000) (hc : q.length ≤ c) :
  Calls Tryz.prog 51 #[.slice A q.length c] w fun e w' => e = .returned (.int .i64 ((splitQ q : Nat) : Int)) ∧ Frm [] w w' := by
 have K := Frm.refl [] w
 have hq0 := hrd0
 refine DV.calls (nt := 17) (res := #[.cell 2 3]) Tryz.func51 rfl Tryz.ntmps51 Tryz.results51 rfl ?_
 refine DV.seq ?_
 refine DV.vc ?_
 refine jr ?_
 refine Ops.m (Does.box rfl) rfl ?_
 rintro _ w1 ⟨rfl, hF_w1⟩
 have hb1 := hF_w1.blk
 have hs1_K := K.size
 have K := Frm.trans K hF_w1.frm (by simp)
 generalize hg1 : w.heap.size = g1 at hb1 hs1_K ⊢
 refine Ops.m (Does.alloc zero3) rfl ?_
 rintro _ w2 ⟨rfl, hF_w2⟩
 have hb2 := hF_w2.blk
 have hs2_K := K.size
 have lt_hb1_2 := hb1.lt
 have hb1 := hb1.frm hF_w2.frm (by simp)
 have K := Frm.trans K hF_w2.frm (by simp)
 generalize hg2 : w1.heap.size = g2 at hb2 hs2_K lt_hb1_2 ⊢
 refine jo ?_
 refine thenD_n ?_
 refine DV.sub [(1, _), (2, _)] (js2 rfl rfl) ?_
 refine DV.seq ?_
 refine DV.seq ?_
 refine DV.vc ?_
 refine jr ?_
 refine Ops.r (Run.load rfl Tryz.isAgg22 (hb1.cell 0)) rfl ?_
 refine Ops.cl (Enters.fn (evs.cons rfl evs.nil) Tryz.call50) (hlines_spec A q.length c _) rfl ?_
 rintro e w3 ⟨hf_w3, gl, rfl, hpl, hgl, hgl2⟩
 have l1 := hb1.lt
 have l2 := hb2.lt
 have hA : 0 < q.length → ∀ x ∈ ob A, x < w.heap.size := fun hn => hrd0.lt hn
 refine ⟨_, rfl, ?_⟩
 have hb1 := hb1.frm hf_w3 (by simp)
 have hb2 := hb2.frm hf_w3 (by simp)
 have K := Frm.trans K hf_w3 (by simp)
 refine jo ?_
 refine thenD_n ?_
 refine DV.sub [(1, _), (2, _), (6, _)] (js3 rfl rfl rfl) ?_
 refine DV.block ?_
 have hKs := K.size
 refine DV.range (ps := [7, 8]) (fun x : Nat × Nat => [.int .i64 ((x.1 : Nat) : Int), .int .i64 ((x.2 : Nat) : Int)]) (hlines_iter q A c gl hq hc) rfl Tryz.call86 (fun _ => rfl) rfl (SpI w q g1 g2 A c) (SpX w q g2) (fun x => [(1, .pointer (some ⟨g1, 0, none⟩)), (2, .pointer (some ⟨g2, 0, none⟩)), (3, .int .i64 ((x.1 : Nat) : Int)), (4, .int .i64 ((x.2 : Nat) : Int))]) ?_ ?_ ?_ ?_ ?_ ?_ ?_ ?_ ?_ ?_ ?_
 ·
  rintro pre W W' S ⟨h1, h2, h3, h4⟩ hf hS
  exact ⟨h1, h2.nc hf hS (by simp) K.size, h3.frm hf (h3.nc hS (by simp)), h4.frm hf (h4.nc hS (by simp))⟩
 ·
  rintro e pre W W' S ⟨h1, h2, h3⟩ hf hS
  exact ⟨h1, h2.nc hf hS (by simp) K.size, h3.frm hf (h3.nc hS (by simp))⟩
 ·
  exact fun W hf => ⟨hpl.frm hf (by simp), (hrd0.frm K (by simp)).frm hf (by simp)⟩
 ·
  simp
 ·
  intro b hb
  simp only [List.mem_cons] at hb
  rcases hb with rfl | hb
  ·
   exact hgl2
  ·
   have := hA (obN_mem hb).1 b (obN_mem hb).2; omega
 ·
  exact ⟨⟨[], linesF q, rfl, rfl, by simp⟩, K, hb1, hb2⟩
 ·
  intro l x W
  refine jv4 1 2 7 8 ?_
  refine js (jr (ja ?_))
  refine jo (jn (jv4 1 2 3 8 ?_))
  refine jr (ja ?_)
  refine jo ?_
  refine jn ⟨rfl, (js4 rfl rfl rfl rfl)⟩
 ·
  rintro l pre x W ⟨⟨ls, ls2, hls, hpr, hall⟩, K, hb1, hb2⟩ hpre hsz hmk
  obtain ⟨ll, rest, hl2, hx, hpe, hnl, hsl, hx1, hx2, hne, hxe⟩ := lines_next hls hpr hpre
  have hx : x.2 = ls.flatten.length + ll.length := by rw [hx]
  have hsl2 : (sliceQ q x.1 x.2).length = x.2 - x.1 := sliceQ_len hx2
  have hcut := U8_cut (hrd0.frm K (by simp)) hx1 hx2 hc
  have h20 := hb2
  refine jb (js (jr ?_))
  refine Ops.r (Run.load rfl Tryz.isAgg22 (hb1.cell 0)) rfl ?_
  refine jm ?_
  refine jm ?_
  refine Ops.r (Run.sliceS x.1 x.2 rfl Tryz.underlying22 Tryz.sizeOf5 (evB.some_ rfl) (evB.some_ rfl) (by omega) (by omega)) rfl ?_
  refine Ops.cl (Enters.fn (evs.cons rfl evs.nil) Tryz.call52) ((by rw [← hsl2]; exact empty_spec _ _ (sliceQ q x.1 x.2) _ hcut)) rfl ?_
  rintro e _ ⟨rfl, rfl⟩
  rw [hsl]
  refine ⟨_, rfl, ?_⟩
  refine jo (jn (jv3 2 4 13 ?_))
  refine VC.condB rfl (fun hc1 => ?_) (fun hc1 => ?_)
  ·
   refine js (jr (jm ?_))
   refine Ops.st (Acts.store rfl rfl Tryz.sizeOf3 hb2 rfl rfl) ?_
   rintro W3 ⟨hb2n, hf3, _⟩
   refine jo (jn (jv1 2 ?_))
   refine jt ?_
   refine blockQ_r (?_)
   have hem : EmptyL ll := of_decide_eq_true hc1
   refine ⟨⟨[g2], ((Frm.refl [] W).mono (T := [g2]) (by simp)).trans hf3 (by simp), ?_⟩, rfl, Frm.own K hf3 (fun y hy => by simp at hy; omega), ?_⟩
   ·
    intro b hb
    simp only [List.mem_singleton] at hb
    subst hb
    refine ⟨?_, h20.isC⟩
    simp only [List.mem_cons, not_or]
    exact ⟨by omega, fun hm => by have := hA (obN_mem hm).1 _ (obN_mem hm).2; omega⟩
   ·
    rw [show splitQ q = x.2 by unfold splitQ; rw [hls, hl2, splitL_at hall hem, hx]]
    exact hb2n
  ·
   refine jk ?_
   refine blockQ_n (?_)
   refine ⟨.frm0 (Frm.refl _ _), ⟨ls ++ [ll], rest, hnl, hpe, fun y hy => ?_⟩, K, hb1, hb2⟩
   rcases List.mem_append.1 hy with h | h
   ·
    exact hall y h
   ·
    simp only [List.mem_singleton] at h; subst h; exact of_decide_eq_false hc1
 ·
  rintro W ⟨⟨ls, ls2, hls, hpr, hall⟩, K, hb1, hb2⟩ hsz hmk
  have hse : splitQ q = q.length := by
   have e := lines_done hls hpr
   subst e
   unfold splitQ
   rw [splitL_none hall, linesF_flat]
  refine blockD_n (thenD_n ?_)
  refine DV.sub [(1, _), (2, _)] (js2 rfl rfl) ?_
  refine DV.seq ?_
  refine DV.vc ?_
  refine jr ?_
  refine Ops.r (Run.load rfl Tryz.isAgg22 (hb1.cell 0)) rfl ?_
  refine Ops.r (Run.lenS rfl Tryz.underlying22) rfl ?_
  refine Ops.st (Acts.store rfl rfl Tryz.sizeOf3 hb2 rfl rfl) ?_
  rintro V1 ⟨hb2n, hf_V1, _⟩
  have hmk := hmk.frm hf_V1 (by simp; exact hmk.ne_blk hb2)
  have K := Frm.own K hf_V1 (fun y hy => by simp at hy; omega)
  refine jo ?_
  refine thenD_n ?_
  refine DV.sub [(2, _)] (js1 rfl) ?_
  refine DV.vc (jt ?_)
  refine endD_r (by simp) (fun d hd => by simp only [List.mem_singleton] at hd; subst hd; exact hmk) (fun wz hsh => ?_)
  have hb2n := hb2n.frm hsh (by simp; omega)
  have K := Frm.own K hsh (fun y hy => by have := hKs; simp at hy; omega)
  refine endR ?_
  refine res_cell rfl Tryz.isAgg3 (hb2n.cell 0) ?_
  refine res_nil ?_
  exact ⟨by rw [hse]; rfl, K⟩
 ·
  rintro pre W ⟨_, K, hb2⟩ hsz hmk
  refine blockD_r (thenD_r (endD_r (by simp) (fun d hd => by simp only [List.mem_singleton] at hd; subst hd; exact hmk) (fun wz hsh => ?_)))
  have hb2 := hb2.frm hsh (by simp; omega)
  have K := Frm.own K hsh (fun y hy => by have := hKs; simp at hy; omega)
  refine endR ?_
  refine res_cell rfl Tryz.isAgg3 (hb2.cell 0) ?_
  refine res_nil ?_
  exact ⟨rfl, K⟩
 ·
  exact fun _ _ _ h => absurd h.1 (by simp)
end Go.Proofs.YtenbjndldenkfaaGreatDoor
namespace Go.Proofs.YtenbjndldenkfaaGreatDoor
open Go.RowKit
theorem VC.label {P : Program} {n : NF} {Γ : Env} {w : World} {Q : Exit → Env → World → Prop} {l : Nat} (h : Q .normal Γ w) : VC P n (.label l) Γ w Q := fun _ hs _ => wpIn_label ⟨Γ, hs, h⟩
section
variable {P : Program} {Γ : Env} {w : World} {dst : Option Tmp} {pos : String} {after : Array Edge} {g : Option (Nat × Bool)} {T : TypeId}
theorem Own.based {w : World} {e size n c B : Nat} {A : Option Addr} {xs : List Value} (h : Own w e size A n c xs) (hA : ∀ x ∈ ob A, B ≤ x) : w.ownsRow B e size (.slice A n c) n xs := by
 refine ⟨h.1, ?_⟩
 rcases h.cases with ⟨rfl, h1, h2, _⟩ | ⟨g, cur, rfl, h1, h2, h3, h4, h5⟩
 ·
  exact .inl ⟨by rw [h1, h2], h1⟩
 ·
  exact .inr ⟨g, c, cur, rfl, hA g (by simp [ob]), h1, h2, h3, h4, h5⟩
theorem Does.appStr {t u e : TypeId} {x y : Operand} {n cap : Nat} (B : Nat) {A : Option Addr} {xs : List Value} {q : List UInt8} (hx : ev? Γ x = some (.slice A n cap)) (hy : ev? Γ y = some (encStr q))
  (ht : P.underlying t = some (.slice e)) (hu : P.underlying u = some .string) (hi : (P.info? e).map (fun i => (i.zero, i.size, i.bytes)) = some (some (.int .u8 0), 1, 1))
  (ho : Own w e 1 A n cap xs) (hA : ∀ x ∈ ob A, B ≤ x) (hB : B ≤ w.heap.size) (hb : n + q.length ≤ 140737488355328) :
  Does P ⟨dst, .call ⟨.builtin .append, #[x, y], #[t, u]⟩, T, pos, after, g⟩ Γ w
   (fun r w' => ∃ A' c', r = .slice A' (n + q.length) c' ∧ Own w' e 1 A' (n + q.length) c' (xs ++ U8 q) ∧ Frm (ob A) w w' ∧ ∀ x ∈ ob A', B ≤ x) := fun ρ hρ => by
 obtain ⟨i0, hi0, hz0, hz1, hz2⟩ := info_parts hi
 have ex : (execOp ρ ⟨dst, .call ⟨.builtin .append, #[x, y], #[t, u]⟩, T, pos, after, g⟩).run P w = ((Builtin.append_ #[t, u] T #[.slice A n cap, .string ⟨q.toArray⟩]).run P w).andThen fun a w => .ok (.value a) w := by
  simp [execOp, resolve, invoke, builtin, hρ _ _ hx, hρ _ _ hy, encStr]
 have hsz : (⟨q.toArray⟩ : ByteArray).size = q.length := by show q.toArray.size = _; simp
 obtain ⟨v', w', hrun, hown, hgr, hnil⟩ := Lib.run_append_own_string (P := P) (w := w) B t u T e i0 ht hu hi0 hz0 hz1 hz2 (.slice A n cap) n xs (ho.based hA) ⟨q.toArray⟩ (by rw [hsz]; unfold maxLen; omega) (by rw [hsz]; exact hb) hB
 rw [hsz] at hown
 have hc : Lib.strCells ⟨q.toArray⟩ = U8 q := by simp [Lib.strCells, U8]
 rw [hc] at hown
 have hblk : ∀ (X : Option Addr) (p q : Nat), (Value.slice X p q).ownBlock.toList = ob X := by intro X p q; cases X <;> rfl
 have hfr : Frm (ob A) w w' := by
  have := Frm.grown hgr
  rwa [hblk] at this
 rcases hown.2 with ⟨rfl, h0⟩ | ⟨g', cap', cur', rfl, h1, h2, h3, h4, h5, h6⟩
 ·
  refine ⟨_, w', by rw [ex, hrun]; rfl, none, 0, by rw [h0], ⟨hown.1, .inl ⟨by rw [h0], h0⟩⟩, hfr, by simp [ob]⟩
 ·
  exact ⟨_, w', by rw [ex, hrun]; rfl, some ⟨g', 0, none⟩, cap', rfl, ⟨hown.1, .inr ⟨g', cap', cur', rfl, Nat.zero_le _, h2, h3, h4, h5, h6⟩⟩, hfr, by simp [ob]; exact h1⟩
end
end Go.Proofs.YtenbjndldenkfaaGreatDoor
namespace Go.Proofs.YtenbjndldenkfaaGreatDoor
open Go.RowKit Go.Sort
def hdNm : Tx → Bool
 | [] => false
 | x :: _ => decide (NameC x)
theorem name_nat (c : UInt8) : NameC c ↔ (32 < c.toNat ∧ c.toNat < 127 ∧ c.toNat ≠ 58) := by
 unfold NameC
 rw [show (58 : UInt8) = UInt8.ofNat 58 from rfl]
 constructor
 ·
  rintro ⟨h1, h2, h3⟩; exact ⟨h1, h2, fun e => h3 (UInt8.toNat_inj.1 e)⟩
 ·
  rintro ⟨h1, h2, h3⟩; exact ⟨h1, h2, fun e => h3 (by rw [e]; rfl)⟩
theorem nameN_drop {l : Tx} {i : Nat} (h : i < l.length) (hn : NameC l[i]) : nameN (l.drop i) = nameN (l.drop (i + 1)) + 1 := by rw [drop_cons h, nameN, if_pos hn]
theorem blankN_drop {l : Tx} {i : Nat} (h : i < l.length) (hn : Bl l[i]) : blankN (l.drop i) = blankN (l.drop (i + 1)) + 1 := by rw [drop_cons h, blankN, if_pos hn]
theorem nameN_stop {l : Tx} {i : Nat} (h : ¬ hdNm (l.drop i) = true) : nameN (l.drop i) = 0 := by
 cases hd : l.drop i with
 | nil => rfl
 | cons x r => rw [hd] at h; rw [nameN, if_neg (fun e => h (decide_eq_true e))]
theorem blankN_stop {l : Tx} {i : Nat} (h : ¬ hdB (l.drop i) = true) : blankN (l.drop i) = 0 := by
 cases hd : l.drop i with
 | nil => rfl
 | cons x r => rw [hd] at h; rw [blankN, if_neg (fun e => h (decide_eq_true e))]
def beginV (l : Tx) : Value := match beginQ l with
 | none => .tuple #[encStr [], .int .i64 ((0 : Nat) : Int), .bool false]
 | some (n, k) => .tuple #[encStr n, .int .i64 ((k : Nat) : Int), .bool true]
theorem U8_cutN {w : World} {A : Option Addr} {c : Nat} {s : Tx} (h : Rd w 1 A s.length (U8 s)) {a b : Nat} (h1 : a ≤ b) (h2 : b ≤ s.length) (hc : s.length ≤ c) : Rd w 1 (cutA A c a 1) (b - a) (U8 (sliceQ s a b)) := by
 have e := U8_cut h h1 h2 hc
 rwa [sliceQ_len h2] at e
set_option maxRecDepth 100000 in
theorem begin_spec (A : Option Addr) (c : Nat) (l : Tx) (w : World) (h : Rd w 1 A l.length (U8 l)) (hl : l.length ≤ 1000000) (hc : l.length ≤ c) : Calls Tryz.prog 54 #[.slice A l.length c] w fun e w' => e = .returned (beginV l) ∧ w = w' := by
 refine VC.calls (nt := 69) (res := #[.tmp 2, .tmp 3, .tmp 4]) Tryz.func54 rfl Tryz.ntmps54 Tryz.results54 rfl ?_
 refine js (jr (ja ?_))
 refine Ops.r (v := .int .i64 ((0 : Nat) : Int)) (Run.asg rfl) rfl ?_
 refine ja ?_
 refine jo (jn (jv1 0 ?_))
 refine js (jr ?_)
 refine Ops.r (v := .int .i64 ((0 : Nat) : Int)) (Run.asg rfl) rfl ?_
 refine jo (jn (js (jb ?_)))
 refine VC.loop (σ := Nat) (fun s => [(0, .slice A l.length c), (5, .int .i64 ((s : Nat) : Int))]) (fun s wr => s ≤ l.length ∧ s + nameN (l.drop s) = nameN l ∧ w = wr) (fun s => l.length - s) 0 (js2 rfl rfl) ⟨by omega, by simp, rfl⟩ ?_
 rintro i _ ⟨hi, hn, rfl⟩
 refine js (js ?_)
 refine VC.split1 [(0, _), (5, _)] (js2 rfl rfl) 31 (.bool (decide (hdNm (l.drop i) = true))) ?_ ?_
 ·
  refine jr ?_
  refine jm ?_
  refine jm ?_
  refine Ops.r (Run.lenS rfl Tryz.underlying22) rfl ?_
  refine Ops.r (Run.bin rfl rfl (Bin.lssN _ _)) rfl ?_
  by_cases hs10 : i < l.length
  ·
   obtain ⟨ad, rfl, hcell⟩ := U8_at h hs10
   have hhd : hdNm (l.drop i) = decide (NameC l[i]) := by rw [drop_cons hs10]; rfl
   generalize hz : l[i] = z at *
   have hzb := name_nat z
   refine jm ?_
   refine jg ?_
   refine jg ?_
   refine Ops.rg rfl au (Run.index1 i rfl rfl Tryz.underlying22 Tryz.sizeOf5 hs10) rfl ?_
   refine Ops.rg rfl au (Run.load rfl Tryz.isAgg5 hcell) rfl ?_
   refine Ops.rg rfl au (Run.bin rfl rfl (Bin.gtrN _ 32)) rfl ?_
   by_cases hs16 : 32 < z.toNat
   ·
    refine Ops.r (Run.pickT rfl rfl au) rfl ?_
    refine jm ?_
    refine jg ?_
    refine jg ?_
    refine Ops.rg rfl au (Run.index1 i rfl rfl Tryz.underlying22 Tryz.sizeOf5 hs10) rfl ?_
    refine Ops.rg rfl au (Run.load rfl Tryz.isAgg5 hcell) rfl ?_
    refine Ops.rg rfl au (Run.bin rfl rfl (Bin.lssN _ 127)) rfl ?_
    by_cases hs23 : z.toNat < 127
    ·
     refine Ops.r (Run.pickT rfl rfl au) rfl ?_
     refine jm ?_
     refine jg ?_
     refine jg ?_
     refine Ops.rg rfl au (Run.index1 i rfl rfl Tryz.underlying22 Tryz.sizeOf5 hs10) rfl ?_
     refine Ops.rg rfl au (Run.load rfl Tryz.isAgg5 hcell) rfl ?_
     refine Ops.rg rfl au (Run.bin rfl rfl (Bin.neqN _ 58)) rfl ?_
     by_cases hs30 : z.toNat ≠ 58
     ·
      refine Ops.r (Run.pickT rfl rfl au) rfl ?_
      refine jo ?_
      refine jn ⟨(js3 (jc (by first | (rw [hhd]; rfl) | (rw [hhd]; first | exact (decide_eq_decide.2 (by simp only [decide_eq_true_eq]; rw [hzb]; omega)) | (symm; exact decide_eq_false (fun h => by simp only [decide_eq_true_eq] at h; rw [hzb] at h; omega))))) rfl rfl), rfl⟩
     ·
      refine Ops.r (Run.pickT rfl rfl au) rfl ?_
      refine jo ?_
      refine jn ⟨(js3 (jc (by first | (rw [hhd]; rfl) | (rw [hhd]; first | exact (decide_eq_decide.2 (by simp only [decide_eq_true_eq]; rw [hzb]; omega)) | (symm; exact decide_eq_false (fun h => by simp only [decide_eq_true_eq] at h; rw [hzb] at h; omega))))) rfl rfl), rfl⟩
    ·
     refine Ops.r (Run.pickT rfl rfl au) rfl ?_
     refine jm ?_
     refine ju ?_
     refine ju ?_
     refine ju ?_
     refine ju ?_
     refine ju ?_
     refine Ops.r (Run.pickF rfl rfl au) rfl ?_
     refine jo ?_
     refine jn ⟨(js3 (jc (by first | (rw [hhd]; rfl) | (rw [hhd]; first | exact (decide_eq_decide.2 (by simp only [decide_eq_true_eq]; rw [hzb]; omega)) | (symm; exact decide_eq_false (fun h => by simp only [decide_eq_true_eq] at h; rw [hzb] at h; omega))))) rfl rfl), rfl⟩
   ·
    refine Ops.r (Run.pickT rfl rfl au) rfl ?_
    refine jm ?_
    refine ju ?_
    refine ju ?_
    refine ju ?_
    refine ju ?_
    refine ju ?_
    refine Ops.r (Run.pickF rfl rfl au) rfl ?_
    refine jm ?_
    refine ju ?_
    refine ju ?_
    refine ju ?_
    refine ju ?_
    refine ju ?_
    refine Ops.r (Run.pickF rfl rfl au) rfl ?_
    refine jo ?_
    refine jn ⟨(js3 (jc (by first | (rw [hhd]; rfl) | (rw [hhd]; first | exact (decide_eq_decide.2 (by simp only [decide_eq_true_eq]; rw [hzb]; omega)) | (symm; exact decide_eq_false (fun h => by simp only [decide_eq_true_eq] at h; rw [hzb] at h; omega))))) rfl rfl), rfl⟩
  ·
   have hhd : hdNm (l.drop i) = false := by rw [List.drop_eq_nil_of_le (by omega)]; rfl
   refine jm ?_
   refine ju ?_
   refine ju ?_
   refine ju ?_
   refine ju ?_
   refine ju ?_
   refine Ops.r (Run.pickF rfl rfl au) rfl ?_
   refine jm ?_
   refine ju ?_
   refine ju ?_
   refine ju ?_
   refine ju ?_
   refine ju ?_
   refine Ops.r (Run.pickF rfl rfl au) rfl ?_
   refine jm ?_
   refine ju ?_
   refine ju ?_
   refine ju ?_
   refine ju ?_
   refine ju ?_
   refine Ops.r (Run.pickF rfl rfl au) rfl ?_
   refine jo ?_
   refine jn ⟨(js3 (jc (by first | (rw [hhd]; rfl) | (rw [hhd]; first | exact (decide_eq_decide.2 (by simp only [decide_eq_true_eq]; rw [hzb]; omega)) | (symm; exact decide_eq_false (fun h => by simp only [decide_eq_true_eq] at h; rw [hzb] at h; omega))))) rfl rfl), rfl⟩
 ·
  intro Γ hΓ
  refine jn (VC.sub _ hΓ ?_)
  refine VC.condD rfl (fun hc1 => ?_) (fun hc1 => ?_)
  ·
   have hil : i < l.length := Nat.lt_of_not_le fun h => by rw [List.drop_eq_nil_of_le h] at hc1; cases hc1
   have hnz : NameC l[i] := by rw [drop_cons hil] at hc1; exact of_decide_eq_true hc1
   rw [nameN_drop hil hnz] at hn
   refine jk (jn (jv2 0 5 ?_))
   refine jb (jr (jm ?_))
   refine Ops.r (Run.bin rfl rfl (Bin.add_i64 _ 1 (by omega))) rfl ?_
   refine ja ?_
   refine jo ?_
   refine blockQ_n (jn ⟨(i + 1), (js2 rfl rfl), ?_, ?_⟩)
   ·
    exact ⟨hil, by omega, rfl⟩
   ·
    first | omega | (dsimp only; omega)
  ·
   have hn0 := nameN_stop hc1
   rw [hn0, Nat.add_zero] at hn
   subst hn
   have hbq : beginQ l = if nameN l ≠ 0 ∧ l[nameN l + blankN (l.drop (nameN l))]? = some 58 then some (l.take (nameN l), nameN l + blankN (l.drop (nameN l)) + 1) else none := rfl
   generalize nameN l = N at *
   refine jx ?_
   refine thenQ_x (thenQ_x (blockQ_x ?_))
   refine jn (jv2 0 5 ?_)
   refine js (jr (jm ?_))
   refine ja ?_
   refine jo (jn (jv3 0 5 6 ?_))
   refine js (jb ?_)
   refine VC.loop (σ := Nat) (fun s => [(0, .slice A l.length c), (5, .int .i64 ((N : Nat) : Int)), (6, .int .i64 ((s : Nat) : Int))]) (fun s wr => s ≤ l.length ∧ N ≤ s ∧ s + blankN (l.drop s) = N + blankN (l.drop N) ∧ w = wr) (fun s => l.length - s) N (js3 rfl rfl rfl) ⟨hi, Nat.le_refl _, rfl, rfl⟩ ?_
   rintro i _ ⟨hi, hNi, hn, rfl⟩
   refine js (js ?_)
   refine VC.split1 [(0, _), (5, _), (6, _)] (js3 rfl rfl rfl) 45 (.bool (decide (hdB (l.drop i) = true))) ?_ ?_
   ·
    refine jr ?_
    refine jm ?_
    refine jm ?_
    refine Ops.r (Run.lenS rfl Tryz.underlying22) rfl ?_
    refine Ops.r (Run.bin rfl rfl (Bin.lssN _ _)) rfl ?_
    by_cases hs38 : i < l.length
    ·
     obtain ⟨ad, rfl, hcell⟩ := U8_at h hs38
     have hhd : hdB (l.drop i) = decide (Bl l[i]) := by rw [drop_cons hs38]; rfl
     generalize hz : l[i] = z at *
     have hzb := bl_nat z
     refine jm ?_
     refine jg ?_
     refine jg ?_
     refine Ops.rg rfl au (Run.index1 i rfl rfl Tryz.underlying22 Tryz.sizeOf5 hs38) rfl ?_
     refine Ops.rg rfl au (Run.load rfl Tryz.isAgg5 hcell) rfl ?_
     refine Ops.clg rfl au (Enters.fn (evs.cons rfl evs.nil) Tryz.call53) (hblank_spec z _) rfl ?_
     rintro e _ ⟨rfl, rfl⟩
     refine ⟨_, rfl, ?_⟩
     by_cases hs44 : Bl z
     ·
      refine Ops.r (Run.pickT rfl rfl au) rfl ?_
      refine jo ?_
      refine jn ⟨(js4 (jc (by (rw [hhd]; first | rfl | (simp [*]; done)))) rfl rfl rfl), rfl⟩
     ·
      refine Ops.r (Run.pickT rfl rfl au) rfl ?_
      refine jo ?_
      refine jn ⟨(js4 (jc (by (rw [hhd]; first | rfl | (simp [*]; done)))) rfl rfl rfl), rfl⟩
    ·
     have hhd : hdB (l.drop i) = false := by rw [List.drop_eq_nil_of_le (by omega)]; rfl
     refine jm ?_
     refine ju ?_
     refine ju ?_
     refine ju ?_
     refine ju ?_
     refine ju ?_
     refine Ops.r (Run.pickF rfl rfl au) rfl ?_
     refine jo ?_
     refine jn ⟨(js4 (jc (by (rw [hhd]; first | rfl | (simp [*]; done)))) rfl rfl rfl), rfl⟩
   ·
    intro Γ hΓ
    refine jn (VC.sub _ hΓ ?_)
    refine VC.condD rfl (fun hc2 => ?_) (fun hc2 => ?_)
    ·
     have hil : i < l.length := Nat.lt_of_not_le fun h => by rw [List.drop_eq_nil_of_le h] at hc2; cases hc2
     have hnz : Bl l[i] := by rw [drop_cons hil] at hc2; exact of_decide_eq_true hc2
     rw [blankN_drop hil hnz] at hn
     refine jk (jn (jv3 0 5 6 ?_))
     refine jb (jr (jm ?_))
     refine Ops.r (Run.bin rfl rfl (Bin.add_i64 _ 1 (by omega))) rfl ?_
     refine ja ?_
     refine jo ?_
     refine blockQ_n (jn ⟨(i + 1), (js3 rfl rfl rfl), ?_, ?_⟩)
     ·
      exact ⟨hil, by omega, by omega, rfl⟩
     ·
      first | omega | (dsimp only; omega)
    ·
     have hn0 := blankN_stop hc2
     rw [hn0, Nat.add_zero] at hn
     rw [← hn] at hbq
     refine jx ?_
     refine thenQ_x (thenQ_x (blockQ_x ?_))
     refine jn (jv3 0 5 6 ?_)
     refine js (js ?_)
     refine VC.split1 [(0, _), (5, _), (6, _)] (js3 rfl rfl rfl) 62 (.bool (decide (¬ (N ≠ 0 ∧ l[i]? = some 58)))) ?_ ?_
     ·
      refine jr ?_
      refine jm ?_
      refine Ops.r (Run.bin rfl rfl (Bin.eqlN _ 0)) rfl ?_
      by_cases hs49 : N = 0
      ·
       refine jm ?_
       refine ju ?_
       refine ju ?_
       refine ju ?_
       refine ju ?_
       refine Ops.r (Run.pickT rfl rfl au) rfl ?_
       refine jm ?_
       refine ju ?_
       refine ju ?_
       refine ju ?_
       refine ju ?_
       refine ju ?_
       refine Ops.r (Run.pickT rfl rfl au) rfl ?_
       refine jo ?_
       refine jn ⟨(js4 (jc (by first | (symm; exact decide_eq_true (fun hx => hx.1 ‹N = 0›)) | (symm; rw [hgx]; exact decide_eq_true (by simp)) | (rw [hgx]; exact decide_eq_decide.2 ⟨fun h1 h2 => h1 (hz58.1 h2.2), fun h1 h2 => h1 ⟨‹¬ N = 0›, hz58.2 h2⟩⟩))) rfl rfl rfl), rfl⟩
      ·
       refine jm ?_
       refine jg ?_
       refine jg ?_
       refine Ops.rg rfl au (Run.lenS rfl Tryz.underlying22) rfl ?_
       refine Ops.rg rfl au (Run.bin rfl rfl (Bin.eqlN _ _)) rfl ?_
       by_cases hs54 : i = l.length
       ·
        have hgx : l[i]? = none := List.getElem?_eq_none (by omega)
        refine Ops.r (Run.pickF rfl rfl au) rfl ?_
        refine jm ?_
        refine ju ?_
        refine ju ?_
        refine ju ?_
        refine ju ?_
        refine ju ?_
        refine Ops.r (Run.pickT rfl rfl au) rfl ?_
        refine jo ?_
        refine jn ⟨(js4 (jc (by first | (symm; exact decide_eq_true (fun hx => hx.1 ‹N = 0›)) | (symm; rw [hgx]; exact decide_eq_true (by simp)) | (rw [hgx]; exact decide_eq_decide.2 ⟨fun h1 h2 => h1 (hz58.1 h2.2), fun h1 h2 => h1 ⟨‹¬ N = 0›, hz58.2 h2⟩⟩))) rfl rfl rfl), rfl⟩
       ·
        have hil : i < l.length := by omega
        obtain ⟨ad, rfl, hcell⟩ := U8_at h hil
        have hgx : l[i]? = some l[i] := List.getElem?_eq_getElem hil
        generalize hz : l[i] = z at *
        have hz58 : some z = some (58 : UInt8) ↔ z.toNat = 58 := ⟨fun e => by rw [Option.some.inj e]; rfl, fun e => congrArg some (UInt8.toNat_inj.1 e)⟩
        refine Ops.r (Run.pickF rfl rfl au) rfl ?_
        refine jm ?_
        refine jg ?_
        refine jg ?_
        refine Ops.rg rfl au (Run.index1 i rfl rfl Tryz.underlying22 Tryz.sizeOf5 hil) rfl ?_
        refine Ops.rg rfl au (Run.load rfl Tryz.isAgg5 hcell) rfl ?_
        refine Ops.rg rfl au (Run.bin rfl rfl (Bin.neqN _ 58)) rfl ?_
        by_cases hs61 : z.toNat ≠ 58
        ·
         refine Ops.r (Run.pickF rfl rfl au) rfl ?_
         refine jo ?_
         refine jn ⟨(js4 (jc (by first | (symm; exact decide_eq_true (fun hx => hx.1 ‹N = 0›)) | (symm; rw [hgx]; exact decide_eq_true (by simp)) | (rw [hgx]; exact decide_eq_decide.2 ⟨fun h1 h2 => h1 (hz58.1 h2.2), fun h1 h2 => h1 ⟨‹¬ N = 0›, hz58.2 h2⟩⟩))) rfl rfl rfl), rfl⟩
        ·
         refine Ops.r (Run.pickF rfl rfl au) rfl ?_
         refine jo ?_
         refine jn ⟨(js4 (jc (by first | (symm; exact decide_eq_true (fun hx => hx.1 ‹N = 0›)) | (symm; rw [hgx]; exact decide_eq_true (by simp)) | (rw [hgx]; exact decide_eq_decide.2 ⟨fun h1 h2 => h1 (hz58.1 h2.2), fun h1 h2 => h1 ⟨‹¬ N = 0›, hz58.2 h2⟩⟩))) rfl rfl rfl), rfl⟩
     ·
      intro Γ hΓ
      refine jn (VC.sub _ hΓ ?_)
      refine VC.condD rfl (fun hc3 => ?_) (fun hc3 => ?_)
      ·
       refine js (jr (ja ?_))
       refine Ops.r (v := .int .i64 ((0 : Nat) : Int)) (Run.asg rfl) rfl ?_
       refine ja ?_
       refine jo (jn (jv3 2 3 4 ?_))
       refine jt ?_
       refine thenQ_r (end3 rfl rfl rfl ?_)
       refine ⟨?_, rfl⟩
       unfold beginV
       rw [hbq, if_neg hc3]
      ·
       refine jk (jn (jv3 0 5 6 ?_))
       refine js (jr (jm ?_))
       refine jm ?_
       refine Ops.r (Run.sliceS 0 N rfl Tryz.underlying22 Tryz.sizeOf5 evB.none_ (evB.some_ rfl) (by omega) (by omega)) rfl ?_
       refine Ops.r (Run.strOfT rfl Tryz.underlying22 Tryz.underlying5 Tryz.underlying9 (U8_cutN h (Nat.zero_le _) (by omega) hc)) rfl ?_
       refine jm ?_
       refine Ops.r (Run.bin rfl rfl (Bin.add_i64 i 1 (by omega))) rfl ?_
       refine ja ?_
       refine ja ?_
       refine ja ?_
       refine jo (jn (jv3 2 3 4 ?_))
       refine jt ?_
       refine end3 rfl rfl rfl ?_
       refine ⟨?_, rfl⟩
       unfold beginV
       rw [hbq, if_pos (Classical.not_not.1 hc3)]
       unfold sliceQ
       simp
set_option maxRecDepth 100000 in
theorem hsmall_spec (x : UInt8) (w : World) : Calls Tryz.prog 55 #[.int .u8 ((x.toNat : Nat) : Int)] w fun e w' => e = .returned (.int .u8 (((low x).toNat : Nat) : Int)) ∧ w = w' := by
 have hlx := low_nat x
 refine VC.calls (nt := 12) (res := #[.tmp 2]) Tryz.func55 rfl Tryz.ntmps55 Tryz.results55 rfl ?_
 refine js (jr ?_)
 refine Ops.r (v := .int .u8 ((0 : Nat) : Int)) (Run.asg rfl) rfl ?_
 refine jo (jn (jv1 0 ?_))
 refine js (js ?_)
 refine VC.split1 [(0, _)] (js1 rfl) 8 (.bool (decide ((65 ≤ x.toNat) ∧ (x.toNat ≤ 90)))) ?_ ?_
 ·
  by_cases hs0 : 65 ≤ x.toNat
  ·
   refine jr (jm ?_)
   refine Ops.r (Run.bin rfl rfl (Bin.geqN _ 65)) rfl ?_
   refine jm ?_
   refine jg ?_
   refine Ops.rg rfl au (Run.bin rfl rfl (Bin.leqN _ 90)) rfl ?_
   refine Ops.r (Run.pickT rfl rfl au) rfl ?_
   refine jo ?_
   refine jn ⟨(js2 (by rw [dand1 hs0]; rfl) rfl), rfl⟩
  ·
   refine jr (jm ?_)
   refine Ops.r (Run.bin rfl rfl (Bin.geqN _ 65)) rfl ?_
   refine jm ?_
   refine ju ?_
   refine ju ?_
   refine Ops.r (Run.pickF rfl rfl au) rfl ?_
   refine jo ?_
   refine jn ⟨(js2 (by rw [dand0 hs0]; rfl) rfl), rfl⟩
 ·
  intro Γ hΓ
  refine jn (VC.sub _ hΓ ?_)
  refine VC.condD rfl (fun hc1 => ?_) (fun hc1 => ?_)
  ·
   refine js (jr (jm ?_))
   refine Ops.r (Run.bin rfl rfl (Bin.add_u8 _ 32 (by omega))) rfl ?_
   refine ja ?_
   refine jo (jn (jv1 2 ?_))
   refine jt ?_
   refine thenQ_r (end1 rfl ?_)
   exact ⟨by rw [hlx, if_pos hc1], rfl⟩
  ·
   refine jk (jn (jv1 0 ?_))
   refine js (jr (jm ?_))
   refine ja ?_
   refine jo (jn (jv1 2 ?_))
   refine jt ?_
   refine end1 rfl ?_
   exact ⟨by rw [hlx, if_neg hc1], rfl⟩
set_option maxRecDepth 100000 in
theorem halike_spec (a b : Tx) (w : World) (ha : a.length ≤ 1000000) (hb : b.length ≤ 1000000) : Calls Tryz.prog 24 #[encStr a, encStr b] w fun e w' => e = .returned (.bool (decide (smallS a = smallS b))) ∧ Drawn w w' := by
 refine VC.calls (nt := 26) (res := #[.tmp 4]) Tryz.func24 rfl Tryz.ntmps24 Tryz.results24 rfl ?_
 refine js (jr (ja ?_))
 refine jo (jn (jv2 0 1 ?_))
 refine VC.scope rfl ?_
 refine js (js (jr (jm ?_)))
 refine Ops.r (Run.lenT rfl Tryz.underlying9) rfl ?_
 refine jm ?_
 refine Ops.r (Run.lenT rfl Tryz.underlying9) rfl ?_
 refine Ops.r (Run.bin rfl rfl (Bin.neqN _ _)) rfl ?_
 refine jo (jn (jv3 0 1 10 ?_))
 refine VC.condD rfl (fun hc1 => ?_) (fun hc1 => ?_)
 ·
  have hne : ¬ smallS a = smallS b := fun h => hc1 (by have := congrArg List.length h; simpa [smallS_len] using this)
  refine js (jr (ja ?_))
  refine jo (jn (jv1 4 ?_))
  refine jt ?_
  refine thenQ_r (straightQ_r (end1 rfl ?_))
  exact ⟨by rw [decide_eq_false hne], Drawn.refl _⟩
 ·
  have hll : a.length = b.length := Classical.not_not.1 hc1
  refine jk (jn (jv2 0 1 ?_))
  refine js ?_
  refine VC.label ?_
  refine jn (js (js (jr (jm ?_))))
  refine Ops.r (Run.lenT rfl Tryz.underlying9) rfl ?_
  refine Ops.r (v := .int .i64 ((0 : Nat) : Int)) (Run.mv rfl) rfl ?_
  refine jo (jn (jv4 0 1 12 13 ?_))
  refine jb ?_
  refine VC.loop (σ := Nat) (fun s => [(0, encStr a), (1, encStr b), (12, .int .i64 ((a.length : Nat) : Int)), (13, .int .i64 ((s : Nat) : Int))]) (fun s wr => s ≤ a.length ∧ smallS (a.take s) = smallS (b.take s) ∧ Drawn w wr) (fun s => a.length - s) 0 (js4 rfl rfl rfl rfl) ⟨by omega, by simp, Drawn.refl _⟩ ?_
  rintro i wr ⟨hi, htk, hd⟩
  refine js (jr ?_)
  refine Ops.r (Run.bin rfl rfl (Bin.lssN _ _)) rfl ?_
  refine jo (jn (js ?_))
  refine VC.condD rfl (fun hc2 => ?_) (fun hc2 => ?_)
  ·
   have hib : i < b.length := by omega
   have hga : a[i]? = some a[i] := List.getElem?_eq_getElem hc2
   have hgb : b[i]? = some b[i] := List.getElem?_eq_getElem hib
   have hta := take_snoc hc2
   have htb := take_snoc hib
   have hab : smallS a = smallS b → low a[i] = low b[i] := fun h => by
    have h1 : (smallS a)[i]? = (smallS b)[i]? := by rw [h]
    simpa [smallS, List.getElem?_eq_getElem, hc2, hib] using h1
   generalize a[i] = x at *
   generalize b[i] = y at *
   refine jk (jn (jv4 0 1 12 13 ?_))
   refine js (jb (js (jr (jm ?_))))
   refine ja ?_
   refine jo (jn (jv5 0 1 5 12 13 ?_))
   refine js (js ?_)
   refine VC.still jK jK ?_
   refine SOps.r (Run.mv rfl) rfl ?_
   refine SOps.r (Run.mv rfl) rfl ?_
   refine SOps.r (Run.indexT _ rfl rfl Tryz.underlying9 hga) rfl ?_
   refine SOps.call (Enters.fn (evs.cons rfl evs.nil) Tryz.call55) (hsmall_spec x _) trivial rfl rfl ?_
   refine SOps.r (Run.mv rfl) rfl ?_
   refine SOps.r (Run.mv rfl) rfl ?_
   refine SOps.r (Run.indexT _ rfl rfl Tryz.underlying9 hgb) rfl ?_
   refine SOps.call (Enters.fn (evs.cons rfl evs.nil) Tryz.call55) (hsmall_spec y _) trivial rfl rfl ?_
   refine SOps.r (Run.bin rfl rfl (Bin.eqlN _ _)) rfl ?_
   refine SOps.nil ?_
   refine jn (jv5 0 1 12 13 24 ?_)
   refine VC.condD rfl (fun hc3 => ?_) (fun hc3 => ?_)
   ·
    have hxy : low x = low y := UInt8.toNat_inj.1 hc3
    refine jx ?_
    refine thenQ_x (blockQ_x ?_)
    refine jn (jv4 0 1 12 13 ?_)
    refine jr ?_
    refine Ops.r (Run.bin rfl rfl (Bin.add_i64 _ 1 (by omega))) rfl ?_
    refine jm ?_
    refine jo ?_
    refine jn ⟨(i + 1), (js4 rfl rfl rfl rfl), ?_, ?_⟩
    ·
     refine ⟨hc2, ?_, hd.trans (Drawn.drew _)⟩
     rw [hta, htb]
     simp only [smallS, List.map_append, List.map_cons, List.map_nil] at htk ⊢
     rw [htk, hxy]
    ·
     first | omega | (dsimp only; omega)
   ·
    have hne : ¬ smallS a = smallS b := fun h => hc3 (by rw [hab h])
    refine jk (jn ?_)
    refine VC.sub [] .nil ?_
    refine js (jr (ja ?_))
    refine jo (jn (jt ?_))
    refine blockQ_r (thenQ_r (thenQ_r (blockQ_r (thenQ_r (straightQ_r (end1 rfl ?_))))))
    exact ⟨by rw [decide_eq_false hne], hd.trans (Drawn.drew _)⟩
  ·
   refine jx ?_
   refine thenQ_x (thenQ_x (blockQ_x ?_))
   refine jn ?_
   refine VC.sub [] .nil ?_
   refine js (jr (ja ?_))
   refine jo (jn (jt ?_))
   refine straightQ_r (end1 rfl ?_)
   refine ⟨?_, hd⟩
   have hil : i = a.length := by omega
   rw [hil, List.take_length, hll, List.take_length] at htk
   rw [decide_eq_true htk]
def trim1 (x : UInt8) (s : Tx) : Tx := if s.getLast? = some x then s.dropLast else s
theorem suf1 (s : Tx) (x : UInt8) : Lib.hasSuffix s [x] = decide (s.getLast? = some x) := by
 unfold Lib.hasSuffix
 rw [Bool.eq_iff_iff, decide_eq_true_eq, List.isSuffixOf_iff_suffix]
 rcases List.eq_nil_or_concat s with rfl | ⟨t, y, rfl⟩
 ·
  simp
 ·
  rw [List.concat_eq_append, List.getLast?_concat]
  constructor
  ·
   rintro ⟨u, hu⟩
   have := congrArg List.getLast? hu
   rw [List.getLast?_concat, List.getLast?_concat] at this
   exact this.symm
  ·
   intro h
   cases h
   exact ⟨t, rfl⟩
theorem sufS_spec (s : Tx) (x : UInt8) (w : World) (hs : s.length ≤ 1000000) : Calls Tryz.prog 155 #[encStr s, encStr [x]] w fun e w' => e = .returned (.bool (decide (s.getLast? = some x))) ∧ w = w' := by
 have h := Tryz.stringslite_HasSuffix ⟨s.toArray⟩ ⟨[x].toArray⟩ w (by show s.toArray.size ≤ _; simp; omega)
 have e : Lib.hasSuffix (⟨s.toArray⟩ : ByteArray).data.toList (⟨[x].toArray⟩ : ByteArray).data.toList = decide (s.getLast? = some x) := suf1 s x
 rw [e] at h
 exact h.mono fun e w' ⟨h, hw⟩ => ⟨h, hw.symm⟩
theorem trim1_le (x : UInt8) (s : Tx) : (trim1 x s).length ≤ s.length := by unfold trim1; split <;> simp
theorem bare_trim (l : Tx) : bareL l = if l.getLast? = some 10 then trim1 13 l.dropLast else l := by
 unfold bareL trim1
 rfl
set_option maxRecDepth 100000 in
theorem trimSfx_spec (s : Tx) (x : UInt8) (w : World) (hs : s.length ≤ 1000000) : Calls Tryz.prog 166 #[encStr s, encStr [x]] w fun e w' => e = .returned (encStr (trim1 x s)) ∧ w = w' := by
 refine VC.calls (nt := 16) (res := #[.tmp 4]) Tryz.func166 rfl Tryz.ntmps166 Tryz.results166 rfl ?_
 refine js (jr (ja ?_))
 refine jo (jn (jv2 0 1 ?_))
 refine js (js (jr (jm ?_)))
 refine jm ?_
 refine Ops.cl (Enters.fn (evs.cons rfl (evs.cons rfl evs.nil)) Tryz.call155) (sufS_spec s x _ hs) rfl ?_
 rintro e _ ⟨rfl, rfl⟩
 refine ⟨_, rfl, ?_⟩
 refine jo (jn (jv3 0 1 7 ?_))
 refine VC.condB rfl (fun hc1 => ?_) (fun hc1 => ?_)
 ·
  have hlast : s.getLast? = some x := of_decide_eq_true hc1
  have h0 : 0 < s.length := List.length_pos_iff.2 (fun e => by rw [e] at hlast; cases hlast)
  refine js (jr (jm ?_))
  refine jm ?_
  refine Ops.r (Run.lenT rfl Tryz.underlying9) rfl ?_
  refine jm ?_
  refine Ops.r (Run.lenT rfl Tryz.underlying9) rfl ?_
  refine Ops.r (Run.bin rfl rfl (Bin.sub_i64 s.length 1 h0 (by omega))) rfl ?_
  refine Ops.r (Run.sliceT 0 (s.length - 1) rfl Tryz.underlying9 evB.none_ (evB.some_ rfl) (Nat.zero_le _) (by omega)) rfl ?_
  refine ja ?_
  refine jo (jn (jv1 4 ?_))
  refine jt ?_
  refine thenQ_r (end1 rfl ?_)
  refine ⟨?_, rfl⟩
  unfold trim1
  rw [if_pos hlast, List.dropLast_eq_take]
  simp
 ·
  refine jk (jn (jv1 0 ?_))
  refine js (jr (jm ?_))
  refine ja ?_
  refine jo (jn (jv1 4 ?_))
  refine jt ?_
  refine end1 rfl ?_
  refine ⟨?_, rfl⟩
  unfold trim1
  rw [if_neg (of_decide_eq_false (by simpa using hc1))]
set_option maxRecDepth 100000 in
theorem trimSfxS_spec (s : Tx) (x : UInt8) (w : World) (hs : s.length ≤ 1000000) : Calls Tryz.prog 124 #[encStr s, encStr [x]] w fun e w' => e = .returned (encStr (trim1 x s)) ∧ w = w' := by
 refine VC.calls (nt := 8) (res := #[.tmp 4]) Tryz.func124 rfl Tryz.ntmps124 Tryz.results124 rfl ?_
 refine js (jr (ja ?_))
 refine jo (jn (jv2 0 1 ?_))
 refine js (jr (jm ?_))
 refine jm ?_
 refine Ops.cl (Enters.fn (evs.cons rfl (evs.cons rfl evs.nil)) Tryz.call166) (trimSfx_spec s x _ hs) rfl ?_
 rintro e _ ⟨rfl, rfl⟩
 refine ⟨_, rfl, ?_⟩
 refine ja ?_
 refine jo (jn (jv1 4 ?_))
 refine jt ?_
 refine end1 rfl ?_
 exact ⟨rfl, rfl⟩
set_option maxRecDepth 100000 in
theorem sufSS_spec (s : Tx) (x : UInt8) (w : World) (hs : s.length ≤ 1000000) : Calls Tryz.prog 211 #[encStr s, encStr [x]] w fun e w' => e = .returned (.bool (decide (s.getLast? = some x))) ∧ w = w' := by
 refine VC.calls (nt := 8) (res := #[.tmp 4]) Tryz.func211 rfl Tryz.ntmps211 Tryz.results211 rfl ?_
 refine js (jr (ja ?_))
 refine jo (jn (jv2 0 1 ?_))
 refine js (jr (jm ?_))
 refine jm ?_
 refine Ops.cl (Enters.fn (evs.cons rfl (evs.cons rfl evs.nil)) Tryz.call155) (sufS_spec s x _ hs) rfl ?_
 rintro e _ ⟨rfl, rfl⟩
 refine ⟨_, rfl, ?_⟩
 refine ja ?_
 refine jo (jn (jv1 4 ?_))
 refine jt ?_
 refine end1 rfl ?_
 exact ⟨rfl, rfl⟩
set_option maxRecDepth 100000 in
theorem writeString_spec (b B : Nat) (bs q : Tx) (p A : Option Addr) (c : Nat) (w : World) (hp : p = none ∨ p = some (⟨b, 0, none⟩ : Addr)) (hb : Blk w b 50 #[.pointer p, .slice A bs.length c]) (ho : Own w 5 1 A bs.length c (U8 bs)) (hl : bs.length ≤ 1000000) (hq : q.length ≤ 1000000) (hub : ∀ x ∈ ob A, B ≤ x) (hB : B ≤ w.heap.size) :
  Calls Tryz.prog 94 #[.pointer (some ⟨b, 0, none⟩), encStr q] w fun e w' => e = .returned (.tuple #[.int .i64 ((q.length : Nat) : Int), .nilIface]) ∧ ∃ A2 c2, Blk w' b 50 #[.pointer (some ⟨b, 0, none⟩), .slice A2 (bs ++ q).length c2] ∧ Own w' 5 1 A2 (bs ++ q).length c2 (U8 (bs ++ q)) ∧ Frm (b :: ob A) w w' ∧ ∀ y ∈ ob A2, B ≤ y := by
 refine VC.calls (nt := 19) (res := #[.tmp 4, .tmp 5]) Tryz.func94 rfl Tryz.ntmps94 Tryz.results94 rfl ?_
 refine js (jr ?_)
 refine Ops.r (v := .int .i64 ((0 : Nat) : Int)) (Run.asg rfl) rfl ?_
 refine ja ?_
 refine jo (jn (jv2 0 1 ?_))
 refine js (jr (jm ?_))
 refine Ops.cl (Enters.fn (evs.cons rfl evs.nil) Tryz.call57) (copyCheck_spec b p _ _ hp hb) rfl ?_
 rintro e w1 ⟨rfl, hb1, hf1⟩
 refine ⟨_, rfl, ?_⟩
 have ho1 := ho.frm hf1 (fun y hy => by have := ho.ne_blk hb (by decide); simp; rintro rfl; exact this hy)
 have hs1 := hf1.size
 refine jo (jn (jv2 0 1 ?_))
 refine js (jr (jm ?_))
 refine jm ?_
 refine Ops.r (Run.nilck rfl) rfl ?_
 refine Ops.r (Run.fieldAddr rfl Tryz.underlying50 rfl Tryz.sizeOf22 (by decide)) rfl ?_
 refine Ops.r (Run.load rfl Tryz.isAgg22 (hb1.cell 1)) rfl ?_
 refine jm ?_
 refine Ops.m (Does.appStr B rfl rfl Tryz.underlying22 Tryz.underlying9 (info5) ho1 hub (by omega) (by omega)) rfl ?_
 rintro _ w3 ⟨A3, c3, rfl, ho3, hf3, hob3⟩
 have hnb : b ∉ ob A := ho.ne_blk hb (by decide)
 have hb3 := hb1.frm hf3 hnb
 have hll : (bs ++ q).length = bs.length + q.length := by simp
 have ho3 : Own w3 5 1 A3 (bs ++ q).length c3 (U8 (bs ++ q)) := by
  rw [hll, show U8 (bs ++ q) = U8 bs ++ U8 q by simp [U8]]
  exact ho3
 refine Ops.r (Run.nilck rfl) rfl ?_
 refine Ops.r (Run.fieldAddr rfl Tryz.underlying50 rfl Tryz.sizeOf22 (by decide)) rfl ?_
 refine Ops.st (Acts.store rfl rfl Tryz.sizeOf22 hb3 rfl rfl) ?_
 rintro w4 ⟨hb4, hf4, _⟩
 have ho4 := ho3.frm hf4 (fun y hy => by have := ho3.ne_blk hb3 (by decide); simp; rintro rfl; exact this hy)
 refine jo (jn (jv1 1 ?_))
 refine js (jr (jm ?_))
 refine Ops.r (Run.lenT rfl Tryz.underlying9) rfl ?_
 refine ja ?_
 refine ja ?_
 refine jo (jn (jv2 4 5 ?_))
 refine jt ?_
 refine end2 rfl rfl ?_
 refine ⟨rfl, A3, c3, by rw [hll]; exact hb4, ho4, ?_, hob3⟩
 exact ((hf1.mono (T := b :: ob A) (by simp)).trans hf3 (fun y hy => .inl (by simp [hy]))).trans hf4 (fun y hy => .inl (by simp at hy; simp [hy]))
end Go.Proofs.YtenbjndldenkfaaGreatDoor
namespace Go.Proofs.YtenbjndldenkfaaGreatDoor
open Go.RowKit Go.Sort
def FC1 (f : Fld) : List Value := [encStr f.name, .int .i64 ((f.frm : Nat) : Int), .int .i64 ((f.tu : Nat) : Int), .int .i64 ((f.at_ : Nat) : Int)]
theorem FC1_len (f : Fld) : (FC1 f).length = 4 := rfl
theorem FC1_one (f : Fld) : ∀ u ∈ FC1 f, u.oneCell' = true := by
 intro u hu
 simp only [FC1, List.mem_cons, List.not_mem_nil, or_false] at hu
 rcases hu with rfl | rfl | rfl | rfl <;> rfl
def FC (l : List Fld) : List Value := l.flatMap FC1
theorem FC_append (a b : List Fld) : FC (a ++ b) = FC a ++ FC b := by simp [FC]
theorem FC_len (l : List Fld) : (FC l).length = l.length * 4 := flat_len FC1 4 FC1_len l
theorem FC_one (l : List Fld) : ∀ u ∈ FC l, u.oneCell' = true := flat_one FC1 FC1_one l
theorem FC_at {w : World} {A : Option Addr} {l : List Fld} {k : Nat} (h : Rd w 4 A l.length (FC l)) (hk : k < l.length) : ∃ ad, A = some ad ∧ ∀ j v, (FC1 l[k])[j]? = some v → w.cell? ((ad.add (k * 4)).add j) = some v := by
 obtain ⟨ad, rfl, hc⟩ := h.elem hk
 refine ⟨ad, rfl, fun j v hj => hc j v ?_⟩
 rw [show FC l = l.flatMap FC1 from rfl, flat_get FC1 4 FC1_len l k hk]
 exact hj
theorem hrdF {w w' : World} {t : TypeId} {x : Fld} (h : Fresh w w' t (FC1 x).toArray) : Rd w' 4 (some ⟨w.heap.size, 0, none⟩) 1 (FC [x]) := Rd.of_blk (n := 1) (size := 4) h.blk rfl
theorem FC_set (t : List Fld) (f : Fld) (n : Nat) : (FC (t ++ [f])).set (t.length * 4 + 2) (.int .i64 ((n : Nat) : Int)) = FC (t ++ [⟨f.name, f.frm, n, f.at_⟩]) := by
 rw [FC_append, FC_append, ← FC_len t, List.set_append_right _ _ (by omega), show (FC t).length + 2 - (FC t).length = 2 by omega]
 rfl
def FdI (w : World) (q hd : Tx) (gb g2 g3 g4 : Nat) (A : Option Addr) (c : Nat) (Bt : List Nat) (pre : List (Nat × Nat)) (W : World) : Prop :=
 ∃ (ls ls2 : List Tx) (out : List Fld) (op : Bool) (A2 : Option Addr) (c2 : Nat), linesF hd = ls ++ ls2 ∧ pre = offsF 0 ls ∧ fldL 0 false [] (linesF hd) = fldL ls.flatten.length op out ls2 ∧ (op = true → out ≠ []) ∧ out.length ≤ ls.length ∧ Frm [] w W ∧
  Blk W gb 22 #[.slice A q.length c] ∧ Blk W g2 42 #[.slice none 0 0] ∧ Blk W g3 42 #[.slice A2 out.length c2] ∧ Own W 45 4 A2 out.length c2 (FC out) ∧ Blk W g4 4 #[.bool op] ∧ ∀ x ∈ ob A2, w.heap.size ≤ x ∧ x ∉ Bt
def FdX (w : World) (q : Tx) (g2 : Nat) (Bt : List Nat) (e : Exit) (_pre : List (Nat × Nat)) (W : World) : Prop :=
 e = .ret ∧ Frm [] w W ∧ ∃ A2 c2, Blk W g2 42 #[.slice A2 (fieldsQ q).length c2] ∧ Own W 45 4 A2 (fieldsQ q).length c2 (FC (fieldsQ q)) ∧ ∀ x ∈ ob A2, w.heap.size ≤ x ∧ x ∉ Bt
theorem fld_empty {o : Nat} {op : Bool} {out : List Fld} {l : Tx} {r : List Tx} (h : EmptyL l) : fldL o op out (l :: r) = out := by rw [fldL, if_pos h]
theorem fld_blank {o : Nat} {op : Bool} {out : List Fld} {l : Tx} {r : List Tx} (h : ¬ EmptyL l) (hb : ∃ c, l.head? = some c ∧ Bl c) : fldL o op out (l :: r) = fldL (o + l.length) op (if op then setTo out (o + l.length) else out) r := by rw [fldL, if_neg h, if_pos hb]
theorem fld_no {o : Nat} {op : Bool} {out : List Fld} {l : Tx} {r : List Tx} (h : ¬ EmptyL l) (hb : ¬ ∃ c, l.head? = some c ∧ Bl c) (hn : beginQ l = none) : fldL o op out (l :: r) = fldL (o + l.length) false out r := by rw [fldL, if_neg h, if_neg hb, hn]
theorem fld_yes {o : Nat} {op : Bool} {out : List Fld} {l n : Tx} {k : Nat} {r : List Tx} (h : ¬ EmptyL l) (hb : ¬ ∃ c, l.head? = some c ∧ Bl c) (hn : beginQ l = some (n, k)) : fldL o op out (l :: r) = fldL (o + l.length) true (out ++ [⟨n, o, o + l.length, o + k⟩]) r := by rw [fldL, if_neg h, if_neg hb, hn]
set_option maxRecDepth 100000 in
theorem fields_spec (A : Option Addr) (c : Nat) (q : Tx) (w : World) (hrd0 : Rd w 1 A q.length (U8 q)) (hq : q.length ≤ 500000) (hc : q.length ≤ c) :
  Calls Tryz.prog 23 #[.slice A q.length c] w fun e w' => Frm [] w w' ∧ ∃ A2 c2, e = .returned (.slice A2 (fieldsQ q).length c2) ∧ Own w' 45 4 A2 (fieldsQ q).length c2 (FC (fieldsQ q)) ∧ ∀ x ∈ ob A2, w.heap.size ≤ x := by
 have K := Frm.refl [] w
 have hsl0 := splitQ_le q
 have hhl : (q.take (splitQ q)).length = splitQ q := by rw [List.length_take]; omega
 refine DV.calls (nt := 58) (res := #[.cell 2 42]) Tryz.func23 rfl Tryz.ntmps23 Tryz.results23 rfl ?_
 refine DV.seq ?_
 refine DV.vc ?_
 refine jr ?_
 refine Ops.m (Does.box rfl) rfl ?_
 rintro _ w1 ⟨rfl, hF_w1⟩
 have hb1 := hF_w1.blk
 have hs1_K := K.size
 have K := Frm.trans K hF_w1.frm (by simp)
 generalize hg1 : w.heap.size = g1 at hb1 hs1_K ⊢
 refine Ops.m (Does.alloc zero42) rfl ?_
 rintro _ w2 ⟨rfl, hF_w2⟩
 have hb2 := hF_w2.blk
 have hs2_K := K.size
 have lt_hb1_2 := hb1.lt
 have hb1 := hb1.frm hF_w2.frm (by simp)
 have K := Frm.trans K hF_w2.frm (by simp)
 generalize hg2 : w1.heap.size = g2 at hb2 hs2_K lt_hb1_2 ⊢
 refine jo ?_
 refine thenD_n ?_
 refine DV.sub [(1, _), (2, _)] (js2 rfl rfl) ?_
 refine DV.seq ?_
 refine DV.vc ?_
 refine jr ?_
 refine Ops.m (Does.alloc zero42) rfl ?_
 rintro _ w3 ⟨rfl, hF_w3⟩
 have hb3 := hF_w3.blk
 have hs3_K := K.size
 have lt_hb1_3 := hb1.lt
 have lt_hb2_3 := hb2.lt
 have hb1 := hb1.frm hF_w3.frm (by simp)
 have hb2 := hb2.frm hF_w3.frm (by simp)
 have K := Frm.trans K hF_w3.frm (by simp)
 generalize hg3 : w2.heap.size = g3 at hb3 hs3_K lt_hb1_3 lt_hb2_3 ⊢
 refine jo ?_
 refine thenD_n ?_
 refine DV.seq ?_
 refine DV.vc ?_
 refine jr ?_
 refine Ops.m (Does.alloc zero4) rfl ?_
 rintro _ w4 ⟨rfl, hF_w4⟩
 have hb4 := hF_w4.blk
 have hs4_K := K.size
 have lt_hb1_4 := hb1.lt
 have lt_hb2_4 := hb2.lt
 have lt_hb3_4 := hb3.lt
 have hb1 := hb1.frm hF_w4.frm (by simp)
 have hb2 := hb2.frm hF_w4.frm (by simp)
 have hb3 := hb3.frm hF_w4.frm (by simp)
 have K := Frm.trans K hF_w4.frm (by simp)
 generalize hg4 : w3.heap.size = g4 at hb4 hs4_K lt_hb1_4 lt_hb2_4 lt_hb3_4 ⊢
 refine Ops.st (Acts.store rfl rfl Tryz.sizeOf4 hb4 rfl rfl) ?_
 rintro w5 ⟨hbn_w5, hf_w5, hsz_w5⟩
 have hb1 := hb1.frm hf_w5 (by simp; omega)
 have hb2 := hb2.frm hf_w5 (by simp; omega)
 have hb3 := hb3.frm hf_w5 (by simp; omega)
 have hb4 : Blk w5 g4 4 (#[.bool false]) := hbn_w5
 have K := Frm.own K hf_w5 (fun y hy => by simp at hy; omega)
 refine jo ?_
 refine thenD_n ?_
 refine DV.seq ?_
 refine DV.seq ?_
 refine DV.vc ?_
 refine VC.held (fun W => Frm [] w5 W) jK ?_
 have hS : Frm [] w5 w5.drew := (Frm.refl [] w5).drew
 have hb1v := hb1
 have hb1 := hb1.frm hS (by simp)
 have hb2 := hb2.frm hS (by simp)
 have hb3 := hb3.frm hS (by simp)
 have hb4 := hb4.frm hS (by simp)
 have K := K.drew
 refine jh 0 rfl hS (fun w0 hw0 => Run.load rfl Tryz.isAgg22 ((hb1v.frm hw0 (by simp)).cell 0)) ?_
 refine jh 1 rfl hS (fun w0 hw0 => Run.load rfl Tryz.isAgg22 ((hb1v.frm hw0 (by simp)).cell 0)) ?_
 refine HOps.cl 2 rfl jK (Enters.fn (evs.cons rfl evs.nil) Tryz.call51) (split_spec A c q _ (hrd0.frm K (by simp)) (by omega) hc) trivial rfl rfl ?_
 rintro e w6 ⟨rfl, hf_w6⟩
 have hb1 := hb1.frm hf_w6 (by simp)
 have hb2 := hb2.frm hf_w6 (by simp)
 have hb3 := hb3.frm hf_w6 (by simp)
 have hb4 := hb4.frm hf_w6 (by simp)
 have K := Frm.trans K hf_w6 (by simp)
 have hS := Frm.trans hS hf_w6 (by simp)
 refine ⟨_, rfl, hS, ?_⟩
 refine jh 3 rfl hS (fun w0 hw0 => Run.sliceS 0 (splitQ q) rfl Tryz.underlying22 Tryz.sizeOf5 evB.none_ (evB.some_ rfl) (Nat.zero_le _) (by omega)) ?_
 rw [show splitQ q - 0 = (q.take (splitQ q)).length by rw [hhl]; rfl]
 refine HOps.cl 4 rfl jK (Enters.fn (evs.cons rfl evs.nil) Tryz.call50) (hlines_spec (cutA A c 0 1) (q.take (splitQ q)).length (c - 0) _) trivial rfl rfl ?_
 rintro e w7 ⟨hf_w7, gl, rfl, hpl, hgl, hgl2⟩
 have l1 := hb1.lt
 have l2 := hb2.lt
 have l3 := hb3.lt
 have l4 := hb4.lt
 have hb1 := hb1.frm hf_w7 (by simp)
 have hb2 := hb2.frm hf_w7 (by simp)
 have hb3 := hb3.frm hf_w7 (by simp)
 have hb4 := hb4.frm hf_w7 (by simp)
 have K := Frm.trans K hf_w7 (by simp)
 have hS := Frm.trans hS hf_w7 (by simp)
 have hA : 0 < q.length → ∀ x ∈ ob A, x < w.heap.size := fun hn => hrd0.lt hn
 have hrh : Rd w 1 (cutA A c 0 1) (q.take (splitQ q)).length (U8 (q.take (splitQ q))) := by
  have := U8_cut hrd0 (Nat.zero_le _) hsl0 hc
  rwa [show sliceQ q 0 (splitQ q) = q.take (splitQ q) by unfold sliceQ; simp] at this
 have hAh : ∀ x ∈ obN (cutA A c 0 1) (q.take (splitQ q)).length, x < w.heap.size := fun x hx => by
  obtain ⟨hn, hx2⟩ := obN_mem hx
  rw [ob_cutA] at hx2
  exact hA (by omega) x hx2
 refine ⟨_, rfl, hS, ?_⟩
 refine HOps.done jK ?_
 refine thenD_n ?_
 refine DV.sub [(1, _), (2, _), (3, _), (4, _), (15, _)] (js5 rfl rfl rfl rfl rfl) ?_
 refine DV.block ?_
 have hKs := K.size
 refine DV.range (ps := [16, 17]) (fun x : Nat × Nat => [.int .i64 ((x.1 : Nat) : Int), .int .i64 ((x.2 : Nat) : Int)]) (hlines_iter (q.take (splitQ q)) (cutA A c 0 1) (c - 0) gl (by omega) (by omega)) rfl Tryz.call86 (fun _ => rfl) rfl (FdI w q (q.take (splitQ q)) g1 g2 g3 g4 A c (gl :: obN (cutA A c 0 1) (q.take (splitQ q)).length)) (FdX w q g2 (gl :: obN (cutA A c 0 1) (q.take (splitQ q)).length)) (fun x => [(1, .pointer (some ⟨g1, 0, none⟩)), (2, .pointer (some ⟨g2, 0, none⟩)), (3, .pointer (some ⟨g3, 0, none⟩)), (4, .pointer (some ⟨g4, 0, none⟩)), (5, .int .i64 ((x.1 : Nat) : Int)), (6, .int .i64 ((x.2 : Nat) : Int))]) ?_ ?_ ?_ ?_ ?_ ?_ ?_ ?_ ?_ ?_ ?_
 ·
  rintro pre W W' S ⟨ls, ls2, outs, op, A2, c2, h1, h2, h3, h4, h5, h6, h7, h8, h9, h10, h11, h12⟩ hf hS
  exact ⟨ls, ls2, outs, op, A2, c2, h1, h2, h3, h4, h5, h6.nc hf hS (by simp) K.size, h7.frm hf (h7.nc hS (by simp)), h8.frm hf (h8.nc hS (by simp)), h9.frm hf (h9.nc hS (by simp)), h10.frm hf (h10.nc hS (by simp)), h11.frm hf (h11.nc hS (by simp)), h12⟩
 ·
  rintro e pre W W' S ⟨h1, h2, A2, c2, h3, h4, h5⟩ hf hS
  exact ⟨h1, h2.nc hf hS (by simp) K.size, A2, c2, h3.frm hf (h3.nc hS (by simp)), h4.frm hf (h4.nc hS (by simp)), h5⟩
 ·
  exact fun W hf => ⟨hpl.frm hf (by simp), (hrh.frm K (by simp)).frm hf (by simp)⟩
 ·
  simp
 ·
  intro b hb
  simp only [List.mem_cons] at hb
  rcases hb with rfl | hb
  ·
   exact hgl2
  ·
   have := hAh b hb; omega
 ·
  exact ⟨[], linesF (q.take (splitQ q)), [], false, none, 0, rfl, rfl, rfl, (fun h => by cases h), by simp, K, hb1, hb2, hb3, Own.nil _ _ _, hb4, by simp [ob]⟩
 ·
  intro l x W
  refine jv6 1 2 3 4 16 17 ?_
  refine js (jr (ja ?_))
  refine jo (jn (jv6 1 2 3 4 5 17 ?_))
  refine jr (ja ?_)
  refine jo ?_
  refine jn ⟨rfl, (js6 rfl rfl rfl rfl rfl rfl)⟩
 ·
  rintro l pre x W ⟨ls, ls2, outs, op, A2, c2, hls, hpr, hfl, hop, hol2, K, hb1, hb2, hb3, hO, hb4, hAB⟩ hpre hsz hmk
  obtain ⟨ll, rest, hl2, hx, hpe, hnl, hsl, hx1, hx2, hne, hxe⟩ := lines_next hls hpr hpre
  have hxo : ls.flatten.length + ll.length = (ls ++ [ll]).flatten.length := by simp
  have hx1e : x.1 = ls.flatten.length := by rw [hx]
  have hx2s : x.2 ≤ splitQ q := by omega
  have hll : x.2 - x.1 = ll.length := by rw [hx]; omega
  have hslq : sliceQ q x.1 x.2 = ll := by
   rw [← hsl]
   unfold sliceQ
   rw [List.drop_take, List.take_take, Nat.min_eq_left (by omega)]
  have hcut : Rd W 1 (cutA A c x.1 1) ll.length (U8 ll) := by
   have := U8_cut (hrd0.frm K (by simp)) hx1 (by omega) hc
   rwa [hslq] at this
  have hlc := linesF_count (q.take (splitQ q))
  rw [hls] at hlc
  simp only [List.length_append] at hlc
  have hn2 : g2 ∉ (gl :: obN (cutA A c 0 1) (q.take (splitQ q)).length) := by
   simp only [List.mem_cons, not_or]
   exact ⟨by omega, fun hm => by have := hAh _ hm; omega⟩
  have hn3 : g3 ∉ (gl :: obN (cutA A c 0 1) (q.take (splitQ q)).length) := by
   simp only [List.mem_cons, not_or]
   exact ⟨by omega, fun hm => by have := hAh _ hm; omega⟩
  have hn4 : g4 ∉ (gl :: obN (cutA A c 0 1) (q.take (splitQ q)).length) := by
   simp only [List.mem_cons, not_or]
   exact ⟨by omega, fun hm => by have := hAh _ hm; omega⟩
  have h20 := hb2
  have h30 := hb3
  have h40 := hb4
  have hO0 := hO
  refine jb (js (jr ?_))
  refine Ops.r (Run.load rfl Tryz.isAgg22 (hb1.cell 0)) rfl ?_
  refine jm ?_
  refine jm ?_
  refine Ops.r (Run.sliceS x.1 x.2 rfl Tryz.underlying22 Tryz.sizeOf5 (evB.some_ rfl) (evB.some_ rfl) (by omega) (by omega)) rfl ?_
  rw [hll]
  refine ja ?_
  refine jo (jn (jv6 2 3 4 5 6 7 ?_))
  refine js (jb (js (jr (jm ?_))))
  refine Ops.cl (Enters.fn (evs.cons rfl evs.nil) Tryz.call52) (empty_spec _ _ ll _ hcut) rfl ?_
  rintro e _ ⟨rfl, rfl⟩
  refine ⟨_, rfl, ?_⟩
  refine ja ?_
  refine jo (jn (jv7 2 3 4 5 6 7 22 ?_))
  refine VC.condB rfl (fun hc1 => ?_) (fun hc1 => ?_)
  ·
   refine js (jr ?_)
   refine Ops.r (Run.load rfl Tryz.isAgg42 (hb3.cell 0)) rfl ?_
   refine Ops.st (Acts.store rfl rfl Tryz.sizeOf42 hb2 rfl rfl) ?_
   rintro W3 ⟨hb2n, hf3, _⟩
   refine jo (jn (jv1 2 ?_))
   refine jt ?_
   refine blockQ_r (thenQ_r (blockQ_r (?_)))
   have hem : EmptyL ll := of_decide_eq_true hc1
   have hfin : fieldsQ q = outs := by unfold fieldsQ; rw [hfl, hl2, fld_empty hem]
   refine ⟨⟨[g2], ((Frm.refl [] W).mono (T := [g2]) (by simp)).trans hf3 (by simp), ?_⟩, rfl, Frm.own K hf3 (fun y hy => by simp at hy; omega), A2, c2, ?_, ?_, hAB⟩
   ·
    intro b hb
    simp only [List.mem_singleton] at hb
    subst hb
    exact ⟨hn2, h20.isC⟩
   ·
    rw [hfin]; exact hb2n
   ·
    rw [hfin]; exact hO.frm hf3 (fun y hy => by have := hO.ne_blk hb2 (by decide); simp; rintro rfl; exact this hy)
  ·
   have hnem : ¬ EmptyL ll := of_decide_eq_false hc1
   obtain ⟨z, lt, rfl⟩ : ∃ z lt, ll = z :: lt := by
    cases ll with
    | nil => exact absurd rfl hne
    | cons a r => exact ⟨a, r, rfl⟩
   obtain ⟨adz, hAz, hcz⟩ := U8_at hcut (k := 0) (by simp)
   have hcz : W.cell? (adz.add 0) = some (.int .u8 ((z.toNat : Nat) : Int)) := hcz
   refine js (jr (jm ?_))
   refine Ops.r (Run.index1 0 (by rw [← hAz]; rfl) rfl Tryz.underlying22 Tryz.sizeOf5 (by simp)) rfl ?_
   refine Ops.r (Run.load rfl Tryz.isAgg5 hcz) rfl ?_
   refine Ops.cl (Enters.fn (evs.cons rfl evs.nil) Tryz.call53) (hblank_spec z _) rfl ?_
   rintro e _ ⟨rfl, rfl⟩
   refine ⟨_, rfl, ?_⟩
   refine ja ?_
   refine jo (jn (jv6 3 4 5 6 7 26 ?_))
   refine VC.condB rfl (fun hc2 => ?_) (fun hc2 => ?_)
   ·
    have hbl : ∃ c, (z :: lt).head? = some c ∧ Bl c := ⟨z, rfl, of_decide_eq_true hc2⟩
    rw [hl2, fld_blank hnem hbl] at hfl
    refine js (js (jr ?_))
    refine Ops.r (Run.load rfl Tryz.isAgg4 (hb4.cell 0)) rfl ?_
    refine jo (jn (jv3 3 6 31 ?_))
    refine VC.condB rfl (fun hc3 => ?_) (fun hc3 => ?_)
    ·
     subst hc3
     obtain ⟨t, f, rfl⟩ : ∃ t f, outs = t ++ [f] := by
      rcases List.eq_nil_or_concat outs with h | ⟨t, f, h⟩
      ·
       exact absurd h (hop rfl)
      ·
       exact ⟨t, f, by rw [h, List.concat_eq_append]⟩
     rw [if_pos rfl, setTo_snoc, hxo] at hfl
     have hpos : 0 < (t ++ [f]).length := by simp
     obtain ⟨ad2, rfl, _⟩ := FC_at hO.rd hpos
     have hol : (t ++ [f]).length = t.length + 1 := by simp
     refine jr ?_
     refine Ops.r (Run.load rfl Tryz.isAgg42 (hb3.cell 0)) rfl ?_
     refine Ops.r (Run.load rfl Tryz.isAgg42 (hb3.cell 0)) rfl ?_
     refine Ops.r (Run.lenS rfl Tryz.underlying42) rfl ?_
     refine Ops.r (Run.bin rfl rfl (Bin.subN (t ++ [f]).length 1 (by omega) (by simp [bmax]; omega))) rfl ?_
     refine jm ?_
     refine Ops.r (Run.indexS ((t ++ [f]).length - 1) rfl rfl Tryz.underlying42 Tryz.sizeOf45 (show (t ++ [f]).length - 1 < (t ++ [f]).length by omega)) rfl ?_
     refine Ops.r (Run.fieldAddr rfl Tryz.underlying45 rfl Tryz.sizeOf3 (by decide)) rfl ?_
     refine Ops.st (Acts.storeOwn (((t ++ [f]).length - 1) * 4 + 2) (congrArg (fun a => some (Value.pointer (some a))) (add_add ad2 _ 2)) rfl Tryz.sizeOf3 hO rfl (by omega) rfl) ?_
     rintro W4 ⟨hO4, hf4, _⟩
     rw [show ((t ++ [f]).length - 1) * 4 + 2 = t.length * 4 + 2 by rw [hol]; rfl, FC_set] at hO4
     have hO4 : Own W4 45 4 (some ad2) (t ++ [(⟨f.name, f.frm, x.2, f.at_⟩ : Fld)]).length c2 (FC (t ++ [⟨f.name, f.frm, x.2, f.at_⟩])) := by
      rw [show (t ++ [(⟨f.name, f.frm, x.2, f.at_⟩ : Fld)]).length = (t ++ [f]).length by simp]
      exact hO4
     rw [hxe] at hO4
     refine jo (jn ?_)
     refine VC.sub [] .nil ?_
     refine jx ?_
     refine blockQ_o rfl (thenQ_x (blockQ_x ?_))
     refine ⟨⟨ob (some ad2), hf4, fun b hb => ⟨(hAB b hb).2, hO0.isC b hb⟩⟩, ls ++ [z :: lt], rest, _, true, some ad2, c2, hnl, hpe, hfl, (fun _ => by simp), by simp at hol2 ⊢; omega, Frm.own K hf4 (fun y hy => (hAB y hy).1), ?_, ?_, ?_, hO4, ?_, hAB⟩
     ·
      exact hb1.frm hf4 (hO.ne_blk hb1 (by decide))
     ·
      exact hb2.frm hf4 (hO.ne_blk hb2 (by decide))
     ·
      rw [show (t ++ [(⟨f.name, f.frm, (ls ++ [z :: lt]).flatten.length, f.at_⟩ : Fld)]).length = (t ++ [f]).length by simp]
      exact hb3.frm hf4 (hO.ne_blk hb3 (by decide))
     ·
      exact hb4.frm hf4 (hO.ne_blk hb4 (by decide))
    ·
     subst hc3
     rw [if_neg (by simp), hxo] at hfl
     refine jk (jn ?_)
     refine VC.sub [] .nil ?_
     refine jx ?_
     refine blockQ_o rfl (thenQ_x (blockQ_x ?_))
     exact ⟨.frm0 (Frm.refl _ _), ls ++ [z :: lt], rest, outs, false, A2, c2, hnl, hpe, hfl, (fun h => by cases h), by simp; omega, K, hb1, hb2, hb3, hO, hb4, hAB⟩
   ·
    have hnb : ¬ ∃ c, (z :: lt).head? = some c ∧ Bl c := fun ⟨c, h1, h2⟩ => by cases h1; exact absurd h2 (of_decide_eq_false hc2)
    have hfl0 := hfl
    rw [hl2] at hfl0
    refine jk ?_
    refine blockQ_n (jn ?_)
    refine jv5 3 4 5 6 7 ?_
    refine js (jr (jm ?_))
    refine Ops.cl (Enters.fn (evs.cons rfl evs.nil) Tryz.call54) (begin_spec _ _ (z :: lt) _ hcut (by omega) (by omega)) rfl ?_
    rintro e _ ⟨rfl, rfl⟩
    refine ⟨_, rfl, ?_⟩
    have hbV : beginV (z :: lt) = match beginQ (z :: lt) with
     | none => .tuple #[encStr [], .int .i64 ((0 : Nat) : Int), .bool false]
     | some (n, k) => .tuple #[encStr n, .int .i64 ((k : Nat) : Int), .bool true] := rfl
    obtain ⟨nm, at_, isb, hbe, hbi⟩ : ∃ (nm : Tx) (k : Nat) (b : Bool), beginV (z :: lt) = .tuple #[encStr nm, .int .i64 ((k : Nat) : Int), .bool b] ∧ ((b = true ∧ beginQ (z :: lt) = some (nm, k)) ∨ (b = false ∧ beginQ (z :: lt) = none ∧ k = 0)) := by
     rw [hbV]
     cases hq2 : beginQ (z :: lt) with
     | none => exact ⟨[], 0, false, rfl, .inr ⟨rfl, rfl, rfl⟩⟩
     | some p => exact ⟨p.1, p.2, true, rfl, .inl ⟨rfl, rfl⟩⟩
    rw [hbe]
    refine jm ?_
    refine Ops.r (Run.extract rfl rfl) rfl ?_
    refine Ops.r (Run.extract rfl rfl) rfl ?_
    refine Ops.r (Run.extract rfl rfl) rfl ?_
    refine ja ?_
    refine ja ?_
    refine ja ?_
    refine jo (jn (jv7 3 4 5 6 8 9 10 ?_))
    refine js (jr (jm ?_))
    refine Ops.st (Acts.store rfl rfl Tryz.sizeOf4 hb4 rfl rfl) ?_
    rintro W5 ⟨hb4n, hf5, _⟩
    have hb4n : Blk W5 g4 4 #[.bool isb] := hb4n
    have hb1 := hb1.frm hf5 (by simp; omega)
    have hb2 := hb2.frm hf5 (by simp; omega)
    have hb3 := hb3.frm hf5 (by simp; omega)
    have hO := hO.frm hf5 (fun y hy => by have := hO.ne_blk hb4 (by decide); simp; rintro rfl; exact this hy)
    have K := Frm.own K hf5 (fun y hy => by simp at hy; omega)
    have KW := ((Frm.refl [] W).mono (T := [g4]) (by simp)).trans hf5 (by simp)
    refine jo (jn (jv6 3 5 6 8 9 10 ?_))
    refine js (jr (jm ?_))
    refine jo (jn (jv6 3 5 6 8 9 46 ?_))
    refine VC.condB rfl (fun hc4 => ?_) (fun hc4 => ?_)
    ·
     subst hc4
     have hbq := (hbi.resolve_right (fun h => by cases h.1)).2
     have hbl := beginQ_lt hbq
     rw [fld_yes hnem hnb hbq, hxo, ← hx1e, ← hxe] at hfl0
     refine jr ?_
     refine Ops.r (Run.load rfl Tryz.isAgg42 (hb3.cell 0)) rfl ?_
     refine jm ?_
     refine jm ?_
     refine jm ?_
     refine jm ?_
     refine jm ?_
     refine Ops.r (Run.bin rfl rfl (Bin.add_i64 _ _ (by omega))) rfl ?_
     refine Ops.r (Run.build (evs.cons rfl (evs.cons rfl (evs.cons rfl (evs.cons rfl evs.nil)))) zero45 (places45).choose_spec.1 (places45).choose_spec.2 rfl) rfl ?_
     refine Ops.m (Does.buildS1 rfl Tryz.underlying42 Tryz.sizeOf45 zero45 (by decide) (by decide) rfl rfl) rfl ?_
     rintro _ W6 ⟨rfl, hF6⟩
     have hrd6 := hrdF (x := ⟨nm, x.1, x.2, x.1 + at_⟩) hF6
     have hO := hO.frm hF6.frm (by simp)
     have hb1 := hb1.frm hF6.frm (by simp)
     have hb2 := hb2.frm hF6.frm (by simp)
     have hb3 := hb3.frm hF6.frm (by simp)
     have hb4n := hb4n.frm hF6.frm (by simp)
     have K := K.trans hF6.frm (by simp)
     have KW := KW.trans hF6.frm (by simp)
     refine Ops.m (Does.app rfl rfl Tryz.underlying42 (info45) rfl (by decide) hO hrd6 (FC_one _) (by omega) (by omega)) rfl ?_
     rintro _ W7 ⟨A7, c7, rfl, hO7, hf7, hob7⟩
     rw [← FC_append] at hO7
     have hne3 : ∀ y ∈ ob A2, y ≠ g1 ∧ y ≠ g2 ∧ y ≠ g3 ∧ y ≠ g4 := fun y hy => ⟨by rintro rfl; exact hO.ne_blk hb1 (by decide) hy, by rintro rfl; exact hO.ne_blk hb2 (by decide) hy, by rintro rfl; exact hO.ne_blk hb3 (by decide) hy, by rintro rfl; exact hO.ne_blk hb4n (by decide) hy⟩
     have hb1 := hb1.frm hf7 (fun hy => (hne3 _ hy).1 rfl)
     have hb2 := hb2.frm hf7 (fun hy => (hne3 _ hy).2.1 rfl)
     have hb3 := hb3.frm hf7 (fun hy => (hne3 _ hy).2.2.1 rfl)
     have hb4n := hb4n.frm hf7 (fun hy => (hne3 _ hy).2.2.2 rfl)
     have K0 := K
     have K := Frm.own K hf7 (fun y hy => (hAB y hy).1)
     refine Ops.st (Acts.store rfl rfl Tryz.sizeOf42 hb3 rfl rfl) ?_
     rintro W8 ⟨hb3n, hf8, _⟩
     refine jo ?_
     refine blockQ_n (?_)
     refine ⟨⟨[g4] ++ ob A2 ++ [g3], ?_, ?_⟩, ls ++ [z :: lt], rest, _, true, A7, c7, hnl, hpe, (by rw [← hxe]; exact hfl0), (fun _ => by simp), by simp; omega, Frm.own K hf8 (fun y hy => by simp at hy; omega), hb1.frm hf8 (by simp; omega), hb2.frm hf8 (by simp; omega), ?_, ?_, hb4n.frm hf8 (by simp; omega), ?_⟩
     ·
      exact ((KW.mono (T := [g4] ++ ob A2 ++ [g3]) (by simp)).trans hf7 (fun y hy => .inl (by simp [hy]))).trans hf8 (fun y hy => .inl (by simp at hy; simp [hy]))
     ·
      intro b hb
      rcases List.mem_append.1 hb with hb | hb
      ·
       rcases List.mem_append.1 hb with hb | hb
       ·
        simp only [List.mem_singleton] at hb; subst hb; exact ⟨hn4, h40.isC⟩
       ·
        exact ⟨(hAB b hb).2, hO0.isC b hb⟩
      ·
       simp only [List.mem_singleton] at hb; subst hb; exact ⟨hn3, h30.isC⟩
     ·
      rw [List.length_append]; exact hb3n
     ·
      rw [List.length_append]
      exact hO7.frm hf8 (fun y hy => by have := hO7.ne_blk hb3 (by decide); simp; rintro rfl; exact this hy)
     ·
      intro y hy
      rcases hob7 with h | h
      ·
       rw [h] at hy; exact hAB y hy
      ·
       rw [h] at hy
       simp only [List.mem_singleton] at hy
       have h1 := K0.size
       have h2 := KW.size
       subst hy
       refine ⟨h1, ?_⟩
       simp only [List.mem_cons, not_or]
       exact ⟨by omega, fun hm => by have := hAh _ hm; have := hKs; omega⟩
    ·
     subst hc4
     have hbq := (hbi.resolve_left (fun h => by cases h.1)).2.1
     rw [fld_no hnem hnb hbq, hxo] at hfl0
     refine jk ?_
     refine blockQ_n (?_)
     refine ⟨⟨[g4], KW, ?_⟩, ls ++ [z :: lt], rest, outs, false, A2, c2, hnl, hpe, hfl0, (fun h => by cases h), by simp; omega, K, hb1, hb2, hb3, hO, hb4n, hAB⟩
     intro b hb
     simp only [List.mem_singleton] at hb
     subst hb
     exact ⟨hn4, h40.isC⟩
 ·
  rintro W ⟨ls, ls2, outs, op, A2, c2, hls, hpr, hfl, hop, hol2, K, hb1, hb2, hb3, hO, hb4, hAB⟩ hsz hmk
  have hfin : fieldsQ q = outs := by
   have e := lines_done hls hpr
   rw [← List.append_nil ls] at e
   have e2 : ls2 = [] := by
    have h1 := hls
    rw [← e, List.append_nil] at h1
    exact List.append_right_eq_self.1 h1.symm
   unfold fieldsQ
   rw [hfl, e2]
   rfl
  refine blockD_n (thenD_n ?_)
  refine DV.sub [(2, _), (3, _)] (js2 rfl rfl) ?_
  refine DV.seq ?_
  refine DV.vc ?_
  refine jr ?_
  refine Ops.r (Run.load rfl Tryz.isAgg42 (hb3.cell 0)) rfl ?_
  refine Ops.st (Acts.store rfl rfl Tryz.sizeOf42 hb2 rfl rfl) ?_
  rintro V1 ⟨hb2n, hf_V1, _⟩
  have hmk := hmk.frm hf_V1 (by simp; exact hmk.ne_blk hb2)
  have hO := hO.frm hf_V1 (fun y hy => by have := hO.ne_blk hb2 (by decide); simp; rintro rfl; exact this hy)
  have K := Frm.own K hf_V1 (fun y hy => by simp at hy; omega)
  refine jo ?_
  refine thenD_n ?_
  refine DV.sub [(2, _)] (js1 rfl) ?_
  refine DV.vc (jt ?_)
  refine endD_r (by simp) (fun d hd => by simp only [List.mem_singleton] at hd; subst hd; exact hmk) (fun wz hsh => ?_)
  have hb2n := hb2n.frm hsh (by simp; omega)
  have hO := hO.frm hsh (fun y hy => by have := hmk.ne_own hO; simp; rintro rfl; exact this hy)
  have K := Frm.own K hsh (fun y hy => by have := hKs; simp at hy; omega)
  refine endR ?_
  refine res_cell rfl Tryz.isAgg42 (hb2n.cell 0) ?_
  refine res_nil ?_
  rw [hfin]
  exact ⟨K, A2, c2, rfl, hO, fun x hx => by have := (hAB x hx).1; omega⟩
 ·
  rintro pre W ⟨_, K, A2, c2, hb2, hO, hAB⟩ hsz hmk
  refine blockD_r (thenD_r (endD_r (by simp) (fun d hd => by simp only [List.mem_singleton] at hd; subst hd; exact hmk) (fun wz hsh => ?_)))
  have hb2 := hb2.frm hsh (by simp; omega)
  have hO := hO.frm hsh (fun y hy => by have := hmk.ne_own hO; simp; rintro rfl; exact this hy)
  have K := Frm.own K hsh (fun y hy => by have := hKs; simp at hy; omega)
  refine endR ?_
  refine res_cell rfl Tryz.isAgg42 (hb2.cell 0) ?_
  refine res_nil ?_
  exact ⟨K, A2, c2, rfl, hO, fun x hx => by have := (hAB x hx).1; omega⟩
 ·
  exact fun _ _ _ h => absurd h.1 (by simp)
end Go.Proofs.YtenbjndldenkfaaGreatDoor
namespace Go.Proofs.YtenbjndldenkfaaGreatDoor
open Go.RowKit Go.Sort
theorem slice_slice {q : Tx} {a b c d : Nat} (h : a + d ≤ b) : sliceQ (sliceQ q a b) c d = sliceQ q (a + c) (a + d) := by
 unfold sliceQ
 rw [List.drop_take, List.take_take, List.drop_drop, show a + d - (a + c) = d - c by omega, Nat.min_eq_left (by omega)]
theorem slice_get {q : Tx} {a b j : Nat} (h : j < b - a) : (sliceQ q a b)[j]? = q[a + j]? := by
 unfold sliceQ
 rw [List.getElem?_take, if_pos h, List.getElem?_drop]
theorem bare_yes (t : Tx) : bareL (t ++ [10]) = trim1 13 (trim1 10 (t ++ [10])) := by
 have e : trim1 10 (t ++ [10]) = (t ++ [10]).dropLast := by unfold trim1; rw [List.getLast?_concat, if_pos rfl]
 rw [bare_trim, List.getLast?_concat, if_pos rfl, e]
theorem bare_no {t : Tx} {z : UInt8} (h : z ≠ 10) : bareL (t ++ [z]) = trim1 10 (t ++ [z]) := by
 unfold trim1
 rw [bare_trim, List.getLast?_concat, if_neg (fun e => h (Option.some.inj e)), if_neg (fun e => h (Option.some.inj e))]
def txB (ls : List Tx) : Tx := (ls.map bareL).flatten
theorem txB_snoc (ls : List Tx) (l : Tx) : txB (ls ++ [l]) = txB ls ++ bareL l := by simp [txB]
theorem txB_len (ls : List Tx) : (txB ls).length ≤ ls.flatten.length := flat_map_len bareL_le ls
def TxI (w : World) (q sl : Tx) (f : Fld) (g2 g3 g5 wB : Nat) (A : Option Addr) (c : Nat) (pre : List (Nat × Nat)) (W : World) : Prop :=
 ∃ (ls ls2 : List Tx) (p A2 : Option Addr) (c2 : Nat), linesF sl = ls ++ ls2 ∧ pre = offsF 0 ls ∧ (p = none ∨ p = some (⟨g5, 0, none⟩ : Addr)) ∧ Frm [] w W ∧
  Blk W g2 22 #[.slice A q.length c] ∧ Blk W g3 45 (FC1 f).toArray ∧ Blk W g5 50 #[.pointer p, .slice A2 (txB ls).length c2] ∧ Own W 5 1 A2 (txB ls).length c2 (U8 (txB ls)) ∧ ∀ x ∈ ob A2, wB ≤ x
set_option maxRecDepth 100000 in
theorem text_spec (A : Option Addr) (c : Nat) (q : Tx) (f : Fld) (w : World) (hrd0 : Rd w 1 A q.length (U8 q)) (hq : q.length ≤ 500000) (hc : q.length ≤ c) (hf1 : f.at_ ≤ f.tu) (hf2 : f.tu ≤ q.length) :
  Calls Tryz.prog 90 #[.slice A q.length c, .agg (FC1 f).toArray] w fun e w' => e = .returned (encStr (textQ q f)) ∧ Frm [] w w' := by
 have K := Frm.refl [] w
 refine DV.calls (nt := 54) (res := #[.tmp 4]) Tryz.func90 rfl Tryz.ntmps90 Tryz.results90 rfl ?_
 refine DV.seq ?_
 refine DV.vc ?_
 refine jr ?_
 refine Ops.m (Does.box rfl) rfl ?_
 rintro _ w1 ⟨rfl, hF_w1⟩
 have hb2 := hF_w1.blk
 have hs2_K := K.size
 have K := Frm.trans K hF_w1.frm (by simp)
 generalize hg2 : w.heap.size = g2 at hb2 hs2_K ⊢
 refine Ops.m (Does.box rfl) rfl ?_
 rintro _ w2 ⟨rfl, hF_w2⟩
 have hb3 := hF_w2.blk
 have hs3_K := K.size
 have lt_hb2_3 := hb2.lt
 have hb2 := hb2.frm hF_w2.frm (by simp)
 have K := Frm.trans K hF_w2.frm (by simp)
 generalize hg3 : w1.heap.size = g3 at hb3 hs3_K lt_hb2_3 ⊢
 refine ja ?_
 refine jo ?_
 refine thenD_n ?_
 refine DV.sub [(2, _), (3, _), (4, _)] (js3 rfl rfl rfl) ?_
 refine DV.seq ?_
 refine DV.vc ?_
 refine jr ?_
 refine Ops.m (Does.alloc zero50) rfl ?_
 rintro _ w3 ⟨rfl, hF_w3⟩
 have hb5 := hF_w3.blk
 have hs5_K := K.size
 have lt_hb2_5 := hb2.lt
 have lt_hb3_5 := hb3.lt
 have hb2 := hb2.frm hF_w3.frm (by simp)
 have hb3 := hb3.frm hF_w3.frm (by simp)
 have K := Frm.trans K hF_w3.frm (by simp)
 generalize hg5 : w2.heap.size = g5 at hb5 hs5_K lt_hb2_5 lt_hb3_5 ⊢
 refine jo ?_
 refine thenD_n ?_
 refine DV.seq ?_
 refine DV.seq ?_
 refine DV.vc ?_
 refine jr ?_
 refine Ops.r (Run.load rfl Tryz.isAgg22 (hb2.cell 0)) rfl ?_
 refine Ops.r (Run.fieldAddr rfl Tryz.underlying45 rfl Tryz.sizeOf3 (by decide)) rfl ?_
 refine Ops.r (Run.load rfl Tryz.isAgg3 (hb3.cell 3)) rfl ?_
 refine Ops.r (Run.fieldAddr rfl Tryz.underlying45 rfl Tryz.sizeOf3 (by decide)) rfl ?_
 refine Ops.r (Run.load rfl Tryz.isAgg3 (hb3.cell 2)) rfl ?_
 refine Ops.r (Run.sliceS f.at_ f.tu rfl Tryz.underlying22 Tryz.sizeOf5 (evB.some_ rfl) (evB.some_ rfl) hf1 (by omega)) rfl ?_
 rw [show f.tu - f.at_ = (sliceQ q f.at_ f.tu).length from (sliceQ_len hf2).symm]
 refine Ops.cl (Enters.fn (evs.cons rfl evs.nil) Tryz.call50) (hlines_spec (cutA A c f.at_ 1) (sliceQ q f.at_ f.tu).length (c - f.at_) _) rfl ?_
 rintro e w4 ⟨hf_w4, gl, rfl, hpl, hgl, hgl2⟩
 have l2 := hb2.lt
 have l3 := hb3.lt
 have l5 := hb5.lt
 refine ⟨_, rfl, ?_⟩
 have hb2 := hb2.frm hf_w4 (by simp)
 have hb3 := hb3.frm hf_w4 (by simp)
 have hb5 := hb5.frm hf_w4 (by simp)
 have K := Frm.trans K hf_w4 (by simp)
 have hA : 0 < q.length → ∀ x ∈ ob A, x < w.heap.size := fun hn => hrd0.lt hn
 have hsll := sliceQ_len (a := f.at_) hf2
 have hrh : Rd w 1 (cutA A c f.at_ 1) (sliceQ q f.at_ f.tu).length (U8 (sliceQ q f.at_ f.tu)) := U8_cut hrd0 hf1 hf2 hc
 have hAh : ∀ x ∈ obN (cutA A c f.at_ 1) (sliceQ q f.at_ f.tu).length, x < w.heap.size := fun x hx => by
  obtain ⟨hn, hx2⟩ := obN_mem hx
  rw [ob_cutA] at hx2
  exact hA (by omega) x hx2
 generalize hsl0 : sliceQ q f.at_ f.tu = sl at *
 refine jo ?_
 refine thenD_n ?_
 refine DV.sub [(2, _), (3, _), (4, _), (5, _), (15, _)] (js5 rfl rfl rfl rfl rfl) ?_
 refine DV.block ?_
 have hKs := K.size
 refine DV.range (ps := [16, 17]) (fun x : Nat × Nat => [.int .i64 ((x.1 : Nat) : Int), .int .i64 ((x.2 : Nat) : Int)]) (hlines_iter sl (cutA A c f.at_ 1) (c - f.at_) gl (by omega) (by omega)) rfl Tryz.call86 (fun _ => rfl) rfl (TxI w q sl f g2 g3 g5 w4.heap.size A c) (fun _ _ _ => False) (fun x => [(2, .pointer (some ⟨g2, 0, none⟩)), (3, .pointer (some ⟨g3, 0, none⟩)), (5, .pointer (some ⟨g5, 0, none⟩)), (6, .int .i64 ((x.1 : Nat) : Int)), (7, .int .i64 ((x.2 : Nat) : Int))]) ?_ ?_ ?_ ?_ ?_ ?_ ?_ ?_ ?_ ?_ ?_
 ·
  rintro pre W W' S ⟨ls, ls2, p, A2, c2, h1, h2, h3, h4, h5, h6, h7, h8, h9⟩ hf hS
  exact ⟨ls, ls2, p, A2, c2, h1, h2, h3, h4.nc hf hS (by simp) K.size, h5.frm hf (h5.nc hS (by simp)), h6.frm hf (h6.nc hS (by simp)), h7.frm hf (h7.nc hS (by simp)), h8.frm hf (h8.nc hS (by simp)), h9⟩
 ·
  exact fun _ _ _ _ _ h => h.elim
 ·
  exact fun W hf => ⟨hpl.frm hf (by simp), (hrh.frm K (by simp)).frm hf (by simp)⟩
 ·
  simp
 ·
  intro b hb
  simp only [List.mem_cons] at hb
  rcases hb with rfl | hb
  ·
   exact hgl2
  ·
   have := hAh b hb; omega
 ·
  exact ⟨[], linesF sl, none, none, 0, rfl, rfl, .inl rfl, K, hb2, hb3, hb5, Own.nil _ _ _, by simp [ob]⟩
 ·
  intro l x W
  refine jv5 2 3 5 16 17 ?_
  refine js (jr (ja ?_))
  refine jo (jn (jv5 2 3 5 6 17 ?_))
  refine jr (ja ?_)
  refine jo ?_
  refine jn ⟨rfl, (js5 rfl rfl rfl rfl rfl)⟩
 ·
  rintro l pre x W ⟨ls, ls2, p, A2, c2, hls, hpr, hp, K, hb2, hb3, hb5, hO, hub⟩ hpre hsz hmk
  obtain ⟨ll, rest, hl2, hx, hpe, hnl, hsl, hx1, hx2, hne, hxe⟩ := lines_next hls hpr hpre
  have hll : x.2 - x.1 = ll.length := by rw [hx]; dsimp only; omega
  have hx1e : x.1 = ls.flatten.length := by rw [hx]
  have hbsl := txB_len ls
  have hslq : sliceQ q (f.at_ + x.1) (f.at_ + x.2) = ll := by rw [← hsl, ← hsl0, slice_slice (by omega)]
  have hrq := hrd0.frm K (by simp)
  have hcut : Rd W 1 (cutA A c (f.at_ + x.1) 1) (f.at_ + x.2 - (f.at_ + x.1)) (U8 ll) := by
   have := U8_cutN hrq (show f.at_ + x.1 ≤ f.at_ + x.2 by omega) (by omega) hc
   rwa [hslq] at this
  obtain ⟨t, zl, rfl⟩ : ∃ t zl, ll = t ++ [zl] := by
   rcases List.eq_nil_or_concat ll with h | ⟨t, z, h⟩
   ·
    exact absurd h hne
   ·
    exact ⟨t, z, by rw [h, List.concat_eq_append]⟩
  have htl : (t ++ [zl]).length = t.length + 1 := by simp
  obtain ⟨adz, hAz, hcz⟩ := U8_at hrq (k := f.at_ + x.2 - 1) (by omega)
  have hqz : q[f.at_ + x.2 - 1]? = some zl := by
   have := slice_get (q := q) (a := f.at_ + x.1) (b := f.at_ + x.2) (j := t.length) (by omega)
   rw [hslq] at this
   rw [show f.at_ + x.2 - 1 = f.at_ + x.1 + t.length by omega, ← this]
   simp
  rw [show q[f.at_ + x.2 - 1] = zl from Option.some.inj ((List.getElem?_eq_getElem (show f.at_ + x.2 - 1 < q.length by omega)).symm.trans hqz)] at hcz
  refine jb (js (jr ?_))
  refine Ops.r (Run.load rfl Tryz.isAgg22 (hb2.cell 0)) rfl ?_
  refine Ops.r (Run.fieldAddr rfl Tryz.underlying45 rfl Tryz.sizeOf3 (by decide)) rfl ?_
  refine Ops.r (Run.load rfl Tryz.isAgg3 (hb3.cell 3)) rfl ?_
  refine jm ?_
  refine Ops.r (Run.bin rfl rfl (Bin.add_i64 _ _ (by omega))) rfl ?_
  refine Ops.r (Run.fieldAddr rfl Tryz.underlying45 rfl Tryz.sizeOf3 (by decide)) rfl ?_
  refine Ops.r (Run.load rfl Tryz.isAgg3 (hb3.cell 3)) rfl ?_
  refine jm ?_
  refine Ops.r (Run.bin rfl rfl (Bin.add_i64 _ _ (by omega))) rfl ?_
  refine Ops.r (Run.sliceS (f.at_ + x.1) (f.at_ + x.2) rfl Tryz.underlying22 Tryz.sizeOf5 (evB.some_ rfl) (evB.some_ rfl) (by omega) (by omega)) rfl ?_
  refine Ops.r (Run.strOfT rfl Tryz.underlying22 Tryz.underlying5 Tryz.underlying9 hcut) rfl ?_
  refine Ops.cl (Enters.fn (evs.cons rfl (evs.cons rfl evs.nil)) Tryz.call124) (trimSfxS_spec (t ++ [zl]) 10 _ (by omega)) rfl ?_
  rintro e _ ⟨rfl, rfl⟩
  refine ⟨_, rfl, ?_⟩
  refine ja ?_
  refine jo (jn (jv5 2 3 5 7 8 ?_))
  refine js (js ?_)
  refine VC.split1 [(5, _), (8, _)] (js2 rfl rfl) 47 (.bool (decide (zl.toNat = 10))) ?_ ?_
  ·
   refine jr ?_
   refine Ops.r (Run.fieldAddr rfl Tryz.underlying45 rfl Tryz.sizeOf3 (by decide)) rfl ?_
   refine Ops.r (Run.load rfl Tryz.isAgg3 (hb3.cell 3)) rfl ?_
   refine jm ?_
   refine Ops.r (Run.bin rfl rfl (Bin.add_i64 _ _ (by omega))) rfl ?_
   refine Ops.r (Run.fieldAddr rfl Tryz.underlying45 rfl Tryz.sizeOf3 (by decide)) rfl ?_
   refine Ops.r (Run.load rfl Tryz.isAgg3 (hb3.cell 2)) rfl ?_
   refine Ops.r (Run.bin rfl rfl (Bin.leqN _ _)) rfl ?_
   refine jm ?_
   refine Ops.rg rfl ((decide_eq_true (by omega))) (Run.load rfl Tryz.isAgg22 (hb2.cell 0)) rfl ?_
   refine Ops.rg rfl ((decide_eq_true (by omega))) (Run.fieldAddr rfl Tryz.underlying45 rfl Tryz.sizeOf3 (by decide)) rfl ?_
   refine Ops.rg rfl ((decide_eq_true (by omega))) (Run.load rfl Tryz.isAgg3 (hb3.cell 3)) rfl ?_
   refine Ops.rg rfl ((decide_eq_true (by omega))) (Run.mv rfl) rfl ?_
   refine Ops.rg rfl ((decide_eq_true (by omega))) (Run.bin rfl rfl (Bin.add_i64 _ _ (by omega))) rfl ?_
   refine Ops.rg rfl ((decide_eq_true (by omega))) (Run.bin rfl rfl (Bin.sub_i64 (f.at_ + x.2) 1 (by omega) (by omega))) rfl ?_
   refine Ops.rg rfl ((decide_eq_true (by omega))) (Run.index1 (f.at_ + x.2 - 1) (by rw [← hAz]; rfl) rfl Tryz.underlying22 Tryz.sizeOf5 (by omega)) rfl ?_
   refine Ops.rg rfl ((decide_eq_true (by omega))) (Run.load rfl Tryz.isAgg5 hcz) rfl ?_
   refine Ops.rg rfl ((decide_eq_true (by omega))) (Run.bin rfl rfl (Bin.eqlN _ 10)) rfl ?_
   by_cases hs46 : zl.toNat = 10
   ·
    refine Ops.r (Run.pickT rfl rfl au) rfl ?_
    refine jo ?_
    refine jn ⟨(js3 (jc (rfl)) rfl rfl), rfl⟩
   ·
    refine Ops.r (Run.pickT rfl rfl au) rfl ?_
    refine jo ?_
    refine jn ⟨(js3 (jc (rfl)) rfl rfl), rfl⟩
  ·
   intro Γ hΓ
   refine jn (VC.sub _ hΓ ?_)
   refine VC.meet (σ := Unit) (fun s => [(5, .pointer (some ⟨g5, 0, none⟩)), (8, encStr (bareL (t ++ [zl])))]) (fun s wr => W = wr) ?_ ?_
   ·
    refine VC.condD rfl (fun hc1 => ?_) (fun hc1 => ?_)
    ·
     have hz10 : zl = 10 := UInt8.toNat_inj.1 hc1
     refine jr (jm ?_)
     refine Ops.cl (Enters.fn (evs.cons rfl (evs.cons rfl evs.nil)) Tryz.call124) (trimSfxS_spec (trim1 10 (t ++ [zl])) 13 _ (by have := trim1_le 10 (t ++ [zl]); omega)) rfl ?_
     rintro e _ ⟨rfl, rfl⟩
     refine ⟨_, rfl, ?_⟩
     refine ja ?_
     refine jo ?_
     refine jn ⟨(), (js2 rfl (by rw [hz10, bare_yes]; rfl)), ?_⟩
     rfl
    ·
     refine jk ?_
     refine jn ⟨(), (js2 rfl (by rw [bare_no (fun e => hc1 (by rw [e]; rfl))]; rfl)), ?_⟩
     rfl
   ·
    rintro _ _ rfl Γ hΓ
    have hbl := bareL_le (t ++ [zl])
    refine jn (VC.sub _ hΓ ?_)
    refine jr (jm ?_)
    refine Ops.cl (Enters.fn (evs.cons rfl (evs.cons rfl evs.nil)) Tryz.call94) (writeString_spec g5 w4.heap.size (txB ls) (bareL (t ++ [zl])) p A2 c2 _ hp hb5 hO (by omega) (by omega) hub (by omega)) rfl ?_
    rintro e W3 ⟨rfl, A3, c3, hb5n, hO3, hf3, hub3⟩
    refine ⟨_, rfl, ?_⟩
    rw [← txB_snoc] at hb5n hO3
    refine jo ?_
    refine blockQ_n (?_)
    refine ⟨⟨g5 :: ob A2, hf3, ?_⟩, ls ++ [t ++ [zl]], rest, some ⟨g5, 0, none⟩, A3, c3, hnl, hpe, .inr rfl, Frm.own K hf3 ?_, hb2.frm hf3 ?_, hb3.frm hf3 ?_, hb5n, hO3, hub3⟩
    ·
     intro b hb
     simp only [List.mem_cons] at hb
     rcases hb with rfl | hb
     ·
      refine ⟨?_, hb5.isC⟩
      simp only [List.mem_cons, not_or]
      exact ⟨by omega, fun hm => by have := hAh _ hm; omega⟩
     ·
      refine ⟨?_, hO.isC b hb⟩
      have := hub b hb
      simp only [List.mem_cons, not_or]
      exact ⟨by omega, fun hm => by have := hAh _ hm; omega⟩
    ·
     intro y hy
     simp only [List.mem_cons] at hy
     rcases hy with rfl | hy
     ·
      omega
     ·
      have := hub y hy; omega
    ·
     simp only [List.mem_cons, not_or]
     exact ⟨by omega, hO.ne_blk hb2 (by decide)⟩
    ·
     simp only [List.mem_cons, not_or]
     exact ⟨by omega, hO.ne_blk hb3 (by decide)⟩
 ·
  rintro W ⟨ls, ls2, p, A2, c2, hls, hpr, hp, K, hb2, hb3, hb5, hO, hub⟩ hsz hmk
  have hfin : ls = linesF sl := lines_done hls hpr
  have hbsl := txB_len ls
  rw [hfin, linesF_flat, ← hfin] at hbsl
  have htx : textQ q f = trimQ (txB ls) := by
   unfold textQ
   rw [show (q.drop f.at_).take (f.tu - f.at_) = sl from hsl0, hfin]
   rfl
  refine blockD_n (thenD_n ?_)
  refine DV.sub [(5, _)] (js1 rfl) ?_
  refine DV.seq ?_
  refine DV.vc ?_
  refine jr ?_
  refine Ops.cl (Enters.fn (evs.cons rfl evs.nil) Tryz.call28) ((Tryz.Builder_String_any_k w.heap.size g5 (txB ls) _ (Lib.IsBuilderF.of (Bld.isB hp hb5 hO (by omega) (fun x hx => by have := hub x hx; omega))) K.size)) rfl ?_
  rintro e V1 ⟨rfl, _, hbe, hok⟩
  have hmk : Mark V1 w4.heap.size := hok _ _ hmk (by simp; omega) (by simp)
  have K := Frm.of_below (K.below.trans hbe)
  refine ⟨_, rfl, ?_⟩
  refine Ops.cl (Enters.fn (evs.cons rfl (evs.cons rfl evs.nil)) Tryz.call125) (trimS_spec (txB ls) _ (by omega)) rfl ?_
  rintro e V2 ⟨rfl, hf_V2⟩
  refine ⟨_, rfl, ?_⟩
  have K := K.trans hf_V2 (by simp)
  have hmk := hmk.frm hf_V2 (by simp)
  refine ja ?_
  refine jo ?_
  refine thenD_n ?_
  refine DV.sub [(4, _)] (js1 rfl) ?_
  refine DV.vc (jt ?_)
  refine endD_r (by simp) (fun d hd => by simp only [List.mem_singleton] at hd; subst hd; exact hmk) (fun wz hsh => ?_)
  have K := Frm.own K hsh (fun y hy => by have := hKs; simp at hy; omega)
  refine end1 rfl ?_
  exact ⟨by rw [htx]; rfl, K⟩
 ·
  exact fun _ _ h => h.elim
 ·
  exact fun _ _ _ h => h.elim
theorem findF_no {s n : Tx} : ∀ {l : List Fld}, (∀ f ∈ l, smallS f.name ≠ smallS n) → findF s n l = ([], false)
 | [], _ => rfl
 | f :: r, h => by rw [findF, if_neg (h f (by simp)), findF_no fun p hp => h p (by simp [hp])]
theorem findF_at {s n : Tx} : ∀ {l : List Fld} {i : Nat} (hi : i < l.length), (∀ f ∈ l.take i, smallS f.name ≠ smallS n) → smallS l[i].name = smallS n → findF s n l = (textQ s l[i], true)
 | [], _, h, _, _ => by simp at h
 | f :: r, 0, _, _, h => by rw [findF, if_pos (show smallS f.name = smallS n from h)]; rfl
 | f :: r, i + 1, hi, h1, h => by
  rw [findF, if_neg (h1 f (by simp)), findF_at (i := i) (by simpa using hi) (fun p hp => h1 p (by simp [hp])) (by simpa using h)]
  rfl
theorem fldL_name : ∀ (ls : List Tx) (o : Nat) (op : Bool) (out : List Fld) (N : Nat), (∀ l ∈ ls, l.length ≤ N) → (∀ f ∈ out, f.name.length ≤ N) → ∀ f ∈ fldL o op out ls, f.name.length ≤ N
 | [], _, _, out, _, _, h => h
 | l :: r, o, op, out, N, hl, h => by
  have hr : ∀ x ∈ r, x.length ≤ N := fun x hx => hl x (by simp [hx])
  unfold fldL
  split
  ·
   exact h
  ·
   split
   ·
    refine fldL_name r _ op _ N hr ?_
    cases op with
    | false => exact h
    | true =>
     intro f hf
     rw [if_pos rfl] at hf
     rcases List.eq_nil_or_concat out with rfl | ⟨t, g, rfl⟩
     ·
      simp [setTo] at hf
     ·
      rw [List.concat_eq_append] at h
      rw [List.concat_eq_append, setTo_snoc] at hf
      rcases List.mem_append.1 hf with hf | hf
      ·
       exact h f (by simp [hf])
      ·
       simp only [List.mem_singleton] at hf
       subst hf
       exact h g (by simp)
   ·
    split
    ·
     exact fldL_name r _ _ _ N hr h
    ·
     rename_i n k hb
     refine fldL_name r _ _ _ N hr fun f hf => ?_
     rcases List.mem_append.1 hf with hf | hf
     ·
      exact h f hf
     ·
      simp only [List.mem_singleton] at hf
      subst hf
      exact Nat.le_trans (beginQ_lt hb).2 (hl l (by simp))
theorem fields_name (s : Tx) : ∀ f ∈ fieldsQ s, f.name.length ≤ s.length := by
 refine fldL_name _ _ _ _ _ (fun l hl => ?_) (by simp)
 have h1 : l.length ≤ (linesF (s.take (splitQ s))).flatten.length := (List.sublist_flatten_of_mem hl).length_le
 rw [linesF_flat] at h1
 have h2 : (s.take (splitQ s)).length ≤ s.length := by simp; omega
 omega
set_option maxRecDepth 100000 in
theorem hfind_spec (A : Option Addr) (c : Nat) (q n : Tx) (w : World) (hrd0 : Rd w 1 A q.length (U8 q)) (hq : q.length ≤ 500000) (hc : q.length ≤ c) (hn : n.length ≤ 1000000) :
  Calls Tryz.prog 58 #[.slice A q.length c, encStr n] w fun e w' => e = .returned (.tuple #[encStr (findH q n).1, .bool (findH q n).2]) ∧ Frm [] w w' := by
 refine VC.calls (nt := 23) (res := #[.tmp 4, .tmp 5]) Tryz.func58 rfl Tryz.ntmps58 Tryz.results58 rfl ?_
 refine js (jr (ja ?_))
 refine ja ?_
 refine jo (jn (jv2 0 1 ?_))
 refine js (js (jr (jm ?_)))
 refine Ops.cl (Enters.fn (evs.cons rfl evs.nil) Tryz.call23) (fields_spec A c q _ hrd0 hq hc) rfl ?_
 rintro e w1 ⟨K, A2, c2, rfl, hO, hub⟩
 refine ⟨_, rfl, ?_⟩
 have hfc := fieldsQ_count q
 have hfo := fieldsQ_ok q
 have hfn := fields_name q
 have hsq := splitQ_le q
 have hfq : findH q n = findF q n (fieldsQ q) := rfl
 generalize fieldsQ q = fs at *
 refine Ops.r (Run.lenS rfl Tryz.underlying42) rfl ?_
 refine Ops.r (v := .int .i64 ((0 : Nat) : Int)) (Run.mv rfl) rfl ?_
 refine jo (jn (jv5 0 1 9 10 11 ?_))
 refine jb ?_
 refine VC.loop (σ := Nat) (fun s => [(0, .slice A q.length c), (1, encStr n), (9, .slice A2 fs.length c2), (10, .int .i64 ((fs.length : Nat) : Int)), (11, .int .i64 ((s : Nat) : Int))]) (fun s wr => s ≤ fs.length ∧ (∀ f ∈ fs.take s, smallS f.name ≠ smallS n) ∧ Frm [] w wr ∧ Own wr 45 4 A2 fs.length c2 (FC fs)) (fun s => fs.length - s) 0 (js5 rfl rfl rfl rfl rfl) ⟨by omega, by simp, K, hO⟩ ?_
 rintro i wr ⟨hi, hno, K, hO⟩
 have hO0 := hO
 refine js (jr ?_)
 refine Ops.r (Run.bin rfl rfl (Bin.lssN _ _)) rfl ?_
 refine jo (jn (js ?_))
 refine VC.condD rfl (fun hc1 => ?_) (fun hc1 => ?_)
 ·
  obtain ⟨ad, rfl, hcell⟩ := FC_at hO.rd hc1
  have hts := take_snoc hc1
  have hfm : fs[i] ∈ fs := List.getElem_mem hc1
  have hat : smallS fs[i].name = smallS n → findF q n fs = (textQ q fs[i], true) := fun h => findF_at hc1 hno h
  generalize hf : fs[i] = f at *
  have hok := hfo f hfm
  have hnl := hfn f hfm
  refine jk (jn (jv5 0 1 9 10 11 ?_))
  refine js (jb (js (jr ?_)))
  refine Ops.r (Run.indexS i rfl rfl Tryz.underlying42 Tryz.sizeOf45 hc1) rfl ?_
  refine Ops.r (Run.loadA rfl Tryz.isAgg45 Tryz.sizeOf45 hcell (by first | rfl | (simp; done))) rfl ?_
  refine Ops.m (Does.alloc zero45) rfl ?_
  rintro _ w2 ⟨rfl, hF2⟩
  have hb7 := hF2.blk
  have hs7 := K.size
  have hO := hO.frm hF2.frm (by simp)
  have K := K.trans hF2.frm (by simp)
  generalize hg7 : wr.heap.size = g7 at hb7 hs7 ⊢
  refine Ops.st (Acts.storeA rfl rfl Tryz.sizeOf45 hb7 rfl (FC1_one f)) ?_
  rintro w3 ⟨hb7n, hf3, _⟩
  have hb7 : Blk w3 g7 45 (FC1 f).toArray := hb7n
  have hO := hO.frm hf3 (fun y hy => by have := hO0.lt y hy; simp; omega)
  have K := Frm.own K hf3 (fun y hy => by simp at hy; omega)
  refine jo (jn (jv6 0 1 7 9 10 11 ?_))
  refine js (jr ?_)
  refine Ops.r (Run.fieldAddr rfl Tryz.underlying45 rfl Tryz.sizeOf9 (by decide)) rfl ?_
  refine Ops.r (Run.load rfl Tryz.isAgg9 (hb7.cell 0)) rfl ?_
  refine jm ?_
  refine Ops.cl (Enters.fn (evs.cons rfl (evs.cons rfl evs.nil)) Tryz.call24) (halike_spec f.name n _ (by omega) hn) rfl ?_
  rintro e w4 ⟨rfl, hd4⟩
  refine ⟨_, rfl, ?_⟩
  have hb7 := hb7.drawn hd4
  have hO := hO.drawn hd4
  have K := K.drawn hd4
  refine jo (jn (jv7 0 1 7 9 10 11 18 ?_))
  refine VC.condB rfl (fun hc2 => ?_) (fun hc2 => ?_)
  ·
   have hfi := hat (of_decide_eq_true hc2)
   refine js (jr (jm ?_))
   refine Ops.r (Run.loadA rfl Tryz.isAgg45 Tryz.sizeOf45 (fun j v hj => hb7.cells j v hj) (by first | rfl | (simp; done))) rfl ?_
   refine Ops.cl (Enters.fn (evs.cons rfl (evs.cons rfl evs.nil)) Tryz.call90) (text_spec A c q f _ (hrd0.frm K (by simp)) hq hc hok.2.1 (by have := hok.2.2.1; omega)) rfl ?_
   rintro e w5 ⟨rfl, hf5⟩
   refine ⟨_, rfl, ?_⟩
   have K := K.trans hf5 (by simp)
   refine ja ?_
   refine ja ?_
   refine jo (jn (jv2 4 5 ?_))
   refine jt ?_
   refine blockQ_r (thenQ_r (thenQ_r (blockQ_r (thenQ_r (end2 rfl rfl ?_)))))
   exact ⟨by rw [hfq, hfi], K⟩
  ·
   refine jk ?_
   refine blockQ_n (jn ?_)
   refine jv5 0 1 9 10 11 ?_
   refine jr ?_
   refine Ops.r (Run.bin rfl rfl (Bin.add_i64 _ 1 (by omega))) rfl ?_
   refine jm ?_
   refine jo ?_
   refine jn ⟨(i + 1), (js5 rfl rfl rfl rfl rfl), ?_, ?_⟩
   ·
    refine ⟨hc1, fun y hy => ?_, K, hO⟩
    rw [hts] at hy
    rcases List.mem_append.1 hy with h | h
    ·
     exact hno y h
    ·
     simp only [List.mem_singleton] at h; subst h; exact of_decide_eq_false hc2
   ·
    first | omega | (dsimp only; omega)
 ·
  have hil : i = fs.length := by omega
  rw [hil, List.take_length] at hno
  have hfi := findF_no (s := q) hno
  refine jx ?_
  refine thenQ_x (thenQ_x (blockQ_x ?_))
  refine jn ?_
  refine VC.sub [] .nil ?_
  refine js (jr (ja ?_))
  refine ja ?_
  refine jo (jn (jt ?_))
  refine end2 rfl rfl ?_
  exact ⟨by rw [hfq, hfi], K⟩
end Go.Proofs.YtenbjndldenkfaaGreatDoor
namespace Go.Proofs.YtenbjndldenkfaaGreatDoor
open Go.RowKit Go.Sort
def NI (l : List Nat) : List Value := l.map fun n => .int .i64 ((n : Nat) : Int)
theorem NI_rep (n : Nat) : (List.replicate n [Value.int .i64 0]).flatten = NI (List.replicate n 0) := by
 induction n with
 | zero => rfl
 | succ n ih => rw [List.replicate_succ, List.flatten_cons, ih, List.replicate_succ]; rfl
theorem NI_set (pre : List Nat) (m v k : Nat) (hk : pre.length = k) : (NI (pre ++ List.replicate (m + 1) 0)).set k (.int .i64 ((v : Nat) : Int)) = NI ((pre ++ [v]) ++ List.replicate m 0) := by
 subst hk
 unfold NI
 rw [List.map_append, List.set_append_right _ _ (by simp), List.length_map, Nat.sub_self, List.replicate_succ, List.map_cons, List.set_cons_zero]
 simp
theorem NI_at {w : World} {A : Option Addr} {l : List Nat} {k : Nat} (h : Rd w 1 A l.length (NI l)) (hk : k < l.length) : ∃ ad, A = some ad ∧ w.cell? (ad.add k) = some (.int .i64 ((l[k] : Nat) : Int)) := by
 obtain ⟨ad, u, h1, h2, h3⟩ := h.at1 hk
 refine ⟨ad, h1, ?_⟩
 rw [h3, ← h2]
 simp [NI, hk]
theorem NI_cut {w : World} {A : Option Addr} {c : Nat} {s : List Nat} (h : Rd w 1 A s.length (NI s)) {a b : Nat} (h1 : a ≤ b) (h2 : b ≤ s.length) (hc : s.length ≤ c) : Rd w 1 (cutA A c a 1) (b - a) (NI ((s.drop a).take (b - a))) := by
 have e := h.cut (l := a) (r := b) (cap := c) h1 h2 hc
 have e2 : NI ((s.drop a).take (b - a)) = ((NI s).drop (a * 1)).take ((b - a) * 1) := by simp [NI, List.map_take, List.map_drop]
 rw [e2]
 exact e
theorem u8n {c x : UInt8} {n : Nat} (h : x.toNat = n) : c.toNat = n ↔ c = x := ⟨fun e => UInt8.toNat_inj.1 (e.trans h.symm), fun e => by rw [e]; exact h⟩
set_option maxRecDepth 100000 in
set_option maxHeartbeats 800000 in
theorem uses_spec (q : Tx) (w : World) (hq : q.length ≤ 1000000) :
  Calls Tryz.prog 126 #[encStr q] w fun e w' => Frm [] w w' ∧ ∃ A, e = .returned (.slice A q.length q.length) ∧ Own w' 154 1 A q.length q.length (NI (usesQ q)) ∧ ∀ x ∈ ob A, w.heap.size ≤ x := by
 have K := Frm.refl [] w
 refine VC.calls (nt := 93) (res := #[.tmp 2]) Tryz.func126 rfl Tryz.ntmps126 Tryz.results126 rfl ?_
 refine js (jr (ja ?_))
 refine jo (jn (jv1 0 ?_))
 refine js (jr (jm ?_))
 refine Ops.r (Run.lenT rfl Tryz.underlying9) rfl ?_
 refine Ops.m (Does.makeS rfl rfl Tryz.underlying152 (info154) rfl (by omega) (by omega)) rfl ?_
 rintro _ w1 ⟨rfl, hO, hf1, hsz1⟩
 have K := K.trans hf1 (by simp)
 rw [show (Value.int .i64 0).cells.toList = [Value.int .i64 0] from rfl, NI_rep] at hO
 obtain ⟨g, hg⟩ : ∃ g, w.heap.size = g := ⟨_, rfl⟩
 rw [hg] at hO ⊢
 refine ja ?_
 refine jo (jn (jv2 0 3 ?_))
 refine js (jr ?_)
 refine Ops.r (v := .int .i64 ((0 : Nat) : Int)) (Run.asg rfl) rfl ?_
 refine Ops.r (v := .int .i64 ((0 : Nat) : Int)) (Run.asg rfl) rfl ?_
 refine jo (jn (js (js (jr ?_))))
 refine Ops.r (v := .int .i64 ((0 : Nat) : Int)) (Run.asg rfl) rfl ?_
 refine jo (jn (jb ?_))
 refine VC.loop (σ := Nat × Nat × Nat × List Nat) (fun s => [(0, encStr q), (3, .slice (some ⟨g, 0, none⟩) q.length q.length), (4, .int .i64 ((s.2.1 : Nat) : Int)), (5, .int .i64 ((s.2.2.1 : Nat) : Int)), (6, .int .i64 ((s.1 : Nat) : Int))]) (fun s wr => s.1 ≤ q.length ∧ s.2.2.2.length = s.1 ∧ usesQ q = s.2.2.2 ++ usesF s.2.1 s.2.2.1 (q.drop s.1) ∧ (s.2.1 = 2 → 1 ≤ s.2.2.1) ∧ s.2.2.1 ≤ s.1 ∧ s.2.1 ≤ 2 ∧ Frm [] w wr ∧ Own wr 154 1 (some ⟨g, 0, none⟩) q.length q.length (NI (s.2.2.2 ++ List.replicate (q.length - s.1) 0))) (fun s => q.length - s.1) (0, 0, 0, []) (js5 rfl rfl rfl rfl rfl) ⟨Nat.zero_le _, rfl, rfl, (fun h => by cases h), Nat.le_refl _, Nat.zero_le _, K, hO⟩ ?_
 rintro ⟨k, u, d, pre⟩ wr ⟨hk, hpl, hq2, hud, hdk, hu2, K, hO⟩
 dsimp only at hk hpl hq2 hud hdk hu2 hO ⊢
 refine js (js (jr (jm ?_)))
 refine jm ?_
 refine Ops.r (Run.lenT rfl Tryz.underlying9) rfl ?_
 refine Ops.r (Run.bin rfl rfl (Bin.lssN _ _)) rfl ?_
 refine jo (jn (jv6 0 3 4 5 6 14 ?_))
 refine VC.condD rfl (fun hc1 => ?_) (fun hc1 => ?_)
 ·
  have hgx : q[k]? = some q[k] := List.getElem?_eq_getElem hc1
  have hdc := drop_cons hc1
  generalize hc : q[k] = c at *
  rw [hdc] at hq2
  have hm : q.length - k = (q.length - (k + 1)) + 1 := by omega
  rw [hm] at hO
  have e92 : c.toNat = 92 ↔ c = 92 := u8n rfl
  have e34 : c.toNat = 34 ↔ c = 34 := u8n rfl
  have e40 : c.toNat = 40 ↔ c = 40 := u8n rfl
  have e41 : c.toNat = 41 ↔ c = 41 := u8n rfl
  refine jk (jn (jv5 0 3 4 5 6 ?_))
  refine js (jb (js (jr (jm ?_))))
  refine jm ?_
  refine Ops.r (Run.indexT _ rfl rfl Tryz.underlying9 hgx) rfl ?_
  refine ja ?_
  refine jo (jn (jv6 0 3 4 5 6 7 ?_))
  refine jb (js ?_)
  refine VC.split1 [(0, _), (3, _), (4, _), (5, _), (6, _), (7, _)] (js6 rfl rfl rfl rfl rfl rfl) 24 (.bool (decide ((u ≠ 0) ∧ (c.toNat = 92)))) ?_ ?_
  ·
   by_cases hs0 : u ≠ 0
   ·
    refine jr (jm ?_)
    refine Ops.r (Run.bin rfl rfl (Bin.neqN _ 0)) rfl ?_
    refine jm ?_
    refine jg ?_
    refine Ops.rg rfl au (Run.bin rfl rfl (Bin.eqlN _ 92)) rfl ?_
    refine Ops.r (Run.pickT rfl rfl au) rfl ?_
    refine ja ?_
    refine jo ?_
    refine jn ⟨(js7 (by rw [dand1 hs0]; rfl) rfl rfl rfl rfl rfl rfl), rfl⟩
   ·
    refine jr (jm ?_)
    refine Ops.r (Run.bin rfl rfl (Bin.neqN _ 0)) rfl ?_
    refine jm ?_
    refine ju ?_
    refine ju ?_
    refine Ops.r (Run.pickF rfl rfl au) rfl ?_
    refine ja ?_
    refine jo ?_
    refine jn ⟨(js7 (by rw [dand0 hs0]; rfl) rfl rfl rfl rfl rfl rfl), rfl⟩
  ·
   intro Γ hΓ
   refine jn (VC.sub _ hΓ ?_)
   refine VC.condD rfl (fun hc2 => ?_) (fun hc2 => ?_)
   ·
    have g1 : u ≠ 0 ∧ c = 92 := ⟨hc2.1, e92.1 hc2.2⟩
    refine js (jr (jm ?_))
    refine jm ?_
    refine Ops.r (Run.index1 (k) rfl rfl Tryz.underlying152 Tryz.sizeOf154 (by omega)) rfl ?_
    refine Ops.st (Acts.storeOwn (k) rfl rfl Tryz.sizeOf154 hO rfl (by omega) rfl) ?_
    rintro w2 ⟨hOw2, fw2, _⟩
    have hO : Own w2 154 1 (some ⟨g, 0, none⟩) q.length q.length (NI ((pre ++ [3]) ++ List.replicate (q.length - (k + 1)) 0)) := by
     rw [← NI_set _ _ 3 _ hpl]
     exact hOw2
    have K := Frm.own K fw2 (fun y hy => by simp only [ob, List.mem_singleton] at hy; omega)
    refine jo (jn (jv5 0 3 4 5 6 ?_))
    refine js (jr (jm ?_))
    refine Ops.r (Run.bin rfl rfl (Bin.add_i64 _ 1 (by omega))) rfl ?_
    refine jm ?_
    refine Ops.r (Run.lenT rfl Tryz.underlying9) rfl ?_
    refine Ops.r (Run.bin rfl rfl (Bin.lssN _ _)) rfl ?_
    refine jo (jn (jv6 0 3 4 5 6 38 ?_))
    refine VC.condD rfl (fun hc3 => ?_) (fun hc3 => ?_)
    ·
     obtain ⟨x, hx⟩ : ∃ x, q[k + 1] = x := ⟨_, rfl⟩
     rw [drop_cons hc3, hx, uses_esc g1] at hq2
     have hm2 : q.length - (k + 1) = (q.length - (k + 1 + 1)) + 1 := by omega
     have hpl : (pre ++ [3]).length = k + 1 := by simp [hpl]
     rw [hm2] at hO
     refine js (jr (jm ?_))
     refine jm ?_
     refine Ops.r (Run.bin rfl rfl (Bin.add_i64 _ 1 (by omega))) rfl ?_
     refine jm ?_
     refine Ops.r (Run.index1 (k + 1) rfl rfl Tryz.underlying152 Tryz.sizeOf154 (by omega)) rfl ?_
     refine Ops.st (Acts.storeOwn (k + 1) rfl rfl Tryz.sizeOf154 hO rfl (by omega) rfl) ?_
     rintro w3 ⟨hOw3, fw3, _⟩
     have hO : Own w3 154 1 (some ⟨g, 0, none⟩) q.length q.length (NI ((pre ++ [3] ++ [u]) ++ List.replicate (q.length - (k + 1 + 1)) 0)) := by
      rw [← NI_set _ _ u _ hpl]
      exact hOw3
     have K := Frm.own K fw3 (fun y hy => by simp only [ob, List.mem_singleton] at hy; omega)
     refine jo (jn (jv5 0 3 4 5 6 ?_))
     refine jr (jm ?_)
     refine Ops.r (Run.bin rfl rfl (Bin.add_i64 _ 1 (by omega))) rfl ?_
     refine ja ?_
     refine jo ?_
     refine blockQ_n (blockQ_n (jn ?_))
     refine jv5 0 3 4 5 6 ?_
     refine jr (jm ?_)
     refine Ops.r (Run.bin rfl rfl (Bin.add_i64 _ 1 (by omega))) rfl ?_
     refine ja ?_
     refine jo ?_
     refine jn ⟨(k + 1 + 1, u, d, pre ++ [3] ++ [u]), (js5 rfl rfl rfl rfl rfl), ?_, ?_⟩
     ·
      exact ⟨by dsimp only; omega, by simp at hpl ⊢; omega, by rw [hq2]; simp, hud, by dsimp only; omega, hu2, K, hO⟩
     ·
      first | omega | (dsimp only; omega)
    ·
     rw [List.drop_eq_nil_of_le (show q.length ≤ k + 1 by omega), uses_esc1 g1] at hq2
     refine jk ?_
     refine blockQ_n (blockQ_n (jn ?_))
     refine jv5 0 3 4 5 6 ?_
     refine jr (jm ?_)
     refine Ops.r (Run.bin rfl rfl (Bin.add_i64 _ 1 (by omega))) rfl ?_
     refine ja ?_
     refine jo ?_
     refine jn ⟨(k + 1, u, d, pre ++ [3]), (js5 rfl rfl rfl rfl rfl), ?_, ?_⟩
     ·
      exact ⟨by dsimp only; omega, by simp [hpl], by rw [hq2, List.drop_eq_nil_of_le (by dsimp only; omega), show usesF u d [] = [] by unfold usesF; rfl, List.append_nil], hud, by dsimp only; omega, hu2, K, hO⟩
     ·
      first | omega | (dsimp only; omega)
   ·
    have g1 : ¬ (u ≠ 0 ∧ c = 92) := fun h => hc2 ⟨h.1, e92.2 h.2⟩
    refine js ?_
    refine VC.split1 [(0, _), (3, _), (4, _), (5, _), (6, _), (7, _)] (js6 rfl rfl rfl rfl rfl rfl) 46 (.bool (decide ((u = 0) ∧ (c.toNat = 34)))) ?_ ?_
    ·
     by_cases hs0 : u = 0
     ·
      refine jr (jm ?_)
      refine Ops.r (Run.bin rfl rfl (Bin.eqlN _ 0)) rfl ?_
      refine jm ?_
      refine jg ?_
      refine Ops.rg rfl au (Run.bin rfl rfl (Bin.eqlN _ 34)) rfl ?_
      refine Ops.r (Run.pickT rfl rfl au) rfl ?_
      refine ja ?_
      refine jo ?_
      refine jn ⟨(js7 (by rw [dand1 hs0]; rfl) rfl rfl rfl rfl rfl rfl), rfl⟩
     ·
      refine jr (jm ?_)
      refine Ops.r (Run.bin rfl rfl (Bin.eqlN _ 0)) rfl ?_
      refine jm ?_
      refine ju ?_
      refine ju ?_
      refine Ops.r (Run.pickF rfl rfl au) rfl ?_
      refine ja ?_
      refine jo ?_
      refine jn ⟨(js7 (by rw [dand0 hs0]; rfl) rfl rfl rfl rfl rfl rfl), rfl⟩
    ·
     intro Γ hΓ
     refine jn (VC.sub _ hΓ ?_)
     refine VC.condD rfl (fun hc4 => ?_) (fun hc4 => ?_)
     ·
      have g2 : u = 0 ∧ c = 34 := ⟨hc4.1, e34.1 hc4.2⟩
      rw [uses_open g1 g2] at hq2
      refine jr (jm ?_)
      refine jm ?_
      refine Ops.r (v := .int .i64 ((1 : Nat) : Int)) (Run.asg rfl) rfl ?_
      refine Ops.r (Run.index1 (k) rfl rfl Tryz.underlying152 Tryz.sizeOf154 (by omega)) rfl ?_
      refine Ops.st (Acts.storeOwn (k) rfl rfl Tryz.sizeOf154 hO rfl (by omega) rfl) ?_
      rintro w2 ⟨hOw2, fw2, _⟩
      have hO : Own w2 154 1 (some ⟨g, 0, none⟩) q.length q.length (NI ((pre ++ [3]) ++ List.replicate (q.length - (k + 1)) 0)) := by
       rw [← NI_set _ _ 3 _ hpl]
       exact hOw2
      have K := Frm.own K fw2 (fun y hy => by simp only [ob, List.mem_singleton] at hy; omega)
      refine jo ?_
      refine blockQ_n (blockQ_n (jn ?_))
      refine jv5 0 3 4 5 6 ?_
      refine jr (jm ?_)
      refine Ops.r (Run.bin rfl rfl (Bin.add_i64 _ 1 (by omega))) rfl ?_
      refine ja ?_
      refine jo ?_
      refine jn ⟨(k + 1, 1, d, pre ++ [3]), (js5 rfl rfl rfl rfl rfl), ?_, ?_⟩
      ·
       exact ⟨by dsimp only; omega, by simp [hpl], by rw [hq2]; simp, by dsimp only; omega, by dsimp only; omega, by dsimp only; omega, K, hO⟩
      ·
       first | omega | (dsimp only; omega)
     ·
      have g2 : ¬ (u = 0 ∧ c = 34) := fun h => hc4 ⟨h.1, e34.2 h.2⟩
      refine js ?_
      refine VC.split1 [(0, _), (3, _), (4, _), (5, _), (6, _), (7, _)] (js6 rfl rfl rfl rfl rfl rfl) 56 (.bool (decide ((u = 1) ∧ (c.toNat = 34)))) ?_ ?_
      ·
       by_cases hs0 : u = 1
       ·
        refine jr (jm ?_)
        refine Ops.r (Run.bin rfl rfl (Bin.eqlN _ 1)) rfl ?_
        refine jm ?_
        refine jg ?_
        refine Ops.rg rfl au (Run.bin rfl rfl (Bin.eqlN _ 34)) rfl ?_
        refine Ops.r (Run.pickT rfl rfl au) rfl ?_
        refine ja ?_
        refine jo ?_
        refine jn ⟨(js7 (by rw [dand1 hs0]; rfl) rfl rfl rfl rfl rfl rfl), rfl⟩
       ·
        refine jr (jm ?_)
        refine Ops.r (Run.bin rfl rfl (Bin.eqlN _ 1)) rfl ?_
        refine jm ?_
        refine ju ?_
        refine ju ?_
        refine Ops.r (Run.pickF rfl rfl au) rfl ?_
        refine ja ?_
        refine jo ?_
        refine jn ⟨(js7 (by rw [dand0 hs0]; rfl) rfl rfl rfl rfl rfl rfl), rfl⟩
      ·
       intro Γ hΓ
       refine jn (VC.sub _ hΓ ?_)
       refine VC.condD rfl (fun hc5 => ?_) (fun hc5 => ?_)
       ·
        have g3 : u = 1 ∧ c = 34 := ⟨hc5.1, e34.1 hc5.2⟩
        rw [uses_shut g1 g2 g3] at hq2
        refine jr (jm ?_)
        refine jm ?_
        refine Ops.r (v := .int .i64 ((0 : Nat) : Int)) (Run.asg rfl) rfl ?_
        refine Ops.r (Run.index1 (k) rfl rfl Tryz.underlying152 Tryz.sizeOf154 (by omega)) rfl ?_
        refine Ops.st (Acts.storeOwn (k) rfl rfl Tryz.sizeOf154 hO rfl (by omega) rfl) ?_
        rintro w2 ⟨hOw2, fw2, _⟩
        have hO : Own w2 154 1 (some ⟨g, 0, none⟩) q.length q.length (NI ((pre ++ [3]) ++ List.replicate (q.length - (k + 1)) 0)) := by
         rw [← NI_set _ _ 3 _ hpl]
         exact hOw2
        have K := Frm.own K fw2 (fun y hy => by simp only [ob, List.mem_singleton] at hy; omega)
        refine jo ?_
        refine blockQ_n (blockQ_n (jn ?_))
        refine jv5 0 3 4 5 6 ?_
        refine jr (jm ?_)
        refine Ops.r (Run.bin rfl rfl (Bin.add_i64 _ 1 (by omega))) rfl ?_
        refine ja ?_
        refine jo ?_
        refine jn ⟨(k + 1, 0, d, pre ++ [3]), (js5 rfl rfl rfl rfl rfl), ?_, ?_⟩
        ·
         exact ⟨by dsimp only; omega, by simp [hpl], by rw [hq2]; simp, by dsimp only; omega, by dsimp only; omega, by dsimp only; omega, K, hO⟩
        ·
         first | omega | (dsimp only; omega)
       ·
        have g3 : ¬ (u = 1 ∧ c = 34) := fun h => hc5 ⟨h.1, e34.2 h.2⟩
        refine js ?_
        refine VC.split1 [(0, _), (3, _), (4, _), (5, _), (6, _), (7, _)] (js6 rfl rfl rfl rfl rfl rfl) 66 (.bool (decide ((u ≠ 1) ∧ (c.toNat = 40)))) ?_ ?_
        ·
         by_cases hs0 : u ≠ 1
         ·
          refine jr (jm ?_)
          refine Ops.r (Run.bin rfl rfl (Bin.neqN _ 1)) rfl ?_
          refine jm ?_
          refine jg ?_
          refine Ops.rg rfl au (Run.bin rfl rfl (Bin.eqlN _ 40)) rfl ?_
          refine Ops.r (Run.pickT rfl rfl au) rfl ?_
          refine ja ?_
          refine jo ?_
          refine jn ⟨(js7 (by rw [dand1 hs0]; rfl) rfl rfl rfl rfl rfl rfl), rfl⟩
         ·
          refine jr (jm ?_)
          refine Ops.r (Run.bin rfl rfl (Bin.neqN _ 1)) rfl ?_
          refine jm ?_
          refine ju ?_
          refine ju ?_
          refine Ops.r (Run.pickF rfl rfl au) rfl ?_
          refine ja ?_
          refine jo ?_
          refine jn ⟨(js7 (by rw [dand0 hs0]; rfl) rfl rfl rfl rfl rfl rfl), rfl⟩
        ·
         intro Γ hΓ
         refine jn (VC.sub _ hΓ ?_)
         refine VC.condD rfl (fun hc6 => ?_) (fun hc6 => ?_)
         ·
          have g4 : u ≠ 1 ∧ c = 40 := ⟨hc6.1, e40.1 hc6.2⟩
          rw [uses_in g1 g2 g3 g4] at hq2
          refine js (jr (jm ?_))
          refine jm ?_
          refine Ops.r (v := .int .i64 ((2 : Nat) : Int)) (Run.asg rfl) rfl ?_
          refine Ops.r (Run.index1 (k) rfl rfl Tryz.underlying152 Tryz.sizeOf154 (by omega)) rfl ?_
          refine Ops.st (Acts.storeOwn (k) rfl rfl Tryz.sizeOf154 hO rfl (by omega) rfl) ?_
          rintro w2 ⟨hOw2, fw2, _⟩
          have hO : Own w2 154 1 (some ⟨g, 0, none⟩) q.length q.length (NI ((pre ++ [2]) ++ List.replicate (q.length - (k + 1)) 0)) := by
           rw [← NI_set _ _ 2 _ hpl]
           exact hOw2
          have K := Frm.own K fw2 (fun y hy => by simp only [ob, List.mem_singleton] at hy; omega)
          refine jo (jn (jv5 0 3 4 5 6 ?_))
          refine jr (jm ?_)
          refine Ops.r (Run.bin rfl rfl (Bin.add_i64 _ 1 (by omega))) rfl ?_
          refine ja ?_
          refine jo ?_
          refine blockQ_n (blockQ_n (jn ?_))
          refine jv5 0 3 4 5 6 ?_
          refine jr (jm ?_)
          refine Ops.r (Run.bin rfl rfl (Bin.add_i64 _ 1 (by omega))) rfl ?_
          refine ja ?_
          refine jo ?_
          refine jn ⟨(k + 1, 2, d + 1, pre ++ [2]), (js5 rfl rfl rfl rfl rfl), ?_, ?_⟩
          ·
           exact ⟨by dsimp only; omega, by simp [hpl], by rw [hq2]; simp, by dsimp only; omega, by dsimp only; omega, by dsimp only; omega, K, hO⟩
          ·
           first | omega | (dsimp only; omega)
         ·
          have g4 : ¬ (u ≠ 1 ∧ c = 40) := fun h => hc6 ⟨h.1, e40.2 h.2⟩
          refine js ?_
          refine VC.split1 [(0, _), (3, _), (4, _), (5, _), (6, _)] (js5 rfl rfl rfl rfl rfl) 78 (.bool (decide ((u = 2) ∧ (c.toNat = 41)))) ?_ ?_
          ·
           by_cases hs0 : u = 2
           ·
            refine jr (jm ?_)
            refine Ops.r (Run.bin rfl rfl (Bin.eqlN _ 2)) rfl ?_
            refine jm ?_
            refine jg ?_
            refine Ops.rg rfl au (Run.bin rfl rfl (Bin.eqlN _ 41)) rfl ?_
            refine Ops.r (Run.pickT rfl rfl au) rfl ?_
            refine ja ?_
            refine jo ?_
            refine jn ⟨(js6 (by rw [dand1 hs0]; rfl) rfl rfl rfl rfl rfl), rfl⟩
           ·
            refine jr (jm ?_)
            refine Ops.r (Run.bin rfl rfl (Bin.eqlN _ 2)) rfl ?_
            refine jm ?_
            refine ju ?_
            refine ju ?_
            refine Ops.r (Run.pickF rfl rfl au) rfl ?_
            refine ja ?_
            refine jo ?_
            refine jn ⟨(js6 (by rw [dand0 hs0]; rfl) rfl rfl rfl rfl rfl), rfl⟩
          ·
           intro Γ hΓ
           refine jn (VC.sub _ hΓ ?_)
           refine VC.condD rfl (fun hc7 => ?_) (fun hc7 => ?_)
           ·
            have g5 : u = 2 ∧ c = 41 := ⟨hc7.1, e41.1 hc7.2⟩
            have hd1 := hud hc7.1
            rw [uses_out g1 g2 g3 g4 g5] at hq2
            refine js (jr (jm ?_))
            refine jm ?_
            refine Ops.r (Run.index1 (k) rfl rfl Tryz.underlying152 Tryz.sizeOf154 (by omega)) rfl ?_
            refine Ops.st (Acts.storeOwn (k) rfl rfl Tryz.sizeOf154 hO rfl (by omega) rfl) ?_
            rintro w2 ⟨hOw2, fw2, _⟩
            have hO : Own w2 154 1 (some ⟨g, 0, none⟩) q.length q.length (NI ((pre ++ [2]) ++ List.replicate (q.length - (k + 1)) 0)) := by
             rw [← NI_set _ _ 2 _ hpl]
             exact hOw2
            have K := Frm.own K fw2 (fun y hy => by simp only [ob, List.mem_singleton] at hy; omega)
            refine jo (jn (jv5 0 3 4 5 6 ?_))
            refine js (jr (jm ?_))
            refine Ops.r (Run.bin rfl rfl (Bin.sub_i64 d 1 hd1 (by omega))) rfl ?_
            refine ja ?_
            refine jo (jn (jv5 0 3 4 5 6 ?_))
            refine js (jr (jm ?_))
            refine Ops.r (Run.bin rfl rfl (Bin.eqlN _ 0)) rfl ?_
            refine jo (jn (jv6 0 3 4 5 6 91 ?_))
            refine VC.condD rfl (fun hc8 => ?_) (fun hc8 => ?_)
            ·
             rw [if_pos hc8] at hq2
             refine jr ?_
             refine Ops.r (v := .int .i64 ((0 : Nat) : Int)) (Run.asg rfl) rfl ?_
             refine jo ?_
             refine blockQ_n (blockQ_n (jn ?_))
             refine jv5 0 3 4 5 6 ?_
             refine jr (jm ?_)
             refine Ops.r (Run.bin rfl rfl (Bin.add_i64 _ 1 (by omega))) rfl ?_
             refine ja ?_
             refine jo ?_
             refine jn ⟨(k + 1, 0, d - 1, pre ++ [2]), (js5 rfl rfl rfl rfl rfl), ?_, ?_⟩
             ·
              exact ⟨by dsimp only; omega, by simp [hpl], by rw [hq2]; simp, by dsimp only; omega, by dsimp only; omega, by dsimp only; omega, K, hO⟩
             ·
              first | omega | (dsimp only; omega)
            ·
             rw [if_neg hc8] at hq2
             refine jk ?_
             refine blockQ_n (blockQ_n (jn ?_))
             refine jv5 0 3 4 5 6 ?_
             refine jr (jm ?_)
             refine Ops.r (Run.bin rfl rfl (Bin.add_i64 _ 1 (by omega))) rfl ?_
             refine ja ?_
             refine jo ?_
             refine jn ⟨(k + 1, u, d - 1, pre ++ [2]), (js5 rfl rfl rfl rfl rfl), ?_, ?_⟩
             ·
              exact ⟨by dsimp only; omega, by simp [hpl], by rw [hq2, g5.1]; simp, by dsimp only; omega, by dsimp only; omega, by dsimp only; omega, K, hO⟩
             ·
              first | omega | (dsimp only; omega)
           ·
            have g5 : ¬ (u = 2 ∧ c = 41) := fun h => hc7 ⟨h.1, e41.2 h.2⟩
            rw [uses_in_it g1 g2 g3 g4 g5] at hq2
            refine jr (jm ?_)
            refine jm ?_
            refine jm ?_
            refine Ops.r (Run.index1 (k) rfl rfl Tryz.underlying152 Tryz.sizeOf154 (by omega)) rfl ?_
            refine Ops.st (Acts.storeOwn (k) rfl rfl Tryz.sizeOf154 hO rfl (by omega) rfl) ?_
            rintro w2 ⟨hOw2, fw2, _⟩
            have hO : Own w2 154 1 (some ⟨g, 0, none⟩) q.length q.length (NI ((pre ++ [u]) ++ List.replicate (q.length - (k + 1)) 0)) := by
             rw [← NI_set _ _ u _ hpl]
             exact hOw2
            have K := Frm.own K fw2 (fun y hy => by simp only [ob, List.mem_singleton] at hy; omega)
            refine jo ?_
            refine blockQ_n (blockQ_n (jn ?_))
            refine jv5 0 3 4 5 6 ?_
            refine jr (jm ?_)
            refine Ops.r (Run.bin rfl rfl (Bin.add_i64 _ 1 (by omega))) rfl ?_
            refine ja ?_
            refine jo ?_
            refine jn ⟨(k + 1, u, d, pre ++ [u]), (js5 rfl rfl rfl rfl rfl), ?_, ?_⟩
            ·
             exact ⟨by dsimp only; omega, by simp [hpl], by rw [hq2]; simp, hud, by dsimp only; omega, hu2, K, hO⟩
            ·
             first | omega | (dsimp only; omega)
 ·
  have hkl : k = q.length := by omega
  subst hkl
  rw [List.drop_length, show usesF u d [] = [] by unfold usesF; rfl, List.append_nil] at hq2
  rw [Nat.sub_self, List.replicate_zero, List.append_nil, ← hq2] at hO
  refine jx ?_
  refine thenQ_x (thenQ_x (blockQ_x ?_))
  refine jn (jv1 3 ?_)
  refine js (jr (jm ?_))
  refine ja ?_
  refine jo (jn (jv1 2 ?_))
  refine jt ?_
  refine end1 rfl ?_
  exact ⟨K, _, rfl, hO, fun x hx => by simp only [ob, List.mem_singleton] at hx; omega⟩
set_option maxRecDepth 100000 in
theorem ablank_spec (x : UInt8) (w : World) : Calls Tryz.prog 174 #[.int .u8 ((x.toNat : Nat) : Int)] w fun e w' => e = .returned (.bool (decide (Bl x))) ∧ w = w' := by
 have hb := bl_nat x
 refine VC.calls (nt := 9) (res := #[.tmp 2]) Tryz.func174 rfl Tryz.ntmps174 Tryz.results174 rfl ?_
 refine js (jr (ja ?_))
 refine jo (jn (jv1 0 ?_))
 refine js ?_
 refine VC.split1 [] .nil 2 (.bool (decide (Bl x))) ?_ ?_
 ·
  refine jr ?_
  refine jm ?_
  refine Ops.r (Run.bin rfl rfl (Bin.eqlN _ 32)) rfl ?_
  by_cases hs4 : x.toNat = 32
  ·
   refine jm ?_
   refine ju ?_
   refine ju ?_
   refine Ops.r (Run.pickT rfl rfl au) rfl ?_
   refine ja ?_
   refine jo ?_
   refine jn ⟨(js1 (jc (by (rw [show decide (Bl x) = decide (x.toNat = 32 ∨ x.toNat = 9) from decide_eq_decide.2 hb]; simp [*])))), rfl⟩
  ·
   refine jm ?_
   refine jg ?_
   refine Ops.rg rfl au (Run.bin rfl rfl (Bin.eqlN _ 9)) rfl ?_
   by_cases hs7 : x.toNat = 9
   ·
    refine Ops.r (Run.pickF rfl rfl au) rfl ?_
    refine ja ?_
    refine jo ?_
    refine jn ⟨(js1 (jc (by (rw [show decide (Bl x) = decide (x.toNat = 32 ∨ x.toNat = 9) from decide_eq_decide.2 hb]; simp [*])))), rfl⟩
   ·
    refine Ops.r (Run.pickF rfl rfl au) rfl ?_
    refine ja ?_
    refine jo ?_
    refine jn ⟨(js1 (jc (by (rw [show decide (Bl x) = decide (x.toNat = 32 ∨ x.toNat = 9) from decide_eq_decide.2 hb]; simp [*])))), rfl⟩
 ·
  intro Γ hΓ
  refine jn (VC.sub _ hΓ ?_)
  refine jt ?_
  refine end1 rfl ?_
  exact ⟨rfl, rfl⟩
end Go.Proofs.YtenbjndldenkfaaGreatDoor
namespace Go.Proofs.YtenbjndldenkfaaGreatDoor
open Go.RowKit Go.Sort
theorem zip_drop {q : Tx} {l : List Nat} (hl : l.length = q.length) {k : Nat} (hk : k < q.length) : (q.zip l).drop k = (q[k], l[k]'(by omega)) :: (q.zip l).drop (k + 1) := by
 have hz : k < (q.zip l).length := by rw [List.length_zip, hl, Nat.min_self]; exact hk
 rw [List.drop_eq_getElem_cons hz, List.getElem_zip]
theorem zip_len2 {q : Tx} {l : List Nat} (hl : l.length = q.length) : (q.zip l).length = q.length := by rw [List.length_zip, hl, Nat.min_self]
theorem says_skip {wt : Bool} {o : Tx} {c : UInt8} {u : Nat} {r : List (UInt8 × Nat)} (h : u = 3) : saysF wt o ((c, u) :: r) = saysF wt o r := by
 conv => lhs; unfold saysF
 rw [if_pos h]
theorem says_gap {wt : Bool} {o : Tx} {c : UInt8} {u : Nat} {r : List (UInt8 × Nat)} (h1 : ¬ u = 3) (h : u = 2 ∨ (u = 0 ∧ Bl c)) : saysF wt o ((c, u) :: r) = saysF (decide (0 < o.length)) o r := by
 conv => lhs; unfold saysF
 rw [if_neg h1, if_pos h]
theorem says_put {wt : Bool} {o : Tx} {c : UInt8} {u : Nat} {r : List (UInt8 × Nat)} (h1 : ¬ u = 3) (h : ¬ (u = 2 ∨ (u = 0 ∧ Bl c))) : saysF wt o ((c, u) :: r) = saysF false ((if wt then o ++ [32] else o) ++ [c]) r := by
 conv => lhs; unfold saysF
 rw [if_neg h1, if_neg h]
set_option maxRecDepth 100000 in
theorem says_spec (q : Tx) (l : List Nat) (L : Option Addr) (lc : Nat) (w : World) (hq : q.length ≤ 400000) (hll : l.length = q.length) (hl : Rd w 1 L l.length (NI l)) :
  Calls Tryz.prog 128 #[encStr q, .slice L l.length lc] w fun e w' => e = .returned (encStr (saysQ (q.zip l))) ∧ Frm [] w w' := by
 have K := Frm.refl [] w
 have hzl := zip_len2 hll
 refine VC.calls (nt := 48) (res := #[.tmp 4]) Tryz.func128 rfl Tryz.ntmps128 Tryz.results128 rfl ?_
 refine js (jr (ja ?_))
 refine jo (jn (jv2 0 1 ?_))
 refine js (jr ?_)
 refine Ops.m (Does.alloc zero50) rfl ?_
 rintro _ w1 ⟨rfl, hF1⟩
 have hb5 : Blk w1 w.heap.size 50 #[.pointer none, .slice none ([] : Tx).length 0] := hF1.blk
 have hg5 := K.size
 have K := K.trans hF1.frm (by simp)
 obtain ⟨g5, hg⟩ : ∃ g, w.heap.size = g := ⟨_, rfl⟩
 rw [hg] at hb5 ⊢
 refine jo (jn (js (jr (ja ?_))))
 refine jo (jn (js (js (jr (jm ?_)))))
 refine Ops.r (Run.lenT rfl Tryz.underlying9) rfl ?_
 refine Ops.r (v := .int .i64 ((0 : Nat) : Int)) (Run.mv rfl) rfl ?_
 refine jo (jn (jv6 0 1 5 6 9 10 ?_))
 refine jb ?_
 refine VC.loop (σ := Nat × Bool × Tx × Option Addr × Option Addr × Nat) (fun s => [(0, encStr q), (1, .slice L l.length lc), (5, .pointer (some ⟨g5, 0, none⟩)), (6, .bool s.2.1), (9, .int .i64 ((q.length : Nat) : Int)), (10, .int .i64 ((s.1 : Nat) : Int))]) (fun s wr => s.1 ≤ q.length ∧ saysQ (q.zip l) = saysF s.2.1 s.2.2.1 ((q.zip l).drop s.1) ∧ s.2.2.1.length ≤ 2 * s.1 ∧ (s.2.2.2.1 = none ∨ s.2.2.2.1 = some (⟨g5, 0, none⟩ : Addr)) ∧ Blk wr g5 50 #[.pointer s.2.2.2.1, .slice s.2.2.2.2.1 (s.2.2.1).length s.2.2.2.2.2] ∧ Own wr 5 1 s.2.2.2.2.1 (s.2.2.1).length s.2.2.2.2.2 (U8 (s.2.2.1)) ∧ (∀ x ∈ ob s.2.2.2.2.1, w.heap.size ≤ x) ∧ Frm [] w wr) (fun s => q.length - s.1) (0, false, [], none, none, 0) (js6 rfl rfl rfl rfl rfl rfl) ⟨by omega, rfl, by simp, .inl rfl, hb5, Own.nil _ _ _, by simp [ob], K⟩ ?_
 rintro ⟨k, wt, o, p, A, c⟩ wr ⟨hk, hz, hol, hp, hb5, hO, hub, K⟩
 dsimp only at hk hz hol hp hb5 hO hub ⊢
 refine js (jr ?_)
 refine Ops.r (Run.bin rfl rfl (Bin.lssN _ _)) rfl ?_
 refine jo (jn (js ?_))
 refine VC.condD rfl (fun hc1 => ?_) (fun hc1 => ?_)
 ·
  have hgx : q[k]? = some q[k] := List.getElem?_eq_getElem hc1
  obtain ⟨ad, hLe, hcell⟩ := NI_at (hl.frm K (by simp)) (show k < l.length by omega)
  have hzd := zip_drop hll hc1
  rw [hzd] at hz
  generalize q[k] = x at *
  generalize l[k] = u at *
  refine jk (jn (jv6 0 1 5 6 9 10 ?_))
  refine js (jb (js (jr (jm ?_))))
  refine ja ?_
  refine jo (jn (jv7 0 1 5 6 7 9 10 ?_))
  refine jb (js (jr (jm ?_)))
  refine jm ?_
  refine Ops.r (Run.index1 k (by rw [← hLe]; rfl) rfl Tryz.underlying152 Tryz.sizeOf154 (by omega)) rfl ?_
  refine Ops.r (Run.load rfl Tryz.isAgg154 hcell) rfl ?_
  refine Ops.r (Run.bin rfl rfl (Bin.eqlN _ 3)) rfl ?_
  refine ja ?_
  refine jo (jn (jv8 0 1 5 6 7 9 10 19 ?_))
  refine VC.condD rfl (fun hc2 => ?_) (fun hc2 => ?_)
  ·
   rw [says_skip hc2] at hz
   refine jk ?_
   refine blockQ_n (blockQ_n (jn ?_))
   refine jv6 0 1 5 6 9 10 ?_
   refine jr ?_
   refine Ops.r (Run.bin rfl rfl (Bin.add_i64 _ 1 (by omega))) rfl ?_
   refine jm ?_
   refine jo ?_
   refine jn ⟨(k + 1, wt, o, p, A, c), (js6 rfl rfl rfl rfl rfl rfl), ?_, ?_⟩
   ·
    exact ⟨hc1, hz, by dsimp only; omega, hp, hb5, hO, hub, K⟩
   ·
    first | omega | (dsimp only; omega)
  ·
   refine js ?_
   refine VC.split1 [(0, _), (1, _), (5, _), (6, _), (7, _), (9, _), (10, _)] (js7 rfl rfl rfl rfl rfl rfl rfl) 25 (.bool (decide (u = 2 ∨ (u = 0 ∧ Bl x)))) ?_ ?_
   ·
    refine jr ?_
    refine jm ?_
    refine jm ?_
    refine Ops.r (Run.index1 k (by rw [← hLe]; rfl) rfl Tryz.underlying152 Tryz.sizeOf154 (by omega)) rfl ?_
    refine Ops.r (Run.load rfl Tryz.isAgg154 hcell) rfl ?_
    refine Ops.r (Run.bin rfl rfl (Bin.eqlN _ 2)) rfl ?_
    by_cases hs30 : u = 2
    ·
     refine jm ?_
     refine ju ?_
     refine ju ?_
     refine ju ?_
     refine ju ?_
     refine ju ?_
     refine ju ?_
     refine Ops.skU rfl rfl ?_
     refine Ops.skU rfl rfl ?_
     refine Ops.skU rfl rfl ?_
     refine Ops.skU rfl rfl ?_
     refine ju ?_
     refine Ops.r (Run.pickT rfl rfl au) rfl ?_
     refine ja ?_
     refine jo ?_
     refine jn ⟨(js8 (jc (by simp [*])) rfl rfl rfl rfl rfl rfl rfl), rfl⟩
    ·
     refine jm ?_
     refine jg ?_
     refine jg ?_
     refine Ops.rg rfl au (Run.index1 k (by rw [← hLe]; rfl) rfl Tryz.underlying152 Tryz.sizeOf154 (by omega)) rfl ?_
     refine Ops.rg rfl au (Run.load rfl Tryz.isAgg154 hcell) rfl ?_
     refine Ops.rg rfl au (Run.bin rfl rfl (Bin.eqlN _ 0)) rfl ?_
     by_cases hs36 : u = 0
     ·
      refine jg ?_
      refine jg ?_
      refine jg ?_
      refine Ops.rg rfl au (Run.indexT _ rfl rfl Tryz.underlying9 hgx) rfl ?_
      refine Ops.clg rfl au (Enters.fn (evs.cons rfl evs.nil) Tryz.call174) (ablank_spec x _) rfl ?_
      rintro e _ ⟨rfl, rfl⟩
      refine ⟨_, rfl, ?_⟩
      by_cases hs41 : Bl x
      ·
       refine Ops.rg rfl au (Run.pickT rfl rfl au) rfl ?_
       refine Ops.r (Run.pickF rfl rfl au) rfl ?_
       refine ja ?_
       refine jo ?_
       refine jn ⟨(js8 (jc (by simp [*])) rfl rfl rfl rfl rfl rfl rfl), rfl⟩
      ·
       refine Ops.rg rfl au (Run.pickT rfl rfl au) rfl ?_
       refine Ops.r (Run.pickF rfl rfl au) rfl ?_
       refine ja ?_
       refine jo ?_
       refine jn ⟨(js8 (jc (by simp [*])) rfl rfl rfl rfl rfl rfl rfl), rfl⟩
     ·
      refine jg ?_
      refine ju ?_
      refine ju ?_
      refine ju ?_
      refine ju ?_
      refine Ops.rg rfl au (Run.pickF rfl rfl au) rfl ?_
      refine Ops.r (Run.pickF rfl rfl au) rfl ?_
      refine ja ?_
      refine jo ?_
      refine jn ⟨(js8 (jc (by simp [*])) rfl rfl rfl rfl rfl rfl rfl), rfl⟩
   ·
    intro Γ hΓ
    refine jn (VC.sub _ hΓ ?_)
    refine VC.condD rfl (fun hc3 => ?_) (fun hc3 => ?_)
    ·
     rw [says_gap hc2 hc3] at hz
     refine jr ?_
     refine Ops.cl (Enters.fn (evs.cons rfl evs.nil) Tryz.call175) ((Tryz.Builder_Len w.heap.size g5 (U8 o) _ (Bld.isB hp hb5 hO (by omega) (fun x hx => by have := hub x hx; omega)))) rfl ?_
     rintro e _ ⟨rfl, rfl⟩
     rw [U8_len]
     refine ⟨_, rfl, ?_⟩
     refine Ops.r (Run.bin rfl rfl (Bin.gtrN _ 0)) rfl ?_
     refine ja ?_
     refine jo ?_
     refine blockQ_n (blockQ_n (jn ?_))
     refine jv6 0 1 5 6 9 10 ?_
     refine jr ?_
     refine Ops.r (Run.bin rfl rfl (Bin.add_i64 _ 1 (by omega))) rfl ?_
     refine jm ?_
     refine jo ?_
     refine jn ⟨(k + 1, decide (0 < o.length), o, p, A, c), (js6 rfl rfl rfl rfl rfl rfl), ?_, ?_⟩
     ·
      exact ⟨hc1, hz, by dsimp only; omega, hp, hb5, hO, hub, K⟩
     ·
      first | omega | (dsimp only; omega)
    ·
     rw [says_put hc2 hc3] at hz
     refine js (js (jr (jm ?_)))
     refine jo (jn (jv7 0 1 5 7 9 10 13 ?_))
     refine VC.meet (σ := Tx × Option Addr × Option Addr × Nat) (fun s => [(0, encStr q), (1, .slice L l.length lc), (5, .pointer (some ⟨g5, 0, none⟩)), (7, .int .i64 ((k : Nat) : Int)), (9, .int .i64 ((q.length : Nat) : Int)), (10, .int .i64 ((k : Nat) : Int))]) (fun s wz => s.1 = (if wt then o ++ [32] else o) ∧ (s.2.1 = none ∨ s.2.1 = some (⟨g5, 0, none⟩ : Addr)) ∧ Blk wz g5 50 #[.pointer s.2.1, .slice s.2.2.1 (s.1).length s.2.2.2] ∧ Own wz 5 1 s.2.2.1 (s.1).length s.2.2.2 (U8 (s.1)) ∧ (∀ x ∈ ob s.2.2.1, w.heap.size ≤ x) ∧ Frm [] w wz) ?_ ?_
     ·
      refine VC.condB rfl (fun hc4 => ?_) (fun hc4 => ?_)
      ·
       refine jr ?_
       refine Ops.cl (Enters.fn (evs.cons rfl (evs.cons rfl evs.nil)) Tryz.call27) (writeByte_spec g5 (o) 32 p A c _ hp hb5 hO (by omega)) rfl ?_
       have hub0 := hub
       rintro e w2 ⟨rfl, Aw2, cw2, hb5, hO, hfw2, hobw2⟩
       refine ⟨_, rfl, ?_⟩
       have hub := up_step hub hobw2 K.size
       have K := Frm.own K hfw2 (fun y hy => by
        simp only [List.mem_cons] at hy
        rcases hy with rfl | hy
        ·
         omega
        ·
         exact hub0 y hy)
       refine jo ?_
       refine jn ⟨(o ++ [32], some ⟨g5, 0, none⟩, Aw2, cw2), (js6 rfl rfl rfl rfl rfl rfl), ?_⟩
       exact ⟨by rw [if_pos hc4], .inr rfl, hb5, hO, hub, K⟩
      ·
       refine jk ?_
       refine jn ⟨(o, p, A, c), (js6 rfl rfl rfl rfl rfl rfl), ?_⟩
       exact ⟨by rw [if_neg (by simp [hc4])], hp, hb5, hO, hub, K⟩
     ·
      rintro ⟨o2, p, A, c⟩ wz ⟨ho2, hp, hb5, hO, hub, K⟩ Γ hΓ
      dsimp only at ho2 hp hb5 hO hub
      have ho2l : o2.length ≤ 2 * k + 1 := by rw [ho2]; split <;> (try simp) <;> omega
      rw [← ho2] at hz
      refine jn (VC.sub _ hΓ ?_)
      refine js (jr (ja ?_))
      refine jo (jn (jr (jm ?_)))
      refine jm ?_
      refine Ops.r (Run.indexT _ rfl rfl Tryz.underlying9 hgx) rfl ?_
      refine Ops.cl (Enters.fn (evs.cons rfl (evs.cons rfl evs.nil)) Tryz.call27) (writeByte_spec g5 (o2) x p A c _ hp hb5 hO (by omega)) rfl ?_
      have hub0 := hub
      rintro e w3 ⟨rfl, Aw3, cw3, hb5, hO, hfw3, hobw3⟩
      refine ⟨_, rfl, ?_⟩
      have hub := up_step hub hobw3 K.size
      have K := Frm.own K hfw3 (fun y hy => by
       simp only [List.mem_cons] at hy
       rcases hy with rfl | hy
       ·
        omega
       ·
        exact hub0 y hy)
      refine jo ?_
      refine blockQ_n (blockQ_n (jn ?_))
      refine jv6 0 1 5 6 9 10 ?_
      refine jr ?_
      refine Ops.r (Run.bin rfl rfl (Bin.add_i64 _ 1 (by omega))) rfl ?_
      refine jm ?_
      refine jo ?_
      refine jn ⟨(k + 1, false, o2 ++ [x], some ⟨g5, 0, none⟩, Aw3, cw3), (js6 rfl rfl rfl rfl rfl rfl), ?_, ?_⟩
      ·
       exact ⟨hc1, hz, by simp; omega, .inr rfl, hb5, hO, hub, K⟩
      ·
       first | omega | (dsimp only; omega)
 ·
  have hkl : k = q.length := by omega
  subst hkl
  rw [List.drop_eq_nil_of_le (by omega)] at hz
  have hz : saysQ (q.zip l) = o := hz
  refine jx ?_
  refine thenQ_x (thenQ_x (blockQ_x ?_))
  refine jn (jv1 5 ?_)
  refine js (jr ?_)
  refine Ops.cl (Enters.fn (evs.cons rfl evs.nil) Tryz.call28) ((Tryz.Builder_String_any w.heap.size g5 o _ (Bld.isB hp hb5 hO (by omega) (fun x hx => by have := hub x hx; omega)) K.size)) rfl ?_
  rintro e w6 ⟨rfl, hbe⟩
  refine ⟨_, rfl, ?_⟩
  have K6 := Frm.of_below (K.below.trans hbe)
  refine ja ?_
  refine jo (jn (jv1 4 ?_))
  refine jt ?_
  refine end1 rfl ?_
  exact ⟨by rw [hz], K6⟩
set_option maxRecDepth 100000 in
theorem afind_spec (q : Tx) (l : List Nat) (L : Option Addr) (lc : Nat) (sg : UInt8) (frm : Nat) (w : World) (hq : q.length ≤ 400000) (hll : l.length = q.length) (hl : Rd w 1 L l.length (NI l)) (hfr : frm ≤ q.length) :
  Calls Tryz.prog 129 #[encStr q, .slice L l.length lc, .int .u8 ((sg.toNat : Nat) : Int), .int .i64 ((frm : Nat) : Int)] w fun e w' => e = .returned (.int .i64 (fndA sg ((q.zip l).drop frm) frm)) ∧ w = w' := by
 refine VC.calls (nt := 30) (res := #[.tmp 8]) Tryz.func129 rfl Tryz.ntmps129 Tryz.results129 rfl ?_
 refine js (jr ?_)
 refine Ops.r (v := .int .i64 ((0 : Nat) : Int)) (Run.asg rfl) rfl ?_
 refine jo (jn (jv4 0 1 2 3 ?_))
 refine js (js (jr (jm ?_)))
 refine ja ?_
 refine jo (jn (jv4 0 1 2 9 ?_))
 refine jb ?_
 refine VC.loop (σ := Nat) (fun s => [(0, encStr q), (1, .slice L l.length lc), (2, .int .u8 ((sg.toNat : Nat) : Int)), (9, .int .i64 ((s : Nat) : Int))]) (fun s wr => s ≤ q.length ∧ fndA sg ((q.zip l).drop frm) frm = fndA sg ((q.zip l).drop s) s ∧ w = wr) (fun s => q.length - s) frm (js4 rfl rfl rfl rfl) ⟨hfr, rfl, rfl⟩ ?_
 rintro k _ ⟨hk, hz, rfl⟩
 refine js (js (jr (jm ?_)))
 refine jm ?_
 refine Ops.r (Run.lenT rfl Tryz.underlying9) rfl ?_
 refine Ops.r (Run.bin rfl rfl (Bin.lssN _ _)) rfl ?_
 refine jo (jn (jv5 0 1 2 9 14 ?_))
 refine VC.condD rfl (fun hc1 => ?_) (fun hc1 => ?_)
 ·
  have hgx : q[k]? = some q[k] := List.getElem?_eq_getElem hc1
  obtain ⟨ad, hLe, hcell⟩ := NI_at hl (show k < l.length by omega)
  have hzd := zip_drop hll hc1
  rw [hzd, fndA] at hz
  generalize q[k] = x at *
  generalize l[k] = u at *
  have exs : x.toNat = sg.toNat ↔ x = sg := UInt8.toNat_inj
  refine jk (jn (jv4 0 1 2 9 ?_))
  refine js (jb (js ?_))
  refine VC.split1 [(0, _), (1, _), (2, _), (9, _)] (js4 rfl rfl rfl rfl) 28 (.bool (decide ((u = 0) ∧ (x.toNat = sg.toNat)))) ?_ ?_
  ·
   by_cases hs0 : u = 0
   ·
    refine jr (jm ?_)
    refine jm ?_
    refine Ops.r (Run.index1 k (by rw [← hLe]; rfl) rfl Tryz.underlying152 Tryz.sizeOf154 (by omega)) rfl ?_
    refine Ops.r (Run.load rfl Tryz.isAgg154 hcell) rfl ?_
    refine Ops.r (Run.bin rfl rfl (Bin.eqlN _ 0)) rfl ?_
    refine jm ?_
    refine jg ?_
    refine jg ?_
    refine Ops.rg rfl au (Run.indexT _ rfl rfl Tryz.underlying9 hgx) rfl ?_
    refine jg ?_
    refine Ops.rg rfl au (Run.bin rfl rfl (Bin.eqlN _ _)) rfl ?_
    refine Ops.r (Run.pickT rfl rfl au) rfl ?_
    refine jo ?_
    refine jn ⟨(js5 (by rw [dand1 hs0]; rfl) rfl rfl rfl rfl), rfl⟩
   ·
    refine jr (jm ?_)
    refine jm ?_
    refine Ops.r (Run.index1 k (by rw [← hLe]; rfl) rfl Tryz.underlying152 Tryz.sizeOf154 (by omega)) rfl ?_
    refine Ops.r (Run.load rfl Tryz.isAgg154 hcell) rfl ?_
    refine Ops.r (Run.bin rfl rfl (Bin.eqlN _ 0)) rfl ?_
    refine jm ?_
    refine ju ?_
    refine ju ?_
    refine ju ?_
    refine ju ?_
    refine ju ?_
    refine Ops.r (Run.pickF rfl rfl au) rfl ?_
    refine jo ?_
    refine jn ⟨(js5 (by rw [dand0 hs0]; rfl) rfl rfl rfl rfl), rfl⟩
  ·
   intro Γ hΓ
   refine jn (VC.sub _ hΓ ?_)
   refine VC.condD rfl (fun hc2 => ?_) (fun hc2 => ?_)
   ·
    rw [if_pos ⟨hc2.1, exs.1 hc2.2⟩] at hz
    refine js (jr (jm ?_))
    refine ja ?_
    refine jo (jn (jv1 8 ?_))
    refine jt ?_
    refine blockQ_r (thenQ_r (thenQ_r (blockQ_r (thenQ_r (end1 rfl ?_)))))
    exact ⟨by rw [hz], rfl⟩
   ·
    rw [if_neg (fun h => hc2 ⟨h.1, exs.2 h.2⟩)] at hz
    refine jk ?_
    refine blockQ_n (jn ?_)
    refine jv4 0 1 2 9 ?_
    refine jr (jm ?_)
    refine Ops.r (Run.bin rfl rfl (Bin.add_i64 _ 1 (by omega))) rfl ?_
    refine ja ?_
    refine jo ?_
    refine jn ⟨(k + 1), (js4 rfl rfl rfl rfl), ?_, ?_⟩
    ·
     exact ⟨hc1, hz, rfl⟩
    ·
     first | omega | (dsimp only; omega)
 ·
  have hkl : k = q.length := by omega
  subst hkl
  have hn : (q.zip l).drop q.length = [] := List.drop_eq_nil_of_le (by rw [zip_len2 hll]; exact Nat.le_refl _)
  rw [hn] at hz
  have hz : fndA sg ((q.zip l).drop frm) frm = -1 := hz
  refine jx ?_
  refine thenQ_x (thenQ_x (blockQ_x ?_))
  refine jn ?_
  refine VC.sub [] .nil ?_
  refine js (jr ?_)
  refine Ops.r (v := .int .i64 (-1)) (Run.asg rfl) rfl ?_
  refine jo (jn (jt ?_))
  refine end1 rfl ?_
  exact ⟨by rw [hz], rfl⟩
end Go.Proofs.YtenbjndldenkfaaGreatDoor
namespace Go.Proofs.YtenbjndldenkfaaGreatDoor
open Go.RowKit Go.Sort
def frAt (z : List (UInt8 × Nat)) : Nat → Bool
 | 0 => true
 | k + 1 => match z[k]? with
  | some (c, u) => decide (u ≠ 3 ∨ c ≠ 92)
  | none => true
theorem frAt_zero {z : List (UInt8 × Nat)} {k : Nat} (h : k = 0) : frAt z k = true := by rw [h]; rfl
theorem frAt_pos {q : Tx} {l : List Nat} (hl : l.length = q.length) {k : Nat} (h : ¬ k = 0) (hk : k ≤ q.length) : ∃ (c : UInt8) (u : Nat), q[k - 1]? = some c ∧ l[k - 1]? = some u ∧ (frAt (q.zip l) k = true ↔ (u ≠ 3 ∨ c ≠ 92)) := by
 obtain ⟨j, rfl⟩ : ∃ j, k = j + 1 := ⟨k - 1, by omega⟩
 have h1 : j < q.length := by omega
 refine ⟨q[j], l[j]'(by omega), List.getElem?_eq_getElem h1, List.getElem?_eq_getElem _, ?_⟩
 have hz : (q.zip l)[j]? = some (q[j], l[j]'(by omega)) := by rw [List.getElem?_eq_getElem (by rw [zip_len2 hl]; exact h1), List.getElem_zip]
 show (match (q.zip l)[j]? with | some (c, u) => decide (u ≠ 3 ∨ c ≠ 92) | none => true) = true ↔ _
 rw [hz]
 exact decide_eq_true_iff
theorem frAt_next {q : Tx} {l : List Nat} (hl : l.length = q.length) {k : Nat} (hk : k < q.length) : frAt (q.zip l) (k + 1) = decide ((l[k]'(by omega)) ≠ 3 ∨ q[k] ≠ 92) := by
 have hz : (q.zip l)[k]? = some (q[k], l[k]'(by omega)) := by rw [List.getElem?_eq_getElem (by rw [zip_len2 hl]; exact hk), List.getElem_zip]
 show (match (q.zip l)[k]? with | some (c, u) => decide (u ≠ 3 ∨ c ≠ 92) | none => true) = _
 rw [hz]
def dpA (u : Nat) (c : UInt8) (fr : Bool) (d : Int) : Int := if u = 2 ∧ c = 40 ∧ fr = true then d + 1 else if u = 2 ∧ c = 41 ∧ fr = true then d - 1 else d
theorem frs_open {fr : Bool} {d : Int} {o : Tx} {c : UInt8} {u : Nat} {r : List (UInt8 × Nat)} (h : u = 2 ∧ c = 40 ∧ fr = true ∧ d = 0) : frsA fr d o ((c, u) :: r) = frsA (decide (u ≠ 3 ∨ c ≠ 92)) 1 o r := by
 conv => lhs; unfold frsA
 rw [if_pos h]
theorem frs_stop {fr : Bool} {d : Int} {o : Tx} {c : UInt8} {u : Nat} {r : List (UInt8 × Nat)} (h1 : ¬ (u = 2 ∧ c = 40 ∧ fr = true ∧ d = 0)) (h : u = 2 ∧ dpA u c fr d = 0) : frsA fr d o ((c, u) :: r) = o := by
 conv => lhs; unfold frsA
 rw [if_neg h1]
 exact if_pos h
theorem frs_step {fr : Bool} {d : Int} {o : Tx} {c : UInt8} {u : Nat} {r : List (UInt8 × Nat)} (h1 : ¬ (u = 2 ∧ c = 40 ∧ fr = true ∧ d = 0)) (h : ¬ (u = 2 ∧ dpA u c fr d = 0)) : frsA fr d o ((c, u) :: r) = frsA (decide (u ≠ 3 ∨ c ≠ 92)) (dpA u c fr d) (if u = 2 then o ++ [c] else o) r := by
 conv => lhs; unfold frsA
 rw [if_neg h1]
 exact if_neg h
set_option maxRecDepth 100000 in
set_option maxHeartbeats 1600000 in
theorem first_spec (q : Tx) (l : List Nat) (L : Option Addr) (lc : Nat) (w : World) (hq : q.length ≤ 400000) (hll : l.length = q.length) (hl : Rd w 1 L l.length (NI l)) :
  Calls Tryz.prog 127 #[encStr q, .slice L l.length lc] w fun e w' => e = .returned (encStr (firstA (q.zip l))) ∧ Frm [] w w' := by
 have K := Frm.refl [] w
 have hzl := zip_len2 hll
 refine VC.calls (nt := 107) (res := #[.tmp 4]) Tryz.func127 rfl Tryz.ntmps127 Tryz.results127 rfl ?_
 refine js (jr (ja ?_))
 refine jo (jn (jv2 0 1 ?_))
 refine js (jr ?_)
 refine Ops.m (Does.alloc zero50) rfl ?_
 rintro _ w1 ⟨rfl, hF1⟩
 have hb5 : Blk w1 w.heap.size 50 #[.pointer none, .slice none ([] : Tx).length 0] := hF1.blk
 have hg5 := K.size
 have K := K.trans hF1.frm (by simp)
 obtain ⟨g5, hg⟩ : ∃ g, w.heap.size = g := ⟨_, rfl⟩
 rw [hg] at hb5 ⊢
 refine jo (jn (js (jr ?_)))
 refine Ops.r (v := .int .i64 ((0 : Nat) : Int)) (Run.asg rfl) rfl ?_
 refine jo (jn (js (js (jr (jm ?_)))))
 refine Ops.r (Run.lenT rfl Tryz.underlying9) rfl ?_
 refine Ops.r (v := .int .i64 ((0 : Nat) : Int)) (Run.mv rfl) rfl ?_
 refine jo (jn (jv6 0 1 5 6 10 11 ?_))
 refine jb ?_
 refine VC.loop (σ := Nat × Int × Tx × Option Addr × Option Addr × Nat) (fun s => [(0, encStr q), (1, .slice L l.length lc), (5, .pointer (some ⟨g5, 0, none⟩)), (6, .int .i64 s.2.1), (10, .int .i64 ((q.length : Nat) : Int)), (11, .int .i64 ((s.1 : Nat) : Int))]) (fun s wr => s.1 ≤ q.length ∧ frsA true 0 [] (q.zip l) = frsA (frAt (q.zip l) s.1) s.2.1 s.2.2.1 ((q.zip l).drop s.1) ∧ -((s.1 : Nat) : Int) ≤ s.2.1 ∧ s.2.1 ≤ ((s.1 : Nat) : Int) ∧ s.2.2.1.length ≤ s.1 ∧ (s.2.2.2.1 = none ∨ s.2.2.2.1 = some (⟨g5, 0, none⟩ : Addr)) ∧ Blk wr g5 50 #[.pointer s.2.2.2.1, .slice s.2.2.2.2.1 (s.2.2.1).length s.2.2.2.2.2] ∧ Own wr 5 1 s.2.2.2.2.1 (s.2.2.1).length s.2.2.2.2.2 (U8 (s.2.2.1)) ∧ (∀ x ∈ ob s.2.2.2.2.1, w.heap.size ≤ x) ∧ Frm [] w wr) (fun s => q.length - s.1) (0, 0, [], none, none, 0) (js6 rfl rfl rfl rfl rfl rfl) ⟨Nat.zero_le _, rfl, by simp, by simp, by simp, .inl rfl, hb5, Own.nil _ _ _, by simp [ob], K⟩ ?_
 rintro ⟨k, d, o, p, A, c⟩ wr ⟨hk, hz, hd1, hd2, hol, hp, hb5, hO, hub, K⟩
 dsimp only at hk hz hd1 hd2 hol hp hb5 hO hub ⊢
 refine js (jr ?_)
 refine Ops.r (Run.bin rfl rfl (Bin.lssN _ _)) rfl ?_
 refine jo (jn (js ?_))
 refine VC.condD rfl (fun hc1 => ?_) (fun hc1 => ?_)
 ·
  have hgx : q[k]? = some q[k] := List.getElem?_eq_getElem hc1
  obtain ⟨ad, hLe, hcell⟩ := NI_at (hl.frm K (by simp)) (show k < l.length by omega)
  have hfp := fun h => frAt_pos hll (k := k) h hk
  have hfn := frAt_next hll hc1
  have hzd := zip_drop hll hc1
  rw [hzd] at hz
  generalize q[k] = x at *
  generalize l[k] = u at *
  have e40 : x.toNat = 40 ↔ x = 40 := u8n rfl
  have e41 : x.toNat = 41 ↔ x = 41 := u8n rfl
  refine jk (jn (jv6 0 1 5 6 10 11 ?_))
  refine js (jb (js (jr (jm ?_))))
  refine ja ?_
  refine jo (jn (jv7 0 1 5 6 7 10 11 ?_))
  refine js ?_
  refine VC.split1 [(0, _), (1, _), (5, _), (6, _), (7, _), (10, _), (11, _)] (js7 rfl rfl rfl rfl rfl rfl rfl) 8 (.bool (decide (frAt (q.zip l) k = true))) ?_ ?_
  ·
   refine jr ?_
   refine jm ?_
   refine Ops.r (Run.bin rfl rfl (Bin.eqlN _ 0)) rfl ?_
   by_cases hs15 : k = 0
   ·
    have hfz := frAt_zero (z := q.zip l) hs15
    refine jm ?_
    refine ju ?_
    refine ju ?_
    refine ju ?_
    refine ju ?_
    refine ju ?_
    refine ju ?_
    refine Ops.r (Run.pickT rfl rfl au) rfl ?_
    refine jm ?_
    refine ju ?_
    refine ju ?_
    refine ju ?_
    refine ju ?_
    refine ju ?_
    refine Ops.r (Run.pickT rfl rfl au) rfl ?_
    refine ja ?_
    refine jo ?_
    refine jn ⟨(js8 (jc (by first | (simp [hfz]; done) | (refine Eq.trans (b := decide (v ≠ 3 ∨ y.toNat ≠ 92)) ?_ (decide_eq_decide.2 hfi.symm); clear hfi; simp [*]; done))) rfl rfl rfl rfl rfl rfl rfl), rfl⟩
   ·
    obtain ⟨y, v, hgy, hgv, hfi0⟩ := hfp hs15
    have e92 : y.toNat = 92 ↔ y = 92 := u8n rfl
    have hfi : frAt (q.zip l) k = true ↔ (v ≠ 3 ∨ y.toNat ≠ 92) := ⟨fun h => (hfi0.1 h).imp_right (fun h e => h (e92.1 e)), fun h => hfi0.2 (h.imp_right (fun h e => h (e92.2 e)))⟩
    clear e92 hfi0
    obtain ⟨ad2, hLe2, hcell2⟩ := NI_at (hl.frm K (by simp)) (show k - 1 < l.length by omega)
    rw [show l[k - 1] = v from Option.some.inj ((List.getElem?_eq_getElem _).symm.trans hgv)] at hcell2
    cases hLe.symm.trans hLe2
    refine jm ?_
    refine jg ?_
    refine jg ?_
    refine Ops.rg rfl au (Run.bin rfl rfl (Bin.sub_i64 k 1 (by omega) (by omega))) rfl ?_
    refine Ops.rg rfl au (Run.index1 (k - 1) (by rw [← hLe]; rfl) rfl Tryz.underlying152 Tryz.sizeOf154 (by omega)) rfl ?_
    refine Ops.rg rfl au (Run.load rfl Tryz.isAgg154 hcell2) rfl ?_
    refine Ops.rg rfl au (Run.bin rfl rfl (Bin.neqN _ 3)) rfl ?_
    by_cases hs22 : v ≠ 3
    ·
     refine Ops.r (Run.pickF rfl rfl au) rfl ?_
     refine jm ?_
     refine ju ?_
     refine ju ?_
     refine ju ?_
     refine ju ?_
     refine ju ?_
     refine Ops.r (Run.pickT rfl rfl au) rfl ?_
     refine ja ?_
     refine jo ?_
     refine jn ⟨(js8 (jc (by first | (simp [hfz]; done) | (refine Eq.trans (b := decide (v ≠ 3 ∨ y.toNat ≠ 92)) ?_ (decide_eq_decide.2 hfi.symm); clear hfi; simp [*]; done))) rfl rfl rfl rfl rfl rfl rfl), rfl⟩
    ·
     refine Ops.r (Run.pickF rfl rfl au) rfl ?_
     refine jm ?_
     refine jg ?_
     refine jg ?_
     refine Ops.rg rfl au (Run.bin rfl rfl (Bin.sub_i64 k 1 (by omega) (by omega))) rfl ?_
     refine Ops.rg rfl au (Run.indexT _ rfl rfl Tryz.underlying9 hgy) rfl ?_
     refine Ops.rg rfl au (Run.bin rfl rfl (Bin.neqN _ 92)) rfl ?_
     by_cases hs29 : y.toNat ≠ 92
     ·
      refine Ops.r (Run.pickF rfl rfl au) rfl ?_
      refine ja ?_
      refine jo ?_
      refine jn ⟨(js8 (jc (by first | (simp [hfz]; done) | (refine Eq.trans (b := decide (v ≠ 3 ∨ y.toNat ≠ 92)) ?_ (decide_eq_decide.2 hfi.symm); clear hfi; simp [*]; done))) rfl rfl rfl rfl rfl rfl rfl), rfl⟩
     ·
      refine Ops.r (Run.pickF rfl rfl au) rfl ?_
      refine ja ?_
      refine jo ?_
      refine jn ⟨(js8 (jc (by first | (simp [hfz]; done) | (refine Eq.trans (b := decide (v ≠ 3 ∨ y.toNat ≠ 92)) ?_ (decide_eq_decide.2 hfi.symm); clear hfi; simp [*]; done))) rfl rfl rfl rfl rfl rfl rfl), rfl⟩
  ·
   intro Γ hΓ
   refine jn (VC.sub _ hΓ ?_)
   refine js (jb (js ?_))
   refine VC.split1 [(0, _), (1, _), (5, _), (6, _), (7, _), (8, _), (10, _), (11, _)] (js8 rfl rfl rfl rfl rfl rfl rfl rfl) 31 (.bool (decide (u = 2 ∧ x.toNat = 40 ∧ frAt (q.zip l) k = true ∧ d = 0))) ?_ ?_
   ·
    refine jr ?_
    refine jm ?_
    refine jm ?_
    refine Ops.r (Run.index1 k (by rw [← hLe]; rfl) rfl Tryz.underlying152 Tryz.sizeOf154 (by omega)) rfl ?_
    refine Ops.r (Run.load rfl Tryz.isAgg154 hcell) rfl ?_
    refine Ops.r (Run.bin rfl rfl (Bin.eqlN _ 2)) rfl ?_
    by_cases hs36 : u = 2
    ·
     refine jm ?_
     refine jg ?_
     refine jg ?_
     refine Ops.rg rfl au (Run.indexT _ rfl rfl Tryz.underlying9 hgx) rfl ?_
     refine Ops.rg rfl au (Run.bin rfl rfl (Bin.eqlN _ 40)) rfl ?_
     by_cases hs41 : x.toNat = 40
     ·
      refine Ops.r (Run.pickT rfl rfl au) rfl ?_
      refine jm ?_
      refine jg ?_
      by_cases hs44 : frAt (q.zip l) k = true
      ·
       refine Ops.r (Run.pickT rfl rfl au) rfl ?_
       refine jm ?_
       refine jg ?_
       refine Ops.rg rfl au (Run.bin rfl rfl (Bin.eql _ 0)) rfl ?_
       by_cases hs48 : d = 0
       ·
        refine Ops.r (Run.pickT rfl rfl au) rfl ?_
        refine ja ?_
        refine jo ?_
        refine jn ⟨(js9 (jc (by first | (simp [*]; done) | (clear e40 e41; simp [*]; done) | simp_all)) rfl rfl rfl rfl rfl rfl rfl rfl), rfl⟩
       ·
        refine Ops.r (Run.pickT rfl rfl au) rfl ?_
        refine ja ?_
        refine jo ?_
        refine jn ⟨(js9 (jc (by first | (simp [*]; done) | (clear e40 e41; simp [*]; done) | simp_all)) rfl rfl rfl rfl rfl rfl rfl rfl), rfl⟩
      ·
       refine Ops.r (Run.pickT rfl rfl au) rfl ?_
       refine jm ?_
       refine ju ?_
       refine ju ?_
       refine Ops.r (Run.pickF rfl rfl au) rfl ?_
       refine ja ?_
       refine jo ?_
       refine jn ⟨(js9 (jc (by first | (simp [*]; done) | (clear e40 e41; simp [*]; done) | simp_all)) rfl rfl rfl rfl rfl rfl rfl rfl), rfl⟩
     ·
      refine Ops.r (Run.pickT rfl rfl au) rfl ?_
      refine jm ?_
      refine ju ?_
      refine Ops.r (Run.pickF rfl rfl au) rfl ?_
      refine jm ?_
      refine ju ?_
      refine ju ?_
      refine Ops.r (Run.pickF rfl rfl au) rfl ?_
      refine ja ?_
      refine jo ?_
      refine jn ⟨(js9 (jc (by first | (simp [*]; done) | (clear e40 e41; simp [*]; done) | simp_all)) rfl rfl rfl rfl rfl rfl rfl rfl), rfl⟩
    ·
     refine jm ?_
     refine ju ?_
     refine ju ?_
     refine ju ?_
     refine ju ?_
     refine Ops.r (Run.pickF rfl rfl au) rfl ?_
     refine jm ?_
     refine ju ?_
     refine Ops.r (Run.pickF rfl rfl au) rfl ?_
     refine jm ?_
     refine ju ?_
     refine ju ?_
     refine Ops.r (Run.pickF rfl rfl au) rfl ?_
     refine ja ?_
     refine jo ?_
     refine jn ⟨(js9 (jc (by first | (simp [*]; done) | (clear e40 e41; simp [*]; done) | simp_all)) rfl rfl rfl rfl rfl rfl rfl rfl), rfl⟩
   ·
    intro Γ hΓ
    refine jn (VC.sub _ hΓ ?_)
    refine VC.condD rfl (fun hc2 => ?_) (fun hc2 => ?_)
    ·
     rw [frs_open ⟨hc2.1, e40.1 hc2.2.1, hc2.2.2.1, hc2.2.2.2⟩, ← hfn] at hz
     refine js (jr ?_)
     refine Ops.r (v := .int .i64 ((1 : Nat) : Int)) (Run.asg rfl) rfl ?_
     refine jo (jn (jv6 0 1 5 6 10 11 ?_))
     refine jx ?_
     refine blockQ_o rfl (thenQ_x (blockQ_x ?_))
     refine jn (jr ?_)
     refine Ops.r (Run.bin rfl rfl (Bin.add_i64 _ 1 (by omega))) rfl ?_
     refine jm ?_
     refine jo ?_
     refine jn ⟨(k + 1, 1, o, p, A, c), (js6 rfl rfl rfl rfl rfl rfl), ?_, ?_⟩
     ·
      exact ⟨hc1, hz, by dsimp only; omega, by dsimp only; omega, by dsimp only; omega, hp, hb5, hO, hub, K⟩
     ·
      first | omega | (dsimp only; omega)
    ·
     have g1 : ¬ (u = 2 ∧ x = 40 ∧ frAt (q.zip l) k = true ∧ d = 0) := fun h => hc2 ⟨h.1, e40.2 h.2.1, h.2.2⟩
     refine js ?_
     refine VC.split1 [(0, _), (1, _), (5, _), (6, _), (7, _), (8, _), (10, _), (11, _)] (js8 rfl rfl rfl rfl rfl rfl rfl rfl) 50 (.bool (decide (u = 2 ∧ x.toNat = 40 ∧ frAt (q.zip l) k = true))) ?_ ?_
     ·
      refine jr ?_
      refine jm ?_
      refine jm ?_
      refine Ops.r (Run.index1 k (by rw [← hLe]; rfl) rfl Tryz.underlying152 Tryz.sizeOf154 (by omega)) rfl ?_
      refine Ops.r (Run.load rfl Tryz.isAgg154 hcell) rfl ?_
      refine Ops.r (Run.bin rfl rfl (Bin.eqlN _ 2)) rfl ?_
      by_cases hs55 : u = 2
      ·
       refine jm ?_
       refine jg ?_
       refine jg ?_
       refine Ops.rg rfl au (Run.indexT _ rfl rfl Tryz.underlying9 hgx) rfl ?_
       refine Ops.rg rfl au (Run.bin rfl rfl (Bin.eqlN _ 40)) rfl ?_
       by_cases hs60 : x.toNat = 40
       ·
        refine Ops.r (Run.pickT rfl rfl au) rfl ?_
        refine jm ?_
        refine jg ?_
        by_cases hs63 : frAt (q.zip l) k = true
        ·
         refine Ops.r (Run.pickT rfl rfl au) rfl ?_
         refine ja ?_
         refine jo ?_
         refine jn ⟨(js9 (jc (by first | (simp [*]; done) | (clear e40 e41; simp [*]; done) | simp_all)) rfl rfl rfl rfl rfl rfl rfl rfl), rfl⟩
        ·
         refine Ops.r (Run.pickT rfl rfl au) rfl ?_
         refine ja ?_
         refine jo ?_
         refine jn ⟨(js9 (jc (by first | (simp [*]; done) | (clear e40 e41; simp [*]; done) | simp_all)) rfl rfl rfl rfl rfl rfl rfl rfl), rfl⟩
       ·
        refine Ops.r (Run.pickT rfl rfl au) rfl ?_
        refine jm ?_
        refine ju ?_
        refine Ops.r (Run.pickF rfl rfl au) rfl ?_
        refine ja ?_
        refine jo ?_
        refine jn ⟨(js9 (jc (by first | (simp [*]; done) | (clear e40 e41; simp [*]; done) | simp_all)) rfl rfl rfl rfl rfl rfl rfl rfl), rfl⟩
      ·
       refine jm ?_
       refine ju ?_
       refine ju ?_
       refine ju ?_
       refine ju ?_
       refine Ops.r (Run.pickF rfl rfl au) rfl ?_
       refine jm ?_
       refine ju ?_
       refine Ops.r (Run.pickF rfl rfl au) rfl ?_
       refine ja ?_
       refine jo ?_
       refine jn ⟨(js9 (jc (by first | (simp [*]; done) | (clear e40 e41; simp [*]; done) | simp_all)) rfl rfl rfl rfl rfl rfl rfl rfl), rfl⟩
     ·
      intro Γ hΓ
      refine jn (VC.sub _ hΓ ?_)
      refine VC.meet (σ := Unit) (fun s => [(0, encStr q), (1, .slice L l.length lc), (5, .pointer (some ⟨g5, 0, none⟩)), (6, .int .i64 (dpA u x (frAt (q.zip l) k) d)), (7, .int .i64 ((k : Nat) : Int)), (10, .int .i64 ((q.length : Nat) : Int)), (11, .int .i64 ((k : Nat) : Int))]) (fun s wz => wr = wz) ?_ ?_
      ·
       refine VC.condD rfl (fun hc3 => ?_) (fun hc3 => ?_)
       ·
        have hde : dpA u x (frAt (q.zip l) k) d = d + 1 := if_pos ⟨hc3.1, e40.1 hc3.2.1, hc3.2.2⟩
        refine jr (jm ?_)
        refine Ops.r (Run.bin rfl rfl (Bin.addZ _ 1 (by omega) (by omega))) rfl ?_
        refine ja ?_
        refine jo ?_
        refine jn ⟨(), (js7 rfl rfl rfl (by rw [hde]; rfl) rfl rfl rfl), ?_⟩
        rfl
       ·
        have hd0 : dpA u x (frAt (q.zip l) k) d = if u = 2 ∧ x = 41 ∧ frAt (q.zip l) k = true then d - 1 else d := if_neg (fun h => hc3 ⟨h.1, e40.2 h.2.1, h.2.2⟩)
        refine js ?_
        refine VC.split1 [(0, _), (1, _), (5, _), (6, _), (7, _), (10, _), (11, _)] (js7 rfl rfl rfl rfl rfl rfl rfl) 67 (.bool (decide (u = 2 ∧ x.toNat = 41 ∧ frAt (q.zip l) k = true))) ?_ ?_
        ·
         refine jr ?_
         refine jm ?_
         refine jm ?_
         refine Ops.r (Run.index1 k (by rw [← hLe]; rfl) rfl Tryz.underlying152 Tryz.sizeOf154 (by omega)) rfl ?_
         refine Ops.r (Run.load rfl Tryz.isAgg154 hcell) rfl ?_
         refine Ops.r (Run.bin rfl rfl (Bin.eqlN _ 2)) rfl ?_
         by_cases hs72 : u = 2
         ·
          refine jm ?_
          refine jg ?_
          refine jg ?_
          refine Ops.rg rfl au (Run.indexT _ rfl rfl Tryz.underlying9 hgx) rfl ?_
          refine Ops.rg rfl au (Run.bin rfl rfl (Bin.eqlN _ 41)) rfl ?_
          by_cases hs77 : x.toNat = 41
          ·
           refine Ops.r (Run.pickT rfl rfl au) rfl ?_
           refine jm ?_
           refine jg ?_
           by_cases hs80 : frAt (q.zip l) k = true
           ·
            refine Ops.r (Run.pickT rfl rfl au) rfl ?_
            refine ja ?_
            refine jo ?_
            refine jn ⟨(js8 (jc (by first | (simp [*]; done) | (clear e40 e41; simp [*]; done) | simp_all)) rfl rfl rfl rfl rfl rfl rfl), rfl⟩
           ·
            refine Ops.r (Run.pickT rfl rfl au) rfl ?_
            refine ja ?_
            refine jo ?_
            refine jn ⟨(js8 (jc (by first | (simp [*]; done) | (clear e40 e41; simp [*]; done) | simp_all)) rfl rfl rfl rfl rfl rfl rfl), rfl⟩
          ·
           refine Ops.r (Run.pickT rfl rfl au) rfl ?_
           refine jm ?_
           refine ju ?_
           refine Ops.r (Run.pickF rfl rfl au) rfl ?_
           refine ja ?_
           refine jo ?_
           refine jn ⟨(js8 (jc (by first | (simp [*]; done) | (clear e40 e41; simp [*]; done) | simp_all)) rfl rfl rfl rfl rfl rfl rfl), rfl⟩
         ·
          refine jm ?_
          refine ju ?_
          refine ju ?_
          refine ju ?_
          refine ju ?_
          refine Ops.r (Run.pickF rfl rfl au) rfl ?_
          refine jm ?_
          refine ju ?_
          refine Ops.r (Run.pickF rfl rfl au) rfl ?_
          refine ja ?_
          refine jo ?_
          refine jn ⟨(js8 (jc (by first | (simp [*]; done) | (clear e40 e41; simp [*]; done) | simp_all)) rfl rfl rfl rfl rfl rfl rfl), rfl⟩
        ·
         intro Γ hΓ
         refine jn (VC.sub _ hΓ ?_)
         refine VC.condD rfl (fun hc4 => ?_) (fun hc4 => ?_)
         ·
          have hde : dpA u x (frAt (q.zip l) k) d = d - 1 := hd0.trans (if_pos ⟨hc4.1, e41.1 hc4.2.1, hc4.2.2⟩)
          refine jr (jm ?_)
          refine Ops.r (Run.bin rfl rfl (Bin.subZ _ 1 (by omega) (by omega))) rfl ?_
          refine ja ?_
          refine jo ?_
          refine jn ⟨(), (js7 rfl rfl rfl (by rw [hde]; rfl) rfl rfl rfl), ?_⟩
          rfl
         ·
          have hde : dpA u x (frAt (q.zip l) k) d = d := hd0.trans (if_neg (fun h => hc4 ⟨h.1, e41.2 h.2.1, h.2.2⟩))
          refine jk ?_
          refine jn ⟨(), (js7 rfl rfl rfl (by rw [hde]; rfl) rfl rfl rfl), ?_⟩
          rfl
      ·
       rintro _ _ rfl Γ hΓ
       have hdb : d - 1 ≤ dpA u x (frAt (q.zip l) k) d ∧ dpA u x (frAt (q.zip l) k) d ≤ d + 1 := by
        unfold dpA
        split
        ·
         omega
        ·
         split <;> omega
       have hst := fun h => frs_stop (o := o) (r := (q.zip l).drop (k + 1)) g1 h
       have hsp := fun h => frs_step (o := o) (r := (q.zip l).drop (k + 1)) g1 h
       generalize dpA u x (frAt (q.zip l) k) d = d2 at *
       refine blockQ_n (jn (VC.sub _ hΓ ?_))
       refine js (js ?_)
       refine VC.split1 [(0, _), (1, _), (5, _), (6, _), (7, _), (10, _), (11, _)] (js7 rfl rfl rfl rfl rfl rfl rfl) 92 (.bool (decide ((u = 2) ∧ (d2 = 0)))) ?_ ?_
       ·
        by_cases hs0 : u = 2
        ·
         refine jr (jm ?_)
         refine jm ?_
         refine Ops.r (Run.index1 k (by rw [← hLe]; rfl) rfl Tryz.underlying152 Tryz.sizeOf154 (by omega)) rfl ?_
         refine Ops.r (Run.load rfl Tryz.isAgg154 hcell) rfl ?_
         refine Ops.r (Run.bin rfl rfl (Bin.eqlN _ 2)) rfl ?_
         refine jm ?_
         refine jg ?_
         refine Ops.rg rfl au (Run.bin rfl rfl (Bin.eql _ 0)) rfl ?_
         refine Ops.r (Run.pickT rfl rfl au) rfl ?_
         refine jo ?_
         refine jn ⟨(js8 (by rw [dand1 hs0]; rfl) rfl rfl rfl rfl rfl rfl rfl), rfl⟩
        ·
         refine jr (jm ?_)
         refine jm ?_
         refine Ops.r (Run.index1 k (by rw [← hLe]; rfl) rfl Tryz.underlying152 Tryz.sizeOf154 (by omega)) rfl ?_
         refine Ops.r (Run.load rfl Tryz.isAgg154 hcell) rfl ?_
         refine Ops.r (Run.bin rfl rfl (Bin.eqlN _ 2)) rfl ?_
         refine jm ?_
         refine ju ?_
         refine ju ?_
         refine Ops.r (Run.pickF rfl rfl au) rfl ?_
         refine jo ?_
         refine jn ⟨(js8 (by rw [dand0 hs0]; rfl) rfl rfl rfl rfl rfl rfl rfl), rfl⟩
       ·
        intro Γ hΓ
        refine jn (VC.sub _ hΓ ?_)
        refine VC.condD rfl (fun hc5 => ?_) (fun hc5 => ?_)
        ·
         rw [hst hc5] at hz
         have hfa : firstA (q.zip l) = leftB (rightB o) := by unfold firstA; rw [hz]; rfl
         refine js (jr ?_)
         refine Ops.cl (Enters.fn (evs.cons rfl evs.nil) Tryz.call28) ((Tryz.Builder_String_any w.heap.size g5 o _ (Bld.isB hp hb5 hO (by omega) (fun x hx => by have := hub x hx; omega)) K.size)) rfl ?_
         rintro e w6 ⟨rfl, hbe⟩
         refine ⟨_, rfl, ?_⟩
         have K6 := Frm.of_below (K.below.trans hbe)
         refine Ops.cl (Enters.fn (evs.cons rfl (evs.cons rfl evs.nil)) Tryz.call125) ((trimS_spec o _ (by omega))) rfl ?_
         rintro e w7 ⟨rfl, f7⟩
         refine ⟨_, rfl, ?_⟩
         have K6 := K6.trans f7 (by simp)
         refine ja ?_
         refine jo (jn (jv1 4 ?_))
         refine jt ?_
         refine thenQ_r (blockQ_r (thenQ_r (thenQ_r (blockQ_r (thenQ_r (end1 rfl ?_))))))
         exact ⟨by rw [hfa], K6⟩
        ·
         rw [hsp hc5, ← hfn] at hz
         refine jk (jn (jv7 0 1 5 6 7 10 11 ?_))
         refine js (jr (jm ?_))
         refine jm ?_
         refine Ops.r (Run.index1 k (by rw [← hLe]; rfl) rfl Tryz.underlying152 Tryz.sizeOf154 (by omega)) rfl ?_
         refine Ops.r (Run.load rfl Tryz.isAgg154 hcell) rfl ?_
         refine Ops.r (Run.bin rfl rfl (Bin.eqlN _ 2)) rfl ?_
         refine jo (jn (jv8 0 1 5 6 7 10 11 99 ?_))
         refine VC.condD rfl (fun hc6 => ?_) (fun hc6 => ?_)
         ·
          rw [if_pos hc6] at hz
          refine jr (jm ?_)
          refine jm ?_
          refine Ops.r (Run.indexT _ rfl rfl Tryz.underlying9 hgx) rfl ?_
          refine Ops.cl (Enters.fn (evs.cons rfl (evs.cons rfl evs.nil)) Tryz.call27) (writeByte_spec g5 (o) x p A c _ hp hb5 hO (by omega)) rfl ?_
          have hub0 := hub
          rintro e w3 ⟨rfl, Aw3, cw3, hb5, hO, hfw3, hobw3⟩
          refine ⟨_, rfl, ?_⟩
          have hub := up_step hub hobw3 K.size
          have K := Frm.own K hfw3 (fun y hy => by
           simp only [List.mem_cons] at hy
           rcases hy with rfl | hy
           ·
            omega
           ·
            exact hub0 y hy)
          refine jo ?_
          refine blockQ_n (jn ?_)
          refine jv6 0 1 5 6 10 11 ?_
          refine jr ?_
          refine Ops.r (Run.bin rfl rfl (Bin.add_i64 _ 1 (by omega))) rfl ?_
          refine jm ?_
          refine jo ?_
          refine jn ⟨(k + 1, d2, o ++ [x], some ⟨g5, 0, none⟩, Aw3, cw3), (js6 rfl rfl rfl rfl rfl rfl), ?_, ?_⟩
          ·
           exact ⟨hc1, hz, by dsimp only; omega, by dsimp only; omega, by simp; omega, .inr rfl, hb5, hO, hub, K⟩
          ·
           first | omega | (dsimp only; omega)
         ·
          rw [if_neg hc6] at hz
          refine jk ?_
          refine blockQ_n (jn ?_)
          refine jv6 0 1 5 6 10 11 ?_
          refine jr ?_
          refine Ops.r (Run.bin rfl rfl (Bin.add_i64 _ 1 (by omega))) rfl ?_
          refine jm ?_
          refine jo ?_
          refine jn ⟨(k + 1, d2, o, p, A, c), (js6 rfl rfl rfl rfl rfl rfl), ?_, ?_⟩
          ·
           exact ⟨hc1, hz, by dsimp only; omega, by dsimp only; omega, by dsimp only; omega, hp, hb5, hO, hub, K⟩
          ·
           first | omega | (dsimp only; omega)
 ·
  have hkl : k = q.length := by omega
  subst hkl
  rw [List.drop_eq_nil_of_le (by omega)] at hz
  have hz : frsA true 0 [] (q.zip l) = o := hz
  have hfa : firstA (q.zip l) = leftB (rightB o) := by unfold firstA; rw [hz]; rfl
  refine jx ?_
  refine thenQ_x (thenQ_x (blockQ_x ?_))
  refine jn (jv1 5 ?_)
  refine js (jr ?_)
  refine Ops.cl (Enters.fn (evs.cons rfl evs.nil) Tryz.call28) ((Tryz.Builder_String_any w.heap.size g5 o _ (Bld.isB hp hb5 hO (by omega) (fun x hx => by have := hub x hx; omega)) K.size)) rfl ?_
  rintro e w6 ⟨rfl, hbe⟩
  refine ⟨_, rfl, ?_⟩
  have K6 := Frm.of_below (K.below.trans hbe)
  refine Ops.cl (Enters.fn (evs.cons rfl (evs.cons rfl evs.nil)) Tryz.call125) ((trimS_spec o _ (by omega))) rfl ?_
  rintro e w7 ⟨rfl, f7⟩
  refine ⟨_, rfl, ?_⟩
  have K6 := K6.trans f7 (by simp)
  refine ja ?_
  refine jo (jn (jv1 4 ?_))
  refine jt ?_
  refine end1 rfl ?_
  exact ⟨by rw [hfa], K6⟩
end Go.Proofs.YtenbjndldenkfaaGreatDoor
namespace Go.Proofs.YtenbjndldenkfaaGreatDoor
open Go.RowKit Go.Sort
theorem apcs_end (s : Tx) (k frm : Nat) (ang : Bool) (out : List Tx) : pcsA s [] k frm ang out = out ++ [s.drop frm] := rfl
theorem apcs_not {s : Tx} {c : UInt8} {u k frm : Nat} {ang : Bool} {out : List Tx} {r : List (UInt8 × Nat)} (h : u ≠ 0) : pcsA s ((c, u) :: r) k frm ang out = pcsA s r (k + 1) frm ang out := by
 conv => lhs; unfold pcsA
 rw [if_pos h]
theorem apcs_in {s : Tx} {c : UInt8} {u k frm : Nat} {ang : Bool} {out : List Tx} {r : List (UInt8 × Nat)} (h : ¬ u ≠ 0) (h1 : c = 60) : pcsA s ((c, u) :: r) k frm ang out = pcsA s r (k + 1) frm true out := by
 conv => lhs; unfold pcsA
 rw [if_neg h, if_pos h1]
theorem apcs_out {s : Tx} {c : UInt8} {u k frm : Nat} {ang : Bool} {out : List Tx} {r : List (UInt8 × Nat)} (h : ¬ u ≠ 0) (h1 : ¬ c = 60) (h2 : c = 62) : pcsA s ((c, u) :: r) k frm ang out = pcsA s r (k + 1) frm false out := by
 conv => lhs; unfold pcsA
 rw [if_neg h, if_neg h1, if_pos h2]
theorem apcs_cut {s : Tx} {c : UInt8} {u k frm : Nat} {ang : Bool} {out : List Tx} {r : List (UInt8 × Nat)} (h : ¬ u ≠ 0) (h1 : ¬ c = 60) (h2 : ¬ c = 62) (h3 : c = 44 ∧ ang = false) : pcsA s ((c, u) :: r) k frm ang out = pcsA s r (k + 1) (k + 1) ang (out ++ [sliceQ s frm k]) := by
 conv => lhs; unfold pcsA
 rw [if_neg h, if_neg h1, if_neg h2, if_pos h3]
theorem apcs_on {s : Tx} {c : UInt8} {u k frm : Nat} {ang : Bool} {out : List Tx} {r : List (UInt8 × Nat)} (h : ¬ u ≠ 0) (h1 : ¬ c = 60) (h2 : ¬ c = 62) (h3 : ¬ (c = 44 ∧ ang = false)) : pcsA s ((c, u) :: r) k frm ang out = pcsA s r (k + 1) frm ang out := by
 conv => lhs; unfold pcsA
 rw [if_neg h, if_neg h1, if_neg h2, if_neg h3]
set_option maxRecDepth 100000 in
set_option maxHeartbeats 800000 in
theorem apieces_spec (q : Tx) (w : World) (hq : q.length ≤ 400000) :
  Calls Tryz.prog 91 #[encStr q] w fun e w' => Frm [] w w' ∧ ∃ A c, e = .returned (.slice A (piecesA q).length c) ∧ Own w' 9 1 A (piecesA q).length c (SB (piecesA q)) ∧ ∀ x ∈ ob A, w.heap.size ≤ x := by
 have K := Frm.refl [] w
 have hul := usesQ_len q
 have hzl := zip_len2 hul
 refine VC.calls (nt := 47) (res := #[.tmp 2]) Tryz.func91 rfl Tryz.ntmps91 Tryz.results91 rfl ?_
 refine js (jr (ja ?_))
 refine jo (jn (jv1 0 ?_))
 refine js (jr (ja ?_))
 refine jo (jn (js (jr (jm ?_))))
 refine Ops.cl (Enters.fn (evs.cons rfl evs.nil) Tryz.call126) ((uses_spec q _ (by omega))) rfl ?_
 rintro e w1 ⟨f1, L, rfl, hL, hubL⟩
 refine ⟨_, rfl, ?_⟩
 have K := K.trans f1 (by simp)
 refine ja ?_
 refine jo (jn (jv3 0 3 4 ?_))
 refine js (jr ?_)
 refine Ops.r (v := .int .i64 ((0 : Nat) : Int)) (Run.asg rfl) rfl ?_
 refine ja ?_
 refine jo (jn (js (js (jr (jm ?_)))))
 refine Ops.r (Run.lenT rfl Tryz.underlying9) rfl ?_
 refine Ops.r (v := .int .i64 ((0 : Nat) : Int)) (Run.mv rfl) rfl ?_
 refine jo (jn (jv7 0 3 4 5 6 11 12 ?_))
 refine jb ?_
 refine VC.loop (σ := Nat × Nat × Bool × List Tx × Option Addr × Nat) (fun s => [(0, encStr q), (3, .slice s.2.2.2.2.1 s.2.2.2.1.length s.2.2.2.2.2), (4, .slice L q.length q.length), (5, .int .i64 ((s.2.1 : Nat) : Int)), (6, .bool s.2.2.1), (11, .int .i64 ((q.length : Nat) : Int)), (12, .int .i64 ((s.1 : Nat) : Int))]) (fun s wr => s.1 ≤ q.length ∧ piecesA q = pcsA q ((q.zip (usesQ q)).drop s.1) s.1 s.2.1 s.2.2.1 s.2.2.2.1 ∧ s.2.1 ≤ s.1 ∧ s.2.2.2.1.length ≤ s.1 ∧ Frm [] w wr ∧ Own wr 154 1 L q.length q.length (NI (usesQ q)) ∧ Own wr 9 1 s.2.2.2.2.1 s.2.2.2.1.length s.2.2.2.2.2 (SB s.2.2.2.1) ∧ ∀ x ∈ ob s.2.2.2.2.1, w.heap.size ≤ x) (fun s => q.length - s.1) (0, 0, false, [], none, 0) (js7 rfl rfl rfl rfl rfl rfl rfl) ⟨Nat.zero_le _, rfl, Nat.le_refl _, Nat.le_refl _, K, hL, Own.nil _ _ _, by simp [ob]⟩ ?_
 rintro ⟨k, frm, ang, o, A, c⟩ wr ⟨hk, hz, hfk, hol, K, hL, hO, hub⟩
 dsimp only at hk hz hfk hol hO hub ⊢
 refine js (jr ?_)
 refine Ops.r (Run.bin rfl rfl (Bin.lssN _ _)) rfl ?_
 refine jo (jn (js ?_))
 refine VC.condD rfl (fun hc1 => ?_) (fun hc1 => ?_)
 ·
  have hgx : q[k]? = some q[k] := List.getElem?_eq_getElem hc1
  obtain ⟨ad, hLe, hcell⟩ := NI_at (l := usesQ q) (by rw [hul]; exact hL.rd) (show k < (usesQ q).length by omega)
  have hzd := zip_drop hul hc1
  rw [hzd] at hz
  generalize q[k] = x at *
  generalize (usesQ q)[k] = u at *
  have e60 : x.toNat = 60 ↔ x = 60 := u8n rfl
  have e62 : x.toNat = 62 ↔ x = 62 := u8n rfl
  have e44 : x.toNat = 44 ↔ x = 44 := u8n rfl
  refine jk (jn (jv7 0 3 4 5 6 11 12 ?_))
  refine js (jb (js (jr (jm ?_))))
  refine ja ?_
  refine jo (jn (jv8 0 3 4 5 6 7 11 12 ?_))
  refine js (js (jr (jm ?_)))
  refine jm ?_
  refine Ops.r (Run.index1 k (by rw [← hLe]; rfl) rfl Tryz.underlying152 Tryz.sizeOf154 (by omega)) rfl ?_
  refine Ops.r (Run.load rfl Tryz.isAgg154 hcell) rfl ?_
  refine Ops.r (Run.bin rfl rfl (Bin.neqN _ 0)) rfl ?_
  refine jo (jn (jv9 0 3 4 5 6 7 11 12 19 ?_))
  refine VC.condD rfl (fun hc2 => ?_) (fun hc2 => ?_)
  ·
   rw [apcs_not hc2] at hz
   refine jx ?_
   refine thenQ_x (blockQ_x ?_)
   refine jn (jv7 0 3 4 5 6 11 12 ?_)
   refine jr ?_
   refine Ops.r (Run.bin rfl rfl (Bin.add_i64 _ 1 (by omega))) rfl ?_
   refine jm ?_
   refine jo ?_
   refine jn ⟨(k + 1, frm, ang, o, A, c), (js7 rfl rfl rfl rfl rfl rfl rfl), ?_, ?_⟩
   ·
    exact ⟨hc1, hz, by dsimp only; omega, by dsimp only; omega, K, hL, hO, hub⟩
   ·
    first | omega | (dsimp only; omega)
  ·
   refine jk (jn (jv8 0 3 4 5 6 7 11 12 ?_))
   refine js (jr (jm ?_))
   refine jm ?_
   refine Ops.r (Run.indexT _ rfl rfl Tryz.underlying9 hgx) rfl ?_
   refine jo (jn (jv9 0 3 4 5 6 7 11 12 22 ?_))
   refine jb (js (jr ?_))
   refine Ops.r (Run.bin rfl rfl (Bin.eqlN _ 60)) rfl ?_
   refine ja ?_
   refine jo (jn (jv10 0 3 4 5 6 7 11 12 22 23 ?_))
   refine VC.condD rfl (fun hc3 => ?_) (fun hc3 => ?_)
   ·
    rw [apcs_in hc2 (e60.1 hc3)] at hz
    refine jr (ja ?_)
    refine jo ?_
    refine blockQ_n (blockQ_n (jn ?_))
    refine jv7 0 3 4 5 6 11 12 ?_
    refine jr ?_
    refine Ops.r (Run.bin rfl rfl (Bin.add_i64 _ 1 (by omega))) rfl ?_
    refine jm ?_
    refine jo ?_
    refine jn ⟨(k + 1, frm, true, o, A, c), (js7 rfl rfl rfl rfl rfl rfl rfl), ?_, ?_⟩
    ·
     exact ⟨hc1, hz, by dsimp only; omega, by dsimp only; omega, K, hL, hO, hub⟩
    ·
     first | omega | (dsimp only; omega)
   ·
    have g1 : ¬ x = 60 := fun h => hc3 (e60.2 h)
    refine js (jr ?_)
    refine Ops.r (Run.bin rfl rfl (Bin.eqlN _ 62)) rfl ?_
    refine ja ?_
    refine jo (jn (jv10 0 3 4 5 6 7 11 12 22 25 ?_))
    refine VC.condD rfl (fun hc4 => ?_) (fun hc4 => ?_)
    ·
     rw [apcs_out hc2 g1 (e62.1 hc4)] at hz
     refine jr (ja ?_)
     refine jo ?_
     refine blockQ_n (blockQ_n (jn ?_))
     refine jv7 0 3 4 5 6 11 12 ?_
     refine jr ?_
     refine Ops.r (Run.bin rfl rfl (Bin.add_i64 _ 1 (by omega))) rfl ?_
     refine jm ?_
     refine jo ?_
     refine jn ⟨(k + 1, frm, false, o, A, c), (js7 rfl rfl rfl rfl rfl rfl rfl), ?_, ?_⟩
     ·
      exact ⟨hc1, hz, by dsimp only; omega, by dsimp only; omega, K, hL, hO, hub⟩
     ·
      first | omega | (dsimp only; omega)
    ·
     have g2 : ¬ x = 62 := fun h => hc4 (e62.2 h)
     refine js (jr ?_)
     refine Ops.r (Run.bin rfl rfl (Bin.eqlN _ 44)) rfl ?_
     refine ja ?_
     refine jo (jn (jv9 0 3 4 5 6 7 11 12 27 ?_))
     refine VC.condD rfl (fun hc5 => ?_) (fun hc5 => ?_)
     ·
      refine js (jr (jm ?_))
      refine Ops.r (Run.not rfl) rfl ?_
      refine jo (jn (jv9 0 3 4 5 6 7 11 12 30 ?_))
      refine VC.condB rfl (fun hc6 => ?_) (fun hc6 => ?_)
      ·
       have hang : ang = false := by simpa using hc6
       rw [apcs_cut hc2 g1 g2 ⟨e44.1 hc5, hang⟩] at hz
       refine js (jr (jm ?_))
       refine jm ?_
       refine jm ?_
       refine jm ?_
       refine Ops.r (Run.sliceT frm k rfl Tryz.underlying9 (evB.some_ rfl) (evB.some_ rfl) hfk (by omega)) rfl ?_
       refine Ops.m (Does.buildS1 rfl Tryz.underlying36 Tryz.sizeOf9 zero9 (by decide) (by decide) rfl rfl) rfl ?_
       rintro _ w2 ⟨rfl, hFw2⟩
       have hr5 : Rd w2 1 (some ⟨_, 0, none⟩) 1 (SB [(q.drop frm).take (k - frm)]) := Rd.of_blk (n := 1) (size := 1) hFw2.blk rfl
       have K := K.trans hFw2.frm (by simp)
       have hL := hL.frm hFw2.frm (by simp)
       have hO := hO.frm hFw2.frm (by simp)
       refine Ops.m (Does.app rfl rfl Tryz.underlying36 (info9) rfl (by decide) hO hr5 (by intro u hu; simp only [SB, List.map_cons, List.map_nil, List.mem_singleton] at hu; subst hu; rfl) (by omega) (by omega)) rfl ?_
       rintro _ w3 ⟨A6, c6, rfl, hO6, f6, hob6⟩
       have sK := K.size
       have hL := hL.frm f6 (fun y hy => hL.ne_own hO (by decide) y hy)
       have K := Frm.own K f6 hub
       rw [← SB_append] at hO6
       have hub6 : ∀ x ∈ ob A6, w.heap.size ≤ x := up_app hub hob6 sK
       refine ja ?_
       refine jo (jn (jv7 0 3 4 6 7 11 12 ?_))
       refine jr (jm ?_)
       refine Ops.r (Run.bin rfl rfl (Bin.add_i64 _ 1 (by omega))) rfl ?_
       refine ja ?_
       refine jo ?_
       refine blockQ_n (blockQ_n (jn ?_))
       refine jv7 0 3 4 5 6 11 12 ?_
       refine jr ?_
       refine Ops.r (Run.bin rfl rfl (Bin.add_i64 _ 1 (by omega))) rfl ?_
       refine jm ?_
       refine jo ?_
       refine jn ⟨(k + 1, k + 1, ang, o ++ [(q.drop frm).take (k - frm)], A6, c6), (js7 rfl (by rw [List.length_append]; rfl) rfl rfl rfl rfl rfl), ?_, ?_⟩
       ·
        exact ⟨hc1, hz, by dsimp only; omega, by simp; omega, K, hL, by rw [List.length_append]; exact hO6, hub6⟩
       ·
        first | omega | (dsimp only; omega)
      ·
       have hang : ang = true := by simpa using hc6
       rw [apcs_on hc2 g1 g2 (fun h => by rw [hang] at h; cases h.2)] at hz
       refine jk ?_
       refine blockQ_n (blockQ_n (jn ?_))
       refine jv7 0 3 4 5 6 11 12 ?_
       refine jr ?_
       refine Ops.r (Run.bin rfl rfl (Bin.add_i64 _ 1 (by omega))) rfl ?_
       refine jm ?_
       refine jo ?_
       refine jn ⟨(k + 1, frm, ang, o, A, c), (js7 rfl rfl rfl rfl rfl rfl rfl), ?_, ?_⟩
       ·
        exact ⟨hc1, hz, by dsimp only; omega, by dsimp only; omega, K, hL, hO, hub⟩
       ·
        first | omega | (dsimp only; omega)
     ·
      rw [apcs_on hc2 g1 g2 (fun h => hc5 (e44.2 h.1))] at hz
      refine jk ?_
      refine blockQ_n (blockQ_n (jn ?_))
      refine jv7 0 3 4 5 6 11 12 ?_
      refine jr ?_
      refine Ops.r (Run.bin rfl rfl (Bin.add_i64 _ 1 (by omega))) rfl ?_
      refine jm ?_
      refine jo ?_
      refine jn ⟨(k + 1, frm, ang, o, A, c), (js7 rfl rfl rfl rfl rfl rfl rfl), ?_, ?_⟩
      ·
       exact ⟨hc1, hz, by dsimp only; omega, by dsimp only; omega, K, hL, hO, hub⟩
      ·
       first | omega | (dsimp only; omega)
 ·
  have hkl : k = q.length := by omega
  subst hkl
  rw [List.drop_eq_nil_of_le (by omega), apcs_end] at hz
  refine jx ?_
  refine thenQ_x (thenQ_x (blockQ_x ?_))
  refine jn (jv3 0 3 5 ?_)
  refine js (jr (jm ?_))
  refine jm ?_
  refine jm ?_
  refine Ops.r (Run.sliceT frm q.length rfl Tryz.underlying9 (evB.some_ rfl) evB.none_ (by omega) (Nat.le_refl _)) rfl ?_
  rw [List.take_of_length_le (show (q.drop frm).length ≤ q.length - frm by simp)]
  refine Ops.m (Does.buildS1 rfl Tryz.underlying36 Tryz.sizeOf9 zero9 (by decide) (by decide) rfl rfl) rfl ?_
  rintro _ w4 ⟨rfl, hFw4⟩
  have hr5 : Rd w4 1 (some ⟨_, 0, none⟩) 1 (SB [q.drop frm]) := Rd.of_blk (n := 1) (size := 1) hFw4.blk rfl
  have K := K.trans hFw4.frm (by simp)
  have hL := hL.frm hFw4.frm (by simp)
  have hO := hO.frm hFw4.frm (by simp)
  refine Ops.m (Does.app rfl rfl Tryz.underlying36 (info9) rfl (by decide) hO hr5 (by intro u hu; simp only [SB, List.map_cons, List.map_nil, List.mem_singleton] at hu; subst hu; rfl) (by omega) (by omega)) rfl ?_
  rintro _ w5 ⟨A6, c6, rfl, hO6, f6, hob6⟩
  have sK := K.size
  have hL := hL.frm f6 (fun y hy => hL.ne_own hO (by decide) y hy)
  have K := Frm.own K f6 hub
  rw [← SB_append] at hO6
  have hub6 : ∀ x ∈ ob A6, w.heap.size ≤ x := up_app hub hob6 sK
  refine ja ?_
  refine jo (jn (jv1 2 ?_))
  refine jt ?_
  refine end1 rfl ?_
  rw [hz, List.length_append]
  exact ⟨K, A6, c6, rfl, hO6, hub6⟩
def AC1 (a : Adr) : List Value := [encStr a.name, encStr a.box, encStr a.host]
theorem AC1_len (a : Adr) : (AC1 a).length = 3 := rfl
theorem AC1_one (a : Adr) : ∀ u ∈ AC1 a, u.oneCell' = true := by
 intro u hu
 simp only [AC1, List.mem_cons, List.not_mem_nil, or_false] at hu
 rcases hu with rfl | rfl | rfl <;> rfl
def AC (l : List Adr) : List Value := l.flatMap AC1
theorem AC_append (a b : List Adr) : AC (a ++ b) = AC a ++ AC b := by simp [AC]
theorem AC_one (l : List Adr) : ∀ u ∈ AC l, u.oneCell' = true := flat_one AC1 AC1_one l
theorem AC_at {w : World} {A : Option Addr} {l : List Adr} {k : Nat} (h : Rd w 3 A l.length (AC l)) (hk : k < l.length) : ∃ ad, A = some ad ∧ ∀ j v, (AC1 l[k])[j]? = some v → w.cell? ((ad.add (k * 3)).add j) = some v := by
 obtain ⟨ad, rfl, hc⟩ := h.elem hk
 refine ⟨ad, rfl, fun j v hj => hc j v ?_⟩
 rw [show AC l = l.flatMap AC1 from rfl, flat_get AC1 3 AC1_len l k hk]
 exact hj
theorem hrdA {w w' : World} {t : TypeId} {x : Adr} (h : Fresh w w' t (AC1 x).toArray) : Rd w' 3 (some ⟨w.heap.size, 0, none⟩) 1 (AC [x]) := Rd.of_blk (n := 1) (size := 3) h.blk rfl
theorem lastB_spec (t : Tx) (w : World) (ht : t.length ≤ 1000000) : Calls Tryz.prog 130 #[encStr t, .int .u8 ((64 : Nat) : Int)] w fun e w' => w = w' ∧ ∃ k : Int, e = .returned (.int .i64 k) ∧ ((k = -1 ∧ lastAt 64 t = none) ∨ ∃ a b, k = ((a.length : Nat) : Int) ∧ lastAt 64 t = some (a, b)) := by
 have h := Tryz.strings_LastIndexByte ⟨t.toArray⟩ ((64 : Nat) : Int) (by show t.toArray.size < _; simp; omega) w
 refine h.mono fun e w' ⟨h, hw⟩ => ⟨hw.symm, _, h, ?_⟩
 have hat : ∀ j, j < t.length → (((⟨t.toArray⟩ : ByteArray).data[j]!).toNat : Int) = ((64 : Nat) : Int) → t[j]? = some 64 := by
  intro j hj hx
  have e : (⟨t.toArray⟩ : ByteArray).data[j]! = t[j] := by
   show t.toArray[j]! = t[j]
   simp [hj]
  rw [e] at hx
  rw [List.getElem?_eq_getElem hj]
  exact congrArg some (UInt8.toNat_inj.1 (show t[j].toNat = 64 by omega))
 have hno : ∀ j, j < t.length → (((⟨t.toArray⟩ : ByteArray).data[j]!).toNat : Int) ≠ ((64 : Nat) : Int) → t[j]? ≠ some 64 := by
  intro j hj hx he
  have e : (⟨t.toArray⟩ : ByteArray).data[j]! = t[j] := by
   show t.toArray[j]! = t[j]
   simp [hj]
  rw [e] at hx
  rw [List.getElem?_eq_getElem hj] at he
  exact hx (by rw [Option.some.inj he]; rfl)
 have hsz : (⟨t.toArray⟩ : ByteArray).size = t.length := by show t.toArray.size = _; simp
 rcases Lib.lastIndexByte_spec ⟨t.toArray⟩ ((64 : Nat) : Int) with ⟨h1, h2⟩ | ⟨i, hi, h1, h2, h3⟩
 ·
  refine .inl ⟨h1, ?_⟩
  cases hl : lastAt 64 t with
  | none => rfl
  | some p =>
   obtain ⟨a, b⟩ := p
   obtain ⟨e1, e2⟩ := lastAt_some hl
   have hal : a.length < t.length := by rw [e1]; simp
   exact absurd (by rw [e1]; simp) (hno a.length hal (h2 a.length (by rw [hsz]; exact hal)))
 ·
  rw [hsz] at hi h3
  have hti := hat i hi h2
  cases hl : lastAt 64 t with
  | none => exact absurd (List.mem_of_getElem? hti) (lastAt_none hl)
  | some p =>
   obtain ⟨a, b⟩ := p
   obtain ⟨e1, e2⟩ := lastAt_some hl
   have hal : a.length < t.length := by rw [e1]; simp
   have hia : i = a.length := by
    rcases Nat.lt_trichotomy i a.length with hlt | heq | hgt
    ·
     exact absurd (by rw [e1]; simp) (hno a.length hal (h3 a.length hlt hal))
    ·
     exact heq
    ·
     rw [e1, List.getElem?_append_right (by omega), show i - a.length = (i - a.length - 1) + 1 by omega, List.getElem?_cons_succ] at hti
     exact absurd (List.mem_of_getElem? hti) e2
   exact .inr ⟨a, b, by rw [h1, hia], rfl⟩
theorem zip_cut (q : Tx) (l : List Nat) (a n : Nat) : ((q.zip l).drop a).take n = ((q.drop a).take n).zip ((l.drop a).take n) := by
 simp [List.zip_eq_zipWith, List.drop_zipWith, List.take_zipWith]
theorem zip_take (q : Tx) (l : List Nat) (n : Nat) : (q.zip l).take n = (q.take n).zip (l.take n) := by
 simp [List.zip_eq_zipWith, List.take_zipWith]
theorem bh_some {t a b : Tx} (h : lastAt 64 t = some (a, b)) : boxHost t = (a, b) := by unfold boxHost; rw [h]
theorem bh_none {t : Tx} (h : lastAt 64 t = none) : boxHost t = (t, []) := by unfold boxHost; rw [h]
theorem angTo_le {q : Tx} {l : List Nat} (hl : l.length = q.length) {i : Nat} (hi : i < q.length) (h : (q.zip l)[i]? = some (60, 0)) : i + 1 ≤ angTo (q.zip l) i ∧ angTo (q.zip l) i ≤ q.length := by
 have hzl := zip_len2 hl
 unfold angTo
 rcases fndA_res 62 ((q.zip l).drop i) i with h1 | ⟨j, h1, h2, h3⟩
 ·
  rw [h1, if_pos (by decide), hzl]; omega
 ·
  rw [h2, if_neg (by omega), Int.toNat_natCast]
  rw [List.getElem?_drop] at h3
  have hj : j ≠ 0 := by
   rintro rfl
   rw [Nat.add_zero, h] at h3
   exact absurd h3 (by decide)
  rw [List.length_drop, hzl] at h1
  omega
set_option maxRecDepth 100000 in
set_option maxHeartbeats 1600000 in
theorem one_spec (q : Tx) (w : World) (hq : q.length ≤ 400000) :
  Calls Tryz.prog 92 #[encStr q] w fun e w' => e = .returned (.agg (AC1 (oneA q)).toArray) ∧ Frm [] w w' := by
 have K := Frm.refl [] w
 have hul := usesQ_len q
 have hzl := zip_len2 hul
 refine VC.calls (nt := 66) (res := #[.cell 2 91]) Tryz.func92 rfl Tryz.ntmps92 Tryz.results92 rfl ?_
 refine js (jr ?_)
 refine Ops.m (Does.alloc zero91) rfl ?_
 rintro _ w1 ⟨rfl, hF_w1⟩
 have hb2 := hF_w1.blk
 have hs2_K := K.size
 have K := Frm.trans K hF_w1.frm (by simp)
 generalize hg2 : w.heap.size = g2 at hb2 hs2_K ⊢
 refine jo (jn (js (jr (jm ?_))))
 refine Ops.cl (Enters.fn (evs.cons rfl evs.nil) Tryz.call126) ((uses_spec q _ (by omega))) rfl ?_
 rintro e w2 ⟨hf_w2, L, rfl, hL, hubL⟩
 refine ⟨_, rfl, ?_⟩
 have hb2 := hb2.frm hf_w2 (by simp)
 have K := Frm.trans K hf_w2 (by simp)
 rw [← hul] at hL ⊢
 refine ja ?_
 refine jo (jn (jv3 0 2 3 ?_))
 refine js (jr (jm ?_))
 refine jm ?_
 refine Ops.cl (Enters.fn (evs.cons rfl (evs.cons rfl evs.nil)) Tryz.call127) ((first_spec q (usesQ q) L _ _ hq hul hL.rd)) rfl ?_
 rintro e w3 ⟨rfl, hf_w3⟩
 refine ⟨_, rfl, ?_⟩
 have hb2 := hb2.frm hf_w3 (by simp)
 have hL := hL.frm hf_w3 (by simp)
 have K := Frm.trans K hf_w3 (by simp)
 refine Ops.r (Run.build (evs.cons rfl evs.nil) zero91 (places91).choose_spec.1 (places91).choose_spec.2 (cells := #[encStr (firstA (q.zip (usesQ q))), encStr [], encStr []]) rfl) rfl ?_
 refine Ops.m (Does.alloc zero91) rfl ?_
 rintro _ w4 ⟨rfl, hF_w4⟩
 have hb4 := hF_w4.blk
 have hs4_K := K.size
 have lt_hb2_4 := hb2.lt
 have hb2 := hb2.frm hF_w4.frm (by simp)
 have hL := hL.frm hF_w4.frm (by simp)
 have K := Frm.trans K hF_w4.frm (by simp)
 generalize hg4 : w3.heap.size = g4 at hb4 hs4_K lt_hb2_4 ⊢
 refine Ops.st (Acts.storeA rfl rfl Tryz.sizeOf91 hb4 rfl (AC1_one ⟨firstA (q.zip (usesQ q)), [], []⟩)) ?_
 rintro w5 ⟨hbn_w5, hf_w5, hsz_w5⟩
 have hb2 := hb2.frm hf_w5 (by simp; omega)
 have hL := hL.frm hf_w5 (fun y hy => by have := hL.ne_blk hb4 (by decide); simp; rintro rfl; exact this hy)
 have hb4 : Blk w5 g4 91 (#[encStr (firstA (q.zip (usesQ q))), encStr [], encStr []]) := hbn_w5
 have K := Frm.own K hf_w5 (fun y hy => by simp at hy; omega)
 refine jo (jn (jv4 0 2 3 4 ?_))
 refine js (jr (jm ?_))
 refine jm ?_
 refine Ops.cl (Enters.fn (evs.cons rfl (evs.cons rfl evs.nil)) Tryz.call128) ((says_spec q (usesQ q) L _ _ hq hul hL.rd)) rfl ?_
 rintro e w6 ⟨rfl, hf_w6⟩
 refine ⟨_, rfl, ?_⟩
 have hb2 := hb2.frm hf_w6 (by simp)
 have hL := hL.frm hf_w6 (by simp)
 have hb4 := hb4.frm hf_w6 (by simp)
 have K := Frm.trans K hf_w6 (by simp)
 refine ja ?_
 refine jo (jn (jv5 0 2 3 4 5 ?_))
 refine js (js (jr (jm ?_)))
 refine jm ?_
 refine Ops.cl (Enters.fn (evs.cons rfl (evs.cons rfl (evs.cons rfl (evs.cons rfl evs.nil)))) Tryz.call129) ((afind_spec q (usesQ q) L _ 60 0 _ hq hul hL.rd (Nat.zero_le _))) rfl ?_
 rintro e _ ⟨rfl, rfl⟩
 rw [List.drop_zero]
 refine ⟨_, rfl, ?_⟩
 have hnm0 : nmA (q.zip (usesQ q)) = if fndA 60 (q.zip (usesQ q)) 0 < 0 then firstA (q.zip (usesQ q)) else saysQ ((q.zip (usesQ q)).take (fndA 60 (q.zip (usesQ q)) 0).toNat) := rfl
 have hal0 : allA (q.zip (usesQ q)) = if fndA 60 (q.zip (usesQ q)) 0 < 0 then saysQ (q.zip (usesQ q)) else saysQ (((q.zip (usesQ q)).drop ((fndA 60 (q.zip (usesQ q)) 0).toNat + 1)).take (angTo (q.zip (usesQ q)) (fndA 60 (q.zip (usesQ q)) 0).toNat - ((fndA 60 (q.zip (usesQ q)) 0).toNat + 1))) := rfl
 have hres := fndA_res 60 (q.zip (usesQ q)) 0
 refine ja ?_
 refine jo (jn (jv6 0 2 3 4 5 6 ?_))
 refine js (jr (jm ?_))
 refine Ops.r (Run.bin rfl rfl (Bin.geq _ 0)) rfl ?_
 refine jo (jn (jv7 0 2 3 4 5 6 22 ?_))
 refine VC.meet (σ := Unit) (fun s => [(2, .pointer (some ⟨g2, 0, none⟩)), (4, .pointer (some ⟨g4, 0, none⟩)), (5, encStr (allA (q.zip (usesQ q))))]) (fun s wz => Frm [] w wz ∧ (∃ cs2, Blk wz g2 91 cs2 ∧ cs2.size = 3) ∧ Blk wz g4 91 #[encStr (nmA (q.zip (usesQ q))), encStr [], encStr []]) ?_ ?_
 ·
  refine VC.condD rfl (fun hc1 => ?_) (fun hc1 => ?_)
  ·
   obtain ⟨i, hi, hie, hgi⟩ := hres.resolve_left (by omega)
   rw [Nat.zero_add] at hie
   rw [hie, if_neg (by omega), Int.toNat_natCast] at hnm0 hal0
   rw [hzl] at hi
   obtain ⟨ha1, ha2⟩ := angTo_le hul hi hgi
   have hat : angTo (q.zip (usesQ q)) i = if fndA 62 ((q.zip (usesQ q)).drop i) i < 0 then (q.zip (usesQ q)).length else (fndA 62 ((q.zip (usesQ q)).drop i) i).toNat := rfl
   have hres2 := fndA_res 62 ((q.zip (usesQ q)).drop i) i
   rw [hie]
   refine js (jr (jm ?_))
   refine jm ?_
   refine jm ?_
   refine Ops.cl (Enters.fn (evs.cons rfl (evs.cons rfl (evs.cons rfl (evs.cons rfl evs.nil)))) Tryz.call129) ((afind_spec q (usesQ q) L _ 62 i _ hq hul hL.rd (by omega))) rfl ?_
   rintro e _ ⟨rfl, rfl⟩
   refine ⟨_, rfl, ?_⟩
   refine ja ?_
   refine jo (jn (jv6 0 2 3 4 6 7 ?_))
   refine js (js (jr (jm ?_)))
   refine Ops.r (Run.bin rfl rfl (Bin.lss _ 0)) rfl ?_
   refine jo (jn (jv7 0 2 3 4 6 7 28 ?_))
   refine VC.meet (σ := Unit) (fun s => [(0, encStr q), (2, .pointer (some ⟨g2, 0, none⟩)), (3, .slice L (usesQ q).length (usesQ q).length), (4, .pointer (some ⟨g4, 0, none⟩)), (6, .int .i64 ((i : Nat) : Int)), (7, .int .i64 ((angTo (q.zip (usesQ q)) i : Nat) : Int))]) (fun s wz => w6 = wz) ?_ ?_
   ·
    refine VC.condD rfl (fun hc2 => ?_) (fun hc2 => ?_)
    ·
     rw [if_pos hc2, hzl] at hat
     refine jr (jm ?_)
     refine Ops.r (Run.lenT rfl Tryz.underlying9) rfl ?_
     refine ja ?_
     refine jo ?_
     refine jn ⟨(), (js6 rfl rfl rfl rfl rfl (by rw [hat]; rfl)), ?_⟩
     rfl
    ·
     obtain ⟨j2, _, hje, _⟩ := hres2.resolve_left (by omega)
     rw [if_neg hc2, hje, Int.toNat_natCast] at hat
     refine jk ?_
     refine jn ⟨(), (js6 rfl rfl rfl rfl rfl (by rw [hat, ← hje]; rfl)), ?_⟩
     rfl
   ·
    rintro _ _ rfl Γ hΓ
    generalize angTo (q.zip (usesQ q)) i = j at *
    refine jn (VC.sub _ hΓ ?_)
    refine VC.held (fun W => Frm [g4] w6 W) jK ?_
    have hS : Frm [g4] w6 w6.drew := (Frm.refl [g4] w6).drew
    have hL6 := hL
    have hLg := hL.ne_blk hb4 (by decide)
    have hb6 := hb4
    have hb4 := hb4.drawn (Drawn.drew _)
    have K6 := K
    have hb26 := hb2
    refine jh 0 rfl hS (fun w0 hw0 => Run.mv rfl) ?_
    refine jh 1 rfl hS (fun w0 hw0 => Run.mv rfl) ?_
    refine jh 2 rfl hS (fun w0 hw0 => Run.sliceT 0 i rfl Tryz.underlying9 evB.none_ (evB.some_ rfl) (by omega) (by omega)) ?_
    refine jh 3 rfl hS (fun w0 hw0 => Run.mv rfl) ?_
    refine jh 4 rfl hS (fun w0 hw0 => Run.mv rfl) ?_
    refine jh 5 rfl hS (fun w0 hw0 => Run.sliceS 0 i rfl Tryz.underlying152 Tryz.sizeOf154 evB.none_ (evB.some_ rfl) (by omega) (by omega)) ?_
    refine jh 7 rfl hS (fun w0 hw0 => Run.mv rfl) ?_
    refine jh 8 rfl hS (fun w0 hw0 => Run.mv rfl) ?_
    refine jh 9 rfl hS (fun w0 hw0 => Run.bin rfl rfl (Bin.addZ _ 1 (by omega) (by omega))) ?_
    refine jh 10 rfl hS (fun w0 hw0 => Run.mv rfl) ?_
    refine jh 11 rfl hS (fun w0 hw0 => Run.sliceT (i + 1) j rfl Tryz.underlying9 (evB.some_ rfl) (evB.some_ rfl) (by omega) (by omega)) ?_
    refine jh 12 rfl hS (fun w0 hw0 => Run.mv rfl) ?_
    refine jh 13 rfl hS (fun w0 hw0 => Run.mv rfl) ?_
    refine jh 14 rfl hS (fun w0 hw0 => Run.bin rfl rfl (Bin.addZ _ 1 (by omega) (by omega))) ?_
    refine jh 15 rfl hS (fun w0 hw0 => Run.mv rfl) ?_
    refine jh 16 rfl hS (fun w0 hw0 => Run.sliceS (i + 1) j rfl Tryz.underlying152 Tryz.sizeOf154 (evB.some_ rfl) (evB.some_ rfl) (by omega) (by omega)) ?_
    refine HOps.cl 6 rfl jK (Enters.fn (evs.cons rfl (evs.cons rfl evs.nil)) Tryz.call128) ((by have hrc := NI_cut (a := 0) (b := i) ((hL6.frm hS (fun x hx => by simp; rintro rfl; exact hLg hx)).rd) (by omega) (by omega) (Nat.le_refl _); have hh := says_spec ((q.drop (0)).take (i - (0))) (((usesQ q).drop (0)).take (i - (0))) (cutA L (usesQ q).length (0) 1) ((usesQ q).length - (0)) _ (by simp; omega) (by simp; omega) (by rw [show (((usesQ q).drop (0)).take (i - (0))).length = i - (0) by simp; omega]; exact hrc); rw [show (((usesQ q).drop (0)).take (i - (0))).length = i - (0) by simp; omega] at hh; exact hh)) trivial rfl rfl ?_
    rintro e w7 ⟨rfl, fw7⟩
    have hb4 := hb4.frm fw7 (by simp)
    have hS := hS.trans fw7 (by simp)
    refine ⟨_, rfl, hS, ?_⟩
    refine jh 18 rfl hS (fun w0 hw0 => Run.fieldAddr rfl Tryz.underlying91 rfl Tryz.sizeOf9 (by decide)) ?_
    refine HOps.cl 17 rfl jK (Enters.fn (evs.cons rfl (evs.cons rfl evs.nil)) Tryz.call128) ((by have hrc := NI_cut (a := i + 1) (b := j) ((hL6.frm hS (fun x hx => by simp; rintro rfl; exact hLg hx)).rd) (by omega) (by omega) (Nat.le_refl _); have hh := says_spec ((q.drop (i + 1)).take (j - (i + 1))) (((usesQ q).drop (i + 1)).take (j - (i + 1))) (cutA L (usesQ q).length (i + 1) 1) ((usesQ q).length - (i + 1)) _ (by simp; omega) (by simp; omega) (by rw [show (((usesQ q).drop (i + 1)).take (j - (i + 1))).length = j - (i + 1) by simp; omega]; exact hrc); rw [show (((usesQ q).drop (i + 1)).take (j - (i + 1))).length = j - (i + 1) by simp; omega] at hh; exact hh)) trivial rfl rfl ?_
    rintro e w8 ⟨rfl, fw8⟩
    have hb4 := hb4.frm fw8 (by simp)
    have hS := hS.trans fw8 (by simp)
    refine ⟨_, rfl, hS, ?_⟩
    refine HOps.st 19 rfl jK (Acts.store rfl rfl Tryz.sizeOf9 hb4 rfl rfl) trivial rfl ?_
    rintro w9 ⟨hb4n, f9, _⟩
    have hS := hS.trans f9 (fun y hy => .inl hy)
    refine ⟨hS, ?_⟩
    refine jh 20 rfl hS (fun w0 hw0 => Run.asg rfl) ?_
    refine HOps.done jK ?_
    refine jn ⟨(), (js3 rfl rfl (by rw [hal0, zip_cut]; rfl)), ?_⟩
    refine ⟨Frm.own K6 hS (fun y hy => by simp at hy; omega), ⟨_, hb26.frm hS (by simp; omega), rfl⟩, ?_⟩
    rw [hnm0, zip_take]
    rw [List.drop_zero, List.drop_zero, Nat.sub_zero] at hb4n
    exact hb4n
  ·
   rw [if_pos (by omega)] at hnm0 hal0
   refine jk ?_
   refine jn ⟨(), (js3 rfl rfl (by rw [hal0]; rfl)), ?_⟩
   exact ⟨K, ⟨_, hb2, rfl⟩, by rw [hnm0]; exact hb4⟩
 ·
  rintro _ wz ⟨K, ⟨cs2, hb2, hcs2⟩, hb4⟩ Γ hΓ
  have hnl := nmA_len (q.zip (usesQ q))
  have hall := allA_len (q.zip (usesQ q))
  have hone : oneA q = ⟨nmA (q.zip (usesQ q)), (boxHost (allA (q.zip (usesQ q)))).1, (boxHost (allA (q.zip (usesQ q)))).2⟩ := rfl
  rw [hzl] at hnl hall
  generalize nmA (q.zip (usesQ q)) = nm at *
  generalize allA (q.zip (usesQ q)) = al at *
  refine jn (VC.sub _ hΓ ?_)
  refine js (jr (jm ?_))
  refine Ops.r (Run.fieldAddr rfl Tryz.underlying91 rfl Tryz.sizeOf9 (by decide)) rfl ?_
  refine Ops.st (Acts.store rfl rfl Tryz.sizeOf9 hb4 rfl rfl) ?_
  rintro w10 ⟨hb4n, f10, _⟩
  have hb2 := hb2.frm f10 (by simp; omega)
  have hb4 : Blk w10 g4 91 #[encStr nm, encStr al, encStr []] := hb4n
  have K := Frm.own K f10 (fun y hy => by simp at hy; omega)
  refine jo (jn (jv3 2 4 5 ?_))
  refine js (js (jr (jm ?_)))
  refine Ops.cl (Enters.fn (evs.cons rfl (evs.cons rfl evs.nil)) Tryz.call130) ((lastB_spec al _ (by omega))) rfl ?_
  rintro e _ ⟨rfl, k, rfl, hkk⟩
  refine ⟨_, rfl, ?_⟩
  refine ja ?_
  refine jo (jn (jv4 2 4 5 8 ?_))
  refine js (jr (jm ?_))
  refine Ops.r (Run.bin rfl rfl (Bin.geq _ 0)) rfl ?_
  refine jo (jn (jv5 2 4 5 8 55 ?_))
  refine VC.meet (σ := Unit) (fun s => [(2, .pointer (some ⟨g2, 0, none⟩)), (4, .pointer (some ⟨g4, 0, none⟩))]) (fun s wz2 => Frm [] w wz2 ∧ Blk wz2 g2 91 cs2 ∧ Blk wz2 g4 91 #[encStr nm, encStr (boxHost al).1, encStr (boxHost al).2]) ?_ ?_
  ·
   refine VC.condD rfl (fun hc3 => ?_) (fun hc3 => ?_)
   ·
    obtain ⟨a, b, hka, hla⟩ := hkk.resolve_left (fun h => by omega)
    have hbh := bh_some hla
    have hab := (lastAt_some hla).1
    have habl : al.length = a.length + (b.length + 1) := by rw [hab]; simp
    rw [hka]
    refine VC.held (fun W => Frm [g4] w10 W) jK ?_
    have hS : Frm [g4] w10 w10.drew := (Frm.refl [g4] w10).drew
    have hb4 := hb4.drawn (Drawn.drew _)
    refine jh 0 rfl hS (fun w0 hw0 => Run.mv rfl) ?_
    refine jh 1 rfl hS (fun w0 hw0 => Run.mv rfl) ?_
    refine jh 2 rfl hS (fun w0 hw0 => Run.sliceT 0 a.length rfl Tryz.underlying9 evB.none_ (evB.some_ rfl) (by omega) (by omega)) ?_
    refine jh 3 rfl hS (fun w0 hw0 => Run.mv rfl) ?_
    refine jh 4 rfl hS (fun w0 hw0 => Run.mv rfl) ?_
    refine jh 5 rfl hS (fun w0 hw0 => Run.bin rfl rfl (Bin.addZ _ 1 (by omega) (by omega))) ?_
    refine jh 6 rfl hS (fun w0 hw0 => Run.sliceT (a.length + 1) al.length rfl Tryz.underlying9 (evB.some_ rfl) evB.none_ (by omega) (by omega)) ?_
    refine jh 7 rfl hS (fun w0 hw0 => Run.fieldAddr rfl Tryz.underlying91 rfl Tryz.sizeOf9 (by decide)) ?_
    refine HOps.st 8 rfl jK (Acts.store rfl rfl Tryz.sizeOf9 hb4 rfl rfl) trivial rfl ?_
    rintro w11 ⟨hb4, fw11, _⟩
    have hS := hS.trans fw11 (fun y hy => .inl hy)
    refine ⟨hS, ?_⟩
    refine jh 9 rfl hS (fun w0 hw0 => Run.fieldAddr rfl Tryz.underlying91 rfl Tryz.sizeOf9 (by decide)) ?_
    refine HOps.st 10 rfl jK (Acts.store rfl rfl Tryz.sizeOf9 hb4 rfl rfl) trivial rfl ?_
    rintro w12 ⟨hb4, fw12, _⟩
    have hS := hS.trans fw12 (fun y hy => .inl hy)
    refine ⟨hS, ?_⟩
    refine HOps.done jK ?_
    refine jn ⟨(), (js2 rfl rfl), ?_⟩
    refine ⟨Frm.own K hS (fun y hy => by simp at hy; omega), hb2.frm hS (by simp; omega), ?_⟩
    have e1 : (al.drop 0).take (a.length - 0) = a := by rw [hab]; simp
    have e2 : (al.drop (a.length + 1)).take (al.length - (a.length + 1)) = b := by rw [List.take_of_length_le (by simp), hab]; simp
    rw [e1, e2] at hb4
    rw [hbh]
    exact hb4
   ·
    have hbh := bh_none (hkk.resolve_right (fun ⟨a, b, h, _⟩ => by omega)).2
    refine jk ?_
    refine jn ⟨(), (js2 rfl rfl), ?_⟩
    rw [hbh]
    exact ⟨K, hb2, hb4⟩
  ·
   rintro _ wz2 ⟨K, hb2, hb4⟩ Γ hΓ
   refine jn (VC.sub _ hΓ ?_)
   refine js (jr ?_)
   refine Ops.r (Run.loadA rfl Tryz.isAgg91 Tryz.sizeOf91 (fun j v hj => hb4.cells j v hj) (by first | rfl | (simp; done))) rfl ?_
   refine Ops.st (Acts.storeA rfl rfl Tryz.sizeOf91 hb2 (by rw [hcs2]; rfl) (AC1_one ⟨nm, (boxHost al).1, (boxHost al).2⟩)) ?_
   rintro w13 ⟨hb2n, f13, _⟩
   have K := Frm.own K f13 (fun y hy => by simp at hy; omega)
   refine jo (jn (jv1 2 ?_))
   refine jt ?_
   refine endR ?_
   refine res_cellA rfl Tryz.isAgg91 Tryz.sizeOf91 (fun j v hj => hb2n.cells j v hj) (by first | rfl | (simp; done)) ?_
   refine res_nil ?_
   rw [hone]
   exact ⟨rfl, K⟩
end Go.Proofs.YtenbjndldenkfaaGreatDoor
