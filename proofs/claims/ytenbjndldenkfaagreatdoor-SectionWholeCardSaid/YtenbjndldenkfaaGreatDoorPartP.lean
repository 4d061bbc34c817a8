/-
  The parts of a letter on plain lists.
-/
import Derived.Test.YtenbjndldenkfaaGreatDoorHeadP
namespace Go.Proofs.YtenbjndldenkfaaGreatDoor
open Go.RowKit

/-! ### parts of a body -/
def dash2 : Tx := [45, 45]
/-- What is behind a beginning; none: it is not there. -/
def cutPre (p s : Tx) : Option Tx := if p.isPrefixOf s then some (s.drop p.length) else none
/-- Does a line part by a boundary, and is it the last one? -/
def partsL (bd l : Tx) : Bool × Bool := match cutPre (dash2 ++ bd) (bareL l) with
  | none => (false, false)
  | some s => match cutPre dash2 s with
    | none => (decide (trimQ s = []), false)
    | some t => (decide (trimQ t = []), true)
def aheadQ (s : Tx) (frm line : Nat) : Nat :=
  if line > frm ∧ s[line - 1]? = some 10 then (if line - 1 > frm ∧ s[line - 2]? = some 13 then line - 2 else line - 1) else line
theorem aheadQ_le {s : Tx} {frm line : Nat} (h : frm ≤ line) : frm ≤ aheadQ s frm line ∧ aheadQ s frm line ≤ line := by
  unfold aheadQ
  split
  · split <;> omega
  · omega
/-- A part that began ends ahead of a line. -/
def addB (s : Tx) (o : Nat) (bg : Option Nat) (out : List (Nat × Nat)) : List (Nat × Nat) := match bg with
  | some b => out ++ [(b, aheadQ s b o)]
  | none => out
theorem addB_len (s : Tx) (o : Nat) (bg : Option Nat) (out : List (Nat × Nat)) : (addB s o bg out).length ≤ out.length + 1 := by cases bg <;> simp [addB]
/-- The spans of some lines: the place, where a part began, the spans so far. -/
def spnL (s bd : Tx) (tu : Nat) : Nat → Option Nat → List (Nat × Nat) → List Tx → List (Nat × Nat)
  | _, bg, out, [] => match bg with
    | some b => out ++ [(b, tu)]
    | none => out
  | o, bg, out, l :: r =>
    if (partsL bd l).1 = false then spnL s bd tu (o + l.length) bg out r
    else if (partsL bd l).2 then addB s o bg out else spnL s bd tu (o + l.length) (some (o + l.length)) (addB s o bg out) r
def sliceQ (s : Tx) (a b : Nat) : Tx := (s.drop a).take (b - a)
theorem sliceQ_len {s : Tx} {a b : Nat} (h : b ≤ s.length) : (sliceQ s a b).length = b - a := by unfold sliceQ; simp; omega
def spansQ (s bd : Tx) (frm tu : Nat) : List (Nat × Nat) := spnL s bd tu frm none [] (linesF (sliceQ s frm tu))
theorem spnL_ok (s bd : Tx) (tu lo : Nat) : ∀ (ls : List Tx) (o : Nat) (bg : Option Nat) (out : List (Nat × Nat)), lo ≤ o → o + ls.flatten.length = tu → (∀ b, bg = some b → lo ≤ b ∧ b ≤ o) → (∀ x ∈ out, lo ≤ x.1 ∧ x.1 ≤ x.2 ∧ x.2 ≤ tu) → ∀ x ∈ spnL s bd tu o bg out ls, lo ≤ x.1 ∧ x.1 ≤ x.2 ∧ x.2 ≤ tu
  | [], o, bg, out, hlo, hto, hbg, hout => by
    simp only [List.flatten_nil, List.length_nil] at hto
    unfold spnL
    cases bg with
    | none => exact hout
    | some b =>
      intro x hx
      rcases List.mem_append.1 hx with hx | hx
      · exact hout x hx
      · simp only [List.mem_singleton] at hx
        subst hx
        have := hbg b rfl
        exact ⟨this.1, by show b ≤ tu; omega, Nat.le_refl _⟩
  | l :: r, o, bg, out, hlo, hto, hbg, hout => by
    rw [List.flatten_cons, List.length_append] at hto
    unfold spnL
    split
    · exact spnL_ok s bd tu lo r _ bg out (by omega) (by omega) (fun b hb => by have := hbg b hb; omega) hout
    · have h2 : ∀ x ∈ addB s o bg out, lo ≤ x.1 ∧ x.1 ≤ x.2 ∧ x.2 ≤ tu := by
        cases bg with
        | none => exact hout
        | some b =>
          intro x hx
          rcases List.mem_append.1 hx with hx | hx
          · exact hout x hx
          · simp only [List.mem_singleton] at hx
            subst hx
            have := hbg b rfl
            have h3 := aheadQ_le (s := s) this.2
            exact ⟨this.1, h3.1, by show aheadQ s b o ≤ tu; omega⟩
      split
      · exact h2
      · exact spnL_ok s bd tu lo r _ _ _ (by omega) (by omega) (fun b hb => by cases hb; omega) h2
theorem spansQ_ok {s bd : Tx} {frm tu : Nat} (h : frm ≤ tu) (hs : tu ≤ s.length) : ∀ x ∈ spansQ s bd frm tu, frm ≤ x.1 ∧ x.1 ≤ x.2 ∧ x.2 ≤ tu := by
  refine spnL_ok s bd tu frm _ _ _ _ (Nat.le_refl _) ?_ (by simp) (by simp)
  rw [linesF_flat, sliceQ_len hs]
  omega
theorem spnL_count (s bd : Tx) (tu : Nat) : ∀ (ls : List Tx) (o : Nat) (bg : Option Nat) (out : List (Nat × Nat)), (spnL s bd tu o bg out ls).length ≤ out.length + ls.length + 1
  | [], o, bg, out => by unfold spnL; cases bg <;> simp
  | l :: r, o, bg, out => by
    have h2 := addB_len s o bg out
    unfold spnL
    split
    · have := spnL_count s bd tu r (o + l.length) bg out
      simp only [List.length_cons]; omega
    · split
      · simp only [List.length_cons]; omega
      · have := spnL_count s bd tu r (o + l.length) (some (o + l.length)) (addB s o bg out)
        simp only [List.length_cons]; omega
theorem spansQ_count (s bd : Tx) (frm tu : Nat) : (spansQ s bd frm tu).length ≤ s.length + 1 := by
  have h1 := spnL_count s bd tu (linesF (sliceQ s frm tu)) frm none []
  have h2 := linesF_count (sliceQ s frm tu)
  have h3 : (sliceQ s frm tu).length ≤ s.length := by unfold sliceQ; simp; omega
  unfold spansQ
  simp only [List.length_nil] at h1
  omega

/-! ### parts -/
def ctype : Tx := [67, 111, 110, 116, 101, 110, 116, 45, 84, 121, 112, 101]
def msgT : Tx := [109, 101, 115, 115, 97, 103, 101]
def rfcT : Tx := [114, 102, 99, 56, 50, 50]
def multT : Tx := [109, 117, 108, 116, 105, 112, 97, 114, 116]
def digT : Tx := [100, 105, 103, 101, 115, 116]
def bndT : Tx := [98, 111, 117, 110, 100, 97, 114, 121]
def mediaQ (s : Tx) (digest : Bool) : Med := if (findH s ctype).2 = false ∧ digest = true then ⟨msgT, rfcT, []⟩ else medQ (findH s ctype).1
/-- A part, but for where its parameters lie. -/
structure Prt where
  kind : Nat
  frm : Nat
  body : Nat
  tu : Nat
  m : Med
  up : Int
  kids : Nat
def kid1 (l : List Prt) (up : Int) : List Prt := if 0 ≤ up then l.modify up.toNat (fun p => { p with kids := p.kids + 1 }) else l
def setK (l : List Prt) (i k : Nat) : List Prt := l.modify i (fun p => { p with kind := k })
def IsLet (m : Med) : Prop := m.ty = msgT ∧ m.sub = rfcT
instance (m : Med) : Decidable (IsLet m) := by unfold IsLet; infer_instance
/-- The parts, of what was found so far: how deep it may go yet. -/
def fndQ (s : Tx) : Nat → List Prt → Nat → Nat → Int → Bool → List Prt
  | n, l, frm, tu, up, dg =>
    if l.length = 64 then l else
    let b := sliceQ s frm tu
    let p : Prt := ⟨0, frm, frm + splitQ b, tu, mediaQ b dg, up, 0⟩
    let l1 := kid1 (l ++ [p]) up
    match n with
    | 0 => l1
    | n + 1 =>
      if IsLet p.m then fndQ s n (setK l1 l.length 2) p.body tu (l.length : Int) false
      else if p.m.ty ≠ multT ∨ (findQ p.m.ps bndT).1 = [] then l1
      else (spansQ s (findQ p.m.ps bndT).1 p.body tu).foldl (fun acc x => fndQ s n (setK acc l.length 1) x.1 x.2 (l.length : Int) (decide (p.m.sub = digT))) l1
def partsQ (s : Tx) : List Prt := fndQ s 6 [] 0 s.length (-1) false
end Go.Proofs.YtenbjndldenkfaaGreatDoor
