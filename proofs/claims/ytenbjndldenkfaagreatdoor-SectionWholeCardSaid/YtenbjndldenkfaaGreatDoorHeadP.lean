/-
  Letters on plain lists: lines, headers, fields, their texts.
-/
import Derived.Test.YtenbjndldenkfaaGreatDoorParLR
namespace Go.Proofs.YtenbjndldenkfaaGreatDoor
open Go.RowKit

/-! ### lines -/
/-- A text's lines, each with its end. -/
def linesF : Tx → List Tx
  | [] => []
  | x :: r => if x = 10 then [10] :: linesF r else match linesF r with
    | [] => [[x]]
    | p :: ps => (x :: p) :: ps
theorem linesF_flat : ∀ s : Tx, (linesF s).flatten = s
  | [] => rfl
  | x :: r => by
    have ih := linesF_flat r
    unfold linesF
    split
    · rename_i h; rw [List.flatten_cons, ih, h]; rfl
    · cases hl : linesF r with
      | nil => rw [hl] at ih; rw [← ih]; rfl
      | cons p ps => rw [hl] at ih; rw [← ih]; rfl
theorem linesF_ne {l : Tx} : ∀ {s : Tx}, l ∈ linesF s → l ≠ []
  | [], h => by simp [linesF] at h
  | x :: r, h => by
    unfold linesF at h
    split at h
    · simp only [List.mem_cons] at h
      rcases h with rfl | h
      · simp
      · exact linesF_ne h
    · cases hl : linesF r with
      | nil => rw [hl] at h; simp only [List.mem_singleton] at h; subst h; simp
      | cons p ps =>
        rw [hl] at h
        simp only [List.mem_cons] at h
        rcases h with rfl | h
        · simp
        · exact linesF_ne (s := r) (by rw [hl]; simp [h])
theorem linesF_cut {a : Tx} (b : Tx) (h : (10 : UInt8) ∉ a) : linesF (a ++ 10 :: b) = (a ++ [10]) :: linesF b := by
  induction a with
  | nil => show linesF (10 :: b) = _; rw [linesF, if_pos rfl]; rfl
  | cons x r ih =>
    simp only [List.mem_cons, not_or] at h
    show linesF (x :: (r ++ 10 :: b)) = _
    rw [linesF, if_neg (fun e => h.1 e.symm), ih h.2]
    rfl
theorem linesF_last {a : Tx} (h0 : a ≠ []) (h : (10 : UInt8) ∉ a) : linesF a = [a] := by
  induction a with
  | nil => exact absurd rfl h0
  | cons x r ih =>
    simp only [List.mem_cons, not_or] at h
    rw [linesF, if_neg (fun e => h.1 e.symm)]
    cases r with
    | nil => rfl
    | cons y t => rw [ih (by simp) h.2]
/-- Where lines begin and end, from a place on. -/
def offsF : Nat → List Tx → List (Nat × Nat)
  | _, [] => []
  | o, l :: r => (o, o + l.length) :: offsF (o + l.length) r
theorem offsF_len : ∀ (o : Nat) (l : List Tx), (offsF o l).length = l.length
  | _, [] => rfl
  | o, l :: r => by show (_ :: offsF _ r).length = _; rw [List.length_cons, offsF_len, List.length_cons]
def EmptyL (l : Tx) : Prop := l = [10] ∨ l = [13, 10]
instance (l : Tx) : Decidable (EmptyL l) := by unfold EmptyL; infer_instance
/-- How many octets are up to the first empty line, with it. -/
def splitL : List Tx → Nat
  | [] => 0
  | l :: r => if EmptyL l then l.length else l.length + splitL r
def splitQ (s : Tx) : Nat := splitL (linesF s)
theorem splitL_le : ∀ l : List Tx, splitL l ≤ l.flatten.length
  | [] => Nat.le_refl _
  | l :: r => by
    have := splitL_le r
    unfold splitL
    rw [List.flatten_cons, List.length_append]
    split <;> omega
theorem splitQ_le (s : Tx) : splitQ s ≤ s.length := by
  have := splitL_le (linesF s)
  rw [linesF_flat] at this
  exact this
/-- The octets up to the last of some lines are some of them. -/
theorem splitL_pre : ∀ l : List Tx, ∃ a b, l = a ++ b ∧ splitL l = a.flatten.length ∧ (∀ x ∈ a.dropLast, ¬ EmptyL x) ∧ ((∃ e, a.getLast? = some e ∧ EmptyL e) ∨ (b = [] ∧ ∀ x ∈ a, ¬ EmptyL x))
  | [] => ⟨[], [], rfl, rfl, by simp, .inr ⟨rfl, by simp⟩⟩
  | l :: r => by
    by_cases h : EmptyL l
    · exact ⟨[l], r, rfl, by rw [splitL, if_pos h]; simp, by simp, .inl ⟨l, rfl, h⟩⟩
    · obtain ⟨a, b, rfl, h1, h2, h3⟩ := splitL_pre r
      refine ⟨l :: a, b, rfl, by rw [splitL, if_neg h, h1]; simp, ?_, ?_⟩
      · cases a with
        | nil => simp
        | cons y t =>
          intro x hx
          rw [List.dropLast_cons_of_ne_nil (by simp)] at hx
          simp only [List.mem_cons] at hx
          rcases hx with rfl | hx
          · exact h
          · exact h2 x hx
      · rcases h3 with ⟨e, h4, h5⟩ | ⟨h4, h5⟩
        · refine .inl ⟨e, ?_, h5⟩
          cases a with
          | nil => simp at h4
          | cons y t => rw [List.getLast?_cons_cons]; exact h4
        · refine .inr ⟨h4, fun x hx => ?_⟩
          simp only [List.mem_cons] at hx
          rcases hx with rfl | hx
          · exact h
          · exact h5 x hx

/-! ### fields -/
def NameC (c : UInt8) : Prop := 32 < c.toNat ∧ c.toNat < 127 ∧ c ≠ 58
instance (c : UInt8) : Decidable (NameC c) := by unfold NameC; infer_instance
/-- How many signs of a name stand ahead. -/
def nameN : Tx → Nat
  | [] => 0
  | x :: r => if NameC x then nameN r + 1 else 0
def blankN : Tx → Nat
  | [] => 0
  | x :: r => if Bl x then blankN r + 1 else 0
theorem nameN_le : ∀ s : Tx, nameN s ≤ s.length
  | [] => Nat.le_refl _
  | x :: r => by have := nameN_le r; unfold nameN; split <;> simp; omega
theorem blankN_le : ∀ s : Tx, blankN s ≤ s.length
  | [] => Nat.le_refl _
  | x :: r => by have := blankN_le r; unfold blankN; split <;> simp; omega
/-- The name that begins a field, and where its text begins; none: there is none. -/
def beginQ (l : Tx) : Option (Tx × Nat) :=
  if nameN l ≠ 0 ∧ l[nameN l + blankN (l.drop (nameN l))]? = some 58 then some (l.take (nameN l), nameN l + blankN (l.drop (nameN l)) + 1) else none
theorem beginQ_lt {l n : Tx} {k : Nat} (h : beginQ l = some (n, k)) : k ≤ l.length ∧ n.length ≤ l.length := by
  unfold beginQ at h
  split at h
  · rename_i hc
    have h2 := (List.getElem?_eq_some_iff.1 hc.2).1
    cases h
    exact ⟨by omega, by simp; omega⟩
  · cases h
structure Fld where
  name : Tx
  frm : Nat
  tu : Nat
  at_ : Nat
def setTo (l : List Fld) (n : Nat) : List Fld := match l.getLast? with
  | none => l
  | some f => l.dropLast ++ [⟨f.name, f.frm, n, f.at_⟩]
theorem setTo_snoc (l : List Fld) (f : Fld) (n : Nat) : setTo (l ++ [f]) n = l ++ [⟨f.name, f.frm, n, f.at_⟩] := by
  unfold setTo
  rw [List.getLast?_concat]
  simp
/-- The fields of some lines: the place, is a field open, the fields so far. -/
def fldL : Nat → Bool → List Fld → List Tx → List Fld
  | _, _, out, [] => out
  | o, op, out, l :: r =>
    if EmptyL l then out
    else if (∃ c, l.head? = some c ∧ Bl c) then fldL (o + l.length) op (if op then setTo out (o + l.length) else out) r
    else match beginQ l with
      | none => fldL (o + l.length) false out r
      | some (n, k) => fldL (o + l.length) true (out ++ [⟨n, o, o + l.length, o + k⟩]) r
def fieldsQ (s : Tx) : List Fld := fldL 0 false [] (linesF (s.take (splitQ s)))
/-- A line without its end. -/
def bareL (l : Tx) : Tx := if l.getLast? = some 10 then (if l.dropLast.getLast? = some 13 then l.dropLast.dropLast else l.dropLast) else l
theorem bareL_le (l : Tx) : (bareL l).length ≤ l.length := by
  unfold bareL
  split
  · split <;> simp <;> omega
  · exact Nat.le_refl _
def textQ (s : Tx) (f : Fld) : Tx := trimQ ((linesF ((s.drop f.at_).take (f.tu - f.at_))).map bareL).flatten
def findF (s : Tx) (name : Tx) : List Fld → Tx × Bool
  | [] => ([], false)
  | f :: r => if smallS f.name = smallS name then (textQ s f, true) else findF s name r
def findH (s name : Tx) : Tx × Bool := findF s name (fieldsQ s)
/-- Each field lies among so many octets. -/
def FldOk (n : Nat) (f : Fld) : Prop := f.frm ≤ f.at_ ∧ f.at_ ≤ f.tu ∧ f.tu ≤ n ∧ f.frm ≤ f.tu
theorem fldL_ok (N : Nat) : ∀ (ls : List Tx) (o : Nat) (op : Bool) (out : List Fld), o + ls.flatten.length ≤ N → (∀ f ∈ out, FldOk N f ∧ f.tu ≤ o) → ∀ f ∈ fldL o op out ls, FldOk N f
  | [], _, _, _, _, h => fun f hf => (h f hf).1
  | l :: r, o, op, out, hN, h => by
    rw [List.flatten_cons, List.length_append] at hN
    have hmono : ∀ f ∈ out, FldOk N f ∧ f.tu ≤ o + l.length := fun f hf => ⟨(h f hf).1, by have := (h f hf).2; omega⟩
    unfold fldL
    split
    · exact fun f hf => (h f hf).1
    · split
      · refine fldL_ok N r _ op _ (by omega) ?_
        cases op with
        | false => exact hmono
        | true =>
          intro f hf
          rw [if_pos rfl] at hf
          rcases List.eq_nil_or_concat out with rfl | ⟨t, g, rfl⟩
          · simp [setTo] at hf
          · rw [List.concat_eq_append, setTo_snoc] at hf
            rcases List.mem_append.1 hf with hf | hf
            · exact hmono f (by simp [hf])
            · simp only [List.mem_singleton] at hf
              subst hf
              obtain ⟨⟨h1, h2, h3, h4⟩, h5⟩ := h g (by simp)
              exact ⟨⟨h1, by show g.at_ ≤ o + l.length; omega, by show o + l.length ≤ N; omega, by show g.frm ≤ o + l.length; omega⟩, Nat.le_refl _⟩
      · split
        · exact fldL_ok N r _ _ _ (by omega) hmono
        · rename_i n k hb
          have := beginQ_lt hb
          refine fldL_ok N r _ _ _ (by omega) fun f hf => ?_
          rcases List.mem_append.1 hf with hf | hf
          · exact hmono f hf
          · simp only [List.mem_singleton] at hf
            subst hf
            exact ⟨⟨by show o ≤ o + k; omega, by show o + k ≤ o + l.length; omega, by show o + l.length ≤ N; omega, by show o ≤ o + l.length; omega⟩, Nat.le_refl _⟩
theorem fieldsQ_ok (s : Tx) : ∀ f ∈ fieldsQ s, FldOk (splitQ s) f := by
  refine fldL_ok _ _ 0 _ _ ?_ (by simp)
  rw [linesF_flat, List.length_take]
  omega
theorem fldL_count : ∀ (ls : List Tx) (o : Nat) (op : Bool) (out : List Fld), (fldL o op out ls).length ≤ out.length + ls.length
  | [], _, _, out => by simp [fldL]
  | l :: r, o, op, out => by
    have hst : (setTo out (o + l.length)).length = out.length := by
      rcases List.eq_nil_or_concat out with rfl | ⟨t, g, rfl⟩
      · rfl
      · rw [List.concat_eq_append, setTo_snoc]; simp
    unfold fldL
    split
    · simp
    · split
      · have := fldL_count r (o + l.length) op (if op then setTo out (o + l.length) else out)
        have h2 : (if op then setTo out (o + l.length) else out).length = out.length := by split <;> simp [hst]
        rw [h2] at this
        simp only [List.length_cons]
        omega
      · split
        · have := fldL_count r (o + l.length) false out
          simp only [List.length_cons]
          omega
        · rename_i n k _
          have := fldL_count r (o + l.length) true (out ++ [⟨n, o, o + l.length, o + k⟩])
          simp only [List.length_cons, List.length_append, List.length_nil] at this ⊢
          omega
theorem linesF_count : ∀ s : Tx, (linesF s).length ≤ s.length
  | [] => Nat.le_refl _
  | x :: r => by
    have := linesF_count r
    unfold linesF
    split
    · simp only [List.length_cons]; omega
    · cases hl : linesF r with
      | nil => simp
      | cons p ps => rw [hl] at this; simp only [List.length_cons] at this ⊢; omega
theorem fieldsQ_count (s : Tx) : (fieldsQ s).length ≤ s.length := by
  have h1 := fldL_count (linesF (s.take (splitQ s))) 0 false []
  have h2 := linesF_count (s.take (splitQ s))
  have h3 : (s.take (splitQ s)).length ≤ s.length := by simp; omega
  unfold fieldsQ
  simp only [List.length_nil] at h1
  omega
theorem flat_map_len {f : Tx → Tx} (hf : ∀ l, (f l).length ≤ l.length) : ∀ l : List Tx, ((l.map f).flatten).length ≤ l.flatten.length
  | [] => Nat.le_refl _
  | a :: r => by
    have := flat_map_len hf r
    have := hf a
    simp only [List.map_cons, List.flatten_cons, List.length_append]
    omega
theorem textQ_len (s : Tx) (f : Fld) : (textQ s f).length ≤ s.length := by
  unfold textQ
  refine Nat.le_trans (trimQ_len _) (Nat.le_trans (flat_map_len bareL_le _) ?_)
  rw [linesF_flat]
  simp
  omega
theorem findF_len (s n : Tx) : ∀ l : List Fld, (findF s n l).1.length ≤ s.length
  | [] => by simp [findF]
  | f :: r => by
    have := findF_len s n r
    unfold findF
    split
    · exact textQ_len s f
    · exact this
end Go.Proofs.YtenbjndldenkfaaGreatDoor
