/-
  Lemmas on the way, joined: RfP, RfD, RfE, RfF, RfG, RfH.
-/
import Derived.Test.YtenbjndldenkfaaGreatDoorPk4
namespace Go.Proofs.YtenbjndldenkfaaGreatDoor
open Go.RowKit

structure Sg where
  c : UInt8
  q : Bool
  r : Bool
  op : Bool
  sh : Bool
deriving DecidableEq
def Sg.Pl (x : Sg) : Prop := x.q = false ∧ x.r = false
instance (x : Sg) : Decidable x.Pl := by unfold Sg.Pl; infer_instance
/-- A text's signs: is a quote open, how deep remarks are. -/
def signsF (qt : Bool) (d : Nat) (s : Tx) : List Sg := match s with
  | [] => []
  | c :: r =>
    if (qt = true ∨ 0 < d) ∧ c = 92 then (match r with
      | [] => []
      | x :: r2 => ⟨x, qt, decide (0 < d), false, false⟩ :: signsF qt d r2)
    else if d = 0 ∧ c = 34 then signsF (!qt) d r
    else if qt = false ∧ c = 40 then ⟨c, false, true, decide (d = 0), false⟩ :: signsF qt (d + 1) r
    else if 0 < d ∧ c = 41 then ⟨c, false, true, false, decide (d - 1 = 0)⟩ :: signsF qt (d - 1) r
    else ⟨c, qt, decide (0 < d), false, false⟩ :: signsF qt d r
termination_by s.length
theorem sg_esc {qt : Bool} {d : Nat} {c x : UInt8} {r : Tx} (h : (qt = true ∨ 0 < d) ∧ c = 92) : signsF qt d (c :: x :: r) = ⟨x, qt, decide (0 < d), false, false⟩ :: signsF qt d r := by
  conv => lhs; unfold signsF
  rw [if_pos h]
theorem sg_esc1 {qt : Bool} {d : Nat} {c : UInt8} (h : (qt = true ∨ 0 < d) ∧ c = 92) : signsF qt d [c] = [] := by
  conv => lhs; unfold signsF
  rw [if_pos h]
theorem sg_quo {qt : Bool} {d : Nat} {c : UInt8} {r : Tx} (h1 : ¬ ((qt = true ∨ 0 < d) ∧ c = 92)) (h : d = 0 ∧ c = 34) : signsF qt d (c :: r) = signsF (!qt) d r := by
  conv => lhs; unfold signsF
  rw [if_neg h1, if_pos h]
theorem sg_in {qt : Bool} {d : Nat} {c : UInt8} {r : Tx} (h1 : ¬ ((qt = true ∨ 0 < d) ∧ c = 92)) (h2 : ¬ (d = 0 ∧ c = 34)) (h : qt = false ∧ c = 40) : signsF qt d (c :: r) = ⟨c, false, true, decide (d = 0), false⟩ :: signsF qt (d + 1) r := by
  conv => lhs; unfold signsF
  rw [if_neg h1, if_neg h2, if_pos h]
theorem sg_out {qt : Bool} {d : Nat} {c : UInt8} {r : Tx} (h1 : ¬ ((qt = true ∨ 0 < d) ∧ c = 92)) (h2 : ¬ (d = 0 ∧ c = 34)) (h3 : ¬ (qt = false ∧ c = 40)) (h : 0 < d ∧ c = 41) : signsF qt d (c :: r) = ⟨c, false, true, false, decide (d - 1 = 0)⟩ :: signsF qt (d - 1) r := by
  conv => lhs; unfold signsF
  rw [if_neg h1, if_neg h2, if_neg h3, if_pos h]
theorem sg_on {qt : Bool} {d : Nat} {c : UInt8} {r : Tx} (h1 : ¬ ((qt = true ∨ 0 < d) ∧ c = 92)) (h2 : ¬ (d = 0 ∧ c = 34)) (h3 : ¬ (qt = false ∧ c = 40)) (h4 : ¬ (0 < d ∧ c = 41)) : signsF qt d (c :: r) = ⟨c, qt, decide (0 < d), false, false⟩ :: signsF qt d r := by
  conv => lhs; unfold signsF
  rw [if_neg h1, if_neg h2, if_neg h3, if_neg h4]
theorem signsF_len : ∀ (n : Nat) (s : Tx) (qt : Bool) (d : Nat), s.length ≤ n → (signsF qt d s).length ≤ s.length
  | _, [], qt, d, _ => by unfold signsF; exact Nat.le_refl _
  | 0, c :: r, _, _, h => by simp at h
  | n + 1, c :: r, qt, d, h => by
    have ih := fun qt d => signsF_len n r qt d (by simpa using h)
    unfold signsF
    split
    · cases r with
      | nil => simp
      | cons x r2 =>
        have ih2 := signsF_len n r2 qt d (by simp at h; omega)
        simp only [List.length_cons]
        omega
    · split
      · have := ih (!qt) d; simp only [List.length_cons]; omega
      · split
        · have := ih qt (d + 1); simp only [List.length_cons]; omega
        · split
          · have := ih qt (d - 1); simp only [List.length_cons]; omega
          · have := ih qt d; simp only [List.length_cons]; omega
/-- What signs say: does a gap stand ahead, what was said. -/
def sayS : Bool → Tx → List Sg → Tx
  | _, out, [] => out
  | gap, out, x :: r => if x.r = true ∨ (x.Pl ∧ Bl x.c) then sayS true out r else sayS false ((if gap = true ∧ out ≠ [] then out ++ [32] else out) ++ [x.c]) r
theorem sayS_len : ∀ (l : List Sg) (gap : Bool) (out : Tx), (sayS gap out l).length ≤ out.length + 2 * l.length
  | [], _, out => by simp [sayS]
  | x :: r, gap, out => by
    unfold sayS
    split
    · have := sayS_len r true out
      simp only [List.length_cons]; omega
    · have := sayS_len r false ((if gap = true ∧ out ≠ [] then out ++ [32] else out) ++ [x.c])
      have h2 : (if gap = true ∧ out ≠ [] then out ++ [32] else out).length ≤ out.length + 1 := by split <;> simp
      rw [List.length_append] at this
      simp only [List.length_cons, List.length_nil] at this ⊢
      omega
def cutS : Bool → List Sg → List Sg → List (List Sg)
  | _, cur, [] => [cur]
  | ang, cur, x :: r =>
    if (x.Pl ∧ x.c = 44) ∧ (if x.Pl ∧ x.c = 62 then false else if x.Pl ∧ x.c = 60 then true else ang) = false then cur :: cutS (if x.Pl ∧ x.c = 62 then false else if x.Pl ∧ x.c = 60 then true else ang) [] r
    else cutS (if x.Pl ∧ x.c = 62 then false else if x.Pl ∧ x.c = 60 then true else ang) (cur ++ [x]) r
/-- What the first remark says: is it open, what was found. -/
def remS : Bool → Tx → List Sg → Tx
  | _, out, [] => out
  | inn, out, x :: r => if x.op = true then remS true out r else if x.sh = true then out else remS inn (if inn = true ∧ x.r = true then out ++ [x.c] else out) r
theorem remS_len : ∀ (l : List Sg) (inn : Bool) (out : Tx), (remS inn out l).length ≤ out.length + l.length
  | [], _, out => by simp [remS]
  | x :: r, inn, out => by
    unfold remS
    split
    · have := remS_len r true out; simp only [List.length_cons]; omega
    · split
      · omega
      · have := remS_len r inn (if inn = true ∧ x.r = true then out ++ [x.c] else out)
        have h2 : (if inn = true ∧ x.r = true then out ++ [x.c] else out).length ≤ out.length + 1 := by split <;> simp
        simp only [List.length_cons]; omega
/-- The first plain sign of a kind; -1: there is none. -/
def fS (x : UInt8) : List Sg → Nat → Int
  | [], _ => -1
  | y :: r, k => if y.Pl ∧ y.c = x then (k : Int) else fS x r (k + 1)
def toS (l : List Sg) (f : Nat) : Nat := if fS 62 (l.drop (f + 1)) (f + 1) < 0 then l.length else (fS 62 (l.drop (f + 1)) (f + 1)).toNat
def nmS (l : List Sg) : Tx := if fS 60 l 0 < 0 then trimQ (remS false [] l) else sayS false [] (l.take (fS 60 l 0).toNat)
def allS (l : List Sg) : Tx := if fS 60 l 0 < 0 then sayS false [] l else sayS false [] ((l.drop ((fS 60 l 0).toNat + 1)).take (toS l (fS 60 l 0).toNat - ((fS 60 l 0).toNat + 1)))
def oneR (l : List Sg) : Adr := ⟨nmS l, (boxHost (allS l)).1, (boxHost (allS l)).2⟩
def listR (s : Tx) : List Adr := ((cutS false [] (signsF false 0 s)).map oneR).filter (fun a => decide (a ≠ ⟨[], [], []⟩))

/-! ### the signs of octets that each have a use -/
/-- One step through a text: what a state and the rest become. -/
theorem both (P : Nat → Nat → Tx → Prop)
    (hnil : ∀ u d, (u = 2 ↔ 0 < d) → u ≤ 2 → P u d [])
    (hesc1 : ∀ u d, (u = 2 ↔ 0 < d) → u ≤ 2 → u ≠ 0 → usesF u d [92] = [3] → signsF (decide (u = 1)) d [92] = [] → P u d [92])
    (hesc : ∀ u d x r, (u = 2 ↔ 0 < d) → u ≤ 2 → u ≠ 0 → (∀ t, usesF u d (92 :: x :: t) = 3 :: u :: usesF u d t) → (∀ t, signsF (decide (u = 1)) d (92 :: x :: t) = ⟨x, decide (u = 1), decide (u = 2), false, false⟩ :: signsF (decide (u = 1)) d t) → P u d r → P u d (92 :: x :: r))
    (hquo : ∀ u d u2 r, (u = 2 ↔ 0 < d) → u ≤ 2 → (u2 = 2 ↔ 0 < d) → u2 ≤ 2 → d = 0 → (∀ t, usesF u d (34 :: t) = 3 :: usesF u2 d t) → (∀ t, signsF (decide (u = 1)) d (34 :: t) = signsF (decide (u2 = 1)) d t) → P u2 d r → P u d (34 :: r))
    (hin : ∀ u d r, (u = 2 ↔ 0 < d) → u ≤ 2 → u ≠ 1 → (∀ t, usesF u d (40 :: t) = 2 :: usesF 2 (d + 1) t) → (∀ t, signsF (decide (u = 1)) d (40 :: t) = ⟨40, false, true, decide (d = 0), false⟩ :: signsF (decide ((2 : Nat) = 1)) (d + 1) t) → P 2 (d + 1) r → P u d (40 :: r))
    (hout : ∀ u d u2 r, (u = 2 ↔ 0 < d) → u = 2 → (u2 = 2 ↔ 0 < d - 1) → u2 ≤ 2 → (∀ t, usesF u d (41 :: t) = 2 :: usesF u2 (d - 1) t) → (∀ t, signsF (decide (u = 1)) d (41 :: t) = ⟨41, false, true, false, decide (d - 1 = 0)⟩ :: signsF (decide (u2 = 1)) (d - 1) t) → P u2 (d - 1) r → P u d (41 :: r))
    (hon : ∀ u d c r, (u = 2 ↔ 0 < d) → u ≤ 2 → (u = 2 → c ≠ 40 ∧ c ≠ 41) → (∀ t, usesF u d (c :: t) = u :: usesF u d t) → (∀ t, signsF (decide (u = 1)) d (c :: t) = ⟨c, decide (u = 1), decide (u = 2), false, false⟩ :: signsF (decide (u = 1)) d t) → P u d r → P u d (c :: r)) :
    ∀ (n : Nat) (s : Tx) (u d : Nat), s.length ≤ n → (u = 2 ↔ 0 < d) → u ≤ 2 → P u d s
  | _, [], u, d, _, hi, hu => hnil u d hi hu
  | 0, c :: r, _, _, h, _, _ => by simp at h
  | n + 1, c :: r, u, d, h, hi, hu => by
    have ih := fun u d => both P hnil hesc1 hesc hquo hin hout hon n r u d (by simpa using h)
    have hq0 : (decide (u = 1) = true ∨ 0 < d) ↔ u ≠ 0 := by
      rw [decide_eq_true_eq, ← hi]
      omega
    have hdd : decide (0 < d) = decide (u = 2) := decide_eq_decide.2 hi.symm
    by_cases h1 : u ≠ 0 ∧ c = 92
    · obtain ⟨h1a, rfl⟩ := h1
      cases r with
      | nil => exact hesc1 u d hi hu h1a (uses_esc1 ⟨h1a, rfl⟩) (sg_esc1 ⟨hq0.2 h1a, rfl⟩)
      | cons x r2 => exact hesc u d x r2 hi hu h1a (fun t => uses_esc ⟨h1a, rfl⟩) (fun t => by rw [sg_esc ⟨hq0.2 h1a, rfl⟩, hdd]) (both P hnil hesc1 hesc hquo hin hout hon n r2 u d (by simp at h; omega) hi hu)
    · have g1 : ¬ ((decide (u = 1) = true ∨ 0 < d) ∧ c = 92) := fun hh => h1 ⟨hq0.1 hh.1, hh.2⟩
      by_cases h2 : u = 0 ∧ c = 34
      · obtain ⟨rfl, rfl⟩ := h2
        have hd : d = 0 := by have := hi.2; omega
        subst hd
        exact hquo 0 0 1 r hi hu (by simp) (by omega) rfl (fun t => uses_open h1 ⟨rfl, rfl⟩) (fun t => sg_quo g1 ⟨rfl, rfl⟩) (ih 1 0 (by simp) (by omega))
      · by_cases h3 : u = 1 ∧ c = 34
        · obtain ⟨rfl, rfl⟩ := h3
          have hd : d = 0 := by have := hi.2; omega
          subst hd
          exact hquo 1 0 0 r hi hu (by simp) (by omega) rfl (fun t => uses_shut h1 h2 ⟨rfl, rfl⟩) (fun t => sg_quo g1 ⟨rfl, rfl⟩) (ih 0 0 (by simp) (by omega))
        · have g2 : ¬ (d = 0 ∧ c = 34) := fun hh => by
            have : u ≠ 2 := fun e => by have := hi.1 e; omega
            rcases (show u = 0 ∨ u = 1 by omega) with e | e
            · exact h2 ⟨e, hh.2⟩
            · exact h3 ⟨e, hh.2⟩
          by_cases h4 : u ≠ 1 ∧ c = 40
          · obtain ⟨h4a, rfl⟩ := h4
            have e1 : decide (u = 1) = false := decide_eq_false h4a
            refine hin u d r hi hu h4a (fun t => uses_in h1 h2 h3 ⟨h4a, rfl⟩) (fun t => ?_) (ih 2 (d + 1) (by simp) (by omega))
            rw [sg_in g1 g2 ⟨e1, rfl⟩, e1]
            rfl
          · have g3 : ¬ (decide (u = 1) = false ∧ c = 40) := fun hh => h4 ⟨of_decide_eq_false hh.1, hh.2⟩
            by_cases h5 : u = 2 ∧ c = 41
            · obtain ⟨rfl, rfl⟩ := h5
              have hd := hi.1 rfl
              have hi2 : (if d - 1 = 0 then 0 else 2) = 2 ↔ 0 < d - 1 := by split <;> omega
              have hi3 : (if d - 1 = 0 then 0 else 2) ≤ 2 := by split <;> omega
              have hi4 : decide ((2 : Nat) = 1) = decide ((if d - 1 = 0 then 0 else 2) = 1) := by split <;> rfl
              refine hout 2 d _ r hi rfl hi2 hi3 (fun t => uses_out h1 h2 h3 h4 ⟨rfl, rfl⟩) (fun t => ?_) (ih _ (d - 1) hi2 hi3)
              rw [sg_out g1 g2 g3 ⟨hd, rfl⟩, ← hi4]
            · have g4 : ¬ (0 < d ∧ c = 41) := fun hh => h5 ⟨hi.2 hh.1, hh.2⟩
              refine hon u d c r hi hu (fun e => ⟨fun e2 => h4 ⟨by omega, e2⟩, fun e2 => h5 ⟨e, e2⟩⟩) (fun t => uses_in_it h1 h2 h3 h4 h5) (fun t => ?_) (ih u d hi hu)
              rw [sg_on g1 g2 g3 g4, hdd]
/-- Signs, but for what opens and shuts. -/
def sgZ : List (UInt8 × Nat) → List (UInt8 × Nat)
  | [] => []
  | (c, u) :: r => if u = 3 then sgZ r else (c, u) :: sgZ r
def Sg.u (x : Sg) : Nat := if x.q = true then 1 else if x.r = true then 2 else 0
theorem sg_proj (s : Tx) (u d : Nat) (hi : u = 2 ↔ 0 < d) (hu : u ≤ 2) : (signsF (decide (u = 1)) d s).map (fun x => (x.c, x.u)) = sgZ (s.zip (usesF u d s)) := by
  refine both (fun u d s => (signsF (decide (u = 1)) d s).map (fun x => (x.c, x.u)) = sgZ (s.zip (usesF u d s))) ?_ ?_ ?_ ?_ ?_ ?_ ?_ s.length s u d (Nat.le_refl _) hi hu
  · intro u d _ _; unfold signsF; rfl
  · intro u d _ _ _ h1 h2; rw [h1, h2]; rfl
  · intro u d x r hi hu h0 h1 h2 ih
    rw [h1, h2]
    show _ = sgZ ((92, 3) :: (x, u) :: r.zip (usesF u d r))
    rw [sgZ, if_pos rfl, sgZ, if_neg (by omega), ← ih, List.map_cons]
    congr 1
    rcases (show u = 1 ∨ u = 2 by omega) with rfl | rfl <;> rfl
  · intro u d u2 r hi hu hi2 hu2 hd h1 h2 ih
    rw [h1, h2]
    show _ = sgZ ((34, 3) :: r.zip (usesF u2 d r))
    rw [sgZ, if_pos rfl, ← ih]
  · intro u d r hi hu h0 h1 h2 ih
    rw [h1, h2]
    show _ = sgZ ((40, 2) :: r.zip (usesF 2 (d + 1) r))
    rw [sgZ, if_neg (by omega), ← ih]
    rfl
  · intro u d u2 r hi hu hi2 hu2 h1 h2 ih
    rw [h1, h2]
    show _ = sgZ ((41, 2) :: r.zip (usesF u2 (d - 1) r))
    rw [sgZ, if_neg (by omega), ← ih]
    rfl
  · intro u d c r hi hu _ h1 h2 ih
    rw [h1, h2]
    show _ = sgZ ((c, u) :: r.zip (usesF u d r))
    rw [sgZ, if_neg (by omega), ← ih, List.map_cons]
    congr 1
    rcases (show u = 0 ∨ u = 1 ∨ u = 2 by omega) with rfl | rfl | rfl <;> rfl
/-- A sign is quoted or of a remark, not both. -/
def Sg.Ok (x : Sg) : Prop := ¬ (x.q = true ∧ x.r = true)
theorem sg_ok (s : Tx) (u d : Nat) (hi : u = 2 ↔ 0 < d) (hu : u ≤ 2) : ∀ x ∈ signsF (decide (u = 1)) d s, x.Ok := by
  refine both (fun u d s => ∀ x ∈ signsF (decide (u = 1)) d s, x.Ok) ?_ ?_ ?_ ?_ ?_ ?_ ?_ s.length s u d (Nat.le_refl _) hi hu
  · intro u d _ _ x hx; unfold signsF at hx; simp at hx
  · intro u d _ _ _ _ h2 x hx; rw [h2] at hx; simp at hx
  · intro u d c r hi hu h0 _ h2 ih x hx
    rw [h2] at hx
    rcases List.mem_cons.1 hx with rfl | hx
    · unfold Sg.Ok; simp; omega
    · exact ih x hx
  · intro u d u2 r hi hu hi2 hu2 hd _ h2 ih x hx
    rw [h2] at hx; exact ih x hx
  · intro u d r hi hu h0 _ h2 ih x hx
    rw [h2] at hx
    rcases List.mem_cons.1 hx with rfl | hx
    · unfold Sg.Ok; simp
    · exact ih x hx
  · intro u d u2 r hi hu hi2 hu2 _ h2 ih x hx
    rw [h2] at hx
    rcases List.mem_cons.1 hx with rfl | hx
    · unfold Sg.Ok; simp
    · exact ih x hx
  · intro u d c r hi hu _ _ h2 ih x hx
    rw [h2] at hx
    rcases List.mem_cons.1 hx with rfl | hx
    · unfold Sg.Ok; simp; omega
    · exact ih x hx
theorem says_sgZ : ∀ (z : List (UInt8 × Nat)) (wt : Bool) (out : Tx), saysF wt out z = saysF wt out (sgZ z)
  | [], _, _ => rfl
  | (c, u) :: r, wt, out => by
    unfold sgZ
    split
    · rename_i h
      rw [← says_sgZ r wt out]
      conv => lhs; unfold saysF
      rw [if_pos h]
    · rename_i h
      conv => lhs; unfold saysF
      conv => rhs; unfold saysF
      rw [if_neg h, if_neg h]
      split
      · exact says_sgZ r _ _
      · exact says_sgZ r _ _
theorem say_says : ∀ (l : List Sg) (gap wt : Bool) (out : Tx), (∀ x ∈ l, x.Ok) → wt = decide (gap = true ∧ out ≠ []) → sayS gap out l = saysF wt out (l.map fun x => (x.c, x.u))
  | [], _, _, _, _, _ => rfl
  | x :: r, gap, wt, out, hok, hw => by
    have hx := hok x (by simp)
    have hr := fun y hy => hok y (List.mem_cons_of_mem x hy)
    have h3 : ¬ x.u = 3 := by unfold Sg.u; split <;> (try split) <;> omega
    have h2 : (x.u = 2 ∨ (x.u = 0 ∧ Bl x.c)) ↔ (x.r = true ∨ (x.Pl ∧ Bl x.c)) := by
      unfold Sg.Ok at hx
      unfold Sg.u Sg.Pl
      cases hq : x.q <;> cases hrr : x.r <;> simp [hq, hrr] at hx ⊢
    rw [List.map_cons]
    unfold sayS saysF
    rw [if_neg h3]
    by_cases hc : x.r = true ∨ (x.Pl ∧ Bl x.c)
    · rw [if_pos hc, if_pos (h2.2 hc)]
      refine say_says r true _ out hr ?_
      cases out with
      | nil => rfl
      | cons a b => simp
    · rw [if_neg hc, if_neg (fun h => hc (h2.1 h))]
      have e : (if gap = true ∧ out ≠ [] then out ++ [32] else out) = if wt = true then out ++ [32] else out := by
        rw [hw]
        by_cases h : gap = true ∧ out ≠ []
        · rw [if_pos h, decide_eq_true h, if_pos rfl]
        · rw [if_neg h, decide_eq_false h, if_neg (by simp)]
      rw [e]
      refine say_says r false false _ hr ?_
      simp
theorem say_of {l : List Sg} {z : List (UInt8 × Nat)} (hok : ∀ x ∈ l, x.Ok) (h : l.map (fun x => (x.c, x.u)) = sgZ z) : sayS false [] l = saysQ z := by
  rw [say_says l false false [] hok (by simp), h, ← says_sgZ]
  rfl
theorem frz_skip {fr : Bool} {d : Int} {out : Tx} {c : UInt8} {u : Nat} {r : List (UInt8 × Nat)} (h : u ≠ 2) : frsA fr d out ((c, u) :: r) = frsA (decide (u ≠ 3 ∨ c ≠ 92)) d out r := by
  rw [frsA]; simp [h]
theorem frz_put {fr : Bool} {d : Int} {out : Tx} {c : UInt8} {r : List (UInt8 × Nat)} (hd : d ≠ 0) (h1 : ¬ (c = 40 ∧ fr = true)) (h2 : ¬ (c = 41 ∧ fr = true)) : frsA fr d out ((c, 2) :: r) = frsA true d (out ++ [c]) r := by
  rw [frsA]; simp [hd, h1, h2]
theorem frz_open0 {out : Tx} {r : List (UInt8 × Nat)} : frsA true 0 out ((40, 2) :: r) = frsA true 1 out r := by
  rw [frsA]; simp
theorem frz_open {d : Int} {out : Tx} {r : List (UInt8 × Nat)} (hd : 0 < d) : frsA true d out ((40, 2) :: r) = frsA true (d + 1) (out ++ [40]) r := by
  have h1 : d ≠ 0 := by omega
  have h2 : d + 1 ≠ 0 := by omega
  rw [frsA]; simp [h1, h2]
theorem frz_shut0 {out : Tx} {r : List (UInt8 × Nat)} : frsA true 1 out ((41, 2) :: r) = out := by
  rw [frsA]; simp
theorem frz_shut {d : Int} {out : Tx} {r : List (UInt8 × Nat)} (hd : 1 < d) : frsA true d out ((41, 2) :: r) = frsA true (d - 1) (out ++ [41]) r := by
  have h2 : d - 1 ≠ 0 := by omega
  rw [frsA]; simp [h2]
theorem rem_op {inn : Bool} {out : Tx} {x : Sg} {r : List Sg} (h : x.op = true) : remS inn out (x :: r) = remS true out r := by rw [remS, if_pos h]
theorem rem_sh {inn : Bool} {out : Tx} {x : Sg} {r : List Sg} (h : x.op = false) (h2 : x.sh = true) : remS inn out (x :: r) = out := by rw [remS, if_neg (by simp [h]), if_pos h2]
theorem rem_on {inn : Bool} {out : Tx} {x : Sg} {r : List Sg} (h : x.op = false) (h2 : x.sh = false) : remS inn out (x :: r) = remS inn (if inn = true ∧ x.r = true then out ++ [x.c] else out) r := by rw [remS, if_neg (by simp [h]), if_neg (by simp [h2])]
theorem rem_first (s : Tx) (u d : Nat) (hi : u = 2 ↔ 0 < d) (hu : u ≤ 2) : ∀ out : Tx, frsA true (d : Int) out (s.zip (usesF u d s)) = remS (decide (0 < d)) out (signsF (decide (u = 1)) d s) := by
  refine both (fun u d s => ∀ out : Tx, frsA true (d : Int) out (s.zip (usesF u d s)) = remS (decide (0 < d)) out (signsF (decide (u = 1)) d s)) ?_ ?_ ?_ ?_ ?_ ?_ ?_ s.length s u d (Nat.le_refl _) hi hu
  · intro u d _ _ out; unfold signsF; rfl
  · intro u d _ _ _ h1 h2 out
    rw [h1, h2]
    show frsA true (d : Int) out [(92, 3)] = out
    rw [frz_skip (by omega)]
    rfl
  · intro u d x r hi hu h0 h1 h2 ih out
    rw [h1, h2, rem_on rfl rfl]
    show frsA true (d : Int) out ((92, 3) :: (x, u) :: r.zip (usesF u d r)) = _
    rw [frz_skip (by omega)]
    by_cases h : u = 2
    · subst h
      have hd := hi.1 rfl
      rw [frz_put (by omega) (fun hh => absurd hh.2 (by decide)) (fun hh => absurd hh.2 (by decide)), ih, decide_eq_true hd]
      rfl
    · have hd : ¬ 0 < d := fun hh => h (hi.2 hh)
      rw [frz_skip h, show (decide (u ≠ 3 ∨ x ≠ 92)) = true by simp; omega, ih, decide_eq_false hd]
      rfl
  · intro u d u2 r hi hu hi2 hu2 hd h1 h2 ih out
    rw [h1, h2]
    show frsA true (d : Int) out ((34, 3) :: r.zip (usesF u2 d r)) = _
    rw [frz_skip (by omega)]
    exact ih out
  · intro u d r hi hu h0 h1 h2 ih out
    rw [h1, h2]
    show frsA true (d : Int) out ((40, 2) :: r.zip (usesF 2 (d + 1) r)) = _
    by_cases hd : d = 0
    · subst hd
      rw [rem_op rfl]
      have := ih out
      show frsA true 0 out _ = _
      rw [frz_open0]
      exact this
    · rw [rem_on (by simp [hd]) rfl, frz_open (by omega)]
      have := ih (out ++ [40])
      rw [show ((d + 1 : Nat) : Int) = (d : Int) + 1 by omega] at this
      rw [this, decide_eq_true (show 0 < d + 1 by omega), decide_eq_true (show 0 < d by omega)]
      rfl
  · intro u d u2 r hi hu hi2 hu2 h1 h2 ih out
    rw [h1, h2]
    have hd := hi.1 hu
    show frsA true (d : Int) out ((41, 2) :: r.zip (usesF u2 (d - 1) r)) = _
    by_cases h0 : d - 1 = 0
    · rw [rem_sh rfl (by simp [h0]), show (d : Int) = 1 by omega, frz_shut0]
    · rw [rem_on rfl (by simp [h0]), frz_shut (by omega)]
      have := ih (out ++ [41])
      rw [show ((d - 1 : Nat) : Int) = (d : Int) - 1 by omega] at this
      rw [this, decide_eq_true (show 0 < d - 1 by omega), decide_eq_true hd]
      rfl
  · intro u d c r hi hu hc h1 h2 ih out
    rw [h1, h2, rem_on rfl rfl]
    show frsA true (d : Int) out ((c, u) :: r.zip (usesF u d r)) = _
    by_cases h : u = 2
    · subst h
      have hd := hi.1 rfl
      rw [frz_put (by omega) (fun hh => (hc rfl).1 hh.1) (fun hh => (hc rfl).2 hh.1), ih, decide_eq_true hd]
      rfl
    · have hd : ¬ 0 < d := fun hh => h (hi.2 hh)
      rw [frz_skip h, show (decide (u ≠ 3 ∨ c ≠ 92)) = true by simp; omega, ih, decide_eq_false hd]
      rfl
theorem rem_one (p : Tx) : firstA (p.zip (usesQ p)) = trimQ (remS false [] (signsF false 0 p)) := by
  have h := rem_first p 0 0 (by simp) (by omega) []
  unfold firstA usesQ
  rw [show (0 : Int) = ((0 : Nat) : Int) from rfl, h]
  rfl
/-! ### the first plain sign -/
theorem fndA_split (x : UInt8) : ∀ (z : List (UInt8 × Nat)) (k : Nat), (fndA x z k = -1 ∧ (x, 0) ∉ z) ∨ ∃ a b, z = a ++ (x, 0) :: b ∧ (x, 0) ∉ a ∧ fndA x z k = ((k + a.length : Nat) : Int)
  | [], _ => .inl ⟨rfl, by simp⟩
  | (c, u) :: r, k => by
    unfold fndA
    by_cases h : u = 0 ∧ c = x
    · rw [if_pos h]
      exact .inr ⟨[], r, by rw [h.1, h.2]; rfl, by simp, by simp⟩
    · rw [if_neg h]
      have hne : (x, 0) ≠ (c, u) := fun e => h (by cases e; exact ⟨rfl, rfl⟩)
      rcases fndA_split x r (k + 1) with ⟨h1, h2⟩ | ⟨a, b, h1, h2, h3⟩
      · exact .inl ⟨h1, by simp only [List.mem_cons, not_or]; exact ⟨hne, h2⟩⟩
      · exact .inr ⟨(c, u) :: a, b, by rw [h1]; rfl, by simp only [List.mem_cons, not_or]; exact ⟨hne, h2⟩, by rw [h3, List.length_cons]; congr 1; omega⟩
theorem pl_u {y : Sg} (h : y.Ok) (x : UInt8) : (y.Pl ∧ y.c = x) ↔ (y.c, y.u) = (x, 0) := by
  unfold Sg.Ok at h
  unfold Sg.Pl Sg.u
  cases hq : y.q <;> cases hr : y.r <;> simp [hq, hr] at h ⊢
theorem fS_split (x : UInt8) : ∀ (l : List Sg) (k : Nat), (∀ y ∈ l, y.Ok) → (fS x l k = -1 ∧ (x, 0) ∉ l.map (fun y => (y.c, y.u))) ∨ ∃ a y b, l = a ++ y :: b ∧ (y.c, y.u) = (x, 0) ∧ (x, 0) ∉ a.map (fun y => (y.c, y.u)) ∧ fS x l k = ((k + a.length : Nat) : Int)
  | [], _, _ => .inl ⟨rfl, by simp⟩
  | y :: r, k, hok => by
    have hy := hok y (by simp)
    unfold fS
    by_cases h : y.Pl ∧ y.c = x
    · rw [if_pos h]
      exact .inr ⟨[], y, r, rfl, (pl_u hy x).1 h, by simp, by simp⟩
    · rw [if_neg h]
      have hne : (x, 0) ≠ (y.c, y.u) := fun e => h ((pl_u hy x).2 e.symm)
      rcases fS_split x r (k + 1) (fun z hz => hok z (by simp [hz])) with ⟨h1, h2⟩ | ⟨a, y2, b, h1, h2, h3, h4⟩
      · exact .inl ⟨h1, by simp only [List.map_cons, List.mem_cons, not_or]; exact ⟨hne, h2⟩⟩
      · exact .inr ⟨y :: a, y2, b, by rw [h1]; rfl, h2, by simp only [List.map_cons, List.mem_cons, not_or]; exact ⟨hne, h3⟩, by rw [h4, List.length_cons]; congr 1; omega⟩
theorem sgZ_app : ∀ a b : List (UInt8 × Nat), sgZ (a ++ b) = sgZ a ++ sgZ b
  | [], _ => rfl
  | (c, u) :: r, b => by
    show sgZ ((c, u) :: (r ++ b)) = _
    rw [sgZ, sgZ]
    split
    · exact sgZ_app r b
    · rw [sgZ_app r b]; rfl
theorem sgZ_mem {p : UInt8 × Nat} : ∀ {z : List (UInt8 × Nat)}, p.2 ≠ 3 → (p ∈ sgZ z ↔ p ∈ z)
  | [], _ => Iff.rfl
  | (c, u) :: r, h => by
    unfold sgZ
    split
    · rename_i hu
      rw [sgZ_mem h, List.mem_cons]
      exact ⟨.inr, fun hh => hh.resolve_left (fun e => h (by rw [e]; exact hu))⟩
    · rw [List.mem_cons, List.mem_cons, sgZ_mem h]
theorem split_uni {α : Type} {v : α} : ∀ {a a2 b b2 : List α}, a ++ v :: b = a2 ++ v :: b2 → v ∉ a → v ∉ a2 → a = a2 ∧ b = b2
  | [], [], b, b2, h, _, _ => ⟨rfl, (List.cons.inj h).2⟩
  | [], x :: a2, b, b2, h, _, h2 => absurd (List.cons.inj h).1 (fun e => h2 (by rw [e]; simp))
  | x :: a, [], b, b2, h, h1, _ => absurd (List.cons.inj h).1 (fun e => h1 (by rw [e]; simp))
  | x :: a, y :: a2, b, b2, h, h1, h2 => by
    simp only [List.cons_append] at h
    obtain ⟨e1, e2⟩ := List.cons.inj h
    obtain ⟨e3, e4⟩ := split_uni e2 (fun hh => h1 (by simp [hh])) (fun hh => h2 (by simp [hh]))
    exact ⟨by rw [e1, e3], e4⟩
/-- The first plain sign of signs, and of the octets that they are of. -/
theorem first_both {l : List Sg} {z : List (UInt8 × Nat)} (hok : ∀ x ∈ l, x.Ok) (h : l.map (fun x => (x.c, x.u)) = sgZ z) (x : UInt8) (k j : Nat) :
    (fS x l k = -1 ∧ fndA x z j = -1) ∨ ∃ a y b za zb, l = a ++ y :: b ∧ z = za ++ (x, 0) :: zb ∧ fS x l k = ((k + a.length : Nat) : Int) ∧ fndA x z j = ((j + za.length : Nat) : Int) ∧ a.map (fun x => (x.c, x.u)) = sgZ za ∧ b.map (fun x => (x.c, x.u)) = sgZ zb := by
  rcases fndA_split x z j with ⟨h1, h2⟩ | ⟨za, zb, h1, h2, h3⟩
  · rcases fS_split x l k hok with ⟨g1, g2⟩ | ⟨a, y, b, g1, g2, g3, g4⟩
    · exact .inl ⟨g1, h1⟩
    · have hm : (x, 0) ∈ l.map (fun x => (x.c, x.u)) := by rw [g1, List.map_append, List.map_cons, g2]; simp
      rw [h, sgZ_mem (by simp)] at hm
      exact absurd hm h2
  · rcases fS_split x l k hok with ⟨g1, g2⟩ | ⟨a, y, b, g1, g2, g3, g4⟩
    · have hm : (x, 0) ∈ z := by rw [h1]; simp
      rw [← sgZ_mem (by simp), ← h] at hm
      exact absurd hm g2
    · have e : sgZ z = sgZ za ++ (x, 0) :: sgZ zb := by rw [h1, sgZ_app]; congr 1
      rw [g1, List.map_append, List.map_cons, g2, e] at h
      obtain ⟨e1, e2⟩ := split_uni h g3 (fun hh => h2 ((sgZ_mem (by simp)).1 hh))
      exact .inr ⟨a, y, b, za, zb, g1, h1, g4, h3, e1, e2⟩
theorem one_eq (p : Tx) : oneR (signsF false 0 p) = oneA p := by
  have hok := sg_ok p 0 0 (by simp) (by omega)
  have hpr := sg_proj p 0 0 (by simp) (by omega)
  have e0 : decide ((0 : Nat) = 1) = false := rfl
  rw [e0] at hok hpr
  have hrem := rem_one p
  have hz : usesF 0 0 p = usesQ p := rfl
  rw [hz] at hpr
  unfold oneR oneA
  generalize p.zip (usesQ p) = z at *
  generalize signsF false 0 p = l at *
  have key : nmS l = nmA z ∧ allS l = allA z := by
    unfold nmS nmA allS allA
    rcases first_both hok hpr 60 0 0 with ⟨h1, h2⟩ | ⟨a, y, b, za, zb, h1, h2, h3, h4, h5, h6⟩
    · rw [h1, h2, if_pos (by omega), if_pos (by omega), if_pos (by omega), if_pos (by omega)]
      exact ⟨by rw [hrem], say_of hok hpr⟩
    · have hoka : ∀ x ∈ a, x.Ok := fun x hx => hok x (by rw [h1]; simp [hx])
      have hokb : ∀ x ∈ b, x.Ok := fun x hx => hok x (by rw [h1]; simp [hx])
      rw [h3, h4, Nat.zero_add, Nat.zero_add, if_neg (by omega), if_neg (by omega), if_neg (by omega), if_neg (by omega), Int.toNat_natCast, Int.toNat_natCast]
      unfold toS angTo
      have e1 : l.take a.length = a := by rw [h1, List.take_left]
      have e2 : z.take za.length = za := by rw [h2, List.take_left]
      have e3 : l.drop (a.length + 1) = b := by rw [h1, ← List.drop_drop, List.drop_left]; rfl
      have e4 : z.drop (za.length + 1) = zb := by rw [h2, ← List.drop_drop, List.drop_left]; rfl
      have e5 : z.drop za.length = (60, 0) :: zb := by rw [h2, List.drop_left]
      have e6 : fndA 62 ((60, 0) :: zb) za.length = fndA 62 zb (za.length + 1) := by
        conv => lhs; unfold fndA
        rw [if_neg (fun hh => absurd hh.2 (by decide))]
      have e7 : l.length = a.length + 1 + b.length := by rw [h1]; simp; omega
      have e8 : z.length = za.length + 1 + zb.length := by rw [h2]; simp; omega
      rw [e1, e2, e3, e4, e5, e6]
      refine ⟨say_of hoka h5, ?_⟩
      rcases first_both hokb h6 62 (a.length + 1) (za.length + 1) with ⟨g1, g2⟩ | ⟨a2, y2, b2, za2, zb2, g1, g2, g3, g4, g5, g6⟩
      · rw [g1, g2, if_pos (by omega), if_pos (by omega), e7, e8, List.take_of_length_le (by omega), List.take_of_length_le (by omega)]
        exact say_of hokb h6
      · rw [g3, g4, if_neg (by omega), if_neg (by omega), Int.toNat_natCast, Int.toNat_natCast, show a.length + 1 + a2.length - (a.length + 1) = a2.length by omega, show za.length + 1 + za2.length - (za.length + 1) = za2.length by omega]
        have e9 : b.take a2.length = a2 := by rw [g1, List.take_left]
        have e10 : zb.take za2.length = za2 := by rw [g2, List.take_left]
        rw [e9, e10]
        exact say_of (fun x hx => hokb x (by rw [g1]; simp [hx])) g5
  rw [key.1, key.2]
theorem cut_step (ang : Bool) (cur : List Sg) (x : Sg) (r : List Sg) (h : ¬ x.Pl) : cutS ang cur (x :: r) = cutS ang (cur ++ [x]) r := by
  rw [cutS, if_neg (fun hh => h hh.1.1), if_neg (fun hh => h hh.1), if_neg (fun hh => h hh.1)]
/-- Pieces by octets, and by signs: a piece's octets so far are `p`, the rest `t`. -/
theorem pieces_eq (s : Tx) (u d : Nat) (t : Tx) (hi : u = 2 ↔ 0 < d) (hu : u ≤ 2) :
    ∀ (pre p : Tx) (ps : List Sg) (ang : Bool) (out : List Tx), s = pre ++ (p ++ t) → (∀ t2, signsF false 0 (p ++ t2) = ps ++ signsF (decide (u = 1)) d t2) →
      (pcsA s (t.zip (usesF u d t)) (pre.length + p.length) pre.length ang out).map (signsF false 0) = out.map (signsF false 0) ++ cutS ang ps (signsF (decide (u = 1)) d t) := by
  have fin : ∀ (pre p : Tx) (out : List Tx), s = pre ++ p → (pcsA s [] (pre.length + p.length) pre.length true out) = out ++ [p] := by
    intro pre p out hs
    show out ++ [s.drop pre.length] = _
    rw [hs, List.drop_left]
  have nilE : ∀ u d, signsF u d [] = [] := fun u d => by unfold signsF; rfl
  refine both (fun u d t => ∀ (pre p : Tx) (ps : List Sg) (ang : Bool) (out : List Tx), s = pre ++ (p ++ t) → (∀ t2, signsF false 0 (p ++ t2) = ps ++ signsF (decide (u = 1)) d t2) →
      (pcsA s (t.zip (usesF u d t)) (pre.length + p.length) pre.length ang out).map (signsF false 0) = out.map (signsF false 0) ++ cutS ang ps (signsF (decide (u = 1)) d t)) ?_ ?_ ?_ ?_ ?_ ?_ ?_ t.length t u d (Nat.le_refl _) hi hu
  · intro u d _ _ pre p ps ang out hs hp
    rw [List.append_nil] at hs
    have h := hp []
    rw [List.append_nil, nilE, List.append_nil] at h
    show (out ++ [s.drop pre.length]).map (signsF false 0) = _
    rw [hs, List.drop_left, nilE, List.map_append, List.map_cons, List.map_nil, h]
    rfl
  · intro u d _ _ h0 h1 h2 pre p ps ang out hs hp
    rw [h1, h2]
    have h := hp [92]
    rw [h2, List.append_nil] at h
    show (pcsA s [(92, 3)] (pre.length + p.length) pre.length ang out).map (signsF false 0) = _
    rw [pcsA, if_pos (by omega)]
    show (out ++ [s.drop pre.length]).map (signsF false 0) = _
    rw [hs, List.drop_left, List.map_append, List.map_cons, List.map_nil, h]
    rfl
  · intro u d x r hi hu h0 h1 h2 ih pre p ps ang out hs hp
    rw [h1, h2, cut_step _ _ _ _ (by unfold Sg.Pl; simp; omega)]
    show (pcsA s ((92, 3) :: (x, u) :: r.zip (usesF u d r)) (pre.length + p.length) pre.length ang out).map (signsF false 0) = _
    rw [pcsA, if_pos (by omega), pcsA, if_pos h0]
    have := ih pre (p ++ [92, x]) (ps ++ [⟨x, decide (u = 1), decide (u = 2), false, false⟩]) ang out (by rw [hs]; simp) (fun t2 => by
      have e := hp (92 :: x :: t2)
      rw [h2] at e
      rw [List.append_assoc, List.append_assoc]
      exact e)
    rw [List.length_append] at this
    exact this
  · intro u d u2 r hi hu hi2 hu2 hd h1 h2 ih pre p ps ang out hs hp
    rw [h1, h2]
    show (pcsA s ((34, 3) :: r.zip (usesF u2 d r)) (pre.length + p.length) pre.length ang out).map (signsF false 0) = _
    rw [pcsA, if_pos (by omega)]
    have := ih pre (p ++ [34]) ps ang out (by rw [hs]; simp) (fun t2 => by
      have e := hp (34 :: t2)
      rw [h2] at e
      rw [List.append_assoc]
      exact e)
    rw [List.length_append] at this
    exact this
  · intro u d r hi hu h0 h1 h2 ih pre p ps ang out hs hp
    rw [h1, h2, cut_step _ _ _ _ (by unfold Sg.Pl; simp)]
    show (pcsA s ((40, 2) :: r.zip (usesF 2 (d + 1) r)) (pre.length + p.length) pre.length ang out).map (signsF false 0) = _
    rw [pcsA, if_pos (by omega)]
    have := ih pre (p ++ [40]) (ps ++ [⟨40, false, true, decide (d = 0), false⟩]) ang out (by rw [hs]; simp) (fun t2 => by
      have e := hp (40 :: t2)
      rw [h2] at e
      rw [List.append_assoc, List.append_assoc]
      exact e)
    rw [List.length_append] at this
    exact this
  · intro u d u2 r hi hu hi2 hu2 h1 h2 ih pre p ps ang out hs hp
    rw [h1, h2, cut_step _ _ _ _ (by unfold Sg.Pl; simp)]
    show (pcsA s ((41, 2) :: r.zip (usesF u2 (d - 1) r)) (pre.length + p.length) pre.length ang out).map (signsF false 0) = _
    rw [pcsA, if_pos (by omega)]
    have := ih pre (p ++ [41]) (ps ++ [⟨41, false, true, false, decide (d - 1 = 0)⟩]) ang out (by rw [hs]; simp) (fun t2 => by
      have e := hp (41 :: t2)
      rw [h2] at e
      rw [List.append_assoc, List.append_assoc]
      exact e)
    rw [List.length_append] at this
    exact this
  · intro u d c r hi hu hc h1 h2 ih pre p ps ang out hs hp
    rw [h1, h2]
    show (pcsA s ((c, u) :: r.zip (usesF u d r)) (pre.length + p.length) pre.length ang out).map (signsF false 0) = _
    have step : ∀ ang2, (pcsA s (r.zip (usesF u d r)) (pre.length + p.length + 1) pre.length ang2 out).map (signsF false 0) = out.map (signsF false 0) ++ cutS ang2 (ps ++ [⟨c, decide (u = 1), decide (u = 2), false, false⟩]) (signsF (decide (u = 1)) d r) := fun ang2 => by
      have := ih pre (p ++ [c]) (ps ++ [⟨c, decide (u = 1), decide (u = 2), false, false⟩]) ang2 out (by rw [hs]; simp) (fun t2 => by
        have e := hp (c :: t2)
        rw [h2] at e
        rw [List.append_assoc, List.append_assoc]
        exact e)
      rw [List.length_append] at this
      exact this
    by_cases h0 : u = 0
    · subst h0
      have hd : d = 0 := by have := hi.2; omega
      subst hd
      have hpl : (⟨c, decide ((0 : Nat) = 1), decide ((0 : Nat) = 2), false, false⟩ : Sg).Pl := ⟨rfl, rfl⟩
      rw [pcsA, if_neg (by omega), cutS]
      by_cases h60 : c = 60
      · rw [if_pos h60, if_neg (fun hh => absurd (hh.1.2.symm.trans h60) (by decide)), if_neg (fun hh => absurd (hh.2.symm.trans h60) (by decide)), if_pos ⟨hpl, h60⟩]
        exact step true
      · by_cases h62 : c = 62
        · rw [if_neg h60, if_pos h62, if_neg (fun hh => absurd (hh.1.2.symm.trans h62) (by decide)), if_pos ⟨hpl, h62⟩]
          exact step false
        · have eang : (if (⟨c, decide ((0 : Nat) = 1), decide ((0 : Nat) = 2), false, false⟩ : Sg).Pl ∧ (⟨c, decide ((0 : Nat) = 1), decide ((0 : Nat) = 2), false, false⟩ : Sg).c = 62 then false else if (⟨c, decide ((0 : Nat) = 1), decide ((0 : Nat) = 2), false, false⟩ : Sg).Pl ∧ (⟨c, decide ((0 : Nat) = 1), decide ((0 : Nat) = 2), false, false⟩ : Sg).c = 60 then true else ang) = ang := by
            rw [if_neg (fun hh => h62 hh.2), if_neg (fun hh => h60 hh.2)]
          rw [eang, if_neg h60, if_neg h62]
          by_cases h44 : c = 44 ∧ ang = false
          · rw [if_pos h44, if_pos ⟨⟨hpl, h44.1⟩, h44.2⟩]
            have hps : signsF false 0 p = ps := by
              have e := hp []
              rw [List.append_nil, nilE, List.append_nil] at e
              exact e
            have hsl : sliceQ s pre.length (pre.length + p.length) = p := by
              unfold sliceQ
              rw [hs, List.drop_left, show pre.length + p.length - pre.length = p.length by omega, List.take_left]
            have := ih (pre ++ (p ++ [c])) [] [] ang (out ++ [p]) (by rw [hs]; simp) (fun t2 => rfl)
            rw [List.map_append, List.map_cons, List.map_nil, hps, List.append_assoc] at this
            rw [hsl]
            rw [show (pre ++ (p ++ [c])).length = pre.length + p.length + 1 by simp; omega] at this
            exact this
          · rw [if_neg h44, if_neg (fun hh => h44 ⟨hh.1.2, hh.2⟩)]
            exact step ang
    · rw [pcsA, if_pos h0, cut_step _ _ _ _ (by unfold Sg.Pl; simp; omega)]
      exact step ang
theorem list_eq (s : Tx) : listR s = listA s := by
  have h := pieces_eq s 0 0 s (by simp) (by omega) [] [] [] false [] rfl (fun t2 => rfl)
  have h : (piecesA s).map (signsF false 0) = cutS false [] (signsF false 0 s) := h
  unfold listR listA
  rw [← h, List.map_map]
  have e : (oneR ∘ signsF false 0) = oneA := funext fun p => one_eq p
  rw [e]
end Go.Proofs.YtenbjndldenkfaaGreatDoor

namespace Go.Proofs.YtenbjndldenkfaaGreatDoor
open Go.RowKit Go.Sort

def SG1 (x : Sg) : List Value := [.int .u8 ((x.c.toNat : Nat) : Int), .bool x.q, .bool x.r, .bool x.op, .bool x.sh]
theorem SG1_len (x : Sg) : (SG1 x).length = 5 := rfl
theorem SG1_one (x : Sg) : ∀ u ∈ SG1 x, u.oneCell' = true := by
  intro u hu
  simp only [SG1, List.mem_cons, List.not_mem_nil, or_false] at hu
  rcases hu with rfl | rfl | rfl | rfl | rfl <;> rfl
def SG (l : List Sg) : List Value := l.flatMap SG1
theorem SG_append (a b : List Sg) : SG (a ++ b) = SG a ++ SG b := by simp [SG]
theorem SG_one (l : List Sg) : ∀ u ∈ SG l, u.oneCell' = true := flat_one SG1 SG1_one l
theorem SG_at {w : World} {A : Option Addr} {l : List Sg} {k : Nat} (h : Rd w 5 A l.length (SG l)) (hk : k < l.length) : ∃ ad, A = some ad ∧ ∀ j v, (SG1 l[k])[j]? = some v → w.cell? ((ad.add (k * 5)).add j) = some v := by
  obtain ⟨ad, rfl, hc⟩ := h.elem hk
  refine ⟨ad, rfl, fun j v hj => hc j v ?_⟩
  rw [show SG l = l.flatMap SG1 from rfl, flat_get SG1 5 SG1_len l k hk]
  exact hj
theorem hrdSg {w w' : World} {t : TypeId} {x : Sg} (h : Fresh w w' t (SG1 x).toArray) : Rd w' 5 (some ⟨w.heap.size, 0, none⟩) 1 (SG [x]) := Rd.of_blk (n := 1) (size := 5) h.blk rfl
theorem SG_take : ∀ (n : Nat) (l : List Sg), SG (l.take n) = (SG l).take (n * 5)
  | 0, l => by simp [SG]
  | n + 1, [] => by simp [SG]
  | n + 1, x :: l => by
    show SG1 x ++ SG (l.take n) = List.take ((n + 1) * 5) (SG1 x ++ SG l)
    rw [SG_take n l, Nat.succ_mul]
    rfl
theorem SG_drop : ∀ (n : Nat) (l : List Sg), SG (l.drop n) = (SG l).drop (n * 5)
  | 0, l => by simp
  | n + 1, [] => by simp [SG]
  | n + 1, x :: l => by
    show SG (l.drop n) = List.drop ((n + 1) * 5) (SG1 x ++ SG l)
    rw [SG_drop n l, Nat.succ_mul]
    rfl
theorem SG_cut {w : World} {A : Option Addr} {c : Nat} {l : List Sg} (h : Rd w 5 A l.length (SG l)) {a b : Nat} (h1 : a ≤ b) (h2 : b ≤ l.length) (hc : l.length ≤ c) : Rd w 5 (cutA A c a 5) ((l.drop a).take (b - a)).length (SG ((l.drop a).take (b - a))) := by
  have e := h.cut (l := a) (r := b) (cap := c) h1 h2 hc
  have e1 : ((l.drop a).take (b - a)).length = b - a := by simp; omega
  have e2 : SG ((l.drop a).take (b - a)) = ((SG l).drop (a * 5)).take ((b - a) * 5) := by
    rw [SG_take, SG_drop]
  rw [e1, e2]
  exact e

set_option maxRecDepth 100000 in
theorem rplain_spec (x : Sg) (w : World) : Calls Tryz.prog 100 #[.agg (SG1 x).toArray] w fun e w' => e = .returned (.bool (decide x.Pl)) ∧ Frm [] w w' := by
  refine VC.calls (nt := 11) (res := #[.tmp 2]) Tryz.func100 rfl Tryz.ntmps100 Tryz.results100 rfl ?_
  refine VC.seq ?_
  refine VC.region ?_
  refine Ops.m (Does.box rfl) rfl ?_
  rintro _ w1 ⟨rfl, hF1⟩
  have hb1 : Blk w1 w.heap.size 130 (SG1 x).toArray := hF1.blk
  have K := hF1.frm
  generalize w.heap.size = g1 at hb1 ⊢
  refine Ops.r (Run.asg rfl) rfl ?_
  refine Ops.nil ?_
  refine thenQ_n ?_
  refine VC.sub [(1, _)] (.cons rfl .nil) ?_
  refine VC.seq ?_
  refine VC.split1 [] .nil 2 (.bool (decide ((x.q = false) ∧ (x.r = false)))) ?_ ?_
  · by_cases hs0 : x.q = false
    · skip
      refine VC.region ?_
      refine Ops.r (Run.fieldAddr rfl Tryz.underlying130 rfl Tryz.sizeOf4 (by decide)) rfl ?_
      refine Ops.r (Run.load rfl Tryz.isAgg4 (hb1.cell 1)) rfl ?_
      refine Ops.r (Run.not rfl) rfl ?_
      rw [show (!x.q) = decide (x.q = false) by cases x.q <;> rfl]
      refine Ops.r (Run.mv rfl) rfl ?_
      refine Ops.rg rfl au (Run.fieldAddr rfl Tryz.underlying130 rfl Tryz.sizeOf4 (by decide)) rfl ?_
      refine Ops.rg rfl au (Run.load rfl Tryz.isAgg4 (hb1.cell 2)) rfl ?_
      refine Ops.rg rfl au (Run.not rfl) rfl ?_
      rw [show (!x.r) = decide (x.r = false) by cases x.r <;> rfl]
      refine Ops.r (Run.pickT rfl rfl au) rfl ?_
      refine Ops.r (Run.asg rfl) rfl ?_
      refine Ops.nil ?_
      refine thenQ_n ⟨(.cons (by rw [dand1 hs0]; rfl) .nil), rfl⟩
    · skip
      refine VC.region ?_
      refine Ops.r (Run.fieldAddr rfl Tryz.underlying130 rfl Tryz.sizeOf4 (by decide)) rfl ?_
      refine Ops.r (Run.load rfl Tryz.isAgg4 (hb1.cell 1)) rfl ?_
      refine Ops.r (Run.not rfl) rfl ?_
      rw [show (!x.q) = decide (x.q = false) by cases x.q <;> rfl]
      refine Ops.r (Run.mv rfl) rfl ?_
      refine Ops.sk rfl au rfl ?_
      refine Ops.sk rfl au rfl ?_
      refine Ops.sk rfl au rfl ?_
      refine Ops.r (Run.pickF rfl rfl au) rfl ?_
      refine Ops.r (Run.asg rfl) rfl ?_
      refine Ops.nil ?_
      refine thenQ_n ⟨(.cons (by rw [dand0 hs0]; rfl) .nil), rfl⟩
  · intro Γ hΓ
    refine thenQ_n (VC.sub _ hΓ ?_)
    refine VC.ret ?_
    refine end1 rfl ?_
    exact ⟨by rfl, K⟩

set_option maxRecDepth 100000 in
set_option maxHeartbeats 1600000 in
theorem rsigns_spec (q : Tx) (w : World) (hq : q.length ≤ 1000000) : Calls Tryz.prog 99 #[encStr q] w fun e w' => Frm [] w w' ∧ ∃ A c, e = .returned (.slice A (signsF false 0 q).length c) ∧ Own w' 130 5 A (signsF false 0 q).length c (SG (signsF false 0 q)) ∧ ∀ y ∈ ob A, w.heap.size ≤ y := by
  have K := Frm.refl [] w
  refine VC.calls (nt := 90) (res := #[.tmp 2]) Tryz.func99 rfl Tryz.ntmps99 Tryz.results99 rfl ?_
  refine VC.seq ?_
  refine VC.region ?_
  refine Ops.r (Run.asg rfl) rfl ?_
  refine Ops.nil ?_
  refine thenQ_n ?_
  refine VC.sub [(0, _)] (.cons rfl .nil) ?_
  refine VC.seq ?_
  refine VC.region ?_
  refine Ops.r (Run.asg rfl) rfl ?_
  refine Ops.nil ?_
  refine thenQ_n ?_
  refine VC.seq ?_
  refine VC.region ?_
  refine Ops.r (Run.asg rfl) rfl ?_
  refine Ops.nil ?_
  refine thenQ_n ?_
  refine VC.seq ?_
  refine VC.region ?_
  refine Ops.r (v := .int .i64 ((0 : Nat) : Int)) (Run.asg rfl) rfl ?_
  refine Ops.nil ?_
  refine thenQ_n ?_
  refine VC.seq ?_
  refine VC.seq ?_
  refine VC.region ?_
  refine Ops.r (v := .int .i64 ((0 : Nat) : Int)) (Run.asg rfl) rfl ?_
  refine Ops.nil ?_
  refine thenQ_n ?_
  refine VC.block ?_
  refine VC.loop (σ := Nat × Bool × Nat × List Sg × Option Addr × Nat) (fun s => [(0, encStr q), (3, .slice s.2.2.2.2.1 s.2.2.2.1.length s.2.2.2.2.2), (4, .bool s.2.1), (5, .int .i64 ((s.2.2.1 : Nat) : Int)), (6, .int .i64 ((s.1 : Nat) : Int))]) (fun s wr => s.1 ≤ q.length ∧ s.2.2.2.1 ++ signsF s.2.1 s.2.2.1 (q.drop s.1) = signsF false 0 q ∧ s.2.2.1 ≤ s.1 ∧ s.2.2.2.1.length ≤ s.1 ∧ Own wr 130 5 s.2.2.2.2.1 s.2.2.2.1.length s.2.2.2.2.2 (SG s.2.2.2.1) ∧ Frm [] w wr ∧ ∀ y ∈ ob s.2.2.2.2.1, w.heap.size ≤ y) (fun s => q.length - s.1) (0, false, 0, [], none, 0) (.cons rfl (.cons rfl (.cons rfl (.cons rfl (.cons rfl .nil))))) ⟨Nat.zero_le _, rfl, Nat.le_refl _, Nat.le_refl _, Own.nil _ _ _, K, by simp [ob]⟩ ?_
  rintro ⟨i, qt, d, l, A, c⟩ wr ⟨hi, hl, hd, hll, hO, K, hub⟩
  dsimp only at hi hl hd hll hO hub ⊢
  refine VC.seq ?_
  refine VC.seq ?_
  refine VC.region ?_
  refine Ops.r (Run.mv rfl) rfl ?_
  refine Ops.r (Run.mv rfl) rfl ?_
  refine Ops.r (Run.lenT rfl Tryz.underlying9) rfl ?_
  refine Ops.r (Run.bin rfl rfl (Bin.lssN _ _)) rfl ?_
  refine Ops.nil ?_
  refine thenQ_n ?_
  refine VC.sub [(0, _), (3, _), (4, _), (5, _), (6, _), (11, _)] (.cons rfl (.cons rfl (.cons rfl (.cons rfl (.cons rfl (.cons rfl .nil)))))) ?_
  refine VC.condD rfl (fun hc1 => ?_) (fun hc1 => ?_)
  · skip
    have hgx := hdA_at hc1
    have hdr := hdA_drop hc1
    rw [hdr] at hl
    generalize hdA q i = x at *
    have e92 : x.toNat = 92 ↔ x = 92 := u8n rfl
    have e34 : x.toNat = 34 ↔ x = 34 := u8n rfl
    have e40 : x.toNat = 40 ↔ x = 40 := u8n rfl
    have e41 : x.toNat = 41 ↔ x = 41 := u8n rfl
    refine VC.skip ?_
    refine thenQ_n ?_
    refine VC.sub [(0, _), (3, _), (4, _), (5, _), (6, _)] (.cons rfl (.cons rfl (.cons rfl (.cons rfl (.cons rfl .nil))))) ?_
    refine VC.seq ?_
    refine VC.meet (σ := Nat × Bool × Nat × List Sg × Option Addr × Nat) (fun s => [(0, encStr q), (3, .slice s.2.2.2.2.1 s.2.2.2.1.length s.2.2.2.2.2), (4, .bool s.2.1), (5, .int .i64 ((s.2.2.1 : Nat) : Int)), (6, .int .i64 ((s.1 : Nat) : Int))]) (fun s wr => i ≤ s.1 ∧ s.1 < q.length ∧ s.2.2.2.1 ++ signsF s.2.1 s.2.2.1 (q.drop (s.1 + 1)) = signsF false 0 q ∧ s.2.2.1 ≤ (s.1 + 1) ∧ s.2.2.2.1.length ≤ (s.1 + 1) ∧ Own wr 130 5 s.2.2.2.2.1 s.2.2.2.1.length s.2.2.2.2.2 (SG s.2.2.2.1) ∧ Frm [] w wr ∧ ∀ y ∈ ob s.2.2.2.2.1, w.heap.size ≤ y) ?_ ?_
    · skip
      refine VC.block ?_
      refine VC.seq ?_
      refine VC.region ?_
      refine Ops.r (Run.mv rfl) rfl ?_
      refine Ops.r (Run.mv rfl) rfl ?_
      refine Ops.r (Run.indexT _ rfl rfl Tryz.underlying9 hgx) rfl ?_
      refine Ops.r (Run.asg rfl) rfl ?_
      refine Ops.nil ?_
      refine thenQ_n ?_
      refine VC.sub [(0, _), (3, _), (4, _), (5, _), (6, _), (7, _)] (.cons rfl (.cons rfl (.cons rfl (.cons rfl (.cons rfl (.cons rfl .nil)))))) ?_
      refine VC.seq ?_
      refine VC.seq ?_
      refine VC.split1 [(0, _), (3, _), (4, _), (5, _), (6, _), (7, _)] (.cons rfl (.cons rfl (.cons rfl (.cons rfl (.cons rfl (.cons rfl .nil)))))) 25 (.bool (decide ((qt = true ∨ 0 < d) ∧ x.toNat = 92))) ?_ ?_
      · refine VC.region ?_
        refine Ops.r (Run.mv rfl) rfl ?_
        by_cases hs17 : qt = true
        · skip
          refine Ops.r (Run.mv rfl) rfl ?_
          refine Ops.sk rfl au rfl ?_
          refine Ops.sk rfl au rfl ?_
          refine Ops.r (Run.pickT rfl rfl au) rfl ?_
          refine Ops.r (Run.mv rfl) rfl ?_
          refine Ops.rg rfl au (Run.mv rfl) rfl ?_
          refine Ops.rg rfl au (Run.bin rfl rfl (Bin.eqlN _ 92)) rfl ?_
          by_cases hs24 : x.toNat = 92
          · skip
            refine Ops.r (Run.pickT rfl rfl au) rfl ?_
            refine Ops.nil ?_
            refine thenQ_n ⟨(.cons (congrArg (fun b => some (Value.bool b)) (by simp [*])) (.cons rfl (.cons rfl (.cons rfl (.cons rfl (.cons rfl (.cons rfl .nil))))))), rfl⟩
          · skip
            refine Ops.r (Run.pickT rfl rfl au) rfl ?_
            refine Ops.nil ?_
            refine thenQ_n ⟨(.cons (congrArg (fun b => some (Value.bool b)) (by simp [*])) (.cons rfl (.cons rfl (.cons rfl (.cons rfl (.cons rfl (.cons rfl .nil))))))), rfl⟩
        · skip
          refine Ops.r (Run.mv rfl) rfl ?_
          refine Ops.rg rfl au (Run.mv rfl) rfl ?_
          refine Ops.rg rfl au (Run.bin rfl rfl (Bin.gtrN _ 0)) rfl ?_
          by_cases hs20 : 0 < d
          · skip
            refine Ops.r (Run.pickF rfl rfl au) rfl ?_
            refine Ops.r (Run.mv rfl) rfl ?_
            refine Ops.rg rfl au (Run.mv rfl) rfl ?_
            refine Ops.rg rfl au (Run.bin rfl rfl (Bin.eqlN _ 92)) rfl ?_
            by_cases hs24 : x.toNat = 92
            · skip
              refine Ops.r (Run.pickT rfl rfl au) rfl ?_
              refine Ops.nil ?_
              refine thenQ_n ⟨(.cons (congrArg (fun b => some (Value.bool b)) (by simp [*])) (.cons rfl (.cons rfl (.cons rfl (.cons rfl (.cons rfl (.cons rfl .nil))))))), rfl⟩
            · skip
              refine Ops.r (Run.pickT rfl rfl au) rfl ?_
              refine Ops.nil ?_
              refine thenQ_n ⟨(.cons (congrArg (fun b => some (Value.bool b)) (by simp [*])) (.cons rfl (.cons rfl (.cons rfl (.cons rfl (.cons rfl (.cons rfl .nil))))))), rfl⟩
          · skip
            refine Ops.r (Run.pickF rfl rfl au) rfl ?_
            refine Ops.r (Run.mv rfl) rfl ?_
            refine Ops.sk rfl au rfl ?_
            refine Ops.sk rfl au rfl ?_
            refine Ops.r (Run.pickF rfl rfl au) rfl ?_
            refine Ops.nil ?_
            refine thenQ_n ⟨(.cons (congrArg (fun b => some (Value.bool b)) (by simp [*])) (.cons rfl (.cons rfl (.cons rfl (.cons rfl (.cons rfl (.cons rfl .nil))))))), rfl⟩
      · intro Γ hΓ
        refine thenQ_n (VC.sub _ hΓ ?_)
        refine VC.condD rfl (fun hc2 => ?_) (fun hc2 => ?_)
        · skip
          have hes : (qt = true ∨ 0 < d) ∧ x = 92 := ⟨hc2.1, e92.1 hc2.2⟩
          refine VC.seq ?_
          refine VC.seq ?_
          refine VC.region ?_
          refine Ops.r (Run.mv rfl) rfl ?_
          refine Ops.r (Run.bin rfl rfl (Bin.add_i64 _ 1 (by omega))) rfl ?_
          refine Ops.r (Run.mv rfl) rfl ?_
          refine Ops.r (Run.lenT rfl Tryz.underlying9) rfl ?_
          refine Ops.r (Run.bin rfl rfl (Bin.lssN _ _)) rfl ?_
          refine Ops.nil ?_
          refine thenQ_n ?_
          refine VC.sub [(0, _), (3, _), (4, _), (5, _), (6, _), (30, _)] (.cons rfl (.cons rfl (.cons rfl (.cons rfl (.cons rfl (.cons rfl .nil)))))) ?_
          refine VC.condD rfl (fun hc3 => ?_) (fun hc3 => ?_)
          · skip
            have hgy := hdA_at hc3
            rw [hdA_drop hc3] at hl
            generalize hdA q (i + 1) = y at *
            rw [sg_esc hes] at hl
            refine VC.seq ?_
            refine VC.region ?_
            refine Ops.r (Run.mv rfl) rfl ?_
            refine Ops.r (Run.bin rfl rfl (Bin.add_i64 _ 1 (by omega))) rfl ?_
            refine Ops.r (Run.asg rfl) rfl ?_
            refine Ops.nil ?_
            refine thenQ_n ?_
            refine VC.sub [(0, _), (3, _), (4, _), (5, _), (6, _)] (.cons rfl (.cons rfl (.cons rfl (.cons rfl (.cons rfl .nil))))) ?_
            refine VC.region ?_
            refine Ops.r (Run.mv rfl) rfl ?_
            refine Ops.r (Run.mv rfl) rfl ?_
            refine Ops.r (Run.mv rfl) rfl ?_
            refine Ops.r (Run.indexT _ rfl rfl Tryz.underlying9 hgy) rfl ?_
            refine Ops.r (Run.mv rfl) rfl ?_
            refine Ops.r (Run.mv rfl) rfl ?_
            refine Ops.r (Run.bin rfl rfl (Bin.gtrN _ 0)) rfl ?_
            refine Ops.r (Run.build (evs.cons rfl (evs.cons rfl (evs.cons rfl evs.nil))) zero130 (places130).choose_spec.1 (places130).choose_spec.2 rfl) rfl ?_
            refine Ops.m (Does.buildS1 rfl Tryz.underlying127 Tryz.sizeOf130 zero130 (by decide) (by decide) rfl rfl) rfl ?_
            rintro _ wa ⟨rfl, hFa⟩
            have hrda := hrdSg (x := (⟨y, qt, decide (0 < d), false, false⟩ : Sg)) hFa
            have hO := hO.frm hFa.frm (by simp)
            have K := K.trans hFa.frm (by simp)
            refine Ops.m (Does.app rfl rfl Tryz.underlying127 (info130) rfl (by decide) hO hrda (SG_one _) (by omega) (by omega)) rfl ?_
            rintro _ va ⟨Aa, ca, rfl, hOa, fa, hoba⟩
            have sK := K.size
            have K := Frm.own K fa hub
            have hOa : Own va 130 5 Aa (l ++ [(⟨y, qt, decide (0 < d), false, false⟩ : Sg)]).length ca (SG (l ++ [(⟨y, qt, decide (0 < d), false, false⟩ : Sg)])) := by rw [SG_append, List.length_append]; exact hOa
            refine Ops.r (Run.asg rfl) rfl ?_
            refine Ops.nil ?_
            refine thenQ_n ?_
            refine VC.sub [(0, _), (3, _), (4, _), (5, _), (6, _)] (.cons rfl (.cons rfl (.cons rfl (.cons rfl (.cons rfl .nil))))) ?_
            refine VC.exit ?_
            refine thenQ_x (blockQ_x ?_)
            refine thenQ_n ⟨(i + 1, qt, d, l ++ [(⟨y, qt, decide (0 < d), false, false⟩ : Sg)], Aa, ca), (.cons rfl (.cons (by rw [List.length_append]; rfl) (.cons rfl (.cons rfl (.cons rfl .nil))))), ?_⟩
            exact ⟨by dsimp only; omega, by dsimp only; omega, by rw [List.append_assoc]; exact hl, by dsimp only; omega, by simp; omega, hOa, K, up_app hub hoba (by omega)⟩
          · skip
            have hone : q.drop (i + 1) = [] := List.drop_of_length_le (by omega)
            rw [hone, sg_esc1 hes, List.append_nil] at hl
            refine VC.skip ?_
            refine thenQ_n ?_
            refine VC.sub [(0, _), (3, _), (4, _), (5, _), (6, _)] (.cons rfl (.cons rfl (.cons rfl (.cons rfl (.cons rfl .nil))))) ?_
            refine VC.exit ?_
            refine thenQ_x (blockQ_x ?_)
            refine thenQ_n ⟨(i, qt, d, l, A, c), (.cons rfl (.cons rfl (.cons rfl (.cons rfl (.cons rfl .nil))))), ?_⟩
            refine ⟨Nat.le_refl _, hc1, ?_, by dsimp only; omega, by dsimp only; omega, hO, K, hub⟩
            have hn : signsF qt d [] = [] := by unfold signsF; rfl
            dsimp only
            rw [hone, hn, List.append_nil]
            exact hl
        · skip
          have hes : ¬ ((qt = true ∨ 0 < d) ∧ x = 92) := fun h => hc2 ⟨h.1, e92.2 h.2⟩
          refine VC.skip ?_
          refine thenQ_n ?_
          refine VC.sub [(0, _), (3, _), (4, _), (5, _), (6, _), (7, _)] (.cons rfl (.cons rfl (.cons rfl (.cons rfl (.cons rfl (.cons rfl .nil)))))) ?_
          refine VC.seq ?_
          refine VC.seq ?_
          refine VC.split1 [(0, _), (3, _), (4, _), (5, _), (6, _), (7, _)] (.cons rfl (.cons rfl (.cons rfl (.cons rfl (.cons rfl (.cons rfl .nil)))))) 48 (.bool (decide ((d = 0) ∧ (x.toNat = 34)))) ?_ ?_
          · by_cases hs0 : d = 0
            · skip
              refine VC.region ?_
              refine Ops.r (Run.mv rfl) rfl ?_
              refine Ops.r (Run.bin rfl rfl (Bin.eqlN _ 0)) rfl ?_
              refine Ops.r (Run.mv rfl) rfl ?_
              refine Ops.rg rfl au (Run.mv rfl) rfl ?_
              refine Ops.rg rfl au (Run.bin rfl rfl (Bin.eqlN _ 34)) rfl ?_
              refine Ops.r (Run.pickT rfl rfl au) rfl ?_
              refine Ops.nil ?_
              refine thenQ_n ⟨(.cons (by rw [dand1 hs0]; rfl) (.cons rfl (.cons rfl (.cons rfl (.cons rfl (.cons rfl (.cons rfl .nil))))))), rfl⟩
            · skip
              refine VC.region ?_
              refine Ops.r (Run.mv rfl) rfl ?_
              refine Ops.r (Run.bin rfl rfl (Bin.eqlN _ 0)) rfl ?_
              refine Ops.r (Run.mv rfl) rfl ?_
              refine Ops.sk rfl au rfl ?_
              refine Ops.sk rfl au rfl ?_
              refine Ops.r (Run.pickF rfl rfl au) rfl ?_
              refine Ops.nil ?_
              refine thenQ_n ⟨(.cons (by rw [dand0 hs0]; rfl) (.cons rfl (.cons rfl (.cons rfl (.cons rfl (.cons rfl (.cons rfl .nil))))))), rfl⟩
          · intro Γ hΓ
            refine thenQ_n (VC.sub _ hΓ ?_)
            refine VC.condD rfl (fun hc4 => ?_) (fun hc4 => ?_)
            · skip
              rw [sg_quo hes ⟨hc4.1, e34.1 hc4.2⟩] at hl
              refine VC.seq ?_
              refine VC.region ?_
              refine Ops.r (Run.mv rfl) rfl ?_
              refine Ops.r (Run.not rfl) rfl ?_
              refine Ops.r (Run.asg rfl) rfl ?_
              refine Ops.nil ?_
              refine thenQ_n ?_
              refine VC.sub [(0, _), (3, _), (4, _), (5, _), (6, _)] (.cons rfl (.cons rfl (.cons rfl (.cons rfl (.cons rfl .nil))))) ?_
              refine VC.exit ?_
              refine thenQ_x (blockQ_x ?_)
              refine thenQ_n ⟨(i, !qt, d, l, A, c), (.cons rfl (.cons rfl (.cons rfl (.cons rfl (.cons rfl .nil))))), ?_⟩
              exact ⟨Nat.le_refl _, hc1, hl, by dsimp only; omega, by dsimp only; omega, hO, K, hub⟩
            · skip
              have hq4 : ¬ (d = 0 ∧ x = 34) := fun h => hc4 ⟨h.1, e34.2 h.2⟩
              refine VC.skip ?_
              refine thenQ_n ?_
              refine VC.sub [(0, _), (3, _), (4, _), (5, _), (6, _), (7, _)] (.cons rfl (.cons rfl (.cons rfl (.cons rfl (.cons rfl (.cons rfl .nil)))))) ?_
              refine VC.seq ?_
              refine VC.seq ?_
              refine VC.split1 [(0, _), (3, _), (4, _), (5, _), (6, _), (7, _)] (.cons rfl (.cons rfl (.cons rfl (.cons rfl (.cons rfl (.cons rfl .nil)))))) 56 (.bool (decide ((qt = false) ∧ (x.toNat = 40)))) ?_ ?_
              · by_cases hs0 : qt = false
                · skip
                  refine VC.region ?_
                  refine Ops.r (Run.mv rfl) rfl ?_
                  refine Ops.r (Run.not rfl) rfl ?_
                  rw [show (!qt) = decide (qt = false) by cases qt <;> rfl]
                  refine Ops.r (Run.mv rfl) rfl ?_
                  refine Ops.rg rfl au (Run.mv rfl) rfl ?_
                  refine Ops.rg rfl au (Run.bin rfl rfl (Bin.eqlN _ 40)) rfl ?_
                  refine Ops.r (Run.pickT rfl rfl au) rfl ?_
                  refine Ops.nil ?_
                  refine thenQ_n ⟨(.cons (by rw [dand1 hs0]; rfl) (.cons rfl (.cons rfl (.cons rfl (.cons rfl (.cons rfl (.cons rfl .nil))))))), rfl⟩
                · skip
                  refine VC.region ?_
                  refine Ops.r (Run.mv rfl) rfl ?_
                  refine Ops.r (Run.not rfl) rfl ?_
                  rw [show (!qt) = decide (qt = false) by cases qt <;> rfl]
                  refine Ops.r (Run.mv rfl) rfl ?_
                  refine Ops.sk rfl au rfl ?_
                  refine Ops.sk rfl au rfl ?_
                  refine Ops.r (Run.pickF rfl rfl au) rfl ?_
                  refine Ops.nil ?_
                  refine thenQ_n ⟨(.cons (by rw [dand0 hs0]; rfl) (.cons rfl (.cons rfl (.cons rfl (.cons rfl (.cons rfl (.cons rfl .nil))))))), rfl⟩
              · intro Γ hΓ
                refine thenQ_n (VC.sub _ hΓ ?_)
                refine VC.condD rfl (fun hc5 => ?_) (fun hc5 => ?_)
                · skip
                  rw [sg_in hes hq4 ⟨hc5.1, e40.1 hc5.2⟩] at hl
                  refine VC.seq ?_
                  refine VC.region ?_
                  refine Ops.r (Run.mv rfl) rfl ?_
                  refine Ops.r (Run.mv rfl) rfl ?_
                  refine Ops.r (Run.mv rfl) rfl ?_
                  refine Ops.r (Run.bin rfl rfl (Bin.eqlN _ 0)) rfl ?_
                  refine Ops.r (Run.build (evs.cons rfl (evs.cons rfl (evs.cons rfl evs.nil))) zero130 (places130).choose_spec.1 (places130).choose_spec.2 rfl) rfl ?_
                  refine Ops.m (Does.buildS1 rfl Tryz.underlying127 Tryz.sizeOf130 zero130 (by decide) (by decide) rfl rfl) rfl ?_
                  rintro _ wb ⟨rfl, hFb⟩
                  have hrdb := hrdSg (x := (⟨x, false, true, decide (d = 0), false⟩ : Sg)) hFb
                  have hO := hO.frm hFb.frm (by simp)
                  have K := K.trans hFb.frm (by simp)
                  refine Ops.m (Does.app rfl rfl Tryz.underlying127 (info130) rfl (by decide) hO hrdb (SG_one _) (by omega) (by omega)) rfl ?_
                  rintro _ vb ⟨Ab, cb, rfl, hOb, fb, hobb⟩
                  have sK := K.size
                  have K := Frm.own K fb hub
                  have hOb : Own vb 130 5 Ab (l ++ [(⟨x, false, true, decide (d = 0), false⟩ : Sg)]).length cb (SG (l ++ [(⟨x, false, true, decide (d = 0), false⟩ : Sg)])) := by rw [SG_append, List.length_append]; exact hOb
                  refine Ops.r (Run.asg rfl) rfl ?_
                  refine Ops.nil ?_
                  refine thenQ_n ?_
                  refine VC.sub [(0, _), (3, _), (4, _), (5, _), (6, _)] (.cons rfl (.cons rfl (.cons rfl (.cons rfl (.cons rfl .nil))))) ?_
                  refine VC.seq ?_
                  refine VC.region ?_
                  refine Ops.r (Run.mv rfl) rfl ?_
                  refine Ops.r (Run.bin rfl rfl (Bin.add_i64 _ 1 (by omega))) rfl ?_
                  refine Ops.r (Run.asg rfl) rfl ?_
                  refine Ops.nil ?_
                  refine thenQ_n ?_
                  refine VC.sub [(0, _), (3, _), (4, _), (5, _), (6, _)] (.cons rfl (.cons rfl (.cons rfl (.cons rfl (.cons rfl .nil))))) ?_
                  refine VC.exit ?_
                  refine thenQ_x (blockQ_x ?_)
                  refine thenQ_n ⟨(i, qt, d + 1, l ++ [(⟨x, false, true, decide (d = 0), false⟩ : Sg)], Ab, cb), (.cons rfl (.cons (by rw [List.length_append]; rfl) (.cons rfl (.cons rfl (.cons rfl .nil))))), ?_⟩
                  exact ⟨by dsimp only; omega, by dsimp only; omega, by rw [List.append_assoc]; exact hl, by dsimp only; omega, by simp; omega, hOb, K, up_app hub hobb (by omega)⟩
                · skip
                  have hq5 : ¬ (qt = false ∧ x = 40) := fun h => hc5 ⟨h.1, e40.2 h.2⟩
                  refine VC.skip ?_
                  refine thenQ_n ?_
                  refine VC.sub [(0, _), (3, _), (4, _), (5, _), (6, _), (7, _)] (.cons rfl (.cons rfl (.cons rfl (.cons rfl (.cons rfl (.cons rfl .nil)))))) ?_
                  refine VC.seq ?_
                  refine VC.seq ?_
                  refine VC.split1 [(0, _), (3, _), (4, _), (5, _), (6, _), (7, _)] (.cons rfl (.cons rfl (.cons rfl (.cons rfl (.cons rfl (.cons rfl .nil)))))) 71 (.bool (decide ((0 < d) ∧ (x.toNat = 41)))) ?_ ?_
                  · by_cases hs0 : 0 < d
                    · skip
                      refine VC.region ?_
                      refine Ops.r (Run.mv rfl) rfl ?_
                      refine Ops.r (Run.bin rfl rfl (Bin.gtrN _ 0)) rfl ?_
                      refine Ops.r (Run.mv rfl) rfl ?_
                      refine Ops.rg rfl au (Run.mv rfl) rfl ?_
                      refine Ops.rg rfl au (Run.bin rfl rfl (Bin.eqlN _ 41)) rfl ?_
                      refine Ops.r (Run.pickT rfl rfl au) rfl ?_
                      refine Ops.nil ?_
                      refine thenQ_n ⟨(.cons (by rw [dand1 hs0]; rfl) (.cons rfl (.cons rfl (.cons rfl (.cons rfl (.cons rfl (.cons rfl .nil))))))), rfl⟩
                    · skip
                      refine VC.region ?_
                      refine Ops.r (Run.mv rfl) rfl ?_
                      refine Ops.r (Run.bin rfl rfl (Bin.gtrN _ 0)) rfl ?_
                      refine Ops.r (Run.mv rfl) rfl ?_
                      refine Ops.sk rfl au rfl ?_
                      refine Ops.sk rfl au rfl ?_
                      refine Ops.r (Run.pickF rfl rfl au) rfl ?_
                      refine Ops.nil ?_
                      refine thenQ_n ⟨(.cons (by rw [dand0 hs0]; rfl) (.cons rfl (.cons rfl (.cons rfl (.cons rfl (.cons rfl (.cons rfl .nil))))))), rfl⟩
                  · intro Γ hΓ
                    refine thenQ_n (VC.sub _ hΓ ?_)
                    refine VC.condD rfl (fun hc6 => ?_) (fun hc6 => ?_)
                    · skip
                      rw [sg_out hes hq4 hq5 ⟨hc6.1, e41.1 hc6.2⟩] at hl
                      have hd0 := hc6.1
                      refine VC.seq ?_
                      refine VC.region ?_
                      refine Ops.r (Run.mv rfl) rfl ?_
                      refine Ops.r (Run.bin rfl rfl (Bin.sub_i64 _ 1 (by omega) (by omega))) rfl ?_
                      refine Ops.r (Run.asg rfl) rfl ?_
                      refine Ops.nil ?_
                      refine thenQ_n ?_
                      refine VC.sub [(0, _), (3, _), (4, _), (5, _), (6, _), (7, _)] (.cons rfl (.cons rfl (.cons rfl (.cons rfl (.cons rfl (.cons rfl .nil)))))) ?_
                      refine VC.seq ?_
                      refine VC.region ?_
                      refine Ops.r (Run.mv rfl) rfl ?_
                      refine Ops.r (Run.mv rfl) rfl ?_
                      refine Ops.r (Run.mv rfl) rfl ?_
                      refine Ops.r (Run.bin rfl rfl (Bin.eqlN _ 0)) rfl ?_
                      refine Ops.r (Run.build (evs.cons rfl (evs.cons rfl (evs.cons rfl evs.nil))) zero130 (places130).choose_spec.1 (places130).choose_spec.2 rfl) rfl ?_
                      refine Ops.m (Does.buildS1 rfl Tryz.underlying127 Tryz.sizeOf130 zero130 (by decide) (by decide) rfl rfl) rfl ?_
                      rintro _ we ⟨rfl, hFe⟩
                      have hrde := hrdSg (x := (⟨x, false, true, false, decide (d - 1 = 0)⟩ : Sg)) hFe
                      have hO := hO.frm hFe.frm (by simp)
                      have K := K.trans hFe.frm (by simp)
                      refine Ops.m (Does.app rfl rfl Tryz.underlying127 (info130) rfl (by decide) hO hrde (SG_one _) (by omega) (by omega)) rfl ?_
                      rintro _ ve ⟨Ae, ce, rfl, hOe, fe, hobe⟩
                      have sK := K.size
                      have K := Frm.own K fe hub
                      have hOe : Own ve 130 5 Ae (l ++ [(⟨x, false, true, false, decide (d - 1 = 0)⟩ : Sg)]).length ce (SG (l ++ [(⟨x, false, true, false, decide (d - 1 = 0)⟩ : Sg)])) := by rw [SG_append, List.length_append]; exact hOe
                      refine Ops.r (Run.asg rfl) rfl ?_
                      refine Ops.nil ?_
                      refine thenQ_n ?_
                      refine VC.sub [(0, _), (3, _), (4, _), (5, _), (6, _)] (.cons rfl (.cons rfl (.cons rfl (.cons rfl (.cons rfl .nil))))) ?_
                      refine VC.exit ?_
                      refine thenQ_x (blockQ_x ?_)
                      refine thenQ_n ⟨(i, qt, d - 1, l ++ [(⟨x, false, true, false, decide (d - 1 = 0)⟩ : Sg)], Ae, ce), (.cons rfl (.cons (by rw [List.length_append]; rfl) (.cons rfl (.cons rfl (.cons rfl .nil))))), ?_⟩
                      exact ⟨by dsimp only; omega, by dsimp only; omega, by rw [List.append_assoc]; exact hl, by dsimp only; omega, by simp; omega, hOe, K, up_app hub hobe (by omega)⟩
                    · skip
                      rw [sg_on hes hq4 hq5 (fun h => hc6 ⟨h.1, e41.2 h.2⟩)] at hl
                      refine VC.skip ?_
                      refine thenQ_n ?_
                      refine VC.sub [(0, _), (3, _), (4, _), (5, _), (6, _), (7, _)] (.cons rfl (.cons rfl (.cons rfl (.cons rfl (.cons rfl (.cons rfl .nil)))))) ?_
                      refine VC.region ?_
                      refine Ops.r (Run.mv rfl) rfl ?_
                      refine Ops.r (Run.mv rfl) rfl ?_
                      refine Ops.r (Run.mv rfl) rfl ?_
                      refine Ops.r (Run.mv rfl) rfl ?_
                      refine Ops.r (Run.bin rfl rfl (Bin.gtrN _ 0)) rfl ?_
                      refine Ops.r (Run.build (evs.cons rfl (evs.cons rfl (evs.cons rfl evs.nil))) zero130 (places130).choose_spec.1 (places130).choose_spec.2 rfl) rfl ?_
                      refine Ops.m (Does.buildS1 rfl Tryz.underlying127 Tryz.sizeOf130 zero130 (by decide) (by decide) rfl rfl) rfl ?_
                      rintro _ wf ⟨rfl, hFf⟩
                      have hrdf := hrdSg (x := (⟨x, qt, decide (0 < d), false, false⟩ : Sg)) hFf
                      have hO := hO.frm hFf.frm (by simp)
                      have K := K.trans hFf.frm (by simp)
                      refine Ops.m (Does.app rfl rfl Tryz.underlying127 (info130) rfl (by decide) hO hrdf (SG_one _) (by omega) (by omega)) rfl ?_
                      rintro _ vf ⟨Af, cf, rfl, hOf, ff, hobf⟩
                      have sK := K.size
                      have K := Frm.own K ff hub
                      have hOf : Own vf 130 5 Af (l ++ [(⟨x, qt, decide (0 < d), false, false⟩ : Sg)]).length cf (SG (l ++ [(⟨x, qt, decide (0 < d), false, false⟩ : Sg)])) := by rw [SG_append, List.length_append]; exact hOf
                      refine Ops.r (Run.asg rfl) rfl ?_
                      refine Ops.nil ?_
                      refine blockQ_n (thenQ_n ⟨(i, qt, d, l ++ [(⟨x, qt, decide (0 < d), false, false⟩ : Sg)], Af, cf), (.cons rfl (.cons (by rw [List.length_append]; rfl) (.cons rfl (.cons rfl (.cons rfl .nil))))), ?_⟩)
                      exact ⟨by dsimp only; omega, by dsimp only; omega, by rw [List.append_assoc]; exact hl, by dsimp only; omega, by simp; omega, hOf, K, up_app hub hobf (by omega)⟩
    · skip
      rintro ⟨i2, qt2, d2, l2, A2, c2⟩ wr2 ⟨hi2, hi2l, hl2, hd2, hll2, hO2, K2, hub2⟩ Γ hΓ
      dsimp only at hi2 hi2l hl2 hd2 hll2 hO2 hub2
      refine thenQ_n (VC.sub _ hΓ ?_)
      refine VC.region ?_
      refine Ops.r (Run.mv rfl) rfl ?_
      refine Ops.r (Run.bin rfl rfl (Bin.add_i64 _ 1 (by omega))) rfl ?_
      refine Ops.r (Run.asg rfl) rfl ?_
      refine Ops.nil ?_
      refine thenQ_n ⟨(i2 + 1, qt2, d2, l2, A2, c2), (.cons rfl (.cons rfl (.cons rfl (.cons rfl (.cons rfl .nil))))), ?_, ?_⟩
      · skip
        exact ⟨hi2l, hl2, hd2, hll2, hO2, K2, hub2⟩
      · skip
        first | omega | (dsimp only; omega)
  · skip
    have hil : i = q.length := by omega
    rw [List.drop_of_length_le (by omega)] at hl
    have hn : signsF qt d [] = [] := by unfold signsF; rfl
    rw [hn, List.append_nil] at hl
    subst hl
    refine VC.exit ?_
    refine thenQ_x (thenQ_x (blockQ_x ?_))
    refine thenQ_n ?_
    refine VC.sub [(3, _)] (.cons rfl .nil) ?_
    refine VC.seq ?_
    refine VC.region ?_
    refine Ops.r (Run.mv rfl) rfl ?_
    refine Ops.r (Run.asg rfl) rfl ?_
    refine Ops.nil ?_
    refine thenQ_n ?_
    refine VC.sub [(2, _)] (.cons rfl .nil) ?_
    refine VC.ret ?_
    refine end1 rfl ?_
    exact ⟨K, A, c, rfl, hO, hub⟩

set_option maxRecDepth 100000 in
set_option maxHeartbeats 1600000 in
theorem rsay_spec (A : Option Addr) (c : Nat) (l : List Sg) (w : World) (hrd : Rd w 5 A l.length (SG l)) (hl : l.length ≤ 1000000) : Calls Tryz.prog 102 #[.slice A l.length c] w fun e w' => e = .returned (encStr (sayS false [] l)) ∧ Frm [] w w' := by
  have K := Frm.refl [] w
  refine VC.calls (nt := 57) (res := #[.tmp 2]) Tryz.func102 rfl Tryz.ntmps102 Tryz.results102 rfl ?_
  refine VC.seq ?_
  refine VC.region ?_
  refine Ops.r (Run.asg rfl) rfl ?_
  refine Ops.nil ?_
  refine thenQ_n ?_
  refine VC.sub [(0, _)] (.cons rfl .nil) ?_
  refine VC.seq ?_
  refine VC.region ?_
  refine Ops.r (Run.asg rfl) rfl ?_
  refine Ops.nil ?_
  refine thenQ_n ?_
  refine VC.seq ?_
  refine VC.region ?_
  refine Ops.r (Run.asg rfl) rfl ?_
  refine Ops.nil ?_
  refine thenQ_n ?_
  refine VC.seq ?_
  refine VC.seq ?_
  refine VC.region ?_
  refine Ops.r (v := .int .i64 ((0 : Nat) : Int)) (Run.asg rfl) rfl ?_
  refine Ops.nil ?_
  refine thenQ_n ?_
  refine VC.block ?_
  refine VC.loop (σ := Nat × Bool × Tx) (fun s => [(0, .slice A l.length c), (3, encStr s.2.2), (4, .bool s.2.1), (5, .int .i64 ((s.1 : Nat) : Int))]) (fun s wr => s.1 ≤ l.length ∧ sayS s.2.1 s.2.2 (l.drop s.1) = sayS false [] l ∧ s.2.2.length ≤ 2 * s.1 ∧ Frm [] w wr) (fun s => l.length - s.1) (0, false, []) (.cons rfl (.cons rfl (.cons rfl (.cons rfl .nil)))) ⟨Nat.zero_le _, rfl, Nat.le_refl _, K⟩ ?_
  rintro ⟨i, gap, t⟩ wr ⟨hi, hs, ht, K⟩
  dsimp only at hi hs ht ⊢
  refine VC.seq ?_
  refine VC.seq ?_
  refine VC.region ?_
  refine Ops.r (Run.mv rfl) rfl ?_
  refine Ops.r (Run.mv rfl) rfl ?_
  refine Ops.r (Run.lenS rfl Tryz.underlying127) rfl ?_
  refine Ops.r (Run.bin rfl rfl (Bin.lssN _ _)) rfl ?_
  refine Ops.nil ?_
  refine thenQ_n ?_
  refine VC.sub [(0, _), (3, _), (4, _), (5, _), (9, _)] (.cons rfl (.cons rfl (.cons rfl (.cons rfl (.cons rfl .nil))))) ?_
  refine VC.condD rfl (fun hc1 => ?_) (fun hc1 => ?_)
  · skip
    obtain ⟨ad, hAe, hcell⟩ := SG_at (hrd.frm K (by simp)) hc1
    have hcw : ∀ W, Frm [] w W → ∀ j v, (SG1 l[i])[j]? = some v → W.cell? ((ad.add (i * 5)).add j) = some v := fun W hW => by
      obtain ⟨ad2, h2, hc2⟩ := SG_at (hrd.frm hW (by simp)) hc1
      cases hAe.symm.trans h2
      exact hc2
    have hdl := List.drop_eq_getElem_cons hc1
    rw [hdl] at hs
    generalize l[i] = x at *
    have e32 : x.c.toNat = 32 ↔ x.c = 32 := u8n rfl
    have e9 : x.c.toNat = 9 ↔ x.c = 9 := u8n rfl
    have hs' : (if x.r = true ∨ (x.Pl ∧ Bl x.c) then sayS true t (l.drop (i + 1)) else sayS false ((if gap = true ∧ t ≠ [] then t ++ [32] else t) ++ [x.c]) (l.drop (i + 1))) = sayS false [] l := hs
    refine VC.skip ?_
    refine thenQ_n ?_
    refine VC.sub [(0, _), (3, _), (4, _), (5, _)] (.cons rfl (.cons rfl (.cons rfl (.cons rfl .nil)))) ?_
    refine VC.seq ?_
    refine VC.meet (σ := Bool × Tx) (fun s => [(0, .slice A l.length c), (3, encStr s.2), (4, .bool s.1), (5, .int .i64 ((i : Nat) : Int))]) (fun s wr => sayS s.1 s.2 (l.drop (i + 1)) = sayS false [] l ∧ s.2.length ≤ 2 * (i + 1) ∧ Frm [] w wr) ?_ ?_
    · skip
      refine VC.block ?_
      refine VC.seq ?_
      refine VC.seq ?_
      refine VC.splitR [(0, .slice A l.length c), (3, encStr t), (4, .bool gap), (5, .int .i64 ((i : Nat) : Int))] (Frm [] wr) 39 (.bool (decide (x.r = true ∨ (x.Pl ∧ Bl x.c)))) ?_ ?_
      · refine VC.region ?_
        refine Ops.r (Run.mv rfl) rfl ?_
        refine Ops.r (Run.mv rfl) rfl ?_
        refine Ops.r (Run.indexS i (by rw [← hAe]; rfl) rfl Tryz.underlying127 Tryz.sizeOf130 hc1) rfl ?_
        refine Ops.r (Run.fieldAddr rfl Tryz.underlying130 rfl Tryz.sizeOf4 (by decide)) rfl ?_
        refine Ops.r (Run.load rfl Tryz.isAgg4 (hcell 2 _ rfl)) rfl ?_
        by_cases hs16 : x.r = true
        · skip
          refine Ops.r (Run.mv rfl) rfl ?_
          refine Ops.sk rfl au rfl ?_
          refine Ops.sk rfl au rfl ?_
          refine Ops.sk rfl au rfl ?_
          refine Ops.sk rfl au rfl ?_
          refine Ops.sk rfl au rfl ?_
          refine Ops.sk rfl au rfl ?_
          refine Ops.skU rfl rfl ?_
          refine Ops.skU rfl rfl ?_
          refine Ops.skU rfl rfl ?_
          refine Ops.skU rfl rfl ?_
          refine Ops.skU rfl rfl ?_
          refine Ops.skU rfl rfl ?_
          refine Ops.skU rfl rfl ?_
          refine Ops.skU rfl rfl ?_
          refine Ops.skU rfl rfl ?_
          refine Ops.skU rfl rfl ?_
          refine Ops.skU rfl rfl ?_
          refine Ops.skU rfl rfl ?_
          refine Ops.skU rfl rfl ?_
          refine Ops.skU rfl rfl ?_
          refine Ops.sk rfl au rfl ?_
          refine Ops.r (Run.pickT rfl rfl au) rfl ?_
          refine Ops.nil ?_
          refine thenQ_n ⟨(.cons (congrArg (fun b => some (Value.bool b)) (by first | (simp [hs16]; done) | (simp [hs16, hs22]; done) | (simp [hs16, hs22, e32.1 hs29]; done) | (simp [hs16, hs22, hs29, e9.1 hs36]; done) | (have h1 : ¬ x.c = 32 := fun h => hs29 (e32.2 h); have h2 : ¬ x.c = 9 := fun h => hs36 (e9.2 h); simp [hs16, hs22, hs29, hs36, h1, h2]; done))) (.cons rfl (.cons rfl (.cons rfl (.cons rfl .nil))))), ((by first | exact Frm.refl _ _ | exact fw5))⟩
        · skip
          refine Ops.r (Run.mv rfl) rfl ?_
          refine Ops.rg rfl au (Run.mv rfl) rfl ?_
          refine Ops.rg rfl au (Run.mv rfl) rfl ?_
          refine Ops.rg rfl au (Run.indexS i (by rw [← hAe]; rfl) rfl Tryz.underlying127 Tryz.sizeOf130 hc1) rfl ?_
          refine Ops.rg rfl au (Run.loadA rfl Tryz.isAgg130 Tryz.sizeOf130 hcell (by first | rfl | (simp; done))) rfl ?_
          refine Ops.clg rfl au (Enters.fn (evs.cons rfl evs.nil) Tryz.call100) ((rplain_spec x _)) rfl ?_
          rintro e w5 ⟨rfl, fw5⟩
          refine ⟨_, rfl, ?_⟩
          have hcell := hcw _ (K.trans fw5 (by simp))
          by_cases hs22 : x.Pl
          · skip
            refine Ops.rg rfl au (Run.mv rfl) rfl ?_
            refine Ops.rg rfl au (Run.mv rfl) rfl ?_
            refine Ops.rg rfl au (Run.mv rfl) rfl ?_
            refine Ops.rg rfl au (Run.indexS i (by rw [← hAe]; rfl) rfl Tryz.underlying127 Tryz.sizeOf130 hc1) rfl ?_
            refine Ops.rg rfl au (Run.fieldAddr rfl Tryz.underlying130 rfl Tryz.sizeOf5 (by decide)) rfl ?_
            refine Ops.rg rfl au (Run.load rfl Tryz.isAgg5 (hcell 0 _ rfl)) rfl ?_
            refine Ops.rg rfl au (Run.bin rfl rfl (Bin.eqlN _ 32)) rfl ?_
            by_cases hs29 : x.c.toNat = 32
            · skip
              refine Ops.rg rfl au (Run.mv rfl) rfl ?_
              refine Ops.sk rfl au rfl ?_
              refine Ops.sk rfl au rfl ?_
              refine Ops.sk rfl au rfl ?_
              refine Ops.sk rfl au rfl ?_
              refine Ops.sk rfl au rfl ?_
              refine Ops.sk rfl au rfl ?_
              refine Ops.rg rfl au (Run.pickT rfl rfl au) rfl ?_
              refine Ops.rg rfl au (Run.pickT rfl rfl au) rfl ?_
              refine Ops.r (Run.pickF rfl rfl au) rfl ?_
              refine Ops.nil ?_
              refine thenQ_n ⟨(.cons (congrArg (fun b => some (Value.bool b)) (by first | (simp [hs16]; done) | (simp [hs16, hs22]; done) | (simp [hs16, hs22, e32.1 hs29]; done) | (simp [hs16, hs22, hs29, e9.1 hs36]; done) | (have h1 : ¬ x.c = 32 := fun h => hs29 (e32.2 h); have h2 : ¬ x.c = 9 := fun h => hs36 (e9.2 h); simp [hs16, hs22, hs29, hs36, h1, h2]; done))) (.cons rfl (.cons rfl (.cons rfl (.cons rfl .nil))))), ((by first | exact Frm.refl _ _ | exact fw5))⟩
            · skip
              refine Ops.rg rfl au (Run.mv rfl) rfl ?_
              refine Ops.rg rfl au (Run.mv rfl) rfl ?_
              refine Ops.rg rfl au (Run.mv rfl) rfl ?_
              refine Ops.rg rfl au (Run.indexS i (by rw [← hAe]; rfl) rfl Tryz.underlying127 Tryz.sizeOf130 hc1) rfl ?_
              refine Ops.rg rfl au (Run.fieldAddr rfl Tryz.underlying130 rfl Tryz.sizeOf5 (by decide)) rfl ?_
              refine Ops.rg rfl au (Run.load rfl Tryz.isAgg5 (hcell 0 _ rfl)) rfl ?_
              refine Ops.rg rfl au (Run.bin rfl rfl (Bin.eqlN _ 9)) rfl ?_
              by_cases hs36 : x.c.toNat = 9
              · skip
                refine Ops.rg rfl au (Run.pickF rfl rfl au) rfl ?_
                refine Ops.rg rfl au (Run.pickT rfl rfl au) rfl ?_
                refine Ops.r (Run.pickF rfl rfl au) rfl ?_
                refine Ops.nil ?_
                refine thenQ_n ⟨(.cons (congrArg (fun b => some (Value.bool b)) (by first | (simp [hs16]; done) | (simp [hs16, hs22]; done) | (simp [hs16, hs22, e32.1 hs29]; done) | (simp [hs16, hs22, hs29, e9.1 hs36]; done) | (have h1 : ¬ x.c = 32 := fun h => hs29 (e32.2 h); have h2 : ¬ x.c = 9 := fun h => hs36 (e9.2 h); simp [hs16, hs22, hs29, hs36, h1, h2]; done))) (.cons rfl (.cons rfl (.cons rfl (.cons rfl .nil))))), ((by first | exact Frm.refl _ _ | exact fw5))⟩
              · skip
                refine Ops.rg rfl au (Run.pickF rfl rfl au) rfl ?_
                refine Ops.rg rfl au (Run.pickT rfl rfl au) rfl ?_
                refine Ops.r (Run.pickF rfl rfl au) rfl ?_
                refine Ops.nil ?_
                refine thenQ_n ⟨(.cons (congrArg (fun b => some (Value.bool b)) (by first | (simp [hs16]; done) | (simp [hs16, hs22]; done) | (simp [hs16, hs22, e32.1 hs29]; done) | (simp [hs16, hs22, hs29, e9.1 hs36]; done) | (have h1 : ¬ x.c = 32 := fun h => hs29 (e32.2 h); have h2 : ¬ x.c = 9 := fun h => hs36 (e9.2 h); simp [hs16, hs22, hs29, hs36, h1, h2]; done))) (.cons rfl (.cons rfl (.cons rfl (.cons rfl .nil))))), ((by first | exact Frm.refl _ _ | exact fw5))⟩
          · skip
            refine Ops.rg rfl au (Run.mv rfl) rfl ?_
            refine Ops.sk rfl au rfl ?_
            refine Ops.sk rfl au rfl ?_
            refine Ops.sk rfl au rfl ?_
            refine Ops.sk rfl au rfl ?_
            refine Ops.sk rfl au rfl ?_
            refine Ops.sk rfl au rfl ?_
            refine Ops.sk rfl au rfl ?_
            refine Ops.skU rfl rfl ?_
            refine Ops.skU rfl rfl ?_
            refine Ops.skU rfl rfl ?_
            refine Ops.skU rfl rfl ?_
            refine Ops.skU rfl rfl ?_
            refine Ops.skU rfl rfl ?_
            refine Ops.sk rfl au rfl ?_
            refine Ops.rg rfl au (Run.pickF rfl rfl au) rfl ?_
            refine Ops.r (Run.pickF rfl rfl au) rfl ?_
            refine Ops.nil ?_
            refine thenQ_n ⟨(.cons (congrArg (fun b => some (Value.bool b)) (by first | (simp [hs16]; done) | (simp [hs16, hs22]; done) | (simp [hs16, hs22, e32.1 hs29]; done) | (simp [hs16, hs22, hs29, e9.1 hs36]; done) | (have h1 : ¬ x.c = 32 := fun h => hs29 (e32.2 h); have h2 : ¬ x.c = 9 := fun h => hs36 (e9.2 h); simp [hs16, hs22, hs29, hs36, h1, h2]; done))) (.cons rfl (.cons rfl (.cons rfl (.cons rfl .nil))))), ((by first | exact Frm.refl _ _ | exact fw5))⟩
      · intro Γ wR hΓ hR
        refine thenQ_n (VC.sub _ hΓ ?_)
        refine VC.condD rfl (fun hc2 => ?_) (fun hc2 => ?_)
        · skip
          rw [if_pos hc2] at hs'
          have K := K.trans hR (by simp)
          refine VC.seq ?_
          refine VC.region ?_
          refine Ops.r (Run.asg rfl) rfl ?_
          refine Ops.nil ?_
          refine thenQ_n ?_
          refine VC.sub [(0, _), (3, _), (4, _), (5, _)] (.cons rfl (.cons rfl (.cons rfl (.cons rfl .nil)))) ?_
          refine VC.exit ?_
          refine thenQ_x (blockQ_x ?_)
          refine thenQ_n ⟨(true, t), (.cons rfl (.cons rfl (.cons rfl (.cons rfl .nil)))), ?_⟩
          exact ⟨hs', by dsimp only; omega, K⟩
        · skip
          rw [if_neg hc2] at hs'
          have K := K.trans hR (by simp)
          refine VC.skip ?_
          refine thenQ_n ?_
          refine VC.sub [(0, _), (3, _), (4, _), (5, _)] (.cons rfl (.cons rfl (.cons rfl (.cons rfl .nil)))) ?_
          refine VC.seq ?_
          refine VC.seq ?_
          refine VC.split1 [(0, _), (3, _), (5, _)] (.cons rfl (.cons rfl (.cons rfl .nil))) 44 (.bool (decide (gap = true ∧ t ≠ []))) ?_ ?_
          · refine VC.region ?_
            refine Ops.r (Run.mv rfl) rfl ?_
            by_cases hs40 : gap = true
            · skip
              refine Ops.r (Run.mv rfl) rfl ?_
              refine Ops.rg rfl au (Run.mv rfl) rfl ?_
              refine Ops.rg rfl au (Run.neqT rfl rfl) rfl ?_
              by_cases hs43 : t ≠ []
              · skip
                refine Ops.r (Run.pickT rfl rfl au) rfl ?_
                refine Ops.nil ?_
                refine thenQ_n ⟨(.cons (congrArg (fun b => some (Value.bool b)) (by simp [*])) (.cons rfl (.cons rfl (.cons rfl .nil)))), rfl⟩
              · skip
                refine Ops.r (Run.pickT rfl rfl au) rfl ?_
                refine Ops.nil ?_
                refine thenQ_n ⟨(.cons (congrArg (fun b => some (Value.bool b)) (by simp [*])) (.cons rfl (.cons rfl (.cons rfl .nil)))), rfl⟩
            · skip
              refine Ops.r (Run.mv rfl) rfl ?_
              refine Ops.sk rfl au rfl ?_
              refine Ops.sk rfl au rfl ?_
              refine Ops.r (Run.pickF rfl rfl au) rfl ?_
              refine Ops.nil ?_
              refine thenQ_n ⟨(.cons (congrArg (fun b => some (Value.bool b)) (by simp [*])) (.cons rfl (.cons rfl (.cons rfl .nil)))), rfl⟩
          · intro Γ hΓ
            refine thenQ_n (VC.sub _ hΓ ?_)
            refine VC.meet (σ := Unit) (fun s => [(0, .slice A l.length c), (3, encStr (if gap = true ∧ t ≠ [] then t ++ [32] else t)), (5, .int .i64 ((i : Nat) : Int))]) (fun s wr => wR = wr) ?_ ?_
            · skip
              refine VC.condD rfl (fun hc3 => ?_) (fun hc3 => ?_)
              · skip
                refine VC.region ?_
                refine Ops.r (Run.mv rfl) rfl ?_
                refine Ops.r (Run.addT (b := [32]) rfl rfl (by simp; omega)) rfl ?_
                refine Ops.r (Run.asg rfl) rfl ?_
                refine Ops.nil ?_
                refine thenQ_n ⟨(), (.cons rfl (.cons (by rw [if_pos hc3]; rfl) (.cons rfl .nil))), ?_⟩
                exact rfl
              · skip
                refine VC.skip ?_
                refine thenQ_n ⟨(), (.cons rfl (.cons (by rw [if_neg hc3]; rfl) (.cons rfl .nil))), ?_⟩
                exact rfl
            · skip
              rintro _ _ rfl Γ hΓ
              have htl : (if gap = true ∧ t ≠ [] then t ++ [32] else t).length ≤ 2 * i + 1 := by
                split
                · simp; omega
                · omega
              generalize (if gap = true ∧ t ≠ [] then t ++ [32] else t) = t3 at *
              have hcell := hcw _ K
              refine thenQ_n (VC.sub _ hΓ ?_)
              refine VC.seq ?_
              refine VC.region ?_
              refine Ops.r (Run.asg rfl) rfl ?_
              refine Ops.nil ?_
              refine thenQ_n ?_
              refine VC.region ?_
              refine Ops.r (Run.mv rfl) rfl ?_
              refine Ops.r (Run.mv rfl) rfl ?_
              refine Ops.r (Run.mv rfl) rfl ?_
              refine Ops.r (Run.indexS i (by rw [← hAe]; rfl) rfl Tryz.underlying127 Tryz.sizeOf130 hc1) rfl ?_
              refine Ops.r (Run.fieldAddr rfl Tryz.underlying130 rfl Tryz.sizeOf5 (by decide)) rfl ?_
              refine Ops.r (Run.load rfl Tryz.isAgg5 (hcell 0 _ rfl)) rfl ?_
              refine Ops.m (Does.buildS1 rfl Tryz.underlying22 Tryz.sizeOf5 zero5 (by decide) (by decide) rfl rfl) rfl ?_
              rintro _ w7 ⟨rfl, hF7⟩
              have hr53 : Rd w7 1 (some ⟨_, 0, none⟩) 1 (U8 [x.c]) := Rd.of_blk (n := 1) (size := 1) hF7.blk rfl
              have K := K.trans hF7.frm (by simp)
              refine Ops.r (Run.strOfT rfl Tryz.underlying22 Tryz.underlying5 Tryz.underlying9 hr53) rfl ?_
              refine Ops.r (Run.addT rfl rfl (by simp; omega)) rfl ?_
              refine Ops.r (Run.asg rfl) rfl ?_
              refine Ops.nil ?_
              refine blockQ_n (thenQ_n ⟨(false, t3 ++ [x.c]), (.cons rfl (.cons rfl (.cons rfl (.cons rfl .nil)))), ?_⟩)
              exact ⟨hs', by simp; omega, K⟩
    · skip
      rintro ⟨gap2, t2⟩ wr2 ⟨hs2, ht2, K2⟩ Γ hΓ
      dsimp only at hs2 ht2
      refine thenQ_n (VC.sub _ hΓ ?_)
      refine VC.region ?_
      refine Ops.r (Run.mv rfl) rfl ?_
      refine Ops.r (Run.bin rfl rfl (Bin.add_i64 _ 1 (by omega))) rfl ?_
      refine Ops.r (Run.asg rfl) rfl ?_
      refine Ops.nil ?_
      refine thenQ_n ⟨(i + 1, gap2, t2), (.cons rfl (.cons rfl (.cons rfl (.cons rfl .nil)))), ?_, ?_⟩
      · skip
        exact ⟨hc1, hs2, ht2, K2⟩
      · skip
        first | omega | (dsimp only; omega)
  · skip
    rw [List.drop_of_length_le (by omega)] at hs
    have hs : t = sayS false [] l := hs
    refine VC.exit ?_
    refine thenQ_x (thenQ_x (blockQ_x ?_))
    refine thenQ_n ?_
    refine VC.sub [(3, _)] (.cons rfl .nil) ?_
    refine VC.seq ?_
    refine VC.region ?_
    refine Ops.r (Run.mv rfl) rfl ?_
    refine Ops.r (Run.asg rfl) rfl ?_
    refine Ops.nil ?_
    refine thenQ_n ?_
    refine VC.sub [(2, _)] (.cons rfl .nil) ?_
    refine VC.ret ?_
    refine end1 rfl ?_
    exact ⟨by rw [← hs], K⟩

end Go.Proofs.YtenbjndldenkfaaGreatDoor

namespace Go.Proofs.YtenbjndldenkfaaGreatDoor
open Go.RowKit Go.Sort

/-- A piece, and where its signs lie. -/
abbrev Pw := List Sg × Option Addr × Nat
def RW (l : List Pw) : List Value := l.map fun y => .slice y.2.1 y.1.length y.2.2
theorem RW_len (l : List Pw) : (RW l).length = l.length := by simp [RW]
theorem RW_one (l : List Pw) : ∀ u ∈ RW l, u.oneCell' = true := by
  intro u hu
  obtain ⟨y, _, rfl⟩ := List.mem_map.1 hu
  rfl
theorem RW_append (a b : List Pw) : RW (a ++ b) = RW a ++ RW b := by simp [RW]
theorem RW_at {w : World} {A : Option Addr} {l : List Pw} {k : Nat} (h : Rd w 1 A l.length (RW l)) (hk : k < l.length) : ∃ ad, A = some ad ∧ w.cell? (ad.add (k * 1)) = some (.slice l[k].2.1 l[k].1.length l[k].2.2) := by
  obtain ⟨ad, rfl, hlt, hc⟩ := h.2 (by omega)
  refine ⟨ad, rfl, ?_⟩
  rw [Nat.mul_one]
  exact hc k _ (by simp [RW, List.getElem?_eq_getElem hk])
theorem RW_set (t : List Pw) (x y : Pw) : (RW (t ++ [x])).set t.length (.slice y.2.1 y.1.length y.2.2) = RW (t ++ [y]) := by
  rw [RW_append, RW_append, ← RW_len t, List.set_append_right _ _ (Nat.le_refl _), Nat.sub_self]
  rfl
def PWo (w : World) (l : List Pw) : Prop := ∀ y ∈ l, Own w 130 5 y.2.1 y.1.length y.2.2 (SG y.1)
theorem PWo.frm0 {w w' : World} {l : List Pw} (h : PWo w l) (k : Frm [] w w') : PWo w' l := fun y hy => (h y hy).frm k (by simp)
theorem PWo.frm {w w' : World} {S : List Nat} {l : List Pw} (h : PWo w l) (k : Frm S w w') (hS : ∀ y ∈ l, ∀ b ∈ ob y.2.1, b ∉ S) : PWo w' l := fun y hy => (h y hy).frm k (hS y hy)
theorem PWo.own {w w' : World} {l : List Pw} {e size n c : Nat} {A : Option Addr} {xs : List Value} (h : PWo w l) (k : Frm (ob A) w w') (ho : Own w e size A n c xs) (hne : 130 ≠ e) : PWo w' l := fun y hy => (h y hy).frm k (fun b hb => (h y hy).ne_own ho hne b hb)
def angS (x : Sg) (ang : Bool) : Bool := if x.Pl ∧ x.c = 62 then false else if x.Pl ∧ x.c = 60 then true else ang
theorem cut_yes {ang : Bool} {cur : List Sg} {x : Sg} {r : List Sg} (h : (x.Pl ∧ x.c = 44) ∧ angS x ang = false) : cutS ang cur (x :: r) = cur :: cutS (angS x ang) [] r := by
  rw [cutS]
  exact if_pos h
theorem cut_no {ang : Bool} {cur : List Sg} {x : Sg} {r : List Sg} (h : ¬ ((x.Pl ∧ x.c = 44) ∧ angS x ang = false)) : cutS ang cur (x :: r) = cutS (angS x ang) (cur ++ [x]) r := by
  rw [cutS]
  exact if_neg h
theorem cutS_count : ∀ (l : List Sg) (ang : Bool) (cur : List Sg), (cutS ang cur l).length ≤ l.length + 1 ∧ ∀ p ∈ cutS ang cur l, p.length ≤ cur.length + l.length
  | [], ang, cur => ⟨Nat.le_refl _, fun p hp => by
    have hp : p ∈ [cur] := hp
    simp only [List.mem_singleton] at hp
    subst hp
    exact Nat.le_refl _⟩
  | x :: r, ang, cur => by
    by_cases h : (x.Pl ∧ x.c = 44) ∧ angS x ang = false
    · rw [cut_yes h]
      obtain ⟨h1, h2⟩ := cutS_count r (angS x ang) []
      refine ⟨by simp only [List.length_cons]; omega, fun p hp => ?_⟩
      rcases List.mem_cons.1 hp with rfl | hp
      · simp
      · have := h2 p hp; simp only [List.length_cons, List.length_nil] at this ⊢; omega
    · rw [cut_no h]
      obtain ⟨h1, h2⟩ := cutS_count r (angS x ang) (cur ++ [x])
      refine ⟨by simp only [List.length_cons]; omega, fun p hp => ?_⟩
      have := h2 p hp
      simp only [List.length_cons, List.length_append, List.length_nil] at this ⊢
      omega

set_option maxRecDepth 100000 in
set_option maxHeartbeats 3200000 in
theorem rcut18_spec (A : Option Addr) (c : Nat) (l : List Sg) (w : World) (hrd : Rd w 5 A l.length (SG l)) (hl : l.length ≤ 1000000) : Calls Tryz.prog 98 #[.slice A l.length c] w fun e w' => Frm [] w w' ∧ ∃ (ps : List Pw) (OA : Option Addr) (oc : Nat), ps.map (·.1) = cutS false [] l ∧ e = .returned (.slice OA ps.length oc) ∧ Own w' 127 1 OA ps.length oc (RW ps) ∧ PWo w' ps := by
  have K := Frm.refl [] w
  refine VC.calls (nt := 77) (res := #[.tmp 2]) Tryz.func98 rfl Tryz.ntmps98 Tryz.results98 rfl ?_
  refine VC.seq ?_
  refine VC.region ?_
  refine Ops.r (Run.asg rfl) rfl ?_
  refine Ops.nil ?_
  refine thenQ_n ?_
  refine VC.sub [(0, _)] (.cons rfl .nil) ?_
  refine VC.seq ?_
  refine VC.region ?_
  refine Ops.m (Does.buildS1 rfl Tryz.underlying125 Tryz.sizeOf127 zero127 (by decide) (by decide) rfl rfl) rfl ?_
  rintro _ w1 ⟨rfl, hF1⟩
  have hO0 : Own w1 127 1 (some ⟨w.heap.size, 0, none⟩) 1 1 (RW ([([], none, 0)] : List Pw)) := Own.of_blk (n := 1) (size := 1) hF1.blk rfl (by decide)
  have K := K.trans hF1.frm (by simp)
  refine Ops.r (Run.asg rfl) rfl ?_
  refine Ops.nil ?_
  refine thenQ_n ?_
  refine VC.sub [(0, _), (3, _)] (.cons rfl (.cons rfl .nil)) ?_
  refine VC.seq ?_
  refine VC.region ?_
  refine Ops.r (Run.asg rfl) rfl ?_
  refine Ops.nil ?_
  refine thenQ_n ?_
  refine VC.seq ?_
  refine VC.seq ?_
  refine VC.region ?_
  refine Ops.r (v := .int .i64 ((0 : Nat) : Int)) (Run.asg rfl) rfl ?_
  refine Ops.nil ?_
  refine thenQ_n ?_
  refine VC.block ?_
  refine VC.loop (σ := Nat × Bool × List Pw × List Sg × Option Addr × Nat × Option Addr × Nat) (fun s => [(0, .slice A l.length c), (3, .slice s.2.2.2.2.2.2.1 ((s.2.2.1 ++ [(s.2.2.2.1, s.2.2.2.2.1, s.2.2.2.2.2.1)]) : List Pw).length s.2.2.2.2.2.2.2), (4, .bool s.2.1), (5, .int .i64 ((s.1 : Nat) : Int))]) (fun s wr => s.1 ≤ l.length ∧ s.2.2.1.map (·.1) ++ cutS s.2.1 s.2.2.2.1 (l.drop s.1) = cutS false [] l ∧ s.2.2.1.length ≤ s.1 ∧ s.2.2.2.1.length ≤ s.1 ∧ Own wr 127 1 s.2.2.2.2.2.2.1 (s.2.2.1 ++ [(s.2.2.2.1, s.2.2.2.2.1, s.2.2.2.2.2.1)]).length s.2.2.2.2.2.2.2 (RW (s.2.2.1 ++ [(s.2.2.2.1, s.2.2.2.2.1, s.2.2.2.2.2.1)])) ∧ PWo wr (s.2.2.1 ++ [(s.2.2.2.1, s.2.2.2.2.1, s.2.2.2.2.2.1)]) ∧ (∀ y ∈ s.2.2.1, ∀ b ∈ ob y.2.1, b ∉ ob s.2.2.2.2.1) ∧ Frm [] w wr ∧ (∀ y ∈ ob s.2.2.2.2.2.2.1, w.heap.size ≤ y) ∧ ∀ y ∈ s.2.2.1 ++ [(s.2.2.2.1, s.2.2.2.2.1, s.2.2.2.2.2.1)], ∀ b ∈ ob y.2.1, w.heap.size ≤ b) (fun s => l.length - s.1) (0, false, [], [], none, 0, some ⟨w.heap.size, 0, none⟩, 1) (.cons rfl (.cons rfl (.cons rfl (.cons rfl .nil)))) ⟨Nat.zero_le _, rfl, Nat.le_refl _, Nat.le_refl _, hO0, (fun y hy => by simp only [List.nil_append, List.mem_singleton] at hy; subst hy; exact Own.nil _ _ _), (by simp), K, (by simp [ob]), (by simp [ob])⟩ ?_
  rintro ⟨i, ang, init, cur, CA, cc, OA, oc⟩ wr ⟨hi, hs, hil, hcl, hO, hP, hdj, K, hubO, hubP⟩
  dsimp only at hi hs hil hcl hO hP hdj hubO hubP ⊢
  refine VC.seq ?_
  refine VC.seq ?_
  refine VC.region ?_
  refine Ops.r (Run.mv rfl) rfl ?_
  refine Ops.r (Run.mv rfl) rfl ?_
  refine Ops.r (Run.lenS rfl Tryz.underlying127) rfl ?_
  refine Ops.r (Run.bin rfl rfl (Bin.lssN _ _)) rfl ?_
  refine Ops.nil ?_
  refine thenQ_n ?_
  refine VC.sub [(0, _), (3, _), (4, _), (5, _), (10, _)] (.cons rfl (.cons rfl (.cons rfl (.cons rfl (.cons rfl .nil))))) ?_
  refine VC.condD rfl (fun hc1 => ?_) (fun hc1 => ?_)
  · skip
    obtain ⟨ad, hAe, hcell⟩ := SG_at (hrd.frm K (by simp)) hc1
    have hcw : ∀ W, Frm [] w W → ∀ j v, (SG1 l[i])[j]? = some v → W.cell? ((ad.add (i * 5)).add j) = some v := fun W hW => by
      obtain ⟨ad2, h2, hc2⟩ := SG_at (hrd.frm hW (by simp)) hc1
      cases hAe.symm.trans h2
      exact hc2
    have hdl := List.drop_eq_getElem_cons hc1
    rw [hdl] at hs
    generalize hxe : l[i] = x at *
    have e60 : x.c.toNat = 60 ↔ x.c = 60 := u8n rfl
    have e62 : x.c.toNat = 62 ↔ x.c = 62 := u8n rfl
    have e44 : x.c.toNat = 44 ↔ x.c = 44 := u8n rfl
    refine VC.skip ?_
    refine thenQ_n ?_
    refine VC.sub [(0, _), (3, _), (4, _), (5, _)] (.cons rfl (.cons rfl (.cons rfl (.cons rfl .nil)))) ?_
    refine VC.seq ?_
    refine VC.block ?_
    refine VC.seq ?_
    refine VC.seq ?_
    refine VC.splitR [(0, .slice A l.length c), (3, .slice OA ((init ++ [(cur, CA, cc)]) : List Pw).length oc), (4, .bool ang), (5, .int .i64 ((i : Nat) : Int))] (Frm [] wr) 25 (.bool (decide (x.Pl ∧ x.c.toNat = 60))) ?_ ?_
    · refine VC.region ?_
      refine Ops.r (Run.mv rfl) rfl ?_
      refine Ops.r (Run.mv rfl) rfl ?_
      refine Ops.r (Run.indexS i (by rw [← hAe]; rfl) rfl Tryz.underlying127 Tryz.sizeOf130 hc1) rfl ?_
      refine Ops.r (Run.loadA rfl Tryz.isAgg130 Tryz.sizeOf130 hcell (by first | rfl | (simp; done))) rfl ?_
      refine Ops.cl (Enters.fn (evs.cons rfl evs.nil) Tryz.call100) ((rplain_spec x _)) rfl ?_
      rintro e w5 ⟨rfl, fw5⟩
      refine ⟨_, rfl, ?_⟩
      have hcell := hcw _ (K.trans fw5 (by simp))
      by_cases hs17 : x.Pl
      · skip
        refine Ops.r (Run.mv rfl) rfl ?_
        refine Ops.rg rfl au (Run.mv rfl) rfl ?_
        refine Ops.rg rfl au (Run.mv rfl) rfl ?_
        refine Ops.rg rfl au (Run.indexS i (by rw [← hAe]; rfl) rfl Tryz.underlying127 Tryz.sizeOf130 hc1) rfl ?_
        refine Ops.rg rfl au (Run.fieldAddr rfl Tryz.underlying130 rfl Tryz.sizeOf5 (by decide)) rfl ?_
        refine Ops.rg rfl au (Run.load rfl Tryz.isAgg5 (hcell 0 _ rfl)) rfl ?_
        refine Ops.rg rfl au (Run.bin rfl rfl (Bin.eqlN _ 60)) rfl ?_
        by_cases hs24 : x.c.toNat = 60
        · skip
          refine Ops.r (Run.pickT rfl rfl au) rfl ?_
          refine Ops.nil ?_
          refine thenQ_n ⟨(.cons (congrArg (fun b => some (Value.bool b)) (by first | (simp [hs17]; done) | simp [hs17, hs24])) (.cons rfl (.cons rfl (.cons rfl (.cons rfl .nil))))), ((by first | exact Frm.refl _ _ | exact fw5))⟩
        · skip
          refine Ops.r (Run.pickT rfl rfl au) rfl ?_
          refine Ops.nil ?_
          refine thenQ_n ⟨(.cons (congrArg (fun b => some (Value.bool b)) (by first | (simp [hs17]; done) | simp [hs17, hs24])) (.cons rfl (.cons rfl (.cons rfl (.cons rfl .nil))))), ((by first | exact Frm.refl _ _ | exact fw5))⟩
      · skip
        refine Ops.r (Run.mv rfl) rfl ?_
        refine Ops.sk rfl au rfl ?_
        refine Ops.sk rfl au rfl ?_
        refine Ops.sk rfl au rfl ?_
        refine Ops.sk rfl au rfl ?_
        refine Ops.sk rfl au rfl ?_
        refine Ops.sk rfl au rfl ?_
        refine Ops.r (Run.pickF rfl rfl au) rfl ?_
        refine Ops.nil ?_
        refine thenQ_n ⟨(.cons (congrArg (fun b => some (Value.bool b)) (by first | (simp [hs17]; done) | simp [hs17, hs24])) (.cons rfl (.cons rfl (.cons rfl (.cons rfl .nil))))), ((by first | exact Frm.refl _ _ | exact fw5))⟩
    · intro Γ wR hΓ hR
      refine thenQ_n (VC.sub _ hΓ ?_)
      refine VC.meet (σ := Unit) (fun s => [(0, .slice A l.length c), (3, .slice OA ((init ++ [(cur, CA, cc)]) : List Pw).length oc), (4, .bool (if x.Pl ∧ x.c = 60 then true else ang)), (5, .int .i64 ((i : Nat) : Int))]) (fun s wz => Frm [] wr wz) ?_ ?_
      · skip
        refine VC.condD rfl (fun hc2 => ?_) (fun hc2 => ?_)
        · skip
          have ha2 : (if x.Pl ∧ x.c = 60 then true else ang) = true := if_pos ⟨hc2.1, e60.1 hc2.2⟩
          refine VC.region ?_
          refine Ops.r (Run.asg rfl) rfl ?_
          refine Ops.nil ?_
          refine thenQ_n ⟨(), (.cons rfl (.cons rfl (.cons (by rw [ha2]; rfl) (.cons rfl .nil)))), ?_⟩
          exact hR
        · skip
          have ha2 : (if x.Pl ∧ x.c = 60 then true else ang) = ang := if_neg (fun h => hc2 ⟨h.1, e60.2 h.2⟩)
          refine VC.skip ?_
          refine thenQ_n ⟨(), (.cons rfl (.cons rfl (.cons (by rw [ha2]; rfl) (.cons rfl .nil)))), ?_⟩
          exact hR
      · skip
        rintro _ wz f8 Γ hΓ
        have hO := hO.frm f8 (by simp)
        have hP := hP.frm0 f8
        have K := K.trans f8 (by simp)
        have hcell := hcw _ K
        refine thenQ_n (VC.sub _ hΓ ?_)
        refine VC.seq ?_
        refine VC.seq ?_
        refine VC.splitR [(0, .slice A l.length c), (3, .slice OA ((init ++ [(cur, CA, cc)]) : List Pw).length oc), (4, .bool (if x.Pl ∧ x.c = 60 then true else ang)), (5, .int .i64 ((i : Nat) : Int))] (Frm [] wz) 38 (.bool (decide (x.Pl ∧ x.c.toNat = 62))) ?_ ?_
        · refine VC.region ?_
          refine Ops.r (Run.mv rfl) rfl ?_
          refine Ops.r (Run.mv rfl) rfl ?_
          refine Ops.r (Run.indexS i (by rw [← hAe]; rfl) rfl Tryz.underlying127 Tryz.sizeOf130 hc1) rfl ?_
          refine Ops.r (Run.loadA rfl Tryz.isAgg130 Tryz.sizeOf130 hcell (by first | rfl | (simp; done))) rfl ?_
          refine Ops.cl (Enters.fn (evs.cons rfl evs.nil) Tryz.call100) ((rplain_spec x _)) rfl ?_
          rintro e w6 ⟨rfl, fw6⟩
          refine ⟨_, rfl, ?_⟩
          have hcell := hcw _ (K.trans fw6 (by simp))
          by_cases hs30 : x.Pl
          · skip
            refine Ops.r (Run.mv rfl) rfl ?_
            refine Ops.rg rfl au (Run.mv rfl) rfl ?_
            refine Ops.rg rfl au (Run.mv rfl) rfl ?_
            refine Ops.rg rfl au (Run.indexS i (by rw [← hAe]; rfl) rfl Tryz.underlying127 Tryz.sizeOf130 hc1) rfl ?_
            refine Ops.rg rfl au (Run.fieldAddr rfl Tryz.underlying130 rfl Tryz.sizeOf5 (by decide)) rfl ?_
            refine Ops.rg rfl au (Run.load rfl Tryz.isAgg5 (hcell 0 _ rfl)) rfl ?_
            refine Ops.rg rfl au (Run.bin rfl rfl (Bin.eqlN _ 62)) rfl ?_
            by_cases hs37 : x.c.toNat = 62
            · skip
              refine Ops.r (Run.pickT rfl rfl au) rfl ?_
              refine Ops.nil ?_
              refine thenQ_n ⟨(.cons (congrArg (fun b => some (Value.bool b)) (by first | (simp [hs30]; done) | simp [hs30, hs37])) (.cons rfl (.cons rfl (.cons rfl (.cons rfl .nil))))), ((by first | exact Frm.refl _ _ | exact fw6))⟩
            · skip
              refine Ops.r (Run.pickT rfl rfl au) rfl ?_
              refine Ops.nil ?_
              refine thenQ_n ⟨(.cons (congrArg (fun b => some (Value.bool b)) (by first | (simp [hs30]; done) | simp [hs30, hs37])) (.cons rfl (.cons rfl (.cons rfl (.cons rfl .nil))))), ((by first | exact Frm.refl _ _ | exact fw6))⟩
          · skip
            refine Ops.r (Run.mv rfl) rfl ?_
            refine Ops.sk rfl au rfl ?_
            refine Ops.sk rfl au rfl ?_
            refine Ops.sk rfl au rfl ?_
            refine Ops.sk rfl au rfl ?_
            refine Ops.sk rfl au rfl ?_
            refine Ops.sk rfl au rfl ?_
            refine Ops.r (Run.pickF rfl rfl au) rfl ?_
            refine Ops.nil ?_
            refine thenQ_n ⟨(.cons (congrArg (fun b => some (Value.bool b)) (by first | (simp [hs30]; done) | simp [hs30, hs37])) (.cons rfl (.cons rfl (.cons rfl (.cons rfl .nil))))), ((by first | exact Frm.refl _ _ | exact fw6))⟩
        · intro Γ wR hΓ hR
          refine thenQ_n (VC.sub _ hΓ ?_)
          refine VC.meet (σ := Unit) (fun s => [(0, .slice A l.length c), (3, .slice OA ((init ++ [(cur, CA, cc)]) : List Pw).length oc), (4, .bool (angS x ang)), (5, .int .i64 ((i : Nat) : Int))]) (fun s wy => Frm [] wz wy) ?_ ?_
          · skip
            refine VC.condD rfl (fun hc3 => ?_) (fun hc3 => ?_)
            · skip
              have ha3 : angS x ang = false := if_pos ⟨hc3.1, e62.1 hc3.2⟩
              refine VC.region ?_
              refine Ops.r (Run.asg rfl) rfl ?_
              refine Ops.nil ?_
              refine thenQ_n ⟨(), (.cons rfl (.cons rfl (.cons (by rw [ha3]; rfl) (.cons rfl .nil)))), ?_⟩
              exact hR
            · skip
              have ha3 : angS x ang = (if x.Pl ∧ x.c = 60 then true else ang) := if_neg (fun h => hc3 ⟨h.1, e62.2 h.2⟩)
              refine VC.skip ?_
              refine thenQ_n ⟨(), (.cons rfl (.cons rfl (.cons (by rw [ha3]; rfl) (.cons rfl .nil)))), ?_⟩
              exact hR
          · skip
            rintro _ wy f9 Γ hΓ
            have hO := hO.frm f9 (by simp)
            have hP := hP.frm0 f9
            have K := K.trans f9 (by simp)
            have hcell := hcw _ K
            refine thenQ_n (VC.sub _ hΓ ?_)
            refine VC.seq ?_
            refine VC.splitR [(0, .slice A l.length c), (3, .slice OA ((init ++ [(cur, CA, cc)]) : List Pw).length oc), (4, .bool (angS x ang)), (5, .int .i64 ((i : Nat) : Int))] (Frm [] wy) 55 (.bool (decide ((x.Pl ∧ x.c.toNat = 44) ∧ angS x ang = false))) ?_ ?_
            · refine VC.region ?_
              refine Ops.r (Run.mv rfl) rfl ?_
              refine Ops.r (Run.mv rfl) rfl ?_
              refine Ops.r (Run.indexS i (by rw [← hAe]; rfl) rfl Tryz.underlying127 Tryz.sizeOf130 hc1) rfl ?_
              refine Ops.r (Run.loadA rfl Tryz.isAgg130 Tryz.sizeOf130 hcell (by first | rfl | (simp; done))) rfl ?_
              refine Ops.cl (Enters.fn (evs.cons rfl evs.nil) Tryz.call100) ((rplain_spec x _)) rfl ?_
              rintro e w7 ⟨rfl, fw7⟩
              refine ⟨_, rfl, ?_⟩
              have hcell := hcw _ (K.trans fw7 (by simp))
              by_cases hs43 : x.Pl
              · skip
                refine Ops.r (Run.mv rfl) rfl ?_
                refine Ops.rg rfl au (Run.mv rfl) rfl ?_
                refine Ops.rg rfl au (Run.mv rfl) rfl ?_
                refine Ops.rg rfl au (Run.indexS i (by rw [← hAe]; rfl) rfl Tryz.underlying127 Tryz.sizeOf130 hc1) rfl ?_
                refine Ops.rg rfl au (Run.fieldAddr rfl Tryz.underlying130 rfl Tryz.sizeOf5 (by decide)) rfl ?_
                refine Ops.rg rfl au (Run.load rfl Tryz.isAgg5 (hcell 0 _ rfl)) rfl ?_
                refine Ops.rg rfl au (Run.bin rfl rfl (Bin.eqlN _ 44)) rfl ?_
                by_cases hs50 : x.c.toNat = 44
                · skip
                  refine Ops.r (Run.pickT rfl rfl au) rfl ?_
                  refine Ops.r (Run.mv rfl) rfl ?_
                  refine Ops.rg rfl au (Run.mv rfl) rfl ?_
                  refine Ops.rg rfl au (Run.not rfl) rfl ?_
                  rw [show (!angS x ang) = decide (angS x ang = false) by cases angS x ang <;> rfl]
                  by_cases hs54 : angS x ang = false
                  · skip
                    refine Ops.r (Run.pickT rfl rfl au) rfl ?_
                    refine Ops.nil ?_
                    refine thenQ_n ⟨(.cons (congrArg (fun b => some (Value.bool b)) (by first | (simp [hs43]; done) | (simp [hs43, hs50]; done) | simp [hs43, hs50, hs54])) (.cons rfl (.cons rfl (.cons rfl (.cons rfl .nil))))), ((by first | exact Frm.refl _ _ | exact fw7))⟩
                  · skip
                    refine Ops.r (Run.pickT rfl rfl au) rfl ?_
                    refine Ops.nil ?_
                    refine thenQ_n ⟨(.cons (congrArg (fun b => some (Value.bool b)) (by first | (simp [hs43]; done) | (simp [hs43, hs50]; done) | simp [hs43, hs50, hs54])) (.cons rfl (.cons rfl (.cons rfl (.cons rfl .nil))))), ((by first | exact Frm.refl _ _ | exact fw7))⟩
                · skip
                  refine Ops.r (Run.pickT rfl rfl au) rfl ?_
                  refine Ops.r (Run.mv rfl) rfl ?_
                  refine Ops.sk rfl au rfl ?_
                  refine Ops.sk rfl au rfl ?_
                  refine Ops.r (Run.pickF rfl rfl au) rfl ?_
                  refine Ops.nil ?_
                  refine thenQ_n ⟨(.cons (congrArg (fun b => some (Value.bool b)) (by first | (simp [hs43]; done) | (simp [hs43, hs50]; done) | simp [hs43, hs50, hs54])) (.cons rfl (.cons rfl (.cons rfl (.cons rfl .nil))))), ((by first | exact Frm.refl _ _ | exact fw7))⟩
              · skip
                refine Ops.r (Run.mv rfl) rfl ?_
                refine Ops.sk rfl au rfl ?_
                refine Ops.sk rfl au rfl ?_
                refine Ops.sk rfl au rfl ?_
                refine Ops.sk rfl au rfl ?_
                refine Ops.sk rfl au rfl ?_
                refine Ops.sk rfl au rfl ?_
                refine Ops.r (Run.pickF rfl rfl au) rfl ?_
                refine Ops.r (Run.mv rfl) rfl ?_
                refine Ops.sk rfl au rfl ?_
                refine Ops.sk rfl au rfl ?_
                refine Ops.r (Run.pickF rfl rfl au) rfl ?_
                refine Ops.nil ?_
                refine thenQ_n ⟨(.cons (congrArg (fun b => some (Value.bool b)) (by first | (simp [hs43]; done) | (simp [hs43, hs50]; done) | simp [hs43, hs50, hs54])) (.cons rfl (.cons rfl (.cons rfl (.cons rfl .nil))))), ((by first | exact Frm.refl _ _ | exact fw7))⟩
            · intro Γ wR hΓ hR
              refine thenQ_n (VC.sub _ hΓ ?_)
              refine VC.meet (σ := List Pw × List Sg × Option Addr × Nat × Option Addr × Nat) (fun s => [(0, .slice A l.length c), (3, .slice s.2.2.2.2.1 ((s.1 ++ [(s.2.1, s.2.2.1, s.2.2.2.1)]) : List Pw).length s.2.2.2.2.2), (4, .bool (angS x ang)), (5, .int .i64 ((i : Nat) : Int))]) (fun s wq => s.1.map (·.1) ++ cutS (angS x ang) s.2.1 (l.drop (i + 1)) = cutS false [] l ∧ s.1.length ≤ (i + 1) ∧ s.2.1.length ≤ (i + 1) ∧ Own wq 127 1 s.2.2.2.2.1 (s.1 ++ [(s.2.1, s.2.2.1, s.2.2.2.1)]).length s.2.2.2.2.2 (RW (s.1 ++ [(s.2.1, s.2.2.1, s.2.2.2.1)])) ∧ PWo wq (s.1 ++ [(s.2.1, s.2.2.1, s.2.2.2.1)]) ∧ (∀ y ∈ s.1, ∀ b ∈ ob y.2.1, b ∉ ob s.2.2.1) ∧ Frm [] w wq ∧ (∀ y ∈ ob s.2.2.2.2.1, w.heap.size ≤ y) ∧ ∀ y ∈ s.1 ++ [(s.2.1, s.2.2.1, s.2.2.2.1)], ∀ b ∈ ob y.2.1, w.heap.size ≤ b) ?_ ?_
              · skip
                refine VC.condD rfl (fun hc4 => ?_) (fun hc4 => ?_)
                · skip
                  have hO := hO.frm hR (by simp)
                  have hP := hP.frm0 hR
                  have K := K.trans hR (by simp)
                  have hcell := hcw _ K
                  have hlol : (init ++ [(cur, CA, cc)]).length = init.length + 1 := by simp
                  rw [cut_yes ⟨⟨hc4.1.1, e44.1 hc4.1.2⟩, hc4.2⟩] at hs
                  refine VC.region ?_
                  refine Ops.r (Run.mv rfl) rfl ?_
                  refine Ops.m (Does.buildS1 rfl Tryz.underlying125 Tryz.sizeOf127 zero127 (by decide) (by decide) rfl rfl) rfl ?_
                  rintro _ w11 ⟨rfl, hF11⟩
                  have hr11 : Rd w11 1 (some ⟨_, 0, none⟩) 1 (RW [([], none, 0)]) := Rd.of_blk (n := 1) (size := 1) hF11.blk rfl
                  have hO := hO.frm hF11.frm (by simp)
                  have hP := hP.frm0 hF11.frm
                  have K := K.trans hF11.frm (by simp)
                  refine Ops.m (Does.app rfl rfl Tryz.underlying125 (info127) rfl (by decide) hO hr11 (RW_one _) (by omega) (by omega)) rfl ?_
                  rintro _ w12 ⟨A12, c12, rfl, hO12, f12, hob12⟩
                  have sK := K.size
                  have hP := hP.own f12 hO (by decide)
                  have K := Frm.own K f12 hubO
                  have hO12 : Own w12 127 1 A12 ((init ++ [(cur, CA, cc)]) ++ [(([], none, 0) : Pw)]).length c12 (RW ((init ++ [(cur, CA, cc)]) ++ [([], none, 0)])) := by rw [RW_append, List.length_append]; exact hO12
                  have hP12 : PWo w12 ((init ++ [(cur, CA, cc)]) ++ [([], none, 0)]) := fun y hy => by
                    rcases List.mem_append.1 hy with h | h
                    · exact hP y h
                    · simp only [List.mem_singleton] at h; subst h; exact Own.nil _ _ _
                  have hub12 : ∀ y ∈ (init ++ [(cur, CA, cc)]) ++ [(([], none, 0) : Pw)], ∀ b ∈ ob y.2.1, w.heap.size ≤ b := fun y hy => by
                    rcases List.mem_append.1 hy with h | h
                    · exact hubP y h
                    · simp only [List.mem_singleton] at h; subst h; simp [ob]
                  refine Ops.r (Run.asg rfl) rfl ?_
                  refine Ops.nil ?_
                  refine thenQ_n ⟨(init ++ [(cur, CA, cc)], [], none, 0, A12, c12), (.cons rfl (.cons (by rw [show ((init ++ [(cur, CA, cc)]) ++ [(([], none, 0) : Pw)]).length = (init ++ [(cur, CA, cc)]).length + 1 from List.length_append]; rfl) (.cons rfl (.cons rfl .nil)))), ?_⟩
                  exact ⟨by rw [List.map_append, List.append_assoc]; exact hs, by simp; omega, Nat.zero_le _, hO12, hP12, by simp [ob], K, up_app hubO hob12 sK, hub12⟩
                · skip
                  have hO := hO.frm hR (by simp)
                  have hP := hP.frm0 hR
                  have K := K.trans hR (by simp)
                  have hcell := hcw _ K
                  have hlol : (init ++ [(cur, CA, cc)]).length = init.length + 1 := by simp
                  rw [cut_no (fun h => hc4 ⟨⟨h.1.1, e44.2 h.1.2⟩, h.2⟩)] at hs
                  obtain ⟨adO, hOe, _⟩ := RW_at hO.rd (k := init.length) (by simp)
                  subst hOe
                  have hCur : Own wR 130 5 CA cur.length cc (SG cur) := hP (cur, CA, cc) (by simp)
                  have hIni : PWo wR init := fun y hy => hP y (by simp [hy])
                  have hubC : ∀ b ∈ ob CA, w.heap.size ≤ b := hubP (cur, CA, cc) (by simp)
                  have hA : ∀ b ∈ ob A, b < w.heap.size := fun b hb => hrd.lt (by omega) b hb
                  have hrow : ∀ W, Frm (ob CA) wR W → W.cell? (adO.add (init.length * 1)) = some (.slice CA cur.length cc) := fun W hW => by
                    obtain ⟨ad2, h2, hc2_⟩ := RW_at (hO.rd.frm hW (fun _ b hb h => hO.ne_own hCur (by decide) b hb h)) (k := init.length) (by simp)
                    cases h2
                    rw [show (init ++ [(cur, CA, cc)])[init.length]'(by simp) = (cur, CA, cc) from List.getElem_concat_length rfl _] at hc2_
                    exact hc2_
                  have hcwC : ∀ W, Frm (ob CA) wR W → ∀ j v, (SG1 x)[j]? = some v → W.cell? ((ad.add (i * 5)).add j) = some v := fun W hW j v hj => by
                    obtain ⟨ad2, h2, hc2_⟩ := SG_at ((hrd.frm K (by simp)).frm hW (fun _ b hb h => by have := hA b hb; have := hubC b h; omega)) hc1
                    cases hAe.symm.trans h2
                    exact hc2_ j v (by rw [hxe]; exact hj)
                  have hCur0 := hCur
                  refine VC.heldL 17 (fun W => Frm (ob CA) wR W) (by kernel_rfl) ?_
                  have hS : Frm (ob CA) wR wR.drew := (Frm.refl _ _).drew
                  have hCur := hCur.drawn (Drawn.drew _)
                  refine HOps.take 0 rfl (by kernel_rfl) (by kernel_rfl) (by kernel_rfl) hS (fun w0 hw0 => Run.mv rfl) trivial rfl rfl ?_
                  refine HOps.take 1 rfl (by kernel_rfl) (by kernel_rfl) (by kernel_rfl) hS (fun w0 hw0 => Run.mv rfl) trivial rfl rfl ?_
                  refine HOps.take 2 rfl (by kernel_rfl) (by kernel_rfl) (by kernel_rfl) hS (fun w0 hw0 => Run.lenS rfl Tryz.underlying125) trivial rfl rfl ?_
                  refine HOps.take 3 rfl (by kernel_rfl) (by kernel_rfl) (by kernel_rfl) hS (fun w0 hw0 => Run.bin rfl rfl (Bin.sub_i64 _ 1 (by omega) (by omega))) trivial rfl rfl ?_
                  rw [show (init ++ [(cur, CA, cc)]).length - 1 = init.length by omega]
                  refine HOps.take 4 rfl (by kernel_rfl) (by kernel_rfl) (by kernel_rfl) hS (fun w0 hw0 => Run.mv rfl) trivial rfl rfl ?_
                  refine HOps.take 5 rfl (by kernel_rfl) (by kernel_rfl) (by kernel_rfl) hS (fun w0 hw0 => Run.mv rfl) trivial rfl rfl ?_
                  refine HOps.take 6 rfl (by kernel_rfl) (by kernel_rfl) (by kernel_rfl) hS (fun w0 hw0 => Run.lenS rfl Tryz.underlying125) trivial rfl rfl ?_
                  refine HOps.take 7 rfl (by kernel_rfl) (by kernel_rfl) (by kernel_rfl) hS (fun w0 hw0 => Run.bin rfl rfl (Bin.sub_i64 _ 1 (by omega) (by omega))) trivial rfl rfl ?_
                  rw [show (init ++ [(cur, CA, cc)]).length - 1 = init.length by omega]
                  refine HOps.take 8 rfl (by kernel_rfl) (by kernel_rfl) (by kernel_rfl) hS (fun w0 hw0 => Run.indexS init.length rfl rfl Tryz.underlying125 Tryz.sizeOf127 (by simp)) trivial rfl rfl ?_
                  refine HOps.take 9 rfl (by kernel_rfl) (by kernel_rfl) (by kernel_rfl) hS (fun w0 hw0 => Run.load rfl Tryz.isAgg127 (hrow _ (by first | exact hw0 | exact hS))) trivial rfl rfl ?_
                  refine HOps.take 10 rfl (by kernel_rfl) (by kernel_rfl) (by kernel_rfl) hS (fun w0 hw0 => Run.mv rfl) trivial rfl rfl ?_
                  refine HOps.r1 11 rfl (by kernel_rfl) hS (Run.mv rfl) trivial rfl rfl ?_
                  refine HOps.r1 12 rfl (by kernel_rfl) hS (Run.indexS i (by rw [← hAe]; rfl) rfl Tryz.underlying127 Tryz.sizeOf130 hc1) trivial rfl rfl ?_
                  refine HOps.r1 13 rfl (by kernel_rfl) hS (Run.loadA rfl Tryz.isAgg130 Tryz.sizeOf130 (hcwC _ (by first | exact hw0 | exact hS)) (by first | rfl | (simp; done))) trivial rfl rfl ?_
                  refine HOps.m 14 rfl (by kernel_rfl) (Does.buildS1 rfl Tryz.underlying127 Tryz.sizeOf130 zero130 (by decide) (by decide) rfl rfl) trivial rfl rfl ?_
                  rintro _ w13 ⟨rfl, hF13⟩
                  have hr13 := hrdSg (x := x) hF13
                  have hS := hS.trans hF13.frm (by simp)
                  have hCur := hCur.frm hF13.frm (by simp)
                  refine ⟨hS, ?_⟩
                  refine HOps.m 15 rfl (by kernel_rfl) (Does.app rfl rfl Tryz.underlying127 (info130) rfl (by decide) hCur hr13 (SG_one _) (by omega) (by omega)) trivial rfl rfl ?_
                  rintro _ w14 ⟨A14, c14, rfl, hC14, f14, hob14⟩
                  have sz13 := (Frm.own K hS hubC).size
                  have hI13 := hIni.frm hS (fun y hy b hb => hdj y hy b hb)
                  have hI13l : ∀ y ∈ init, ∀ b ∈ ob y.2.1, b < w13.heap.size := fun y hy b hb => (hI13 y hy).lt b hb
                  have hS := hS.trans f14 (fun b h => .inl h)
                  have hO14 := hO.frm hS (fun b hb h => hO.ne_own hCur0 (by decide) b hb h)
                  have hI14 := hI13.frm f14 (fun y hy b hb => hdj y hy b hb)
                  have K14 := Frm.own K hS hubC
                  have hC14 : Own w14 130 5 A14 (cur ++ [x]).length c14 (SG (cur ++ [x])) := by rw [SG_append, List.length_append]; exact hC14
                  refine ⟨hS, ?_⟩
                  refine HOps.r1 16 rfl (by kernel_rfl) hS (Run.indexS init.length rfl rfl Tryz.underlying125 Tryz.sizeOf127 (by simp)) trivial rfl rfl ?_
                  refine HOps.stL rfl (by kernel_rfl) (Acts.storeOwn init.length (congrArg (fun n => some (Value.pointer (some (adO.add n)))) (Nat.mul_one init.length)) rfl Tryz.sizeOf127 hO14 rfl (by simp) rfl) trivial rfl ?_
                  rintro w15 ⟨hO15, f15, _⟩
                  have hC15 := hC14.frm f15 (fun b hb h => hC14.ne_own hO14 (by decide) b hb h)
                  have hI15 := hI14.own f15 hO14 (by decide)
                  have K15 := Frm.own K14 f15 hubO
                  have hO15 : Own w15 127 1 (some adO) (init ++ [((cur ++ [x], A14, c14) : Pw)]).length oc (RW (init ++ [(cur ++ [x], A14, c14)])) := by
                    rw [show (init ++ [((cur ++ [x], A14, c14) : Pw)]).length = (init ++ [(cur, CA, cc)]).length by simp, ← RW_set init (cur, CA, cc) (cur ++ [x], A14, c14)]
                    rw [show ((cur ++ [x]) : List Sg).length = cur.length + 1 from List.length_append]
                    exact hO15
                  have hdj15 : ∀ y ∈ init, ∀ b ∈ ob y.2.1, b ∉ ob A14 := fun y hy b hb h => by
                    rcases hob14 with e | e
                    · rw [e] at h; exact hdj y hy b hb h
                    · rw [e] at h; simp only [List.mem_singleton] at h; have := hI13l y hy b hb; omega
                  have hub15 : ∀ y ∈ init ++ [((cur ++ [x], A14, c14) : Pw)], ∀ b ∈ ob y.2.1, w.heap.size ≤ b := fun y hy => by
                    rcases List.mem_append.1 hy with h | h
                    · exact hubP y (by simp [h])
                    · simp only [List.mem_singleton] at h; subst h; exact up_app hubC hob14 sz13
                  refine HOps.done (by kernel_rfl) ?_
                  refine thenQ_n ⟨(init, cur ++ [x], A14, c14, some adO, oc), (.cons rfl (.cons (by rw [show (init ++ [((cur ++ [x], A14, c14) : Pw)]).length = (init ++ [(cur, CA, cc)]).length by simp]; rfl) (.cons rfl (.cons rfl .nil)))), ?_⟩
                  exact ⟨hs, by dsimp only; omega, by simp; omega, hO15, (fun y hy => by
                    rcases List.mem_append.1 hy with h | h
                    · exact hI15 y h
                    · simp only [List.mem_singleton] at h; subst h; exact hC15), hdj15, K15, hubO, hub15⟩
              · skip
                rintro ⟨init2, cur2, CA2, cc2, OA2, oc2⟩ wq ⟨hs2, hil2, hcl2, hO2, hP2, hdj2, K2, hubO2, hubP2⟩ Γ hΓ
                dsimp only at hs2 hil2 hcl2 hO2 hP2 hdj2 hubO2 hubP2
                refine blockQ_n (thenQ_n (VC.sub _ hΓ ?_))
                refine VC.region ?_
                refine Ops.r (Run.mv rfl) rfl ?_
                refine Ops.r (Run.bin rfl rfl (Bin.add_i64 _ 1 (by omega))) rfl ?_
                refine Ops.r (Run.asg rfl) rfl ?_
                refine Ops.nil ?_
                refine thenQ_n ⟨(i + 1, angS x ang, init2, cur2, CA2, cc2, OA2, oc2), (.cons rfl (.cons rfl (.cons rfl (.cons rfl .nil)))), ?_, ?_⟩
                · skip
                  exact ⟨hc1, hs2, hil2, hcl2, hO2, hP2, hdj2, K2, hubO2, hubP2⟩
                · skip
                  first | omega | (dsimp only; omega)
  · skip
    rw [List.drop_of_length_le (by omega)] at hs
    have hs : (init ++ [(cur, CA, cc)]).map (·.1) = cutS false [] l := by rw [← hs, List.map_append]; rfl
    refine VC.exit ?_
    refine thenQ_x (thenQ_x (blockQ_x ?_))
    refine thenQ_n ?_
    refine VC.sub [(3, _)] (.cons rfl .nil) ?_
    refine VC.seq ?_
    refine VC.region ?_
    refine Ops.r (Run.mv rfl) rfl ?_
    refine Ops.r (Run.asg rfl) rfl ?_
    refine Ops.nil ?_
    refine thenQ_n ?_
    refine VC.sub [(2, _)] (.cons rfl .nil) ?_
    refine VC.ret ?_
    refine end1 rfl ?_
    exact ⟨K, _, OA, oc, hs, rfl, hO, hP⟩

end Go.Proofs.YtenbjndldenkfaaGreatDoor

namespace Go.Proofs.YtenbjndldenkfaaGreatDoor
open Go.RowKit Go.Sort

set_option maxRecDepth 100000 in
set_option maxHeartbeats 1600000 in
theorem rremark_spec (A : Option Addr) (c : Nat) (l : List Sg) (w : World) (hrd : Rd w 5 A l.length (SG l)) (hl : l.length ≤ 1000000) : Calls Tryz.prog 101 #[.slice A l.length c] w fun e w' => e = .returned (encStr (trimQ (remS false [] l))) ∧ Frm [] w w' := by
  have K := Frm.refl [] w
  refine VC.calls (nt := 79) (res := #[.tmp 2]) Tryz.func101 rfl Tryz.ntmps101 Tryz.results101 rfl ?_
  refine VC.seq ?_
  refine VC.region ?_
  refine Ops.r (Run.asg rfl) rfl ?_
  refine Ops.nil ?_
  refine thenQ_n ?_
  refine VC.sub [(0, _)] (.cons rfl .nil) ?_
  refine VC.seq ?_
  refine VC.region ?_
  refine Ops.r (Run.asg rfl) rfl ?_
  refine Ops.nil ?_
  refine thenQ_n ?_
  refine VC.seq ?_
  refine VC.region ?_
  refine Ops.r (Run.asg rfl) rfl ?_
  refine Ops.nil ?_
  refine thenQ_n ?_
  refine VC.seq ?_
  refine VC.seq ?_
  refine VC.region ?_
  refine Ops.r (v := .int .i64 ((0 : Nat) : Int)) (Run.asg rfl) rfl ?_
  refine Ops.nil ?_
  refine thenQ_n ?_
  refine VC.meet (σ := Unit) (fun s => [(3, encStr (remS false [] l))]) (fun s wr => Frm [] w wr) ?_ ?_
  · skip
    refine VC.block ?_
    refine VC.loop (σ := Nat × Bool × Tx) (fun s => [(0, .slice A l.length c), (3, encStr s.2.2), (4, .bool s.2.1), (5, .int .i64 ((s.1 : Nat) : Int))]) (fun s wr => s.1 ≤ l.length ∧ remS s.2.1 s.2.2 (l.drop s.1) = remS false [] l ∧ s.2.2.length ≤ s.1 ∧ Frm [] w wr) (fun s => l.length - s.1) (0, false, []) (.cons rfl (.cons rfl (.cons rfl (.cons rfl .nil)))) ⟨Nat.zero_le _, rfl, Nat.le_refl _, K⟩ ?_
    rintro ⟨i, inn, t⟩ wr ⟨hi, hs, ht, K⟩
    dsimp only at hi hs ht ⊢
    refine VC.seq ?_
    refine VC.seq ?_
    refine VC.region ?_
    refine Ops.r (Run.mv rfl) rfl ?_
    refine Ops.r (Run.mv rfl) rfl ?_
    refine Ops.r (Run.lenS rfl Tryz.underlying127) rfl ?_
    refine Ops.r (Run.bin rfl rfl (Bin.lssN _ _)) rfl ?_
    refine Ops.nil ?_
    refine thenQ_n ?_
    refine VC.sub [(0, _), (3, _), (4, _), (5, _), (9, _)] (.cons rfl (.cons rfl (.cons rfl (.cons rfl (.cons rfl .nil))))) ?_
    refine VC.condD rfl (fun hc1 => ?_) (fun hc1 => ?_)
    · skip
      obtain ⟨ad, hAe, hcell⟩ := SG_at (hrd.frm K (by simp)) hc1
      have hcw : ∀ W, Frm [] w W → ∀ j v, (SG1 l[i])[j]? = some v → W.cell? ((ad.add (i * 5)).add j) = some v := fun W hW => by
        obtain ⟨ad2, h2, hc2⟩ := SG_at (hrd.frm hW (by simp)) hc1
        cases hAe.symm.trans h2
        exact hc2
      have hdl := List.drop_eq_getElem_cons hc1
      rw [hdl] at hs
      generalize l[i] = x at *
      refine VC.skip ?_
      refine thenQ_n ?_
      refine VC.sub [(0, _), (3, _), (4, _), (5, _)] (.cons rfl (.cons rfl (.cons rfl (.cons rfl .nil)))) ?_
      refine VC.seq ?_
      refine VC.meet (σ := Bool × Tx) (fun s => [(0, .slice A l.length c), (3, encStr s.2), (4, .bool s.1), (5, .int .i64 ((i : Nat) : Int))]) (fun s wr => remS s.1 s.2 (l.drop (i + 1)) = remS false [] l ∧ s.2.length ≤ i + 1 ∧ Frm [] w wr) ?_ ?_
      · skip
        refine VC.block ?_
        refine VC.seq ?_
        refine VC.seq ?_
        refine VC.region ?_
        refine Ops.r (Run.mv rfl) rfl ?_
        refine Ops.r (Run.mv rfl) rfl ?_
        refine Ops.r (Run.indexS i (by rw [← hAe]; rfl) rfl Tryz.underlying127 Tryz.sizeOf130 hc1) rfl ?_
        refine Ops.r (Run.fieldAddr rfl Tryz.underlying130 rfl Tryz.sizeOf4 (by decide)) rfl ?_
        refine Ops.r (Run.load rfl Tryz.isAgg4 (hcell 3 _ rfl)) rfl ?_
        refine Ops.nil ?_
        refine thenQ_n ?_
        refine VC.sub [(0, _), (3, _), (4, _), (5, _), (16, _)] (.cons rfl (.cons rfl (.cons rfl (.cons rfl (.cons rfl .nil))))) ?_
        refine VC.condB rfl (fun hc2 => ?_) (fun hc2 => ?_)
        · skip
          rw [rem_op hc2] at hs
          refine VC.seq ?_
          refine VC.region ?_
          refine Ops.r (Run.asg rfl) rfl ?_
          refine Ops.nil ?_
          refine thenQ_n ?_
          refine VC.sub [(0, _), (3, _), (4, _), (5, _)] (.cons rfl (.cons rfl (.cons rfl (.cons rfl .nil)))) ?_
          refine VC.exit ?_
          refine thenQ_x (blockQ_x ?_)
          refine thenQ_n ⟨(true, t), (.cons rfl (.cons rfl (.cons rfl (.cons rfl .nil)))), ?_⟩
          exact ⟨hs, by dsimp only; omega, K⟩
        · skip
          refine VC.skip ?_
          refine thenQ_n ?_
          refine VC.sub [(0, _), (3, _), (4, _), (5, _)] (.cons rfl (.cons rfl (.cons rfl (.cons rfl .nil)))) ?_
          refine VC.seq ?_
          refine VC.seq ?_
          refine VC.region ?_
          refine Ops.r (Run.mv rfl) rfl ?_
          refine Ops.r (Run.mv rfl) rfl ?_
          refine Ops.r (Run.indexS i (by rw [← hAe]; rfl) rfl Tryz.underlying127 Tryz.sizeOf130 hc1) rfl ?_
          refine Ops.r (Run.fieldAddr rfl Tryz.underlying130 rfl Tryz.sizeOf4 (by decide)) rfl ?_
          refine Ops.r (Run.load rfl Tryz.isAgg4 (hcell 4 _ rfl)) rfl ?_
          refine Ops.nil ?_
          refine thenQ_n ?_
          refine VC.sub [(0, _), (3, _), (4, _), (5, _), (21, _)] (.cons rfl (.cons rfl (.cons rfl (.cons rfl (.cons rfl .nil))))) ?_
          refine VC.condB rfl (fun hc3 => ?_) (fun hc3 => ?_)
          · skip
            refine VC.exit ?_
            refine thenQ_x (blockQ_o rfl (thenQ_x (thenQ_x (thenQ_x (blockQ_x ?_)))))
            refine thenQ_n ⟨(), (.cons (by rw [← hs, rem_sh (by simpa using hc2) hc3]; rfl) .nil), ?_⟩
            exact K
          · skip
            rw [rem_on (by simpa using hc2) (by simpa using hc3)] at hs
            refine VC.skip ?_
            refine thenQ_n ?_
            refine VC.sub [(0, _), (3, _), (4, _), (5, _)] (.cons rfl (.cons rfl (.cons rfl (.cons rfl .nil)))) ?_
            refine VC.seq ?_
            refine VC.split1 [(0, _), (3, _), (4, _), (5, _)] (.cons rfl (.cons rfl (.cons rfl (.cons rfl .nil)))) 29 (.bool (decide (inn = true ∧ x.r = true))) ?_ ?_
            · refine VC.region ?_
              refine Ops.r (Run.mv rfl) rfl ?_
              by_cases hs22 : inn = true
              · skip
                refine Ops.r (Run.mv rfl) rfl ?_
                refine Ops.rg rfl au (Run.mv rfl) rfl ?_
                refine Ops.rg rfl au (Run.mv rfl) rfl ?_
                refine Ops.rg rfl au (Run.indexS i (by rw [← hAe]; rfl) rfl Tryz.underlying127 Tryz.sizeOf130 hc1) rfl ?_
                refine Ops.rg rfl au (Run.fieldAddr rfl Tryz.underlying130 rfl Tryz.sizeOf4 (by decide)) rfl ?_
                refine Ops.rg rfl au (Run.load rfl Tryz.isAgg4 (hcell 2 _ rfl)) rfl ?_
                by_cases hs28 : x.r = true
                · skip
                  refine Ops.r (Run.pickT rfl rfl au) rfl ?_
                  refine Ops.nil ?_
                  refine thenQ_n ⟨(.cons (congrArg (fun b => some (Value.bool b)) (by simp [*])) (.cons rfl (.cons rfl (.cons rfl (.cons rfl .nil))))), rfl⟩
                · skip
                  refine Ops.r (Run.pickT rfl rfl au) rfl ?_
                  refine Ops.nil ?_
                  refine thenQ_n ⟨(.cons (congrArg (fun b => some (Value.bool b)) (by simp [*])) (.cons rfl (.cons rfl (.cons rfl (.cons rfl .nil))))), rfl⟩
              · skip
                refine Ops.r (Run.mv rfl) rfl ?_
                refine Ops.sk rfl au rfl ?_
                refine Ops.sk rfl au rfl ?_
                refine Ops.sk rfl au rfl ?_
                refine Ops.sk rfl au rfl ?_
                refine Ops.sk rfl au rfl ?_
                refine Ops.r (Run.pickF rfl rfl au) rfl ?_
                refine Ops.nil ?_
                refine thenQ_n ⟨(.cons (congrArg (fun b => some (Value.bool b)) (by simp [*])) (.cons rfl (.cons rfl (.cons rfl (.cons rfl .nil))))), rfl⟩
            · intro Γ hΓ
              refine thenQ_n (VC.sub _ hΓ ?_)
              refine VC.condD rfl (fun hc4 => ?_) (fun hc4 => ?_)
              · skip
                rw [if_pos hc4] at hs
                refine VC.region ?_
                refine Ops.r (Run.mv rfl) rfl ?_
                refine Ops.r (Run.mv rfl) rfl ?_
                refine Ops.r (Run.mv rfl) rfl ?_
                refine Ops.r (Run.indexS i (by rw [← hAe]; rfl) rfl Tryz.underlying127 Tryz.sizeOf130 hc1) rfl ?_
                refine Ops.r (Run.fieldAddr rfl Tryz.underlying130 rfl Tryz.sizeOf5 (by decide)) rfl ?_
                refine Ops.r (Run.load rfl Tryz.isAgg5 (hcell 0 _ rfl)) rfl ?_
                refine Ops.m (Does.buildS1 rfl Tryz.underlying22 Tryz.sizeOf5 zero5 (by decide) (by decide) rfl rfl) rfl ?_
                rintro _ w7 ⟨rfl, hF7⟩
                have hr36 : Rd w7 1 (some ⟨_, 0, none⟩) 1 (U8 [x.c]) := Rd.of_blk (n := 1) (size := 1) hF7.blk rfl
                have K := K.trans hF7.frm (by simp)
                refine Ops.r (Run.strOfT rfl Tryz.underlying22 Tryz.underlying5 Tryz.underlying9 hr36) rfl ?_
                refine Ops.r (Run.addT rfl rfl (by simp; omega)) rfl ?_
                refine Ops.r (Run.asg rfl) rfl ?_
                refine Ops.nil ?_
                refine blockQ_n (thenQ_n ⟨(inn, t ++ [x.c]), (.cons rfl (.cons rfl (.cons rfl (.cons rfl .nil)))), ?_⟩)
                exact ⟨hs, by simp; omega, K⟩
              · skip
                rw [if_neg hc4] at hs
                refine VC.skip ?_
                refine blockQ_n (thenQ_n ⟨(inn, t), (.cons rfl (.cons rfl (.cons rfl (.cons rfl .nil)))), ?_⟩)
                exact ⟨hs, by dsimp only; omega, K⟩
      · skip
        rintro ⟨in2, t2⟩ wr2 ⟨hs2, ht2, K2⟩ Γ hΓ
        dsimp only at hs2 ht2
        refine thenQ_n (VC.sub _ hΓ ?_)
        refine VC.region ?_
        refine Ops.r (Run.mv rfl) rfl ?_
        refine Ops.r (Run.bin rfl rfl (Bin.add_i64 _ 1 (by omega))) rfl ?_
        refine Ops.r (Run.asg rfl) rfl ?_
        refine Ops.nil ?_
        refine thenQ_n ⟨(i + 1, in2, t2), (.cons rfl (.cons rfl (.cons rfl (.cons rfl .nil)))), ?_, ?_⟩
        · skip
          exact ⟨hc1, hs2, ht2, K2⟩
        · skip
          first | omega | (dsimp only; omega)
    · skip
      rw [List.drop_of_length_le (by omega)] at hs
      have hs : t = remS false [] l := hs
      refine VC.exit ?_
      refine thenQ_x (thenQ_x (blockQ_x ?_))
      refine thenQ_n ⟨(), (.cons (by rw [← hs]; rfl) .nil), ?_⟩
      exact K
  · skip
    rintro _ WW K Γ hΓ
    have hrl := remS_len l false []
    generalize remS false [] l = q at *
    simp only [List.length_nil, Nat.zero_add] at hrl
    refine thenQ_n (VC.sub _ hΓ ?_)
    refine VC.seq ?_
    refine VC.block ?_
    refine VC.loop (σ := Tx) (fun s => [(3, encStr s)]) (fun s wr => WW = wr ∧ s.length ≤ q.length ∧ leftB s = leftB q) (fun s => s.length) q (.cons rfl .nil) ⟨rfl, Nat.le_refl _, rfl⟩ ?_
    rintro t _ ⟨rfl, htl, ht⟩
    have hg0 : 0 < t.length → t[0]? = some (hdA t 0) := hdA_at
    refine VC.seq ?_
    refine VC.seq ?_
    refine VC.split1 [(3, _)] (.cons rfl .nil) 51 (.bool (decide (0 < t.length ∧ ((hdA t 0).toNat = 32 ∨ (hdA t 0).toNat = 9)))) ?_ ?_
    · refine VC.region ?_
      refine Ops.r (Run.mv rfl) rfl ?_
      refine Ops.r (Run.lenT rfl Tryz.underlying9) rfl ?_
      refine Ops.r (Run.bin rfl rfl (Bin.gtrN _ 0)) rfl ?_
      by_cases hs41 : 0 < t.length
      · skip
        refine Ops.r (Run.mv rfl) rfl ?_
        refine Ops.rg rfl au (Run.mv rfl) rfl ?_
        refine Ops.rg rfl au (Run.indexT 0 rfl rfl Tryz.underlying9 (hg0 hs41)) rfl ?_
        refine Ops.rg rfl au (Run.bin rfl rfl (Bin.eqlN _ 32)) rfl ?_
        by_cases hs45 : (hdA t 0).toNat = 32
        · skip
          refine Ops.rg rfl au (Run.mv rfl) rfl ?_
          refine Ops.sk rfl au rfl ?_
          refine Ops.sk rfl au rfl ?_
          refine Ops.sk rfl au rfl ?_
          refine Ops.rg rfl au (Run.pickT rfl rfl au) rfl ?_
          refine Ops.r (Run.pickT rfl rfl au) rfl ?_
          refine Ops.nil ?_
          refine thenQ_n ⟨(.cons (congrArg (fun b => some (Value.bool b)) (by simp [*])) (.cons rfl .nil)), rfl⟩
        · skip
          refine Ops.rg rfl au (Run.mv rfl) rfl ?_
          refine Ops.rg rfl au (Run.mv rfl) rfl ?_
          refine Ops.rg rfl au (Run.indexT 0 rfl rfl Tryz.underlying9 (hg0 hs41)) rfl ?_
          refine Ops.rg rfl au (Run.bin rfl rfl (Bin.eqlN _ 9)) rfl ?_
          by_cases hs49 : (hdA t 0).toNat = 9
          · skip
            refine Ops.rg rfl au (Run.pickF rfl rfl au) rfl ?_
            refine Ops.r (Run.pickT rfl rfl au) rfl ?_
            refine Ops.nil ?_
            refine thenQ_n ⟨(.cons (congrArg (fun b => some (Value.bool b)) (by simp [*])) (.cons rfl .nil)), rfl⟩
          · skip
            refine Ops.rg rfl au (Run.pickF rfl rfl au) rfl ?_
            refine Ops.r (Run.pickT rfl rfl au) rfl ?_
            refine Ops.nil ?_
            refine thenQ_n ⟨(.cons (congrArg (fun b => some (Value.bool b)) (by simp [*])) (.cons rfl .nil)), rfl⟩
      · skip
        refine Ops.r (Run.mv rfl) rfl ?_
        refine Ops.sk rfl au rfl ?_
        refine Ops.sk rfl au rfl ?_
        refine Ops.sk rfl au rfl ?_
        refine Ops.sk rfl au rfl ?_
        refine Ops.skU rfl rfl ?_
        refine Ops.skU rfl rfl ?_
        refine Ops.skU rfl rfl ?_
        refine Ops.sk rfl au rfl ?_
        refine Ops.r (Run.pickF rfl rfl au) rfl ?_
        refine Ops.nil ?_
        refine thenQ_n ⟨(.cons (congrArg (fun b => some (Value.bool b)) (by simp [*])) (.cons rfl .nil)), rfl⟩
    · intro Γ hΓ
      refine thenQ_n (VC.sub _ hΓ ?_)
      refine VC.condD rfl (fun hc5 => ?_) (fun hc5 => ?_)
      · skip
        have hd0 := hdA_drop hc5.1
        rw [List.drop_zero] at hd0
        rw [hd0, leftB_on (hc5.2.imp (u8n (x := 32) rfl).1 (u8n (x := 9) rfl).1)] at ht
        refine VC.skip ?_
        refine thenQ_n ?_
        refine VC.sub [(3, _)] (.cons rfl .nil) ?_
        refine VC.block ?_
        refine VC.region ?_
        refine Ops.r (Run.mv rfl) rfl ?_
        refine Ops.r (Run.sliceT 1 t.length rfl Tryz.underlying9 (evB.some_ rfl) evB.none_ (by omega) (by omega)) rfl ?_
        rw [show (t.drop 1).take (t.length - 1) = t.drop 1 from List.take_of_length_le (by simp)]
        refine Ops.r (Run.asg rfl) rfl ?_
        refine Ops.nil ?_
        refine blockQ_n (thenQ_n ⟨(t.drop 1), (.cons rfl .nil), ?_, ?_⟩)
        · skip
          exact ⟨rfl, by simp; omega, ht⟩
        · skip
          have := hc5.1; simp; omega
      · skip
        have hlt : leftB t = t := by
          cases t with
          | nil => rfl
          | cons x r => exact leftB_off (fun h => hc5 ⟨by simp, h.imp (u8n (x := 32) rfl).2 (u8n (x := 9) rfl).2⟩)
        rw [hlt] at ht
        have htq : rightB t = trimQ q := by rw [ht]; exact trim_comm q
        refine VC.exit ?_
        refine thenQ_x (thenQ_x (blockQ_x ?_))
        refine thenQ_n ?_
        refine VC.sub [(3, _)] (.cons rfl .nil) ?_
        refine VC.seq ?_
        refine VC.block ?_
        refine VC.loop (σ := Tx) (fun s => [(3, encStr s)]) (fun s wr => WW = wr ∧ s.length ≤ q.length ∧ rightB s = trimQ q) (fun s => s.length) t (.cons rfl .nil) ⟨rfl, htl, htq⟩ ?_
        rintro u _ ⟨rfl, hul, hu⟩
        have hgl : 0 < u.length → u[u.length - 1]? = some (hdA u (u.length - 1)) := fun h => hdA_at (by omega)
        refine VC.seq ?_
        refine VC.seq ?_
        refine VC.split1 [(3, _)] (.cons rfl .nil) 72 (.bool (decide (0 < u.length ∧ ((hdA u (u.length - 1)).toNat = 32 ∨ (hdA u (u.length - 1)).toNat = 9)))) ?_ ?_
        · refine VC.region ?_
          refine Ops.r (Run.mv rfl) rfl ?_
          refine Ops.r (Run.lenT rfl Tryz.underlying9) rfl ?_
          refine Ops.r (Run.bin rfl rfl (Bin.gtrN _ 0)) rfl ?_
          by_cases hs56 : 0 < u.length
          · skip
            refine Ops.r (Run.mv rfl) rfl ?_
            refine Ops.rg rfl au (Run.mv rfl) rfl ?_
            refine Ops.rg rfl au (Run.mv rfl) rfl ?_
            refine Ops.rg rfl au (Run.lenT rfl Tryz.underlying9) rfl ?_
            refine Ops.rg rfl au (Run.bin rfl rfl (Bin.sub_i64 _ 1 (by omega) (by omega))) rfl ?_
            refine Ops.rg rfl au (Run.indexT _ rfl rfl Tryz.underlying9 (hgl hs56)) rfl ?_
            refine Ops.rg rfl au (Run.bin rfl rfl (Bin.eqlN _ 32)) rfl ?_
            by_cases hs63 : (hdA u (u.length - 1)).toNat = 32
            · skip
              refine Ops.rg rfl au (Run.mv rfl) rfl ?_
              refine Ops.sk rfl au rfl ?_
              refine Ops.sk rfl au rfl ?_
              refine Ops.sk rfl au rfl ?_
              refine Ops.sk rfl au rfl ?_
              refine Ops.sk rfl au rfl ?_
              refine Ops.sk rfl au rfl ?_
              refine Ops.rg rfl au (Run.pickT rfl rfl au) rfl ?_
              refine Ops.r (Run.pickT rfl rfl au) rfl ?_
              refine Ops.nil ?_
              refine thenQ_n ⟨(.cons (congrArg (fun b => some (Value.bool b)) (by simp [*])) (.cons rfl .nil)), rfl⟩
            · skip
              refine Ops.rg rfl au (Run.mv rfl) rfl ?_
              refine Ops.rg rfl au (Run.mv rfl) rfl ?_
              refine Ops.rg rfl au (Run.mv rfl) rfl ?_
              refine Ops.rg rfl au (Run.lenT rfl Tryz.underlying9) rfl ?_
              refine Ops.rg rfl au (Run.bin rfl rfl (Bin.sub_i64 _ 1 (by omega) (by omega))) rfl ?_
              refine Ops.rg rfl au (Run.indexT _ rfl rfl Tryz.underlying9 (hgl hs56)) rfl ?_
              refine Ops.rg rfl au (Run.bin rfl rfl (Bin.eqlN _ 9)) rfl ?_
              by_cases hs70 : (hdA u (u.length - 1)).toNat = 9
              · skip
                refine Ops.rg rfl au (Run.pickF rfl rfl au) rfl ?_
                refine Ops.r (Run.pickT rfl rfl au) rfl ?_
                refine Ops.nil ?_
                refine thenQ_n ⟨(.cons (congrArg (fun b => some (Value.bool b)) (by simp [*])) (.cons rfl .nil)), rfl⟩
              · skip
                refine Ops.rg rfl au (Run.pickF rfl rfl au) rfl ?_
                refine Ops.r (Run.pickT rfl rfl au) rfl ?_
                refine Ops.nil ?_
                refine thenQ_n ⟨(.cons (congrArg (fun b => some (Value.bool b)) (by simp [*])) (.cons rfl .nil)), rfl⟩
          · skip
            refine Ops.r (Run.mv rfl) rfl ?_
            refine Ops.sk rfl au rfl ?_
            refine Ops.sk rfl au rfl ?_
            refine Ops.sk rfl au rfl ?_
            refine Ops.sk rfl au rfl ?_
            refine Ops.sk rfl au rfl ?_
            refine Ops.sk rfl au rfl ?_
            refine Ops.sk rfl au rfl ?_
            refine Ops.skU rfl rfl ?_
            refine Ops.skU rfl rfl ?_
            refine Ops.skU rfl rfl ?_
            refine Ops.skU rfl rfl ?_
            refine Ops.skU rfl rfl ?_
            refine Ops.skU rfl rfl ?_
            refine Ops.sk rfl au rfl ?_
            refine Ops.r (Run.pickF rfl rfl au) rfl ?_
            refine Ops.nil ?_
            refine thenQ_n ⟨(.cons (congrArg (fun b => some (Value.bool b)) (by simp [*])) (.cons rfl .nil)), rfl⟩
        · intro Γ hΓ
          refine thenQ_n (VC.sub _ hΓ ?_)
          refine VC.condD rfl (fun hc6 => ?_) (fun hc6 => ?_)
          · skip
            obtain ⟨v, x, hv, hx, hvt⟩ := last_at hc6.1
            have hbx : Bl x := by
              have h1 := hgl hc6.1
              rw [hx] at h1
              rw [Option.some.inj h1]
              exact hc6.2.imp (u8n (x := 32) rfl).1 (u8n (x := 9) rfl).1
            have hvl : v.length + 1 = u.length := by rw [hv]; simp
            have hrv : rightB v = trimQ q := by rw [← hu, hv, rightB_on hbx]
            refine VC.skip ?_
            refine thenQ_n ?_
            refine VC.sub [(3, _)] (.cons rfl .nil) ?_
            refine VC.block ?_
            refine VC.region ?_
            refine Ops.r (Run.mv rfl) rfl ?_
            refine Ops.r (Run.mv rfl) rfl ?_
            refine Ops.r (Run.lenT rfl Tryz.underlying9) rfl ?_
            refine Ops.r (Run.bin rfl rfl (Bin.sub_i64 _ 1 (by omega) (by omega))) rfl ?_
            refine Ops.r (Run.sliceT 0 (u.length - 1) rfl Tryz.underlying9 evB.none_ (evB.some_ rfl) (by omega) (by omega)) rfl ?_
            rw [show (u.drop 0).take (u.length - 1 - 0) = v by rw [hvt]; rfl]
            refine Ops.r (Run.asg rfl) rfl ?_
            refine Ops.nil ?_
            refine blockQ_n (thenQ_n ⟨v, (.cons rfl .nil), ?_, ?_⟩)
            · skip
              exact ⟨rfl, by omega, hrv⟩
            · skip
              omega
          · skip
            have hru : rightB u = u := by
              by_cases h0 : 0 < u.length
              · obtain ⟨v, x, hv, hx, hvt⟩ := last_at h0
                have hnx : ¬ Bl x := fun h => hc6 ⟨h0, by
                  have h1 := hgl h0
                  rw [hx] at h1
                  rw [← Option.some.inj h1]
                  exact h.imp (u8n (x := 32) rfl).2 (u8n (x := 9) rfl).2⟩
                rw [hv]
                exact rightB_off hnx
              · rw [List.length_eq_zero_iff.1 (show u.length = 0 by omega)]
                rfl
            rw [hru] at hu
            refine VC.exit ?_
            refine thenQ_x (thenQ_x (blockQ_x ?_))
            refine thenQ_n ?_
            refine VC.sub [(3, _)] (.cons rfl .nil) ?_
            refine VC.seq ?_
            refine VC.region ?_
            refine Ops.r (Run.mv rfl) rfl ?_
            refine Ops.r (Run.asg rfl) rfl ?_
            refine Ops.nil ?_
            refine thenQ_n ?_
            refine VC.sub [(2, _)] (.cons rfl .nil) ?_
            refine VC.ret ?_
            refine end1 rfl ?_
            exact ⟨by rw [hu], K⟩

end Go.Proofs.YtenbjndldenkfaaGreatDoor

namespace Go.Proofs.YtenbjndldenkfaaGreatDoor
open Go.RowKit Go.Sort

theorem fS_snoc (x : UInt8) : ∀ (l : List Sg) (y : Sg) (k : Nat), fS x (l ++ [y]) k = if 0 ≤ fS x l k then fS x l k else if y.Pl ∧ y.c = x then ((k + l.length : Nat) : Int) else -1
  | [], y, k => by
    show fS x [y] k = _
    simp [fS]
  | z :: l, y, k => by
    show fS x (z :: (l ++ [y])) k = _
    rw [fS, fS, fS_snoc x l y (k + 1)]
    by_cases h : z.Pl ∧ z.c = x
    · rw [if_pos h, if_pos h, if_pos (by omega)]
    · rw [if_neg h, if_neg h, List.length_cons, show k + 1 + l.length = k + (l.length + 1) by omega]
theorem fS_res (x : UInt8) : ∀ (l : List Sg) (k : Nat), fS x l k = -1 ∨ ∃ i : Nat, i < l.length ∧ fS x l k = ((k + i : Nat) : Int)
  | [], _ => .inl rfl
  | y :: r, k => by
    unfold fS
    split
    · exact .inr ⟨0, by simp, by simp⟩
    · rcases fS_res x r (k + 1) with h | ⟨i, h1, h2⟩
      · exact .inl h
      · exact .inr ⟨i + 1, by simp; omega, by rw [h2]; congr 1; omega⟩
/-- Where angles end, as far as one has looked. -/
def toK (p : List Sg) (k : Nat) : Nat :=
  if fS 60 (p.take k) 0 < 0 then p.length else if fS 62 ((p.take k).drop ((fS 60 (p.take k) 0).toNat + 1)) ((fS 60 (p.take k) 0).toNat + 1) < 0 then p.length
  else (fS 62 ((p.take k).drop ((fS 60 (p.take k) 0).toNat + 1)) ((fS 60 (p.take k) 0).toNat + 1)).toNat
theorem toK_f {p : List Sg} {k i : Nat} (h : fS 60 (p.take k) 0 = (i : Int)) : toK p k = if fS 62 ((p.take k).drop (i + 1)) (i + 1) < 0 then p.length else (fS 62 ((p.take k).drop (i + 1)) (i + 1)).toNat := by
  unfold toK
  rw [h, if_neg (by omega), Int.toNat_natCast]
theorem toK_all (p : List Sg) (h : 0 ≤ fS 60 p 0) : toK p p.length = toS p (fS 60 p 0).toNat := by
  unfold toK toS
  rw [List.take_length, if_neg (by omega)]
theorem toS_in (p : List Sg) (h : 0 ≤ fS 60 p 0) : (fS 60 p 0).toNat + 1 ≤ toS p (fS 60 p 0).toNat ∧ toS p (fS 60 p 0).toNat ≤ p.length := by
  rcases fS_res 60 p 0 with h1 | ⟨i, h1, h2⟩
  · omega
  · rw [h2, Nat.zero_add, Int.toNat_natCast]
    unfold toS
    rcases fS_res 62 (p.drop (i + 1)) (i + 1) with g1 | ⟨j, g1, g2⟩
    · rw [g1, if_pos (by omega)]; omega
    · rw [g2, if_neg (by omega), Int.toNat_natCast]
      rw [List.length_drop] at g1
      omega
theorem step_f {p : List Sg} {k : Nat} {y : Sg} (hy : p[k]? = some y) : fS 60 (p.take (k + 1)) 0 = if (y.Pl ∧ y.c = 60) ∧ fS 60 (p.take k) 0 < 0 then (k : Int) else fS 60 (p.take k) 0 := by
  have hk := (List.getElem?_eq_some_iff.1 hy).1
  rw [List.take_add_one, hy, Option.toList_some, fS_snoc, List.length_take, Nat.zero_add, Nat.min_eq_left (by omega)]
  rcases fS_res 60 (p.take k) 0 with h | ⟨i, _, h⟩
  · rw [h, if_neg (by omega)]
    by_cases hc : y.Pl ∧ y.c = 60
    · rw [if_pos hc, if_pos ⟨hc, by omega⟩]
    · rw [if_neg hc, if_neg (fun hh => hc hh.1)]
  · rw [h, if_pos (by omega), if_neg (fun hh => by have := hh.2; omega)]
theorem step_t {p : List Sg} {k : Nat} {y : Sg} (hy : p[k]? = some y) : toK p (k + 1) = if ((y.Pl ∧ y.c = 62) ∧ 0 ≤ fS 60 (p.take (k + 1)) 0) ∧ toK p k = p.length then k else toK p k := by
  have hk := (List.getElem?_eq_some_iff.1 hy).1
  have hf := step_f hy
  have htk : p.take (k + 1) = p.take k ++ [y] := by rw [List.take_add_one, hy, Option.toList_some]
  have hlk : (p.take k).length = k := by rw [List.length_take]; omega
  rcases fS_res 60 (p.take k) 0 with h | ⟨i, hi, h⟩
  · have h0 : toK p k = p.length := by unfold toK; rw [h, if_pos (by omega)]
    rw [h0]
    by_cases hc : y.Pl ∧ y.c = 60
    · rw [if_pos ⟨hc, by omega⟩] at hf
      rw [if_neg (fun hh => absurd (hh.1.1.2.symm.trans hc.2) (by decide))]
      unfold toK
      rw [hf, if_neg (by omega), Int.toNat_natCast, List.drop_of_length_le (by rw [htk, List.length_append, hlk]; exact Nat.le_refl _)]
      exact if_pos (by show (-1 : Int) < 0; omega)
    · rw [if_neg (fun hh => hc hh.1), h] at hf
      rw [if_neg (fun hh => by have := hh.1.2; omega)]
      unfold toK
      rw [hf, if_pos (by omega)]
  · rw [if_neg (fun hh => by have := hh.2; omega), h] at hf
    rw [Nat.zero_add] at h hf
    rw [hlk] at hi
    have hd : (p.take (k + 1)).drop (i + 1) = (p.take k).drop (i + 1) ++ [y] := by rw [htk, List.drop_append_of_le_length (by omega)]
    have hdl : ((p.take k).drop (i + 1)).length = k - (i + 1) := by rw [List.length_drop, hlk]
    rw [toK_f hf, toK_f h, hd, fS_snoc, hdl, hf]
    rcases fS_res 62 ((p.take k).drop (i + 1)) (i + 1) with g | ⟨j, g1, g⟩
    · rw [g, if_neg (show ¬ (0 : Int) ≤ -1 by omega), if_pos (show (-1 : Int) < 0 by omega)]
      by_cases hc : y.Pl ∧ y.c = 62
      · rw [if_pos hc, if_neg (show ¬ ((i + 1 + (k - (i + 1)) : Nat) : Int) < 0 by omega), if_pos (show ((y.Pl ∧ y.c = 62) ∧ 0 ≤ ((i : Nat) : Int)) ∧ p.length = p.length from ⟨⟨hc, by omega⟩, rfl⟩), Int.toNat_natCast]
        omega
      · rw [if_neg hc, if_pos (show (-1 : Int) < 0 by omega), if_neg (show ¬ (((y.Pl ∧ y.c = 62) ∧ 0 ≤ ((i : Nat) : Int)) ∧ p.length = p.length) from fun hh => hc hh.1.1)]
    · rw [hdl] at g1
      rw [g, if_pos (show 0 ≤ ((i + 1 + j : Nat) : Int) by omega), if_neg (show ¬ ((i + 1 + j : Nat) : Int) < 0 by omega), Int.toNat_natCast, if_neg (show ¬ (((y.Pl ∧ y.c = 62) ∧ 0 ≤ ((i : Nat) : Int)) ∧ i + 1 + j = p.length) from fun hh => by have := hh.2; omega)]
theorem lastAt_of {x : UInt8} : ∀ {a b : Tx}, x ∉ b → lastAt x (a ++ x :: b) = some (a, b)
  | [], b, h => by
    show lastAt x (x :: b) = _
    unfold lastAt
    cases hb : lastAt x b with
    | some q => exact absurd (by have := (lastAt_some (a := q.1) (b := q.2) hb).1; rw [this]; simp) h
    | none => simp
  | c :: a, b, h => by
    show lastAt x (c :: (a ++ x :: b)) = _
    unfold lastAt
    rw [lastAt_of h]
theorem boxHost_at {t : Tx} {m : Nat} (h : t[m]? = some 64) (hb : (64 : UInt8) ∉ t.drop (m + 1)) : boxHost t = (t.take m, t.drop (m + 1)) := by
  have hm := (List.getElem?_eq_some_iff.1 h).1
  have e : t = t.take m ++ 64 :: t.drop (m + 1) := by
    conv => lhs; rw [← List.take_append_drop m t, List.drop_eq_getElem_cons hm]
    rw [List.getElem?_eq_getElem hm] at h
    rw [Option.some.inj h]
  have := lastAt_of (x := 64) (a := t.take m) hb
  rw [← e] at this
  unfold boxHost
  rw [this]
theorem boxHost_no {t : Tx} (h : (64 : UInt8) ∉ t) : boxHost t = (t, []) := by
  unfold boxHost
  cases hl : lastAt 64 t with
  | none => rfl
  | some q => exact absurd (by have := (lastAt_some (a := q.1) (b := q.2) hl).1; rw [this]; simp) h

set_option maxRecDepth 100000 in
set_option maxHeartbeats 6400000 in
theorem rlist_spec (q : Tx) (w : World) (hq : q.length ≤ 400000) : Calls Tryz.prog 63 #[encStr q] w fun e w' => Frm [] w w' ∧ ∃ A c, e = .returned (.slice A (listA q).length c) ∧ Own w' 91 3 A (listA q).length c (AC (listA q)) ∧ ∀ x ∈ ob A, w.heap.size ≤ x := by
  have K := Frm.refl [] w
  have hsl := signsF_len q.length q false 0 (Nat.le_refl _)
  refine VC.calls (nt := 134) (res := #[.tmp 2]) Tryz.func63 rfl Tryz.ntmps63 Tryz.results63 rfl ?_
  refine VC.seq ?_
  refine VC.region ?_
  refine Ops.r (Run.asg rfl) rfl ?_
  refine Ops.nil ?_
  refine thenQ_n ?_
  refine VC.sub [(0, _)] (.cons rfl .nil) ?_
  refine VC.seq ?_
  refine VC.region ?_
  refine Ops.r (Run.asg rfl) rfl ?_
  refine Ops.nil ?_
  refine thenQ_n ?_
  refine VC.seq ?_
  refine VC.region ?_
  refine Ops.r (Run.mv rfl) rfl ?_
  refine Ops.cl (Enters.fn (evs.cons rfl evs.nil) Tryz.call99) ((rsigns_spec q _ (by omega))) rfl ?_
  rintro e w1 ⟨f1, A0, c0, rfl, hS, hubS⟩
  refine ⟨_, rfl, ?_⟩
  have K := K.trans f1 (by simp)
  rw [← list_eq]
  have hlr : listR q = ((cutS false [] (signsF false 0 q)).map oneR).filter (fun a => decide (a ≠ ⟨[], [], []⟩)) := rfl
  rw [hlr]
  have hcc := cutS_count (signsF false 0 q) false []
  generalize signsF false 0 q = l at *
  refine Ops.cl (Enters.fn (evs.cons rfl evs.nil) Tryz.call98) ((rcut18_spec A0 c0 l _ hS.rd (by omega))) rfl ?_
  rintro e w2 ⟨f2, ps, OA, oc, hmap, rfl, hOA, hP⟩
  refine ⟨_, rfl, ?_⟩
  have K := K.trans f2 (by simp)
  obtain ⟨hcc1, hcc2⟩ := hcc
  generalize cutS false [] l = C at *
  have hCl : C.length = ps.length := by rw [← hmap, List.length_map]
  simp only [List.length_nil, Nat.zero_add] at hcc2
  refine Ops.r (Run.asg rfl) rfl ?_
  refine Ops.nil ?_
  refine thenQ_n ?_
  refine VC.sub [(3, _), (4, _)] (.cons rfl (.cons rfl .nil)) ?_
  refine VC.seq ?_
  refine VC.seq ?_
  refine VC.region ?_
  refine Ops.r (v := .int .i64 ((0 : Nat) : Int)) (Run.asg rfl) rfl ?_
  refine Ops.nil ?_
  refine thenQ_n ?_
  refine VC.block ?_
  refine VC.loop (σ := Nat × Option Addr × Nat) (fun s => [(3, .slice s.2.1 (((C.take s.1).map oneR).filter (fun a => decide (a ≠ ⟨[], [], []⟩))).length s.2.2), (4, .slice OA ps.length oc), (5, .int .i64 ((s.1 : Nat) : Int))]) (fun s wr => s.1 ≤ C.length ∧ Own wr 91 3 s.2.1 (((C.take s.1).map oneR).filter (fun a => decide (a ≠ ⟨[], [], []⟩))).length s.2.2 (AC (((C.take s.1).map oneR).filter (fun a => decide (a ≠ ⟨[], [], []⟩)))) ∧ Own wr 127 1 OA ps.length oc (RW ps) ∧ PWo wr ps ∧ Frm [] w wr ∧ ∀ y ∈ ob s.2.1, w.heap.size ≤ y) (fun s => C.length - s.1) (0, none, 0) (.cons rfl (.cons rfl (.cons rfl .nil))) ⟨Nat.zero_le _, Own.nil _ _ _, hOA, hP, K, by simp [ob]⟩ ?_
  rintro ⟨i, A, c⟩ wr ⟨hi, hO, hOA, hP, K, hub⟩
  dsimp only at hi hO hub ⊢
  have hol : (((C.take i).map oneR).filter (fun a => decide (a ≠ ⟨[], [], []⟩))).length ≤ i := by
    refine Nat.le_trans (List.length_filter_le _ _) ?_
    rw [List.length_map, List.length_take]
    omega
  refine VC.seq ?_
  refine VC.seq ?_
  refine VC.region ?_
  refine Ops.r (Run.mv rfl) rfl ?_
  refine Ops.r (Run.mv rfl) rfl ?_
  refine Ops.r (Run.lenS rfl Tryz.underlying125) rfl ?_
  refine Ops.r (Run.bin rfl rfl (Bin.lssN _ _)) rfl ?_
  refine Ops.nil ?_
  refine thenQ_n ?_
  refine VC.sub [(3, _), (4, _), (5, _), (19, _)] (.cons rfl (.cons rfl (.cons rfl (.cons rfl .nil)))) ?_
  refine VC.condD rfl (fun hc1 => ?_) (fun hc1 => ?_)
  · skip
    have hic : i < C.length := by omega
    obtain ⟨adA, hAe0, hcrow⟩ := RW_at hOA.rd hc1
    have hPp := hP _ (List.getElem_mem hc1)
    have hpe : C[i]? = some ps[i].1 := by rw [← hmap, List.getElem?_map, List.getElem?_eq_getElem hc1]; rfl
    have hplen := hcc2 _ (List.mem_of_getElem? hpe)
    have htkC : C.take (i + 1) = C.take i ++ [ps[i].1] := by rw [List.take_add_one, hpe]; rfl
    have hpmem := List.getElem_mem hc1
    generalize ps[i] = pw at *
    obtain ⟨p, PA, pc⟩ := pw
    dsimp only at hcrow hPp hpe hplen htkC
    have hsn : (((C.take (i + 1)).map oneR).filter (fun a => decide (a ≠ ⟨[], [], []⟩))) = (((C.take i).map oneR).filter (fun a => decide (a ≠ ⟨[], [], []⟩))) ++ (if oneR p ≠ ⟨[], [], []⟩ then [oneR p] else []) := by
      rw [htkC, List.map_append, List.filter_append]
      congr 1
      by_cases h : oneR p ≠ ⟨[], [], []⟩
      · rw [if_pos h]; simp [h]
      · rw [if_neg h]; simp at h; simp [h]
    refine VC.skip ?_
    refine thenQ_n ?_
    refine VC.sub [(3, _), (4, _), (5, _)] (.cons rfl (.cons rfl (.cons rfl .nil))) ?_
    refine VC.seq ?_
    refine VC.block ?_
    refine VC.seq ?_
    refine VC.region ?_
    refine Ops.r (Run.mv rfl) rfl ?_
    refine Ops.r (Run.mv rfl) rfl ?_
    refine Ops.r (Run.indexS i (by rw [← hAe0]; rfl) rfl Tryz.underlying125 Tryz.sizeOf127 hc1) rfl ?_
    refine Ops.r (Run.load rfl Tryz.isAgg127 hcrow) rfl ?_
    refine Ops.r (Run.asg rfl) rfl ?_
    refine Ops.nil ?_
    refine thenQ_n ?_
    refine VC.sub [(3, _), (4, _), (5, _), (6, _)] (.cons rfl (.cons rfl (.cons rfl (.cons rfl .nil)))) ?_
    refine VC.seq ?_
    refine VC.region ?_
    refine Ops.r (Run.mv rfl) rfl ?_
    refine Ops.r (Run.lenS rfl Tryz.underlying127) rfl ?_
    refine Ops.r (v := .int .i64 (-1)) (Run.asg rfl) rfl ?_
    refine Ops.r (Run.asg rfl) rfl ?_
    refine Ops.nil ?_
    refine thenQ_n ?_
    refine VC.sub [(3, _), (4, _), (5, _), (6, _), (7, _), (8, _)] (.cons rfl (.cons rfl (.cons rfl (.cons rfl (.cons rfl (.cons rfl .nil)))))) ?_
    refine VC.seq ?_
    refine VC.seq ?_
    refine VC.region ?_
    refine Ops.r (v := .int .i64 ((0 : Nat) : Int)) (Run.asg rfl) rfl ?_
    refine Ops.nil ?_
    refine thenQ_n ?_
    refine VC.block ?_
    refine VC.loop (σ := Nat) (fun s => [(3, .slice A (((C.take i).map oneR).filter (fun a => decide (a ≠ ⟨[], [], []⟩))).length c), (4, .slice OA ps.length oc), (5, .int .i64 ((i : Nat) : Int)), (6, .slice PA p.length pc), (7, .int .i64 (fS 60 (p.take s) 0)), (8, .int .i64 (((toK p s) : Nat) : Int)), (9, .int .i64 ((s : Nat) : Int))]) (fun s wr => s ≤ p.length ∧ Own wr 91 3 A (((C.take i).map oneR).filter (fun a => decide (a ≠ ⟨[], [], []⟩))).length c (AC (((C.take i).map oneR).filter (fun a => decide (a ≠ ⟨[], [], []⟩)))) ∧ Own wr 127 1 OA ps.length oc (RW ps) ∧ PWo wr ps ∧ Frm [] w wr ∧ ∀ y ∈ ob A, w.heap.size ≤ y) (fun s => p.length - s) 0 (.cons rfl (.cons rfl (.cons rfl (.cons rfl (.cons rfl (.cons rfl (.cons rfl .nil))))))) ⟨Nat.zero_le _, hO, hOA, hP, K, hub⟩ ?_
    rintro k wr2 ⟨hk, hO, hOA, hP, K, hub⟩
    refine VC.seq ?_
    refine VC.seq ?_
    refine VC.region ?_
    refine Ops.r (Run.mv rfl) rfl ?_
    refine Ops.r (Run.mv rfl) rfl ?_
    refine Ops.r (Run.lenS rfl Tryz.underlying127) rfl ?_
    refine Ops.r (Run.bin rfl rfl (Bin.lssN _ _)) rfl ?_
    refine Ops.nil ?_
    refine thenQ_n ?_
    refine VC.sub [(3, _), (4, _), (5, _), (6, _), (7, _), (8, _), (9, _), (31, _)] (.cons rfl (.cons rfl (.cons rfl (.cons rfl (.cons rfl (.cons rfl (.cons rfl (.cons rfl .nil)))))))) ?_
    refine VC.condD rfl (fun hc2 => ?_) (fun hc2 => ?_)
    · skip
      have hPp := hP _ hpmem
      obtain ⟨adp, hAe, hcell⟩ := SG_at hPp.rd hc2
      have hcw : ∀ W, Frm [] wr2 W → ∀ j v, (SG1 p[k])[j]? = some v → W.cell? ((adp.add (k * 5)).add j) = some v := fun W hW => by
        obtain ⟨ad2, h2, hc2_⟩ := SG_at (hPp.rd.frm hW (by simp)) hc2
        cases hAe.symm.trans h2
        exact hc2_
      have hgy : p[k]? = some p[k] := List.getElem?_eq_getElem hc2
      generalize p[k] = x at *
      have hsf := step_f hgy
      have hst := step_t hgy
      have e60 : x.c.toNat = 60 ↔ x.c = 60 := u8n rfl
      have e62 : x.c.toNat = 62 ↔ x.c = 62 := u8n rfl
      generalize hfe : fS 60 (p.take k) 0 = f at *
      generalize hte : toK p k = t at *
      have hfr : f = -1 ∨ 0 ≤ f := by
        rcases fS_res 60 (p.take k) 0 with h | ⟨j, _, h⟩
        · omega
        · omega
      refine VC.skip ?_
      refine thenQ_n ?_
      refine VC.sub [(3, _), (4, _), (5, _), (6, _), (7, _), (8, _), (9, _)] (.cons rfl (.cons rfl (.cons rfl (.cons rfl (.cons rfl (.cons rfl (.cons rfl .nil))))))) ?_
      refine VC.seq ?_
      refine VC.block ?_
      refine VC.seq ?_
      refine VC.seq ?_
      refine VC.splitR [(3, .slice A (((C.take i).map oneR).filter (fun a => decide (a ≠ ⟨[], [], []⟩))).length c), (4, .slice OA ps.length oc), (5, .int .i64 ((i : Nat) : Int)), (6, .slice PA p.length pc), (7, .int .i64 f), (8, .int .i64 ((t : Nat) : Int)), (9, .int .i64 ((k : Nat) : Int))] (Frm [] wr2) 50 (.bool (decide ((x.Pl ∧ x.c.toNat = 60) ∧ f < 0))) ?_ ?_
      · refine VC.region ?_
        refine Ops.r (Run.mv rfl) rfl ?_
        refine Ops.r (Run.mv rfl) rfl ?_
        refine Ops.r (Run.indexS k (by rw [← hAe]; rfl) rfl Tryz.underlying127 Tryz.sizeOf130 hc2) rfl ?_
        refine Ops.r (Run.loadA rfl Tryz.isAgg130 Tryz.sizeOf130 hcell (by first | rfl | (simp; done))) rfl ?_
        refine Ops.cl (Enters.fn (evs.cons rfl evs.nil) Tryz.call100) ((rplain_spec x _)) rfl ?_
        rintro e w5 ⟨rfl, fw5⟩
        refine ⟨_, rfl, ?_⟩
        have hcell := hcw _ (fw5)
        by_cases hs38 : x.Pl
        · skip
          refine Ops.r (Run.mv rfl) rfl ?_
          refine Ops.rg rfl au (Run.mv rfl) rfl ?_
          refine Ops.rg rfl au (Run.mv rfl) rfl ?_
          refine Ops.rg rfl au (Run.indexS k (by rw [← hAe]; rfl) rfl Tryz.underlying127 Tryz.sizeOf130 hc2) rfl ?_
          refine Ops.rg rfl au (Run.fieldAddr rfl Tryz.underlying130 rfl Tryz.sizeOf5 (by decide)) rfl ?_
          refine Ops.rg rfl au (Run.load rfl Tryz.isAgg5 (hcell 0 _ rfl)) rfl ?_
          refine Ops.rg rfl au (Run.bin rfl rfl (Bin.eqlN _ 60)) rfl ?_
          by_cases hs45 : x.c.toNat = 60
          · skip
            refine Ops.r (Run.pickT rfl rfl au) rfl ?_
            refine Ops.r (Run.mv rfl) rfl ?_
            refine Ops.rg rfl au (Run.mv rfl) rfl ?_
            refine Ops.rg rfl au (Run.bin rfl rfl (Bin.lss _ 0)) rfl ?_
            by_cases hs49 : f < 0
            · skip
              refine Ops.r (Run.pickT rfl rfl au) rfl ?_
              refine Ops.nil ?_
              refine thenQ_n ⟨(.cons (congrArg (fun b => some (Value.bool b)) (by first | (simp [hs38]; done) | (simp [hs38, hs45]; done) | simp [hs38, hs45, hs49])) (.cons rfl (.cons rfl (.cons rfl (.cons rfl (.cons rfl (.cons rfl (.cons rfl .nil)))))))), ((by first | exact Frm.refl _ _ | exact fw5))⟩
            · skip
              refine Ops.r (Run.pickT rfl rfl au) rfl ?_
              refine Ops.nil ?_
              refine thenQ_n ⟨(.cons (congrArg (fun b => some (Value.bool b)) (by first | (simp [hs38]; done) | (simp [hs38, hs45]; done) | simp [hs38, hs45, hs49])) (.cons rfl (.cons rfl (.cons rfl (.cons rfl (.cons rfl (.cons rfl (.cons rfl .nil)))))))), ((by first | exact Frm.refl _ _ | exact fw5))⟩
          · skip
            refine Ops.r (Run.pickT rfl rfl au) rfl ?_
            refine Ops.r (Run.mv rfl) rfl ?_
            refine Ops.sk rfl au rfl ?_
            refine Ops.sk rfl au rfl ?_
            refine Ops.r (Run.pickF rfl rfl au) rfl ?_
            refine Ops.nil ?_
            refine thenQ_n ⟨(.cons (congrArg (fun b => some (Value.bool b)) (by first | (simp [hs38]; done) | (simp [hs38, hs45]; done) | simp [hs38, hs45, hs49])) (.cons rfl (.cons rfl (.cons rfl (.cons rfl (.cons rfl (.cons rfl (.cons rfl .nil)))))))), ((by first | exact Frm.refl _ _ | exact fw5))⟩
        · skip
          refine Ops.r (Run.mv rfl) rfl ?_
          refine Ops.sk rfl au rfl ?_
          refine Ops.sk rfl au rfl ?_
          refine Ops.sk rfl au rfl ?_
          refine Ops.sk rfl au rfl ?_
          refine Ops.sk rfl au rfl ?_
          refine Ops.sk rfl au rfl ?_
          refine Ops.r (Run.pickF rfl rfl au) rfl ?_
          refine Ops.r (Run.mv rfl) rfl ?_
          refine Ops.sk rfl au rfl ?_
          refine Ops.sk rfl au rfl ?_
          refine Ops.r (Run.pickF rfl rfl au) rfl ?_
          refine Ops.nil ?_
          refine thenQ_n ⟨(.cons (congrArg (fun b => some (Value.bool b)) (by first | (simp [hs38]; done) | (simp [hs38, hs45]; done) | simp [hs38, hs45, hs49])) (.cons rfl (.cons rfl (.cons rfl (.cons rfl (.cons rfl (.cons rfl (.cons rfl .nil)))))))), ((by first | exact Frm.refl _ _ | exact fw5))⟩
      · intro Γ wR hΓ hR
        refine thenQ_n (VC.sub _ hΓ ?_)
        refine VC.meet (σ := Unit) (fun s => [(3, .slice A (((C.take i).map oneR).filter (fun a => decide (a ≠ ⟨[], [], []⟩))).length c), (4, .slice OA ps.length oc), (5, .int .i64 ((i : Nat) : Int)), (6, .slice PA p.length pc), (7, .int .i64 (fS 60 (p.take (k + 1)) 0)), (8, .int .i64 ((t : Nat) : Int)), (9, .int .i64 ((k : Nat) : Int))]) (fun s wz => Frm [] wr2 wz) ?_ ?_
        · skip
          refine VC.condD rfl (fun hc3 => ?_) (fun hc3 => ?_)
          · skip
            rw [if_pos ⟨⟨hc3.1.1, e60.1 hc3.1.2⟩, hc3.2⟩] at hsf
            refine VC.region ?_
            refine Ops.r (Run.mv rfl) rfl ?_
            refine Ops.r (Run.asg rfl) rfl ?_
            refine Ops.nil ?_
            refine thenQ_n ⟨(), (.cons rfl (.cons rfl (.cons rfl (.cons rfl (.cons (by rw [hsf]; rfl) (.cons rfl (.cons rfl .nil))))))), ?_⟩
            exact hR
          · skip
            rw [if_neg (fun h => hc3 ⟨⟨h.1.1, e60.2 h.1.2⟩, h.2⟩)] at hsf
            refine VC.skip ?_
            refine thenQ_n ⟨(), (.cons rfl (.cons rfl (.cons rfl (.cons rfl (.cons (by rw [hsf]; rfl) (.cons rfl (.cons rfl .nil))))))), ?_⟩
            exact hR
        · skip
          rintro _ wz f8 Γ hΓ
          have hcell := hcw _ f8
          have hf2r : fS 60 (p.take (k + 1)) 0 = -1 ∨ 0 ≤ fS 60 (p.take (k + 1)) 0 := by rw [hsf]; split <;> omega
          refine thenQ_n (VC.sub _ hΓ ?_)
          refine VC.seq ?_
          refine VC.splitR [(3, .slice A (((C.take i).map oneR).filter (fun a => decide (a ≠ ⟨[], [], []⟩))).length c), (4, .slice OA ps.length oc), (5, .int .i64 ((i : Nat) : Int)), (6, .slice PA p.length pc), (7, .int .i64 (fS 60 (p.take (k + 1)) 0)), (8, .int .i64 ((t : Nat) : Int)), (9, .int .i64 ((k : Nat) : Int))] (Frm [] wz) 74 (.bool (decide (((x.Pl ∧ x.c.toNat = 62) ∧ 0 ≤ fS 60 (p.take (k + 1)) 0) ∧ t = p.length))) ?_ ?_
          · refine VC.region ?_
            refine Ops.r (Run.mv rfl) rfl ?_
            refine Ops.r (Run.mv rfl) rfl ?_
            refine Ops.r (Run.indexS k (by rw [← hAe]; rfl) rfl Tryz.underlying127 Tryz.sizeOf130 hc2) rfl ?_
            refine Ops.r (Run.loadA rfl Tryz.isAgg130 Tryz.sizeOf130 hcell (by first | rfl | (simp; done))) rfl ?_
            refine Ops.cl (Enters.fn (evs.cons rfl evs.nil) Tryz.call100) ((rplain_spec x _)) rfl ?_
            rintro e w6 ⟨rfl, fw6⟩
            refine ⟨_, rfl, ?_⟩
            have hcell := hcw _ (f8.trans fw6 (by simp))
            by_cases hs56 : x.Pl
            · skip
              refine Ops.r (Run.mv rfl) rfl ?_
              refine Ops.rg rfl au (Run.mv rfl) rfl ?_
              refine Ops.rg rfl au (Run.mv rfl) rfl ?_
              refine Ops.rg rfl au (Run.indexS k (by rw [← hAe]; rfl) rfl Tryz.underlying127 Tryz.sizeOf130 hc2) rfl ?_
              refine Ops.rg rfl au (Run.fieldAddr rfl Tryz.underlying130 rfl Tryz.sizeOf5 (by decide)) rfl ?_
              refine Ops.rg rfl au (Run.load rfl Tryz.isAgg5 (hcell 0 _ rfl)) rfl ?_
              refine Ops.rg rfl au (Run.bin rfl rfl (Bin.eqlN _ 62)) rfl ?_
              by_cases hs63 : x.c.toNat = 62
              · skip
                refine Ops.r (Run.pickT rfl rfl au) rfl ?_
                refine Ops.r (Run.mv rfl) rfl ?_
                refine Ops.rg rfl au (Run.mv rfl) rfl ?_
                refine Ops.rg rfl au (Run.bin rfl rfl (Bin.geq _ 0)) rfl ?_
                by_cases hs67 : 0 ≤ fS 60 (p.take (k + 1)) 0
                · skip
                  refine Ops.r (Run.pickT rfl rfl au) rfl ?_
                  refine Ops.r (Run.mv rfl) rfl ?_
                  refine Ops.rg rfl au (Run.mv rfl) rfl ?_
                  refine Ops.rg rfl au (Run.mv rfl) rfl ?_
                  refine Ops.rg rfl au (Run.lenS rfl Tryz.underlying127) rfl ?_
                  refine Ops.rg rfl au (Run.bin rfl rfl (Bin.eqlN _ _)) rfl ?_
                  by_cases hs73 : t = p.length
                  · skip
                    refine Ops.r (Run.pickT rfl rfl au) rfl ?_
                    refine Ops.nil ?_
                    refine thenQ_n ⟨(.cons (congrArg (fun b => some (Value.bool b)) (by first | (simp [hs56]; done) | (simp [hs56, hs63]; done) | (simp only [hs56, hs63, hs67, hs73]; simp; done) | (simp only [hs56, hs63, hs67]; simp; done) | simp [hs56, hs63, hs67, hs73])) (.cons rfl (.cons rfl (.cons rfl (.cons rfl (.cons rfl (.cons rfl (.cons rfl .nil)))))))), ((by first | exact Frm.refl _ _ | exact fw6))⟩
                  · skip
                    refine Ops.r (Run.pickT rfl rfl au) rfl ?_
                    refine Ops.nil ?_
                    refine thenQ_n ⟨(.cons (congrArg (fun b => some (Value.bool b)) (by first | (simp [hs56]; done) | (simp [hs56, hs63]; done) | (simp only [hs56, hs63, hs67, hs73]; simp; done) | (simp only [hs56, hs63, hs67]; simp; done) | simp [hs56, hs63, hs67, hs73])) (.cons rfl (.cons rfl (.cons rfl (.cons rfl (.cons rfl (.cons rfl (.cons rfl .nil)))))))), ((by first | exact Frm.refl _ _ | exact fw6))⟩
                · skip
                  refine Ops.r (Run.pickT rfl rfl au) rfl ?_
                  refine Ops.r (Run.mv rfl) rfl ?_
                  refine Ops.sk rfl au rfl ?_
                  refine Ops.sk rfl au rfl ?_
                  refine Ops.sk rfl au rfl ?_
                  refine Ops.sk rfl au rfl ?_
                  refine Ops.r (Run.pickF rfl rfl au) rfl ?_
                  refine Ops.nil ?_
                  refine thenQ_n ⟨(.cons (congrArg (fun b => some (Value.bool b)) (by first | (simp [hs56]; done) | (simp [hs56, hs63]; done) | (simp only [hs56, hs63, hs67, hs73]; simp; done) | (simp only [hs56, hs63, hs67]; simp; done) | simp [hs56, hs63, hs67, hs73])) (.cons rfl (.cons rfl (.cons rfl (.cons rfl (.cons rfl (.cons rfl (.cons rfl .nil)))))))), ((by first | exact Frm.refl _ _ | exact fw6))⟩
              · skip
                refine Ops.r (Run.pickT rfl rfl au) rfl ?_
                refine Ops.r (Run.mv rfl) rfl ?_
                refine Ops.sk rfl au rfl ?_
                refine Ops.sk rfl au rfl ?_
                refine Ops.r (Run.pickF rfl rfl au) rfl ?_
                refine Ops.r (Run.mv rfl) rfl ?_
                refine Ops.sk rfl au rfl ?_
                refine Ops.sk rfl au rfl ?_
                refine Ops.sk rfl au rfl ?_
                refine Ops.sk rfl au rfl ?_
                refine Ops.r (Run.pickF rfl rfl au) rfl ?_
                refine Ops.nil ?_
                refine thenQ_n ⟨(.cons (congrArg (fun b => some (Value.bool b)) (by first | (simp [hs56]; done) | (simp [hs56, hs63]; done) | (simp only [hs56, hs63, hs67, hs73]; simp; done) | (simp only [hs56, hs63, hs67]; simp; done) | simp [hs56, hs63, hs67, hs73])) (.cons rfl (.cons rfl (.cons rfl (.cons rfl (.cons rfl (.cons rfl (.cons rfl .nil)))))))), ((by first | exact Frm.refl _ _ | exact fw6))⟩
            · skip
              refine Ops.r (Run.mv rfl) rfl ?_
              refine Ops.sk rfl au rfl ?_
              refine Ops.sk rfl au rfl ?_
              refine Ops.sk rfl au rfl ?_
              refine Ops.sk rfl au rfl ?_
              refine Ops.sk rfl au rfl ?_
              refine Ops.sk rfl au rfl ?_
              refine Ops.r (Run.pickF rfl rfl au) rfl ?_
              refine Ops.r (Run.mv rfl) rfl ?_
              refine Ops.sk rfl au rfl ?_
              refine Ops.sk rfl au rfl ?_
              refine Ops.r (Run.pickF rfl rfl au) rfl ?_
              refine Ops.r (Run.mv rfl) rfl ?_
              refine Ops.sk rfl au rfl ?_
              refine Ops.sk rfl au rfl ?_
              refine Ops.sk rfl au rfl ?_
              refine Ops.sk rfl au rfl ?_
              refine Ops.r (Run.pickF rfl rfl au) rfl ?_
              refine Ops.nil ?_
              refine thenQ_n ⟨(.cons (congrArg (fun b => some (Value.bool b)) (by first | (simp [hs56]; done) | (simp [hs56, hs63]; done) | (simp only [hs56, hs63, hs67, hs73]; simp; done) | (simp only [hs56, hs63, hs67]; simp; done) | simp [hs56, hs63, hs67, hs73])) (.cons rfl (.cons rfl (.cons rfl (.cons rfl (.cons rfl (.cons rfl (.cons rfl .nil)))))))), ((by first | exact Frm.refl _ _ | exact fw6))⟩
          · intro Γ wR hΓ hR
            refine thenQ_n (VC.sub _ hΓ ?_)
            refine VC.meet (σ := Unit) (fun s => [(3, .slice A (((C.take i).map oneR).filter (fun a => decide (a ≠ ⟨[], [], []⟩))).length c), (4, .slice OA ps.length oc), (5, .int .i64 ((i : Nat) : Int)), (6, .slice PA p.length pc), (7, .int .i64 (fS 60 (p.take (k + 1)) 0)), (8, .int .i64 (((toK p (k + 1)) : Nat) : Int)), (9, .int .i64 ((k : Nat) : Int))]) (fun s wy => Frm [] wz wy) ?_ ?_
            · skip
              refine VC.condD rfl (fun hc4 => ?_) (fun hc4 => ?_)
              · skip
                rw [if_pos ⟨⟨⟨hc4.1.1.1, e62.1 hc4.1.1.2⟩, hc4.1.2⟩, hc4.2⟩] at hst
                refine VC.region ?_
                refine Ops.r (Run.mv rfl) rfl ?_
                refine Ops.r (Run.asg rfl) rfl ?_
                refine Ops.nil ?_
                refine thenQ_n ⟨(), (.cons rfl (.cons rfl (.cons rfl (.cons rfl (.cons rfl (.cons (by rw [hst]; rfl) (.cons rfl .nil))))))), ?_⟩
                exact hR
              · skip
                rw [if_neg (fun h => hc4 ⟨⟨⟨h.1.1.1, e62.2 h.1.1.2⟩, h.1.2⟩, h.2⟩)] at hst
                refine VC.skip ?_
                refine thenQ_n ⟨(), (.cons rfl (.cons rfl (.cons rfl (.cons rfl (.cons rfl (.cons (by rw [hst]; rfl) (.cons rfl .nil))))))), ?_⟩
                exact hR
            · skip
              rintro _ wy f9 Γ hΓ
              have f89 := f8.trans f9 (by simp)
              have hO := hO.frm f89 (by simp)
              have hOA := hOA.frm f89 (by simp)
              have hP := hP.frm0 f89
              have K := K.trans f89 (by simp)
              refine blockQ_n (thenQ_n (VC.sub _ hΓ ?_))
              refine VC.region ?_
              refine Ops.r (Run.mv rfl) rfl ?_
              refine Ops.r (Run.bin rfl rfl (Bin.add_i64 _ 1 (by omega))) rfl ?_
              refine Ops.r (Run.asg rfl) rfl ?_
              refine Ops.nil ?_
              refine thenQ_n ⟨(k + 1), (.cons rfl (.cons rfl (.cons rfl (.cons rfl (.cons rfl (.cons rfl (.cons rfl .nil))))))), ?_, ?_⟩
              · skip
                exact ⟨hc2, hO, hOA, hP, K, hub⟩
              · skip
                first | omega | (dsimp only; omega)
    · skip
      have hkl : k = p.length := by omega
      subst hkl
      rw [List.take_length]
      refine VC.exit ?_
      refine thenQ_x (thenQ_x (blockQ_x ?_))
      refine thenQ_n ?_
      refine VC.sub [(3, _), (4, _), (5, _), (6, _), (7, _), (8, _)] (.cons rfl (.cons rfl (.cons rfl (.cons rfl (.cons rfl (.cons rfl .nil)))))) ?_
      refine VC.seq ?_
      refine VC.region ?_
      refine Ops.r (Run.mv rfl) rfl ?_
      refine Ops.cl (Enters.fn (evs.cons rfl evs.nil) Tryz.call101) ((rremark_spec PA pc p _ (hP _ hpmem).rd (by omega))) rfl ?_
      rintro e w11 ⟨rfl, f11⟩
      refine ⟨_, rfl, ?_⟩
      have hO := hO.frm f11 (by simp)
      have hOA := hOA.frm f11 (by simp)
      have hP := hP.frm0 f11
      have K := K.trans f11 (by simp)
      refine Ops.r (Run.build (evs.cons rfl evs.nil) zero91 (places91).choose_spec.1 (places91).choose_spec.2 rfl) rfl ?_
      refine Ops.m (Does.alloc zero91) rfl ?_
      rintro _ w12 ⟨rfl, hF12⟩
      have hb10 := hF12.blk
      have s10 := K.size
      have nO : ∀ y ∈ ob A, y < w11.heap.size := hO.lt
      have nOA : ∀ y ∈ ob OA, y < w11.heap.size := hOA.lt
      have nP : ∀ z ∈ ps, ∀ y ∈ ob z.2.1, y < w11.heap.size := fun z hz => (hP z hz).lt
      have hO := hO.frm hF12.frm (by simp)
      have hOA := hOA.frm hF12.frm (by simp)
      have hP := hP.frm0 hF12.frm
      have K := K.trans hF12.frm (by simp)
      generalize hg10 : w11.heap.size = g10 at hb10 s10 nO nOA nP ⊢
      have nO : g10 ∉ ob A := fun h => by have := nO _ h; omega
      have nOA : g10 ∉ ob OA := fun h => by have := nOA _ h; omega
      have nP : ∀ z ∈ ps, g10 ∉ ob z.2.1 := fun z hz h => by have := nP z hz _ h; omega
      refine Ops.st (Acts.storeA rfl rfl Tryz.sizeOf91 hb10 rfl (AC1_one ⟨trimQ (remS false [] p), [], []⟩)) ?_
      rintro w13 ⟨hb10n, f13, _⟩
      have hb10 : Blk w13 g10 91 (AC1 ⟨trimQ (remS false [] p), [], []⟩).toArray := hb10n
      have hO := hO.frm f13 (fun y hy h => by simp at h; subst h; exact nO hy)
      have hOA := hOA.frm f13 (fun y hy h => by simp at h; subst h; exact nOA hy)
      have hP := hP.frm f13 (fun z hz y hy h => by simp at h; subst h; exact nP z hz hy)
      have K := Frm.own K f13 (fun y hy => by simp at hy; omega)
      refine Ops.nil ?_
      refine thenQ_n ?_
      refine VC.sub [(3, _), (4, _), (5, _), (6, _), (7, _), (8, _), (10, _)] (.cons rfl (.cons rfl (.cons rfl (.cons rfl (.cons rfl (.cons rfl (.cons rfl .nil))))))) ?_
      refine VC.seq ?_
      refine VC.region ?_
      refine Ops.r (Run.mv rfl) rfl ?_
      refine Ops.cl (Enters.fn (evs.cons rfl evs.nil) Tryz.call102) ((rsay_spec PA pc p _ (hP _ hpmem).rd (by omega))) rfl ?_
      rintro e w14 ⟨rfl, f14⟩
      refine ⟨_, rfl, ?_⟩
      have hO := hO.frm f14 (by simp)
      have hOA := hOA.frm f14 (by simp)
      have hP := hP.frm0 f14
      have K := K.trans f14 (by simp)
      have hb10 := hb10.frm f14 (by simp)
      refine Ops.r (Run.asg rfl) rfl ?_
      refine Ops.nil ?_
      refine thenQ_n ?_
      refine VC.sub [(3, _), (4, _), (5, _), (6, _), (7, _), (8, _), (10, _), (11, _)] (.cons rfl (.cons rfl (.cons rfl (.cons rfl (.cons rfl (.cons rfl (.cons rfl (.cons rfl .nil)))))))) ?_
      refine VC.seq ?_
      refine VC.seq ?_
      refine VC.region ?_
      refine Ops.r (Run.mv rfl) rfl ?_
      refine Ops.r (Run.bin rfl rfl (Bin.geq _ 0)) rfl ?_
      refine Ops.nil ?_
      refine thenQ_n ?_
      refine VC.sub [(3, _), (4, _), (5, _), (6, _), (7, _), (8, _), (10, _), (11, _), (82, _)] (.cons rfl (.cons rfl (.cons rfl (.cons rfl (.cons rfl (.cons rfl (.cons rfl (.cons rfl (.cons rfl .nil))))))))) ?_
      refine VC.meet (σ := Unit) (fun s => [(3, .slice A (((C.take i).map oneR).filter (fun a => decide (a ≠ ⟨[], [], []⟩))).length c), (4, .slice OA ps.length oc), (5, .int .i64 ((i : Nat) : Int)), (10, .pointer (some ⟨g10, 0, none⟩)), (11, encStr (allS p))]) (fun s wv => Blk wv g10 91 (AC1 ⟨nmS p, [], []⟩).toArray ∧ Own wv 91 3 A (((C.take i).map oneR).filter (fun a => decide (a ≠ ⟨[], [], []⟩))).length c (AC (((C.take i).map oneR).filter (fun a => decide (a ≠ ⟨[], [], []⟩)))) ∧ Own wv 127 1 OA ps.length oc (RW ps) ∧ PWo wv ps ∧ Frm [] w wv ∧ ∀ y ∈ ob A, w.heap.size ≤ y) ?_ ?_
      · skip
        refine VC.condD rfl (fun hc5 => ?_) (fun hc5 => ?_)
        · skip
          obtain ⟨f0, hf0⟩ : ∃ f0 : Nat, fS 60 p 0 = (f0 : Int) := ⟨(fS 60 p 0).toNat, by omega⟩
          have hti := toS_in p hc5
          rw [toK_all p hc5]
          have hnm : nmS p = sayS false [] (p.take f0) := by unfold nmS; rw [hf0, if_neg (by omega), Int.toNat_natCast]
          have hall : allS p = sayS false [] ((p.drop (f0 + 1)).take (toS p f0 - (f0 + 1))) := by unfold allS; rw [hf0, if_neg (by omega), Int.toNat_natCast]
          rw [hf0, Int.toNat_natCast] at hti ⊢
          rw [hnm, hall]
          generalize toS p f0 = t0 at *
          refine VC.seq ?_
          refine VC.region ?_
          refine Ops.r (Run.mv rfl) rfl ?_
          refine Ops.r (Run.mv rfl) rfl ?_
          have hpcl : p.length ≤ pc := (hP _ hpmem).le
          refine Ops.r (Run.sliceS 0 f0 rfl Tryz.underlying127 Tryz.sizeOf130 evB.none_ (evB.some_ rfl) (by omega) (by omega)) rfl ?_
          have hr85 := SG_cut (hP _ hpmem).rd (show 0 ≤ f0 by omega) (show f0 ≤ p.length by omega) hpcl
          rw [List.drop_zero, Nat.sub_zero] at hr85
          rw [show f0 - 0 = (p.take f0).length by rw [List.length_take]; omega]
          refine Ops.cl (Enters.fn (evs.cons rfl evs.nil) Tryz.call102) ((rsay_spec _ _ (p.take f0) _ hr85 (by simp; omega))) rfl ?_
          rintro e w15 ⟨rfl, f15⟩
          refine ⟨_, rfl, ?_⟩
          have hO := hO.frm f15 (by simp)
          have hOA := hOA.frm f15 (by simp)
          have hP := hP.frm0 f15
          have K := K.trans f15 (by simp)
          have hb10 := hb10.frm f15 (by simp)
          refine Ops.r (Run.fieldAddr rfl Tryz.underlying91 rfl Tryz.sizeOf9 (by decide)) rfl ?_
          refine Ops.st (Acts.store rfl rfl Tryz.sizeOf9 hb10 rfl rfl) ?_
          rintro w16 ⟨hb10n, fw16, _⟩
          have hb10 : Blk w16 g10 91 (AC1 ⟨sayS false [] (p.take f0), [], []⟩).toArray := hb10n
          have hO := hO.frm fw16 (fun y hy h => by simp at h; subst h; exact nO hy)
          have hOA := hOA.frm fw16 (fun y hy h => by simp at h; subst h; exact nOA hy)
          have hP := hP.frm fw16 (fun z hz y hy h => by simp at h; subst h; exact nP z hz hy)
          have K := Frm.own K fw16 (fun y hy => by simp at hy; omega)
          refine Ops.nil ?_
          refine thenQ_n ?_
          refine VC.sub [(3, _), (4, _), (5, _), (6, _), (7, _), (8, _), (10, _)] (.cons rfl (.cons rfl (.cons rfl (.cons rfl (.cons rfl (.cons rfl (.cons rfl .nil))))))) ?_
          refine VC.region ?_
          refine Ops.r (Run.mv rfl) rfl ?_
          refine Ops.r (Run.mv rfl) rfl ?_
          refine Ops.r (Run.bin rfl rfl (Bin.add_i64 f0 1 (by omega))) rfl ?_
          refine Ops.r (Run.mv rfl) rfl ?_
          refine Ops.r (Run.sliceS (f0 + 1) t0 rfl Tryz.underlying127 Tryz.sizeOf130 (evB.some_ rfl) (evB.some_ rfl) (by omega) (by omega)) rfl ?_
          have hr92 := SG_cut (hP _ hpmem).rd hti.1 hti.2 hpcl
          have hl92 : ((p.drop (f0 + 1)).take (t0 - (f0 + 1))).length = t0 - (f0 + 1) := by simp; omega
          refine Ops.cl (Enters.fn (evs.cons rfl evs.nil) Tryz.call102) ((by have h := rsay_spec (cutA PA pc (f0 + 1) 5) (pc - (f0 + 1)) ((p.drop (f0 + 1)).take (t0 - (f0 + 1))) _ hr92 (by simp; omega); rw [hl92] at h; exact h)) rfl ?_
          rintro e w17 ⟨rfl, f17⟩
          refine ⟨_, rfl, ?_⟩
          have hO := hO.frm f17 (by simp)
          have hOA := hOA.frm f17 (by simp)
          have hP := hP.frm0 f17
          have K := K.trans f17 (by simp)
          have hb10 := hb10.frm f17 (by simp)
          refine Ops.r (Run.asg rfl) rfl ?_
          refine Ops.nil ?_
          refine thenQ_n ⟨(), (.cons rfl (.cons rfl (.cons rfl (.cons rfl (.cons rfl .nil))))), ?_⟩
          exact ⟨hb10, hO, hOA, hP, K, hub⟩
        · skip
          have hnm : nmS p = trimQ (remS false [] p) := by unfold nmS; rw [if_pos (by omega)]
          have hall : allS p = sayS false [] p := by unfold allS; rw [if_pos (by omega)]
          refine VC.skip ?_
          refine thenQ_n ⟨(), (.cons rfl (.cons rfl (.cons rfl (.cons rfl (.cons (by rw [hall]; rfl) .nil))))), ?_⟩
          exact ⟨by rw [hnm]; exact hb10, hO, hOA, hP, K, hub⟩
      · skip
        rintro _ wv ⟨hb10, hO, hOA, hP, K, hub⟩ Γ hΓ
        have h1r : oneR p = ⟨nmS p, (boxHost (allS p)).1, (boxHost (allS p)).2⟩ := rfl
        have hal : (allS p).length ≤ 2 * p.length := by
          unfold allS
          split
          · have := sayS_len p false []; simpa using this
          · have := sayS_len ((p.drop ((fS 60 p 0).toNat + 1)).take (toS p (fS 60 p 0).toNat - ((fS 60 p 0).toNat + 1))) false []
            simp only [List.length_nil, Nat.zero_add, List.length_take, List.length_drop] at this
            omega
        generalize nmS p = nm at *
        generalize allS p = al at *
        refine thenQ_n (VC.sub _ hΓ ?_)
        refine VC.seq ?_
        refine VC.region ?_
        refine Ops.r (Run.mv rfl) rfl ?_
        refine Ops.r (Run.fieldAddr rfl Tryz.underlying91 rfl Tryz.sizeOf9 (by decide)) rfl ?_
        refine Ops.st (Acts.store rfl rfl Tryz.sizeOf9 hb10 rfl rfl) ?_
        rintro w18 ⟨hb10n, fw18, _⟩
        have hb10 : Blk w18 g10 91 (AC1 ⟨nm, al, []⟩).toArray := hb10n
        have hO := hO.frm fw18 (fun y hy h => by simp at h; subst h; exact nO hy)
        have hOA := hOA.frm fw18 (fun y hy h => by simp at h; subst h; exact nOA hy)
        have hP := hP.frm fw18 (fun z hz y hy h => by simp at h; subst h; exact nP z hz hy)
        have K := Frm.own K fw18 (fun y hy => by simp at hy; omega)
        refine Ops.nil ?_
        refine thenQ_n ?_
        refine VC.sub [(3, _), (4, _), (5, _), (10, _), (11, _)] (.cons rfl (.cons rfl (.cons rfl (.cons rfl (.cons rfl .nil))))) ?_
        refine VC.seq ?_
        refine VC.seq ?_
        refine VC.region ?_
        refine Ops.r (Run.mv rfl) rfl ?_
        refine Ops.r (Run.lenT rfl Tryz.underlying9) rfl ?_
        refine Ops.r (Run.bin rfl rfl (Bin.sub _ _ (by simp only [bmin]; omega) (by simp only [bmax]; omega))) rfl ?_
        refine Ops.r (Run.asg rfl) rfl ?_
        refine Ops.nil ?_
        refine thenQ_n ?_
        refine VC.sub [(3, _), (4, _), (5, _), (10, _), (11, _), (12, _)] (.cons rfl (.cons rfl (.cons rfl (.cons rfl (.cons rfl (.cons rfl .nil)))))) ?_
        refine VC.meet (σ := Unit) (fun s => [(3, .slice A (((C.take i).map oneR).filter (fun a => decide (a ≠ ⟨[], [], []⟩))).length c), (4, .slice OA ps.length oc), (5, .int .i64 ((i : Nat) : Int)), (10, .pointer (some ⟨g10, 0, none⟩))]) (fun s wv => Blk wv g10 91 (AC1 ⟨nm, (boxHost al).1, (boxHost al).2⟩).toArray ∧ Own wv 91 3 A (((C.take i).map oneR).filter (fun a => decide (a ≠ ⟨[], [], []⟩))).length c (AC (((C.take i).map oneR).filter (fun a => decide (a ≠ ⟨[], [], []⟩)))) ∧ Own wv 127 1 OA ps.length oc (RW ps) ∧ PWo wv ps ∧ Frm [] w wv ∧ ∀ y ∈ ob A, w.heap.size ≤ y) ?_ ?_
        · skip
          refine VC.block ?_
          refine VC.loop (σ := Nat) (fun s => [(3, .slice A (((C.take i).map oneR).filter (fun a => decide (a ≠ ⟨[], [], []⟩))).length c), (4, .slice OA ps.length oc), (5, .int .i64 ((i : Nat) : Int)), (10, .pointer (some ⟨g10, 0, none⟩)), (11, encStr al), (12, .int .i64 (((s : Nat) : Int) - 1))]) (fun s wr => w18 = wr ∧ s ≤ al.length ∧ (64 : UInt8) ∉ al.drop s) (fun s => s) al.length (.cons rfl (.cons rfl (.cons rfl (.cons rfl (.cons rfl (.cons rfl .nil)))))) ⟨rfl, Nat.le_refl _, by simp⟩ ?_
          rintro j _ ⟨rfl, hj, hno⟩
          refine VC.seq ?_
          refine VC.seq ?_
          refine VC.region ?_
          refine Ops.r (Run.mv rfl) rfl ?_
          refine Ops.r (Run.bin rfl rfl (Bin.geq _ 0)) rfl ?_
          refine Ops.nil ?_
          refine thenQ_n ?_
          refine VC.sub [(3, _), (4, _), (5, _), (10, _), (11, _), (12, _), (100, _)] (.cons rfl (.cons rfl (.cons rfl (.cons rfl (.cons rfl (.cons rfl (.cons rfl .nil))))))) ?_
          refine VC.condD rfl (fun hc6 => ?_) (fun hc6 => ?_)
          · skip
            obtain ⟨m, rfl⟩ : ∃ m, j = m + 1 := ⟨j - 1, by omega⟩
            rw [show (((m + 1 : Nat) : Int) - 1) = ((m : Nat) : Int) by omega]
            have hgm := hdA_at (show m < al.length by omega)
            have hdm := hdA_drop (show m < al.length by omega)
            have e64 : (hdA al m).toNat = 64 ↔ hdA al m = 64 := u8n rfl
            refine VC.skip ?_
            refine thenQ_n ?_
            refine VC.sub [(3, _), (4, _), (5, _), (10, _), (11, _), (12, _)] (.cons rfl (.cons rfl (.cons rfl (.cons rfl (.cons rfl (.cons rfl .nil)))))) ?_
            refine VC.seq ?_
            refine VC.block ?_
            refine VC.seq ?_
            refine VC.region ?_
            refine Ops.r (Run.mv rfl) rfl ?_
            refine Ops.r (Run.mv rfl) rfl ?_
            refine Ops.r (Run.indexT _ rfl rfl Tryz.underlying9 hgm) rfl ?_
            refine Ops.r (Run.bin rfl rfl (Bin.eqlN _ 64)) rfl ?_
            refine Ops.nil ?_
            refine thenQ_n ?_
            refine VC.sub [(3, _), (4, _), (5, _), (10, _), (11, _), (12, _), (106, _)] (.cons rfl (.cons rfl (.cons rfl (.cons rfl (.cons rfl (.cons rfl (.cons rfl .nil))))))) ?_
            refine VC.condD rfl (fun hc7 => ?_) (fun hc7 => ?_)
            · skip
              have hbh := boxHost_at (by rw [hgm, e64.1 hc7]) hno
              refine VC.seq ?_
              refine VC.region ?_
              refine Ops.r (Run.mv rfl) rfl ?_
              refine Ops.r (Run.mv rfl) rfl ?_
              refine Ops.r (Run.sliceT 0 m rfl Tryz.underlying9 evB.none_ (evB.some_ rfl) (by omega) (by omega)) rfl ?_
              rw [show (al.drop 0).take (m - 0) = al.take m by simp]
              refine Ops.r (Run.fieldAddr rfl Tryz.underlying91 rfl Tryz.sizeOf9 (by decide)) rfl ?_
              refine Ops.st (Acts.store rfl rfl Tryz.sizeOf9 hb10 rfl rfl) ?_
              rintro w19 ⟨hb10n, fw19, _⟩
              have hb10 : Blk w19 g10 91 (AC1 ⟨nm, al.take m, []⟩).toArray := hb10n
              have hO := hO.frm fw19 (fun y hy h => by simp at h; subst h; exact nO hy)
              have hOA := hOA.frm fw19 (fun y hy h => by simp at h; subst h; exact nOA hy)
              have hP := hP.frm fw19 (fun z hz y hy h => by simp at h; subst h; exact nP z hz hy)
              have K := Frm.own K fw19 (fun y hy => by simp at hy; omega)
              refine Ops.nil ?_
              refine thenQ_n ?_
              refine VC.sub [(3, _), (4, _), (5, _), (10, _), (11, _), (12, _)] (.cons rfl (.cons rfl (.cons rfl (.cons rfl (.cons rfl (.cons rfl .nil)))))) ?_
              refine VC.seq ?_
              refine VC.region ?_
              refine Ops.r (Run.mv rfl) rfl ?_
              refine Ops.r (Run.mv rfl) rfl ?_
              refine Ops.r (Run.bin rfl rfl (Bin.add_i64 m 1 (by omega))) rfl ?_
              refine Ops.r (Run.sliceT (m + 1) al.length rfl Tryz.underlying9 (evB.some_ rfl) evB.none_ (by omega) (by omega)) rfl ?_
              rw [show (al.drop (m + 1)).take (al.length - (m + 1)) = al.drop (m + 1) from List.take_of_length_le (by simp)]
              refine Ops.r (Run.fieldAddr rfl Tryz.underlying91 rfl Tryz.sizeOf9 (by decide)) rfl ?_
              refine Ops.st (Acts.store rfl rfl Tryz.sizeOf9 hb10 rfl rfl) ?_
              rintro w20 ⟨hb10n, fw20, _⟩
              have hb10 : Blk w20 g10 91 (AC1 ⟨nm, al.take m, al.drop (m + 1)⟩).toArray := hb10n
              have hO := hO.frm fw20 (fun y hy h => by simp at h; subst h; exact nO hy)
              have hOA := hOA.frm fw20 (fun y hy h => by simp at h; subst h; exact nOA hy)
              have hP := hP.frm fw20 (fun z hz y hy h => by simp at h; subst h; exact nP z hz hy)
              have K := Frm.own K fw20 (fun y hy => by simp at hy; omega)
              refine Ops.nil ?_
              refine thenQ_n ?_
              refine VC.sub [(3, _), (4, _), (5, _), (10, _)] (.cons rfl (.cons rfl (.cons rfl (.cons rfl .nil)))) ?_
              refine VC.exit ?_
              refine blockQ_o rfl (thenQ_x (thenQ_x (blockQ_x ?_)))
              refine thenQ_n ⟨(), (.cons rfl (.cons rfl (.cons rfl (.cons rfl .nil)))), ?_⟩
              exact ⟨by rw [hbh]; exact hb10, hO, hOA, hP, K, hub⟩
            · skip
              refine VC.skip ?_
              refine blockQ_n (thenQ_n ?_)
              refine VC.sub [(3, _), (4, _), (5, _), (10, _), (11, _), (12, _)] (.cons rfl (.cons rfl (.cons rfl (.cons rfl (.cons rfl (.cons rfl .nil)))))) ?_
              refine VC.region ?_
              refine Ops.r (Run.mv rfl) rfl ?_
              refine Ops.r (Run.bin rfl rfl (Bin.subZ _ 1 (by omega) (by omega))) rfl ?_
              refine Ops.r (Run.asg rfl) rfl ?_
              refine Ops.nil ?_
              refine thenQ_n ⟨m, (.cons rfl (.cons rfl (.cons rfl (.cons rfl (.cons rfl (.cons rfl .nil)))))), ?_, ?_⟩
              · skip
                refine ⟨rfl, by omega, ?_⟩
                rw [hdm]
                simp only [List.mem_cons, not_or]
                exact ⟨fun e => hc7 (e64.2 e.symm), hno⟩
              · skip
                first | omega | (dsimp only; omega)
          · skip
            have hj0 : j = 0 := by omega
            rw [hj0, List.drop_zero] at hno
            have hbh := boxHost_no hno
            refine VC.exit ?_
            refine thenQ_x (thenQ_x (blockQ_x ?_))
            refine thenQ_n ⟨(), (.cons rfl (.cons rfl (.cons rfl (.cons rfl .nil)))), ?_⟩
            exact ⟨by rw [hbh]; exact hb10, hO, hOA, hP, K, hub⟩
        · skip
          rintro _ wv ⟨hb10, hO, hOA, hP, K, hub⟩ Γ hΓ
          rw [h1r] at hsn
          generalize boxHost al = bh at *
          obtain ⟨bx, hs⟩ := bh
          dsimp only at hb10 hsn h1r
          refine thenQ_n (VC.sub _ hΓ ?_)
          refine VC.seq ?_
          refine VC.split1 [(3, _), (4, _), (5, _), (10, _)] (.cons rfl (.cons rfl (.cons rfl (.cons rfl .nil)))) 128 (.bool (decide ((nm ≠ [] ∨ bx ≠ []) ∨ hs ≠ []))) ?_ ?_
          · refine VC.region ?_
            refine Ops.r (Run.fieldAddr rfl Tryz.underlying91 rfl Tryz.sizeOf9 (by decide)) rfl ?_
            refine Ops.r (Run.load rfl Tryz.isAgg9 (hb10.cell 0)) rfl ?_
            refine Ops.r (Run.neqT rfl rfl) rfl ?_
            by_cases hs118 : nm ≠ []
            · skip
              refine Ops.r (Run.mv rfl) rfl ?_
              refine Ops.sk rfl au rfl ?_
              refine Ops.sk rfl au rfl ?_
              refine Ops.sk rfl au rfl ?_
              refine Ops.r (Run.pickT rfl rfl au) rfl ?_
              refine Ops.r (Run.mv rfl) rfl ?_
              refine Ops.sk rfl au rfl ?_
              refine Ops.sk rfl au rfl ?_
              refine Ops.sk rfl au rfl ?_
              refine Ops.r (Run.pickT rfl rfl au) rfl ?_
              refine Ops.nil ?_
              refine thenQ_n ⟨(.cons (congrArg (fun b => some (Value.bool b)) (by simp [*])) (.cons rfl (.cons rfl (.cons rfl (.cons rfl .nil))))), rfl⟩
            · skip
              refine Ops.r (Run.mv rfl) rfl ?_
              refine Ops.rg rfl au (Run.fieldAddr rfl Tryz.underlying91 rfl Tryz.sizeOf9 (by decide)) rfl ?_
              refine Ops.rg rfl au (Run.load rfl Tryz.isAgg9 (hb10.cell 1)) rfl ?_
              refine Ops.rg rfl au (Run.neqT rfl rfl) rfl ?_
              by_cases hs122 : bx ≠ []
              · skip
                refine Ops.r (Run.pickF rfl rfl au) rfl ?_
                refine Ops.r (Run.mv rfl) rfl ?_
                refine Ops.sk rfl au rfl ?_
                refine Ops.sk rfl au rfl ?_
                refine Ops.sk rfl au rfl ?_
                refine Ops.r (Run.pickT rfl rfl au) rfl ?_
                refine Ops.nil ?_
                refine thenQ_n ⟨(.cons (congrArg (fun b => some (Value.bool b)) (by simp [*])) (.cons rfl (.cons rfl (.cons rfl (.cons rfl .nil))))), rfl⟩
              · skip
                refine Ops.r (Run.pickF rfl rfl au) rfl ?_
                refine Ops.r (Run.mv rfl) rfl ?_
                refine Ops.rg rfl au (Run.fieldAddr rfl Tryz.underlying91 rfl Tryz.sizeOf9 (by decide)) rfl ?_
                refine Ops.rg rfl au (Run.load rfl Tryz.isAgg9 (hb10.cell 2)) rfl ?_
                refine Ops.rg rfl au (Run.neqT rfl rfl) rfl ?_
                by_cases hs127 : hs ≠ []
                · skip
                  refine Ops.r (Run.pickF rfl rfl au) rfl ?_
                  refine Ops.nil ?_
                  refine thenQ_n ⟨(.cons (congrArg (fun b => some (Value.bool b)) (by simp [*])) (.cons rfl (.cons rfl (.cons rfl (.cons rfl .nil))))), rfl⟩
                · skip
                  refine Ops.r (Run.pickF rfl rfl au) rfl ?_
                  refine Ops.nil ?_
                  refine thenQ_n ⟨(.cons (congrArg (fun b => some (Value.bool b)) (by simp [*])) (.cons rfl (.cons rfl (.cons rfl (.cons rfl .nil))))), rfl⟩
          · intro Γ hΓ
            refine thenQ_n (VC.sub _ hΓ ?_)
            refine VC.meet (σ := Option Addr × Nat) (fun s => [(3, .slice s.1 (((C.take (i + 1)).map oneR).filter (fun a => decide (a ≠ ⟨[], [], []⟩))).length s.2), (4, .slice OA ps.length oc), (5, .int .i64 ((i : Nat) : Int))]) (fun s wu => Own wu 91 3 s.1 (((C.take (i + 1)).map oneR).filter (fun a => decide (a ≠ ⟨[], [], []⟩))).length s.2 (AC (((C.take (i + 1)).map oneR).filter (fun a => decide (a ≠ ⟨[], [], []⟩)))) ∧ Own wu 127 1 OA ps.length oc (RW ps) ∧ PWo wu ps ∧ Frm [] w wu ∧ ∀ y ∈ ob s.1, w.heap.size ≤ y) ?_ ?_
            · skip
              refine VC.condD rfl (fun hc8 => ?_) (fun hc8 => ?_)
              · skip
                have hne : (⟨nm, bx, hs⟩ : Adr) ≠ ⟨[], [], []⟩ := fun e => by
                  injection e with e1 e2 e3
                  rcases hc8 with (h | h) | h
                  · exact h e1
                  · exact h e2
                  · exact h e3
                rw [if_pos hne] at hsn
                refine VC.region ?_
                refine Ops.r (Run.mv rfl) rfl ?_
                refine Ops.r (Run.loadA rfl Tryz.isAgg91 Tryz.sizeOf91 (fun j v hj => hb10.cells j v hj) (by first | rfl | (simp; done))) rfl ?_
                refine Ops.m (Does.buildS1 rfl Tryz.underlying88 Tryz.sizeOf91 zero91 (by decide) (by decide) rfl rfl) rfl ?_
                rintro _ w21 ⟨rfl, hF21⟩
                have hrd21 := hrdA (x := ⟨nm, bx, hs⟩) hF21
                have hO := hO.frm hF21.frm (by simp)
                have hOA := hOA.frm hF21.frm (by simp)
                have hP := hP.frm0 hF21.frm
                have K := K.trans hF21.frm (by simp)
                refine Ops.m (Does.app rfl rfl Tryz.underlying88 (info91) rfl (by decide) hO hrd21 (AC_one _) (by omega) (by omega)) rfl ?_
                rintro _ w22 ⟨A22, c22, rfl, hO22, f22, hob22⟩
                have sK := K.size
                have hOA := hOA.frm f22 (fun y hy h => hOA.ne_own hO (by decide) y hy h)
                have hP := hP.own f22 hO (by decide)
                have K := Frm.own K f22 hub
                have hO22 : Own w22 91 3 A22 (((C.take (i + 1)).map oneR).filter (fun a => decide (a ≠ ⟨[], [], []⟩))).length c22 (AC (((C.take (i + 1)).map oneR).filter (fun a => decide (a ≠ ⟨[], [], []⟩)))) := by rw [hsn, AC_append, List.length_append]; exact hO22
                refine Ops.r (Run.asg rfl) rfl ?_
                refine Ops.nil ?_
                refine thenQ_n ⟨(A22, c22), (.cons (by rw [hsn, List.length_append]; rfl) (.cons rfl (.cons rfl .nil))), ?_⟩
                exact ⟨hO22, hOA, hP, K, up_app hub hob22 sK⟩
              · skip
                have hne : ¬ (⟨nm, bx, hs⟩ : Adr) ≠ ⟨[], [], []⟩ := fun e => e (by
                  have h1 : nm = [] := Classical.not_not.1 (fun h => hc8 (.inl (.inl h)))
                  have h2 : bx = [] := Classical.not_not.1 (fun h => hc8 (.inl (.inr h)))
                  have h3 : hs = [] := Classical.not_not.1 (fun h => hc8 (.inr h))
                  rw [h1, h2, h3])
                rw [if_neg hne, List.append_nil] at hsn
                refine VC.skip ?_
                refine thenQ_n ⟨(A, c), (.cons (by rw [hsn]; rfl) (.cons rfl (.cons rfl .nil))), ?_⟩
                exact ⟨by rw [hsn]; exact hO, hOA, hP, K, hub⟩
            · skip
              rintro ⟨A3, c3⟩ wu ⟨hO3, hOA3, hP3, K3, hub3⟩ Γ hΓ
              dsimp only at hO3 hub3
              refine blockQ_n (thenQ_n (VC.sub _ hΓ ?_))
              refine VC.region ?_
              refine Ops.r (Run.mv rfl) rfl ?_
              refine Ops.r (Run.bin rfl rfl (Bin.add_i64 _ 1 (by omega))) rfl ?_
              refine Ops.r (Run.asg rfl) rfl ?_
              refine Ops.nil ?_
              refine thenQ_n ⟨(i + 1, A3, c3), (.cons rfl (.cons rfl (.cons rfl .nil))), ?_, ?_⟩
              · skip
                exact ⟨by show i + 1 ≤ C.length; omega, hO3, hOA3, hP3, K3, hub3⟩
              · skip
                dsimp only; omega
  · skip
    have hil : i = C.length := by omega
    subst hil
    rw [List.take_length] at hO ⊢
    refine VC.exit ?_
    refine thenQ_x (thenQ_x (blockQ_x ?_))
    refine thenQ_n ?_
    refine VC.sub [(3, _)] (.cons rfl .nil) ?_
    refine VC.seq ?_
    refine VC.region ?_
    refine Ops.r (Run.mv rfl) rfl ?_
    refine Ops.r (Run.asg rfl) rfl ?_
    refine Ops.nil ?_
    refine thenQ_n ?_
    refine VC.sub [(2, _)] (.cons rfl .nil) ?_
    refine VC.ret ?_
    refine end1 rfl ?_
    exact ⟨K, A, c, rfl, hO, hub⟩

end Go.Proofs.YtenbjndldenkfaaGreatDoor

namespace Go.Proofs.YtenbjndldenkfaaGreatDoor
open Go.RowKit Go.Sort

theorem dig_one : ∀ n : Nat, n < 10 → (([48, 49, 50, 51, 52, 53, 54, 55, 56, 57] : Tx).drop n).take (n + 1 - n) = Lib.decDigits n := by decide +kernel
theorem dec_more {n : Nat} (h : ¬ n < 10) : Lib.decDigits n = Lib.decDigits (n / 10) ++ Lib.decDigits (n % 10) := by
  conv => lhs; unfold Lib.decDigits
  rw [dif_neg h]
  congr 1
  conv => rhs; unfold Lib.decDigits
  rw [dif_pos (by omega)]

set_option maxRecDepth 100000 in
theorem rdig_step (n : Nat) (hn : n ≤ 4611686018427387904) (ih : ∀ m, m < n → ∀ w, Calls Tryz.prog 29 #[.int .i64 ((m : Nat) : Int)] w fun e w' => e = .returned (encStr (Lib.decDigits m)) ∧ w = w') (w : World) :
    Calls Tryz.prog 29 #[.int .i64 ((n : Nat) : Int)] w fun e w' => e = .returned (encStr (Lib.decDigits n)) ∧ w = w' := by
  refine VC.calls (nt := 16) (res := #[.tmp 2]) Tryz.func29 rfl Tryz.ntmps29 Tryz.results29 rfl ?_
  refine VC.seq ?_
  refine VC.region ?_
  refine Ops.r (Run.asg rfl) rfl ?_
  refine Ops.nil ?_
  refine thenQ_n ?_
  refine VC.sub [(0, _)] (.cons rfl .nil) ?_
  refine VC.seq ?_
  refine VC.seq ?_
  refine VC.region ?_
  refine Ops.r (Run.mv rfl) rfl ?_
  refine Ops.r (Run.bin rfl rfl (Bin.lssN _ 10)) rfl ?_
  refine Ops.nil ?_
  refine thenQ_n ?_
  refine VC.sub [(0, _), (4, _)] (.cons rfl (.cons rfl .nil)) ?_
  refine VC.condD rfl (fun hc1 => ?_) (fun hc1 => ?_)
  · skip
    refine VC.seq ?_
    refine VC.region ?_
    refine Ops.r (Run.mv rfl) rfl ?_
    refine Ops.r (Run.mv rfl) rfl ?_
    refine Ops.r (Run.bin rfl rfl (Bin.add_i64 _ 1 (by omega))) rfl ?_
    refine Ops.r (Run.sliceT (s := [48, 49, 50, 51, 52, 53, 54, 55, 56, 57]) n (n + 1) rfl Tryz.underlying9 (evB.some_ rfl) (evB.some_ rfl) (by omega) (by simp; omega)) rfl ?_
    rw [dig_one n hc1]
    refine Ops.r (Run.asg rfl) rfl ?_
    refine Ops.nil ?_
    refine thenQ_n ?_
    refine VC.sub [(2, _)] (.cons rfl .nil) ?_
    refine VC.ret ?_
    refine thenQ_r (end1 rfl ?_)
    exact ⟨rfl, rfl⟩
  · skip
    refine VC.skip ?_
    refine thenQ_n ?_
    refine VC.sub [(0, _)] (.cons rfl .nil) ?_
    refine VC.seq ?_
    refine VC.region ?_
    refine Ops.r (Run.mv rfl) rfl ?_
    refine Ops.r (Run.bin rfl rfl (Bin.quo_i64 n 10 (by omega) (by omega))) rfl ?_
    refine Ops.cl (Enters.fn (evs.cons rfl evs.nil) Tryz.call29) ((ih (n / 10) (by omega) _)) rfl ?_
    rintro e _ ⟨rfl, rfl⟩
    refine ⟨_, rfl, ?_⟩
    refine Ops.r (Run.mv rfl) rfl ?_
    refine Ops.r (Run.bin rfl rfl (Bin.remN _ 10 (by omega))) rfl ?_
    refine Ops.cl (Enters.fn (evs.cons rfl evs.nil) Tryz.call29) ((ih (n % 10) (by omega) _)) rfl ?_
    rintro e _ ⟨rfl, rfl⟩
    refine ⟨_, rfl, ?_⟩
    refine Ops.r (Run.addT rfl rfl (by have h1 := decL (n / 10); have h2 := decL (n % 10); omega)) rfl ?_
    refine Ops.r (Run.asg rfl) rfl ?_
    refine Ops.nil ?_
    refine thenQ_n ?_
    refine VC.sub [(2, _)] (.cons rfl .nil) ?_
    refine VC.ret ?_
    refine end1 rfl ?_
    exact ⟨by rw [dec_more hc1], rfl⟩

theorem rdigits_spec (n : Nat) : n ≤ 4611686018427387904 → ∀ w : World, Calls Tryz.prog 29 #[.int .i64 ((n : Nat) : Int)] w fun e w' => e = .returned (encStr (Lib.decDigits n)) ∧ w = w' := by
  induction n using Nat.strongRecOn with
  | ind n ih => exact fun hn w => rdig_step n hn (fun m hm w => ih m hm (by omega) w) w

theorem slice_onE {s : Tx} {i : Nat} {x : UInt8} (h : s[i]? = some x) : (s.drop i).take (i + 1 - i) = [x] := by
  have hl := (List.getElem?_eq_some_iff.1 h).1
  rw [List.drop_eq_getElem_cons hl, show i + 1 - i = 1 by omega]
  rw [List.getElem?_eq_getElem hl] at h
  rw [Option.some.inj h]
  rfl
theorem take_hdE {a : Tx} {j : Nat} (h : j < a.length) : a.take (j + 1) = a.take j ++ [hdA a j] := by
  rw [take_snoc h]
  have e := hdA_at h
  rw [List.getElem?_eq_getElem h] at e
  rw [Option.some.inj e]

set_option maxRecDepth 100000 in
set_option maxHeartbeats 800000 in
theorem rstring_spec (q : Tx) (w : World) (hq : q.length ≤ 400000) : Calls Tryz.prog 11 #[encStr q] w fun e w' => e = .returned (encStr (strQ q)) ∧ w = w' := by
  refine VC.calls (nt := 54) (res := #[.tmp 2]) Tryz.func11 rfl Tryz.ntmps11 Tryz.results11 rfl ?_
  refine VC.seq ?_
  refine VC.region ?_
  refine Ops.r (Run.asg rfl) rfl ?_
  refine Ops.nil ?_
  refine thenQ_n ?_
  refine VC.sub [(0, _)] (.cons rfl .nil) ?_
  refine VC.seq ?_
  refine VC.region ?_
  refine Ops.r (Run.asg rfl) rfl ?_
  refine Ops.nil ?_
  refine thenQ_n ?_
  refine VC.seq ?_
  refine VC.seq ?_
  refine VC.region ?_
  refine Ops.r (v := .int .i64 ((0 : Nat) : Int)) (Run.asg rfl) rfl ?_
  refine Ops.nil ?_
  refine thenQ_n ?_
  refine VC.block ?_
  refine VC.loop (σ := Nat) (fun s => [(0, encStr q), (3, encStr (34 :: escQ (q.take s))), (4, .int .i64 ((s : Nat) : Int))]) (fun s wr => w = wr ∧ s ≤ q.length ∧ (∀ c ∈ q.take s, 32 ≤ c.toNat ∧ c.toNat ≤ 126) ∧ (0 < s → q.length ≤ 200)) (fun s => q.length - s) 0 (.cons rfl (.cons rfl (.cons rfl .nil))) ⟨rfl, Nat.zero_le _, by simp, fun h => absurd h (by omega)⟩ ?_
  rintro k _ ⟨rfl, hk, hall, h200⟩
  have hel := escQ_len (q.take k)
  rw [List.length_take] at hel
  refine VC.seq ?_
  refine VC.seq ?_
  refine VC.region ?_
  refine Ops.r (Run.mv rfl) rfl ?_
  refine Ops.r (Run.mv rfl) rfl ?_
  refine Ops.r (Run.lenT rfl Tryz.underlying9) rfl ?_
  refine Ops.r (Run.bin rfl rfl (Bin.lssN _ _)) rfl ?_
  refine Ops.nil ?_
  refine thenQ_n ?_
  refine VC.sub [(0, _), (3, _), (4, _), (8, _)] (.cons rfl (.cons rfl (.cons rfl (.cons rfl .nil)))) ?_
  refine VC.condD rfl (fun hc1 => ?_) (fun hc1 => ?_)
  · skip
    have hgx := hdA_at hc1
    have hts := take_hdE hc1
    have hmem : hdA q k ∈ q := List.mem_of_getElem? hgx
    generalize hdA q k = x at *
    have e34 : x.toNat = 34 ↔ x = 34 := u8n rfl
    have e92 : x.toNat = 92 ↔ x = 92 := u8n rfl
    refine VC.skip ?_
    refine thenQ_n ?_
    refine VC.sub [(0, _), (3, _), (4, _)] (.cons rfl (.cons rfl (.cons rfl .nil))) ?_
    refine VC.seq ?_
    refine VC.block ?_
    refine VC.seq ?_
    refine VC.seq ?_
    refine VC.split1 [(0, _), (3, _), (4, _)] (.cons rfl (.cons rfl (.cons rfl .nil))) 25 (.bool (decide ((200 < q.length ∨ x.toNat < 32) ∨ 127 ≤ x.toNat))) ?_ ?_
    · refine VC.region ?_
      refine Ops.r (Run.mv rfl) rfl ?_
      refine Ops.r (Run.lenT rfl Tryz.underlying9) rfl ?_
      refine Ops.r (Run.bin rfl rfl (Bin.gtrN _ 200)) rfl ?_
      by_cases hs13 : 200 < q.length
      · skip
        refine Ops.r (Run.mv rfl) rfl ?_
        refine Ops.sk rfl au rfl ?_
        refine Ops.sk rfl au rfl ?_
        refine Ops.sk rfl au rfl ?_
        refine Ops.sk rfl au rfl ?_
        refine Ops.r (Run.pickT rfl rfl au) rfl ?_
        refine Ops.r (Run.mv rfl) rfl ?_
        refine Ops.sk rfl au rfl ?_
        refine Ops.sk rfl au rfl ?_
        refine Ops.sk rfl au rfl ?_
        refine Ops.sk rfl au rfl ?_
        refine Ops.r (Run.pickT rfl rfl au) rfl ?_
        refine Ops.nil ?_
        refine thenQ_n ⟨(.cons (congrArg (fun b => some (Value.bool b)) (by simp [*])) (.cons rfl (.cons rfl (.cons rfl .nil)))), rfl⟩
      · skip
        refine Ops.r (Run.mv rfl) rfl ?_
        refine Ops.rg rfl au (Run.mv rfl) rfl ?_
        refine Ops.rg rfl au (Run.mv rfl) rfl ?_
        refine Ops.rg rfl au (Run.indexT _ rfl rfl Tryz.underlying9 hgx) rfl ?_
        refine Ops.rg rfl au (Run.bin rfl rfl (Bin.lssN _ 32)) rfl ?_
        by_cases hs18 : x.toNat < 32
        · skip
          refine Ops.r (Run.pickF rfl rfl au) rfl ?_
          refine Ops.r (Run.mv rfl) rfl ?_
          refine Ops.sk rfl au rfl ?_
          refine Ops.sk rfl au rfl ?_
          refine Ops.sk rfl au rfl ?_
          refine Ops.sk rfl au rfl ?_
          refine Ops.r (Run.pickT rfl rfl au) rfl ?_
          refine Ops.nil ?_
          refine thenQ_n ⟨(.cons (congrArg (fun b => some (Value.bool b)) (by simp [*])) (.cons rfl (.cons rfl (.cons rfl .nil)))), rfl⟩
        · skip
          refine Ops.r (Run.pickF rfl rfl au) rfl ?_
          refine Ops.r (Run.mv rfl) rfl ?_
          refine Ops.rg rfl au (Run.mv rfl) rfl ?_
          refine Ops.rg rfl au (Run.mv rfl) rfl ?_
          refine Ops.rg rfl au (Run.indexT _ rfl rfl Tryz.underlying9 hgx) rfl ?_
          refine Ops.rg rfl au (Run.bin rfl rfl (Bin.geqN _ 127)) rfl ?_
          by_cases hs24 : 127 ≤ x.toNat
          · skip
            refine Ops.r (Run.pickF rfl rfl au) rfl ?_
            refine Ops.nil ?_
            refine thenQ_n ⟨(.cons (congrArg (fun b => some (Value.bool b)) (by simp [*])) (.cons rfl (.cons rfl (.cons rfl .nil)))), rfl⟩
          · skip
            refine Ops.r (Run.pickF rfl rfl au) rfl ?_
            refine Ops.nil ?_
            refine thenQ_n ⟨(.cons (congrArg (fun b => some (Value.bool b)) (by simp [*])) (.cons rfl (.cons rfl (.cons rfl .nil)))), rfl⟩
    · intro Γ hΓ
      refine thenQ_n (VC.sub _ hΓ ?_)
      refine VC.condD rfl (fun hc2 => ?_) (fun hc2 => ?_)
      · skip
        have hnp : ¬ PlainT q := fun h => by have := h.2; have := h.1 x hmem; omega
        have hdl := decL q.length
        refine VC.seq ?_
        refine VC.region ?_
        refine Ops.r (Run.mv rfl) rfl ?_
        refine Ops.r (Run.lenT rfl Tryz.underlying9) rfl ?_
        refine Ops.cl (Enters.fn (evs.cons rfl evs.nil) Tryz.call29) ((rdigits_spec q.length (by omega) _)) rfl ?_
        rintro e _ ⟨rfl, rfl⟩
        refine ⟨_, rfl, ?_⟩
        refine Ops.r (Run.addT (a := [123]) rfl rfl (by simp; omega)) rfl ?_
        refine Ops.r (Run.addT (b := [125, 13, 10]) rfl rfl (by simp; omega)) rfl ?_
        refine Ops.r (Run.mv rfl) rfl ?_
        refine Ops.r (Run.addT rfl rfl (by simp; omega)) rfl ?_
        refine Ops.r (Run.asg rfl) rfl ?_
        refine Ops.nil ?_
        refine thenQ_n ?_
        refine VC.sub [(2, _)] (.cons rfl .nil) ?_
        refine VC.ret ?_
        refine thenQ_r (blockQ_r (thenQ_r (thenQ_r (blockQ_r (thenQ_r (end1 rfl ?_))))))
        exact ⟨by unfold strQ; rw [if_neg hnp]; simp, rfl⟩
      · skip
        refine VC.skip ?_
        refine thenQ_n ?_
        refine VC.sub [(0, _), (3, _), (4, _)] (.cons rfl (.cons rfl (.cons rfl .nil))) ?_
        refine VC.seq ?_
        refine VC.seq ?_
        refine VC.split1 [(0, _), (3, _), (4, _)] (.cons rfl (.cons rfl (.cons rfl .nil))) 42 (.bool (decide ((x.toNat = 34) ∨ (x.toNat = 92)))) ?_ ?_
        · by_cases hs0 : x.toNat = 34
          · skip
            refine VC.region ?_
            refine Ops.r (Run.mv rfl) rfl ?_
            refine Ops.r (Run.mv rfl) rfl ?_
            refine Ops.r (Run.indexT _ rfl rfl Tryz.underlying9 hgx) rfl ?_
            refine Ops.r (Run.bin rfl rfl (Bin.eqlN _ 34)) rfl ?_
            refine Ops.r (Run.mv rfl) rfl ?_
            refine Ops.sk rfl au rfl ?_
            refine Ops.sk rfl au rfl ?_
            refine Ops.sk rfl au rfl ?_
            refine Ops.sk rfl au rfl ?_
            refine Ops.r (Run.pickT rfl rfl au) rfl ?_
            refine Ops.nil ?_
            refine thenQ_n ⟨(.cons (by rw [dor1 hs0]; rfl) (.cons rfl (.cons rfl (.cons rfl .nil)))), rfl⟩
          · skip
            refine VC.region ?_
            refine Ops.r (Run.mv rfl) rfl ?_
            refine Ops.r (Run.mv rfl) rfl ?_
            refine Ops.r (Run.indexT _ rfl rfl Tryz.underlying9 hgx) rfl ?_
            refine Ops.r (Run.bin rfl rfl (Bin.eqlN _ 34)) rfl ?_
            refine Ops.r (Run.mv rfl) rfl ?_
            refine Ops.rg rfl au (Run.mv rfl) rfl ?_
            refine Ops.rg rfl au (Run.mv rfl) rfl ?_
            refine Ops.rg rfl au (Run.indexT _ rfl rfl Tryz.underlying9 hgx) rfl ?_
            refine Ops.rg rfl au (Run.bin rfl rfl (Bin.eqlN _ 92)) rfl ?_
            refine Ops.r (Run.pickF rfl rfl au) rfl ?_
            refine Ops.nil ?_
            refine thenQ_n ⟨(.cons (by rw [dor0 hs0]; rfl) (.cons rfl (.cons rfl (.cons rfl .nil)))), rfl⟩
        · intro Γ hΓ
          refine thenQ_n (VC.sub _ hΓ ?_)
          refine VC.meet (σ := Unit) (fun s => [(0, encStr q), (3, encStr ((34 :: escQ (q.take k)) ++ (if x = 34 ∨ x = 92 then [92] else []))), (4, .int .i64 ((k : Nat) : Int))]) (fun s wr => w = wr) ?_ ?_
          · skip
            refine VC.condD rfl (fun hc3 => ?_) (fun hc3 => ?_)
            · skip
              refine VC.region ?_
              refine Ops.r (Run.mv rfl) rfl ?_
              refine Ops.r (Run.addT (b := [92]) rfl rfl (by simp; omega)) rfl ?_
              refine Ops.r (Run.asg rfl) rfl ?_
              refine Ops.nil ?_
              refine thenQ_n ⟨(), (.cons rfl (.cons (by rw [if_pos (hc3.imp e34.1 e92.1)]; rfl) (.cons rfl .nil))), ?_⟩
              exact rfl
            · skip
              refine VC.skip ?_
              refine thenQ_n ⟨(), (.cons rfl (.cons (by rw [if_neg (fun h => hc3 (h.imp e34.2 e92.2)), List.append_nil]; rfl) (.cons rfl .nil))), ?_⟩
              exact rfl
          · skip
            rintro _ _ rfl Γ hΓ
            have hsn : ((34 :: escQ (q.take k)) ++ (if x = 34 ∨ x = 92 then [92] else [])) ++ [x] = 34 :: escQ (q.take (k + 1)) := by
              rw [hts, escQ_app]
              by_cases h : x = 34 ∨ x = 92 <;> simp [escQ, h]
            have hs2 : ((34 :: escQ (q.take k)) ++ (if x = 34 ∨ x = 92 then [92] else []) : Tx).length ≤ 2 * k + 2 := by
              rw [List.length_append, List.length_cons]
              split
              · simp; omega
              · simp; omega
            generalize ((34 :: escQ (q.take k)) ++ (if x = 34 ∨ x = 92 then [92] else []) : Tx) = sn at *
            refine thenQ_n (VC.sub _ hΓ ?_)
            refine VC.region ?_
            refine Ops.r (Run.mv rfl) rfl ?_
            refine Ops.r (Run.mv rfl) rfl ?_
            refine Ops.r (Run.mv rfl) rfl ?_
            refine Ops.r (Run.mv rfl) rfl ?_
            refine Ops.r (Run.bin rfl rfl (Bin.add_i64 _ 1 (by omega))) rfl ?_
            refine Ops.r (Run.sliceT k (k + 1) rfl Tryz.underlying9 (evB.some_ rfl) (evB.some_ rfl) (by omega) (by omega)) rfl ?_
            rw [slice_onE hgx]
            refine Ops.r (Run.addT rfl rfl (by simp; omega)) rfl ?_
            refine Ops.r (Run.asg rfl) rfl ?_
            refine Ops.nil ?_
            refine blockQ_n (thenQ_n ?_)
            refine VC.sub [(0, _), (3, _), (4, _)] (.cons rfl (.cons rfl (.cons rfl .nil))) ?_
            refine VC.region ?_
            refine Ops.r (Run.mv rfl) rfl ?_
            refine Ops.r (Run.bin rfl rfl (Bin.add_i64 _ 1 (by omega))) rfl ?_
            refine Ops.r (Run.asg rfl) rfl ?_
            refine Ops.nil ?_
            refine thenQ_n ⟨(k + 1), (.cons rfl (.cons (by rw [← hsn]; rfl) (.cons rfl .nil))), ?_, ?_⟩
            · skip
              refine ⟨rfl, hc1, fun y hy => ?_, fun _ => by omega⟩
              rw [hts] at hy
              rcases List.mem_append.1 hy with h | h
              · exact hall y h
              · simp only [List.mem_singleton] at h; subst h; omega
            · skip
              first | omega | (dsimp only; omega)
  · skip
    have hkl : k = q.length := by omega
    subst hkl
    rw [List.take_length] at hall hel ⊢
    have hpl : PlainT q := ⟨hall, by by_cases h0 : 0 < q.length; exact h200 h0; omega⟩
    refine VC.exit ?_
    refine thenQ_x (thenQ_x (blockQ_x ?_))
    refine thenQ_n ?_
    refine VC.sub [(3, _)] (.cons rfl .nil) ?_
    refine VC.seq ?_
    refine VC.region ?_
    refine Ops.r (Run.mv rfl) rfl ?_
    refine Ops.r (Run.addT (b := [34]) rfl rfl (by simp; omega)) rfl ?_
    refine Ops.r (Run.asg rfl) rfl ?_
    refine Ops.nil ?_
    refine thenQ_n ?_
    refine VC.sub [(2, _)] (.cons rfl .nil) ?_
    refine VC.ret ?_
    refine end1 rfl ?_
    exact ⟨by unfold strQ; rw [if_pos hpl]; rfl, rfl⟩

set_option maxRecDepth 100000 in
theorem rnil_spec (q : Tx) (w : World) (hq : q.length ≤ 400000) : Calls Tryz.prog 64 #[encStr q] w fun e w' => e = .returned (encStr (nstrQ q)) ∧ w = w' := by
  refine VC.calls (nt := 7) (res := #[.tmp 2]) Tryz.func64 rfl Tryz.ntmps64 Tryz.results64 rfl ?_
  refine VC.seq ?_
  refine VC.region ?_
  refine Ops.r (Run.asg rfl) rfl ?_
  refine Ops.nil ?_
  refine thenQ_n ?_
  refine VC.sub [(0, _)] (.cons rfl .nil) ?_
  refine VC.seq ?_
  refine VC.seq ?_
  refine VC.region ?_
  refine Ops.r (Run.mv rfl) rfl ?_
  refine Ops.r (Run.eqlT rfl rfl) rfl ?_
  refine Ops.nil ?_
  refine thenQ_n ?_
  refine VC.sub [(0, _), (4, _)] (.cons rfl (.cons rfl .nil)) ?_
  refine VC.condD rfl (fun hc1 => ?_) (fun hc1 => ?_)
  · skip
    refine VC.seq ?_
    refine VC.region ?_
    refine Ops.r (Run.asg rfl) rfl ?_
    refine Ops.nil ?_
    refine thenQ_n ?_
    refine VC.sub [(2, _)] (.cons rfl .nil) ?_
    refine VC.ret ?_
    refine thenQ_r (end1 rfl ?_)
    exact ⟨by unfold nstrQ; rw [if_pos hc1]; rfl, rfl⟩
  · skip
    refine VC.skip ?_
    refine thenQ_n ?_
    refine VC.sub [(0, _)] (.cons rfl .nil) ?_
    refine VC.seq ?_
    refine VC.region ?_
    refine Ops.r (Run.mv rfl) rfl ?_
    refine Ops.cl (Enters.fn (evs.cons rfl evs.nil) Tryz.call11) ((rstring_spec q _ (by omega))) rfl ?_
    rintro e _ ⟨rfl, rfl⟩
    refine ⟨_, rfl, ?_⟩
    refine Ops.r (Run.asg rfl) rfl ?_
    refine Ops.nil ?_
    refine thenQ_n ?_
    refine VC.sub [(2, _)] (.cons rfl .nil) ?_
    refine VC.ret ?_
    refine end1 rfl ?_
    exact ⟨by unfold nstrQ; rw [if_neg hc1], rfl⟩

set_option maxRecDepth 100000 in
theorem rfield_spec (q nm non : Tx) (w : World) (hq : q.length ≤ 400000) (hnl : nm.length ≤ 1000000) : Calls Tryz.prog 36 #[encStr q, encStr nm, encStr non] w fun e w' => e = .returned (encStr (fieldS q nm non)) ∧ Frm [] w w' := by
  have K := Frm.refl [] w
  have hfl := findH_len q nm
  refine VC.calls (nt := 19) (res := #[.tmp 6]) Tryz.func36 rfl Tryz.ntmps36 Tryz.results36 rfl ?_
  refine VC.seq ?_
  refine VC.region ?_
  refine Ops.r (Run.asg rfl) rfl ?_
  refine Ops.nil ?_
  refine thenQ_n ?_
  refine VC.sub [(0, _), (1, _), (2, _)] (.cons rfl (.cons rfl (.cons rfl .nil))) ?_
  refine VC.seq ?_
  refine VC.region ?_
  refine Ops.r (Run.mv rfl) rfl ?_
  refine Ops.r (Run.mv rfl) rfl ?_
  refine Ops.cl (Enters.fn (evs.cons rfl (evs.cons rfl evs.nil)) Tryz.call62) ((rfind17_spec q nm _ (by omega) hnl)) rfl ?_
  rintro e w1 ⟨rfl, f1⟩
  refine ⟨_, rfl, ?_⟩
  have K := K.trans f1 (by simp)
  refine Ops.r (Run.mv rfl) rfl ?_
  refine Ops.r (Run.extract rfl rfl) rfl ?_
  refine Ops.r (Run.extract rfl rfl) rfl ?_
  refine Ops.r (Run.asg rfl) rfl ?_
  refine Ops.r (Run.asg rfl) rfl ?_
  refine Ops.nil ?_
  refine thenQ_n ?_
  refine VC.sub [(2, _), (7, _), (8, _)] (.cons rfl (.cons rfl (.cons rfl .nil))) ?_
  refine VC.seq ?_
  refine VC.seq ?_
  refine VC.region ?_
  refine Ops.r (Run.mv rfl) rfl ?_
  refine Ops.nil ?_
  refine thenQ_n ?_
  refine VC.sub [(2, _), (7, _), (15, _)] (.cons rfl (.cons rfl (.cons rfl .nil))) ?_
  refine VC.condB rfl (fun hc1 => ?_) (fun hc1 => ?_)
  · skip
    refine VC.seq ?_
    refine VC.region ?_
    refine Ops.r (Run.mv rfl) rfl ?_
    refine Ops.cl (Enters.fn (evs.cons rfl evs.nil) Tryz.call11) ((rstring_spec (findH q nm).1 _ (by omega))) rfl ?_
    rintro e _ ⟨rfl, rfl⟩
    refine ⟨_, rfl, ?_⟩
    refine Ops.r (Run.asg rfl) rfl ?_
    refine Ops.nil ?_
    refine thenQ_n ?_
    refine VC.sub [(6, _)] (.cons rfl .nil) ?_
    refine VC.ret ?_
    refine thenQ_r (end1 rfl ?_)
    exact ⟨by unfold fieldS; rw [if_pos hc1], K⟩
  · skip
    refine VC.skip ?_
    refine thenQ_n ?_
    refine VC.sub [(2, _)] (.cons rfl .nil) ?_
    refine VC.seq ?_
    refine VC.region ?_
    refine Ops.r (Run.mv rfl) rfl ?_
    refine Ops.r (Run.asg rfl) rfl ?_
    refine Ops.nil ?_
    refine thenQ_n ?_
    refine VC.sub [(6, _)] (.cons rfl .nil) ?_
    refine VC.ret ?_
    refine end1 rfl ?_
    exact ⟨by unfold fieldS; rw [if_neg (by simp [hc1])], K⟩

set_option maxRecDepth 100000 in
set_option maxHeartbeats 1600000 in
theorem rpeople_spec (q nm non : Tx) (w : World) (hq : q.length ≤ 2000) (hnl : nm.length ≤ 1000000) : Calls Tryz.prog 35 #[encStr q, encStr nm, encStr non] w fun e w' => e = .returned (encStr (peopleS q nm non)) ∧ Frm [] w w' := by
  have K := Frm.refl [] w
  have hfl := findH_len q nm
  refine VC.calls (nt := 58) (res := #[.tmp 6]) Tryz.func35 rfl Tryz.ntmps35 Tryz.results35 rfl ?_
  refine VC.seq ?_
  refine VC.region ?_
  refine Ops.r (Run.asg rfl) rfl ?_
  refine Ops.nil ?_
  refine thenQ_n ?_
  refine VC.sub [(0, _), (1, _), (2, _)] (.cons rfl (.cons rfl (.cons rfl .nil))) ?_
  refine VC.seq ?_
  refine VC.region ?_
  refine Ops.r (Run.mv rfl) rfl ?_
  refine Ops.r (Run.mv rfl) rfl ?_
  refine Ops.cl (Enters.fn (evs.cons rfl (evs.cons rfl evs.nil)) Tryz.call62) ((rfind17_spec q nm _ (by omega) hnl)) rfl ?_
  rintro e w1 ⟨rfl, f1⟩
  refine ⟨_, rfl, ?_⟩
  have K := K.trans f1 (by simp)
  have hpf := people_flat (t := (findH q nm).1) (by omega)
  have hcnt := listA_count (findH q nm).1
  have hmem : ∀ a ∈ listA (findH q nm).1, a.name.length ≤ 4000 ∧ a.box.length ≤ 4000 ∧ a.host.length ≤ 4000 := fun a ha => by have := listA_mem a ha; omega
  have hpS : peopleS q nm non = if listA (findH q nm).1 = [] then non else 40 :: (((listA (findH q nm).1).map adrS).flatten ++ [41]) := rfl
  have hal : ∀ a ∈ listA (findH q nm).1, (adrS a).length ≤ 12 * (findH q nm).1.length + 27 := fun a ha => adrS_len ha
  refine Ops.r (Run.mv rfl) rfl ?_
  refine Ops.r (Run.extract rfl rfl) rfl ?_
  refine Ops.r (Run.extract rfl rfl) rfl ?_
  refine Ops.r (Run.asg rfl) rfl ?_
  refine Ops.r (Run.asg rfl) rfl ?_
  refine Ops.nil ?_
  refine thenQ_n ?_
  refine VC.sub [(2, _), (7, _)] (.cons rfl (.cons rfl .nil)) ?_
  refine VC.seq ?_
  refine VC.region ?_
  refine Ops.r (Run.mv rfl) rfl ?_
  refine Ops.cl (Enters.fn (evs.cons rfl evs.nil) Tryz.call63) ((rlist_spec (findH q nm).1 _ (by omega))) rfl ?_
  rintro e w2 ⟨f2, L, lc, rfl, hL, hubL⟩
  refine ⟨_, rfl, ?_⟩
  have K := K.trans f2 (by simp)
  generalize listA (findH q nm).1 = l at *
  refine Ops.r (Run.asg rfl) rfl ?_
  refine Ops.nil ?_
  refine thenQ_n ?_
  refine VC.sub [(2, _), (9, _)] (.cons rfl (.cons rfl .nil)) ?_
  refine VC.seq ?_
  refine VC.region ?_
  refine Ops.r (Run.asg rfl) rfl ?_
  refine Ops.nil ?_
  refine thenQ_n ?_
  refine VC.seq ?_
  refine VC.seq ?_
  refine VC.region ?_
  refine Ops.r (v := .int .i64 ((0 : Nat) : Int)) (Run.asg rfl) rfl ?_
  refine Ops.nil ?_
  refine thenQ_n ?_
  refine VC.block ?_
  refine VC.loop (σ := Nat) (fun s => [(2, encStr non), (9, .slice L l.length lc), (10, encStr (((l.take s).map adrS).flatten)), (11, .int .i64 ((s : Nat) : Int))]) (fun s wr => s ≤ l.length ∧ Drawn w2 wr) (fun s => l.length - s) 0 (.cons rfl (.cons rfl (.cons rfl (.cons rfl .nil)))) ⟨Nat.zero_le _, Drawn.refl _⟩ ?_
  rintro k wr ⟨hk, hd⟩
  have hpre : (((l.take k).map adrS).flatten).length ≤ ((l.map adrS).flatten).length := by
    conv => rhs; rw [← List.take_append_drop k l, List.map_append, List.flatten_append, List.length_append]
    omega
  refine VC.seq ?_
  refine VC.seq ?_
  refine VC.region ?_
  refine Ops.r (Run.mv rfl) rfl ?_
  refine Ops.r (Run.mv rfl) rfl ?_
  refine Ops.r (Run.lenS rfl Tryz.underlying88) rfl ?_
  refine Ops.r (Run.bin rfl rfl (Bin.lssN _ _)) rfl ?_
  refine Ops.nil ?_
  refine thenQ_n ?_
  refine VC.sub [(2, _), (9, _), (10, _), (11, _), (23, _)] (.cons rfl (.cons rfl (.cons rfl (.cons rfl (.cons rfl .nil))))) ?_
  refine VC.condD rfl (fun hc1 => ?_) (fun hc1 => ?_)
  · skip
    obtain ⟨adL, hLe, hcell⟩ := AC_at (hL.rd.drawn hd) hc1
    have hcw : ∀ W, Drawn wr W → ∀ j v, (AC1 l[k])[j]? = some v → W.cell? ((adL.add (k * 3)).add j) = some v := fun W hW => by
      obtain ⟨ad2, h2, hc2_⟩ := AC_at (hL.rd.drawn (hd.trans hW)) hc1
      cases hLe.symm.trans h2
      exact hc2_
    have hts := take_snoc hc1
    have hm := hmem _ (List.getElem_mem hc1)
    have hal1 := hal _ (List.getElem_mem hc1)
    have hsn : ((l.take (k + 1)).map adrS).flatten = ((l.take k).map adrS).flatten ++ adrS l[k] := by rw [hts, List.map_append, List.flatten_append]; simp
    have hpre2 : (((l.take (k + 1)).map adrS).flatten).length ≤ ((l.map adrS).flatten).length := by
      conv => rhs; rw [← List.take_append_drop (k + 1) l, List.map_append, List.flatten_append, List.length_append]
      omega
    rw [hsn, List.length_append] at hpre2
    generalize l[k] = a at *
    have g1 := nstrQ_len a.name
    have g2 := nstrQ_len a.box
    have g3 := nstrQ_len a.host
    have had : adrS a = ((((([40] ++ nstrQ a.name) ++ [32, 78, 73, 76, 32]) ++ nstrQ a.box) ++ [32]) ++ nstrQ a.host) ++ [41] := by simp [adrS, listQ, jnQ, nilT]
    refine VC.skip ?_
    refine thenQ_n ?_
    refine VC.sub [(2, _), (9, _), (10, _), (11, _)] (.cons rfl (.cons rfl (.cons rfl (.cons rfl .nil)))) ?_
    refine VC.seq ?_
    refine VC.block ?_
    refine VC.held (fun W => Drawn wr W) (by kernel_rfl) ?_
    have hS : Drawn wr wr.drew := Drawn.drew _
    refine HOps.take 0 rfl (by kernel_rfl) (by kernel_rfl) (by kernel_rfl) hS (fun w0 hw0 => Run.mv rfl) trivial rfl rfl ?_
    refine HOps.take 1 rfl (by kernel_rfl) (by kernel_rfl) (by kernel_rfl) hS (fun w0 hw0 => Run.mv rfl) trivial rfl rfl ?_
    refine HOps.take 2 rfl (by kernel_rfl) (by kernel_rfl) (by kernel_rfl) hS (fun w0 hw0 => Run.mv rfl) trivial rfl rfl ?_
    refine HOps.take 3 rfl (by kernel_rfl) (by kernel_rfl) (by kernel_rfl) hS (fun w0 hw0 => Run.indexS k (by rw [← hLe]; rfl) rfl Tryz.underlying88 Tryz.sizeOf91 hc1) trivial rfl rfl ?_
    refine HOps.take 4 rfl (by kernel_rfl) (by kernel_rfl) (by kernel_rfl) hS (fun w0 hw0 => Run.fieldAddr rfl Tryz.underlying91 rfl Tryz.sizeOf9 (by decide)) trivial rfl rfl ?_
    refine HOps.take 5 rfl (by kernel_rfl) (by kernel_rfl) (by kernel_rfl) hS (fun w0 hw0 => Run.load rfl Tryz.isAgg9 (hcw _ hw0 0 _ rfl)) trivial rfl rfl ?_
    refine HOps.take 9 rfl (by kernel_rfl) (by kernel_rfl) (by kernel_rfl) hS (fun w0 hw0 => Run.mv rfl) trivial rfl rfl ?_
    refine HOps.take 10 rfl (by kernel_rfl) (by kernel_rfl) (by kernel_rfl) hS (fun w0 hw0 => Run.mv rfl) trivial rfl rfl ?_
    refine HOps.take 11 rfl (by kernel_rfl) (by kernel_rfl) (by kernel_rfl) hS (fun w0 hw0 => Run.indexS k (by rw [← hLe]; rfl) rfl Tryz.underlying88 Tryz.sizeOf91 hc1) trivial rfl rfl ?_
    refine HOps.take 12 rfl (by kernel_rfl) (by kernel_rfl) (by kernel_rfl) hS (fun w0 hw0 => Run.fieldAddr rfl Tryz.underlying91 rfl Tryz.sizeOf9 (by decide)) trivial rfl rfl ?_
    refine HOps.take 13 rfl (by kernel_rfl) (by kernel_rfl) (by kernel_rfl) hS (fun w0 hw0 => Run.load rfl Tryz.isAgg9 (hcw _ hw0 1 _ rfl)) trivial rfl rfl ?_
    refine HOps.take 17 rfl (by kernel_rfl) (by kernel_rfl) (by kernel_rfl) hS (fun w0 hw0 => Run.mv rfl) trivial rfl rfl ?_
    refine HOps.take 18 rfl (by kernel_rfl) (by kernel_rfl) (by kernel_rfl) hS (fun w0 hw0 => Run.mv rfl) trivial rfl rfl ?_
    refine HOps.take 19 rfl (by kernel_rfl) (by kernel_rfl) (by kernel_rfl) hS (fun w0 hw0 => Run.indexS k (by rw [← hLe]; rfl) rfl Tryz.underlying88 Tryz.sizeOf91 hc1) trivial rfl rfl ?_
    refine HOps.take 20 rfl (by kernel_rfl) (by kernel_rfl) (by kernel_rfl) hS (fun w0 hw0 => Run.fieldAddr rfl Tryz.underlying91 rfl Tryz.sizeOf9 (by decide)) trivial rfl rfl ?_
    refine HOps.take 21 rfl (by kernel_rfl) (by kernel_rfl) (by kernel_rfl) hS (fun w0 hw0 => Run.load rfl Tryz.isAgg9 (hcw _ hw0 2 _ rfl)) trivial rfl rfl ?_
    refine HOps.cl 6 rfl (by kernel_rfl) (Enters.fn (evs.cons rfl evs.nil) Tryz.call64) ((rnil_spec a.name _ (by omega))) trivial rfl rfl ?_
    rintro e _ ⟨rfl, rfl⟩
    refine ⟨_, rfl, hS, ?_⟩
    refine HOps.take 7 rfl (by kernel_rfl) (by kernel_rfl) (by kernel_rfl) hS (fun w0 hw0 => Run.addT (a := [40]) rfl rfl (by simp only [List.length_cons, List.length_append, List.length_nil]; omega)) trivial rfl rfl ?_
    refine HOps.take 8 rfl (by kernel_rfl) (by kernel_rfl) (by kernel_rfl) hS (fun w0 hw0 => Run.addT (b := [32, 78, 73, 76, 32]) rfl rfl (by simp only [List.length_cons, List.length_append, List.length_nil]; omega)) trivial rfl rfl ?_
    refine HOps.cl 14 rfl (by kernel_rfl) (Enters.fn (evs.cons rfl evs.nil) Tryz.call64) ((rnil_spec a.box _ (by omega))) trivial rfl rfl ?_
    rintro e _ ⟨rfl, rfl⟩
    refine ⟨_, rfl, hS, ?_⟩
    refine HOps.take 15 rfl (by kernel_rfl) (by kernel_rfl) (by kernel_rfl) hS (fun w0 hw0 => Run.addT rfl rfl (by simp only [List.length_cons, List.length_append, List.length_nil]; omega)) trivial rfl rfl ?_
    refine HOps.take 16 rfl (by kernel_rfl) (by kernel_rfl) (by kernel_rfl) hS (fun w0 hw0 => Run.addT (b := [32]) rfl rfl (by simp only [List.length_cons, List.length_append, List.length_nil]; omega)) trivial rfl rfl ?_
    refine HOps.cl 22 rfl (by kernel_rfl) (Enters.fn (evs.cons rfl evs.nil) Tryz.call64) ((rnil_spec a.host _ (by omega))) trivial rfl rfl ?_
    rintro e _ ⟨rfl, rfl⟩
    refine ⟨_, rfl, hS, ?_⟩
    refine HOps.take 23 rfl (by kernel_rfl) (by kernel_rfl) (by kernel_rfl) hS (fun w0 hw0 => Run.addT rfl rfl (by simp only [List.length_cons, List.length_append, List.length_nil]; omega)) trivial rfl rfl ?_
    refine HOps.take 24 rfl (by kernel_rfl) (by kernel_rfl) (by kernel_rfl) hS (fun w0 hw0 => Run.addT (b := [41]) rfl rfl (by simp only [List.length_cons, List.length_append, List.length_nil]; omega)) trivial rfl rfl ?_
    refine HOps.take 25 rfl (by kernel_rfl) (by kernel_rfl) (by kernel_rfl) hS (fun w0 hw0 => Run.addT rfl rfl (by simp only [List.length_cons, List.length_append, List.length_nil]; omega)) trivial rfl rfl ?_
    refine HOps.take 26 rfl (by kernel_rfl) (by kernel_rfl) (by kernel_rfl) hS (fun w0 hw0 => Run.asg rfl) trivial rfl rfl ?_
    refine HOps.done (by kernel_rfl) ?_
    refine blockQ_n (thenQ_n ?_)
    refine VC.sub [(2, _), (9, _), (10, _), (11, _)] (.cons rfl (.cons rfl (.cons rfl (.cons rfl .nil)))) ?_
    refine VC.region ?_
    refine Ops.r (Run.mv rfl) rfl ?_
    refine Ops.r (Run.bin rfl rfl (Bin.add_i64 _ 1 (by omega))) rfl ?_
    refine Ops.r (Run.asg rfl) rfl ?_
    refine Ops.nil ?_
    refine thenQ_n ⟨(k + 1), (.cons rfl (.cons rfl (.cons (by rw [hsn, had]; rfl) (.cons rfl .nil)))), ?_, ?_⟩
    · skip
      exact ⟨hc1, hd.trans hS⟩
    · skip
      first | omega | (dsimp only; omega)
  · skip
    have hkl : k = l.length := by omega
    subst hkl
    rw [List.take_length]
    refine VC.exit ?_
    refine thenQ_x (thenQ_x (blockQ_x ?_))
    refine thenQ_n ?_
    refine VC.sub [(2, _), (10, _)] (.cons rfl (.cons rfl .nil)) ?_
    refine VC.seq ?_
    refine VC.seq ?_
    refine VC.region ?_
    refine Ops.r (Run.mv rfl) rfl ?_
    refine Ops.r (Run.eqlT rfl rfl) rfl ?_
    refine Ops.nil ?_
    refine thenQ_n ?_
    refine VC.sub [(2, _), (10, _), (53, _)] (.cons rfl (.cons rfl (.cons rfl .nil))) ?_
    refine VC.condD rfl (fun hc2 => ?_) (fun hc2 => ?_)
    · skip
      have hl0 : l = [] := by
        cases l with
        | nil => rfl
        | cons a r =>
          exfalso
          have h := congrArg List.length hc2
          simp [adrS, listQ] at h
      refine VC.seq ?_
      refine VC.region ?_
      refine Ops.r (Run.mv rfl) rfl ?_
      refine Ops.r (Run.asg rfl) rfl ?_
      refine Ops.nil ?_
      refine thenQ_n ?_
      refine VC.sub [(6, _)] (.cons rfl .nil) ?_
      refine VC.ret ?_
      refine thenQ_r (end1 rfl ?_)
      exact ⟨by rw [hpS, if_pos hl0], K.drawn hd⟩
    · skip
      have hl0 : l ≠ [] := fun h => hc2 (by rw [h]; rfl)
      refine VC.skip ?_
      refine thenQ_n ?_
      refine VC.sub [(10, _)] (.cons rfl .nil) ?_
      refine VC.seq ?_
      refine VC.region ?_
      refine Ops.r (Run.mv rfl) rfl ?_
      refine Ops.r (Run.addT (a := [40]) rfl rfl (by simp only [List.length_cons, List.length_append, List.length_nil]; omega)) rfl ?_
      refine Ops.r (Run.addT (b := [41]) rfl rfl (by simp only [List.length_cons, List.length_append, List.length_nil]; omega)) rfl ?_
      refine Ops.r (Run.asg rfl) rfl ?_
      refine Ops.nil ?_
      refine thenQ_n ?_
      refine VC.sub [(6, _)] (.cons rfl .nil) ?_
      refine VC.ret ?_
      refine end1 rfl ?_
      exact ⟨by rw [hpS, if_neg hl0]; simp, K.drawn hd⟩

set_option maxRecDepth 100000 in
set_option maxHeartbeats 1600000 in
theorem renv_spec (q : Tx) (w : World) (hq : q.length ≤ 2000) : Calls Tryz.prog 13 #[encStr q] w fun e w' => e = .returned (encStr (envS q)) ∧ Frm [] w w' := by
  have K := Frm.refl [] w
  have hn3 : nilT.length = 3 := rfl
  have hf := fun n => fieldS_len q n nilT 4006 (by omega) (by omega)
  have hp := fun n => peopleS_len (q := q) (name := n) (non := nilT) hq (by omega)
  have hp2 := fun n => peopleS_len (q := q) (name := n) (non := peopleS q fromT nilT) hq (hp fromT)
  have l1 := hf datT
  have l2 := hf subjT
  have l3 := hf inrT
  have l4 := hf midT
  have p1 := hp fromT
  have p2 := hp toT
  have p3 := hp ccT
  have p4 := hp bccT
  have p5 := hp2 sendT
  have p6 := hp2 replT
  refine VC.calls (nt := 50) (res := #[.tmp 2]) Tryz.func13 rfl Tryz.ntmps13 Tryz.results13 rfl ?_
  refine VC.seq ?_
  refine VC.region ?_
  refine Ops.r (Run.asg rfl) rfl ?_
  refine Ops.nil ?_
  refine thenQ_n ?_
  refine VC.sub [(0, _)] (.cons rfl .nil) ?_
  refine VC.seq ?_
  refine VC.region ?_
  refine Ops.r (Run.mv rfl) rfl ?_
  refine Ops.cl (Enters.fn (evs.cons rfl (evs.cons rfl (evs.cons rfl evs.nil))) Tryz.call35) ((rpeople_spec q fromT nilT _ (by omega) (by decide))) rfl ?_
  rintro e w1 ⟨rfl, fw1⟩
  refine ⟨_, rfl, ?_⟩
  have K := K.trans fw1 (by simp)
  refine Ops.r (Run.asg rfl) rfl ?_
  refine Ops.nil ?_
  refine thenQ_n ?_
  refine VC.sub [(0, _), (3, _)] (.cons rfl (.cons rfl .nil)) ?_
  refine VC.seq ?_
  refine VC.region ?_
  refine Ops.r (Run.mv rfl) rfl ?_
  refine Ops.cl (Enters.fn (evs.cons rfl (evs.cons rfl (evs.cons rfl evs.nil))) Tryz.call36) ((rfield_spec q datT nilT _ (by omega) (by decide))) rfl ?_
  rintro e w2 ⟨rfl, fw2⟩
  refine ⟨_, rfl, ?_⟩
  have K := K.trans fw2 (by simp)
  refine Ops.r (Run.addT (a := [40]) rfl rfl (by simp only [List.length_cons, List.length_append, List.length_nil]; omega)) rfl ?_
  refine Ops.r (Run.addT (b := [32]) rfl rfl (by simp only [List.length_cons, List.length_append, List.length_nil]; omega)) rfl ?_
  refine Ops.r (Run.mv rfl) rfl ?_
  refine Ops.cl (Enters.fn (evs.cons rfl (evs.cons rfl (evs.cons rfl evs.nil))) Tryz.call36) ((rfield_spec q subjT nilT _ (by omega) (by decide))) rfl ?_
  rintro e w3 ⟨rfl, fw3⟩
  refine ⟨_, rfl, ?_⟩
  have K := K.trans fw3 (by simp)
  refine Ops.r (Run.addT rfl rfl (by simp only [List.length_cons, List.length_append, List.length_nil]; omega)) rfl ?_
  refine Ops.r (Run.addT (b := [32]) rfl rfl (by simp only [List.length_cons, List.length_append, List.length_nil]; omega)) rfl ?_
  refine Ops.r (Run.mv rfl) rfl ?_
  refine Ops.r (Run.addT rfl rfl (by simp only [List.length_cons, List.length_append, List.length_nil]; omega)) rfl ?_
  refine Ops.r (Run.addT (b := [32]) rfl rfl (by simp only [List.length_cons, List.length_append, List.length_nil]; omega)) rfl ?_
  refine Ops.r (Run.mv rfl) rfl ?_
  refine Ops.r (Run.mv rfl) rfl ?_
  refine Ops.cl (Enters.fn (evs.cons rfl (evs.cons rfl (evs.cons rfl evs.nil))) Tryz.call35) ((rpeople_spec q sendT (peopleS q fromT nilT) _ (by omega) (by decide))) rfl ?_
  rintro e w4 ⟨rfl, fw4⟩
  refine ⟨_, rfl, ?_⟩
  have K := K.trans fw4 (by simp)
  refine Ops.r (Run.addT rfl rfl (by simp only [List.length_cons, List.length_append, List.length_nil]; omega)) rfl ?_
  refine Ops.r (Run.addT (b := [32]) rfl rfl (by simp only [List.length_cons, List.length_append, List.length_nil]; omega)) rfl ?_
  refine Ops.r (Run.mv rfl) rfl ?_
  refine Ops.r (Run.mv rfl) rfl ?_
  refine Ops.cl (Enters.fn (evs.cons rfl (evs.cons rfl (evs.cons rfl evs.nil))) Tryz.call35) ((rpeople_spec q replT (peopleS q fromT nilT) _ (by omega) (by decide))) rfl ?_
  rintro e w5 ⟨rfl, fw5⟩
  refine ⟨_, rfl, ?_⟩
  have K := K.trans fw5 (by simp)
  refine Ops.r (Run.addT rfl rfl (by simp only [List.length_cons, List.length_append, List.length_nil]; omega)) rfl ?_
  refine Ops.r (Run.asg rfl) rfl ?_
  refine Ops.nil ?_
  refine thenQ_n ?_
  refine VC.sub [(0, _), (4, _)] (.cons rfl (.cons rfl .nil)) ?_
  refine VC.seq ?_
  refine VC.region ?_
  refine Ops.r (Run.mv rfl) rfl ?_
  refine Ops.r (Run.mv rfl) rfl ?_
  refine Ops.cl (Enters.fn (evs.cons rfl (evs.cons rfl (evs.cons rfl evs.nil))) Tryz.call35) ((rpeople_spec q toT nilT _ (by omega) (by decide))) rfl ?_
  rintro e w6 ⟨rfl, fw6⟩
  refine ⟨_, rfl, ?_⟩
  have K := K.trans fw6 (by simp)
  refine Ops.r (Run.addT (a := [32]) rfl rfl (by simp only [List.length_cons, List.length_append, List.length_nil]; omega)) rfl ?_
  refine Ops.r (Run.addT (b := [32]) rfl rfl (by simp only [List.length_cons, List.length_append, List.length_nil]; omega)) rfl ?_
  refine Ops.r (Run.mv rfl) rfl ?_
  refine Ops.cl (Enters.fn (evs.cons rfl (evs.cons rfl (evs.cons rfl evs.nil))) Tryz.call35) ((rpeople_spec q ccT nilT _ (by omega) (by decide))) rfl ?_
  rintro e w7 ⟨rfl, fw7⟩
  refine ⟨_, rfl, ?_⟩
  have K := K.trans fw7 (by simp)
  refine Ops.r (Run.addT rfl rfl (by simp only [List.length_cons, List.length_append, List.length_nil]; omega)) rfl ?_
  refine Ops.r (Run.addT (b := [32]) rfl rfl (by simp only [List.length_cons, List.length_append, List.length_nil]; omega)) rfl ?_
  refine Ops.r (Run.mv rfl) rfl ?_
  refine Ops.cl (Enters.fn (evs.cons rfl (evs.cons rfl (evs.cons rfl evs.nil))) Tryz.call35) ((rpeople_spec q bccT nilT _ (by omega) (by decide))) rfl ?_
  rintro e w8 ⟨rfl, fw8⟩
  refine ⟨_, rfl, ?_⟩
  have K := K.trans fw8 (by simp)
  refine Ops.r (Run.addT rfl rfl (by simp only [List.length_cons, List.length_append, List.length_nil]; omega)) rfl ?_
  refine Ops.r (Run.addT rfl rfl (by simp only [List.length_cons, List.length_append, List.length_nil]; omega)) rfl ?_
  refine Ops.r (Run.asg rfl) rfl ?_
  refine Ops.nil ?_
  refine thenQ_n ?_
  refine VC.sub [(0, _), (4, _)] (.cons rfl (.cons rfl .nil)) ?_
  refine VC.seq ?_
  refine VC.region ?_
  refine Ops.r (Run.mv rfl) rfl ?_
  refine Ops.r (Run.addT (b := [32]) rfl rfl (by simp only [List.length_cons, List.length_append, List.length_nil]; omega)) rfl ?_
  refine Ops.r (Run.mv rfl) rfl ?_
  refine Ops.cl (Enters.fn (evs.cons rfl (evs.cons rfl (evs.cons rfl evs.nil))) Tryz.call36) ((rfield_spec q inrT nilT _ (by omega) (by decide))) rfl ?_
  rintro e w9 ⟨rfl, fw9⟩
  refine ⟨_, rfl, ?_⟩
  have K := K.trans fw9 (by simp)
  refine Ops.r (Run.addT rfl rfl (by simp only [List.length_cons, List.length_append, List.length_nil]; omega)) rfl ?_
  refine Ops.r (Run.addT (b := [32]) rfl rfl (by simp only [List.length_cons, List.length_append, List.length_nil]; omega)) rfl ?_
  refine Ops.r (Run.mv rfl) rfl ?_
  refine Ops.cl (Enters.fn (evs.cons rfl (evs.cons rfl (evs.cons rfl evs.nil))) Tryz.call36) ((rfield_spec q midT nilT _ (by omega) (by decide))) rfl ?_
  rintro e w10 ⟨rfl, fw10⟩
  refine ⟨_, rfl, ?_⟩
  have K := K.trans fw10 (by simp)
  refine Ops.r (Run.addT rfl rfl (by simp only [List.length_cons, List.length_append, List.length_nil]; omega)) rfl ?_
  refine Ops.r (Run.addT (b := [41]) rfl rfl (by simp only [List.length_cons, List.length_append, List.length_nil]; omega)) rfl ?_
  refine Ops.r (Run.asg rfl) rfl ?_
  refine Ops.nil ?_
  refine thenQ_n ?_
  refine VC.sub [(2, _)] (.cons rfl .nil) ?_
  refine VC.ret ?_
  refine end1 rfl ?_
  exact ⟨by simp [envS, listQ, jnQ], K⟩

end Go.Proofs.YtenbjndldenkfaaGreatDoor

