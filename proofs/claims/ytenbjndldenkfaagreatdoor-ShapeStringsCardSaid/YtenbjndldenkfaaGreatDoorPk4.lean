/-
  Lemmas on the way, joined: PartU, Eng17, PartO, SecW, ShV, ShU, ShT, ShE, SecV, SecT, SecR, SecM, SecL0, SecG, RfA, RfB, RfC.
-/
import Derived.ArgAppend
import Derived.Shelf.Bytes.SlCountOne
import Derived.Test.YtenbjndldenkfaaGreatDoorPk3
namespace Go.Proofs.YtenbjndldenkfaaGreatDoor
open Go.RowKit Go.Sort

/-- A part, and where its parameters lie. -/
abbrev Pc := Prt × Option Addr × Nat
def PP1 (x : Pc) : List Value := [.int .i64 ((x.1.kind : Nat) : Int), .int .i64 ((x.1.frm : Nat) : Int), .int .i64 ((x.1.body : Nat) : Int), .int .i64 ((x.1.tu : Nat) : Int), encStr x.1.m.ty, encStr x.1.m.sub, .slice x.2.1 x.1.m.ps.length x.2.2, .int .i64 x.1.up, .int .i64 ((x.1.kids : Nat) : Int)]
theorem PP1_len (x : Pc) : (PP1 x).length = 9 := rfl
theorem PP1_one (x : Pc) : ∀ u ∈ PP1 x, u.oneCell' = true := by
  intro u hu
  simp only [PP1, List.mem_cons, List.not_mem_nil, or_false] at hu
  rcases hu with rfl | rfl | rfl | rfl | rfl | rfl | rfl | rfl | rfl <;> rfl
def PP (l : List Pc) : List Value := l.flatMap PP1
theorem PP_append (a b : List Pc) : PP (a ++ b) = PP a ++ PP b := by simp [PP]
theorem PP_len (l : List Pc) : (PP l).length = l.length * 9 := flat_len PP1 9 PP1_len l
theorem PP_one (l : List Pc) : ∀ u ∈ PP l, u.oneCell' = true := flat_one PP1 PP1_one l
theorem PP_at {w : World} {A : Option Addr} {l : List Pc} {k : Nat} (h : Rd w 9 A l.length (PP l)) (hk : k < l.length) : ∃ ad, A = some ad ∧ ∀ j v, (PP1 l[k])[j]? = some v → w.cell? ((ad.add (k * 9)).add j) = some v := by
  obtain ⟨ad, rfl, hc⟩ := h.elem hk
  refine ⟨ad, rfl, fun j v hj => hc j v ?_⟩
  rw [show PP l = l.flatMap PP1 from rfl, flat_get PP1 9 PP1_len l k hk]
  exact hj
theorem hrdQ {w w' : World} {t : TypeId} {x : Pc} (h : Fresh w w' t (PP1 x).toArray) : Rd w' 9 (some ⟨w.heap.size, 0, none⟩) 1 (PP [x]) := Rd.of_blk (n := 1) (size := 9) h.blk rfl
/-- A cell of one of them becomes another one. -/
theorem PP_set (l : List Pc) (k j : Nat) (hk : k < l.length) (hj : j < 9) (v : Value) (x : Pc) (hx : (PP1 l[k]).set j v = PP1 x) : (PP l).set (k * 9 + j) v = PP (l.set k x) := by
  have e : l = l.take k ++ l[k] :: l.drop (k + 1) := by rw [← drop_cons hk, List.take_append_drop]
  have hlt : (l.take k).length = k := by rw [List.length_take]; omega
  have h1 : PP l = PP (l.take k) ++ (PP1 l[k] ++ PP (l.drop (k + 1))) := by
    conv => lhs; rw [e]
    rw [PP_append]
    rfl
  have h2 : PP (l.set k x) = PP (l.take k) ++ (PP1 x ++ PP (l.drop (k + 1))) := by
    rw [List.set_eq_take_append_cons_drop, if_pos hk, PP_append]
    rfl
  have h3 : (PP (l.take k)).length = k * 9 := by rw [PP_len, hlt]
  rw [h1, h2, List.set_append_right _ _ (by omega), h3, show k * 9 + j - k * 9 = j by omega, List.set_append_left _ _ (by rw [PP1_len]; exact hj), hx]
theorem fillP (a b c u : Int) (x y z k : Value) : Instr.fill (fun i => (#[(0, 1), (1, 1), (2, 1), (3, 1), (4, 3), (7, 1), (8, 1)] : Array (Nat × Nat))[i]?) #[k, .int .i64 0, .int .i64 0, .int .i64 0, .string ⟨#[]⟩, .string ⟨#[]⟩, .slice none 0 0, .int .i64 0, .int .i64 0] [(1, .int .i64 a), (2, .int .i64 b), (3, .int .i64 c), (4, .agg #[x, y, z]), (5, .int .i64 u)] = some #[k, .int .i64 a, .int .i64 b, .int .i64 c, x, y, z, .int .i64 u, .int .i64 0] := by
  simp [Instr.fill, Value.cells]
def OwnPs (w : World) (l : List Pc) : Prop := ∀ x ∈ l, Own w 102 2 x.2.1 x.1.m.ps.length x.2.2 (PC x.1.m.ps)
theorem OwnPs.frm0 {w w' : World} {l : List Pc} (h : OwnPs w l) (k : Frm [] w w') : OwnPs w' l := fun x hx => (h x hx).frm k (by simp)
theorem OwnPs.blk {w w' : World} {l : List Pc} {g : Nat} {t : TypeId} {cs : Array Value} (h : OwnPs w l) (k : Frm [g] w w') (hb : Blk w g t cs) (hne : 102 ≠ t) : OwnPs w' l := fun x hx => (h x hx).frm k (fun y hy => by have := (h x hx).ne_blk hb hne; simp; rintro rfl; exact this hy)
theorem OwnPs.own {w w' : World} {l : List Pc} {e size n c : Nat} {A : Option Addr} {xs : List Value} (h : OwnPs w l) (k : Frm (ob A) w w') (ho : Own w e size A n c xs) (hne : 102 ≠ e) : OwnPs w' l := fun x hx => (h x hx).frm k (fun y hy => (h x hx).ne_own ho hne y hy)
theorem OwnPs.set {w : World} {l : List Pc} {k : Nat} {x : Pc} (h : OwnPs w l) (hk : k < l.length) (hx : x.2 = l[k].2) (hm : x.1.m = l[k].1.m) : OwnPs w (l.set k x) := by
  intro y hy
  rcases List.mem_or_eq_of_mem_set hy with hy | rfl
  · exact h y hy
  · have := h l[k] (List.getElem_mem hk)
    rw [← hx, ← hm] at this
    exact this
theorem map_set (l : List Pc) (k : Nat) (x : Pc) : (l.set k x).map (·.1) = (l.map (·.1)).set k x.1 := by rw [List.map_set]
theorem modify_set (l : List Prt) (k : Nat) (hk : k < l.length) (f : Prt → Prt) : l.modify k f = l.set k (f l[k]) := by
  apply List.ext_getElem?
  intro i
  rw [List.getElem?_modify, List.getElem?_set]
  by_cases e : k = i
  · subst e
    simp [hk]
  · simp [e]
theorem fnd_full {s : Tx} {n : Nat} {l : List Prt} {frm tu : Nat} {up : Int} {dg : Bool} (h : l.length = 64) : fndQ s n l frm tu up dg = l := by unfold fndQ; rw [if_pos h]
def newP (s : Tx) (frm tu : Nat) (up : Int) (dg : Bool) : Prt := ⟨0, frm, frm + splitQ (sliceQ s frm tu), tu, mediaQ (sliceQ s frm tu) dg, up, 0⟩
theorem fnd_zero {s : Tx} {l : List Prt} {frm tu : Nat} {up : Int} {dg : Bool} (h : l.length ≠ 64) : fndQ s 0 l frm tu up dg = kid1 (l ++ [newP s frm tu up dg]) up := by unfold fndQ; rw [if_neg h]; rfl
theorem fnd_let {s : Tx} {n : Nat} {l : List Prt} {frm tu : Nat} {up : Int} {dg : Bool} (h : l.length ≠ 64) (h2 : IsLet (newP s frm tu up dg).m) : fndQ s (n + 1) l frm tu up dg = fndQ s n (setK (kid1 (l ++ [newP s frm tu up dg]) up) l.length 2) (newP s frm tu up dg).body tu (l.length : Int) false := by
  conv => lhs; unfold fndQ
  rw [if_neg h]
  exact (if_pos (show IsLet (mediaQ (sliceQ s frm tu) dg) from h2)).trans rfl
theorem fnd_plain {s : Tx} {n : Nat} {l : List Prt} {frm tu : Nat} {up : Int} {dg : Bool} (h : l.length ≠ 64) (h2 : ¬ IsLet (newP s frm tu up dg).m) (h3 : (newP s frm tu up dg).m.ty ≠ multT ∨ (findQ (newP s frm tu up dg).m.ps bndT).1 = []) : fndQ s (n + 1) l frm tu up dg = kid1 (l ++ [newP s frm tu up dg]) up := by
  conv => lhs; unfold fndQ
  rw [if_neg h]
  refine (if_neg (show ¬ IsLet (mediaQ (sliceQ s frm tu) dg) from h2)).trans ?_
  exact (if_pos h3).trans rfl
theorem fnd_mult {s : Tx} {n : Nat} {l : List Prt} {frm tu : Nat} {up : Int} {dg : Bool} (h : l.length ≠ 64) (h2 : ¬ IsLet (newP s frm tu up dg).m) (h3 : ¬ ((newP s frm tu up dg).m.ty ≠ multT ∨ (findQ (newP s frm tu up dg).m.ps bndT).1 = [])) : fndQ s (n + 1) l frm tu up dg = (spansQ s (findQ (newP s frm tu up dg).m.ps bndT).1 (newP s frm tu up dg).body tu).foldl (fun acc x => fndQ s n (setK acc l.length 1) x.1 x.2 (l.length : Int) (decide ((newP s frm tu up dg).m.sub = digT))) (kid1 (l ++ [newP s frm tu up dg]) up) := by
  conv => lhs; unfold fndQ
  rw [if_neg h]
  refine (if_neg (show ¬ IsLet (mediaQ (sliceQ s frm tu) dg) from h2)).trans ?_
  exact (if_neg h3).trans rfl
theorem fnd_len (s : Tx) : ∀ (n : Nat) (l : List Prt) (frm tu : Nat) (up : Int) (dg : Bool), l.length ≤ 64 → l.length ≤ (fndQ s n l frm tu up dg).length ∧ (fndQ s n l frm tu up dg).length ≤ 64 := by
  intro n
  induction n with
  | zero =>
    intro l frm tu up dg hl
    by_cases h : l.length = 64
    · rw [fnd_full h]; omega
    · rw [fnd_zero h, kid1_len]; simp; omega
  | succ n ih =>
    intro l frm tu up dg hl
    by_cases h : l.length = 64
    · rw [fnd_full h]; omega
    have h1 : (kid1 (l ++ [newP s frm tu up dg]) up).length = l.length + 1 := by rw [kid1_len]; simp
    by_cases h2 : IsLet (newP s frm tu up dg).m
    · rw [fnd_let h h2]
      have := ih (setK (kid1 (l ++ [newP s frm tu up dg]) up) l.length 2) (newP s frm tu up dg).body tu (l.length : Int) false (by rw [setK_len]; omega)
      rw [setK_len] at this
      omega
    · by_cases h3 : (newP s frm tu up dg).m.ty ≠ multT ∨ (findQ (newP s frm tu up dg).m.ps bndT).1 = []
      · rw [fnd_plain h h2 h3]; omega
      · rw [fnd_mult h h2 h3]
        generalize kid1 (l ++ [newP s frm tu up dg]) up = l1 at *
        generalize spansQ s (findQ (newP s frm tu up dg).m.ps bndT).1 (newP s frm tu up dg).body tu = sp
        have key : ∀ (sp : List (Nat × Nat)) (acc : List Prt), l1.length ≤ acc.length → acc.length ≤ 64 → l1.length ≤ (sp.foldl (fun acc x => fndQ s n (setK acc l.length 1) x.1 x.2 (l.length : Int) (decide ((newP s frm tu up dg).m.sub = digT))) acc).length ∧ (sp.foldl (fun acc x => fndQ s n (setK acc l.length 1) x.1 x.2 (l.length : Int) (decide ((newP s frm tu up dg).m.sub = digT))) acc).length ≤ 64 := by
          intro sp
          induction sp with
          | nil => exact fun acc a b => ⟨a, b⟩
          | cons x r ihs =>
            intro acc ha hb
            rw [List.foldl_cons]
            have := ih (setK acc l.length 1) x.1 x.2 (l.length : Int) (decide ((newP s frm tu up dg).m.sub = digT)) (by rw [setK_len]; exact hb)
            rw [setK_len] at this
            exact ihs _ (by omega) this.2
        have := key sp l1 (Nat.le_refl _) (by omega)
        omega
theorem Own.blk' {w w' : World} {e size n c g : Nat} {A : Option Addr} {xs : List Value} {t : TypeId} {cs : Array Value} (h : Own w e size A n c xs) (k : Frm [g] w w') (hb : Blk w g t cs) (hne : e ≠ t) : Own w' e size A n c xs := h.frm k (fun y hy => by have := h.ne_blk hb hne; simp; rintro rfl; exact this hy)
theorem Own.own' {w w' : World} {e size n c e2 size2 n2 c2 : Nat} {A B : Option Addr} {xs ys : List Value} (h : Own w e size A n c xs) (k : Frm (ob B) w w') (ho : Own w e2 size2 B n2 c2 ys) (hne : e ≠ e2) : Own w' e size A n c xs := h.frm k (fun y hy => h.ne_own ho hne y hy)
/-! ### how long they are -/
theorem medQ_val (q : Tx) : ∀ p ∈ (medQ q).ps, p.2.length ≤ q.length := by
  unfold medQ
  split
  · simp [med0]
  · rename_i p ps h
    unfold medOf
    split
    · intro y hy
      obtain ⟨x, hx, hy⟩ := List.mem_flatMap.1 (show y ∈ ps.flatMap parQ from hy)
      have h1 := pcs_len _ false q (Nat.le_refl _) x (by rw [h]; simp [hx])
      unfold parQ at hy
      split at hy
      · simp only [List.mem_singleton] at hy
        subst hy
        have h2 := valQ_len (aftF 61 x)
        have h3 := (bef_len 61 x).2
        show (valQ (aftF 61 x)).length ≤ _
        omega
      · simp at hy
    · intro y hy
      simp [med0] at hy
theorem find_val {k : Nat} (n : Tx) : ∀ ps : List Par, (∀ p ∈ ps, p.2.length ≤ k) → (findQ ps n).1.length ≤ k
  | [], _ => by simp [findQ]
  | p :: r, h => by
    unfold findQ
    split
    · exact h p (by simp)
    · exact find_val n r (fun p hp => h p (by simp [hp]))
theorem mediaQ_ok (s : Tx) (dg : Bool) : (mediaQ s dg).ps.length ≤ s.length + 1 ∧ (findQ (mediaQ s dg).ps bndT).1.length ≤ s.length := by
  unfold mediaQ
  split
  · exact ⟨by simp, by simp [findQ]⟩
  · have h1 := medQ_count (findH s ctype).1
    have h2 := pcs_count _ false (findH s ctype).1 (Nat.le_refl _)
    have h3 := findF_len s ctype (fieldsQ s)
    have h4 : findH s ctype = findF s ctype (fieldsQ s) := rfl
    have h5 := find_val bndT _ (medQ_val (findH s ctype).1)
    rw [← h4] at h3
    omega
/-! ### how many a part has -/
def KidsOk (l : List Prt) : Prop := ∀ (i : Nat) (x : Prt), l[i]? = some x → x.kids ≤ l.length
theorem kid1_kids {l : List Prt} {p : Prt} {up : Int} (h : KidsOk l) (hp : p.kids = 0) : KidsOk (kid1 (l ++ [p]) up) := by
  have h1 : ∀ (i : Nat) (x : Prt), (l ++ [p])[i]? = some x → x.kids ≤ l.length := by
    intro i x hx
    have hm := List.mem_of_getElem? hx
    rcases List.mem_append.1 hm with hm | hm
    · obtain ⟨j, hj⟩ := List.getElem?_of_mem hm
      exact h j x hj
    · simp only [List.mem_singleton] at hm
      subst hm
      omega
  intro i x hx
  rw [kid1_len, List.length_append]
  show x.kids ≤ l.length + 1
  unfold kid1 at hx
  split at hx
  · rw [List.getElem?_modify] at hx
    cases e : (l ++ [p])[i]? with
    | none => rw [e] at hx; simp at hx
    | some y =>
      have h2 := h1 i y e
      rw [e] at hx
      simp only [Option.map_eq_map, Option.map_some, Option.some.injEq] at hx
      subst hx
      split
      · show y.kids + 1 ≤ _; omega
      · show y.kids ≤ _; omega
  · have := h1 i x hx
    omega
theorem setK_kids {l : List Prt} {i k : Nat} (h : KidsOk l) : KidsOk (setK l i k) := by
  intro j x hx
  rw [setK_len]
  unfold setK at hx
  rw [List.getElem?_modify] at hx
  cases e : l[j]? with
  | none => rw [e] at hx; simp at hx
  | some y =>
    have h2 := h j y e
    rw [e] at hx
    simp only [Option.map_eq_map, Option.map_some, Option.some.injEq] at hx
    subst hx
    split
    · exact h2
    · exact h2
theorem fnd_kids (s : Tx) : ∀ (n : Nat) (l : List Prt) (frm tu : Nat) (up : Int) (dg : Bool), KidsOk l → KidsOk (fndQ s n l frm tu up dg) := by
  intro n
  induction n with
  | zero =>
    intro l frm tu up dg hl
    by_cases h : l.length = 64
    · rw [fnd_full h]; exact hl
    · rw [fnd_zero h]; exact kid1_kids hl rfl
  | succ n ih =>
    intro l frm tu up dg hl
    by_cases h : l.length = 64
    · rw [fnd_full h]; exact hl
    have h1 : KidsOk (kid1 (l ++ [newP s frm tu up dg]) up) := kid1_kids hl rfl
    by_cases h2 : IsLet (newP s frm tu up dg).m
    · rw [fnd_let h h2]
      exact ih _ _ _ _ _ (setK_kids h1)
    · by_cases h3 : (newP s frm tu up dg).m.ty ≠ multT ∨ (findQ (newP s frm tu up dg).m.ps bndT).1 = []
      · rw [fnd_plain h h2 h3]; exact h1
      · rw [fnd_mult h h2 h3]
        generalize spansQ s (findQ (newP s frm tu up dg).m.ps bndT).1 (newP s frm tu up dg).body tu = sp
        generalize kid1 (l ++ [newP s frm tu up dg]) up = a at h1
        induction sp generalizing a with
        | nil => exact h1
        | cons x r ihs => rw [List.foldl_cons]; exact ihs _ (ih _ _ _ _ _ (setK_kids h1))
theorem setK_map (l : List Pc) (i k : Nat) (hi : i < l.length) : (l.set i ({ l[i].1 with kind := k }, l[i].2)).map (·.1) = setK (l.map (·.1)) i k := by
  unfold setK
  rw [map_set, modify_set _ _ (by simpa using hi)]
  simp [List.getElem_map]
theorem kid1_map (l : List Pc) (u : Nat) (hu : u < l.length) : (l.set u ({ l[u].1 with kids := l[u].1.kids + 1 }, l[u].2)).map (·.1) = kid1 (l.map (·.1)) (u : Int) := by
  unfold kid1
  rw [if_pos (by omega), map_set, Int.toNat_natCast, modify_set _ _ (by simpa using hu)]
  simp [List.getElem_map]
theorem foldl_snoc' {α β : Type} (f : β → α → β) (b : β) (l : List α) (i : Nat) (h : i < l.length) : (l.take (i + 1)).foldl f b = f ((l.take i).foldl f b) l[i] := by rw [take_snoc h, List.foldl_append]; rfl
def FindAt (n : Nat) : Prop := ∀ (nest : Nat), nest + n = 6 → ∀ (g : Nat) (A : Option Addr) (c : Nat) (q : Tx) (l : List Pc) (LA : Option Addr) (lc frm tu : Nat) (up : Int) (dg : Bool) (w : World), Rd w 1 A q.length (U8 q) → q.length ≤ 400000 → q.length ≤ c → frm ≤ tu → tu ≤ q.length → l.length ≤ 64 → -1 ≤ up → up < (l.length : Int) → KidsOk (l.map (·.1)) →
  Blk w g 99 #[.slice A q.length c, .slice LA l.length lc] → Own w 69 9 LA l.length lc (PP l) → OwnPs w l → (∀ x ∈ obN A q.length, x ≠ g ∧ x ∉ ob LA) →
  Calls Tryz.prog 68 #[.pointer (some ⟨g, 0, none⟩), .int .i64 ((frm : Nat) : Int), .int .i64 ((tu : Nat) : Int), .int .i64 up, .int .i64 ((nest : Nat) : Int), .bool dg] w fun e w' => e = .returned (.tuple #[]) ∧
    ∃ (l2 : List Pc) (LA2 : Option Addr) (lc2 : Nat), l2.map (·.1) = fndQ q n (l.map (·.1)) frm tu up dg ∧ Blk w' g 99 #[.slice A q.length c, .slice LA2 l2.length lc2] ∧ Own w' 69 9 LA2 l2.length lc2 (PP l2) ∧ OwnPs w' l2 ∧ Frm (g :: ob LA) w w' ∧ ∀ x ∈ ob LA2, x ∈ ob LA ∨ w.heap.size ≤ x
theorem loadM {w : World} {gp : Nat} {x : Pc} (h : Blk w gp 69 (PP1 x).toArray) : ∀ j v, ((MdC x.1.m x.2.1 x.2.2).toList)[j]? = some v → w.cell? (((⟨gp, 0, none⟩ : Addr).add 4).add j) = some v := by
  intro j v hj
  rw [add_add, add_mk]
  have := h.cell (4 + j)
  rw [this, ← hj]
  match j with
  | 0 => rfl
  | 1 => rfl
  | 2 => rfl
  | j + 3 =>
    rw [show 4 + (j + 3) = j + 7 by omega]
    have : ((MdC x.1.m x.2.1 x.2.2).toList)[j + 3]? = none := by simp [MdC]
    rw [this] at hj
    cases hj

set_option maxRecDepth 100000 in
theorem find_step (n : Nat) (ih : ∀ m, m < n → FindAt m) : FindAt n := by
  intro nest hnn g A c q l LA lc frm tu up dg w hrd hq hc hft htl hl64 hup1 hup2 hkid hbg hO hPs hdis
  have hml : (l.map (·.1)).length = l.length := by simp
  refine VC.calls (nt := 147) (res := #[]) Tryz.func68 rfl Tryz.ntmps68 Tryz.results68 rfl ?_
  refine VC.seq ?_
  refine VC.seq ?_
  refine VC.region ?_
  refine Ops.r (Run.mv rfl) rfl ?_
  refine Ops.r (Run.nilck rfl) rfl ?_
  refine Ops.r (Run.fieldAddr rfl Tryz.underlying99 rfl Tryz.sizeOf60 (by decide)) rfl ?_
  refine Ops.r (Run.load rfl Tryz.isAgg60 (hbg.cell 1)) rfl ?_
  refine Ops.r (Run.lenS rfl Tryz.underlying60) rfl ?_
  refine Ops.r (Run.bin rfl rfl (Bin.eqlN _ 64)) rfl ?_
  refine Ops.nil ?_
  refine thenQ_n ?_
  refine VC.sub [(0, _), (1, _), (2, _), (3, _), (4, _), (5, _), (24, _)] (.cons rfl (.cons rfl (.cons rfl (.cons rfl (.cons rfl (.cons rfl (.cons rfl .nil))))))) ?_
  refine VC.condD rfl (fun hc1 => ?_) (fun hc1 => ?_)
  · skip
    refine VC.ret ?_
    refine thenQ_r (end0 ?_)
    exact ⟨rfl, l, LA, lc, (fnd_full (by rw [hml]; exact hc1)).symm, hbg, hO, hPs, Frm.refl _ _, fun x hx => .inl hx⟩
  · skip
    have hl63 : l.length ≤ 63 := by omega
    have hml64 : (l.map (·.1)).length ≠ 64 := by rw [hml]; exact hc1
    have hcut := U8_cut hrd hft htl hc
    have hsl := sliceQ_len (a := frm) htl
    have hspl := splitQ_le (sliceQ q frm tu)
    have hkl := kid1_len (l.map (·.1) ++ [newP q frm tu up dg]) up
    refine VC.skip ?_
    refine thenQ_n ?_
    refine VC.sub [(0, _), (1, _), (2, _), (3, _), (4, _), (5, _)] (.cons rfl (.cons rfl (.cons rfl (.cons rfl (.cons rfl (.cons rfl .nil)))))) ?_
    refine VC.seq ?_
    refine VC.region ?_
    refine Ops.r (Run.mv rfl) rfl ?_
    refine Ops.r (Run.nilck rfl) rfl ?_
    refine Ops.r (Run.fieldAddr rfl Tryz.underlying99 rfl Tryz.sizeOf22 (by decide)) rfl ?_
    refine Ops.r (Run.load rfl Tryz.isAgg22 (hbg.cell 0)) rfl ?_
    refine Ops.r (Run.mv rfl) rfl ?_
    refine Ops.r (Run.mv rfl) rfl ?_
    refine Ops.r (Run.sliceS frm tu rfl Tryz.underlying22 Tryz.sizeOf5 (evB.some_ rfl) (evB.some_ rfl) hft (by omega)) rfl ?_
    rw [← hsl]
    refine Ops.r (Run.asg rfl) rfl ?_
    refine Ops.nil ?_
    refine thenQ_n ?_
    refine VC.sub [(0, _), (1, _), (2, _), (3, _), (4, _), (5, _), (12, _)] (.cons rfl (.cons rfl (.cons rfl (.cons rfl (.cons rfl (.cons rfl (.cons rfl .nil))))))) ?_
    refine VC.seq ?_
    refine VC.region ?_
    refine Ops.r (Run.mv rfl) rfl ?_
    refine Ops.r (Run.nilck rfl) rfl ?_
    refine Ops.r (Run.fieldAddr rfl Tryz.underlying99 rfl Tryz.sizeOf60 (by decide)) rfl ?_
    refine Ops.r (Run.load rfl Tryz.isAgg60 (hbg.cell 1)) rfl ?_
    refine Ops.r (Run.lenS rfl Tryz.underlying60) rfl ?_
    refine Ops.r (Run.asg rfl) rfl ?_
    refine Ops.nil ?_
    refine thenQ_n ?_
    refine VC.sub [(0, _), (1, _), (2, _), (3, _), (4, _), (5, _), (12, _), (13, _)] (.cons rfl (.cons rfl (.cons rfl (.cons rfl (.cons rfl (.cons rfl (.cons rfl (.cons rfl .nil)))))))) ?_
    refine VC.seq ?_
    refine VC.region ?_
    refine Ops.r (Run.mv rfl) rfl ?_
    refine Ops.r (Run.mv rfl) rfl ?_
    refine Ops.r (Run.mv rfl) rfl ?_
    refine Ops.cl (Enters.fn (evs.cons rfl evs.nil) Tryz.call51) (split_spec _ _ (sliceQ q frm tu) _ hcut (by omega) (by omega)) rfl ?_
    rintro e w1 ⟨rfl, K⟩
    refine ⟨_, rfl, ?_⟩
    have hbg := hbg.frm K (by simp)
    have hO := hO.frm K (by simp)
    have hPs := hPs.frm0 K
    refine Ops.r (Run.bin rfl rfl (Bin.add_i64 _ _ (by omega))) rfl ?_
    refine Ops.r (Run.mv rfl) rfl ?_
    refine Ops.r (Run.mv rfl) rfl ?_
    refine Ops.r (Run.mv rfl) rfl ?_
    refine Ops.cl (Enters.fn (evs.cons rfl (evs.cons rfl evs.nil)) Tryz.call104) (media_spec _ _ (sliceQ q frm tu) dg _ (hcut.frm K (by simp)) (by omega) (by omega)) rfl ?_
    rintro e w2 ⟨hf2, MA, mc, rfl, hMO, hMub⟩
    refine ⟨_, rfl, ?_⟩
    have hbg := hbg.frm hf2 (by simp)
    have hO := hO.frm hf2 (by simp)
    have hPs := hPs.frm0 hf2
    have K := K.trans hf2 (by simp)
    obtain ⟨p, hp⟩ : ∃ p, newP q frm tu up dg = p := ⟨_, rfl⟩
    have hpm : mediaQ (sliceQ q frm tu) dg = p.m := by rw [← hp]; rfl
    have hmok := mediaQ_ok (sliceQ q frm tu) dg
    have hpb : frm + splitQ (sliceQ q frm tu) = p.body := by rw [← hp]; rfl
    have hpbt : p.body ≤ tu := by omega
    have hpc : (PP1 (p, MA, mc)) = [.int .i64 ((0 : Nat) : Int), .int .i64 ((frm : Nat) : Int), .int .i64 ((p.body : Nat) : Int), .int .i64 ((tu : Nat) : Int), encStr p.m.ty, encStr p.m.sub, .slice MA p.m.ps.length mc, .int .i64 up, .int .i64 ((0 : Nat) : Int)] := by rw [← hp]; rfl
    rw [hpm, hpb]
    rw [hpm] at hMO hmok
    rw [hp] at hkl
    have hkid1 : KidsOk (kid1 (l.map (·.1) ++ [p]) up) := kid1_kids hkid (by rw [← hp]; rfl)
    have hpk : p.kids = 0 := by rw [← hp]; rfl
    have hO0 := hO
    have lgw := hbg.lt
    refine Ops.r (Run.mv rfl) rfl ?_
    refine Ops.r (Run.build (evs.cons rfl (evs.cons rfl (evs.cons rfl (evs.cons rfl (evs.cons rfl evs.nil))))) zero69 (places69).choose_spec.1 (places69).choose_spec.2 (cells := (PP1 (p, MA, mc)).toArray) (by rw [hpc]; exact fillP _ _ _ _ _ _ _ _)) rfl ?_
    refine Ops.m (Does.alloc zero69) rfl ?_
    rintro _ w3 ⟨rfl, hF3⟩
    have hbp := hF3.blk
    have hbp0 := hbp
    have lg := hbg.lt
    have hbg := hbg.frm hF3.frm (by simp)
    have hO := hO.frm hF3.frm (by simp)
    have hPs := hPs.frm0 hF3.frm
    have hMO := hMO.frm hF3.frm (by simp)
    have sK := K.size
    have K := K.trans hF3.frm (by simp)
    generalize hgp : w2.heap.size = gp at hbp hbp0 lg sK ⊢
    refine Ops.st (Acts.storeA rfl rfl Tryz.sizeOf69 hbp rfl (PP1_one (p, MA, mc))) ?_
    rintro w4 ⟨hbpn, hf4, _⟩
    have hbp : Blk w4 gp 69 (PP1 (p, MA, mc)).toArray := hbpn
    have hbg := hbg.frm hf4 (by simp; omega)
    have hO := hO.frm hf4 (fun y hy => by have h1 := hO0.lt y hy; have h2 := K.size; simp; omega)
    have hPs := hPs.blk hf4 hbp0 (by decide)
    have hMO := hMO.blk' hf4 hbp0 (by decide)
    have K := Frm.own K hf4 (fun y hy => by simp at hy; omega)
    refine Ops.nil ?_
    refine thenQ_n ?_
    refine VC.sub [(0, _), (2, _), (3, _), (4, _), (13, _), (14, _)] (.cons rfl (.cons rfl (.cons rfl (.cons rfl (.cons rfl (.cons rfl .nil)))))) ?_
    refine VC.seq ?_
    refine VC.heldL 10 (fun V => Frm (ob LA) w4 V) (by kernel_rfl) ?_
    have hS0 : Frm [] w4 w4.drew := (Frm.refl [] w4).drew
    have hS : Frm (ob LA) w4 w4.drew := hS0.mono (by simp)
    have hng := hO.ne_blk hbg (by decide)
    have hngp : gp ∉ ob LA := fun hm => by have h1 := hO0.lt gp hm; omega
    have hbgv := hbg
    have hbpv := hbp
    have hO := hO.frm hS0 (by simp)
    have hbg := hbg.frm hS0 (by simp)
    have hbp := hbp.frm hS0 (by simp)
    have hPs := hPs.frm0 hS0
    have hMO := hMO.frm hS0 (by simp)
    have K := K.drew
    refine HOps.take 0 rfl (by kernel_rfl) (by kernel_rfl) (by kernel_rfl) hS (fun w0 hw0 => Run.mv rfl) trivial rfl rfl ?_
    refine HOps.take 1 rfl (by kernel_rfl) (by kernel_rfl) (by kernel_rfl) hS (fun w0 hw0 => Run.mv rfl) trivial rfl rfl ?_
    refine HOps.take 2 rfl (by kernel_rfl) (by kernel_rfl) (by kernel_rfl) hS (fun w0 hw0 => Run.nilck rfl) trivial rfl rfl ?_
    refine HOps.take 3 rfl (by kernel_rfl) (by kernel_rfl) (by kernel_rfl) hS (fun w0 hw0 => Run.fieldAddr rfl Tryz.underlying99 rfl Tryz.sizeOf60 (by decide)) trivial rfl rfl ?_
    refine HOps.take 4 rfl (by kernel_rfl) (by kernel_rfl) (by kernel_rfl) hS (fun w0 hw0 => Run.load rfl Tryz.isAgg60 ((hbgv.frm hw0 hng).cell 1)) trivial rfl rfl ?_
    refine HOps.r1 5 rfl (by kernel_rfl) hS (Run.loadA rfl Tryz.isAgg69 Tryz.sizeOf69 (fun j v hj => hbp.cells j v hj) (by first | rfl | (simp; done))) trivial rfl rfl ?_
    refine HOps.m 6 rfl (by kernel_rfl) (Does.buildS1 rfl Tryz.underlying60 Tryz.sizeOf69 zero69 (by decide) (by decide) rfl rfl) trivial rfl rfl ?_
    rintro _ w5 ⟨rfl, hF5⟩
    have hrdp := hrdQ (x := (p, MA, mc)) hF5
    have hO := hO.frm hF5.frm (by simp)
    have hbg := hbg.frm hF5.frm (by simp)
    have hbp := hbp.frm hF5.frm (by simp)
    have hPs := hPs.frm0 hF5.frm
    have hMO := hMO.frm hF5.frm (by simp)
    have K := K.trans hF5.frm (by simp)
    have hS := hS.trans hF5.frm (by simp)
    refine ⟨hS, ?_⟩
    refine HOps.m 7 rfl (by kernel_rfl) (Does.app rfl rfl Tryz.underlying60 (info69) rfl (by decide) hO hrdp (PP_one _) (by omega) (by omega)) trivial rfl rfl ?_
    rintro _ w6 ⟨LA6, lc6, rfl, hO6, hf6, hob6⟩
    rw [← PP_append] at hO6
    have hbg := hbg.frm hf6 hng
    have hbp := hbp.frm hf6 hngp
    have hPs := hPs.own hf6 hO (by decide)
    have hMO := hMO.own' hf6 hO (by decide)
    have K5 := K
    have KL := (K.mono (T := g :: ob LA) (by simp)).trans hf6 (fun y hy => .inl (by simp [hy]))
    have hS := hS.trans hf6 (fun y hy => .inl hy)
    refine ⟨hS, ?_⟩
    refine HOps.r1 8 rfl (by kernel_rfl) hS (Run.nilck rfl) trivial rfl rfl ?_
    refine HOps.r1 9 rfl (by kernel_rfl) hS (Run.fieldAddr rfl Tryz.underlying99 rfl Tryz.sizeOf60 (by decide)) trivial rfl rfl ?_
    refine HOps.stL rfl (by kernel_rfl) (Acts.store rfl rfl Tryz.sizeOf60 hbg rfl rfl) trivial rfl ?_
    rintro w7 ⟨hbgn, hf7, _⟩
    obtain ⟨L, hL⟩ : ∃ L : List Pc, l ++ [((p, MA, mc) : Pc)] = L := ⟨_, rfl⟩
    have hl1 : L.length = l.length + 1 := by rw [← hL]; simp
    have hbgn : Blk w7 g 99 #[.slice A q.length c, .slice LA6 L.length lc6] := by rw [hl1]; exact hbgn
    have hng6 := hO6.ne_blk hbg (by decide)
    have hO : Own w7 69 9 LA6 L.length lc6 (PP L) := by rw [hl1, ← hL]; exact hO6.frm hf7 (fun y hy => by simp; rintro rfl; exact hng6 hy)
    have hMO := hMO.blk' hf7 hbg (by decide)
    have hPs2 : OwnPs w7 L := by
      intro x hx
      rw [← hL] at hx
      rcases List.mem_append.1 hx with hx | hx
      · exact (hPs.blk hf7 hbg (by decide)) x hx
      · simp only [List.mem_singleton] at hx
        subst hx
        exact hMO
    have hbp := hbp.frm hf7 (by simp; omega)
    have K := KL.trans hf7 (fun y hy => .inl (by simp at hy; simp [hy]))
    have sK5 := K5.size
    have hgp6 : gp ∉ ob LA6 := fun hm => by
      rcases hob6 with h | h
      · rw [h] at hm; exact hngp hm
      · rw [h] at hm; simp only [List.mem_singleton] at hm; have := hbpv.lt; have h5 := hS0.size; have h6 := hF5.frm.size; omega
    have hub6 : ∀ x ∈ ob LA6, x ∈ ob LA ∨ w.heap.size ≤ x := fun x hx => by
      rcases hob6 with h | h
      · rw [h] at hx; exact .inl hx
      · rw [h] at hx; simp only [List.mem_singleton] at hx; exact .inr (by omega)
    have hm1 : L.map (·.1) = l.map (·.1) ++ [p] := by rw [← hL]; simp
    have hkL : ∀ (i : Nat) (hi : i < L.length), L[i].1.kids ≤ 64 := by
      intro i hi
      have hm : L[i].1 ∈ l.map (·.1) ++ [p] := by rw [← hm1]; exact List.mem_map_of_mem (List.getElem_mem hi)
      rcases List.mem_append.1 hm with hm | hm
      · obtain ⟨j, hj⟩ := List.getElem?_of_mem hm
        have := hkid j _ hj
        omega
      · simp only [List.mem_singleton] at hm
        rw [hm]
        omega
    clear hPs hO6
    refine HOps.done (by kernel_rfl) ?_
    refine thenQ_n ?_
    refine VC.sub [(0, _), (2, _), (3, _), (4, _), (13, _), (14, _)] (.cons rfl (.cons rfl (.cons rfl (.cons rfl (.cons rfl (.cons rfl .nil)))))) ?_
    refine VC.seq ?_
    refine VC.seq ?_
    refine VC.region ?_
    refine Ops.r (Run.mv rfl) rfl ?_
    refine Ops.r (Run.bin rfl rfl (Bin.geq _ 0)) rfl ?_
    refine Ops.nil ?_
    refine thenQ_n ?_
    refine VC.sub [(0, _), (2, _), (3, _), (4, _), (13, _), (14, _), (59, _)] (.cons rfl (.cons rfl (.cons rfl (.cons rfl (.cons rfl (.cons rfl (.cons rfl .nil))))))) ?_
    refine VC.meet (σ := List Pc) (fun s => [(0, .pointer (some ⟨g, 0, none⟩)), (2, .int .i64 ((tu : Nat) : Int)), (4, .int .i64 ((nest : Nat) : Int)), (13, .int .i64 ((l.length : Nat) : Int)), (14, .pointer (some ⟨gp, 0, none⟩))]) (fun s wr => s.map (·.1) = kid1 (l.map (·.1) ++ [p]) up ∧ Own wr 69 9 LA6 s.length lc6 (PP s) ∧ OwnPs wr s ∧ Blk wr g 99 #[.slice A q.length c, .slice LA6 s.length lc6] ∧ Blk wr gp 69 (PP1 (p, MA, mc)).toArray ∧ Own wr 102 2 MA p.m.ps.length mc (PC p.m.ps) ∧ Frm (g :: ob LA) w wr) ?_ ?_
    · skip
      refine VC.condD rfl (fun hc2 => ?_) (fun hc2 => ?_)
      · skip
        obtain ⟨u, rfl⟩ : ∃ u : Nat, up = (u : Int) := ⟨up.toNat, by omega⟩
        have hul : u < L.length := by omega
        obtain ⟨ad6, rfl, hcell⟩ := PP_at hO.rd hul
        have hku := hkL u hul
        have hset := PP_set L u 8 hul (by omega) (.int .i64 ((L[u].1.kids + 1 : Nat) : Int)) ({ L[u].1 with kids := L[u].1.kids + 1 }, L[u].2) rfl
        refine VC.region ?_
        refine Ops.r (Run.mv rfl) rfl ?_
        refine Ops.r (Run.nilck rfl) rfl ?_
        refine Ops.r (Run.fieldAddr rfl Tryz.underlying99 rfl Tryz.sizeOf60 (by decide)) rfl ?_
        refine Ops.r (Run.load rfl Tryz.isAgg60 (hbgn.cell 1)) rfl ?_
        refine Ops.r (Run.mv rfl) rfl ?_
        refine Ops.r (Run.indexS u rfl rfl Tryz.underlying60 Tryz.sizeOf69 hul) rfl ?_
        refine Ops.r (Run.fieldAddr rfl Tryz.underlying69 rfl Tryz.sizeOf3 (by decide)) rfl ?_
        refine Ops.r (Run.load rfl Tryz.isAgg3 (hcell 8 (.int .i64 ((L[u].1.kids : Nat) : Int)) rfl)) rfl ?_
        refine Ops.r (Run.bin rfl rfl (Bin.add_i64 L[u].1.kids 1 (by omega))) rfl ?_
        refine Ops.r (Run.indexS u rfl rfl Tryz.underlying60 Tryz.sizeOf69 hul) rfl ?_
        refine Ops.r (Run.fieldAddr rfl Tryz.underlying69 rfl Tryz.sizeOf3 (by decide)) rfl ?_
        refine Ops.st (Acts.storeOwn (u * 9 + 8) (congrArg (fun a => some (Value.pointer (some a))) (add_add ad6 _ 8)) rfl Tryz.sizeOf3 hO rfl (by omega) rfl) ?_
        rintro w8 ⟨hO8, hf8, _⟩
        rw [hset] at hO8
        have hng8 := hO.ne_blk hbgn (by decide)
        refine Ops.nil ?_
        refine thenQ_n ⟨(L.set u ({ L[u].1 with kids := L[u].1.kids + 1 }, L[u].2)), (.cons rfl (.cons rfl (.cons rfl (.cons rfl (.cons rfl .nil))))), ?_⟩
        refine ⟨by rw [kid1_map, hm1], by rw [List.length_set]; exact hO8, ?_, by rw [List.length_set]; exact hbgn.frm hf8 hng8, hbp.frm hf8 hgp6, hMO.own' hf8 hO (by decide), K.trans hf8 (fun y hy => by rcases hub6 y hy with h | h; exact .inl (by simp [h]); exact .inr h)⟩
        exact OwnPs.set (hPs2.own hf8 hO (by decide)) hul rfl rfl
      · skip
        refine VC.skip ?_
        refine thenQ_n ⟨L, (.cons rfl (.cons rfl (.cons rfl (.cons rfl (.cons rfl .nil))))), ?_⟩
        refine ⟨?_, hO, hPs2, hbgn, hbp, hMO, K⟩
        rw [hm1]
        unfold kid1
        rw [if_neg hc2]
    · skip
      rintro l1 w8 ⟨hm1, hO, hPs, hbg, hbp, hMO, K⟩ Γ hΓ
      have hl1 : l1.length = l.length + 1 := by
        have := congrArg List.length hm1
        rw [List.length_map, hkl] at this
        simpa using this
      have hl1i : l.length < l1.length := by omega
      have hk1 : KidsOk (l1.map (·.1)) := by rw [hm1]; exact hkid1
      have hrdK : ∀ {w' : World}, Frm (g :: ob LA) w w' → Rd w' 1 A q.length (U8 q) := fun K => hrd.frm K (fun hn x hx => by have := hdis x (obN_of hn hx); simp only [List.mem_cons, not_or]; exact ⟨this.1, this.2⟩)
      have hdisK : ∀ {B : Option Addr}, (∀ x ∈ ob B, x ∈ ob LA ∨ w.heap.size ≤ x) → ∀ x ∈ obN A q.length, x ≠ g ∧ x ∉ ob B := fun hB x hx => ⟨(hdis x hx).1, fun hm => by
        rcases hB x hm with h | h
        · exact (hdis x hx).2 h
        · have := hrd.lt (obN_mem hx).1 x (obN_mem hx).2; omega⟩
      refine thenQ_n (VC.sub _ hΓ ?_)
      refine VC.seq ?_
      refine VC.seq ?_
      refine VC.region ?_
      refine Ops.r (Run.mv rfl) rfl ?_
      refine Ops.r (Run.bin rfl rfl (Bin.eqlN _ 6)) rfl ?_
      refine Ops.nil ?_
      refine thenQ_n ?_
      refine VC.sub [(0, _), (2, _), (4, _), (13, _), (14, _), (72, _)] (.cons rfl (.cons rfl (.cons rfl (.cons rfl (.cons rfl (.cons rfl .nil)))))) ?_
      refine VC.condD rfl (fun hc3 => ?_) (fun hc3 => ?_)
      · skip
        have hn0 : n = 0 := by omega
        subst hn0
        have hz := fnd_zero (s := q) (frm := frm) (tu := tu) (up := up) (dg := dg) hml64
        rw [hp, ← hm1] at hz
        refine VC.ret ?_
        refine thenQ_r (end0 ?_)
        exact ⟨rfl, l1, LA6, lc6, hz.symm, hbg, hO, hPs, K, hub6⟩
      · skip
        obtain ⟨n', rfl⟩ : ∃ n', n = n' + 1 := ⟨n - 1, by omega⟩
        have hnm : ¬ IsLet p.m → ¬ (p.m.ty ≠ multT ∨ (findQ p.m.ps bndT).1 = []) → fndQ q (n' + 1) (l.map (·.1)) frm tu up dg = (spansQ q (findQ p.m.ps bndT).1 p.body tu).foldl (fun acc x => fndQ q n' (setK acc l.length 1) x.1 x.2 (l.length : Int) (decide (p.m.sub = digT))) (l1.map (·.1)) := by
          intro h2 h3
          have h := fnd_mult (s := q) (n := n') (frm := frm) (tu := tu) (up := up) (dg := dg) hml64 (by rw [hp]; exact h2) (by rw [hp]; exact h3)
          rw [hp, hml, ← hm1] at h
          exact h
        have hnp : ¬ IsLet p.m → (p.m.ty ≠ multT ∨ (findQ p.m.ps bndT).1 = []) → fndQ q (n' + 1) (l.map (·.1)) frm tu up dg = l1.map (·.1) := by
          intro h2 h3
          have h := fnd_plain (s := q) (n := n') (frm := frm) (tu := tu) (up := up) (dg := dg) hml64 (by rw [hp]; exact h2) (by rw [hp]; exact h3)
          rw [hp, ← hm1] at h
          exact h
        have hnl : IsLet p.m → fndQ q (n' + 1) (l.map (·.1)) frm tu up dg = fndQ q n' (setK (l1.map (·.1)) l.length 2) p.body tu (l.length : Int) false := by
          intro h2
          have h := fnd_let (s := q) (n := n') (frm := frm) (tu := tu) (up := up) (dg := dg) hml64 (by rw [hp]; exact h2)
          rw [hp, hml, ← hm1] at h
          exact h
        refine VC.skip ?_
        refine thenQ_n ?_
        refine VC.sub [(0, _), (2, _), (4, _), (13, _), (14, _)] (.cons rfl (.cons rfl (.cons rfl (.cons rfl (.cons rfl .nil))))) ?_
        refine VC.seq ?_
        refine VC.seq ?_
        refine VC.split1 [(0, _), (2, _), (4, _), (13, _), (14, _)] (.cons rfl (.cons rfl (.cons rfl (.cons rfl (.cons rfl .nil))))) 82 (.bool (decide (IsLet p.m))) ?_ ?_
        · refine VC.region ?_
          refine Ops.r (Run.fieldAddr rfl Tryz.underlying69 rfl Tryz.sizeOf67 (by decide)) rfl ?_
          refine Ops.r (Run.fieldAddr rfl Tryz.underlying67 rfl Tryz.sizeOf9 (by decide)) rfl ?_
          refine Ops.r (Run.load rfl Tryz.isAgg9 (loadM hbp 0 _ rfl)) rfl ?_
          refine Ops.r (Run.eqlT rfl rfl) rfl ?_
          by_cases hs76 : p.m.ty = msgT
          · skip
            refine Ops.r (Run.mv rfl) rfl ?_
            refine Ops.rg rfl au (Run.fieldAddr rfl Tryz.underlying69 rfl Tryz.sizeOf67 (by decide)) rfl ?_
            refine Ops.rg rfl au (Run.fieldAddr rfl Tryz.underlying67 rfl Tryz.sizeOf9 (by decide)) rfl ?_
            refine Ops.rg rfl au (Run.load rfl Tryz.isAgg9 (loadM hbp 1 _ rfl)) rfl ?_
            refine Ops.rg rfl au (Run.eqlT rfl rfl) rfl ?_
            by_cases hs81 : p.m.sub = rfcT
            · skip
              refine Ops.r (Run.pickT rfl rfl au) rfl ?_
              refine Ops.nil ?_
              refine thenQ_n ⟨(.cons (congrArg (fun b => some (Value.bool b)) (by first | exact (decide_eq_true hs81).trans (decide_eq_true ⟨hs76, hs81⟩).symm | exact (decide_eq_false hs81).trans (decide_eq_false (show ¬ IsLet p.m from fun h => hs81 h.2)).symm | exact (decide_eq_false (show ¬ IsLet p.m from fun h => hs76 h.1)).symm | exact (decide_eq_false hs76).trans (decide_eq_false (show ¬ IsLet p.m from fun h => hs76 h.1)).symm)) (.cons rfl (.cons rfl (.cons rfl (.cons rfl (.cons rfl .nil)))))), rfl⟩
            · skip
              refine Ops.r (Run.pickT rfl rfl au) rfl ?_
              refine Ops.nil ?_
              refine thenQ_n ⟨(.cons (congrArg (fun b => some (Value.bool b)) (by first | exact (decide_eq_true hs81).trans (decide_eq_true ⟨hs76, hs81⟩).symm | exact (decide_eq_false hs81).trans (decide_eq_false (show ¬ IsLet p.m from fun h => hs81 h.2)).symm | exact (decide_eq_false (show ¬ IsLet p.m from fun h => hs76 h.1)).symm | exact (decide_eq_false hs76).trans (decide_eq_false (show ¬ IsLet p.m from fun h => hs76 h.1)).symm)) (.cons rfl (.cons rfl (.cons rfl (.cons rfl (.cons rfl .nil)))))), rfl⟩
          · skip
            refine Ops.r (Run.mv rfl) rfl ?_
            refine Ops.sk rfl au rfl ?_
            refine Ops.sk rfl au rfl ?_
            refine Ops.sk rfl au rfl ?_
            refine Ops.sk rfl au rfl ?_
            refine Ops.r (Run.pickF rfl rfl au) rfl ?_
            refine Ops.nil ?_
            refine thenQ_n ⟨(.cons (congrArg (fun b => some (Value.bool b)) (by first | exact (decide_eq_true hs81).trans (decide_eq_true ⟨hs76, hs81⟩).symm | exact (decide_eq_false hs81).trans (decide_eq_false (show ¬ IsLet p.m from fun h => hs81 h.2)).symm | exact (decide_eq_false (show ¬ IsLet p.m from fun h => hs76 h.1)).symm | exact (decide_eq_false hs76).trans (decide_eq_false (show ¬ IsLet p.m from fun h => hs76 h.1)).symm)) (.cons rfl (.cons rfl (.cons rfl (.cons rfl (.cons rfl .nil)))))), rfl⟩
        · intro Γ hΓ
          refine thenQ_n (VC.sub _ hΓ ?_)
          refine VC.condD rfl (fun hc4 => ?_) (fun hc4 => ?_)
          · skip
            obtain ⟨ad6, rfl, hcell⟩ := PP_at hO.rd hl1i
            have hset := PP_set l1 l.length 0 hl1i (by omega) (.int .i64 2) ({ l1[l.length].1 with kind := 2 }, l1[l.length].2) rfl
            refine VC.seq ?_
            refine VC.region ?_
            refine Ops.r (Run.mv rfl) rfl ?_
            refine Ops.r (Run.nilck rfl) rfl ?_
            refine Ops.r (Run.fieldAddr rfl Tryz.underlying99 rfl Tryz.sizeOf60 (by decide)) rfl ?_
            refine Ops.r (Run.load rfl Tryz.isAgg60 (hbg.cell 1)) rfl ?_
            refine Ops.r (Run.mv rfl) rfl ?_
            refine Ops.r (Run.indexS l.length rfl rfl Tryz.underlying60 Tryz.sizeOf69 hl1i) rfl ?_
            refine Ops.r (Run.fieldAddr rfl Tryz.underlying69 rfl Tryz.sizeOf3 (by decide)) rfl ?_
            refine Ops.st (Acts.storeOwn (l.length * 9 + 0) (congrArg (fun a => some (Value.pointer (some a))) (add_add ad6 _ 0)) rfl Tryz.sizeOf3 hO rfl (by omega) rfl) ?_
            rintro w9 ⟨hO9, hf9, _⟩
            rw [hset] at hO9
            have hng9 := hO.ne_blk hbg (by decide)
            have hPs9 := OwnPs.set (x := ({ l1[l.length].1 with kind := 2 }, l1[l.length].2)) (hPs.own hf9 hO (by decide)) hl1i rfl rfl
            have hbg9 := hbg.frm hf9 hng9
            have hbp := hbp.frm hf9 hgp6
            have hm9 := setK_map l1 l.length 2 hl1i
            have K := K.trans hf9 (fun y hy => by rcases hub6 y hy with h | h; exact .inl (by simp [h]); exact .inr h)
            have hl2l : (l1.set l.length ({ l1[l.length].1 with kind := 2 }, l1[l.length].2)).length = l1.length := List.length_set
            obtain ⟨l2, hl2⟩ : ∃ l2 : List Pc, l1.set l.length ({ l1[l.length].1 with kind := 2 }, l1[l.length].2) = l2 := ⟨_, rfl⟩
            rw [hl2] at hO9 hPs9 hm9 hl2l
            have hk2 : KidsOk (l2.map (·.1)) := by rw [hm9]; exact setK_kids hk1
            rw [← hl2l] at hO9 hbg9
            refine Ops.nil ?_
            refine thenQ_n ?_
            refine VC.sub [(0, _), (2, _), (4, _), (13, _), (14, _)] (.cons rfl (.cons rfl (.cons rfl (.cons rfl (.cons rfl .nil))))) ?_
            refine VC.seq ?_
            refine VC.region ?_
            refine Ops.r (Run.mv rfl) rfl ?_
            refine Ops.r (Run.fieldAddr rfl Tryz.underlying69 rfl Tryz.sizeOf3 (by decide)) rfl ?_
            refine Ops.r (Run.load rfl Tryz.isAgg3 (hbp.cell 2)) rfl ?_
            refine Ops.r (Run.mv rfl) rfl ?_
            refine Ops.r (Run.mv rfl) rfl ?_
            refine Ops.r (Run.mv rfl) rfl ?_
            refine Ops.r (Run.bin rfl rfl (Bin.add_i64 nest 1 (by omega))) rfl ?_
            refine Ops.cl (Enters.fn (evs.cons rfl (evs.cons rfl (evs.cons rfl (evs.cons rfl (evs.cons rfl (evs.cons rfl evs.nil)))))) Tryz.call68) ((ih n' (by omega) (nest + 1) (by omega) g A c q l2 (some ad6) lc6 p.body tu (l.length : Int) false _ (hrdK K) hq hc hpbt htl (by omega) (by omega) (by omega) hk2 hbg9 hO9 hPs9 (hdisK hub6))) rfl ?_
            rintro e w10 ⟨rfl, l3, LA3, lc3, hm3, hbg3, hO3, hPs3, hf3, hub3⟩
            refine ⟨_, rfl, ?_⟩
            have hKs := K.size
            have K3 := K.trans hf3 (fun y hy => by rcases List.mem_cons.1 hy with h | h; exact .inl (by simp [h]); rcases hub6 y h with h | h; exact .inl (by simp [h]); exact .inr h)
            have hub3' : ∀ x ∈ ob LA3, x ∈ ob LA ∨ w.heap.size ≤ x := fun x hx => by
              rcases hub3 x hx with h | h
              · exact hub6 x h
              · exact .inr (by omega)
            refine Ops.nil ?_
            refine thenQ_n ?_
            refine VC.sub [] .nil ?_
            refine VC.ret ?_
            refine thenQ_r (end0 ?_)
            exact ⟨rfl, l3, LA3, lc3, by rw [hm3, hm9, hnl hc4], hbg3, hO3, hPs3, K3, hub3'⟩
          · skip
            refine VC.skip ?_
            refine thenQ_n ?_
            refine VC.sub [(0, _), (2, _), (4, _), (13, _), (14, _)] (.cons rfl (.cons rfl (.cons rfl (.cons rfl (.cons rfl .nil))))) ?_
            refine VC.seq ?_
            refine VC.region ?_
            refine Ops.r (Run.fieldAddr rfl Tryz.underlying69 rfl Tryz.sizeOf67 (by decide)) rfl ?_
            refine Ops.r (Run.loadA rfl Tryz.isAgg67 Tryz.sizeOf67 (loadM hbp) (by first | rfl | (simp; done))) rfl ?_
            refine Ops.cl (Enters.fn (evs.cons rfl (evs.cons rfl evs.nil)) Tryz.call105) ((find_spec p.m MA mc bndT _ hMO.rd (by omega))) rfl ?_
            rintro e w9 ⟨hf9, rfl⟩
            refine ⟨_, rfl, ?_⟩
            have hbg := hbg.frm hf9 (by simp)
            have hbp := hbp.frm hf9 (by simp)
            have hO := hO.frm hf9 (by simp)
            have hPs := hPs.frm0 hf9
            have K := K.trans hf9 (by simp)
            refine Ops.r (Run.mv rfl) rfl ?_
            refine Ops.r (Run.extract rfl rfl) rfl ?_
            refine Ops.r (Run.extract rfl rfl) rfl ?_
            refine Ops.r (Run.asg rfl) rfl ?_
            refine Ops.r (Run.asg rfl) rfl ?_
            refine Ops.nil ?_
            refine thenQ_n ?_
            refine VC.sub [(0, _), (2, _), (4, _), (13, _), (14, _), (15, _)] (.cons rfl (.cons rfl (.cons rfl (.cons rfl (.cons rfl (.cons rfl .nil)))))) ?_
            refine VC.seq ?_
            refine VC.seq ?_
            refine VC.split1 [(0, _), (2, _), (4, _), (13, _), (14, _), (15, _)] (.cons rfl (.cons rfl (.cons rfl (.cons rfl (.cons rfl (.cons rfl .nil)))))) 111 (.bool (decide (p.m.ty ≠ multT ∨ (findQ p.m.ps bndT).1 = []))) ?_ ?_
            · refine VC.region ?_
              refine Ops.r (Run.fieldAddr rfl Tryz.underlying69 rfl Tryz.sizeOf67 (by decide)) rfl ?_
              refine Ops.r (Run.fieldAddr rfl Tryz.underlying67 rfl Tryz.sizeOf9 (by decide)) rfl ?_
              refine Ops.r (Run.load rfl Tryz.isAgg9 (loadM hbp 0 _ rfl)) rfl ?_
              refine Ops.r (Run.neqT rfl rfl) rfl ?_
              by_cases hs107 : p.m.ty ≠ multT
              · skip
                refine Ops.r (Run.mv rfl) rfl ?_
                refine Ops.sk rfl au rfl ?_
                refine Ops.sk rfl au rfl ?_
                refine Ops.r (Run.pickT rfl rfl au) rfl ?_
                refine Ops.nil ?_
                refine thenQ_n ⟨(.cons (congrArg (fun b => some (Value.bool b)) (by first | (simp [hs107, hs110]; done) | (simp [hs107]; done))) (.cons rfl (.cons rfl (.cons rfl (.cons rfl (.cons rfl (.cons rfl .nil))))))), rfl⟩
              · skip
                refine Ops.r (Run.mv rfl) rfl ?_
                refine Ops.rg rfl au (Run.mv rfl) rfl ?_
                refine Ops.rg rfl au (Run.eqlT rfl rfl) rfl ?_
                by_cases hs110 : (findQ p.m.ps bndT).1 = []
                · skip
                  refine Ops.r (Run.pickF rfl rfl au) rfl ?_
                  refine Ops.nil ?_
                  refine thenQ_n ⟨(.cons (congrArg (fun b => some (Value.bool b)) (by first | (simp [hs107, hs110]; done) | (simp [hs107]; done))) (.cons rfl (.cons rfl (.cons rfl (.cons rfl (.cons rfl (.cons rfl .nil))))))), rfl⟩
                · skip
                  refine Ops.r (Run.pickF rfl rfl au) rfl ?_
                  refine Ops.nil ?_
                  refine thenQ_n ⟨(.cons (congrArg (fun b => some (Value.bool b)) (by first | (simp [hs107, hs110]; done) | (simp [hs107]; done))) (.cons rfl (.cons rfl (.cons rfl (.cons rfl (.cons rfl (.cons rfl .nil))))))), rfl⟩
            · intro Γ hΓ
              refine thenQ_n (VC.sub _ hΓ ?_)
              refine VC.condD rfl (fun hc5 => ?_) (fun hc5 => ?_)
              · skip
                refine VC.ret ?_
                refine thenQ_r (end0 ?_)
                exact ⟨rfl, l1, LA6, lc6, (hnp hc4 hc5).symm, hbg, hO, hPs, K, hub6⟩
              · skip
                refine VC.skip ?_
                refine thenQ_n ?_
                refine VC.sub [(0, _), (2, _), (4, _), (13, _), (14, _), (15, _)] (.cons rfl (.cons rfl (.cons rfl (.cons rfl (.cons rfl (.cons rfl .nil)))))) ?_
                refine VC.seq ?_
                refine VC.held (fun V => Frm [] w9 V) (by kernel_rfl) ?_
                have hS0 : Frm [] w9 w9.drew := (Frm.refl [] w9).drew
                have hS := hS0
                have hbgv := hbg
                have hbpv := hbp
                have hO := hO.frm hS0 (by simp)
                have hbg := hbg.frm hS0 (by simp)
                have hbp := hbp.frm hS0 (by simp)
                have hPs := hPs.frm0 hS0
                have K := K.drew
                refine HOps.take 0 rfl (by kernel_rfl) (by kernel_rfl) (by kernel_rfl) hS (fun w0 hw0 => Run.mv rfl) trivial rfl rfl ?_
                refine HOps.take 1 rfl (by kernel_rfl) (by kernel_rfl) (by kernel_rfl) hS (fun w0 hw0 => Run.nilck rfl) trivial rfl rfl ?_
                refine HOps.take 2 rfl (by kernel_rfl) (by kernel_rfl) (by kernel_rfl) hS (fun w0 hw0 => Run.fieldAddr rfl Tryz.underlying99 rfl Tryz.sizeOf22 (by decide)) trivial rfl rfl ?_
                refine HOps.take 3 rfl (by kernel_rfl) (by kernel_rfl) (by kernel_rfl) hS (fun w0 hw0 => Run.load rfl Tryz.isAgg22 ((hbgv.frm hw0 (by simp)).cell 0)) trivial rfl rfl ?_
                refine HOps.take 4 rfl (by kernel_rfl) (by kernel_rfl) (by kernel_rfl) hS (fun w0 hw0 => Run.fieldAddr rfl Tryz.underlying69 rfl Tryz.sizeOf3 (by decide)) trivial rfl rfl ?_
                refine HOps.take 5 rfl (by kernel_rfl) (by kernel_rfl) (by kernel_rfl) hS (fun w0 hw0 => Run.load rfl Tryz.isAgg3 ((hbpv.frm hw0 (by simp)).cell 2)) trivial rfl rfl ?_
                refine HOps.take 6 rfl (by kernel_rfl) (by kernel_rfl) (by kernel_rfl) hS (fun w0 hw0 => Run.mv rfl) trivial rfl rfl ?_
                refine HOps.take 7 rfl (by kernel_rfl) (by kernel_rfl) (by kernel_rfl) hS (fun w0 hw0 => Run.mv rfl) trivial rfl rfl ?_
                refine HOps.take (v := .int .i64 ((0 : Nat) : Int)) 10 rfl (by kernel_rfl) (by kernel_rfl) (by kernel_rfl) hS (fun w0 hw0 => Run.mv rfl) trivial rfl rfl ?_
                refine HOps.cl 8 rfl (by kernel_rfl) (Enters.fn (evs.cons rfl (evs.cons rfl (evs.cons rfl (evs.cons rfl evs.nil)))) Tryz.call106) ((spans_spec A c q (findQ p.m.ps bndT).1 p.body tu _ (hrdK K) (by omega) hc (by omega) hpbt htl)) trivial rfl rfl ?_
                rintro e w10 ⟨hf10, SA, sc, rfl, hSO, hSub⟩
                have hbg := hbg.frm hf10 (by simp)
                have hbp := hbp.frm hf10 (by simp)
                have hO := hO.frm hf10 (by simp)
                have hPs := hPs.frm0 hf10
                have K := K.trans hf10 (by simp)
                have hspo := spansQ_ok (s := q) (bd := (findQ p.m.ps bndT).1) hpbt htl
                have hspc := spansQ_count q (findQ p.m.ps bndT).1 p.body tu
                have hnm := hnm hc4 hc5
                generalize spansQ q (findQ p.m.ps bndT).1 p.body tu = sp at *
                have hS := hS.trans hf10 (by simp)
                refine ⟨_, rfl, hS, ?_⟩
                refine HOps.take 9 rfl (by kernel_rfl) (by kernel_rfl) (by kernel_rfl) hS (fun w0 hw0 => Run.lenS rfl Tryz.underlying134) trivial rfl rfl ?_
                refine HOps.done (by kernel_rfl) ?_
                refine thenQ_n ?_
                refine VC.sub [(0, _), (4, _), (13, _), (14, _), (120, _), (121, _), (122, _)] (.cons rfl (.cons rfl (.cons rfl (.cons rfl (.cons rfl (.cons rfl (.cons rfl .nil))))))) ?_
                refine VC.block ?_
                refine VC.loop (σ := Nat × List Pc × Option Addr × Nat) (fun s => [(0, .pointer (some ⟨g, 0, none⟩)), (4, .int .i64 ((nest : Nat) : Int)), (13, .int .i64 ((l.length : Nat) : Int)), (14, .pointer (some ⟨gp, 0, none⟩)), (120, .slice SA sp.length sc), (121, .int .i64 ((sp.length : Nat) : Int)), (122, .int .i64 ((s.1 : Nat) : Int))]) (fun s wr => s.1 ≤ sp.length ∧ s.2.1.map (·.1) = (sp.take s.1).foldl (fun acc x => fndQ q n' (setK acc l.length 1) x.1 x.2 (l.length : Int) (decide (p.m.sub = digT))) (l1.map (·.1)) ∧ l.length < s.2.1.length ∧ s.2.1.length ≤ 64 ∧ KidsOk (s.2.1.map (·.1)) ∧ Own wr 69 9 s.2.2.1 s.2.1.length s.2.2.2 (PP s.2.1) ∧ OwnPs wr s.2.1 ∧ Blk wr g 99 #[.slice A q.length c, .slice s.2.2.1 s.2.1.length s.2.2.2] ∧ Blk wr gp 69 (PP1 (p, MA, mc)).toArray ∧ Own wr 136 2 SA sp.length sc (PN sp) ∧ Frm (g :: ob LA) w wr ∧ (∀ x ∈ ob s.2.2.1, x ∈ ob LA ∨ w.heap.size ≤ x) ∧ gp ∉ ob s.2.2.1) (fun s => sp.length - s.1) (0, l1, LA6, lc6) (.cons rfl (.cons rfl (.cons rfl (.cons rfl (.cons rfl (.cons rfl (.cons rfl .nil))))))) ⟨by omega, rfl, hl1i, by show l1.length ≤ 64; omega, hk1, hO, hPs, hbg, hbp, hSO, K, hub6, hgp6⟩ ?_
                rintro ⟨j, l2, LA2, lc2⟩ wr ⟨hj, hm2, hl2a, hl2b, hk2, hO, hPs, hbg, hbp, hSO, K, hub2, hgp2⟩
                dsimp only at hj hm2 hl2a hl2b hk2 hO hPs hbg hbp hSO K hub2 hgp2 ⊢
                refine VC.seq ?_
                refine VC.region ?_
                refine Ops.r (Run.bin rfl rfl (Bin.lssN _ _)) rfl ?_
                refine Ops.nil ?_
                refine thenQ_n ?_
                refine VC.seq ?_
                refine VC.condD rfl (fun hc6 => ?_) (fun hc6 => ?_)
                · skip
                  obtain ⟨adS, rfl, hcS⟩ := PN_at hSO.rd hc6
                  have hfs := foldl_snoc' (fun acc x => fndQ q n' (setK acc l.length 1) x.1 x.2 (l.length : Int) (decide (p.m.sub = digT))) (l1.map (·.1)) sp j hc6
                  rw [← hm2] at hfs
                  have hxo := hspo sp[j] (List.getElem_mem hc6)
                  generalize hx : sp[j] = x at *
                  have lgp := hbp.lt
                  have lgg := hbg.lt
                  have lSO := hSO.lt
                  have lOO := hO.lt
                  refine VC.skip ?_
                  refine thenQ_n ?_
                  refine VC.sub [(0, _), (4, _), (13, _), (14, _), (120, _), (121, _), (122, _)] (.cons rfl (.cons rfl (.cons rfl (.cons rfl (.cons rfl (.cons rfl (.cons rfl .nil))))))) ?_
                  refine VC.seq ?_
                  refine VC.block ?_
                  refine VC.seq ?_
                  refine VC.region ?_
                  refine Ops.r (Run.indexS j rfl rfl Tryz.underlying134 Tryz.sizeOf136 hc6) rfl ?_
                  refine Ops.r (Run.loadA rfl Tryz.isAgg136 Tryz.sizeOf136 hcS (by first | rfl | (simp; done))) rfl ?_
                  refine Ops.m (Does.alloc zero136) rfl ?_
                  rintro _ V1 ⟨rfl, hF1⟩
                  have hb18 := hF1.blk
                  have hg18 : wr.heap.size < V1.heap.size := hb18.lt
                  have hO := hO.frm hF1.frm (by simp)
                  have hPs := hPs.frm0 hF1.frm
                  have hbg := hbg.frm hF1.frm (by simp)
                  have hbp := hbp.frm hF1.frm (by simp)
                  have hSO := hSO.frm hF1.frm (by simp)
                  have sKr := K.size
                  have K := K.trans hF1.frm (by simp)
                  generalize hg18e : wr.heap.size = g18 at *
                  have hb18o := hb18
                  refine Ops.st (Acts.storeA rfl rfl Tryz.sizeOf136 hb18 rfl (PN1_one x)) ?_
                  rintro V2 ⟨hb18n, hf2, _⟩
                  have hb18 : Blk V2 g18 136 (PN1 x).toArray := hb18n
                  have hO := hO.frm hf2 (fun y hy => by have := lOO y hy; simp; omega)
                  have hPs := hPs.blk hf2 hb18o (by decide)
                  have hbg := hbg.frm hf2 (by simp; omega)
                  have hbp := hbp.frm hf2 (by simp; omega)
                  have hSO := hSO.frm hf2 (fun y hy => by have := lSO y hy; simp; omega)
                  have K := K.trans hf2 (fun y hy => by simp at hy; exact .inr (by omega))
                  have hl2i : l.length < l2.length := hl2a
                  obtain ⟨ad2, rfl, hcell⟩ := PP_at hO.rd hl2i
                  have hset := PP_set l2 l.length 0 hl2i (by omega) (.int .i64 1) ({ l2[l.length].1 with kind := 1 }, l2[l.length].2) rfl
                  refine Ops.nil ?_
                  refine thenQ_n ?_
                  refine VC.sub [(0, _), (4, _), (13, _), (14, _), (18, _), (120, _), (121, _), (122, _)] (.cons rfl (.cons rfl (.cons rfl (.cons rfl (.cons rfl (.cons rfl (.cons rfl (.cons rfl .nil)))))))) ?_
                  refine VC.seq ?_
                  refine VC.region ?_
                  refine Ops.r (Run.mv rfl) rfl ?_
                  refine Ops.r (Run.nilck rfl) rfl ?_
                  refine Ops.r (Run.fieldAddr rfl Tryz.underlying99 rfl Tryz.sizeOf60 (by decide)) rfl ?_
                  refine Ops.r (Run.load rfl Tryz.isAgg60 (hbg.cell 1)) rfl ?_
                  refine Ops.r (Run.mv rfl) rfl ?_
                  refine Ops.r (Run.indexS l.length rfl rfl Tryz.underlying60 Tryz.sizeOf69 hl2i) rfl ?_
                  refine Ops.r (Run.fieldAddr rfl Tryz.underlying69 rfl Tryz.sizeOf3 (by decide)) rfl ?_
                  refine Ops.st (Acts.storeOwn (l.length * 9 + 0) (congrArg (fun a => some (Value.pointer (some a))) (add_add ad2 _ 0)) rfl Tryz.sizeOf3 hO rfl (by omega) rfl) ?_
                  rintro V3 ⟨hO3, hf3, _⟩
                  rw [hset] at hO3
                  have hng3 := hO.ne_blk hbg (by decide)
                  have hPs3 := OwnPs.set (x := ({ l2[l.length].1 with kind := 1 }, l2[l.length].2)) (hPs.own hf3 hO (by decide)) hl2i rfl rfl
                  have hbg3 := hbg.frm hf3 hng3
                  have hbp := hbp.frm hf3 hgp2
                  have hb18 := hb18.frm hf3 (fun hm => by have := lOO _ hm; omega)
                  have hSO := hSO.own' hf3 hO (by decide)
                  have hm3 := setK_map l2 l.length 1 hl2i
                  have K := K.trans hf3 (fun y hy => by rcases hub2 y hy with h | h; exact .inl (by simp [h]); exact .inr h)
                  have hl3l : (l2.set l.length ({ l2[l.length].1 with kind := 1 }, l2[l.length].2)).length = l2.length := List.length_set
                  obtain ⟨l3, hl3⟩ : ∃ l3 : List Pc, l2.set l.length ({ l2[l.length].1 with kind := 1 }, l2[l.length].2) = l3 := ⟨_, rfl⟩
                  rw [hl3] at hO3 hPs3 hm3 hl3l
                  have hk3 : KidsOk (l3.map (·.1)) := by rw [hm3]; exact setK_kids hk2
                  rw [← hl3l] at hO3 hbg3
                  refine Ops.nil ?_
                  refine thenQ_n ?_
                  refine VC.sub [(0, _), (4, _), (13, _), (14, _), (18, _), (120, _), (121, _), (122, _)] (.cons rfl (.cons rfl (.cons rfl (.cons rfl (.cons rfl (.cons rfl (.cons rfl (.cons rfl .nil)))))))) ?_
                  refine VC.region ?_
                  refine Ops.r (Run.mv rfl) rfl ?_
                  refine Ops.r (Run.indexA1 0 rfl rfl Tryz.underlying136 Tryz.sizeOf3 (by omega)) rfl ?_
                  refine Ops.r (Run.load rfl Tryz.isAgg3 (hb18.cell 0)) rfl ?_
                  refine Ops.r (Run.indexA1 1 rfl rfl Tryz.underlying136 Tryz.sizeOf3 (by omega)) rfl ?_
                  refine Ops.r (Run.load rfl Tryz.isAgg3 (hb18.cell 1)) rfl ?_
                  refine Ops.r (Run.mv rfl) rfl ?_
                  refine Ops.r (Run.mv rfl) rfl ?_
                  refine Ops.r (Run.bin rfl rfl (Bin.add_i64 nest 1 (by omega))) rfl ?_
                  refine Ops.r (Run.fieldAddr rfl Tryz.underlying69 rfl Tryz.sizeOf67 (by decide)) rfl ?_
                  refine Ops.r (Run.fieldAddr rfl Tryz.underlying67 rfl Tryz.sizeOf9 (by decide)) rfl ?_
                  refine Ops.r (Run.load rfl Tryz.isAgg9 (loadM hbp 1 _ rfl)) rfl ?_
                  refine Ops.r (Run.eqlT rfl rfl) rfl ?_
                  refine Ops.cl (Enters.fn (evs.cons rfl (evs.cons rfl (evs.cons rfl (evs.cons rfl (evs.cons rfl (evs.cons rfl evs.nil)))))) Tryz.call68) ((ih n' (by omega) (nest + 1) (by omega) g A c q l3 (some ad2) lc2 x.1 x.2 (l.length : Int) (decide (p.m.sub = digT)) _ (hrdK K) hq hc (by omega) (by omega) (by omega) (by omega) (by omega) hk3 hbg3 hO3 hPs3 (hdisK hub2))) rfl ?_
                  rintro e V4 ⟨rfl, l4, LA4, lc4, hm4, hbg4, hO4, hPs4, hf4, hub4⟩
                  refine ⟨_, rfl, ?_⟩
                  have hKs := K.size
                  have hng3' := hO3.ne_blk hbg3 (by decide)
                  have hfl := fnd_len q n' (l3.map (·.1)) x.1 x.2 (l.length : Int) (decide (p.m.sub = digT)) (by rw [List.length_map]; omega)
                  rw [← hm4, List.length_map, List.length_map] at hfl
                  have hk4 : KidsOk (l4.map (·.1)) := by rw [hm4]; exact fnd_kids q _ _ _ _ _ _ hk3
                  have hsz3 := hf3.size
                  have hbp := hbp.frm hf4 (by simp only [List.mem_cons, not_or]; exact ⟨by omega, hgp2⟩)
                  have hSO4 := hSO.frm hf4 (fun y hy => by
                    have h1 := hSO.ne_own hO3 (by decide) y hy
                    have h2 := hSO.ne_blk hbg3 (by decide)
                    simp only [List.mem_cons, not_or]
                    exact ⟨by rintro rfl; exact h2 hy, h1⟩)
                  have K4 := K.trans hf4 (fun y hy => by rcases List.mem_cons.1 hy with h | h; exact .inl (by simp [h]); rcases hub2 y h with h | h; exact .inl (by simp [h]); exact .inr h)
                  have hub4' : ∀ x ∈ ob LA4, x ∈ ob LA ∨ w.heap.size ≤ x := fun x hx => by
                    rcases hub4 x hx with h | h
                    · exact hub2 x h
                    · exact .inr (by omega)
                  have hgp4 : gp ∉ ob LA4 := fun hm => by
                    rcases hub4 gp hm with h | h
                    · exact hgp2 h
                    · have := hf2.size; omega
                  refine Ops.nil ?_
                  refine blockQ_n (thenQ_n ?_)
                  refine VC.sub [(0, _), (4, _), (13, _), (14, _), (120, _), (121, _), (122, _)] (.cons rfl (.cons rfl (.cons rfl (.cons rfl (.cons rfl (.cons rfl (.cons rfl .nil))))))) ?_
                  refine VC.region ?_
                  refine Ops.r (Run.bin rfl rfl (Bin.add_i64 _ 1 (by omega))) rfl ?_
                  refine Ops.r (Run.mv rfl) rfl ?_
                  refine Ops.nil ?_
                  refine thenQ_n ⟨(j + 1, l4, LA4, lc4), (.cons rfl (.cons rfl (.cons rfl (.cons rfl (.cons rfl (.cons rfl (.cons rfl .nil))))))), ?_, ?_⟩
                  · skip
                    refine ⟨hc6, ?_, by show l.length < l4.length; omega, by show l4.length ≤ 64; omega, hk4, hO4, hPs4, hbg4, hbp, hSO4, K4, hub4', hgp4⟩
                    rw [hfs, hm4, hm3]
                  · skip
                    first | omega | (dsimp only; omega)
                · skip
                  have hje : j = sp.length := by omega
                  subst hje
                  rw [List.take_length, ← hnm] at hm2
                  refine VC.exit ?_
                  refine thenQ_x (thenQ_x (blockQ_x ?_))
                  refine end0n ?_
                  exact ⟨rfl, l2, LA2, lc2, hm2, hbg, hO, hPs, K, hub2⟩

theorem find_all (n : Nat) : FindAt n := Nat.strongRecOn n (fun n ih => find_step n ih)

end Go.Proofs.YtenbjndldenkfaaGreatDoor

namespace Go.Proofs.YtenbjndldenkfaaGreatDoor
open Go.RowKit
section
variable {P : Program} {Γ : Env} {w : World} {dst : Option Tmp} {pos : String} {after : Array Edge} {g : Option (Nat × Bool)} {T : TypeId}
/-- A conversion of a row to its own type marks its block. -/
theorem Does.mark {t e : TypeId} {x : Operand} {gb n c : Nat} {cs : Array Value} (hx : ev? Γ x = some (.slice (some ⟨gb, 0, none⟩) n c)) (ht : P.underlying t = some (.slice e)) (he : P.underlying e = some (.int .u8)) (hb : Blk w gb e cs) :
    Does P ⟨dst, .convert t t x, T, pos, after, g⟩ Γ w (fun r w' => r = .slice (some ⟨gb, 0, none⟩) n c ∧ Fro w' gb e cs ∧ Frm [gb] w w') := fun ρ hρ => by
  have hsh : w.shape? gb = some (e, cs.size) := by
    unfold Blk at hb
    unfold World.shape?
    rw [hb]
  refine ⟨.slice (some ⟨gb, 0, none⟩) n c, w.freeze ⟨gb, cs.size, none⟩ 1, ?_, rfl, ?_, ?_⟩
  · simp [execOp, hρ _ _ hx, convert, run_underlying ht, run_underlying he, markStringish, hsh]
  · unfold Blk at hb
    unfold Fro World.freeze
    rw [if_neg (by decide)]
    show (w.heap.modify gb _)[gb]? = _
    rw [Array.getElem?_modify, if_pos rfl, hb]
    rfl
  · refine ⟨?_, ?_, ?_, ?_, ?_⟩
    · unfold World.freeze; rw [if_neg (by decide)]
    · unfold World.freeze; rw [if_neg (by decide)]
    · unfold World.freeze; rw [if_neg (by decide)]
    · unfold World.freeze; rw [if_neg (by decide)]; simp
    · intro i hi hni
      unfold World.freeze
      rw [if_neg (by decide)]
      show (w.heap.modify gb _)[i]? = _
      rw [Array.getElem?_modify, if_neg (fun h => hni (by simp [h]))]
/-- A row of one's own, or one that is marked and full. -/
def OwnF (w : World) (e : TypeId) (A : Option Addr) (n c : Nat) (xs : List Value) : Prop := Own w e 1 A n c xs ∨ ∃ (gb : Nat) (cs : Array Value), A = some ⟨gb, 0, none⟩ ∧ c = n ∧ cs.toList = xs ∧ xs.length = n ∧ Fro w gb e cs
theorem OwnF.frm {w w' : World} {S : List Nat} {e n c : Nat} {A : Option Addr} {xs : List Value} (h : OwnF w e A n c xs) (k : Frm S w w') (hS : ∀ x ∈ ob A, x ∉ S) : OwnF w' e A n c xs := by
  rcases h with h | ⟨gb, cs, rfl, h1, h2, h3, h4⟩
  · exact .inl (h.frm k hS)
  · exact .inr ⟨gb, cs, rfl, h1, h2, h3, h4.frm k (hS gb (by simp [ob]))⟩
theorem OwnF.lt {w : World} {e n c : Nat} {A : Option Addr} {xs : List Value} (h : OwnF w e A n c xs) : ∀ x ∈ ob A, x < w.heap.size := by
  rcases h with h | ⟨gb, cs, rfl, h1, h2, h3, h4⟩
  · exact h.lt
  · simpa [ob] using h4.lt
theorem OwnF.cells {w : World} {e n c gb : Nat} {cs : Array Value} {xs : List Value} (h2 : cs.toList = xs) (h4 : Fro w gb e cs) : ∀ j u, xs[j]? = some u → w.cell? ((⟨gb, 0, none⟩ : Addr).add j) = some u := by
  intro j u hu
  have e1 : (⟨gb, 0, none⟩ : Addr).add j = ⟨gb, j, none⟩ := by unfold Addr.add; split <;> simp_all
  rw [e1, h4.cell, ← hu, ← h2, Array.getElem?_toList]
theorem OwnF.rd {w : World} {e n c : Nat} {A : Option Addr} {xs : List Value} (h : OwnF w e A n c xs) : Rd w 1 A n xs := by
  rcases h with h | ⟨gb, cs, rfl, h1, h2, h3, h4⟩
  · exact h.rd
  · exact ⟨by omega, fun hn => ⟨_, rfl, h4.lt, OwnF.cells (n := n) (c := c) h2 h4⟩⟩
theorem OwnF.le {w : World} {e n c : Nat} {A : Option Addr} {xs : List Value} (h : OwnF w e A n c xs) : n ≤ c := by
  rcases h with h | ⟨gb, cs, rfl, h1, h2, h3, h4⟩
  · exact h.le
  · omega
theorem OwnF.ne_blk {w : World} {e t n c gb : Nat} {A : Option Addr} {xs : List Value} {cs : Array Value} (h : OwnF w e A n c xs) (hb : Blk w gb t cs) (hne : e ≠ t) : gb ∉ ob A := by
  rcases h with h | ⟨g2, cs2, rfl, h1, h2, h3, h4⟩
  · exact h.ne_blk hb hne
  · intro hm
    simp only [ob, List.mem_singleton] at hm
    subst hm
    unfold Fro at h4
    unfold Blk at hb
    rw [h4] at hb
    injection hb with hb
    injection hb with _ hb _
    exact hne hb
end
end Go.Proofs.YtenbjndldenkfaaGreatDoor

namespace Go.Proofs.YtenbjndldenkfaaGreatDoor
open Go.RowKit Go.Sort

set_option maxRecDepth 100000 in
theorem all_spec (A : Option Addr) (c : Nat) (q : Tx) (w : World) (hrd : Rd w 1 A q.length (U8 q)) (hq : q.length ≤ 400000) (hc : q.length ≤ c) :
    Calls Tryz.prog 38 #[.slice A q.length c] w fun e w' => Frm [] w w' ∧ ∃ (l : List Pc) (LA : Option Addr) (lc : Nat), l.map (·.1) = partsQ q ∧ e = .returned (.slice LA l.length lc) ∧ Own w' 69 9 LA l.length lc (PP l) ∧ OwnPs w' l ∧ ∀ x ∈ ob LA, w.heap.size ≤ x := by
  refine VC.calls (nt := 15) (res := #[.tmp 2]) Tryz.func38 rfl Tryz.ntmps38 Tryz.results38 rfl ?_
  refine VC.seq ?_
  refine VC.region ?_
  refine Ops.r (Run.asg rfl) rfl ?_
  refine Ops.nil ?_
  refine thenQ_n ?_
  refine VC.sub [(0, _)] (.cons rfl .nil) ?_
  refine VC.seq ?_
  refine VC.region ?_
  refine Ops.r (Run.mv rfl) rfl ?_
  refine Ops.r (Run.build (evs.cons rfl evs.nil) zero99 (places99).choose_spec.1 (places99).choose_spec.2 rfl) rfl ?_
  refine Ops.m (Does.box rfl) rfl ?_
  rintro _ w1 ⟨rfl, hF1⟩
  have hbg : Blk w1 w.heap.size 99 #[.slice A q.length c, .slice none 0 0] := hF1.blk
  have K := hF1.frm
  have hlt := hbg.lt
  refine Ops.r (Run.asg rfl) rfl ?_
  refine Ops.nil ?_
  refine thenQ_n ?_
  refine VC.sub [(0, _), (3, _)] (.cons rfl (.cons rfl .nil)) ?_
  refine VC.seq ?_
  refine VC.region ?_
  refine Ops.r (Run.mv rfl) rfl ?_
  refine Ops.r (Run.mv rfl) rfl ?_
  refine Ops.r (Run.lenS rfl Tryz.underlying22) rfl ?_
  refine Ops.cl (Enters.fn (evs.cons rfl (evs.cons rfl (evs.cons rfl (evs.cons rfl (evs.cons rfl (evs.cons rfl evs.nil)))))) Tryz.call68) ((find_all 6 0 rfl w.heap.size A c q [] none 0 0 q.length (-1) false _ (hrd.frm K (by simp)) hq hc (Nat.zero_le _) (Nat.le_refl _) (by simp) (by omega) (by simp) (by intro i x hx; simp at hx) hbg (Own.nil _ _ _) (by intro x hx; simp at hx) (fun x hx => ⟨by have := hrd.lt (obN_mem hx).1 x (obN_mem hx).2; omega, by simp [ob]⟩))) rfl ?_
  rintro e w2 ⟨rfl, l, LA, lc, hm, hbg, hO, hPs, hf2, hub⟩
  refine ⟨_, rfl, ?_⟩
  have K2 := Frm.own K hf2 (fun y hy => by simp [ob] at hy; omega)
  have hm : l.map (·.1) = partsQ q := hm
  refine Ops.nil ?_
  refine thenQ_n ?_
  refine VC.sub [(3, _)] (.cons rfl .nil) ?_
  refine VC.seq ?_
  refine VC.region ?_
  refine Ops.r (Run.mv rfl) rfl ?_
  refine Ops.r (Run.nilck rfl) rfl ?_
  refine Ops.r (Run.fieldAddr rfl Tryz.underlying99 rfl Tryz.sizeOf60 (by decide)) rfl ?_
  refine Ops.r (Run.load rfl Tryz.isAgg60 (hbg.cell 1)) rfl ?_
  refine Ops.r (Run.asg rfl) rfl ?_
  refine Ops.nil ?_
  refine thenQ_n ?_
  refine VC.sub [(2, _)] (.cons rfl .nil) ?_
  refine VC.ret ?_
  refine end1 rfl ?_
  exact ⟨K2, l, LA, lc, hm, rfl, hO, hPs, fun x hx => by rcases hub x hx with h | h; simp [ob] at h; omega⟩

end Go.Proofs.YtenbjndldenkfaaGreatDoor

namespace Go.Proofs.YtenbjndldenkfaaGreatDoor
open Go.RowKit Go.Sort

theorem Bin.subW (x y : Int) : Bin .sub .i64 x .i64 y (.int .i64 (IntKind.i64.wrap (x - y))) := fun P T w => by simp [binOp, Op.intArith]
theorem wrap_in {n : Int} (h1 : -9223372036854775808 ≤ n) (h2 : n ≤ 9223372036854775807) : IntKind.i64.wrap n = n := wrap_fit _ _ (by simp only [bmin]; omega) (by simp only [bmax]; omega)
set_option maxRecDepth 100000 in
theorem kid_spec (A : Option Addr) (c : Nat) (l : List Pc) (i n : Int) (w : World) (hrd : Rd w 9 A l.length (PP l)) (hl : l.length ≤ 1000) (hn1 : -9223372036854775808 ≤ n) (hn2 : n ≤ 9223372036854775807) :
    Calls Tryz.prog 65 #[.slice A l.length c, .int .i64 i, .int .i64 n] w fun e w' => e = .returned (.int .i64 (kidQ (l.map (·.1)) i n)) ∧ Frm [] w w' := by
  refine VC.calls (nt := 26) (res := #[.tmp 6]) Tryz.func65 rfl Tryz.ntmps65 Tryz.results65 rfl ?_
  refine VC.seq ?_
  refine VC.region ?_
  refine Ops.r (v := .int .i64 ((0 : Nat) : Int)) (Run.asg rfl) rfl ?_
  refine Ops.nil ?_
  refine thenQ_n ?_
  refine VC.sub [(0, _), (1, _), (2, _)] (.cons rfl (.cons rfl (.cons rfl .nil))) ?_
  refine VC.seq ?_
  refine VC.seq ?_
  refine VC.region ?_
  refine Ops.r (Run.mv rfl) rfl ?_
  refine Ops.r (Run.lenS rfl Tryz.underlying60) rfl ?_
  refine Ops.r (v := .int .i64 ((0 : Nat) : Int)) (Run.mv rfl) rfl ?_
  refine Ops.nil ?_
  refine thenQ_n ?_
  refine VC.sub [(1, _), (2, _), (9, _), (10, _), (11, _)] (.cons rfl (.cons rfl (.cons rfl (.cons rfl (.cons rfl .nil))))) ?_
  refine VC.block ?_
  refine VC.loop (σ := Nat × Int) (fun s => [(1, .int .i64 i), (2, .int .i64 (IntKind.i64.wrap s.2)), (9, .slice A l.length c), (10, .int .i64 ((l.length : Nat) : Int)), (11, .int .i64 ((s.1 : Nat) : Int))]) (fun s wr => s.1 ≤ l.length ∧ n - s.1 ≤ s.2 ∧ s.2 ≤ n ∧ kidL i ((l.map (·.1)).drop s.1) s.1 s.2 = kidQ (l.map (·.1)) i n ∧ Frm [] w wr) (fun s => l.length - s.1) (0, n) (.cons rfl (.cons (by rw [wrap_in hn1 hn2]; rfl) (.cons rfl (.cons rfl (.cons rfl .nil))))) ⟨by omega, by simp, by simp, rfl, Frm.refl _ _⟩ ?_
  rintro ⟨k, m⟩ wr ⟨hk, hm1, hm2, hq, K⟩
  dsimp only at hk hm1 hm2 hq K ⊢
  have hml : (l.map (·.1)).length = l.length := by simp
  refine VC.seq ?_
  refine VC.region ?_
  refine Ops.r (Run.bin rfl rfl (Bin.lssN _ _)) rfl ?_
  refine Ops.nil ?_
  refine thenQ_n ?_
  refine VC.seq ?_
  refine VC.condD rfl (fun hc1 => ?_) (fun hc1 => ?_)
  · skip
    obtain ⟨ad, rfl, hcell⟩ := PP_at (hrd.frm K (by simp)) hc1
    have hnx := kidL_next (i := i) (l := (l.map (·.1))) (k := k) (n := m) (by omega)
    rw [List.getElem_map, hq] at hnx
    refine VC.skip ?_
    refine thenQ_n ?_
    refine VC.sub [(1, _), (2, _), (9, _), (10, _), (11, _)] (.cons rfl (.cons rfl (.cons rfl (.cons rfl (.cons rfl .nil))))) ?_
    refine VC.seq ?_
    refine VC.block ?_
    refine VC.seq ?_
    refine VC.region ?_
    refine Ops.r (Run.mv rfl) rfl ?_
    refine Ops.r (Run.indexS k rfl rfl Tryz.underlying60 Tryz.sizeOf69 hc1) rfl ?_
    refine Ops.r (Run.loadA rfl Tryz.isAgg69 Tryz.sizeOf69 hcell (by first | rfl | (simp; done))) rfl ?_
    refine Ops.m (Does.alloc zero69) rfl ?_
    rintro _ w2 ⟨rfl, hF2⟩
    have hb8 := hF2.blk
    have sK := K.size
    have K := K.trans hF2.frm (by simp)
    generalize hg8 : wr.heap.size = g8 at hb8 sK ⊢
    refine Ops.r (Run.asg rfl) rfl ?_
    refine Ops.st (Acts.storeA rfl rfl Tryz.sizeOf69 hb8 rfl (PP1_one l[k])) ?_
    rintro w3 ⟨hb8n, hf3, _⟩
    have hb8 : Blk w3 g8 69 (PP1 l[k]).toArray := hb8n
    have K := Frm.own K hf3 (fun y hy => by simp at hy; omega)
    refine Ops.nil ?_
    refine thenQ_n ?_
    refine VC.sub [(1, _), (2, _), (7, _), (8, _), (9, _), (10, _), (11, _)] (.cons rfl (.cons rfl (.cons rfl (.cons rfl (.cons rfl (.cons rfl (.cons rfl .nil))))))) ?_
    refine VC.seq ?_
    refine VC.region ?_
    refine Ops.r (Run.fieldAddr rfl Tryz.underlying69 rfl Tryz.sizeOf3 (by decide)) rfl ?_
    refine Ops.r (Run.load rfl Tryz.isAgg3 (hb8.cell 7)) rfl ?_
    refine Ops.r (Run.mv rfl) rfl ?_
    refine Ops.r (Run.bin rfl rfl (Bin.eql _ _)) rfl ?_
    refine Ops.nil ?_
    refine thenQ_n ?_
    refine VC.sub [(1, _), (2, _), (7, _), (9, _), (10, _), (11, _), (19, _)] (.cons rfl (.cons rfl (.cons rfl (.cons rfl (.cons rfl (.cons rfl (.cons rfl .nil))))))) ?_
    refine VC.meet (σ := Int) (fun s => [(1, .int .i64 i), (2, .int .i64 (IntKind.i64.wrap s)), (9, .slice (some ad) l.length c), (10, .int .i64 ((l.length : Nat) : Int)), (11, .int .i64 ((k : Nat) : Int))]) (fun s wr => n - ((k + 1 : Nat) : Int) ≤ s ∧ s ≤ n ∧ kidL i ((l.map (·.1)).drop (k + 1)) (k + 1) s = kidQ (l.map (·.1)) i n ∧ Frm [] w wr) ?_ ?_
    · skip
      refine VC.condD rfl (fun hc2 => ?_) (fun hc2 => ?_)
      · skip
        rw [if_pos hc2] at hnx
        refine VC.seq ?_
        refine VC.region ?_
        refine Ops.r (Run.mv rfl) rfl ?_
        refine Ops.r (Run.bin rfl rfl (Bin.subW _ 1)) rfl ?_
        rw [wrap_dec]
        refine Ops.r (Run.asg rfl) rfl ?_
        refine Ops.nil ?_
        refine thenQ_n ?_
        refine VC.sub [(1, _), (2, _), (7, _), (9, _), (10, _), (11, _)] (.cons rfl (.cons rfl (.cons rfl (.cons rfl (.cons rfl (.cons rfl .nil)))))) ?_
        refine VC.seq ?_
        refine VC.region ?_
        refine Ops.r (Run.mv rfl) rfl ?_
        refine Ops.r (Run.bin rfl rfl (Bin.eql _ 0)) rfl ?_
        refine Ops.nil ?_
        refine thenQ_n ?_
        refine VC.sub [(1, _), (2, _), (7, _), (9, _), (10, _), (11, _), (23, _)] (.cons rfl (.cons rfl (.cons rfl (.cons rfl (.cons rfl (.cons rfl (.cons rfl .nil))))))) ?_
        refine VC.condD rfl (fun hc3 => ?_) (fun hc3 => ?_)
        · skip
          have hm : m = 1 := by have := (wrap_zero (m := m - 1) (by omega) (by omega)).1 hc3; omega
          rw [if_pos hm] at hnx
          refine VC.seq ?_
          refine VC.region ?_
          refine Ops.r (Run.mv rfl) rfl ?_
          refine Ops.r (Run.asg rfl) rfl ?_
          refine Ops.nil ?_
          refine thenQ_n ?_
          refine VC.sub [(6, _)] (.cons rfl .nil) ?_
          refine VC.ret ?_
          refine thenQ_r (blockQ_r (thenQ_r (thenQ_r (blockQ_r (thenQ_r (end1 rfl ?_))))))
          exact ⟨by rw [hnx], K⟩
        · skip
          have hm : m ≠ 1 := fun h => hc3 ((wrap_zero (m := m - 1) (by omega) (by omega)).2 (by omega))
          rw [if_neg hm] at hnx
          refine VC.skip ?_
          refine thenQ_n ⟨(m - 1), (.cons rfl (.cons rfl (.cons rfl (.cons rfl (.cons rfl .nil))))), ?_⟩
          exact ⟨by omega, by omega, hnx.symm, K⟩
      · skip
        rw [if_neg hc2] at hnx
        refine VC.skip ?_
        refine thenQ_n ⟨m, (.cons rfl (.cons rfl (.cons rfl (.cons rfl (.cons rfl .nil))))), ?_⟩
        exact ⟨by omega, by omega, hnx.symm, K⟩
    · skip
      rintro m2 w4 ⟨hm1, hm2, hq, K⟩ Γ hΓ
      refine blockQ_n (thenQ_n (VC.sub _ hΓ ?_))
      refine VC.region ?_
      refine Ops.r (Run.bin rfl rfl (Bin.add_i64 _ 1 (by omega))) rfl ?_
      refine Ops.r (Run.mv rfl) rfl ?_
      refine Ops.nil ?_
      refine thenQ_n ⟨(k + 1, m2), (.cons rfl (.cons rfl (.cons rfl (.cons rfl (.cons rfl .nil))))), ?_, ?_⟩
      · skip
        exact ⟨hc1, hm1, hm2, hq, K⟩
      · skip
        first | omega | (dsimp only; omega)
  · skip
    have hkl : k = l.length := by omega
    rw [List.drop_of_length_le (by omega)] at hq
    have hq : -1 = kidQ (l.map (·.1)) i n := hq
    refine VC.exit ?_
    refine thenQ_x (thenQ_x (blockQ_x ?_))
    refine thenQ_n ?_
    refine VC.sub [] .nil ?_
    refine VC.seq ?_
    refine VC.region ?_
    refine Ops.r (v := .int .i64 (-1)) (Run.asg rfl) rfl ?_
    refine Ops.nil ?_
    refine thenQ_n ?_
    refine VC.ret ?_
    refine end1 rfl ?_
    exact ⟨by rw [← hq], K⟩

end Go.Proofs.YtenbjndldenkfaaGreatDoor

namespace Go.Proofs.YtenbjndldenkfaaGreatDoor
open Go.RowKit Go.Sort

section
variable {P : Program} {Γ : Env} {w : World} {dst : Option Tmp} {T : TypeId} {pos : String} {after : Array Edge} {g : Option (Nat × Bool)}
theorem Run.extA {f : FuncId} {xs : List Operand} {vs : List Value} {ts : Array TypeId} {v : Value} (hv : evs Γ xs vs) (hf : (callFunc f vs.toArray).run P w = .ok (.value v) w) :
    Run P ⟨dst, .call ⟨.value (.func f), xs.toArray, ts⟩, T, pos, after, g⟩ Γ w v := fun ρ hρ => by
  have e := evs_map hρ xs vs hv
  have e2 : ρ (.func f) = .func (.func f) #[] #[] := hρ _ _ rfl
  simp [execOp, resolve, e2, Deferred.ofValue, invoke, e, hf]
end
theorem count_run (A : Option Addr) (c : Nat) (q : Tx) (w : World) (hrd : Rd w 1 A q.length (U8 q)) : (callFunc 179 #[.slice A q.length c, .int .u8 ((10 : Nat) : Int)]).run Tryz.prog w = .ok (.value (.int .i64 ((q.count 10 : Nat) : Int))) w := by
  rw [run_callFunc_extern Tryz.func179 (by kernel_rfl) (by kernel_rfl) (by kernel_rfl) (e := Extern.BytealgCount.count) (by kernel_rfl)]
  cases A with
  | none =>
    have h0 : q = [] := by
      cases q with
      | nil => rfl
      | cons x r =>
        obtain ⟨ad, he, _⟩ := hrd.2 (by simp)
        cases he
    subst h0
    have h := Lib.run_countNil (P := Tryz.prog) w ([] : Tx).length c ((10 : Nat) : Int)
    rw [h]
    rfl
  | some a =>
    have h := Lib.run_countAt (P := Tryz.prog) w a q.length c (q.map fun x => ((x.toNat : Nat) : Int)) (by simp) (fun i hi => by
      obtain ⟨ad, u, he, hu, hc⟩ := hrd.at1 hi
      cases he
      rw [hc]
      simp only [U8, List.getElem?_map, List.getElem?_eq_getElem hi, Option.map_some, Option.some.injEq] at hu
      rw [← hu, List.getD_eq_getElem?_getD, List.getElem?_map, List.getElem?_eq_getElem hi]
      rfl) ((10 : Nat) : Int)
    rw [h]
    have e : Lib.bytesOf (q.map fun x => ((x.toNat : Nat) : Int)) = q := by
      unfold Lib.bytesOf
      rw [List.map_map]
      conv => rhs; rw [← List.map_id q]
      exact List.map_congr_left fun x _ => by simp
    rw [e]
    rfl
theorem parsL_count : ∀ ps : List Par, (parsL ps).length = 2 * ps.length
  | [] => rfl
  | p :: r => by
    show (strQ p.1 :: strQ p.2 :: parsL r).length = _
    simp only [List.length_cons, parsL_count r]
    omega
theorem parsL_snoc (ps : List Par) (p : Par) : parsL (ps ++ [p]) = parsL ps ++ [strQ p.1, strQ p.2] := by simp [parsL]
theorem oneS_P {q : Tx} {P : List Prt} (hup : ∀ (k : Nat) (p : Prt), P[k]? = some p → p.up < (k : Int)) (h64 : P.length ≤ 64) {i : Nat} {p : Prt} (h : P[i]? = some p) : oneS 64 q P i = oneP (oneS 64 q P) q P i p := by
  rw [oneS_at (n := 63) h]
  exact oneP_congr fun j y hj hy => oneS_deep hup 63 64 j (by have := hup j y hj; omega) (by omega)
theorem PM_cells {w : World} {g : Nat} {t : TypeId} {x : Pc} (hb : Blk w g t (PP1 x).toArray) : ∀ (j : Nat) (v : Value), (MdC x.1.m x.2.1 x.2.2).toList[j]? = some v → w.cell? ((⟨g, 4, none⟩ : Addr).add j) = some v := by
  intro j v hj
  match j, hj with
  | 0, hj => cases hj; exact hb.cell 4
  | 1, hj => cases hj; exact hb.cell 5
  | 2, hj => cases hj; exact hb.cell 6
theorem sliceQ_ln {q : Tx} {a b : Nat} (hb : b ≤ q.length) : (sliceQ q a b).length = b - a := by unfold sliceQ; simp; omega

set_option maxRecDepth 100000 in
theorem bcount_spec (A : Option Addr) (c g d : Nat) (q : Tx) (w : World) (hrd : Rd w 1 A q.length (U8 q)) (hg : w.cell? ⟨g, 0, none⟩ = some (.int .u8 ((10 : Nat) : Int))) :
    Calls Tryz.prog 138 #[.slice A q.length c, .slice (some ⟨g, 0, none⟩) 1 d] w fun e w' => e = .returned (.int .i64 ((q.count 10 : Nat) : Int)) ∧ w = w' := by
  refine VC.calls (nt := 35) (res := #[.tmp 4]) Tryz.func138 rfl Tryz.ntmps138 Tryz.results138 rfl ?_
  refine VC.seq ?_
  refine VC.region ?_
  refine Ops.r (v := .int .i64 ((0 : Nat) : Int)) (Run.asg rfl) rfl ?_
  refine Ops.nil ?_
  refine thenQ_n ?_
  refine VC.sub [(0, _), (1, _)] (.cons rfl (.cons rfl .nil)) ?_
  refine VC.seq ?_
  refine VC.seq ?_
  refine VC.region ?_
  refine Ops.r (Run.mv rfl) rfl ?_
  refine Ops.r (Run.lenS rfl Tryz.underlying22) rfl ?_
  refine Ops.r (Run.bin rfl rfl (Bin.eqlN _ 0)) rfl ?_
  refine Ops.nil ?_
  refine thenQ_n ?_
  refine VC.sub [(0, _), (1, _), (9, _)] (.cons rfl (.cons rfl (.cons rfl .nil))) ?_
  refine VC.condF rfl (rfl) ?_
  refine VC.skip ?_
  refine thenQ_n ?_
  refine VC.sub [(0, _), (1, _)] (.cons rfl (.cons rfl .nil)) ?_
  refine VC.seq ?_
  refine VC.seq ?_
  refine VC.region ?_
  refine Ops.r (Run.mv rfl) rfl ?_
  refine Ops.r (Run.lenS rfl Tryz.underlying22) rfl ?_
  refine Ops.r (Run.bin rfl rfl (Bin.eqlN _ 1)) rfl ?_
  refine Ops.nil ?_
  refine thenQ_n ?_
  refine VC.sub [(0, _), (1, _), (15, _)] (.cons rfl (.cons rfl (.cons rfl .nil))) ?_
  refine VC.condT rfl (rfl) ?_
  refine VC.seq ?_
  refine VC.region ?_
  refine Ops.r (Run.mv rfl) rfl ?_
  refine Ops.r (Run.mv rfl) rfl ?_
  refine Ops.r (Run.index1 0 rfl rfl Tryz.underlying22 Tryz.sizeOf5 (by omega)) rfl ?_
  refine Ops.r (Run.load rfl Tryz.isAgg5 hg) rfl ?_
  refine Ops.r (Run.extA (evs.cons rfl (evs.cons rfl evs.nil)) (count_run A c q _ hrd)) rfl ?_
  refine Ops.r (Run.asg rfl) rfl ?_
  refine Ops.nil ?_
  refine thenQ_n ?_
  refine VC.sub [(4, _)] (.cons rfl .nil) ?_
  refine VC.ret ?_
  refine thenQ_r (end1 rfl ?_)
  exact ⟨rfl, rfl⟩

set_option maxRecDepth 100000 in
theorem hlinesN_spec (A : Option Addr) (c : Nat) (q : Tx) (w : World) (hrd : Rd w 1 A q.length (U8 q)) :
    Calls Tryz.prog 103 #[.slice A q.length c] w fun e w' => e = .returned (.int .i64 ((q.count 10 : Nat) : Int)) ∧ Frm [] w w' := by
  refine VC.calls (nt := 7) (res := #[.tmp 2]) Tryz.func103 rfl Tryz.ntmps103 Tryz.results103 rfl ?_
  refine VC.seq ?_
  refine VC.region ?_
  refine Ops.r (v := .int .i64 ((0 : Nat) : Int)) (Run.asg rfl) rfl ?_
  refine Ops.nil ?_
  refine thenQ_n ?_
  refine VC.sub [(0, _)] (.cons rfl .nil) ?_
  refine VC.seq ?_
  refine VC.region ?_
  refine Ops.r (Run.mv rfl) rfl ?_
  refine Ops.m (Does.buildS1 rfl Tryz.underlying22 Tryz.sizeOf5 zero5 (by decide) (by decide) rfl rfl) rfl ?_
  rintro _ w1 ⟨rfl, hF1⟩
  have hb4 : Blk w1 w.heap.size 5 #[.int .u8 ((10 : Nat) : Int)] := hF1.blk
  have K := hF1.frm
  refine Ops.m (Does.mark rfl Tryz.underlying22 Tryz.underlying5 hb4) rfl ?_
  rintro _ w2 ⟨rfl, hfro, f2⟩
  have K := Frm.own K f2 (fun y hy => by simp at hy; omega)
  have hc10 : w2.cell? ⟨w.heap.size, 0, none⟩ = some (.int .u8 ((10 : Nat) : Int)) := hfro.cell 0
  refine Ops.cl (Enters.fn (evs.cons rfl (evs.cons rfl evs.nil)) Tryz.call138) ((bcount_spec A c _ 1 q _ (hrd.frm K (by simp)) hc10)) rfl ?_
  rintro e _ ⟨rfl, rfl⟩
  refine ⟨_, rfl, ?_⟩
  refine Ops.r (Run.asg rfl) rfl ?_
  refine Ops.nil ?_
  refine thenQ_n ?_
  refine VC.sub [(2, _)] (.cons rfl .nil) ?_
  refine VC.ret ?_
  refine end1 rfl ?_
  exact ⟨rfl, K⟩

set_option maxRecDepth 100000 in
theorem plinesN_spec (A : Option Addr) (c : Nat) (q : Tx) (x : Pc) (w : World) (hrd : Rd w 1 A q.length (U8 q)) (hc : q.length ≤ c) (hq : q.length ≤ 1000000) (h1 : x.1.body ≤ x.1.tu) (h2 : x.1.tu ≤ q.length) :
    Calls Tryz.prog 67 #[.slice A q.length c, .agg (PP1 x).toArray] w fun e w' => e = .returned (.int .i64 (((sliceQ q x.1.body x.1.tu).count 10 : Nat) : Int)) ∧ Frm [] w w' := by
  refine VC.calls (nt := 29) (res := #[.tmp 4]) Tryz.func67 rfl Tryz.ntmps67 Tryz.results67 rfl ?_
  refine VC.seq ?_
  refine VC.region ?_
  refine Ops.m (Does.box rfl) rfl ?_
  rintro _ w1 ⟨rfl, hF1⟩
  have hb3 : Blk w1 w.heap.size 69 (PP1 x).toArray := hF1.blk
  have K := hF1.frm
  generalize w.heap.size = g3 at hb3 ⊢
  refine Ops.r (v := .int .i64 ((0 : Nat) : Int)) (Run.asg rfl) rfl ?_
  refine Ops.nil ?_
  refine thenQ_n ?_
  refine VC.sub [(0, _), (3, _)] (.cons rfl (.cons rfl .nil)) ?_
  refine VC.seq ?_
  refine VC.seq ?_
  refine VC.region ?_
  refine Ops.r (Run.fieldAddr rfl Tryz.underlying69 rfl Tryz.sizeOf3 (by decide)) rfl ?_
  refine Ops.r (Run.load rfl Tryz.isAgg3 (hb3.cell 2)) rfl ?_
  refine Ops.r (Run.bin rfl rfl (Bin.lssN _ 0)) rfl ?_
  refine Ops.r (Run.mv rfl) rfl ?_
  refine Ops.rg rfl au (Run.fieldAddr rfl Tryz.underlying69 rfl Tryz.sizeOf3 (by decide)) rfl ?_
  refine Ops.rg rfl au (Run.load rfl Tryz.isAgg3 (hb3.cell 3)) rfl ?_
  refine Ops.rg rfl au (Run.fieldAddr rfl Tryz.underlying69 rfl Tryz.sizeOf3 (by decide)) rfl ?_
  refine Ops.rg rfl au (Run.load rfl Tryz.isAgg3 (hb3.cell 2)) rfl ?_
  refine Ops.rg rfl au (Run.bin rfl rfl (Bin.lssN _ _)) rfl ?_
  refine Ops.r (Run.pickF rfl rfl au) rfl ?_
  refine Ops.r (Run.mv rfl) rfl ?_
  refine Ops.rg rfl au (Run.fieldAddr rfl Tryz.underlying69 rfl Tryz.sizeOf3 (by decide)) rfl ?_
  refine Ops.rg rfl au (Run.load rfl Tryz.isAgg3 (hb3.cell 3)) rfl ?_
  refine Ops.rg rfl au (Run.mv rfl) rfl ?_
  refine Ops.rg rfl au (Run.lenS rfl Tryz.underlying22) rfl ?_
  refine Ops.rg rfl au (Run.bin rfl rfl (Bin.gtrN _ _)) rfl ?_
  refine Ops.r (Run.pickF rfl rfl au) rfl ?_
  refine Ops.nil ?_
  refine thenQ_n ?_
  refine VC.sub [(0, _), (3, _), (21, _)] (.cons rfl (.cons rfl (.cons rfl .nil))) ?_
  refine VC.condF rfl ((decide_eq_false (by omega))) ?_
  refine VC.skip ?_
  refine thenQ_n ?_
  refine VC.sub [(0, _), (3, _)] (.cons rfl (.cons rfl .nil)) ?_
  refine VC.seq ?_
  refine VC.region ?_
  refine Ops.r (Run.mv rfl) rfl ?_
  refine Ops.r (Run.fieldAddr rfl Tryz.underlying69 rfl Tryz.sizeOf3 (by decide)) rfl ?_
  refine Ops.r (Run.load rfl Tryz.isAgg3 (hb3.cell 2)) rfl ?_
  refine Ops.r (Run.fieldAddr rfl Tryz.underlying69 rfl Tryz.sizeOf3 (by decide)) rfl ?_
  refine Ops.r (Run.load rfl Tryz.isAgg3 (hb3.cell 3)) rfl ?_
  refine Ops.r (Run.sliceS x.1.body x.1.tu rfl Tryz.underlying22 Tryz.sizeOf5 (evB.some_ rfl) (evB.some_ rfl) h1 (by omega)) rfl ?_
  rw [← sliceQ_ln (q := q) (a := x.1.body) (b := x.1.tu) h2]
  refine Ops.cl (Enters.fn (evs.cons rfl evs.nil) Tryz.call103) ((hlinesN_spec _ _ (sliceQ q x.1.body x.1.tu) _ (U8_cut (hrd.frm K (by simp)) h1 h2 hc))) rfl ?_
  rintro e w2 ⟨rfl, f2⟩
  refine ⟨_, rfl, ?_⟩
  have K := K.trans f2 (by simp)
  refine Ops.r (Run.asg rfl) rfl ?_
  refine Ops.nil ?_
  refine thenQ_n ?_
  refine VC.sub [(4, _)] (.cons rfl .nil) ?_
  refine VC.ret ?_
  refine end1 rfl ?_
  exact ⟨rfl, K⟩

set_option maxRecDepth 100000 in
set_option maxHeartbeats 800000 in
theorem params_spec (m : Med) (PA : Option Addr) (pc : Nat) (w : World) (ht : Tab w) (hps : Rd w 2 PA m.ps.length (PC m.ps)) (hn : m.ps.length ≤ 10000) (hlen : ∀ p ∈ m.ps, p.1.length ≤ 4000 ∧ p.2.length ≤ 4000) :
    Calls Tryz.prog 66 #[.agg (MdC m PA pc)] w fun e w' => e = .returned (encStr (parsS m.ps)) ∧ Frm [] w w' := by
  have K := Frm.refl [] w
  refine VC.calls (nt := 28) (res := #[.tmp 2]) Tryz.func66 rfl Tryz.ntmps66 Tryz.results66 rfl ?_
  refine VC.seq ?_
  refine VC.region ?_
  refine Ops.m (Does.box rfl) rfl ?_
  rintro _ w1 ⟨rfl, hF1⟩
  have hb1 : Blk w1 w.heap.size 67 (MdC m PA pc) := hF1.blk
  have K := K.trans hF1.frm (by simp)
  generalize hg1 : w.heap.size = g1 at hb1 ⊢
  refine Ops.r (Run.asg rfl) rfl ?_
  refine Ops.nil ?_
  refine thenQ_n ?_
  refine VC.sub [(1, _)] (.cons rfl .nil) ?_
  refine VC.seq ?_
  refine VC.region ?_
  refine Ops.r (Run.asg rfl) rfl ?_
  refine Ops.nil ?_
  refine thenQ_n ?_
  refine VC.seq ?_
  refine VC.seq ?_
  refine VC.region ?_
  refine Ops.r (Run.fieldAddr rfl Tryz.underlying67 rfl Tryz.sizeOf65 (by decide)) rfl ?_
  refine Ops.r (Run.load rfl Tryz.isAgg65 (hb1.cell 2)) rfl ?_
  refine Ops.r (Run.lenS rfl Tryz.underlying65) rfl ?_
  refine Ops.r (v := .int .i64 ((0 : Nat) : Int)) (Run.mv rfl) rfl ?_
  refine Ops.nil ?_
  refine thenQ_n ?_
  refine VC.sub [(3, _), (7, _), (8, _), (9, _)] (.cons rfl (.cons rfl (.cons rfl (.cons rfl .nil)))) ?_
  refine VC.block ?_
  refine VC.loop (σ := Nat × Option Addr × Nat) (fun s => [(3, .slice s.2.1 (parsL (m.ps.take s.1)).length s.2.2), (7, .slice PA m.ps.length pc), (8, .int .i64 ((m.ps.length : Nat) : Int)), (9, .int .i64 ((s.1 : Nat) : Int))]) (fun s wr => s.1 ≤ m.ps.length ∧ Own wr 9 1 s.2.1 (parsL (m.ps.take s.1)).length s.2.2 (SB (parsL (m.ps.take s.1))) ∧ Frm [] w wr ∧ ∀ x ∈ ob s.2.1, w.heap.size ≤ x) (fun s => m.ps.length - s.1) (0, none, 0) (.cons rfl (.cons rfl (.cons rfl (.cons rfl .nil)))) ⟨Nat.zero_le _, Own.nil _ _ _, K, by simp [ob]⟩ ?_
  rintro ⟨k, LA, cp⟩ wr ⟨hk, hO, K, hub⟩
  dsimp only at hk hO hub ⊢
  have hpc := parsL_count (m.ps.take k)
  rw [List.length_take] at hpc
  refine VC.seq ?_
  refine VC.region ?_
  refine Ops.r (Run.bin rfl rfl (Bin.lssN _ _)) rfl ?_
  refine Ops.nil ?_
  refine thenQ_n ?_
  refine VC.seq ?_
  refine VC.condD rfl (fun hc1 => ?_) (fun hc1 => ?_)
  · skip
    obtain ⟨ad, rfl, hcell⟩ := PC_at (hps.frm K (by simp)) hc1
    have hsn := parsL_snoc (m.ps.take k) m.ps[k]
    rw [← take_snoc hc1] at hsn
    obtain ⟨hl1, hl2⟩ := hlen _ (List.getElem_mem hc1)
    generalize m.ps[k] = p at *
    refine VC.skip ?_
    refine thenQ_n ?_
    refine VC.sub [(3, _), (7, _), (8, _), (9, _)] (.cons rfl (.cons rfl (.cons rfl (.cons rfl .nil)))) ?_
    refine VC.seq ?_
    refine VC.block ?_
    refine VC.seq ?_
    refine VC.region ?_
    refine Ops.r (Run.indexS k rfl rfl Tryz.underlying65 Tryz.sizeOf102 hc1) rfl ?_
    refine Ops.r (Run.loadA rfl Tryz.isAgg102 Tryz.sizeOf102 hcell (by first | rfl | (simp; done))) rfl ?_
    refine Ops.m (Does.alloc zero102) rfl ?_
    rintro _ w3 ⟨rfl, hF3⟩
    have hb5 := hF3.blk
    have sK := K.size
    have lO := hO.lt
    have K := K.trans hF3.frm (by simp)
    have hO := hO.frm hF3.frm (by simp)
    generalize hg5 : wr.heap.size = g5 at hb5 sK lO ⊢
    refine Ops.st (Acts.storeA rfl rfl Tryz.sizeOf102 hb5 rfl (PC1_one p)) ?_
    rintro w4 ⟨hb5n, f4, _⟩
    have hb5 : Blk w4 g5 102 (PC1 p).toArray := hb5n
    have hO := hO.frm f4 (fun y hy => by have := lO y hy; simp; omega)
    have K := Frm.own K f4 (fun y hy => by simp at hy; omega)
    have hg5L : g5 ∉ ob LA := fun h => by have := lO g5 h; omega
    refine Ops.nil ?_
    refine thenQ_n ?_
    refine VC.sub [(3, _), (5, _), (7, _), (8, _), (9, _)] (.cons rfl (.cons rfl (.cons rfl (.cons rfl (.cons rfl .nil))))) ?_
    refine VC.held (fun W => Frm (ob LA) w4 W) (by kernel_rfl) ?_
    have hS : Frm (ob LA) w4 w4.drew := (Frm.refl _ _).drew
    have hO := hO.drawn (Drawn.drew _)
    refine HOps.take 0 rfl (by kernel_rfl) (by kernel_rfl) (by kernel_rfl) hS (fun w0 hw0 => Run.mv rfl) trivial rfl rfl ?_
    refine HOps.take 1 rfl (by kernel_rfl) (by kernel_rfl) (by kernel_rfl) hS (fun w0 hw0 => Run.fieldAddr rfl Tryz.underlying102 rfl Tryz.sizeOf9 (by decide)) trivial rfl rfl ?_
    refine HOps.take 2 rfl (by kernel_rfl) (by kernel_rfl) (by kernel_rfl) hS (fun w0 hw0 => Run.load rfl Tryz.isAgg9 ((hb5.frm hw0 hg5L).cell 0)) trivial rfl rfl ?_
    refine HOps.take 4 rfl (by kernel_rfl) (by kernel_rfl) (by kernel_rfl) hS (fun w0 hw0 => Run.fieldAddr rfl Tryz.underlying102 rfl Tryz.sizeOf9 (by decide)) trivial rfl rfl ?_
    refine HOps.take 5 rfl (by kernel_rfl) (by kernel_rfl) (by kernel_rfl) hS (fun w0 hw0 => Run.load rfl Tryz.isAgg9 ((hb5.frm hw0 hg5L).cell 1)) trivial rfl rfl ?_
    refine HOps.cl 3 rfl (by kernel_rfl) (Enters.fn (evs.cons rfl evs.nil) Tryz.call10) ((string_spec p.1 _ (ht.frm (Frm.own K hS hub)) (by omega))) trivial rfl rfl ?_
    rintro e w5 ⟨rfl, fw5⟩
    have hS := hS.trans fw5 (by simp)
    have hO := hO.frm fw5 (by simp)
    refine ⟨_, rfl, hS, ?_⟩
    refine HOps.cl 6 rfl (by kernel_rfl) (Enters.fn (evs.cons rfl evs.nil) Tryz.call10) ((string_spec p.2 _ (ht.frm (Frm.own K hS hub)) (by omega))) trivial rfl rfl ?_
    rintro e w6 ⟨rfl, fw6⟩
    have hS := hS.trans fw6 (by simp)
    have hO := hO.frm fw6 (by simp)
    refine ⟨_, rfl, hS, ?_⟩
    refine HOps.m 7 rfl (by kernel_rfl) (Does.buildN (cells := (SB [strQ p.1, strQ p.2]).toArray) (evs.cons rfl (evs.cons rfl evs.nil)) Tryz.underlying36 Tryz.sizeOf9 zero9 rfl rfl (by kernel_rfl)) trivial rfl rfl ?_
    rintro _ w7 ⟨rfl, hFw7⟩
    have hrw7 : Rd w7 1 (some ⟨_, 0, none⟩) 2 (SB [strQ p.1, strQ p.2]) := Rd.of_blk (n := 2) (size := 1) hFw7.blk rfl
    have hS := hS.trans hFw7.frm (by simp)
    have hO := hO.frm hFw7.frm (by simp)
    refine ⟨hS, ?_⟩
    refine HOps.m 8 rfl (by kernel_rfl) (Does.app rfl rfl Tryz.underlying36 (info9) rfl (by decide) hO hrw7 (SB_one _) (by omega) (by omega)) trivial rfl rfl ?_
    rintro _ w8 ⟨A8, c8, rfl, hO8, f8, hob8⟩
    have sK7 := (Frm.own K hS hub).size
    have hS := hS.trans f8 (fun x hx => .inl hx)
    have hO9 : Own w8 9 1 A8 (parsL (m.ps.take (k + 1))).length c8 (SB (parsL (m.ps.take (k + 1)))) := by rw [hsn, SB_append, List.length_append]; exact hO8
    refine ⟨hS, ?_⟩
    refine HOps.take 9 rfl (by kernel_rfl) (by kernel_rfl) (by kernel_rfl) hS (fun w0 hw0 => Run.asg rfl) trivial rfl rfl ?_
    refine HOps.done (by kernel_rfl) ?_
    refine blockQ_n (thenQ_n ?_)
    refine VC.sub [(3, _), (7, _), (8, _), (9, _)] (.cons rfl (.cons rfl (.cons rfl (.cons rfl .nil)))) ?_
    refine VC.region ?_
    refine Ops.r (Run.bin rfl rfl (Bin.add_i64 _ 1 (by omega))) rfl ?_
    refine Ops.r (Run.mv rfl) rfl ?_
    refine Ops.nil ?_
    refine thenQ_n ⟨(k + 1, A8, c8), (.cons (by rw [hsn, List.length_append]; rfl) (.cons rfl (.cons rfl (.cons rfl .nil)))), ?_, ?_⟩
    · skip
      exact ⟨hc1, hO9, Frm.own K hS hub, up_app hub hob8 (by omega)⟩
    · skip
      first | omega | (dsimp only; omega)
  · skip
    have hkl : k = m.ps.length := by omega
    subst hkl
    rw [List.take_length] at hO hpc ⊢
    refine VC.exit ?_
    refine thenQ_x (thenQ_x (blockQ_x ?_))
    refine thenQ_n ?_
    refine VC.sub [(3, _)] (.cons rfl .nil) ?_
    refine VC.seq ?_
    refine VC.seq ?_
    refine VC.region ?_
    refine Ops.r (Run.mv rfl) rfl ?_
    refine Ops.r (Run.lenS rfl Tryz.underlying36) rfl ?_
    refine Ops.r (Run.bin rfl rfl (Bin.eqlN _ 0)) rfl ?_
    refine Ops.nil ?_
    refine thenQ_n ?_
    refine VC.sub [(3, _), (25, _)] (.cons rfl (.cons rfl .nil)) ?_
    refine VC.condD rfl (fun hc2 => ?_) (fun hc2 => ?_)
    · skip
      have hps0 : m.ps = [] := by cases hm : m.ps with
        | nil => rfl
        | cons x r => rw [hm] at hpc hc2; simp at hpc; omega
      refine VC.seq ?_
      refine VC.region ?_
      refine Ops.r (Run.asg rfl) rfl ?_
      refine Ops.nil ?_
      refine thenQ_n ?_
      refine VC.sub [(2, _)] (.cons rfl .nil) ?_
      refine VC.ret ?_
      refine thenQ_r (end1 rfl ?_)
      exact ⟨by unfold parsS; rw [if_pos hps0]; rfl, K⟩
    · skip
      have hps0 : m.ps ≠ [] := fun h => by rw [h] at hc2; exact hc2 rfl
      have hps1 : 0 < (parsL m.ps).length := by omega
      have hflat : (parsL m.ps).flatten.length ≤ 90000000000000 := by
        have := (parsL_len (N := 4000) hlen).1
        have h2 : m.ps.length * (4 * 4000 + 12) ≤ 10000 * 16012 := Nat.mul_le_mul_right _ hn
        omega
      refine VC.skip ?_
      refine thenQ_n ?_
      refine VC.sub [(3, _)] (.cons rfl .nil) ?_
      refine VC.seq ?_
      refine VC.region ?_
      refine Ops.r (Run.mv rfl) rfl ?_
      refine Ops.cl (Enters.fn (evs.cons rfl evs.nil) Tryz.call34) ((list_spec LA cp (parsL m.ps) _ hO.rd hps1 hO.le (by omega) hflat)) rfl ?_
      rintro e w9 ⟨rfl, f9⟩
      refine ⟨_, rfl, ?_⟩
      have K := K.trans f9 (by simp)
      refine Ops.r (Run.asg rfl) rfl ?_
      refine Ops.nil ?_
      refine thenQ_n ?_
      refine VC.sub [(2, _)] (.cons rfl .nil) ?_
      refine VC.ret ?_
      refine end1 rfl ?_
      exact ⟨by unfold parsS; rw [if_neg hps0], K⟩

end Go.Proofs.YtenbjndldenkfaaGreatDoor

namespace Go.Proofs.YtenbjndldenkfaaGreatDoor
open Go.RowKit Go.Sort

theorem MedOk.ps {N : Nat} {m : Med} (h : MedOk N m) (hN : N ≤ 2000) : m.ps.length ≤ 10000 ∧ ∀ p ∈ m.ps, p.1.length ≤ 4000 ∧ p.2.length ≤ 4000 := by
  obtain ⟨_, _, h3, h4⟩ := h
  exact ⟨by omega, fun p hp => by have := h4 p hp; omega⟩
theorem cntK_le (i : Int) : ∀ l : List Prt, cntK i l ≤ l.length
  | [] => Nat.le_refl _
  | p :: r => by
    have := cntK_le i r
    show (if p.up = i then 1 else 0) + cntK i r ≤ _
    rw [List.length_cons]
    split <;> omega
theorem flat_jn : ∀ l : List Tx, l.flatten.length ≤ (jnQ l).length
  | [] => Nat.le_refl _
  | [x] => by simp [jnQ]
  | x :: y :: r => by
    have := flat_jn (y :: r)
    rw [jnQ_cons, List.flatten_cons, List.length_append, List.length_append, List.length_cons]
    omega
theorem midL_no {f : Nat → Tx} {q : Tx} {l : List Prt} {i : Nat} {p : Prt} (h : ¬ (p.kind = 2 ∧ 0 ≤ kidQ l i 1)) : midL f q l i p = [] := by unfold midL; rw [if_neg h]
theorem midL_yes {f : Nat → Tx} {q : Tx} {l : List Prt} {i k : Nat} {p y : Prt} (h : p.kind = 2 ∧ 0 ≤ kidQ l i 1) (hk : kidQ l i 1 = (k : Int)) (hy : l[k]? = some y) : midL f q l i p = [envS (sliceQ q y.frm y.tu), f k, linesS q p] := by
  unfold midL
  rw [if_pos h, hk, Int.toNat_natCast, hy]

set_option maxRecDepth 100000 in
set_option maxHeartbeats 3200000 in
theorem one_step (A : Option Addr) (c : Nat) (q : Tx) (L : Option Addr) (lc : Nat) (l : List Pc) (P : List Prt) (hl : l.map (·.1) = P) (hq : q.length ≤ 2000) (hc : q.length ≤ c) (h64 : P.length ≤ 64)
    (hup : ∀ (k : Nat) (p : Prt), P[k]? = some p → p.up < (k : Int)) (hok : ∀ (k : Nat) (p : Prt), P[k]? = some p → p.frm ≤ p.body ∧ p.body ≤ p.tu ∧ p.tu ≤ q.length ∧ True) (hmed : ∀ p ∈ P, MedOk q.length p.m) (hkids : KidsQk P) (hlen : ∀ i, i < P.length → (oneS 64 q P i).length ≤ 32000000000)
    (i : Nat) (hi : i < l.length)
    (ih : ∀ k, i < k → k < l.length → ∀ w, Tab w → Rd w 1 A q.length (U8 q) → Rd w 9 L l.length (PP l) → OwnPs w l → Calls Tryz.prog 37 #[.slice A q.length c, .slice L l.length lc, .int .i64 ((k : Nat) : Int)] w fun e w' => e = .returned (encStr (oneS 64 q P k)) ∧ Frm [] w w') :
    ∀ w, Tab w → Rd w 1 A q.length (U8 q) → Rd w 9 L l.length (PP l) → OwnPs w l → Calls Tryz.prog 37 #[.slice A q.length c, .slice L l.length lc, .int .i64 ((i : Nat) : Int)] w fun e w' => e = .returned (encStr (oneS 64 q P i)) ∧ Frm [] w w' := by
  intro w ht hrd hrL hps
  have K := Frm.refl [] w
  obtain ⟨ad, hLe, hcell⟩ := PP_at hrL hi
  have hPi : P[i]? = some l[i].1 := by rw [← hl, List.getElem?_map, List.getElem?_eq_getElem hi]; rfl
  have hPl : P.length = l.length := by rw [← hl, List.length_map]
  have hpm := hps _ (List.getElem_mem hi)
  have hone := oneS_P (q := q) hup h64 hPi
  have hbig := hlen i (by omega)
  obtain ⟨hfb, hbt, htl, _⟩ := hok i _ hPi
  have hmd := hmed _ (List.mem_of_getElem? hPi)
  have hkc := (hkids i _ hPi).1
  have hkb := cntK_le ((i : Nat) : Int) P
  have hLlt : ∀ y ∈ ob L, y < w.heap.size := fun y hy => hrL.lt (by omega) y hy
  generalize hxe : l[i] = x at *
  rw [hone] at hbig ⊢
  refine VC.calls (nt := 121) (res := #[.tmp 6]) Tryz.func37 rfl Tryz.ntmps37 Tryz.results37 rfl ?_
  refine VC.seq ?_
  refine VC.region ?_
  refine Ops.r (Run.asg rfl) rfl ?_
  refine Ops.nil ?_
  refine thenQ_n ?_
  refine VC.sub [(0, _), (1, _), (2, _)] (.cons rfl (.cons rfl (.cons rfl .nil))) ?_
  refine VC.seq ?_
  refine VC.region ?_
  refine Ops.r (Run.mv rfl) rfl ?_
  refine Ops.r (Run.mv rfl) rfl ?_
  refine Ops.r (Run.indexS i (by rw [← hLe]; rfl) rfl Tryz.underlying60 Tryz.sizeOf69 hi) rfl ?_
  refine Ops.r (Run.loadA rfl Tryz.isAgg69 Tryz.sizeOf69 hcell (by first | rfl | (simp; done))) rfl ?_
  refine Ops.m (Does.alloc zero69) rfl ?_
  rintro _ w2 ⟨rfl, hF2⟩
  have hb7 := hF2.blk
  have sK := K.size
  have K := K.trans hF2.frm (by simp)
  generalize hg7 : w.heap.size = g7 at hb7 sK ⊢
  refine Ops.st (Acts.storeA rfl rfl Tryz.sizeOf69 hb7 rfl (PP1_one x)) ?_
  rintro w3 ⟨hb7n, f3, _⟩
  have hb7 : Blk w3 g7 69 (PP1 x).toArray := hb7n
  have K := Frm.own K f3 (fun y hy => by simp at hy; omega)
  refine Ops.nil ?_
  refine thenQ_n ?_
  refine VC.sub [(0, _), (1, _), (2, _), (7, _)] (.cons rfl (.cons rfl (.cons rfl (.cons rfl .nil)))) ?_
  refine VC.seq ?_
  refine VC.seq ?_
  refine VC.region ?_
  refine Ops.r (Run.fieldAddr rfl Tryz.underlying69 rfl Tryz.sizeOf3 (by decide)) rfl ?_
  refine Ops.r (Run.load rfl Tryz.isAgg3 (hb7.cell 0)) rfl ?_
  refine Ops.r (Run.bin rfl rfl (Bin.eqlN _ 1)) rfl ?_
  refine Ops.nil ?_
  refine thenQ_n ?_
  refine VC.sub [(0, _), (1, _), (2, _), (7, _), (20, _)] (.cons rfl (.cons rfl (.cons rfl (.cons rfl (.cons rfl .nil))))) ?_
  refine VC.condD rfl (fun hc1 => ?_) (fun hc1 => ?_)
  · skip
    have hone1 : oneP (oneS 64 q P) q P i x.1 = 40 :: (kidsC (oneS 64 q P) i P 0 ++ (32 :: (strQ x.1.m.sub ++ [41]))) := by unfold oneP; rw [if_pos hc1]
    rw [hone1] at hbig ⊢
    simp only [List.length_cons, List.length_append, List.length_nil] at hbig
    refine VC.seq ?_
    refine VC.region ?_
    refine Ops.r (Run.asg rfl) rfl ?_
    refine Ops.nil ?_
    refine thenQ_n ?_
    refine VC.sub [(0, _), (1, _), (2, _), (7, _), (8, _)] (.cons rfl (.cons rfl (.cons rfl (.cons rfl (.cons rfl .nil))))) ?_
    refine VC.seq ?_
    refine VC.seq ?_
    refine VC.region ?_
    refine Ops.r (v := .int .i64 ((1 : Nat) : Int)) (Run.asg rfl) rfl ?_
    refine Ops.nil ?_
    refine thenQ_n ?_
    refine VC.block ?_
    refine VC.loop (σ := Nat × Nat × Tx) (fun s => [(0, .slice A q.length c), (1, .slice L l.length lc), (2, _), (7, .pointer (some ⟨g7, 0, none⟩)), (8, encStr s.2.2), (9, .int .i64 (((s.1 + 1) : Nat) : Int))]) (fun s wr => s.1 ≤ x.1.kids ∧ s.2.1 ≤ P.length ∧ cntK i (P.take s.2.1) = s.1 ∧ s.2.2 ++ kidsC (oneS 64 q P) i (P.drop s.2.1) s.2.1 = kidsC (oneS 64 q P) i P 0 ∧ Frm [] w wr ∧ Blk wr g7 69 (PP1 x).toArray) (fun s => x.1.kids - s.1) (0, 0, []) (.cons rfl (.cons rfl (.cons rfl (.cons rfl (.cons rfl (.cons rfl .nil)))))) ⟨Nat.zero_le _, Nat.zero_le _, by rw [List.take_zero]; rfl, rfl, K, hb7⟩ ?_
    rintro ⟨j, ps, al⟩ wr ⟨hj, hpos, hcn, hsum, K, hb7⟩
    dsimp only at hj hpos hcn hsum ⊢
    have hsl := congrArg List.length hsum
    rw [List.length_append] at hsl
    refine VC.seq ?_
    refine VC.seq ?_
    refine VC.region ?_
    refine Ops.r (Run.mv rfl) rfl ?_
    refine Ops.r (Run.fieldAddr rfl Tryz.underlying69 rfl Tryz.sizeOf3 (by decide)) rfl ?_
    refine Ops.r (Run.load rfl Tryz.isAgg3 (hb7.cell 8)) rfl ?_
    refine Ops.r (Run.bin rfl rfl (Bin.leqN _ _)) rfl ?_
    refine Ops.nil ?_
    refine thenQ_n ?_
    refine VC.sub [(0, _), (1, _), (2, _), (7, _), (8, _), (9, _), (24, _)] (.cons rfl (.cons rfl (.cons rfl (.cons rfl (.cons rfl (.cons rfl (.cons rfl .nil))))))) ?_
    refine VC.condD rfl (fun hc2 => ?_) (fun hc2 => ?_)
    · skip
      have hjk : j < cntK i P := by omega
      obtain ⟨k, y, hk1, hky, hyu, hkq, hkc2, hkd⟩ := kid_next (oneS 64 q P) hpos hcn hjk
      have hik : i < k := by have := hup k y hky; omega
      have hkl : k < l.length := by have := (List.getElem?_eq_some_iff.1 hky).1; omega
      rw [hkd, List.length_append] at hsl
      refine VC.skip ?_
      refine thenQ_n ?_
      refine VC.sub [(0, _), (1, _), (2, _), (7, _), (8, _), (9, _)] (.cons rfl (.cons rfl (.cons rfl (.cons rfl (.cons rfl (.cons rfl .nil)))))) ?_
      refine VC.seq ?_
      refine VC.block ?_
      refine VC.region ?_
      refine Ops.r (Run.mv rfl) rfl ?_
      refine Ops.r (Run.mv rfl) rfl ?_
      refine Ops.r (Run.mv rfl) rfl ?_
      refine Ops.r (Run.mv rfl) rfl ?_
      refine Ops.r (Run.mv rfl) rfl ?_
      refine Ops.r (Run.mv rfl) rfl ?_
      refine Ops.cl (Enters.fn (evs.cons rfl (evs.cons rfl (evs.cons rfl evs.nil))) Tryz.call65) ((kid_spec L lc l ((i : Nat) : Int) ((j + 1 : Nat) : Int) _ (hrL.frm K (by simp)) (by omega) (by omega) (by omega))) rfl ?_
      rintro e w4 ⟨rfl, f4⟩
      refine ⟨_, rfl, ?_⟩
      have K := K.trans f4 (by simp)
      have hb7 := hb7.frm f4 (by simp)
      rw [hl, hkq]
      refine Ops.cl (Enters.fn (evs.cons rfl (evs.cons rfl (evs.cons rfl evs.nil))) Tryz.call37) ((ih k (by omega) (by omega) _ (ht.frm K) (hrd.frm K (by simp)) (hrL.frm K (by simp)) (hps.frm0 K))) rfl ?_
      rintro e w5 ⟨rfl, fw5⟩
      refine ⟨_, rfl, ?_⟩
      have K := K.trans fw5 (by simp)
      have hb7 := hb7.frm fw5 (by simp)
      refine Ops.r (Run.addT rfl rfl (by omega)) rfl ?_
      refine Ops.r (Run.asg rfl) rfl ?_
      refine Ops.nil ?_
      refine blockQ_n (thenQ_n ?_)
      refine VC.sub [(0, _), (1, _), (2, _), (7, _), (8, _), (9, _)] (.cons rfl (.cons rfl (.cons rfl (.cons rfl (.cons rfl (.cons rfl .nil)))))) ?_
      refine VC.region ?_
      refine Ops.r (Run.mv rfl) rfl ?_
      refine Ops.r (Run.bin rfl rfl (Bin.add_i64 _ 1 (by omega))) rfl ?_
      refine Ops.r (Run.asg rfl) rfl ?_
      refine Ops.nil ?_
      refine thenQ_n ⟨(j + 1, k + 1, al ++ (oneS 64 q P) k), (.cons rfl (.cons rfl (.cons rfl (.cons rfl (.cons rfl (.cons rfl .nil)))))), ?_, ?_⟩
      · skip
        exact ⟨by omega, (List.getElem?_eq_some_iff.1 hky).1, hkc2, by rw [← hsum, hkd, List.append_assoc], K, hb7⟩
      · skip
        first | omega | (dsimp only; omega)
    · skip
      have hje : j = x.1.kids := by omega
      have hrest : cntK i (P.drop ps) = 0 := by
        have := cntK_app i (P.take ps) (P.drop ps)
        rw [List.take_append_drop] at this
        omega
      rw [kidsC_none _ _ hrest, List.append_nil] at hsum
      rw [← hsum] at hbig ⊢
      refine VC.exit ?_
      refine thenQ_x (thenQ_x (blockQ_x ?_))
      refine thenQ_n ?_
      refine VC.sub [(7, _), (8, _)] (.cons rfl (.cons rfl .nil)) ?_
      refine VC.seq ?_
      refine VC.region ?_
      refine Ops.r (Run.mv rfl) rfl ?_
      refine Ops.r (Run.addT (a := [40]) rfl rfl (by simp only [List.length_cons, List.length_nil]; omega)) rfl ?_
      refine Ops.r (Run.addT (b := [32]) rfl rfl (by simp only [List.length_cons, List.length_append, List.length_nil]; omega)) rfl ?_
      refine Ops.r (Run.fieldAddr rfl Tryz.underlying69 rfl Tryz.sizeOf67 (by decide)) rfl ?_
      refine Ops.r (Run.fieldAddr rfl Tryz.underlying67 rfl Tryz.sizeOf9 (by decide)) rfl ?_
      refine Ops.r (Run.load rfl Tryz.isAgg9 (hb7.cell 5)) rfl ?_
      refine Ops.cl (Enters.fn (evs.cons rfl evs.nil) Tryz.call10) ((string_spec x.1.m.sub _ (ht.frm K) (by have := hmd.2.1; omega))) rfl ?_
      rintro e w6 ⟨rfl, fw6⟩
      refine ⟨_, rfl, ?_⟩
      have K := K.trans fw6 (by simp)
      have hb7 := hb7.frm fw6 (by simp)
      refine Ops.r (Run.addT rfl rfl (by simp only [List.length_cons, List.length_append, List.length_nil]; omega)) rfl ?_
      refine Ops.r (Run.addT (b := [41]) rfl rfl (by simp only [List.length_cons, List.length_append, List.length_nil]; omega)) rfl ?_
      refine Ops.r (Run.asg rfl) rfl ?_
      refine Ops.nil ?_
      refine thenQ_n ?_
      refine VC.sub [(6, _)] (.cons rfl .nil) ?_
      refine VC.ret ?_
      refine thenQ_r (end1 rfl ?_)
      exact ⟨by simp, K⟩
  · skip
    have hone1 : oneP (oneS 64 q P) q P i x.1 = listQ (leafL q x.1 (midL (oneS 64 q P) q P i x.1)) := by unfold oneP; rw [if_neg hc1]
    rw [hone1] at hbig ⊢
    refine VC.skip ?_
    refine thenQ_n ?_
    refine VC.sub [(0, _), (1, _), (2, _), (7, _)] (.cons rfl (.cons rfl (.cons rfl (.cons rfl .nil)))) ?_
    refine VC.seq ?_
    refine VC.region ?_
    refine Ops.r (Run.mv rfl) rfl ?_
    refine Ops.r (Run.fieldAddr rfl Tryz.underlying69 rfl Tryz.sizeOf3 (by decide)) rfl ?_
    refine Ops.r (Run.load rfl Tryz.isAgg3 (hb7.cell 1)) rfl ?_
    refine Ops.r (Run.fieldAddr rfl Tryz.underlying69 rfl Tryz.sizeOf3 (by decide)) rfl ?_
    refine Ops.r (Run.load rfl Tryz.isAgg3 (hb7.cell 2)) rfl ?_
    refine Ops.r (Run.sliceS x.1.frm x.1.body rfl Tryz.underlying22 Tryz.sizeOf5 (evB.some_ rfl) (evB.some_ rfl) hfb (by omega)) rfl ?_
    have hHl : (sliceQ q x.1.frm x.1.body).length = x.1.body - x.1.frm := sliceQ_ln (by omega)
    have hrH := U8_cut hrd hfb (show x.1.body ≤ q.length by omega) hc
    rw [← hHl]
    refine Ops.r (Run.asg rfl) rfl ?_
    refine Ops.nil ?_
    refine thenQ_n ?_
    refine VC.sub [(0, _), (1, _), (2, _), (7, _), (10, _)] (.cons rfl (.cons rfl (.cons rfl (.cons rfl (.cons rfl .nil))))) ?_
    refine VC.seq ?_
    refine VC.held (fun W => Frm [] w3 W) (by kernel_rfl) ?_
    have hS : Frm [] w3 w3.drew := (Frm.refl _ _).drew
    have hpo := MedOk.ps hmd hq
    refine HOps.take 0 rfl (by kernel_rfl) (by kernel_rfl) (by kernel_rfl) hS (fun w0 hw0 => Run.fieldAddr rfl Tryz.underlying69 rfl Tryz.sizeOf67 (by decide)) trivial rfl rfl ?_
    refine HOps.take 1 rfl (by kernel_rfl) (by kernel_rfl) (by kernel_rfl) hS (fun w0 hw0 => Run.fieldAddr rfl Tryz.underlying67 rfl Tryz.sizeOf9 (by decide)) trivial rfl rfl ?_
    refine HOps.take 2 rfl (by kernel_rfl) (by kernel_rfl) (by kernel_rfl) hS (fun w0 hw0 => Run.load rfl Tryz.isAgg9 ((hb7.frm hw0 (by simp)).cell 4)) trivial rfl rfl ?_
    refine HOps.take 4 rfl (by kernel_rfl) (by kernel_rfl) (by kernel_rfl) hS (fun w0 hw0 => Run.fieldAddr rfl Tryz.underlying69 rfl Tryz.sizeOf67 (by decide)) trivial rfl rfl ?_
    refine HOps.take 5 rfl (by kernel_rfl) (by kernel_rfl) (by kernel_rfl) hS (fun w0 hw0 => Run.fieldAddr rfl Tryz.underlying67 rfl Tryz.sizeOf9 (by decide)) trivial rfl rfl ?_
    refine HOps.take 6 rfl (by kernel_rfl) (by kernel_rfl) (by kernel_rfl) hS (fun w0 hw0 => Run.load rfl Tryz.isAgg9 ((hb7.frm hw0 (by simp)).cell 5)) trivial rfl rfl ?_
    refine HOps.take 8 rfl (by kernel_rfl) (by kernel_rfl) (by kernel_rfl) hS (fun w0 hw0 => Run.fieldAddr rfl Tryz.underlying69 rfl Tryz.sizeOf67 (by decide)) trivial rfl rfl ?_
    refine HOps.take 9 rfl (by kernel_rfl) (by kernel_rfl) (by kernel_rfl) hS (fun w0 hw0 => Run.loadA rfl Tryz.isAgg67 Tryz.sizeOf67 (PM_cells (hb7.frm hw0 (by simp))) (by first | rfl | (simp; done))) trivial rfl rfl ?_
    refine HOps.take 11 rfl (by kernel_rfl) (by kernel_rfl) (by kernel_rfl) hS (fun w0 hw0 => Run.mv rfl) trivial rfl rfl ?_
    refine HOps.take 13 rfl (by kernel_rfl) (by kernel_rfl) (by kernel_rfl) hS (fun w0 hw0 => Run.mv rfl) trivial rfl rfl ?_
    refine HOps.take 15 rfl (by kernel_rfl) (by kernel_rfl) (by kernel_rfl) hS (fun w0 hw0 => Run.mv rfl) trivial rfl rfl ?_
    refine HOps.take 18 rfl (by kernel_rfl) (by kernel_rfl) (by kernel_rfl) hS (fun w0 hw0 => Run.fieldAddr rfl Tryz.underlying69 rfl Tryz.sizeOf3 (by decide)) trivial rfl rfl ?_
    refine HOps.take 19 rfl (by kernel_rfl) (by kernel_rfl) (by kernel_rfl) hS (fun w0 hw0 => Run.load rfl Tryz.isAgg3 ((hb7.frm hw0 (by simp)).cell 3)) trivial rfl rfl ?_
    refine HOps.take 20 rfl (by kernel_rfl) (by kernel_rfl) (by kernel_rfl) hS (fun w0 hw0 => Run.fieldAddr rfl Tryz.underlying69 rfl Tryz.sizeOf3 (by decide)) trivial rfl rfl ?_
    refine HOps.take 21 rfl (by kernel_rfl) (by kernel_rfl) (by kernel_rfl) hS (fun w0 hw0 => Run.load rfl Tryz.isAgg3 ((hb7.frm hw0 (by simp)).cell 2)) trivial rfl rfl ?_
    refine HOps.take 22 rfl (by kernel_rfl) (by kernel_rfl) (by kernel_rfl) hS (fun w0 hw0 => Run.bin rfl rfl (Bin.sub_i64 x.1.tu x.1.body hbt (by omega))) trivial rfl rfl ?_
    refine HOps.cl 3 rfl (by kernel_rfl) (Enters.fn (evs.cons rfl evs.nil) Tryz.call10) ((string_spec x.1.m.ty _ (ht.frm (K.trans hS (by simp))) (by have := hmd.1; omega))) trivial rfl rfl ?_
    rintro e w4 ⟨rfl, fw4⟩
    have hS := hS.trans fw4 (by simp)
    refine ⟨_, rfl, hS, ?_⟩
    refine HOps.cl 7 rfl (by kernel_rfl) (Enters.fn (evs.cons rfl evs.nil) Tryz.call10) ((string_spec x.1.m.sub _ (ht.frm (K.trans hS (by simp))) (by have := hmd.2.1; omega))) trivial rfl rfl ?_
    rintro e w5 ⟨rfl, fw5⟩
    have hS := hS.trans fw5 (by simp)
    refine ⟨_, rfl, hS, ?_⟩
    refine HOps.cl 10 rfl (by kernel_rfl) (Enters.fn (evs.cons rfl evs.nil) Tryz.call66) ((params_spec x.1.m x.2.1 x.2.2 _ (ht.frm (K.trans hS (by simp))) (hpm.rd.frm (K.trans hS (by simp)) (by simp)) hpo.1 hpo.2)) trivial rfl rfl ?_
    rintro e w6 ⟨rfl, fw6⟩
    have hS := hS.trans fw6 (by simp)
    refine ⟨_, rfl, hS, ?_⟩
    refine HOps.cl 12 rfl (by kernel_rfl) (Enters.fn (evs.cons rfl (evs.cons rfl (evs.cons rfl evs.nil))) Tryz.call31) ((field_spec (cutA A c x.1.frm 1) (c - x.1.frm) (sliceQ q x.1.frm x.1.body) cidT nilT _ (ht.frm (K.trans hS (by simp))) (hrH.frm (K.trans hS (by simp)) (by simp)) (by omega) (by omega) (by decide))) trivial rfl rfl ?_
    rintro e w7 ⟨rfl, fw7⟩
    have hS := hS.trans fw7 (by simp)
    refine ⟨_, rfl, hS, ?_⟩
    refine HOps.cl 14 rfl (by kernel_rfl) (Enters.fn (evs.cons rfl (evs.cons rfl (evs.cons rfl evs.nil))) Tryz.call31) ((field_spec (cutA A c x.1.frm 1) (c - x.1.frm) (sliceQ q x.1.frm x.1.body) cdsT nilT _ (ht.frm (K.trans hS (by simp))) (hrH.frm (K.trans hS (by simp)) (by simp)) (by omega) (by omega) (by decide))) trivial rfl rfl ?_
    rintro e w8 ⟨rfl, fw8⟩
    have hS := hS.trans fw8 (by simp)
    refine ⟨_, rfl, hS, ?_⟩
    refine HOps.cl 16 rfl (by kernel_rfl) (Enters.fn (evs.cons rfl evs.nil) Tryz.call10) ((string_spec bitT _ (ht.frm (K.trans hS (by simp))) (by decide))) trivial rfl rfl ?_
    rintro e w9 ⟨rfl, fw9⟩
    have hS := hS.trans fw9 (by simp)
    refine ⟨_, rfl, hS, ?_⟩
    refine HOps.cl 17 rfl (by kernel_rfl) (Enters.fn (evs.cons rfl (evs.cons rfl (evs.cons rfl evs.nil))) Tryz.call31) ((field_spec (cutA A c x.1.frm 1) (c - x.1.frm) (sliceQ q x.1.frm x.1.body) cteT (strQ bitT) _ (ht.frm (K.trans hS (by simp))) (hrH.frm (K.trans hS (by simp)) (by simp)) (by omega) (by omega) (by decide))) trivial rfl rfl ?_
    rintro e w10 ⟨rfl, fw10⟩
    have hS := hS.trans fw10 (by simp)
    refine ⟨_, rfl, hS, ?_⟩
    refine HOps.cl 23 rfl (by kernel_rfl) (Enters.fn (evs.cons rfl evs.nil) Tryz.call26) ((itoaN_spec (x.1.tu - x.1.body) _ (ht.frm (K.trans hS (by simp))) (by omega))) trivial rfl rfl ?_
    rintro e w11 ⟨rfl, fw11⟩
    have hS := hS.trans fw11 (by simp)
    refine ⟨_, rfl, hS, ?_⟩
    refine HOps.m 24 rfl (by kernel_rfl) (Does.buildN (cells := (SB (leaf7 q x.1)).toArray) (evs.cons rfl (evs.cons rfl (evs.cons rfl (evs.cons rfl (evs.cons rfl (evs.cons rfl (evs.cons rfl evs.nil))))))) Tryz.underlying36 Tryz.sizeOf9 zero9 rfl rfl (by kernel_rfl)) trivial rfl rfl ?_
    rintro _ w12 ⟨rfl, hF12⟩
    have hO12 : Own w12 9 1 (some ⟨w11.heap.size, 0, none⟩) (leaf7 q x.1).length 7 (SB (leaf7 q x.1)) := Own.of_blk (n := 7) (size := 1) hF12.blk rfl (by decide)
    have g12 : w.heap.size ≤ w11.heap.size := (K.trans hS (by simp)).size
    have hS := hS.trans hF12.frm (by simp)
    refine ⟨hS, ?_⟩
    generalize hg12 : w11.heap.size = gO at hO12 g12 ⊢
    refine HOps.take 25 rfl (by kernel_rfl) (by kernel_rfl) (by kernel_rfl) hS (fun w0 hw0 => Run.asg rfl) trivial rfl rfl ?_
    refine HOps.done (by kernel_rfl) ?_
    refine thenQ_n ?_
    refine VC.sub [(0, _), (1, _), (2, _), (7, _), (11, _)] (.cons rfl (.cons rfl (.cons rfl (.cons rfl (.cons rfl .nil))))) ?_
    refine VC.seq ?_
    refine VC.region ?_
    refine Ops.r (Run.mv rfl) rfl ?_
    have K := K.trans hS (by simp)
    have hb7 := hb7.frm hS (by simp)
    refine Ops.r (Run.loadA rfl Tryz.isAgg69 Tryz.sizeOf69 (fun j v hj => hb7.cells j v hj) (by first | rfl | (simp; done))) rfl ?_
    refine Ops.cl (Enters.fn (evs.cons rfl (evs.cons rfl evs.nil)) Tryz.call67) ((plinesN_spec A c q x _ (hrd.frm K (by simp)) hc (by omega) hbt htl)) rfl ?_
    rintro e w13 ⟨rfl, fw13⟩
    refine ⟨_, rfl, ?_⟩
    have K := K.trans fw13 (by simp)
    have hb7 := hb7.frm fw13 (by simp)
    have hO12 := hO12.frm fw13 (by simp)
    have hcl := List.count_le_length (a := (10 : UInt8)) (l := sliceQ q x.1.body x.1.tu)
    rw [sliceQ_ln htl] at hcl
    refine Ops.cl (Enters.fn (evs.cons rfl evs.nil) Tryz.call26) ((itoaN_spec _ _ (ht.frm K) (by omega))) rfl ?_
    rintro e w14 ⟨rfl, fw14⟩
    refine ⟨_, rfl, ?_⟩
    have K := K.trans fw14 (by simp)
    have hb7 := hb7.frm fw14 (by simp)
    have hO12 := hO12.frm fw14 (by simp)
    refine Ops.r (Run.asg rfl) rfl ?_
    refine Ops.nil ?_
    refine thenQ_n ?_
    refine VC.sub [(0, _), (1, _), (2, _), (7, _), (11, _), (12, _)] (.cons rfl (.cons rfl (.cons rfl (.cons rfl (.cons rfl (.cons rfl .nil)))))) ?_
    refine VC.seq ?_
    refine VC.seq ?_
    refine VC.region ?_
    refine Ops.r (Run.mv rfl) rfl ?_
    refine Ops.r (Run.mv rfl) rfl ?_
    refine Ops.cl (Enters.fn (evs.cons rfl (evs.cons rfl (evs.cons rfl evs.nil))) Tryz.call65) ((kid_spec L lc l ((i : Nat) : Int) 1 _ (hrL.frm K (by simp)) (by omega) (by omega) (by omega))) rfl ?_
    rintro e w15 ⟨rfl, fw15⟩
    refine ⟨_, rfl, ?_⟩
    have K := K.trans fw15 (by simp)
    have hb7 := hb7.frm fw15 (by simp)
    have hO12 := hO12.frm fw15 (by simp)
    rw [hl]
    refine Ops.r (Run.asg rfl) rfl ?_
    refine Ops.nil ?_
    refine thenQ_n ?_
    refine VC.sub [(0, _), (1, _), (7, _), (11, _), (12, _), (13, _)] (.cons rfl (.cons rfl (.cons rfl (.cons rfl (.cons rfl (.cons rfl .nil)))))) ?_
    refine VC.seq ?_
    refine VC.split1 [(0, _), (1, _), (7, _), (11, _), (12, _), (13, _)] (.cons rfl (.cons rfl (.cons rfl (.cons rfl (.cons rfl (.cons rfl .nil)))))) 89 (.bool (decide ((x.1.kind = 2) ∧ (0 ≤ kidQ P i 1)))) ?_ ?_
    · by_cases hs0 : x.1.kind = 2
      · skip
        refine VC.region ?_
        refine Ops.r (Run.fieldAddr rfl Tryz.underlying69 rfl Tryz.sizeOf3 (by decide)) rfl ?_
        refine Ops.r (Run.load rfl Tryz.isAgg3 (hb7.cell 0)) rfl ?_
        refine Ops.r (Run.bin rfl rfl (Bin.eqlN _ 2)) rfl ?_
        refine Ops.r (Run.mv rfl) rfl ?_
        refine Ops.rg rfl au (Run.mv rfl) rfl ?_
        refine Ops.rg rfl au (Run.bin rfl rfl (Bin.geq _ 0)) rfl ?_
        refine Ops.r (Run.pickT rfl rfl au) rfl ?_
        refine Ops.nil ?_
        refine thenQ_n ⟨(.cons (by rw [dand1 hs0]; rfl) (.cons rfl (.cons rfl (.cons rfl (.cons rfl (.cons rfl (.cons rfl .nil))))))), rfl⟩
      · skip
        refine VC.region ?_
        refine Ops.r (Run.fieldAddr rfl Tryz.underlying69 rfl Tryz.sizeOf3 (by decide)) rfl ?_
        refine Ops.r (Run.load rfl Tryz.isAgg3 (hb7.cell 0)) rfl ?_
        refine Ops.r (Run.bin rfl rfl (Bin.eqlN _ 2)) rfl ?_
        refine Ops.r (Run.mv rfl) rfl ?_
        refine Ops.sk rfl au rfl ?_
        refine Ops.sk rfl au rfl ?_
        refine Ops.r (Run.pickF rfl rfl au) rfl ?_
        refine Ops.nil ?_
        refine thenQ_n ⟨(.cons (by rw [dand0 hs0]; rfl) (.cons rfl (.cons rfl (.cons rfl (.cons rfl (.cons rfl (.cons rfl .nil))))))), rfl⟩
    · intro Γ hΓ
      refine thenQ_n (VC.sub _ hΓ ?_)
      refine VC.meet (σ := Option Addr × Nat) (fun s => [(7, .pointer (some ⟨g7, 0, none⟩)), (11, .slice s.1 (leaf7 q x.1 ++ (midL (oneS 64 q P) q P i x.1)).length s.2), (12, encStr (linesS q x.1))]) (fun s wr => Own wr 9 1 s.1 (leaf7 q x.1 ++ (midL (oneS 64 q P) q P i x.1)).length s.2 (SB (leaf7 q x.1 ++ (midL (oneS 64 q P) q P i x.1))) ∧ Frm [] w wr ∧ Blk wr g7 69 (PP1 x).toArray ∧ ∀ y ∈ ob s.1, w.heap.size ≤ y) ?_ ?_
      · skip
        refine VC.condD rfl (fun hc3 => ?_) (fun hc3 => ?_)
        · skip
          obtain ⟨k, y, hky, hkq, hyu⟩ : ∃ (k : Nat) (p : Prt), P[k]? = some p ∧ kidQ P i 1 = (k : Int) ∧ p.up = i := by
            rcases kidQ_res P i 1 with h | h
            · omega
            · exact h
          have hmy := midL_yes (f := (oneS 64 q P)) (q := q) hc3 hkq hky
          rw [hkq]
          have hik : i < k := by have := hup k y hky; omega
          have hkl : k < l.length := by have := (List.getElem?_eq_some_iff.1 hky).1; omega
          obtain ⟨hyfb, hybt, hytl, _⟩ := hok k _ hky
          have hyl : (sliceQ q y.frm y.tu).length = y.tu - y.frm := sliceQ_ln hytl
          have hrY := U8_cut hrd (show y.frm ≤ y.tu by omega) hytl hc
          have hLk := PP_at hrL hkl
          have hlk : l[k].1 = y := by
            have h2 : P[k]? = some l[k].1 := by rw [← hl, List.getElem?_map, List.getElem?_eq_getElem hkl]; rfl
            rw [hky] at h2
            exact (Option.some.inj h2).symm
          have hLO : ∀ z ∈ ob L, z ∉ ob (some (⟨gO, 0, none⟩ : Addr)) := fun z hz h => by simp [ob] at h; have := hLlt z hz; omega
          have hg7O : g7 ∉ ob (some (⟨gO, 0, none⟩ : Addr)) := fun h => by have := hO12.ne_blk hb7 (by decide); exact this h
          have hubO : ∀ z ∈ ob (some (⟨gO, 0, none⟩ : Addr)), w.heap.size ≤ z := fun z hz => by simp [ob] at hz; omega
          have hfk := hlen k (by omega)
          have hey := envS_len (q := sliceQ q y.frm y.tu) (by omega)
          refine VC.held (fun W => Frm (ob (some (⟨gO, 0, none⟩ : Addr))) w15 W) (by kernel_rfl) ?_
          have hS : Frm (ob (some (⟨gO, 0, none⟩ : Addr))) w15 w15.drew := (Frm.refl _ _).drew
          have hO12 := hO12.drawn (Drawn.drew _)
          have hrLd := fun (W : World) (hW : Frm (ob (some (⟨gO, 0, none⟩ : Addr))) w15 W) => PP_at ((hrL.frm K (by simp)).frm hW (fun _ => hLO)) hkl
          refine HOps.take 0 rfl (by kernel_rfl) (by kernel_rfl) (by kernel_rfl) hS (fun w0 hw0 => Run.mv rfl) trivial rfl rfl ?_
          refine HOps.take 1 rfl (by kernel_rfl) (by kernel_rfl) (by kernel_rfl) hS (fun w0 hw0 => Run.mv rfl) trivial rfl rfl ?_
          refine HOps.take 2 rfl (by kernel_rfl) (by kernel_rfl) (by kernel_rfl) hS (fun w0 hw0 => Run.mv rfl) trivial rfl rfl ?_
          refine HOps.take 3 rfl (by kernel_rfl) (by kernel_rfl) (by kernel_rfl) hS (fun w0 hw0 => Run.mv rfl) trivial rfl rfl ?_
          refine HOps.take 4 rfl (by kernel_rfl) (by kernel_rfl) (by kernel_rfl) hS (fun w0 hw0 => Run.indexS k (by rw [← hLe]; rfl) rfl Tryz.underlying60 Tryz.sizeOf69 hkl) trivial rfl rfl ?_
          refine HOps.take 5 rfl (by kernel_rfl) (by kernel_rfl) (by kernel_rfl) hS (fun w0 hw0 => Run.fieldAddr rfl Tryz.underlying69 rfl Tryz.sizeOf3 (by decide)) trivial rfl rfl ?_
          refine HOps.take 6 rfl (by kernel_rfl) (by kernel_rfl) (by kernel_rfl) hS (fun w0 hw0 => Run.load rfl Tryz.isAgg3 (by obtain ⟨ad2, he2, hc2_⟩ := hrLd _ hw0; cases hLe.symm.trans he2; have := hc2_ 1 _ rfl; rw [hlk] at this; exact this)) trivial rfl rfl ?_
          refine HOps.take 7 rfl (by kernel_rfl) (by kernel_rfl) (by kernel_rfl) hS (fun w0 hw0 => Run.mv rfl) trivial rfl rfl ?_
          refine HOps.take 8 rfl (by kernel_rfl) (by kernel_rfl) (by kernel_rfl) hS (fun w0 hw0 => Run.mv rfl) trivial rfl rfl ?_
          refine HOps.take 9 rfl (by kernel_rfl) (by kernel_rfl) (by kernel_rfl) hS (fun w0 hw0 => Run.indexS k (by rw [← hLe]; rfl) rfl Tryz.underlying60 Tryz.sizeOf69 hkl) trivial rfl rfl ?_
          refine HOps.take 10 rfl (by kernel_rfl) (by kernel_rfl) (by kernel_rfl) hS (fun w0 hw0 => Run.fieldAddr rfl Tryz.underlying69 rfl Tryz.sizeOf3 (by decide)) trivial rfl rfl ?_
          refine HOps.take 11 rfl (by kernel_rfl) (by kernel_rfl) (by kernel_rfl) hS (fun w0 hw0 => Run.load rfl Tryz.isAgg3 (by obtain ⟨ad2, he2, hc2_⟩ := hrLd _ hw0; cases hLe.symm.trans he2; have := hc2_ 3 _ rfl; rw [hlk] at this; exact this)) trivial rfl rfl ?_
          refine HOps.take 12 rfl (by kernel_rfl) (by kernel_rfl) (by kernel_rfl) hS (fun w0 hw0 => Run.sliceS y.frm y.tu rfl Tryz.underlying22 Tryz.sizeOf5 (evB.some_ rfl) (evB.some_ rfl) (by omega) (by omega)) trivial rfl rfl ?_
          refine HOps.take 14 rfl (by kernel_rfl) (by kernel_rfl) (by kernel_rfl) hS (fun w0 hw0 => Run.mv rfl) trivial rfl rfl ?_
          refine HOps.take 15 rfl (by kernel_rfl) (by kernel_rfl) (by kernel_rfl) hS (fun w0 hw0 => Run.mv rfl) trivial rfl rfl ?_
          refine HOps.take 16 rfl (by kernel_rfl) (by kernel_rfl) (by kernel_rfl) hS (fun w0 hw0 => Run.mv rfl) trivial rfl rfl ?_
          refine HOps.take 18 rfl (by kernel_rfl) (by kernel_rfl) (by kernel_rfl) hS (fun w0 hw0 => Run.mv rfl) trivial rfl rfl ?_
          refine HOps.cl 13 rfl (by kernel_rfl) (Enters.fn (evs.cons rfl evs.nil) Tryz.call12) (((by rw [← hyl]; exact envelope_spec (cutA A c y.frm 1) (c - y.frm) (sliceQ q y.frm y.tu) _ (ht.frm (Frm.own K hS hubO)) (hrY.frm (Frm.own K hS hubO) (by simp)) (by omega) (by omega)))) trivial rfl rfl ?_
          rintro e w16 ⟨rfl, fw16⟩
          have hS := hS.trans fw16 (by simp)
          have hO12 := hO12.frm fw16 (by simp)
          refine ⟨_, rfl, hS, ?_⟩
          refine HOps.cl 17 rfl (by kernel_rfl) (Enters.fn (evs.cons rfl (evs.cons rfl (evs.cons rfl evs.nil))) Tryz.call37) ((ih k (by omega) (by omega) _ (ht.frm (Frm.own K hS hubO)) (hrd.frm (Frm.own K hS hubO) (by simp)) (hrL.frm (Frm.own K hS hubO) (by simp)) (hps.frm0 (Frm.own K hS hubO)))) trivial rfl rfl ?_
          rintro e w17 ⟨rfl, fw17⟩
          have hS := hS.trans fw17 (by simp)
          have hO12 := hO12.frm fw17 (by simp)
          refine ⟨_, rfl, hS, ?_⟩
          refine HOps.m 19 rfl (by kernel_rfl) (Does.buildN (cells := (SB [envS (sliceQ q y.frm y.tu), (oneS 64 q P) k, linesS q x.1]).toArray) (evs.cons rfl (evs.cons rfl (evs.cons rfl evs.nil))) Tryz.underlying36 Tryz.sizeOf9 zero9 rfl rfl (by kernel_rfl)) trivial rfl rfl ?_
          rintro _ w18 ⟨rfl, hFw18⟩
          have hrw18 : Rd w18 1 (some ⟨_, 0, none⟩) 3 (SB [envS (sliceQ q y.frm y.tu), (oneS 64 q P) k, linesS q x.1]) := Rd.of_blk (n := 3) (size := 1) hFw18.blk rfl
          have hS := hS.trans hFw18.frm (by simp)
          have hO12 := hO12.frm hFw18.frm (by simp)
          refine ⟨hS, ?_⟩
          refine HOps.m 20 rfl (by kernel_rfl) (Does.app rfl rfl Tryz.underlying36 (info9) rfl (by decide) hO12 hrw18 (SB_one _) (by omega) (by omega)) trivial rfl rfl ?_
          rintro _ w19 ⟨A9, c9, rfl, hO9, f9, hob9⟩
          have sK18 := (Frm.own K hS hubO).size
          have hS := hS.trans f9 (fun x hx => .inl hx)
          have hO9 : Own w19 9 1 A9 (leaf7 q x.1 ++ (midL (oneS 64 q P) q P i x.1)).length c9 (SB (leaf7 q x.1 ++ (midL (oneS 64 q P) q P i x.1))) := by rw [hmy, SB_append, List.length_append]; exact hO9
          refine ⟨hS, ?_⟩
          refine HOps.take 21 rfl (by kernel_rfl) (by kernel_rfl) (by kernel_rfl) hS (fun w0 hw0 => Run.asg rfl) trivial rfl rfl ?_
          refine HOps.done (by kernel_rfl) ?_
          refine thenQ_n ⟨(A9, c9), (.cons rfl (.cons (by rw [hmy, List.length_append]; rfl) (.cons rfl .nil))), ?_⟩
          exact ⟨hO9, Frm.own K hS hubO, hb7.frm hS hg7O, up_app hubO hob9 sK18⟩
        · skip
          have hmy := midL_no (f := (oneS 64 q P)) (q := q) hc3
          refine VC.skip ?_
          refine thenQ_n ⟨(some ⟨gO, 0, none⟩, 7), (.cons rfl (.cons (by rw [hmy, List.append_nil]; rfl) (.cons rfl .nil))), ?_⟩
          exact ⟨by rw [hmy, List.append_nil]; exact hO12, K, hb7, fun z hz => by simp [ob] at hz; omega⟩
      · skip
        rintro ⟨O, oc⟩ wr ⟨hO, K, hb7, hub⟩ Γ hΓ
        dsimp only at hO hub
        have hml := midL_len (f := (oneS 64 q P)) (q := q) (l := P) (i := i) (p := x.1) hq
        have hlf := leafL_len (mid := (midL (oneS 64 q P) q P i x.1)) hq hmd
        have h7 : (leaf7 q x.1).length = 7 := rfl
        have hOl : (leaf7 q x.1 ++ (midL (oneS 64 q P) q P i x.1)).length ≤ 10 := by rw [List.length_append]; omega
        have hflat : (leafL q x.1 (midL (oneS 64 q P) q P i x.1)).flatten.length ≤ 90000000000000 := by
          have h1 := flat_jn (leafL q x.1 (midL (oneS 64 q P) q P i x.1))
          simp only [listQ, List.length_cons, List.length_append, List.length_nil] at hbig
          omega
        refine thenQ_n (VC.sub _ hΓ ?_)
        refine VC.seq ?_
        refine VC.seq ?_
        refine VC.region ?_
        refine Ops.r (Run.fieldAddr rfl Tryz.underlying69 rfl Tryz.sizeOf67 (by decide)) rfl ?_
        refine Ops.r (Run.fieldAddr rfl Tryz.underlying67 rfl Tryz.sizeOf9 (by decide)) rfl ?_
        refine Ops.r (Run.load rfl Tryz.isAgg9 (hb7.cell 4)) rfl ?_
        refine Ops.r (Run.eqlT rfl rfl) rfl ?_
        refine Ops.nil ?_
        refine thenQ_n ?_
        refine VC.sub [(11, _), (12, _), (114, _)] (.cons rfl (.cons rfl (.cons rfl .nil))) ?_
        refine VC.meet (σ := Option Addr × Nat) (fun s => [(11, .slice s.1 (leafL q x.1 (midL (oneS 64 q P) q P i x.1)).length s.2)]) (fun s wr => Own wr 9 1 s.1 (leafL q x.1 (midL (oneS 64 q P) q P i x.1)).length s.2 (SB (leafL q x.1 (midL (oneS 64 q P) q P i x.1))) ∧ Frm [] w wr) ?_ ?_
        · skip
          refine VC.condD rfl (fun hc4 => ?_) (fun hc4 => ?_)
          · skip
            have hlq : (leafL q x.1 (midL (oneS 64 q P) q P i x.1)) = (leaf7 q x.1 ++ (midL (oneS 64 q P) q P i x.1)) ++ [linesS q x.1] := by unfold leafL; rw [if_pos (show x.1.m.ty = texT from hc4)]
            refine VC.region ?_
            refine Ops.r (Run.mv rfl) rfl ?_
            refine Ops.r (Run.mv rfl) rfl ?_
            refine Ops.m (Does.buildS1 rfl Tryz.underlying36 Tryz.sizeOf9 zero9 (by decide) (by decide) rfl rfl) rfl ?_
            rintro _ w20 ⟨rfl, hF20⟩
            have hr20 : Rd w20 1 (some ⟨_, 0, none⟩) 1 (SB [linesS q x.1]) := Rd.of_blk (n := 1) (size := 1) hF20.blk rfl
            have K := K.trans hF20.frm (by simp)
            have hO := hO.frm hF20.frm (by simp)
            refine Ops.m (Does.app rfl rfl Tryz.underlying36 (info9) rfl (by decide) hO hr20 (SB_one _) (by omega) (by omega)) rfl ?_
            rintro _ w21 ⟨A21, c21, rfl, hO21, f21, hob21⟩
            have K := Frm.own K f21 hub
            have hO21 : Own w21 9 1 A21 (leafL q x.1 (midL (oneS 64 q P) q P i x.1)).length c21 (SB (leafL q x.1 (midL (oneS 64 q P) q P i x.1))) := by rw [hlq, SB_append, List.length_append]; exact hO21
            refine Ops.r (Run.asg rfl) rfl ?_
            refine Ops.nil ?_
            refine thenQ_n ⟨(A21, c21), (.cons (by rw [hlq, show ((leaf7 q x.1 ++ (midL (oneS 64 q P) q P i x.1)) ++ [linesS q x.1]).length = (leaf7 q x.1 ++ (midL (oneS 64 q P) q P i x.1)).length + 1 from List.length_append]; rfl) .nil), ?_⟩
            exact ⟨hO21, K⟩
          · skip
            have hlq : (leafL q x.1 (midL (oneS 64 q P) q P i x.1)) = (leaf7 q x.1 ++ (midL (oneS 64 q P) q P i x.1)) := by unfold leafL; rw [if_neg (show ¬ x.1.m.ty = texT from hc4), List.append_nil]
            refine VC.skip ?_
            refine thenQ_n ⟨(O, oc), (.cons (by rw [hlq]; rfl) .nil), ?_⟩
            exact ⟨by rw [hlq]; exact hO, K⟩
        · skip
          rintro ⟨O2, oc2⟩ wr2 ⟨hO2, K⟩ Γ hΓ
          dsimp only at hO2
          refine thenQ_n (VC.sub _ hΓ ?_)
          refine VC.seq ?_
          refine VC.region ?_
          refine Ops.r (Run.mv rfl) rfl ?_
          refine Ops.cl (Enters.fn (evs.cons rfl evs.nil) Tryz.call34) ((list_spec O2 oc2 (leafL q x.1 (midL (oneS 64 q P) q P i x.1)) _ hO2.rd (by rw [leafL, List.length_append, List.length_append, h7]; omega) hO2.le (by have := hlf.2; omega) hflat)) rfl ?_
          rintro e w22 ⟨rfl, f22⟩
          refine ⟨_, rfl, ?_⟩
          have K := K.trans f22 (by simp)
          refine Ops.r (Run.asg rfl) rfl ?_
          refine Ops.nil ?_
          refine thenQ_n ?_
          refine VC.sub [(6, _)] (.cons rfl .nil) ?_
          refine VC.ret ?_
          refine end1 rfl ?_
          exact ⟨rfl, K⟩

end Go.Proofs.YtenbjndldenkfaaGreatDoor

namespace Go.Proofs.YtenbjndldenkfaaGreatDoor
open Go.RowKit Go.Sort

theorem shone_spec (A : Option Addr) (c : Nat) (q : Tx) (L : Option Addr) (lc : Nat) (l : List Pc) (hl : l.map (·.1) = partsQ q) (hq : q.length ≤ 2000) (hc : q.length ≤ c) :
    ∀ (n i : Nat), l.length - i ≤ n → i < l.length → ∀ w, Tab w → Rd w 1 A q.length (U8 q) → Rd w 9 L l.length (PP l) → OwnPs w l → Calls Tryz.prog 37 #[.slice A q.length c, .slice L l.length lc, .int .i64 ((i : Nat) : Int)] w fun e w' => e = .returned (encStr (oneS 64 q (partsQ q) i)) ∧ Frm [] w w' := by
  obtain ⟨hok, h64, _⟩ := parts_ok q
  intro n
  induction n with
  | zero => intro i h hi; omega
  | succ n ihn =>
    intro i h hi
    exact one_step A c q L lc l (partsQ q) hl hq hc h64 (fun k p h => (parts_kids q k p h).2) (fun k p h => ⟨(hok k p h).1, (hok k p h).2.1, (hok k p h).2.2.1, trivial⟩) (parts_med q) (parts_kids q) (fun i hi => oneS_len hq (by omega) hi) i hi (fun k hk hkl => ihn k (by omega) hkl)

set_option maxRecDepth 100000 in
theorem body_spec (A : Option Addr) (c : Nat) (q : Tx) (w : World) (ht : Tab w) (hrd : Rd w 1 A q.length (U8 q)) (hq : q.length ≤ 2000) (hc : q.length ≤ c) :
    Calls Tryz.prog 15 #[.slice A q.length c] w fun e w' => e = .returned (encStr (bodyS q)) ∧ Frm [] w w' := by
  have K := Frm.refl [] w
  refine VC.calls (nt := 7) (res := #[.tmp 2]) Tryz.func15 rfl Tryz.ntmps15 Tryz.results15 rfl ?_
  refine VC.seq ?_
  refine VC.region ?_
  refine Ops.r (Run.asg rfl) rfl ?_
  refine Ops.nil ?_
  refine thenQ_n ?_
  refine VC.sub [(0, _)] (.cons rfl .nil) ?_
  refine VC.seq ?_
  refine VC.region ?_
  refine Ops.r (Run.mv rfl) rfl ?_
  refine Ops.r (Run.mv rfl) rfl ?_
  refine Ops.cl (Enters.fn (evs.cons rfl evs.nil) Tryz.call38) ((all_spec A c q _ hrd (by omega) hc)) rfl ?_
  rintro e w1 ⟨f1, l, LA, lc, hl, rfl, hO, hOP, hub⟩
  refine ⟨_, rfl, ?_⟩
  have K := K.trans f1 (by simp)
  have h0 : 0 < l.length := by
    obtain ⟨_, _, p, hp, _⟩ := parts_ok q
    rw [← hl] at hp
    have := (List.getElem?_eq_some_iff.1 hp).1
    simpa using this
  refine Ops.cl (Enters.fn (evs.cons rfl (evs.cons rfl (evs.cons rfl evs.nil))) Tryz.call37) ((shone_spec A c q LA lc l hl hq hc l.length 0 (by omega) h0 _ (ht.frm K) (hrd.frm K (by simp)) hO.rd hOP)) rfl ?_
  rintro e w2 ⟨rfl, f2⟩
  refine ⟨_, rfl, ?_⟩
  have K := K.trans f2 (by simp)
  refine Ops.r (Run.asg rfl) rfl ?_
  refine Ops.nil ?_
  refine thenQ_n ?_
  refine VC.sub [(2, _)] (.cons rfl .nil) ?_
  refine VC.ret ?_
  refine end1 rfl ?_
  exact ⟨rfl, K⟩

set_option maxRecDepth 100000 in
theorem ex22a : strQ [97, 34, 98] = [34, 97, 92, 34, 98, 34] := by decide +kernel
set_option maxRecDepth 100000 in
theorem ex22b : envS [] = [40, 78, 73, 76, 32, 78, 73, 76, 32, 78, 73, 76, 32, 78, 73, 76, 32, 78, 73, 76, 32, 78, 73, 76, 32, 78, 73, 76, 32, 78, 73, 76, 32, 78, 73, 76, 32, 78, 73, 76, 41] := by decide +kernel
set_option maxRecDepth 100000 in
theorem ex22c : bodyS [13, 10, 120] = [40, 34, 116, 101, 120, 116, 34, 32, 34, 112, 108, 97, 105, 110, 34, 32, 78, 73, 76, 32, 78, 73, 76, 32, 78, 73, 76, 32, 34, 55, 98, 105, 116, 34, 32, 49, 32, 48, 41] := by decide +kernel

set_option maxRecDepth 100000 in
theorem awake22_spec (w : World) (ht : Tab w) : Calls Tryz.prog 14 #[] w fun e w' => e = .returned (.bool true) ∧ Frm [] w w' := by
  have K := Frm.refl [] w
  refine VC.calls (nt := 13) (res := #[.tmp 0]) Tryz.func14 rfl Tryz.ntmps14 Tryz.results14 rfl ?_
  refine VC.seq ?_
  refine VC.region ?_
  refine Ops.r (Run.asg rfl) rfl ?_
  refine Ops.nil ?_
  refine thenQ_n ?_
  refine VC.sub [] .nil ?_
  refine VC.seq ?_
  refine VC.region ?_
  refine Ops.cl (Enters.fn (evs.cons rfl evs.nil) Tryz.call10) ((string_spec [97, 34, 98] _ ht (by decide))) rfl ?_
  rintro e w1 ⟨rfl, f1⟩
  refine ⟨_, rfl, ?_⟩
  have K := K.trans f1 (by simp)
  rw [ex22a]
  refine Ops.r (Run.eqlT rfl rfl) rfl ?_
  refine Ops.r (Run.mv rfl) rfl ?_
  refine Ops.clg rfl au (Enters.fn (evs.cons rfl evs.nil) Tryz.call12) ((envelope_spec none 0 [] _ (ht.frm K) (Rd.nil _ _ _) (by decide) (by decide))) rfl ?_
  rintro e w2 ⟨rfl, f2⟩
  refine ⟨_, rfl, ?_⟩
  have K := K.trans f2 (by simp)
  rw [ex22b]
  refine Ops.rg rfl au (Run.eqlT rfl rfl) rfl ?_
  refine Ops.r (Run.pickT rfl rfl au) rfl ?_
  refine Ops.r (Run.mv rfl) rfl ?_
  refine Ops.mg rfl au (Does.buildN (cells := (U8 [13, 10, 120]).toArray) (evs.cons rfl (evs.cons rfl (evs.cons rfl evs.nil))) Tryz.underlying22 Tryz.sizeOf5 zero5 rfl rfl (by kernel_rfl)) rfl ?_
  rintro _ w3 ⟨rfl, hF3⟩
  have hb8 : Blk w3 w2.heap.size 5 (U8 [13, 10, 120]).toArray := hF3.blk
  have g8 := K.size
  have K := K.trans hF3.frm (by simp)
  refine Ops.mg rfl au (Does.mark rfl Tryz.underlying22 Tryz.underlying5 hb8) rfl ?_
  rintro _ w4 ⟨rfl, hfro, f4⟩
  have hrb : Rd w4 1 (some ⟨w2.heap.size, 0, none⟩) ([13, 10, 120] : Tx).length (U8 [13, 10, 120]) := hfro.rd rfl
  have K := Frm.own K f4 (fun y hy => by simp at hy; omega)
  refine Ops.clg rfl au (Enters.fn (evs.cons rfl evs.nil) Tryz.call15) ((body_spec (some ⟨w2.heap.size, 0, none⟩) 3 [13, 10, 120] _ (ht.frm K) hrb (by decide) (by decide))) rfl ?_
  rintro e w5 ⟨rfl, f5⟩
  refine ⟨_, rfl, ?_⟩
  have K := K.trans f5 (by simp)
  rw [ex22c]
  refine Ops.rg rfl au (Run.eqlT rfl rfl) rfl ?_
  refine Ops.r (Run.pickT rfl rfl au) rfl ?_
  refine Ops.r (Run.asg rfl) rfl ?_
  refine Ops.nil ?_
  refine thenQ_n ?_
  refine VC.sub [(0, _)] (.cons rfl .nil) ?_
  refine VC.ret ?_
  refine end1 rfl ?_
  exact ⟨by rfl, K⟩

end Go.Proofs.YtenbjndldenkfaaGreatDoor

namespace Go.Proofs.YtenbjndldenkfaaGreatDoor
open Go.RowKit Go.Sort

set_option maxRecDepth 100000 in
theorem few20_spec (A : Option Addr) (c : Nat) (q : Tx) (w : World) (hrd : Rd w 1 A q.length (U8 q)) (hc : q.length ≤ c) :
    Calls Tryz.prog 9 #[.slice A q.length c] w fun e w' => w = w' ∧ ∃ (A2 : Option Addr) (c2 : Nat), e = .returned (.slice A2 (q.take 1200).length c2) ∧ Rd w' 1 A2 (q.take 1200).length (U8 (q.take 1200)) ∧ (q.take 1200).length ≤ c2 := by
  refine VC.calls (nt := 9) (res := #[.tmp 2]) Tryz.func9 rfl Tryz.ntmps9 Tryz.results9 rfl ?_
  refine VC.seq ?_
  refine VC.region ?_
  refine Ops.r (Run.asg rfl) rfl ?_
  refine Ops.nil ?_
  refine thenQ_n ?_
  refine VC.sub [(0, _)] (.cons rfl .nil) ?_
  refine VC.seq ?_
  refine VC.seq ?_
  refine VC.region ?_
  refine Ops.r (Run.mv rfl) rfl ?_
  refine Ops.r (Run.lenS rfl Tryz.underlying22) rfl ?_
  refine Ops.r (Run.bin rfl rfl (Bin.gtrN _ 1200)) rfl ?_
  refine Ops.nil ?_
  refine thenQ_n ?_
  refine VC.sub [(0, _), (5, _)] (.cons rfl (.cons rfl .nil)) ?_
  refine VC.condD rfl (fun hc1 => ?_) (fun hc1 => ?_)
  · skip
    refine VC.seq ?_
    refine VC.region ?_
    refine Ops.r (Run.mv rfl) rfl ?_
    refine Ops.r (Run.sliceS 0 1200 rfl Tryz.underlying22 Tryz.sizeOf5 evB.none_ (evB.some_ rfl) (by omega) (by omega)) rfl ?_
    refine Ops.r (Run.asg rfl) rfl ?_
    refine Ops.nil ?_
    refine thenQ_n ?_
    refine VC.sub [(2, _)] (.cons rfl .nil) ?_
    refine VC.ret ?_
    refine thenQ_r (end1 rfl ?_)
    have e1 : sliceQ q 0 1200 = q.take 1200 := by unfold sliceQ; simp
    have h := U8_cut hrd (show 0 ≤ 1200 by omega) (show 1200 ≤ q.length by omega) hc
    rw [e1] at h
    have e2 : (q.take 1200).length = 1200 := by simp; omega
    refine ⟨rfl, cutA A c 0 1, c, ?_, h, by omega⟩
    rw [e2]
    rfl
  · skip
    refine VC.skip ?_
    refine thenQ_n ?_
    refine VC.sub [(0, _)] (.cons rfl .nil) ?_
    refine VC.seq ?_
    refine VC.region ?_
    refine Ops.r (Run.mv rfl) rfl ?_
    refine Ops.r (Run.asg rfl) rfl ?_
    refine Ops.nil ?_
    refine thenQ_n ?_
    refine VC.sub [(2, _)] (.cons rfl .nil) ?_
    refine VC.ret ?_
    refine end1 rfl ?_
    have e1 : q.take 1200 = q := List.take_of_length_le (by omega)
    rw [e1]
    exact ⟨rfl, A, c, rfl, hrd, hc⟩

def hdA (q : Tx) (k : Nat) : UInt8 := (q[k]?).getD 0
theorem hdA_at {q : Tx} {k : Nat} (h : k < q.length) : q[k]? = some (hdA q k) := by unfold hdA; rw [List.getElem?_eq_getElem h]; rfl
theorem hdA_drop {q : Tx} {k : Nat} (h : k < q.length) : q.drop k = hdA q k :: q.drop (k + 1) := by
  rw [List.drop_eq_getElem_cons h]
  have e := hdA_at h
  rw [List.getElem?_eq_getElem h] at e
  rw [Option.some.inj e]
end Go.Proofs.YtenbjndldenkfaaGreatDoor

namespace Go.Proofs.YtenbjndldenkfaaGreatDoor
open Go.RowKit Go.Sort


theorem SB_at1 {w : World} {A : Option Addr} {l : List Tx} {k : Nat} (h : Rd w 1 A l.length (SB l)) (hk : k < l.length) : ∃ ad, A = some ad ∧ w.cell? (ad.add (k * 1)) = some (encStr l[k]) := by
  rw [Nat.mul_one]
  exact SB_at h hk

def hdrT : Tx := [72, 69, 65, 68, 69, 82]
def txtT : Tx := [84, 69, 88, 84]
def mimT : Tx := [77, 73, 77, 69]
def fldT : Tx := [72, 69, 65, 68, 69, 82, 46, 70, 73, 69, 76, 68, 83]
def othT : Tx := [72, 69, 65, 68, 69, 82, 46, 70, 73, 69, 76, 68, 83, 46, 78, 79, 84]
/-- A section: its path, what of the part, the names. -/
structure Wnt where
  path : List Int
  what : Tx
  names : List Tx
def BadN (n : Int) : Prop := n < 1 ∨ 64 < n
instance (n : Int) : Decidable (BadN n) := by unfold BadN; infer_instance
def NamedW (s : Tx) : Prop := s = fldT ∨ s = othT
instance (s : Tx) : Decidable (NamedW s) := by unfold NamedW; infer_instance
def KindW (v : Wnt) : Prop := v.what = [] ∨ v.what = hdrT ∨ v.what = txtT ∨ v.what = fldT ∨ v.what = othT ∨ (v.what = mimT ∧ 0 < v.path.length)
instance (v : Wnt) : Decidable (KindW v) := by unfold KindW; infer_instance
def MayW (v : Wnt) : Prop := ¬ (8 < v.path.length ∨ ∃ n ∈ v.path, BadN n) ∧ ¬ ((16 < v.names.length ∨ ¬ (NamedW v.what ↔ 0 < v.names.length)) ∨ ∃ s ∈ v.names, ¬ TokQ s) ∧ KindW v
instance (v : Wnt) : Decidable (MayW v) := by unfold MayW; infer_instance
end Go.Proofs.YtenbjndldenkfaaGreatDoor

namespace Go.Proofs.YtenbjndldenkfaaGreatDoor
open Go.RowKit Go.Sort

section
variable {P : Program} {Γ : Env} {w : World} {dst : Option Tmp} {pos : String} {after : Array Edge} {g : Option (Nat × Bool)} {T : TypeId}
end

theorem not_dec (p : Prop) [Decidable p] : (!decide p) = decide (¬ p) := by by_cases h : p <;> simp [h]

end Go.Proofs.YtenbjndldenkfaaGreatDoor

namespace Go.Proofs.YtenbjndldenkfaaGreatDoor
open Go.RowKit Go.Sort

/-- What of the library's own variables is asked: the longest text that is sought fast; the error of a number. -/
def LibV (w : World) : Prop := (∃ m, w.cell? ⟨0, 0, none⟩ = some (.int .i64 m)) ∧ ∃ ev, w.cell? ⟨2, 0, none⟩ = some ev ∧ (ev = .nilIface ∨ ∃ te pe, ev = .iface te pe)
theorem cell_frm0 {w w' : World} {a : Addr} {v : Value} (h : w.cell? a = some v) (k : Frm [] w w') : w'.cell? a = some v := by
  have hlt : a.block < w.heap.size := by
    apply Classical.byContradiction
    intro hn
    have : w.heap[a.block]? = none := by simp; omega
    simp [World.cell?, this] at h
  have e := k.block a.block hlt (by simp)
  simp only [World.cell?] at h ⊢
  rw [e]
  exact h
theorem LibV.frm0 {w w' : World} (h : LibV w) (k : Frm [] w w') : LibV w' := by
  obtain ⟨⟨m, h1⟩, ev, h2, h3⟩ := h
  exact ⟨⟨m, cell_frm0 h1 k⟩, ev, cell_frm0 h2 k, h3⟩
section
variable {P : Program} {Γ : Env} {w : World} {dst : Option Tmp} {T : TypeId} {pos : String} {after : Array Edge} {g : Option (Nat × Bool)}
end
def hedQ (s : Tx) : UInt8 := s.headD 0
def IsNo (s : Tx) : Prop := ((s = [] ∨ 2 < s.length) ∨ (hedQ s).toNat < 49) ∨ 57 < (hedQ s).toNat
instance (s : Tx) : Decidable (IsNo s) := by unfold IsNo; infer_instance
end Go.Proofs.YtenbjndldenkfaaGreatDoor

namespace Go.Proofs.YtenbjndldenkfaaGreatDoor
open Go.RowKit Go.Sort

def SameW (v u : Wnt) : Prop := v.what = u.what ∧ v.path = u.path ∧ v.names = u.names
instance (v u : Wnt) : Decidable (SameW v u) := by unfold SameW; infer_instance
end Go.Proofs.YtenbjndldenkfaaGreatDoor

namespace Go.Proofs.YtenbjndldenkfaaGreatDoor
open Go.RowKit Go.Sort

deriving instance DecidableEq for Wnt
end Go.Proofs.YtenbjndldenkfaaGreatDoor

namespace Go.Proofs.YtenbjndldenkfaaGreatDoor
open Go.RowKit

/-- Has a field one of some names? -/
def NamedF (names : List Tx) (f : Fld) : Prop := ∃ s ∈ names, smallS s = smallS f.name
instance (names : List Tx) (f : Fld) : Decidable (NamedF names f) := by unfold NamedF; infer_instance
end Go.Proofs.YtenbjndldenkfaaGreatDoor

namespace Go.Proofs.YtenbjndldenkfaaGreatDoor
open Go.RowKit Go.Sort

theorem take_more {q : Tx} {f i : Nat} (h1 : f ≤ i) (h2 : i < q.length) : (q.drop f).take (i + 1 - f) = (q.drop f).take (i - f) ++ [hdA q i] ∧ q.drop f = (q.drop f).take (i - f) ++ hdA q i :: q.drop (i + 1) := by
  have e : (q.drop f).drop (i - f) = hdA q i :: q.drop (i + 1) := by rw [List.drop_drop, show f + (i - f) = i by omega, hdA_drop h2]
  refine ⟨?_, ?_⟩
  · rw [show i + 1 - f = (i - f) + 1 by omega, List.take_add_one, List.getElem?_drop, show f + (i - f) = i by omega, hdA_at h2]
    rfl
  · conv => lhs; rw [← List.take_append_drop (i - f) (q.drop f), e]
set_option maxRecDepth 100000 in
set_option maxHeartbeats 800000 in
theorem rcut_spec (q : Tx) (w : World) (hq : q.length ≤ 1000000) : Calls Tryz.prog 132 #[encStr q] w fun e w' => Frm [] w w' ∧ ∃ A c, e = .returned (.slice A (linesF q).length c) ∧ Own w' 9 1 A (linesF q).length c (SB (linesF q)) ∧ ∀ y ∈ ob A, w.heap.size ≤ y := by
  have K := Frm.refl [] w
  refine VC.calls (nt := 37) (res := #[.tmp 2]) Tryz.func132 rfl Tryz.ntmps132 Tryz.results132 rfl ?_
  refine VC.seq ?_
  refine VC.region ?_
  refine Ops.r (Run.asg rfl) rfl ?_
  refine Ops.nil ?_
  refine thenQ_n ?_
  refine VC.sub [(0, _)] (.cons rfl .nil) ?_
  refine VC.seq ?_
  refine VC.region ?_
  refine Ops.r (Run.asg rfl) rfl ?_
  refine Ops.nil ?_
  refine thenQ_n ?_
  refine VC.seq ?_
  refine VC.region ?_
  refine Ops.r (v := .int .i64 ((0 : Nat) : Int)) (Run.asg rfl) rfl ?_
  refine Ops.nil ?_
  refine thenQ_n ?_
  refine VC.seq ?_
  refine VC.seq ?_
  refine VC.region ?_
  refine Ops.r (v := .int .i64 ((0 : Nat) : Int)) (Run.asg rfl) rfl ?_
  refine Ops.nil ?_
  refine thenQ_n ?_
  refine VC.block ?_
  refine VC.loop (σ := Nat × Nat × List Tx × Option Addr × Nat) (fun s => [(0, encStr q), (3, .slice s.2.2.2.1 s.2.2.1.length s.2.2.2.2), (4, .int .i64 ((s.2.1 : Nat) : Int)), (5, .int .i64 ((s.1 : Nat) : Int))]) (fun s wr => s.1 ≤ q.length ∧ s.2.1 ≤ s.1 ∧ s.2.2.1 ++ linesF (q.drop s.2.1) = linesF q ∧ (10 : UInt8) ∉ (q.drop s.2.1).take (s.1 - s.2.1) ∧ s.2.2.1.length ≤ s.1 ∧ Own wr 9 1 s.2.2.2.1 s.2.2.1.length s.2.2.2.2 (SB s.2.2.1) ∧ Frm [] w wr ∧ ∀ y ∈ ob s.2.2.2.1, w.heap.size ≤ y) (fun s => q.length - s.1) (0, 0, [], none, 0) (.cons rfl (.cons rfl (.cons rfl (.cons rfl .nil)))) ⟨Nat.zero_le _, Nat.le_refl _, rfl, by simp, Nat.le_refl _, Own.nil _ _ _, K, by simp [ob]⟩ ?_
  rintro ⟨i, f, l, A, c⟩ wr ⟨hi, hf, hl, h10, hll, hO, K, hub⟩
  dsimp only at hi hf hl h10 hll hO hub ⊢
  refine VC.seq ?_
  refine VC.seq ?_
  refine VC.region ?_
  refine Ops.r (Run.mv rfl) rfl ?_
  refine Ops.r (Run.mv rfl) rfl ?_
  refine Ops.r (Run.lenT rfl Tryz.underlying9) rfl ?_
  refine Ops.r (Run.bin rfl rfl (Bin.lssN _ _)) rfl ?_
  refine Ops.nil ?_
  refine thenQ_n ?_
  refine VC.sub [(0, _), (3, _), (4, _), (5, _), (9, _)] (.cons rfl (.cons rfl (.cons rfl (.cons rfl (.cons rfl .nil))))) ?_
  refine VC.condD rfl (fun hc1 => ?_) (fun hc1 => ?_)
  · skip
    obtain ⟨htm, htd⟩ := take_more hf hc1
    have hgx := hdA_at hc1
    generalize hdA q i = x at *
    generalize hX : (q.drop f).take (i - f) = X at *
    have e10 : x.toNat = 10 ↔ x = 10 := u8n rfl
    refine VC.skip ?_
    refine thenQ_n ?_
    refine VC.sub [(0, _), (3, _), (4, _), (5, _)] (.cons rfl (.cons rfl (.cons rfl (.cons rfl .nil)))) ?_
    refine VC.seq ?_
    refine VC.block ?_
    refine VC.seq ?_
    refine VC.region ?_
    refine Ops.r (Run.mv rfl) rfl ?_
    refine Ops.r (Run.mv rfl) rfl ?_
    refine Ops.r (Run.indexT _ rfl rfl Tryz.underlying9 hgx) rfl ?_
    refine Ops.r (Run.bin rfl rfl (Bin.eqlN _ 10)) rfl ?_
    refine Ops.nil ?_
    refine thenQ_n ?_
    refine VC.sub [(0, _), (3, _), (4, _), (5, _), (15, _)] (.cons rfl (.cons rfl (.cons rfl (.cons rfl (.cons rfl .nil))))) ?_
    refine VC.meet (σ := Nat × List Tx × Option Addr × Nat) (fun s => [(0, encStr q), (3, .slice s.2.2.1 s.2.1.length s.2.2.2), (4, .int .i64 ((s.1 : Nat) : Int)), (5, .int .i64 ((i : Nat) : Int))]) (fun s wr => s.1 ≤ i + 1 ∧ s.2.1 ++ linesF (q.drop s.1) = linesF q ∧ (10 : UInt8) ∉ (q.drop s.1).take ((i + 1) - s.1) ∧ s.2.1.length ≤ (i + 1) ∧ Own wr 9 1 s.2.2.1 s.2.1.length s.2.2.2 (SB s.2.1) ∧ Frm [] w wr ∧ ∀ y ∈ ob s.2.2.1, w.heap.size ≤ y) ?_ ?_
    · skip
      refine VC.condD rfl (fun hc2 => ?_) (fun hc2 => ?_)
      · skip
        rw [e10.1 hc2] at htm htd
        rw [htd, linesF_cut _ h10] at hl
        refine VC.seq ?_
        refine VC.region ?_
        refine Ops.r (Run.mv rfl) rfl ?_
        refine Ops.r (Run.mv rfl) rfl ?_
        refine Ops.r (Run.mv rfl) rfl ?_
        refine Ops.r (Run.mv rfl) rfl ?_
        refine Ops.r (Run.bin rfl rfl (Bin.add_i64 _ 1 (by omega))) rfl ?_
        refine Ops.r (Run.sliceT f (i + 1) rfl Tryz.underlying9 (evB.some_ rfl) (evB.some_ rfl) (by omega) (by omega)) rfl ?_
        rw [htm]
        refine Ops.m (Does.buildS1 rfl Tryz.underlying36 Tryz.sizeOf9 zero9 (by decide) (by decide) rfl rfl) rfl ?_
        rintro _ w3 ⟨rfl, hFw3⟩
        have hrw3 : Rd w3 1 (some ⟨_, 0, none⟩) 1 (SB [X ++ [10]]) := Rd.of_blk (n := 1) (size := 1) hFw3.blk rfl
        have K := K.trans hFw3.frm (by simp)
        have hO := hO.frm hFw3.frm (by simp)
        refine Ops.m (Does.app rfl rfl Tryz.underlying36 (info9) rfl (by decide) hO hrw3 (SB_one _) (by omega) (by omega)) rfl ?_
        rintro _ w4 ⟨A4, c4, rfl, hO4, f4, hob4⟩
        have sK := K.size
        have K := Frm.own K f4 hub
        have hO4 : Own w4 9 1 A4 (l ++ [X ++ [10]]).length c4 (SB (l ++ [X ++ [10]])) := by rw [SB_append, List.length_append]; exact hO4
        refine Ops.r (Run.asg rfl) rfl ?_
        refine Ops.nil ?_
        refine thenQ_n ?_
        refine VC.sub [(0, _), (3, _), (5, _)] (.cons rfl (.cons rfl (.cons rfl .nil))) ?_
        refine VC.region ?_
        refine Ops.r (Run.mv rfl) rfl ?_
        refine Ops.r (Run.bin rfl rfl (Bin.add_i64 _ 1 (by omega))) rfl ?_
        refine Ops.r (Run.asg rfl) rfl ?_
        refine Ops.nil ?_
        refine thenQ_n ⟨(i + 1, l ++ [X ++ [10]], A4, c4), (.cons rfl (.cons (by rw [List.length_append]; rfl) (.cons rfl (.cons rfl .nil)))), ?_⟩
        exact ⟨Nat.le_refl _, by rw [List.append_assoc]; exact hl, by simp, by simp; omega, hO4, K, up_app hub hob4 (by omega)⟩
      · skip
        refine VC.skip ?_
        refine thenQ_n ⟨(f, l, A, c), (.cons rfl (.cons rfl (.cons rfl (.cons rfl .nil)))), ?_⟩
        refine ⟨by dsimp only; omega, hl, ?_, by dsimp only; omega, hO, K, hub⟩
        rw [htm]
        intro hm
        rcases List.mem_append.1 hm with hm | hm
        · exact h10 hm
        · simp only [List.mem_singleton] at hm; exact hc2 (e10.2 hm.symm)
    · skip
      rintro ⟨f2, l2, A2, c2⟩ wr2 ⟨hf2, hl2, h102, hll2, hO2, K2, hub2⟩ Γ hΓ
      dsimp only at hf2 hl2 h102 hll2 hO2 hub2
      refine blockQ_n (thenQ_n (VC.sub _ hΓ ?_))
      refine VC.region ?_
      refine Ops.r (Run.mv rfl) rfl ?_
      refine Ops.r (Run.bin rfl rfl (Bin.add_i64 _ 1 (by omega))) rfl ?_
      refine Ops.r (Run.asg rfl) rfl ?_
      refine Ops.nil ?_
      refine thenQ_n ⟨(i + 1, f2, l2, A2, c2), (.cons rfl (.cons rfl (.cons rfl (.cons rfl .nil)))), ?_, ?_⟩
      · skip
        exact ⟨hc1, hf2, hl2, h102, hll2, hO2, K2, hub2⟩
      · skip
        first | omega | (dsimp only; omega)
  · skip
    have hil : i = q.length := by omega
    subst hil
    have hrest : (q.drop f).take (q.length - f) = q.drop f := List.take_of_length_le (by simp)
    rw [hrest] at h10
    refine VC.exit ?_
    refine thenQ_x (thenQ_x (blockQ_x ?_))
    refine thenQ_n ?_
    refine VC.sub [(0, _), (3, _), (4, _)] (.cons rfl (.cons rfl (.cons rfl .nil))) ?_
    refine VC.seq ?_
    refine VC.seq ?_
    refine VC.region ?_
    refine Ops.r (Run.mv rfl) rfl ?_
    refine Ops.r (Run.mv rfl) rfl ?_
    refine Ops.r (Run.lenT rfl Tryz.underlying9) rfl ?_
    refine Ops.r (Run.bin rfl rfl (Bin.lssN _ _)) rfl ?_
    refine Ops.nil ?_
    refine thenQ_n ?_
    refine VC.sub [(0, _), (3, _), (4, _), (29, _)] (.cons rfl (.cons rfl (.cons rfl (.cons rfl .nil)))) ?_
    refine VC.meet (σ := Option Addr × Nat) (fun s => [(3, .slice s.1 (linesF q).length s.2)]) (fun s wr => Own wr 9 1 s.1 (linesF q).length s.2 (SB (linesF q)) ∧ Frm [] w wr ∧ ∀ y ∈ ob s.1, w.heap.size ≤ y) ?_ ?_
    · skip
      refine VC.condD rfl (fun hc3 => ?_) (fun hc3 => ?_)
      · skip
        have hne : q.drop f ≠ [] := fun h => by have := congrArg List.length h; simp at this; omega
        rw [linesF_last hne h10] at hl
        refine VC.region ?_
        refine Ops.r (Run.mv rfl) rfl ?_
        refine Ops.r (Run.mv rfl) rfl ?_
        refine Ops.r (Run.mv rfl) rfl ?_
        refine Ops.r (Run.sliceT f q.length rfl Tryz.underlying9 (evB.some_ rfl) evB.none_ (by omega) (by omega)) rfl ?_
        rw [hrest]
        refine Ops.m (Does.buildS1 rfl Tryz.underlying36 Tryz.sizeOf9 zero9 (by decide) (by decide) rfl rfl) rfl ?_
        rintro _ w5 ⟨rfl, hFw5⟩
        have hrw5 : Rd w5 1 (some ⟨_, 0, none⟩) 1 (SB [q.drop f]) := Rd.of_blk (n := 1) (size := 1) hFw5.blk rfl
        have K := K.trans hFw5.frm (by simp)
        have hO := hO.frm hFw5.frm (by simp)
        refine Ops.m (Does.app rfl rfl Tryz.underlying36 (info9) rfl (by decide) hO hrw5 (SB_one _) (by omega) (by omega)) rfl ?_
        rintro _ w6 ⟨A6, c6, rfl, hO6, f6, hob6⟩
        have sK := K.size
        have K := Frm.own K f6 hub
        have hO6 : Own w6 9 1 A6 (linesF q).length c6 (SB (linesF q)) := by rw [← hl, SB_append, List.length_append]; exact hO6
        refine Ops.r (Run.asg rfl) rfl ?_
        refine Ops.nil ?_
        refine thenQ_n ⟨(A6, c6), (.cons (by rw [← hl, List.length_append]; rfl) .nil), ?_⟩
        exact ⟨hO6, K, up_app hub hob6 (by omega)⟩
      · skip
        rw [List.drop_of_length_le (by omega)] at hl
        have hl : l = linesF q := by rw [← hl]; show l = l ++ []; rw [List.append_nil]
        subst hl
        refine VC.skip ?_
        refine thenQ_n ⟨(A, c), (.cons rfl .nil), ?_⟩
        exact ⟨hO, K, hub⟩
    · skip
      rintro ⟨A9, c9⟩ wr9 ⟨hO9, K9, hub9⟩ Γ hΓ
      dsimp only at hO9 hub9
      refine thenQ_n (VC.sub _ hΓ ?_)
      refine VC.seq ?_
      refine VC.region ?_
      refine Ops.r (Run.mv rfl) rfl ?_
      refine Ops.r (Run.asg rfl) rfl ?_
      refine Ops.nil ?_
      refine thenQ_n ?_
      refine VC.sub [(2, _)] (.cons rfl .nil) ?_
      refine VC.ret ?_
      refine end1 rfl ?_
      exact ⟨K9, A9, c9, rfl, hO9, hub9⟩

set_option maxRecDepth 100000 in
theorem rempty_spec (q : Tx) (w : World) : Calls Tryz.prog 133 #[encStr q] w fun e w' => e = .returned (.bool (decide (EmptyL q))) ∧ w = w' := by
  refine VC.calls (nt := 9) (res := #[.tmp 2]) Tryz.func133 rfl Tryz.ntmps133 Tryz.results133 rfl ?_
  refine VC.seq ?_
  refine VC.region ?_
  refine Ops.r (Run.asg rfl) rfl ?_
  refine Ops.nil ?_
  refine thenQ_n ?_
  refine VC.sub [(0, _)] (.cons rfl .nil) ?_
  refine VC.seq ?_
  refine VC.split1 [] .nil 2 (.bool (decide ((q = [10]) ∨ (q = [13, 10])))) ?_ ?_
  · by_cases hs0 : q = [10]
    · skip
      refine VC.region ?_
      refine Ops.r (Run.mv rfl) rfl ?_
      refine Ops.r (Run.eqlT rfl rfl) rfl ?_
      refine Ops.r (Run.mv rfl) rfl ?_
      refine Ops.sk rfl au rfl ?_
      refine Ops.sk rfl au rfl ?_
      refine Ops.r (Run.pickT rfl rfl au) rfl ?_
      refine Ops.r (Run.asg rfl) rfl ?_
      refine Ops.nil ?_
      refine thenQ_n ⟨(.cons (by rw [dor1 hs0]; rfl) .nil), rfl⟩
    · skip
      refine VC.region ?_
      refine Ops.r (Run.mv rfl) rfl ?_
      refine Ops.r (Run.eqlT rfl rfl) rfl ?_
      refine Ops.r (Run.mv rfl) rfl ?_
      refine Ops.rg rfl au (Run.mv rfl) rfl ?_
      refine Ops.rg rfl au (Run.eqlT rfl rfl) rfl ?_
      refine Ops.r (Run.pickF rfl rfl au) rfl ?_
      refine Ops.r (Run.asg rfl) rfl ?_
      refine Ops.nil ?_
      refine thenQ_n ⟨(.cons (by rw [dor0 hs0]; rfl) .nil), rfl⟩
  · intro Γ hΓ
    refine thenQ_n (VC.sub _ hΓ ?_)
    refine VC.ret ?_
    refine end1 rfl ?_
    exact ⟨rfl, rfl⟩

set_option maxRecDepth 100000 in
theorem rblank_spec (x : UInt8) (w : World) : Calls Tryz.prog 134 #[.int .u8 ((x.toNat : Nat) : Int)] w fun e w' => e = .returned (.bool (decide (Bl x))) ∧ w = w' := by
  refine VC.calls (nt := 9) (res := #[.tmp 2]) Tryz.func134 rfl Tryz.ntmps134 Tryz.results134 rfl ?_
  refine VC.seq ?_
  refine VC.region ?_
  refine Ops.r (Run.asg rfl) rfl ?_
  refine Ops.nil ?_
  refine thenQ_n ?_
  refine VC.sub [(0, _)] (.cons rfl .nil) ?_
  refine VC.seq ?_
  refine VC.split1 [] .nil 2 (.bool (decide ((x.toNat = 32) ∨ (x.toNat = 9)))) ?_ ?_
  · by_cases hs0 : x.toNat = 32
    · skip
      refine VC.region ?_
      refine Ops.r (Run.mv rfl) rfl ?_
      refine Ops.r (Run.bin rfl rfl (Bin.eqlN _ 32)) rfl ?_
      refine Ops.r (Run.mv rfl) rfl ?_
      refine Ops.sk rfl au rfl ?_
      refine Ops.sk rfl au rfl ?_
      refine Ops.r (Run.pickT rfl rfl au) rfl ?_
      refine Ops.r (Run.asg rfl) rfl ?_
      refine Ops.nil ?_
      refine thenQ_n ⟨(.cons (by rw [dor1 hs0]; rfl) .nil), rfl⟩
    · skip
      refine VC.region ?_
      refine Ops.r (Run.mv rfl) rfl ?_
      refine Ops.r (Run.bin rfl rfl (Bin.eqlN _ 32)) rfl ?_
      refine Ops.r (Run.mv rfl) rfl ?_
      refine Ops.rg rfl au (Run.mv rfl) rfl ?_
      refine Ops.rg rfl au (Run.bin rfl rfl (Bin.eqlN _ 9)) rfl ?_
      refine Ops.r (Run.pickF rfl rfl au) rfl ?_
      refine Ops.r (Run.asg rfl) rfl ?_
      refine Ops.nil ?_
      refine thenQ_n ⟨(.cons (by rw [dor0 hs0]; rfl) .nil), rfl⟩
  · intro Γ hΓ
    refine thenQ_n (VC.sub _ hΓ ?_)
    refine VC.ret ?_
    refine end1 rfl ?_
    exact ⟨by rw [decide_eq_decide.2 (show (x.toNat = 32 ∨ x.toNat = 9) ↔ Bl x from ⟨fun h => h.imp (u8n rfl).1 (u8n rfl).1, fun h => h.imp (u8n rfl).2 (u8n rfl).2⟩)], rfl⟩

theorem nameC_iff (x : UInt8) : NameC x ↔ 33 ≤ x.toNat ∧ x.toNat ≤ 126 ∧ x.toNat ≠ 58 := by
  unfold NameC
  have e : x.toNat = 58 ↔ x = 58 := u8n rfl
  constructor
  · rintro ⟨h1, h2, h3⟩
    exact ⟨by omega, by omega, fun h => h3 (e.1 h)⟩
  · rintro ⟨h1, h2, h3⟩
    exact ⟨by omega, by omega, fun h => h3 (e.2 h)⟩
theorem nameN_on {q : Tx} {k : Nat} (hk : k < q.length) (h : NameC (hdA q k)) : nameN (q.drop k) = nameN (q.drop (k + 1)) + 1 := by
  rw [hdA_drop hk]
  conv => lhs; unfold nameN
  rw [if_pos h]
theorem nameN_off {q : Tx} {k : Nat} (h : ¬ (k < q.length ∧ NameC (hdA q k))) : nameN (q.drop k) = 0 := by
  by_cases hk : k < q.length
  · rw [hdA_drop hk]
    unfold nameN
    rw [if_neg (fun hn => h ⟨hk, hn⟩)]
  · rw [List.drop_of_length_le (by omega)]
    rfl
theorem blankN_on {q : Tx} {k : Nat} (hk : k < q.length) (h : Bl (hdA q k)) : blankN (q.drop k) = blankN (q.drop (k + 1)) + 1 := by
  rw [hdA_drop hk]
  conv => lhs; unfold blankN
  rw [if_pos h]
theorem blankN_off {q : Tx} {k : Nat} (h : ¬ (k < q.length ∧ Bl (hdA q k))) : blankN (q.drop k) = 0 := by
  by_cases hk : k < q.length
  · rw [hdA_drop hk]
    unfold blankN
    rw [if_neg (fun hn => h ⟨hk, hn⟩)]
  · rw [List.drop_of_length_le (by omega)]
    rfl
def begR (q : Tx) : Tx × Nat := (beginQ q).getD ([], 0)
theorem begR_no {q : Tx} (h : ¬ (nameN q ≠ 0 ∧ q[nameN q + blankN (q.drop (nameN q))]? = some 58)) : begR q = ([], 0) := by unfold begR beginQ; rw [if_neg h]; rfl
theorem begR_yes {q : Tx} (h : nameN q ≠ 0 ∧ q[nameN q + blankN (q.drop (nameN q))]? = some 58) : begR q = (q.take (nameN q), nameN q + blankN (q.drop (nameN q)) + 1) := by unfold begR beginQ; rw [if_pos h]; rfl

set_option maxRecDepth 100000 in
theorem rname_spec (q : Tx) (w : World) (hq : q.length ≤ 1000000) : Calls Tryz.prog 135 #[encStr q] w fun e w' => e = .returned (.tuple #[encStr (begR q).1, .int .i64 (((begR q).2 : Nat) : Int)]) ∧ w = w' := by
  refine VC.calls (nt := 55) (res := #[.tmp 2, .tmp 3]) Tryz.func135 rfl Tryz.ntmps135 Tryz.results135 rfl ?_
  refine VC.seq ?_
  refine VC.region ?_
  refine Ops.r (Run.asg rfl) rfl ?_
  refine Ops.r (v := .int .i64 ((0 : Nat) : Int)) (Run.asg rfl) rfl ?_
  refine Ops.nil ?_
  refine thenQ_n ?_
  refine VC.sub [(0, _)] (.cons rfl .nil) ?_
  refine VC.seq ?_
  refine VC.region ?_
  refine Ops.r (v := .int .i64 ((0 : Nat) : Int)) (Run.asg rfl) rfl ?_
  refine Ops.nil ?_
  refine thenQ_n ?_
  refine VC.seq ?_
  refine VC.block ?_
  refine VC.loop (σ := Nat) (fun s => [(0, encStr q), (4, .int .i64 ((s : Nat) : Int))]) (fun s wr => w = wr ∧ s ≤ q.length ∧ nameN q = s + nameN (q.drop s)) (fun s => q.length - s) 0 (.cons rfl (.cons rfl .nil)) ⟨rfl, Nat.zero_le _, (Nat.zero_add _).symm⟩ ?_
  rintro k _ ⟨rfl, hk, hn⟩
  have hgx : k < q.length → q[k]? = some (hdA q k) := hdA_at
  refine VC.seq ?_
  refine VC.seq ?_
  refine VC.split1 [(0, _), (4, _)] (.cons rfl (.cons rfl .nil)) 27 (.bool (decide (k < q.length ∧ 33 ≤ (hdA q k).toNat ∧ (hdA q k).toNat ≤ 126 ∧ (hdA q k).toNat ≠ 58))) ?_ ?_
  · refine VC.region ?_
    refine Ops.r (Run.mv rfl) rfl ?_
    refine Ops.r (Run.mv rfl) rfl ?_
    refine Ops.r (Run.lenT rfl Tryz.underlying9) rfl ?_
    refine Ops.r (Run.bin rfl rfl (Bin.lssN _ _)) rfl ?_
    by_cases hs9 : k < q.length
    · skip
      refine Ops.r (Run.mv rfl) rfl ?_
      refine Ops.rg rfl au (Run.mv rfl) rfl ?_
      refine Ops.rg rfl au (Run.mv rfl) rfl ?_
      refine Ops.rg rfl au (Run.indexT _ rfl rfl Tryz.underlying9 (hgx hs9)) rfl ?_
      refine Ops.rg rfl au (Run.bin rfl rfl (Bin.leqN 33 _)) rfl ?_
      by_cases hs14 : 33 ≤ (hdA q k).toNat
      · skip
        refine Ops.r (Run.pickT rfl rfl au) rfl ?_
        refine Ops.r (Run.mv rfl) rfl ?_
        refine Ops.rg rfl au (Run.mv rfl) rfl ?_
        refine Ops.rg rfl au (Run.mv rfl) rfl ?_
        refine Ops.rg rfl au (Run.indexT _ rfl rfl Tryz.underlying9 (hgx hs9)) rfl ?_
        refine Ops.rg rfl au (Run.bin rfl rfl (Bin.leqN _ 126)) rfl ?_
        by_cases hs20 : (hdA q k).toNat ≤ 126
        · skip
          refine Ops.r (Run.pickT rfl rfl au) rfl ?_
          refine Ops.r (Run.mv rfl) rfl ?_
          refine Ops.rg rfl au (Run.mv rfl) rfl ?_
          refine Ops.rg rfl au (Run.mv rfl) rfl ?_
          refine Ops.rg rfl au (Run.indexT _ rfl rfl Tryz.underlying9 (hgx hs9)) rfl ?_
          refine Ops.rg rfl au (Run.bin rfl rfl (Bin.neqN _ 58)) rfl ?_
          by_cases hs26 : (hdA q k).toNat ≠ 58
          · skip
            refine Ops.r (Run.pickT rfl rfl au) rfl ?_
            refine Ops.nil ?_
            refine thenQ_n ⟨(.cons (congrArg (fun b => some (Value.bool b)) (by simp [*])) (.cons rfl (.cons rfl .nil))), rfl⟩
          · skip
            refine Ops.r (Run.pickT rfl rfl au) rfl ?_
            refine Ops.nil ?_
            refine thenQ_n ⟨(.cons (congrArg (fun b => some (Value.bool b)) (by simp [*])) (.cons rfl (.cons rfl .nil))), rfl⟩
        · skip
          refine Ops.r (Run.pickT rfl rfl au) rfl ?_
          refine Ops.r (Run.mv rfl) rfl ?_
          refine Ops.sk rfl au rfl ?_
          refine Ops.sk rfl au rfl ?_
          refine Ops.sk rfl au rfl ?_
          refine Ops.sk rfl au rfl ?_
          refine Ops.r (Run.pickF rfl rfl au) rfl ?_
          refine Ops.nil ?_
          refine thenQ_n ⟨(.cons (congrArg (fun b => some (Value.bool b)) (by simp [*])) (.cons rfl (.cons rfl .nil))), rfl⟩
      · skip
        refine Ops.r (Run.pickT rfl rfl au) rfl ?_
        refine Ops.r (Run.mv rfl) rfl ?_
        refine Ops.sk rfl au rfl ?_
        refine Ops.sk rfl au rfl ?_
        refine Ops.sk rfl au rfl ?_
        refine Ops.sk rfl au rfl ?_
        refine Ops.r (Run.pickF rfl rfl au) rfl ?_
        refine Ops.r (Run.mv rfl) rfl ?_
        refine Ops.sk rfl au rfl ?_
        refine Ops.sk rfl au rfl ?_
        refine Ops.sk rfl au rfl ?_
        refine Ops.sk rfl au rfl ?_
        refine Ops.r (Run.pickF rfl rfl au) rfl ?_
        refine Ops.nil ?_
        refine thenQ_n ⟨(.cons (congrArg (fun b => some (Value.bool b)) (by simp [*])) (.cons rfl (.cons rfl .nil))), rfl⟩
    · skip
      refine Ops.r (Run.mv rfl) rfl ?_
      refine Ops.sk rfl au rfl ?_
      refine Ops.sk rfl au rfl ?_
      refine Ops.sk rfl au rfl ?_
      refine Ops.sk rfl au rfl ?_
      refine Ops.r (Run.pickF rfl rfl au) rfl ?_
      refine Ops.r (Run.mv rfl) rfl ?_
      refine Ops.sk rfl au rfl ?_
      refine Ops.sk rfl au rfl ?_
      refine Ops.sk rfl au rfl ?_
      refine Ops.sk rfl au rfl ?_
      refine Ops.r (Run.pickF rfl rfl au) rfl ?_
      refine Ops.r (Run.mv rfl) rfl ?_
      refine Ops.sk rfl au rfl ?_
      refine Ops.sk rfl au rfl ?_
      refine Ops.sk rfl au rfl ?_
      refine Ops.sk rfl au rfl ?_
      refine Ops.r (Run.pickF rfl rfl au) rfl ?_
      refine Ops.nil ?_
      refine thenQ_n ⟨(.cons (congrArg (fun b => some (Value.bool b)) (by simp [*])) (.cons rfl (.cons rfl .nil))), rfl⟩
  · intro Γ hΓ
    refine thenQ_n (VC.sub _ hΓ ?_)
    refine VC.condD rfl (fun hc1 => ?_) (fun hc1 => ?_)
    · skip
      rw [nameN_on hc1.1 ((nameC_iff _).2 hc1.2)] at hn
      refine VC.skip ?_
      refine thenQ_n ?_
      refine VC.sub [(0, _), (4, _)] (.cons rfl (.cons rfl .nil)) ?_
      refine VC.block ?_
      refine VC.region ?_
      refine Ops.r (Run.mv rfl) rfl ?_
      refine Ops.r (Run.bin rfl rfl (Bin.add_i64 _ 1 (by omega))) rfl ?_
      refine Ops.r (Run.asg rfl) rfl ?_
      refine Ops.nil ?_
      refine blockQ_n (thenQ_n ⟨(k + 1), (.cons rfl (.cons rfl .nil)), ?_, ?_⟩)
      · skip
        exact ⟨rfl, hc1.1, by omega⟩
      · skip
        first | omega | (dsimp only; omega)
    · skip
      rw [nameN_off (fun h => hc1 ⟨h.1, (nameC_iff _).1 h.2⟩), Nat.add_zero] at hn
      subst hn
      refine VC.exit ?_
      refine thenQ_x (thenQ_x (blockQ_x ?_))
      refine thenQ_n ?_
      refine VC.sub [(0, _), (4, _)] (.cons rfl (.cons rfl .nil)) ?_
      refine VC.seq ?_
      refine VC.seq ?_
      refine VC.region ?_
      refine Ops.r (Run.mv rfl) rfl ?_
      refine Ops.r (Run.asg rfl) rfl ?_
      refine Ops.nil ?_
      refine thenQ_n ?_
      refine VC.sub [(0, _), (4, _), (5, _)] (.cons rfl (.cons rfl (.cons rfl .nil))) ?_
      refine VC.block ?_
      refine VC.loop (σ := Nat) (fun s => [(0, encStr q), (4, .int .i64 (((nameN q) : Nat) : Int)), (5, .int .i64 ((s : Nat) : Int))]) (fun s wr => w = wr ∧ nameN q ≤ s ∧ s ≤ q.length ∧ nameN q + blankN (q.drop (nameN q)) = s + blankN (q.drop s)) (fun s => q.length - s) (nameN q) (.cons rfl (.cons rfl (.cons rfl .nil))) ⟨rfl, Nat.le_refl _, hk, rfl⟩ ?_
      rintro j _ ⟨rfl, hkj, hj, hb⟩
      refine VC.seq ?_
      refine VC.seq ?_
      refine VC.split1 [(0, _), (4, _), (5, _)] (.cons rfl (.cons rfl (.cons rfl .nil))) 38 (.bool (decide ((0 < nameN q) ∧ (j < q.length)))) ?_ ?_
      · by_cases hs0 : 0 < nameN q
        · skip
          refine VC.region ?_
          refine Ops.r (Run.mv rfl) rfl ?_
          refine Ops.r (Run.bin rfl rfl (Bin.gtrN _ 0)) rfl ?_
          refine Ops.r (Run.mv rfl) rfl ?_
          refine Ops.rg rfl au (Run.mv rfl) rfl ?_
          refine Ops.rg rfl au (Run.mv rfl) rfl ?_
          refine Ops.rg rfl au (Run.lenT rfl Tryz.underlying9) rfl ?_
          refine Ops.rg rfl au (Run.bin rfl rfl (Bin.lssN _ _)) rfl ?_
          refine Ops.r (Run.pickT rfl rfl au) rfl ?_
          refine Ops.nil ?_
          refine thenQ_n ⟨(.cons (by rw [dand1 hs0]; rfl) (.cons rfl (.cons rfl (.cons rfl .nil)))), rfl⟩
        · skip
          refine VC.region ?_
          refine Ops.r (Run.mv rfl) rfl ?_
          refine Ops.r (Run.bin rfl rfl (Bin.gtrN _ 0)) rfl ?_
          refine Ops.r (Run.mv rfl) rfl ?_
          refine Ops.sk rfl au rfl ?_
          refine Ops.sk rfl au rfl ?_
          refine Ops.sk rfl au rfl ?_
          refine Ops.sk rfl au rfl ?_
          refine Ops.r (Run.pickF rfl rfl au) rfl ?_
          refine Ops.nil ?_
          refine thenQ_n ⟨(.cons (by rw [dand0 hs0]; rfl) (.cons rfl (.cons rfl (.cons rfl .nil)))), rfl⟩
      · intro Γ hΓ
        refine thenQ_n (VC.sub _ hΓ ?_)
        refine VC.condD rfl (fun hc2 => ?_) (fun hc2 => ?_)
        · skip
          obtain ⟨hk0, hjl⟩ := hc2
          have hgx := hdA_at hjl
          have e58 : (hdA q j).toNat = 58 ↔ hdA q j = 58 := u8n rfl
          refine VC.skip ?_
          refine thenQ_n ?_
          refine VC.sub [(0, _), (4, _), (5, _)] (.cons rfl (.cons rfl (.cons rfl .nil))) ?_
          refine VC.seq ?_
          refine VC.block ?_
          refine VC.seq ?_
          refine VC.seq ?_
          refine VC.region ?_
          refine Ops.r (Run.mv rfl) rfl ?_
          refine Ops.r (Run.mv rfl) rfl ?_
          refine Ops.r (Run.indexT _ rfl rfl Tryz.underlying9 hgx) rfl ?_
          refine Ops.r (Run.bin rfl rfl (Bin.eqlN _ 58)) rfl ?_
          refine Ops.nil ?_
          refine thenQ_n ?_
          refine VC.sub [(0, _), (4, _), (5, _), (44, _)] (.cons rfl (.cons rfl (.cons rfl (.cons rfl .nil)))) ?_
          refine VC.condD rfl (fun hc3 => ?_) (fun hc3 => ?_)
          · skip
            have h58 := e58.1 hc3
            rw [blankN_off (k := j) (fun h => by rw [h58] at h; exact absurd h.2 (by decide)), Nat.add_zero] at hb
            have hbr := begR_yes (q := q) ⟨by omega, by rw [hb, hgx, h58]⟩
            rw [hb] at hbr
            refine VC.seq ?_
            refine VC.region ?_
            refine Ops.r (Run.mv rfl) rfl ?_
            refine Ops.r (Run.mv rfl) rfl ?_
            refine Ops.r (Run.sliceT 0 (nameN q) rfl Tryz.underlying9 evB.none_ (evB.some_ rfl) (by omega) (by omega)) rfl ?_
            refine Ops.r (Run.mv rfl) rfl ?_
            refine Ops.r (Run.bin rfl rfl (Bin.add_i64 _ 1 (by omega))) rfl ?_
            refine Ops.r (Run.asg rfl) rfl ?_
            refine Ops.r (Run.asg rfl) rfl ?_
            refine Ops.nil ?_
            refine thenQ_n ?_
            refine VC.sub [(2, _), (3, _)] (.cons rfl (.cons rfl .nil)) ?_
            refine VC.ret ?_
            refine thenQ_r (blockQ_r (thenQ_r (thenQ_r (blockQ_r (thenQ_r (end2 rfl rfl ?_))))))
            exact ⟨by rw [hbr]; rfl, rfl⟩
          · skip
            have h58 : hdA q j ≠ 58 := fun h => hc3 (e58.2 h)
            refine VC.skip ?_
            refine thenQ_n ?_
            refine VC.sub [(0, _), (4, _), (5, _)] (.cons rfl (.cons rfl (.cons rfl .nil))) ?_
            refine VC.seq ?_
            refine VC.region ?_
            refine Ops.r (Run.mv rfl) rfl ?_
            refine Ops.r (Run.mv rfl) rfl ?_
            refine Ops.r (Run.indexT _ rfl rfl Tryz.underlying9 hgx) rfl ?_
            refine Ops.cl (Enters.fn (evs.cons rfl evs.nil) Tryz.call134) ((rblank_spec (hdA q j) _)) rfl ?_
            rintro e _ ⟨rfl, rfl⟩
            refine ⟨_, rfl, ?_⟩
            refine Ops.r (Run.not rfl) rfl ?_
            rw [not_dec]
            refine Ops.nil ?_
            refine thenQ_n ?_
            refine VC.sub [(0, _), (4, _), (5, _), (54, _)] (.cons rfl (.cons rfl (.cons rfl (.cons rfl .nil)))) ?_
            refine VC.condB rfl (fun hc4 => ?_) (fun hc4 => ?_)
            · skip
              have hnb := of_decide_eq_true hc4
              rw [blankN_off (k := j) (fun h => hnb h.2), Nat.add_zero] at hb
              have hbr := begR_no (q := q) (fun h => by rw [hb, hgx] at h; exact h58 (Option.some.inj h.2))
              refine VC.seq ?_
              refine VC.region ?_
              refine Ops.r (Run.asg rfl) rfl ?_
              refine Ops.r (v := .int .i64 ((0 : Nat) : Int)) (Run.asg rfl) rfl ?_
              refine Ops.nil ?_
              refine thenQ_n ?_
              refine VC.sub [(2, _), (3, _)] (.cons rfl (.cons rfl .nil)) ?_
              refine VC.ret ?_
              refine blockQ_r (thenQ_r (thenQ_r (blockQ_r (thenQ_r (end2 rfl rfl ?_)))))
              exact ⟨by rw [hbr], rfl⟩
            · skip
              have hbl := Classical.not_not.1 (of_decide_eq_false hc4)
              rw [blankN_on hjl hbl] at hb
              refine VC.skip ?_
              refine blockQ_n (thenQ_n ?_)
              refine VC.sub [(0, _), (4, _), (5, _)] (.cons rfl (.cons rfl (.cons rfl .nil))) ?_
              refine VC.region ?_
              refine Ops.r (Run.mv rfl) rfl ?_
              refine Ops.r (Run.bin rfl rfl (Bin.add_i64 _ 1 (by omega))) rfl ?_
              refine Ops.r (Run.asg rfl) rfl ?_
              refine Ops.nil ?_
              refine thenQ_n ⟨(j + 1), (.cons rfl (.cons rfl (.cons rfl .nil))), ?_, ?_⟩
              · skip
                exact ⟨rfl, by omega, hjl, by omega⟩
              · skip
                first | omega | (dsimp only; omega)
        · skip
          have hbr := begR_no (q := q) (fun h => by
            have hjn : ¬ j < q.length := fun hj2 => hc2 ⟨by omega, hj2⟩
            rw [blankN_off (k := j) (fun h => hjn h.1), Nat.add_zero] at hb
            rw [hb, List.getElem?_eq_none (by omega)] at h
            cases h.2)
          refine VC.exit ?_
          refine thenQ_x (thenQ_x (blockQ_x ?_))
          refine thenQ_n ?_
          refine VC.sub [] .nil ?_
          refine VC.seq ?_
          refine VC.region ?_
          refine Ops.r (Run.asg rfl) rfl ?_
          refine Ops.r (v := .int .i64 ((0 : Nat) : Int)) (Run.asg rfl) rfl ?_
          refine Ops.nil ?_
          refine thenQ_n ?_
          refine VC.ret ?_
          refine end2 rfl rfl ?_
          exact ⟨by rw [hbr], rfl⟩

end Go.Proofs.YtenbjndldenkfaaGreatDoor

namespace Go.Proofs.YtenbjndldenkfaaGreatDoor
open Go.RowKit Go.Sort

theorem fldL_stop : ∀ (ls : List Tx) (o : Nat) (op : Bool) (out : List Fld) (a b : List Tx), ls = a ++ b → ((∃ e, a.getLast? = some e ∧ EmptyL e) ∨ b = []) → fldL o op out a = fldL o op out ls
  | ls, o, op, out, [], b, hab, h => by
    rcases h with ⟨e, h1, _⟩ | h
    · simp at h1
    · subst h; rw [hab]; simp
  | ls, o, op, out, l :: a, b, hab, h => by
    subst hab
    by_cases hl : EmptyL l
    · rw [List.cons_append, fld_empty hl, fld_empty hl]
    · have h' : (∃ e, a.getLast? = some e ∧ EmptyL e) ∨ b = [] := by
        rcases h with ⟨e, h1, h2⟩ | h
        · cases a with
          | nil => simp only [List.getLast?_singleton, Option.some.injEq] at h1; subst h1; exact absurd h2 hl
          | cons y t => rw [List.getLast?_cons_cons] at h1; exact .inl ⟨e, h1, h2⟩
        · exact .inr h
      have ih := fun o op out => fldL_stop (a ++ b) o op out a b rfl h'
      rw [List.cons_append]
      by_cases hb : ∃ c, l.head? = some c ∧ Bl c
      · rw [fld_blank hl hb, fld_blank hl hb, ih]
      · cases hq : beginQ l with
        | none => rw [fld_no hl hb hq, fld_no hl hb hq, ih]
        | some p => rw [fld_yes hl hb (n := p.1) (k := p.2) hq, fld_yes hl hb (n := p.1) (k := p.2) hq, ih]
theorem cut10 : ∀ {s : Tx}, (10 : UInt8) ∈ s → ∃ x y, s = x ++ 10 :: y ∧ (10 : UInt8) ∉ x
  | [], h => by simp at h
  | z :: r, h => by
    by_cases hz : z = 10
    · exact ⟨[], r, by rw [hz]; rfl, by simp⟩
    · obtain ⟨x, y, h1, h2⟩ := cut10 (s := r) ((List.mem_cons.1 h).resolve_left (fun e => hz e.symm))
      exact ⟨z :: x, y, by rw [h1]; rfl, by simp only [List.mem_cons, not_or]; exact ⟨fun e => hz e.symm, h2⟩⟩
theorem linesF_self : ∀ {s : Tx} {a b : List Tx}, linesF s = a ++ b → linesF a.flatten = a := by
  intro s a
  induction a generalizing s with
  | nil => intro b _; rfl
  | cons l t ih =>
    intro b h
    have hl : l ∈ linesF s := by rw [h]; simp
    have hne := linesF_ne hl
    by_cases h10 : (10 : UInt8) ∈ s
    · obtain ⟨x, y, rfl, hx⟩ := cut10 h10
      rw [linesF_cut _ hx] at h
      obtain ⟨h1, h2⟩ := List.cons.inj h
      rw [List.flatten_cons, ← h1, List.append_assoc, List.singleton_append, linesF_cut _ hx, ih h2]
    · have hs : s ≠ [] := fun e => by rw [e] at h; cases h
      rw [linesF_last hs h10] at h
      obtain ⟨h1, h2⟩ := List.cons.inj h
      have ht : t = [] := (List.append_eq_nil_iff.1 h2.symm).1
      subst ht
      rw [← h1]
      simp only [List.flatten_cons, List.flatten_nil, List.append_nil]
      exact linesF_last hs h10
theorem fieldsQ_all (s : Tx) : fieldsQ s = fldL 0 false [] (linesF s) := by
  obtain ⟨a, b, h1, h2, _, h4⟩ := splitL_pre (linesF s)
  have e : s.take (splitQ s) = a.flatten := by
    have hf := linesF_flat s
    rw [h1, List.flatten_append] at hf
    have e2 : s.take (splitQ s) = (a.flatten ++ b.flatten).take a.flatten.length := by rw [hf]; unfold splitQ; rw [h2]
    rw [e2, List.take_left]
  unfold fieldsQ
  rw [e, linesF_self h1]
  exact fldL_stop (linesF s) 0 false [] a b h1 (h4.imp (fun h => h) (fun h => h.1))
theorem begR_some {l n : Tx} {k : Nat} (h : beginQ l = some (n, k)) : begR l = (n, k) := by unfold begR; rw [h]; rfl
theorem begR_none {l : Tx} (h : beginQ l = none) : begR l = ([], 0) := by unfold begR; rw [h]; rfl
theorem beginQ_pos {l n : Tx} {k : Nat} (h : beginQ l = some (n, k)) : 0 < k := by
  unfold beginQ at h
  split at h
  · cases h; omega
  · cases h

set_option maxRecDepth 100000 in
set_option maxHeartbeats 1600000 in
theorem rfields_spec (q : Tx) (w : World) (hq : q.length ≤ 500000) : Calls Tryz.prog 95 #[encStr q] w fun e w' => Frm [] w w' ∧ ∃ A c, e = .returned (.slice A (fieldsQ q).length c) ∧ Own w' 45 4 A (fieldsQ q).length c (FC (fieldsQ q)) ∧ ∀ y ∈ ob A, w.heap.size ≤ y := by
  have K := Frm.refl [] w
  have hlc := linesF_count q
  have hlf := linesF_flat q
  refine VC.calls (nt := 83) (res := #[.tmp 2]) Tryz.func95 rfl Tryz.ntmps95 Tryz.results95 rfl ?_
  refine VC.seq ?_
  refine VC.region ?_
  refine Ops.r (Run.asg rfl) rfl ?_
  refine Ops.nil ?_
  refine thenQ_n ?_
  refine VC.sub [(0, _)] (.cons rfl .nil) ?_
  refine VC.seq ?_
  refine VC.region ?_
  refine Ops.r (Run.asg rfl) rfl ?_
  refine Ops.nil ?_
  refine thenQ_n ?_
  refine VC.seq ?_
  refine VC.region ?_
  refine Ops.r (Run.mv rfl) rfl ?_
  refine Ops.cl (Enters.fn (evs.cons rfl evs.nil) Tryz.call132) ((rcut_spec q _ (by omega))) rfl ?_
  rintro e w1 ⟨f1, B, bc, rfl, hL, hubL⟩
  refine ⟨_, rfl, ?_⟩
  have K := K.trans f1 (by simp)
  have hnl : ∀ l ∈ linesF q, l ≠ [] := fun l hl => linesF_ne hl
  rw [fieldsQ_all]
  generalize linesF q = L at *
  refine Ops.r (Run.asg rfl) rfl ?_
  refine Ops.nil ?_
  refine thenQ_n ?_
  refine VC.sub [(3, _), (4, _)] (.cons rfl (.cons rfl .nil)) ?_
  refine VC.seq ?_
  refine VC.region ?_
  refine Ops.r (v := .int .i64 ((0 : Nat) : Int)) (Run.asg rfl) rfl ?_
  refine Ops.nil ?_
  refine thenQ_n ?_
  refine VC.seq ?_
  refine VC.region ?_
  refine Ops.r (Run.asg rfl) rfl ?_
  refine Ops.nil ?_
  refine thenQ_n ?_
  refine VC.seq ?_
  refine VC.seq ?_
  refine VC.region ?_
  refine Ops.r (v := .int .i64 ((0 : Nat) : Int)) (Run.asg rfl) rfl ?_
  refine Ops.nil ?_
  refine thenQ_n ?_
  refine VC.block ?_
  refine VC.loop (σ := Nat × Nat × Bool × List Fld × Option Addr × Nat) (fun s => [(3, .slice s.2.2.2.2.1 s.2.2.2.1.length s.2.2.2.2.2), (4, .slice B L.length bc), (5, .int .i64 ((s.2.1 : Nat) : Int)), (6, .bool s.2.2.1), (7, .int .i64 ((s.1 : Nat) : Int))]) (fun s wr => s.1 ≤ L.length ∧ fldL s.2.1 s.2.2.1 s.2.2.2.1 (L.drop s.1) = fldL 0 false [] L ∧ s.2.1 = ((L.take s.1).flatten).length ∧ (s.2.2.1 = true → ∃ t f, s.2.2.2.1 = t ++ [f] ∧ f.tu = s.2.1) ∧ s.2.2.2.1.length ≤ s.1 ∧ Own wr 45 4 s.2.2.2.2.1 s.2.2.2.1.length s.2.2.2.2.2 (FC s.2.2.2.1) ∧ Own wr 9 1 B L.length bc (SB L) ∧ Frm [] w wr ∧ ∀ y ∈ ob s.2.2.2.2.1, w.heap.size ≤ y ∧ y ∉ ob B) (fun s => L.length - s.1) (0, 0, false, [], none, 0) (.cons rfl (.cons rfl (.cons rfl (.cons rfl (.cons rfl .nil))))) ⟨Nat.zero_le _, rfl, by simp, by simp, Nat.le_refl _, Own.nil _ _ _, hL, K, by simp [ob]⟩ ?_
  rintro ⟨i, a, op, out, A, c⟩ wr ⟨hi, hfl, hat, hop, hol, hO, hL, K, hub⟩
  dsimp only at hi hfl hat hop hol hO hub ⊢
  refine VC.seq ?_
  refine VC.seq ?_
  refine VC.split1 [(3, _), (4, _), (5, _), (6, _), (7, _)] (.cons rfl (.cons rfl (.cons rfl (.cons rfl (.cons rfl .nil))))) 23 (.bool (decide ((i < L.length) ∧ (¬ EmptyL ((L[i]?).getD []))))) ?_ ?_
  · by_cases hs0 : i < L.length
    · skip
      refine VC.region ?_
      refine Ops.r (Run.mv rfl) rfl ?_
      refine Ops.r (Run.mv rfl) rfl ?_
      refine Ops.r (Run.lenS rfl Tryz.underlying36) rfl ?_
      refine Ops.r (Run.bin rfl rfl (Bin.lssN _ _)) rfl ?_
      refine Ops.r (Run.mv rfl) rfl ?_
      refine Ops.rg rfl au (Run.mv rfl) rfl ?_
      obtain ⟨adL, hLe, hcell⟩ := SB_at1 hL.rd hs0
      refine Ops.rg rfl au (Run.mv rfl) rfl ?_
      refine Ops.rg rfl au (Run.indexS i (by rw [← hLe]; rfl) rfl Tryz.underlying36 Tryz.sizeOf9 hs0) rfl ?_
      refine Ops.rg rfl au (Run.load rfl Tryz.isAgg9 hcell) rfl ?_
      refine Ops.clg rfl au (Enters.fn (evs.cons rfl evs.nil) Tryz.call133) ((rempty_spec L[i] _)) rfl ?_
      rintro e _ ⟨rfl, rfl⟩
      refine ⟨_, rfl, ?_⟩
      refine Ops.rg rfl au (Run.not rfl) rfl ?_
      rw [not_dec, show L[i] = (L[i]?).getD [] by rw [List.getElem?_eq_getElem hs0]; rfl]
      refine Ops.r (Run.pickT rfl rfl au) rfl ?_
      refine Ops.nil ?_
      refine thenQ_n ⟨(.cons (by rw [dand1 hs0]; rfl) (.cons rfl (.cons rfl (.cons rfl (.cons rfl (.cons rfl .nil)))))), rfl⟩
    · skip
      refine VC.region ?_
      refine Ops.r (Run.mv rfl) rfl ?_
      refine Ops.r (Run.mv rfl) rfl ?_
      refine Ops.r (Run.lenS rfl Tryz.underlying36) rfl ?_
      refine Ops.r (Run.bin rfl rfl (Bin.lssN _ _)) rfl ?_
      refine Ops.r (Run.mv rfl) rfl ?_
      refine Ops.sk rfl au rfl ?_
      refine Ops.sk rfl au rfl ?_
      refine Ops.sk rfl au rfl ?_
      refine Ops.sk rfl au rfl ?_
      refine Ops.sk rfl au rfl ?_
      refine Ops.sk rfl au rfl ?_
      refine Ops.r (Run.pickF rfl rfl au) rfl ?_
      refine Ops.nil ?_
      refine thenQ_n ⟨(.cons (by rw [dand0 hs0]; rfl) (.cons rfl (.cons rfl (.cons rfl (.cons rfl (.cons rfl .nil)))))), rfl⟩
  · intro Γ hΓ
    refine thenQ_n (VC.sub _ hΓ ?_)
    refine VC.condD rfl (fun hc1 => ?_) (fun hc1 => ?_)
    · skip
      obtain ⟨hil, hne⟩ := hc1
      obtain ⟨adL, hLe, hcell⟩ := SB_at1 hL.rd hil
      rw [List.getElem?_eq_getElem hil] at hne
      have hne : ¬ EmptyL L[i] := hne
      have hl0 := hnl _ (List.getElem_mem hil)
      have hts : (L.take (i + 1)).flatten.length = (L.take i).flatten.length + L[i].length := by rw [take_snoc hil, List.flatten_append, List.length_append]; simp
      have htot : (L.take (i + 1)).flatten.length ≤ q.length := by
        rw [← hlf]
        conv => rhs; rw [← List.take_append_drop (i + 1) L, List.flatten_append, List.length_append]
        omega
      rw [List.drop_eq_getElem_cons hil] at hfl
      generalize hle : L[i] = l at *
      obtain ⟨x, r, rfl⟩ : ∃ x r, l = x :: r := by
        cases l with
        | nil => exact absurd rfl hl0
        | cons x r => exact ⟨x, r, rfl⟩
      refine VC.skip ?_
      refine thenQ_n ?_
      refine VC.sub [(3, _), (4, _), (5, _), (6, _), (7, _)] (.cons rfl (.cons rfl (.cons rfl (.cons rfl (.cons rfl .nil))))) ?_
      refine VC.seq ?_
      refine VC.block ?_
      refine VC.seq ?_
      refine VC.seq ?_
      refine VC.region ?_
      refine Ops.r (Run.mv rfl) rfl ?_
      refine Ops.r (Run.mv rfl) rfl ?_
      refine Ops.r (Run.indexS i (by rw [← hLe]; rfl) rfl Tryz.underlying36 Tryz.sizeOf9 hil) rfl ?_
      refine Ops.r (Run.load rfl Tryz.isAgg9 hcell) rfl ?_
      refine Ops.r (Run.indexT 0 rfl rfl Tryz.underlying9 (show (x :: r)[0]? = some x from rfl)) rfl ?_
      refine Ops.cl (Enters.fn (evs.cons rfl evs.nil) Tryz.call134) ((rblank_spec x _)) rfl ?_
      rintro e _ ⟨rfl, rfl⟩
      refine ⟨_, rfl, ?_⟩
      refine Ops.nil ?_
      refine thenQ_n ?_
      refine VC.sub [(3, _), (4, _), (5, _), (6, _), (7, _), (31, _)] (.cons rfl (.cons rfl (.cons rfl (.cons rfl (.cons rfl (.cons rfl .nil)))))) ?_
      refine VC.meet (σ := Bool × List Fld × Option Addr × Nat) (fun s => [(3, .slice s.2.2.1 s.2.1.length s.2.2.2), (4, .slice B L.length bc), (5, .int .i64 ((a : Nat) : Int)), (6, .bool s.1), (7, .int .i64 ((i : Nat) : Int))]) (fun s wr => fldL (a + (x :: r).length) s.1 s.2.1 (L.drop (i + 1)) = fldL 0 false [] L ∧ (a + (x :: r).length) = ((L.take (i + 1)).flatten).length ∧ (s.1 = true → ∃ t f, s.2.1 = t ++ [f] ∧ f.tu = (a + (x :: r).length)) ∧ s.2.1.length ≤ (i + 1) ∧ Own wr 45 4 s.2.2.1 s.2.1.length s.2.2.2 (FC s.2.1) ∧ Own wr 9 1 B L.length bc (SB L) ∧ Frm [] w wr ∧ ∀ y ∈ ob s.2.2.1, w.heap.size ≤ y ∧ y ∉ ob B) ?_ ?_
      · skip
        refine VC.condB rfl (fun hc2 => ?_) (fun hc2 => ?_)
        · skip
          have hbl : ∃ c, (x :: r).head? = some c ∧ Bl c := ⟨x, rfl, of_decide_eq_true hc2⟩
          rw [fld_blank hne hbl] at hfl
          refine VC.seq ?_
          refine VC.region ?_
          refine Ops.r (Run.mv rfl) rfl ?_
          refine Ops.nil ?_
          refine thenQ_n ?_
          refine VC.sub [(3, _), (4, _), (5, _), (6, _), (7, _), (32, _)] (.cons rfl (.cons rfl (.cons rfl (.cons rfl (.cons rfl (.cons rfl .nil)))))) ?_
          refine VC.condB rfl (fun hc3 => ?_) (fun hc3 => ?_)
          · skip
            subst hc3
            obtain ⟨t, f, rfl, hft⟩ := hop rfl
            rw [if_pos rfl, setTo_snoc] at hfl
            obtain ⟨ad2, rfl, hcF⟩ := FC_at hO.rd (k := t.length) (by simp)
            have hol2 : (t ++ [f]).length = t.length + 1 := by simp
            have hcF : ∀ j v, (FC1 f)[j]? = some v → wr.cell? ((ad2.add (t.length * 4)).add j) = some v := fun j v hj => hcF j v (by rw [List.getElem_concat_length rfl]; exact hj)
            refine VC.tail 15 (by kernel_rfl) (by kernel_rfl) ?_
            simp only [List.take_succ_cons, List.take_zero, List.drop_succ_cons, List.drop_zero]
            refine SOps.r (Run.mv rfl) rfl ?_
            refine SOps.r (Run.mv rfl) rfl ?_
            refine SOps.r (Run.lenS rfl Tryz.underlying42) rfl ?_
            refine SOps.r (Run.bin rfl rfl (Bin.sub_i64 (t ++ [f]).length 1 (by omega) (by omega))) rfl ?_
            rw [show (t ++ [f]).length - 1 = t.length by omega]
            refine SOps.r (Run.indexS t.length rfl rfl Tryz.underlying42 Tryz.sizeOf45 (by omega)) rfl ?_
            refine SOps.r (Run.fieldAddr rfl Tryz.underlying45 rfl Tryz.sizeOf3 (by decide)) rfl ?_
            refine SOps.r (Run.load rfl Tryz.isAgg3 (hcF 2 _ rfl)) rfl ?_
            refine SOps.r (Run.mv rfl) rfl ?_
            refine SOps.r (Run.mv rfl) rfl ?_
            refine SOps.r (Run.indexS i (by rw [← hLe]; rfl) rfl Tryz.underlying36 Tryz.sizeOf9 hil) rfl ?_
            refine SOps.r (Run.load rfl Tryz.isAgg9 hcell) rfl ?_
            refine SOps.r (Run.lenT rfl Tryz.underlying9) rfl ?_
            refine SOps.r (Run.bin rfl rfl (Bin.add_i64 f.tu (x :: r).length (by omega))) rfl ?_
            refine SOps.r (Run.indexS t.length rfl rfl Tryz.underlying42 Tryz.sizeOf45 (by omega)) rfl ?_
            refine SOps.r (Run.fieldAddr rfl Tryz.underlying45 rfl Tryz.sizeOf3 (by decide)) rfl ?_
            refine SOps.nil ?_
            refine Ops.st (Acts.storeOwn (t.length * 4 + 2) (congrArg (fun a => some (Value.pointer (some a))) (add_add ad2 _ 2)) rfl Tryz.sizeOf3 (hO.drawn (Drawn.drew _)) rfl (by omega) rfl) ?_
            rintro w4 ⟨hO4, f4, _⟩
            rw [FC_set] at hO4
            have hO4 : Own w4 45 4 (some ad2) (t ++ [(⟨f.name, f.frm, f.tu + (x :: r).length, f.at_⟩ : Fld)]).length c (FC (t ++ [⟨f.name, f.frm, f.tu + (x :: r).length, f.at_⟩])) := by
              rw [show (t ++ [(⟨f.name, f.frm, f.tu + (x :: r).length, f.at_⟩ : Fld)]).length = (t ++ [f]).length by simp]
              exact hO4
            have hL := (hL.drawn (Drawn.drew _)).frm f4 (fun y hy h => (hub y h).2 hy)
            have K := Frm.own K.drew f4 (fun y hy => (hub y hy).1)
            refine Ops.nil ?_
            refine thenQ_n ⟨(true, t ++ [⟨f.name, f.frm, f.tu + (x :: r).length, f.at_⟩], some ad2, c), (.cons (by rw [show (t ++ [(⟨f.name, f.frm, f.tu + (x :: r).length, f.at_⟩ : Fld)]).length = (t ++ [f]).length by simp]; rfl) (.cons rfl (.cons rfl (.cons rfl (.cons rfl .nil))))), ?_⟩
            exact ⟨by rw [hft]; exact hfl, by rw [hts, ← hat], fun _ => ⟨t, _, rfl, by dsimp only; rw [hft]⟩, by simp at hol ⊢; omega, hO4, hL, K, hub⟩
          · skip
            subst hc3
            rw [if_neg (by simp)] at hfl
            refine VC.skip ?_
            refine thenQ_n ⟨(false, out, A, c), (.cons rfl (.cons rfl (.cons rfl (.cons rfl (.cons rfl .nil))))), ?_⟩
            exact ⟨hfl, by rw [hts, ← hat], by simp, by dsimp only; omega, hO, hL, K, hub⟩
        · skip
          have hnb : ¬ ∃ c, (x :: r).head? = some c ∧ Bl c := fun ⟨c, h1, h2⟩ => by cases h1; exact absurd h2 (of_decide_eq_false hc2)
          refine VC.seq ?_
          refine VC.region ?_
          refine Ops.r (Run.mv rfl) rfl ?_
          refine Ops.r (Run.mv rfl) rfl ?_
          refine Ops.r (Run.indexS i (by rw [← hLe]; rfl) rfl Tryz.underlying36 Tryz.sizeOf9 hil) rfl ?_
          refine Ops.r (Run.load rfl Tryz.isAgg9 hcell) rfl ?_
          refine Ops.cl (Enters.fn (evs.cons rfl evs.nil) Tryz.call135) ((rname_spec (x :: r) _ (by omega))) rfl ?_
          rintro e _ ⟨rfl, rfl⟩
          refine ⟨_, rfl, ?_⟩
          obtain ⟨nm, k, hbe, hbi⟩ : ∃ (nm : Tx) (k : Nat), begR (x :: r) = (nm, k) ∧ ((0 < k ∧ beginQ (x :: r) = some (nm, k)) ∨ (k = 0 ∧ beginQ (x :: r) = none)) := by
            cases hq2 : beginQ (x :: r) with
            | none => exact ⟨[], 0, begR_none hq2, .inr ⟨rfl, rfl⟩⟩
            | some p => exact ⟨p.1, p.2, begR_some hq2, .inl ⟨beginQ_pos (n := p.1) (k := p.2) hq2, rfl⟩⟩
          rw [hbe]
          dsimp only
          refine Ops.r (Run.mv rfl) rfl ?_
          refine Ops.r (Run.extract rfl rfl) rfl ?_
          refine Ops.r (Run.extract rfl rfl) rfl ?_
          refine Ops.r (Run.asg rfl) rfl ?_
          refine Ops.r (Run.asg rfl) rfl ?_
          refine Ops.nil ?_
          refine thenQ_n ?_
          refine VC.sub [(3, _), (4, _), (5, _), (7, _), (8, _), (9, _)] (.cons rfl (.cons rfl (.cons rfl (.cons rfl (.cons rfl (.cons rfl .nil)))))) ?_
          refine VC.seq ?_
          refine VC.region ?_
          refine Ops.r (Run.mv rfl) rfl ?_
          refine Ops.r (Run.bin rfl rfl (Bin.gtrN _ 0)) rfl ?_
          refine Ops.r (Run.asg rfl) rfl ?_
          refine Ops.nil ?_
          refine thenQ_n ?_
          refine VC.sub [(3, _), (4, _), (5, _), (6, _), (7, _), (8, _), (9, _)] (.cons rfl (.cons rfl (.cons rfl (.cons rfl (.cons rfl (.cons rfl (.cons rfl .nil))))))) ?_
          refine VC.seq ?_
          refine VC.region ?_
          refine Ops.r (Run.mv rfl) rfl ?_
          refine Ops.nil ?_
          refine thenQ_n ?_
          refine VC.condD rfl (fun hc4 => ?_) (fun hc4 => ?_)
          · skip
            have hbq := (hbi.resolve_right (fun h => by omega)).2
            have hk0 := hc4
            have hbl := beginQ_lt hbq
            rw [fld_yes hne hnb hbq] at hfl
            refine VC.region ?_
            refine Ops.r (Run.mv rfl) rfl ?_
            refine Ops.r (Run.mv rfl) rfl ?_
            refine Ops.r (Run.mv rfl) rfl ?_
            refine Ops.r (Run.mv rfl) rfl ?_
            refine Ops.r (Run.mv rfl) rfl ?_
            refine Ops.r (Run.mv rfl) rfl ?_
            refine Ops.r (Run.indexS i (by rw [← hLe]; rfl) rfl Tryz.underlying36 Tryz.sizeOf9 hil) rfl ?_
            refine Ops.r (Run.load rfl Tryz.isAgg9 hcell) rfl ?_
            refine Ops.r (Run.lenT rfl Tryz.underlying9) rfl ?_
            refine Ops.r (Run.bin rfl rfl (Bin.add_i64 a (x :: r).length (by omega))) rfl ?_
            refine Ops.r (Run.mv rfl) rfl ?_
            refine Ops.r (Run.mv rfl) rfl ?_
            refine Ops.r (Run.bin rfl rfl (Bin.add_i64 _ _ (by omega))) rfl ?_
            refine Ops.r (Run.build (evs.cons rfl (evs.cons rfl (evs.cons rfl (evs.cons rfl evs.nil)))) zero45 (places45).choose_spec.1 (places45).choose_spec.2 rfl) rfl ?_
            refine Ops.m (Does.buildS1 rfl Tryz.underlying42 Tryz.sizeOf45 zero45 (by decide) (by decide) rfl rfl) rfl ?_
            rintro _ w5 ⟨rfl, hF5⟩
            have hrd5 := hrdF (x := ⟨nm, a, a + (x :: r).length, a + k⟩) hF5
            have hO := hO.frm hF5.frm (by simp)
            have hL := hL.frm hF5.frm (by simp)
            have K := K.trans hF5.frm (by simp)
            refine Ops.m (Does.app rfl rfl Tryz.underlying42 (info45) rfl (by decide) hO hrd5 (FC_one _) (by omega) (by omega)) rfl ?_
            rintro _ w6 ⟨A6, c6, rfl, hO6, f6, hob6⟩
            have sK := K.size
            have lL := hL.lt
            have K := Frm.own K f6 (fun y hy => (hub y hy).1)
            have hO6 : Own w6 45 4 A6 (out ++ [(⟨nm, a, a + (x :: r).length, a + k⟩ : Fld)]).length c6 (FC (out ++ [(⟨nm, a, a + (x :: r).length, a + k⟩ : Fld)])) := by rw [FC_append, List.length_append]; exact hO6
            have hL := hL.frm f6 (fun y hy h => (hub y h).2 hy)
            have hub6 : ∀ y ∈ ob A6, w.heap.size ≤ y ∧ y ∉ ob B := fun y hy => by
              rcases hob6 with h | h
              · rw [h] at hy; exact hub y hy
              · rw [h] at hy
                simp only [List.mem_singleton] at hy
                subst hy
                exact ⟨by omega, fun h => by have := lL _ h; omega⟩
            refine Ops.r (Run.asg rfl) rfl ?_
            refine Ops.nil ?_
            refine thenQ_n ⟨(true, out ++ [⟨nm, a, a + (x :: r).length, a + k⟩], A6, c6), (.cons (by rw [List.length_append]; rfl) (.cons rfl (.cons rfl (.cons (by rw [decide_eq_true hk0]; rfl) (.cons rfl .nil))))), ?_⟩
            exact ⟨hfl, by rw [hts, ← hat], fun _ => ⟨out, _, rfl, rfl⟩, by simp; omega, hO6, hL, K, hub6⟩
          · skip
            have hbq := (hbi.resolve_left (fun h => by omega)).2
            rw [fld_no hne hnb hbq] at hfl
            refine VC.skip ?_
            refine thenQ_n ⟨(false, out, A, c), (.cons rfl (.cons rfl (.cons rfl (.cons (by rw [decide_eq_false hc4]; rfl) (.cons rfl .nil))))), ?_⟩
            exact ⟨hfl, by rw [hts, ← hat], by simp, by dsimp only; omega, hO, hL, K, hub⟩
      · skip
        rintro ⟨op2, out2, A2, c2⟩ wr2 ⟨hfl2, hat2, hop2, hol2, hO2, hL2, K2, hub2⟩ Γ hΓ
        dsimp only at hfl2 hat2 hop2 hol2 hO2 hub2
        have hcell2 : wr2.cell? (adL.add (i * 1)) = some (encStr (x :: r)) := by
          obtain ⟨ad2, he2, hc2_⟩ := SB_at1 hL2.rd hil
          cases hLe.symm.trans he2
          rw [hle] at hc2_
          exact hc2_
        refine thenQ_n (VC.sub _ hΓ ?_)
        refine VC.region ?_
        refine Ops.r (Run.mv rfl) rfl ?_
        refine Ops.r (Run.mv rfl) rfl ?_
        refine Ops.r (Run.mv rfl) rfl ?_
        refine Ops.r (Run.indexS i (by rw [← hLe]; rfl) rfl Tryz.underlying36 Tryz.sizeOf9 hil) rfl ?_
        refine Ops.r (Run.load rfl Tryz.isAgg9 hcell2) rfl ?_
        refine Ops.r (Run.lenT rfl Tryz.underlying9) rfl ?_
        refine Ops.r (Run.bin rfl rfl (Bin.add_i64 a (x :: r).length (by omega))) rfl ?_
        refine Ops.r (Run.asg rfl) rfl ?_
        refine Ops.nil ?_
        refine blockQ_n (thenQ_n ?_)
        refine VC.sub [(3, _), (4, _), (5, _), (6, _), (7, _)] (.cons rfl (.cons rfl (.cons rfl (.cons rfl (.cons rfl .nil))))) ?_
        refine VC.region ?_
        refine Ops.r (Run.mv rfl) rfl ?_
        refine Ops.r (Run.bin rfl rfl (Bin.add_i64 _ 1 (by omega))) rfl ?_
        refine Ops.r (Run.asg rfl) rfl ?_
        refine Ops.nil ?_
        refine thenQ_n ⟨(i + 1, a + (x :: r).length, op2, out2, A2, c2), (.cons rfl (.cons rfl (.cons rfl (.cons rfl (.cons rfl .nil))))), ?_, ?_⟩
        · skip
          exact ⟨hil, hfl2, hat2, hop2, hol2, hO2, hL2, K2, hub2⟩
        · skip
          first | omega | (dsimp only; omega)
    · skip
      have hfin : fldL 0 false [] L = out := by
        rw [← hfl]
        by_cases hil : i < L.length
        · have hem : EmptyL L[i] := Classical.not_not.1 (fun h => hc1 ⟨hil, by rw [List.getElem?_eq_getElem hil]; exact h⟩)
          rw [List.drop_eq_getElem_cons hil, fld_empty hem]
        · rw [List.drop_of_length_le (by omega)]
          rfl
      rw [hfin]
      refine VC.exit ?_
      refine thenQ_x (thenQ_x (blockQ_x ?_))
      refine thenQ_n ?_
      refine VC.sub [(3, _)] (.cons rfl .nil) ?_
      refine VC.seq ?_
      refine VC.region ?_
      refine Ops.r (Run.mv rfl) rfl ?_
      refine Ops.r (Run.asg rfl) rfl ?_
      refine Ops.nil ?_
      refine thenQ_n ?_
      refine VC.sub [(2, _)] (.cons rfl .nil) ?_
      refine VC.ret ?_
      refine end1 rfl ?_
      exact ⟨K, A, c, rfl, hO, fun y hy => (hub y hy).1⟩

theorem leftB_on {q : Tx} {x : UInt8} (h : Bl x) : leftB (x :: q) = leftB q := by rw [leftB, if_pos h]
theorem leftB_off {q : Tx} {x : UInt8} (h : ¬ Bl x) : leftB (x :: q) = x :: q := by rw [leftB, if_neg h]
theorem rightB_on {q : Tx} {x : UInt8} (h : Bl x) : rightB (q ++ [x]) = rightB q := by
  unfold rightB
  rw [List.reverse_append]
  show (leftB (x :: q.reverse)).reverse = _
  rw [leftB_on h]
theorem rightB_off {q : Tx} {x : UInt8} (h : ¬ Bl x) : rightB (q ++ [x]) = q ++ [x] := by
  unfold rightB
  rw [List.reverse_append]
  show (leftB (x :: q.reverse)).reverse = _
  rw [leftB_off h]
  simp
theorem last_at {q : Tx} (h : 0 < q.length) : ∃ t x, q = t ++ [x] ∧ q[q.length - 1]? = some x ∧ t = q.take (q.length - 1) := by
  rcases List.eq_nil_or_concat q with rfl | ⟨t, x, rfl⟩
  · simp at h
  · exact ⟨t, x, by rw [List.concat_eq_append], by simp, by simp⟩

set_option maxRecDepth 100000 in
theorem rtrim17_spec (q : Tx) (w : World) (hq : q.length ≤ 1000000) : Calls Tryz.prog 137 #[encStr q] w fun e w' => e = .returned (encStr (trimQ q)) ∧ w = w' := by
  refine VC.calls (nt := 30) (res := #[.tmp 2]) Tryz.func137 rfl Tryz.ntmps137 Tryz.results137 rfl ?_
  refine VC.seq ?_
  refine VC.region ?_
  refine Ops.r (Run.asg rfl) rfl ?_
  refine Ops.nil ?_
  refine thenQ_n ?_
  refine VC.sub [(0, _)] (.cons rfl .nil) ?_
  refine VC.seq ?_
  refine VC.block ?_
  refine VC.loop (σ := Tx) (fun s => [(0, encStr s)]) (fun s wr => w = wr ∧ s.length ≤ q.length ∧ leftB s = leftB q) (fun s => s.length) q (.cons rfl .nil) ⟨rfl, Nat.le_refl _, rfl⟩ ?_
  rintro t _ ⟨rfl, htl, ht⟩
  refine VC.seq ?_
  refine VC.seq ?_
  refine VC.split1 [(0, _)] (.cons rfl .nil) 10 (.bool (decide ((0 < t.length) ∧ (Bl (hdA t 0))))) ?_ ?_
  · by_cases hs0 : 0 < t.length
    · skip
      refine VC.region ?_
      refine Ops.r (Run.mv rfl) rfl ?_
      refine Ops.r (Run.lenT rfl Tryz.underlying9) rfl ?_
      refine Ops.r (Run.bin rfl rfl (Bin.gtrN _ 0)) rfl ?_
      refine Ops.r (Run.mv rfl) rfl ?_
      refine Ops.rg rfl au (Run.mv rfl) rfl ?_
      refine Ops.rg rfl au (Run.indexT 0 rfl rfl Tryz.underlying9 (hdA_at hs0)) rfl ?_
      refine Ops.clg rfl au (Enters.fn (evs.cons rfl evs.nil) Tryz.call134) ((rblank_spec (hdA t 0) _)) rfl ?_
      rintro e _ ⟨rfl, rfl⟩
      refine ⟨_, rfl, ?_⟩
      refine Ops.r (Run.pickT rfl rfl au) rfl ?_
      refine Ops.nil ?_
      refine thenQ_n ⟨(.cons (by rw [dand1 hs0]; rfl) (.cons rfl .nil)), rfl⟩
    · skip
      refine VC.region ?_
      refine Ops.r (Run.mv rfl) rfl ?_
      refine Ops.r (Run.lenT rfl Tryz.underlying9) rfl ?_
      refine Ops.r (Run.bin rfl rfl (Bin.gtrN _ 0)) rfl ?_
      refine Ops.r (Run.mv rfl) rfl ?_
      refine Ops.sk rfl au rfl ?_
      refine Ops.sk rfl au rfl ?_
      refine Ops.sk rfl au rfl ?_
      refine Ops.r (Run.pickF rfl rfl au) rfl ?_
      refine Ops.nil ?_
      refine thenQ_n ⟨(.cons (by rw [dand0 hs0]; rfl) (.cons rfl .nil)), rfl⟩
  · intro Γ hΓ
    refine thenQ_n (VC.sub _ hΓ ?_)
    refine VC.condD rfl (fun hc1 => ?_) (fun hc1 => ?_)
    · skip
      have hd0 := hdA_drop hc1.1
      rw [List.drop_zero] at hd0
      rw [hd0, leftB_on hc1.2] at ht
      refine VC.skip ?_
      refine thenQ_n ?_
      refine VC.sub [(0, _)] (.cons rfl .nil) ?_
      refine VC.block ?_
      refine VC.region ?_
      refine Ops.r (Run.mv rfl) rfl ?_
      refine Ops.r (Run.sliceT 1 t.length rfl Tryz.underlying9 (evB.some_ rfl) evB.none_ (by omega) (by omega)) rfl ?_
      rw [show (t.drop 1).take (t.length - 1) = t.drop 1 from List.take_of_length_le (by simp)]
      refine Ops.r (Run.asg rfl) rfl ?_
      refine Ops.nil ?_
      refine blockQ_n (thenQ_n ⟨(t.drop 1), (.cons rfl .nil), ?_, ?_⟩)
      · skip
        exact ⟨rfl, by simp; omega, ht⟩
      · skip
        have := hc1.1; simp; omega
    · skip
      have hlt : leftB t = t := by
        cases t with
        | nil => rfl
        | cons x r => exact leftB_off (fun h => hc1 ⟨by simp, h⟩)
      rw [hlt] at ht
      have htq : rightB t = trimQ q := by rw [ht]; exact trim_comm q
      refine VC.exit ?_
      refine thenQ_x (thenQ_x (blockQ_x ?_))
      refine thenQ_n ?_
      refine VC.sub [(0, _)] (.cons rfl .nil) ?_
      refine VC.seq ?_
      refine VC.block ?_
      refine VC.loop (σ := Tx) (fun s => [(0, encStr s)]) (fun s wr => w = wr ∧ s.length ≤ q.length ∧ rightB s = trimQ q) (fun s => s.length) t (.cons rfl .nil) ⟨rfl, htl, htq⟩ ?_
      rintro u _ ⟨rfl, hul, hu⟩
      refine VC.seq ?_
      refine VC.seq ?_
      refine VC.split1 [(0, _)] (.cons rfl .nil) 23 (.bool (decide ((0 < u.length) ∧ (Bl (hdA u (u.length - 1)))))) ?_ ?_
      · by_cases hs0 : 0 < u.length
        · skip
          refine VC.region ?_
          refine Ops.r (Run.mv rfl) rfl ?_
          refine Ops.r (Run.lenT rfl Tryz.underlying9) rfl ?_
          refine Ops.r (Run.bin rfl rfl (Bin.gtrN _ 0)) rfl ?_
          refine Ops.r (Run.mv rfl) rfl ?_
          refine Ops.rg rfl au (Run.mv rfl) rfl ?_
          refine Ops.rg rfl au (Run.mv rfl) rfl ?_
          refine Ops.rg rfl au (Run.lenT rfl Tryz.underlying9) rfl ?_
          refine Ops.rg rfl au (Run.bin rfl rfl (Bin.sub_i64 _ 1 (by omega) (by omega))) rfl ?_
          refine Ops.rg rfl au (Run.indexT _ rfl rfl Tryz.underlying9 (hdA_at (show u.length - 1 < u.length by omega))) rfl ?_
          refine Ops.clg rfl au (Enters.fn (evs.cons rfl evs.nil) Tryz.call134) ((rblank_spec (hdA u (u.length - 1)) _)) rfl ?_
          rintro e _ ⟨rfl, rfl⟩
          refine ⟨_, rfl, ?_⟩
          refine Ops.r (Run.pickT rfl rfl au) rfl ?_
          refine Ops.nil ?_
          refine thenQ_n ⟨(.cons (by rw [dand1 hs0]; rfl) (.cons rfl .nil)), rfl⟩
        · skip
          refine VC.region ?_
          refine Ops.r (Run.mv rfl) rfl ?_
          refine Ops.r (Run.lenT rfl Tryz.underlying9) rfl ?_
          refine Ops.r (Run.bin rfl rfl (Bin.gtrN _ 0)) rfl ?_
          refine Ops.r (Run.mv rfl) rfl ?_
          refine Ops.sk rfl au rfl ?_
          refine Ops.sk rfl au rfl ?_
          refine Ops.sk rfl au rfl ?_
          refine Ops.sk rfl au rfl ?_
          refine Ops.sk rfl au rfl ?_
          refine Ops.sk rfl au rfl ?_
          refine Ops.r (Run.pickF rfl rfl au) rfl ?_
          refine Ops.nil ?_
          refine thenQ_n ⟨(.cons (by rw [dand0 hs0]; rfl) (.cons rfl .nil)), rfl⟩
      · intro Γ hΓ
        refine thenQ_n (VC.sub _ hΓ ?_)
        refine VC.condD rfl (fun hc2 => ?_) (fun hc2 => ?_)
        · skip
          obtain ⟨v, x, hv, hx, hvt⟩ := last_at hc2.1
          have hbx : Bl x := by
            have := hdA_at (show u.length - 1 < u.length by omega)
            rw [hx] at this
            rw [Option.some.inj this]
            exact hc2.2
          have hvl : v.length + 1 = u.length := by rw [hv]; simp
          have hrv : rightB v = trimQ q := by rw [← hu, hv, rightB_on hbx]
          refine VC.skip ?_
          refine thenQ_n ?_
          refine VC.sub [(0, _)] (.cons rfl .nil) ?_
          refine VC.block ?_
          refine VC.region ?_
          refine Ops.r (Run.mv rfl) rfl ?_
          refine Ops.r (Run.mv rfl) rfl ?_
          refine Ops.r (Run.lenT rfl Tryz.underlying9) rfl ?_
          refine Ops.r (Run.bin rfl rfl (Bin.sub_i64 _ 1 (by omega) (by omega))) rfl ?_
          refine Ops.r (Run.sliceT 0 (u.length - 1) rfl Tryz.underlying9 evB.none_ (evB.some_ rfl) (by omega) (by omega)) rfl ?_
          rw [show (u.drop 0).take (u.length - 1 - 0) = v by rw [hvt]; rfl]
          refine Ops.r (Run.asg rfl) rfl ?_
          refine Ops.nil ?_
          refine blockQ_n (thenQ_n ⟨v, (.cons rfl .nil), ?_, ?_⟩)
          · skip
            exact ⟨rfl, by omega, hrv⟩
          · skip
            omega
        · skip
          have hru : rightB u = u := by
            by_cases h0 : 0 < u.length
            · obtain ⟨v, x, hv, hx, hvt⟩ := last_at h0
              have hnx : ¬ Bl x := fun h => hc2 ⟨h0, by
                have := hdA_at (show u.length - 1 < u.length by omega)
                rw [hx] at this
                rw [← Option.some.inj this]
                exact h⟩
              rw [hv]
              exact rightB_off hnx
            · rw [List.length_eq_zero_iff.1 (show u.length = 0 by omega)]
              rfl
          rw [hru] at hu
          refine VC.exit ?_
          refine thenQ_x (thenQ_x (blockQ_x ?_))
          refine thenQ_n ?_
          refine VC.sub [(0, _)] (.cons rfl .nil) ?_
          refine VC.seq ?_
          refine VC.region ?_
          refine Ops.r (Run.mv rfl) rfl ?_
          refine Ops.r (Run.asg rfl) rfl ?_
          refine Ops.nil ?_
          refine thenQ_n ?_
          refine VC.sub [(2, _)] (.cons rfl .nil) ?_
          refine VC.ret ?_
          refine end1 rfl ?_
          exact ⟨by rw [hu], rfl⟩

theorem bareL_nl (t : Tx) : bareL (t ++ [10]) = if t.getLast? = some 13 then t.dropLast else t := by
  unfold bareL
  rw [if_pos (by simp)]
  simp
theorem bareL_no {t : Tx} {x : UInt8} (h : x ≠ 10) : bareL (t ++ [x]) = t ++ [x] := by
  unfold bareL
  rw [if_neg (by simp; exact h)]

set_option maxRecDepth 100000 in
set_option maxHeartbeats 800000 in
theorem rtext_spec (q : Tx) (f : Fld) (w : World) (hq : q.length ≤ 500000) (hfo : FldOk q.length f) : Calls Tryz.prog 97 #[encStr q, .agg (FC1 f).toArray] w fun e w' => e = .returned (encStr (textQ q f)) ∧ Frm [] w w' := by
  obtain ⟨hf1, hf2, hf3, hf4⟩ := hfo
  have K := Frm.refl [] w
  refine VC.calls (nt := 56) (res := #[.tmp 4]) Tryz.func97 rfl Tryz.ntmps97 Tryz.results97 rfl ?_
  refine VC.seq ?_
  refine VC.region ?_
  refine Ops.m (Does.box rfl) rfl ?_
  rintro _ w1 ⟨rfl, hF1⟩
  have hb3 : Blk w1 w.heap.size 45 (FC1 f).toArray := hF1.blk
  have K := K.trans hF1.frm (by simp)
  obtain ⟨g3, hg3⟩ : ∃ g, w.heap.size = g := ⟨_, rfl⟩
  rw [hg3] at hb3 ⊢
  refine Ops.r (Run.asg rfl) rfl ?_
  refine Ops.nil ?_
  refine thenQ_n ?_
  refine VC.sub [(0, _), (3, _)] (.cons rfl (.cons rfl .nil)) ?_
  refine VC.seq ?_
  refine VC.region ?_
  refine Ops.r (Run.asg rfl) rfl ?_
  refine Ops.nil ?_
  refine thenQ_n ?_
  refine VC.seq ?_
  refine VC.region ?_
  refine Ops.r (Run.mv rfl) rfl ?_
  refine Ops.r (Run.fieldAddr rfl Tryz.underlying45 rfl Tryz.sizeOf3 (by decide)) rfl ?_
  refine Ops.r (Run.load rfl Tryz.isAgg3 (hb3.cell 3)) rfl ?_
  refine Ops.r (Run.fieldAddr rfl Tryz.underlying45 rfl Tryz.sizeOf3 (by decide)) rfl ?_
  refine Ops.r (Run.load rfl Tryz.isAgg3 (hb3.cell 2)) rfl ?_
  refine Ops.r (Run.sliceT f.at_ f.tu rfl Tryz.underlying9 (evB.some_ rfl) (evB.some_ rfl) (by omega) (by omega)) rfl ?_
  have htx : textQ q f = trimQ ((linesF ((q.drop f.at_).take (f.tu - f.at_))).map bareL).flatten := rfl
  have hpl : ((q.drop f.at_).take (f.tu - f.at_)).length ≤ q.length := by simp; omega
  rw [htx]
  generalize (q.drop f.at_).take (f.tu - f.at_) = p at *
  refine Ops.cl (Enters.fn (evs.cons rfl evs.nil) Tryz.call132) ((rcut_spec p _ (by omega))) rfl ?_
  rintro e w2 ⟨f2, B, bc, rfl, hL, hubL⟩
  refine ⟨_, rfl, ?_⟩
  have K := K.trans f2 (by simp)
  have hnl : ∀ l ∈ linesF p, l ≠ [] := fun l hl => linesF_ne hl
  have hfl := linesF_flat p
  have hbl := flat_map_len bareL_le (linesF p)
  rw [hfl] at hbl
  have hpf : ∀ k, ((linesF p).take k).flatten.length ≤ p.length := fun k => by
    conv => rhs; rw [← hfl, ← List.take_append_drop k (linesF p), List.flatten_append, List.length_append]
    omega
  have hlc := linesF_count p
  generalize linesF p = L at *
  refine Ops.r (Run.asg rfl) rfl ?_
  refine Ops.nil ?_
  refine thenQ_n ?_
  refine VC.sub [(5, _), (6, _)] (.cons rfl (.cons rfl .nil)) ?_
  refine VC.seq ?_
  refine VC.seq ?_
  refine VC.region ?_
  refine Ops.r (v := .int .i64 ((0 : Nat) : Int)) (Run.asg rfl) rfl ?_
  refine Ops.nil ?_
  refine thenQ_n ?_
  refine VC.block ?_
  refine VC.loop (σ := Nat) (fun s => [(5, encStr (((L.take s).map bareL).flatten)), (6, .slice B L.length bc), (7, .int .i64 ((s : Nat) : Int))]) (fun s wr => s ≤ L.length ∧ Drawn w2 wr) (fun s => L.length - s) 0 (.cons rfl (.cons rfl (.cons rfl .nil))) ⟨Nat.zero_le _, Drawn.refl _⟩ ?_
  rintro k wr ⟨hk, hd⟩
  refine VC.seq ?_
  refine VC.seq ?_
  refine VC.region ?_
  refine Ops.r (Run.mv rfl) rfl ?_
  refine Ops.r (Run.mv rfl) rfl ?_
  refine Ops.r (Run.lenS rfl Tryz.underlying36) rfl ?_
  refine Ops.r (Run.bin rfl rfl (Bin.lssN _ _)) rfl ?_
  refine Ops.nil ?_
  refine thenQ_n ?_
  refine VC.sub [(5, _), (6, _), (7, _), (20, _)] (.cons rfl (.cons rfl (.cons rfl (.cons rfl .nil)))) ?_
  refine VC.condD rfl (fun hc1 => ?_) (fun hc1 => ?_)
  · skip
    obtain ⟨adL, hLe, hcell⟩ := SB_at1 (hL.rd.drawn hd) hc1
    have hl0 := hnl _ (List.getElem_mem hc1)
    have hts : ((L.take (k + 1)).map bareL).flatten = ((L.take k).map bareL).flatten ++ bareL L[k] := by rw [take_snoc hc1, List.map_append, List.flatten_append]; simp
    have hb1 := flat_map_len bareL_le (L.take (k + 1))
    have hb2 := hpf (k + 1)
    rw [hts, List.length_append] at hb1
    have hb3l : L[k].length ≤ p.length := by
      have := hpf (k + 1)
      rw [take_snoc hc1, List.flatten_append, List.length_append] at this
      simp at this
      omega
    generalize L[k] = l at *
    obtain ⟨t, x, hlx, hlast, htt⟩ := last_at (List.length_pos_iff.2 hl0)
    have hll : l.length = t.length + 1 := by rw [hlx]; simp
    have e10 : x.toNat = 10 ↔ x = 10 := u8n rfl
    refine VC.skip ?_
    refine thenQ_n ?_
    refine VC.sub [(5, _), (6, _), (7, _)] (.cons rfl (.cons rfl (.cons rfl .nil))) ?_
    refine VC.seq ?_
    refine VC.block ?_
    refine VC.seq ?_
    refine VC.region ?_
    refine Ops.r (Run.mv rfl) rfl ?_
    refine Ops.r (Run.mv rfl) rfl ?_
    refine Ops.r (Run.indexS k (by rw [← hLe]; rfl) rfl Tryz.underlying36 Tryz.sizeOf9 hc1) rfl ?_
    refine Ops.r (Run.load rfl Tryz.isAgg9 hcell) rfl ?_
    refine Ops.r (Run.asg rfl) rfl ?_
    refine Ops.nil ?_
    refine thenQ_n ?_
    refine VC.sub [(5, _), (6, _), (7, _), (8, _)] (.cons rfl (.cons rfl (.cons rfl (.cons rfl .nil)))) ?_
    refine VC.seq ?_
    refine VC.region ?_
    refine Ops.r (Run.mv rfl) rfl ?_
    refine Ops.r (Run.lenT rfl Tryz.underlying9) rfl ?_
    refine Ops.r (Run.asg rfl) rfl ?_
    refine Ops.nil ?_
    refine thenQ_n ?_
    refine VC.sub [(5, _), (6, _), (7, _), (8, _), (9, _)] (.cons rfl (.cons rfl (.cons rfl (.cons rfl (.cons rfl .nil))))) ?_
    refine VC.seq ?_
    refine VC.seq ?_
    refine VC.region ?_
    refine Ops.r (Run.mv rfl) rfl ?_
    refine Ops.r (Run.mv rfl) rfl ?_
    refine Ops.r (Run.bin rfl rfl (Bin.sub_i64 _ 1 (by omega) (by omega))) rfl ?_
    refine Ops.r (Run.indexT _ rfl rfl Tryz.underlying9 hlast) rfl ?_
    refine Ops.r (Run.bin rfl rfl (Bin.eqlN _ 10)) rfl ?_
    refine Ops.nil ?_
    refine thenQ_n ?_
    refine VC.sub [(5, _), (6, _), (7, _), (8, _), (9, _), (33, _)] (.cons rfl (.cons rfl (.cons rfl (.cons rfl (.cons rfl (.cons rfl .nil)))))) ?_
    refine VC.meet (σ := Unit) (fun s => [(5, encStr (((L.take k).map bareL).flatten)), (6, .slice B L.length bc), (7, .int .i64 ((k : Nat) : Int)), (8, encStr (bareL l))]) (fun s wr => Drawn w2 wr) ?_ ?_
    · skip
      refine VC.condD rfl (fun hc2 => ?_) (fun hc2 => ?_)
      · skip
        have hbe := bareL_nl t
        rw [← e10.1 hc2, ← hlx] at hbe
        refine VC.seq ?_
        refine VC.region ?_
        refine Ops.r (Run.mv rfl) rfl ?_
        refine Ops.r (Run.mv rfl) rfl ?_
        refine Ops.r (Run.bin rfl rfl (Bin.sub_i64 _ 1 (by omega) (by omega))) rfl ?_
        refine Ops.r (Run.sliceT 0 (l.length - 1) rfl Tryz.underlying9 evB.none_ (evB.some_ rfl) (by omega) (by omega)) rfl ?_
        rw [show (l.drop 0).take (l.length - 1 - 0) = t by rw [htt]; rfl]
        refine Ops.r (Run.asg rfl) rfl ?_
        refine Ops.nil ?_
        refine thenQ_n ?_
        refine VC.sub [(5, _), (6, _), (7, _), (8, _), (9, _)] (.cons rfl (.cons rfl (.cons rfl (.cons rfl (.cons rfl .nil))))) ?_
        refine VC.seq ?_
        refine VC.split1 [(5, _), (6, _), (7, _), (8, _), (9, _)] (.cons rfl (.cons rfl (.cons rfl (.cons rfl (.cons rfl .nil))))) 46 (.bool (decide ((1 < l.length) ∧ ((hdA t (l.length - 2)).toNat = 13)))) ?_ ?_
        · by_cases hs0 : 1 < l.length
          · skip
            refine VC.region ?_
            refine Ops.r (Run.mv rfl) rfl ?_
            refine Ops.r (Run.bin rfl rfl (Bin.gtrN _ 1)) rfl ?_
            refine Ops.r (Run.mv rfl) rfl ?_
            refine Ops.rg rfl au (Run.mv rfl) rfl ?_
            refine Ops.rg rfl au (Run.mv rfl) rfl ?_
            refine Ops.rg rfl au (Run.bin rfl rfl (Bin.sub_i64 _ 2 (by omega) (by omega))) rfl ?_
            refine Ops.rg rfl au (Run.indexT _ rfl rfl Tryz.underlying9 (hdA_at (show l.length - 2 < t.length by omega))) rfl ?_
            refine Ops.rg rfl au (Run.bin rfl rfl (Bin.eqlN _ 13)) rfl ?_
            refine Ops.r (Run.pickT rfl rfl au) rfl ?_
            refine Ops.nil ?_
            refine thenQ_n ⟨(.cons (by rw [dand1 hs0]; rfl) (.cons rfl (.cons rfl (.cons rfl (.cons rfl (.cons rfl .nil)))))), rfl⟩
          · skip
            refine VC.region ?_
            refine Ops.r (Run.mv rfl) rfl ?_
            refine Ops.r (Run.bin rfl rfl (Bin.gtrN _ 1)) rfl ?_
            refine Ops.r (Run.mv rfl) rfl ?_
            refine Ops.sk rfl au rfl ?_
            refine Ops.sk rfl au rfl ?_
            refine Ops.sk rfl au rfl ?_
            refine Ops.sk rfl au rfl ?_
            refine Ops.sk rfl au rfl ?_
            refine Ops.r (Run.pickF rfl rfl au) rfl ?_
            refine Ops.nil ?_
            refine thenQ_n ⟨(.cons (by rw [dand0 hs0]; rfl) (.cons rfl (.cons rfl (.cons rfl (.cons rfl (.cons rfl .nil)))))), rfl⟩
        · intro Γ hΓ
          refine thenQ_n (VC.sub _ hΓ ?_)
          refine VC.condD rfl (fun hc3 => ?_) (fun hc3 => ?_)
          · skip
            obtain ⟨h1l, h13⟩ := hc3
            have hg13 : t.getLast? = some 13 := by
              rw [List.getLast?_eq_getElem?, show t.length - 1 = l.length - 2 by omega, hdA_at (show l.length - 2 < t.length by omega), (u8n (x := 13) rfl).1 h13]
            rw [if_pos hg13] at hbe
            refine VC.region ?_
            refine Ops.r (Run.mv rfl) rfl ?_
            refine Ops.r (Run.mv rfl) rfl ?_
            refine Ops.r (Run.bin rfl rfl (Bin.sub_i64 _ 2 (by omega) (by omega))) rfl ?_
            refine Ops.r (Run.sliceT 0 (l.length - 2) rfl Tryz.underlying9 evB.none_ (evB.some_ rfl) (by omega) (by omega)) rfl ?_
            rw [show (t.drop 0).take (l.length - 2 - 0) = t.dropLast by rw [List.dropLast_eq_take, List.drop_zero]; congr 1; omega]
            refine Ops.r (Run.asg rfl) rfl ?_
            refine Ops.nil ?_
            refine thenQ_n ⟨(), (.cons rfl (.cons rfl (.cons rfl (.cons (by rw [hbe]; rfl) .nil)))), ?_⟩
            exact hd
          · skip
            have hg13 : ¬ t.getLast? = some 13 := fun hg => by
              rw [List.getLast?_eq_getElem?] at hg
              have h1 := (List.getElem?_eq_some_iff.1 hg).1
              refine hc3 ⟨by omega, ?_⟩
              rw [show t.length - 1 = l.length - 2 by omega, hdA_at (show l.length - 2 < t.length by omega)] at hg
              rw [Option.some.inj hg]
              rfl
            rw [if_neg hg13] at hbe
            refine VC.skip ?_
            refine thenQ_n ⟨(), (.cons rfl (.cons rfl (.cons rfl (.cons (by rw [hbe]; rfl) .nil)))), ?_⟩
            exact hd
      · skip
        have hbe := bareL_no (t := t) (x := x) (fun h => hc2 (e10.2 h))
        rw [← hlx] at hbe
        refine VC.skip ?_
        refine thenQ_n ⟨(), (.cons rfl (.cons rfl (.cons rfl (.cons (by rw [hbe]; rfl) .nil)))), ?_⟩
        exact hd
    · skip
      rintro _ wr2 hd2 Γ hΓ
      refine thenQ_n (VC.sub _ hΓ ?_)
      refine VC.region ?_
      refine Ops.r (Run.mv rfl) rfl ?_
      refine Ops.r (Run.mv rfl) rfl ?_
      refine Ops.r (Run.addT rfl rfl (by omega)) rfl ?_
      refine Ops.r (Run.asg rfl) rfl ?_
      refine Ops.nil ?_
      refine blockQ_n (thenQ_n ?_)
      refine VC.sub [(5, _), (6, _), (7, _)] (.cons rfl (.cons rfl (.cons rfl .nil))) ?_
      refine VC.region ?_
      refine Ops.r (Run.mv rfl) rfl ?_
      refine Ops.r (Run.bin rfl rfl (Bin.add_i64 _ 1 (by omega))) rfl ?_
      refine Ops.r (Run.asg rfl) rfl ?_
      refine Ops.nil ?_
      refine thenQ_n ⟨(k + 1), (.cons (by rw [hts]; rfl) (.cons rfl (.cons rfl .nil))), ?_, ?_⟩
      · skip
        exact ⟨hc1, hd2⟩
      · skip
        first | omega | (dsimp only; omega)
  · skip
    have hkl : k = L.length := by omega
    subst hkl
    rw [List.take_length]
    refine VC.exit ?_
    refine thenQ_x (thenQ_x (blockQ_x ?_))
    refine thenQ_n ?_
    refine VC.sub [(5, _)] (.cons rfl .nil) ?_
    refine VC.seq ?_
    refine VC.region ?_
    refine Ops.r (Run.mv rfl) rfl ?_
    refine Ops.cl (Enters.fn (evs.cons rfl evs.nil) Tryz.call137) ((rtrim17_spec (L.map bareL).flatten _ (by omega))) rfl ?_
    rintro e _ ⟨rfl, rfl⟩
    refine ⟨_, rfl, ?_⟩
    refine Ops.r (Run.asg rfl) rfl ?_
    refine Ops.nil ?_
    refine thenQ_n ?_
    refine VC.sub [(4, _)] (.cons rfl .nil) ?_
    refine VC.ret ?_
    refine end1 rfl ?_
    exact ⟨rfl, K.drawn hd⟩

end Go.Proofs.YtenbjndldenkfaaGreatDoor

namespace Go.Proofs.YtenbjndldenkfaaGreatDoor
open Go.RowKit Go.Sort

theorem flat_mem_len : ∀ {ls : List Tx} {l : Tx}, l ∈ ls → l.length ≤ ls.flatten.length
  | x :: r, l, h => by
    rw [List.flatten_cons, List.length_append]
    rcases List.mem_cons.1 h with rfl | h
    · omega
    · have := flat_mem_len h
      omega
theorem fieldsQ_nms (q : Tx) : ∀ f ∈ fieldsQ q, f.name.length ≤ q.length := by
  refine fldL_name _ 0 false [] _ (fun l hl => ?_) (by simp)
  have := flat_mem_len hl
  rw [linesF_flat, List.length_take] at this
  omega

set_option maxRecDepth 100000 in
theorem rsmall16_spec (c : UInt8) (w : World) : Calls Tryz.prog 136 #[.int .u8 ((c.toNat : Nat) : Int)] w fun e w' => e = .returned (.int .u8 (((low c).toNat : Nat) : Int)) ∧ w = w' := by
  refine VC.calls (nt := 12) (res := #[.tmp 2]) Tryz.func136 rfl Tryz.ntmps136 Tryz.results136 rfl ?_
  refine VC.seq ?_
  refine VC.region ?_
  refine Ops.r (v := .int .u8 ((0 : Nat) : Int)) (Run.asg rfl) rfl ?_
  refine Ops.nil ?_
  refine thenQ_n ?_
  refine VC.sub [(0, _)] (.cons rfl .nil) ?_
  refine VC.seq ?_
  refine VC.seq ?_
  refine VC.split1 [(0, _)] (.cons rfl .nil) 8 (.bool (decide ((65 ≤ c.toNat) ∧ (c.toNat ≤ 90)))) ?_ ?_
  · by_cases hs0 : 65 ≤ c.toNat
    · skip
      refine VC.region ?_
      refine Ops.r (Run.mv rfl) rfl ?_
      refine Ops.r (Run.bin rfl rfl (Bin.leqN 65 _)) rfl ?_
      refine Ops.r (Run.mv rfl) rfl ?_
      refine Ops.rg rfl au (Run.mv rfl) rfl ?_
      refine Ops.rg rfl au (Run.bin rfl rfl (Bin.leqN _ 90)) rfl ?_
      refine Ops.r (Run.pickT rfl rfl au) rfl ?_
      refine Ops.nil ?_
      refine thenQ_n ⟨(.cons (by rw [dand1 hs0]; rfl) (.cons rfl .nil)), rfl⟩
    · skip
      refine VC.region ?_
      refine Ops.r (Run.mv rfl) rfl ?_
      refine Ops.r (Run.bin rfl rfl (Bin.leqN 65 _)) rfl ?_
      refine Ops.r (Run.mv rfl) rfl ?_
      refine Ops.sk rfl au rfl ?_
      refine Ops.sk rfl au rfl ?_
      refine Ops.r (Run.pickF rfl rfl au) rfl ?_
      refine Ops.nil ?_
      refine thenQ_n ⟨(.cons (by rw [dand0 hs0]; rfl) (.cons rfl .nil)), rfl⟩
  · intro Γ hΓ
    refine thenQ_n (VC.sub _ hΓ ?_)
    refine VC.condD rfl (fun hc1 => ?_) (fun hc1 => ?_)
    · skip
      refine VC.seq ?_
      refine VC.region ?_
      refine Ops.r (Run.mv rfl) rfl ?_
      refine Ops.r (Run.bin rfl rfl (Bin.add_u8 _ 32 (by omega))) rfl ?_
      refine Ops.r (Run.asg rfl) rfl ?_
      refine Ops.nil ?_
      refine thenQ_n ?_
      refine VC.sub [(2, _)] (.cons rfl .nil) ?_
      refine VC.ret ?_
      refine thenQ_r (end1 rfl ?_)
      exact ⟨by rw [low_nat, if_pos hc1], rfl⟩
    · skip
      refine VC.skip ?_
      refine thenQ_n ?_
      refine VC.sub [(0, _)] (.cons rfl .nil) ?_
      refine VC.seq ?_
      refine VC.region ?_
      refine Ops.r (Run.mv rfl) rfl ?_
      refine Ops.r (Run.asg rfl) rfl ?_
      refine Ops.nil ?_
      refine thenQ_n ?_
      refine VC.sub [(2, _)] (.cons rfl .nil) ?_
      refine VC.ret ?_
      refine end1 rfl ?_
      exact ⟨by rw [low_nat, if_neg hc1], rfl⟩

set_option maxRecDepth 100000 in
theorem alike_spec (a b : Tx) (w : World) (ha : a.length ≤ 1000000) (hb : b.length ≤ 1000000) : Calls Tryz.prog 96 #[encStr a, encStr b] w fun e w' => e = .returned (.bool (decide (smallS a = smallS b))) ∧ Drawn w w' := by
  refine VC.calls (nt := 26) (res := #[.tmp 4]) Tryz.func96 rfl Tryz.ntmps96 Tryz.results96 rfl ?_
  refine VC.seq ?_
  refine VC.region ?_
  refine Ops.r (Run.asg rfl) rfl ?_
  refine Ops.nil ?_
  refine thenQ_n ?_
  refine VC.sub [(0, _), (1, _)] (.cons rfl (.cons rfl .nil)) ?_
  refine VC.seq ?_
  refine VC.seq ?_
  refine VC.region ?_
  refine Ops.r (Run.mv rfl) rfl ?_
  refine Ops.r (Run.lenT rfl Tryz.underlying9) rfl ?_
  refine Ops.r (Run.mv rfl) rfl ?_
  refine Ops.r (Run.lenT rfl Tryz.underlying9) rfl ?_
  refine Ops.r (Run.bin rfl rfl (Bin.neqN _ _)) rfl ?_
  refine Ops.nil ?_
  refine thenQ_n ?_
  refine VC.sub [(0, _), (1, _), (10, _)] (.cons rfl (.cons rfl (.cons rfl .nil))) ?_
  refine VC.condD rfl (fun hc1 => ?_) (fun hc1 => ?_)
  · skip
    have hne : ¬ smallS a = smallS b := fun h => hc1 (by have := congrArg List.length h; simpa [smallS_len] using this)
    refine VC.seq ?_
    refine VC.region ?_
    refine Ops.r (Run.asg rfl) rfl ?_
    refine Ops.nil ?_
    refine thenQ_n ?_
    refine VC.sub [(4, _)] (.cons rfl .nil) ?_
    refine VC.ret ?_
    refine thenQ_r (end1 rfl ?_)
    exact ⟨by simp [hne], Drawn.refl _⟩
  · skip
    have hll : a.length = b.length := Classical.not_not.1 hc1
    refine VC.skip ?_
    refine thenQ_n ?_
    refine VC.sub [(0, _), (1, _)] (.cons rfl (.cons rfl .nil)) ?_
    refine VC.seq ?_
    refine VC.seq ?_
    refine VC.region ?_
    refine Ops.r (v := .int .i64 ((0 : Nat) : Int)) (Run.asg rfl) rfl ?_
    refine Ops.nil ?_
    refine thenQ_n ?_
    refine VC.block ?_
    refine VC.loop (σ := Nat) (fun s => [(0, encStr a), (1, encStr b), (5, .int .i64 ((s : Nat) : Int))]) (fun s wr => s ≤ a.length ∧ smallS (a.take s) = smallS (b.take s) ∧ Drawn w wr) (fun s => a.length - s) 0 (.cons rfl (.cons rfl (.cons rfl .nil))) ⟨by omega, rfl, Drawn.refl _⟩ ?_
    rintro i wr ⟨hi, htk, hd⟩
    refine VC.seq ?_
    refine VC.seq ?_
    refine VC.region ?_
    refine Ops.r (Run.mv rfl) rfl ?_
    refine Ops.r (Run.mv rfl) rfl ?_
    refine Ops.r (Run.lenT rfl Tryz.underlying9) rfl ?_
    refine Ops.r (Run.bin rfl rfl (Bin.lssN _ _)) rfl ?_
    refine Ops.nil ?_
    refine thenQ_n ?_
    refine VC.sub [(0, _), (1, _), (5, _), (14, _)] (.cons rfl (.cons rfl (.cons rfl (.cons rfl .nil)))) ?_
    refine VC.condD rfl (fun hc2 => ?_) (fun hc2 => ?_)
    · skip
      have hib : i < b.length := by omega
      have hta : a.take (i + 1) = a.take i ++ [a[i]] := take_snoc hc2
      have htb : b.take (i + 1) = b.take i ++ [b[i]] := take_snoc hib
      have hab : smallS a = smallS b → low a[i] = low b[i] := fun h => by
        have h1 : (smallS a)[i]? = (smallS b)[i]? := by rw [h]
        simpa [smallS, List.getElem?_eq_getElem, hc2, hib] using h1
      have hga : a[i]? = some a[i] := List.getElem?_eq_getElem hc2
      have hgb : b[i]? = some b[i] := List.getElem?_eq_getElem hib
      generalize a[i] = x at *
      generalize b[i] = y at *
      refine VC.skip ?_
      refine thenQ_n ?_
      refine VC.sub [(0, _), (1, _), (5, _)] (.cons rfl (.cons rfl (.cons rfl .nil))) ?_
      refine VC.seq ?_
      refine VC.block ?_
      refine VC.seq ?_
      refine VC.still (by kernel_rfl) (by kernel_rfl) ?_
      refine SOps.r (Run.mv rfl) rfl ?_
      refine SOps.r (Run.mv rfl) rfl ?_
      refine SOps.r (Run.indexT _ rfl rfl Tryz.underlying9 hga) rfl ?_
      refine SOps.call (Enters.fn (evs.cons rfl evs.nil) Tryz.call136) (rsmall16_spec x _) trivial rfl rfl ?_
      refine SOps.r (Run.mv rfl) rfl ?_
      refine SOps.r (Run.mv rfl) rfl ?_
      refine SOps.r (Run.indexT _ rfl rfl Tryz.underlying9 hgb) rfl ?_
      refine SOps.call (Enters.fn (evs.cons rfl evs.nil) Tryz.call136) (rsmall16_spec y _) trivial rfl rfl ?_
      refine SOps.r (Run.bin rfl rfl (Bin.neqN _ _)) rfl ?_
      refine SOps.nil ?_
      refine thenQ_n ?_
      refine VC.sub [(0, _), (1, _), (5, _), (25, _)] (.cons rfl (.cons rfl (.cons rfl (.cons rfl .nil)))) ?_
      refine VC.condD rfl (fun hc3 => ?_) (fun hc3 => ?_)
      · skip
        have hne : ¬ smallS a = smallS b := fun h => hc3 (by rw [hab h])
        refine VC.seq ?_
        refine VC.region ?_
        refine Ops.r (Run.asg rfl) rfl ?_
        refine Ops.nil ?_
        refine thenQ_n ?_
        refine VC.sub [(4, _)] (.cons rfl .nil) ?_
        refine VC.ret ?_
        refine blockQ_r (thenQ_r (thenQ_r (blockQ_r (thenQ_r (end1 rfl ?_)))))
        exact ⟨by simp [hne], hd.trans (Drawn.drew _)⟩
      · skip
        have hxy : low x = low y := UInt8.toNat_inj.1 (Classical.not_not.1 hc3)
        refine VC.skip ?_
        refine blockQ_n (thenQ_n ?_)
        refine VC.sub [(0, _), (1, _), (5, _)] (.cons rfl (.cons rfl (.cons rfl .nil))) ?_
        refine VC.region ?_
        refine Ops.r (Run.mv rfl) rfl ?_
        refine Ops.r (Run.bin rfl rfl (Bin.add_i64 _ 1 (by omega))) rfl ?_
        refine Ops.r (Run.asg rfl) rfl ?_
        refine Ops.nil ?_
        refine thenQ_n ⟨(i + 1), (.cons rfl (.cons rfl (.cons rfl .nil))), ?_, ?_⟩
        · skip
          refine ⟨hc2, ?_, hd.trans (Drawn.drew _)⟩
          rw [hta, htb]
          show (_ ++ _ : Tx).map low = (_ ++ _ : Tx).map low
          rw [List.map_append, List.map_append]
          show smallS _ ++ [low x] = smallS _ ++ [low y]
          rw [htk, hxy]
        · skip
          first | omega | (dsimp only; omega)
    · skip
      have heq : smallS a = smallS b := by
        have hil : i = a.length := by omega
        subst hil
        rw [List.take_length, hll, List.take_length] at htk
        exact htk
      refine VC.exit ?_
      refine thenQ_x (thenQ_x (blockQ_x ?_))
      refine thenQ_n ?_
      refine VC.sub [] .nil ?_
      refine VC.seq ?_
      refine VC.region ?_
      refine Ops.r (Run.asg rfl) rfl ?_
      refine Ops.nil ?_
      refine thenQ_n ?_
      refine VC.ret ?_
      refine end1 rfl ?_
      exact ⟨by simp [heq], hd⟩

set_option maxRecDepth 100000 in
theorem rfind17_spec (q nm : Tx) (w : World) (hq : q.length ≤ 500000) (hn : nm.length ≤ 1000000) : Calls Tryz.prog 62 #[encStr q, encStr nm] w fun e w' => e = .returned (.tuple #[encStr (findH q nm).1, .bool (findH q nm).2]) ∧ Frm [] w w' := by
  have K := Frm.refl [] w
  have hfh : findH q nm = findF q nm (fieldsQ q) := rfl
  refine VC.calls (nt := 29) (res := #[.tmp 4, .tmp 5]) Tryz.func62 rfl Tryz.ntmps62 Tryz.results62 rfl ?_
  refine VC.seq ?_
  refine VC.region ?_
  refine Ops.r (Run.asg rfl) rfl ?_
  refine Ops.r (Run.asg rfl) rfl ?_
  refine Ops.nil ?_
  refine thenQ_n ?_
  refine VC.sub [(0, _), (1, _)] (.cons rfl (.cons rfl .nil)) ?_
  refine VC.seq ?_
  refine VC.region ?_
  refine Ops.r (Run.mv rfl) rfl ?_
  refine Ops.cl (Enters.fn (evs.cons rfl evs.nil) Tryz.call95) ((rfields_spec q _ hq)) rfl ?_
  rintro e w1 ⟨f1, A, c, rfl, hO, hub⟩
  refine ⟨_, rfl, ?_⟩
  have K := K.trans f1 (by simp)
  have hok := fieldsQ_ok q
  have hsl := splitQ_le q
  have hnm := fieldsQ_nms q
  have hfc := fieldsQ_count q
  rw [hfh]
  generalize fieldsQ q = F at *
  refine Ops.r (Run.asg rfl) rfl ?_
  refine Ops.nil ?_
  refine thenQ_n ?_
  refine VC.sub [(0, _), (1, _), (6, _)] (.cons rfl (.cons rfl (.cons rfl .nil))) ?_
  refine VC.seq ?_
  refine VC.seq ?_
  refine VC.region ?_
  refine Ops.r (v := .int .i64 ((0 : Nat) : Int)) (Run.asg rfl) rfl ?_
  refine Ops.nil ?_
  refine thenQ_n ?_
  refine VC.block ?_
  refine VC.loop (σ := Nat) (fun s => [(0, encStr q), (1, encStr nm), (6, .slice A F.length c), (7, .int .i64 ((s : Nat) : Int))]) (fun s wr => s ≤ F.length ∧ (∀ f ∈ F.take s, smallS f.name ≠ smallS nm) ∧ Frm [] w wr ∧ Own wr 45 4 A F.length c (FC F)) (fun s => F.length - s) 0 (.cons rfl (.cons rfl (.cons rfl (.cons rfl .nil)))) ⟨Nat.zero_le _, by simp, K, hO⟩ ?_
  rintro k wr ⟨hk, hno, K, hO⟩
  refine VC.seq ?_
  refine VC.seq ?_
  refine VC.region ?_
  refine Ops.r (Run.mv rfl) rfl ?_
  refine Ops.r (Run.mv rfl) rfl ?_
  refine Ops.r (Run.lenS rfl Tryz.underlying42) rfl ?_
  refine Ops.r (Run.bin rfl rfl (Bin.lssN _ _)) rfl ?_
  refine Ops.nil ?_
  refine thenQ_n ?_
  refine VC.sub [(0, _), (1, _), (6, _), (7, _), (13, _)] (.cons rfl (.cons rfl (.cons rfl (.cons rfl (.cons rfl .nil))))) ?_
  refine VC.condD rfl (fun hc1 => ?_) (fun hc1 => ?_)
  · skip
    obtain ⟨ad, hAe, hcell⟩ := FC_at hO.rd hc1
    have hts := take_snoc hc1
    have hat := findF_at (s := q) (n := nm) hc1 hno
    have hfo := hok _ (List.getElem_mem hc1)
    have hnl := hnm _ (List.getElem_mem hc1)
    generalize hfe : F[k] = f at *
    refine VC.skip ?_
    refine thenQ_n ?_
    refine VC.sub [(0, _), (1, _), (6, _), (7, _)] (.cons rfl (.cons rfl (.cons rfl (.cons rfl .nil)))) ?_
    refine VC.seq ?_
    refine VC.block ?_
    refine VC.seq ?_
    refine VC.region ?_
    refine Ops.r (Run.mv rfl) rfl ?_
    refine Ops.r (Run.mv rfl) rfl ?_
    refine Ops.r (Run.indexS k (by rw [← hAe]; rfl) rfl Tryz.underlying42 Tryz.sizeOf45 hc1) rfl ?_
    refine Ops.r (Run.fieldAddr rfl Tryz.underlying45 rfl Tryz.sizeOf9 (by decide)) rfl ?_
    refine Ops.r (Run.load rfl Tryz.isAgg9 (hcell 0 _ rfl)) rfl ?_
    refine Ops.r (Run.mv rfl) rfl ?_
    refine Ops.cl (Enters.fn (evs.cons rfl (evs.cons rfl evs.nil)) Tryz.call96) ((alike_spec f.name nm _ (by omega) hn)) rfl ?_
    rintro e w2 ⟨rfl, hd2⟩
    refine ⟨_, rfl, ?_⟩
    have hO := hO.drawn hd2
    have K := K.drawn hd2
    obtain ⟨ad3, hAe3, hcell3⟩ := FC_at hO.rd hc1
    cases hAe.symm.trans hAe3
    refine Ops.nil ?_
    refine thenQ_n ?_
    refine VC.sub [(0, _), (1, _), (6, _), (7, _), (22, _)] (.cons rfl (.cons rfl (.cons rfl (.cons rfl (.cons rfl .nil))))) ?_
    refine VC.condB rfl (fun hc2 => ?_) (fun hc2 => ?_)
    · skip
      have hal := of_decide_eq_true hc2
      rw [hat hal]
      refine VC.seq ?_
      refine VC.region ?_
      refine Ops.r (Run.mv rfl) rfl ?_
      refine Ops.r (Run.mv rfl) rfl ?_
      refine Ops.r (Run.mv rfl) rfl ?_
      refine Ops.r (Run.indexS k (by rw [← hAe]; rfl) rfl Tryz.underlying42 Tryz.sizeOf45 hc1) rfl ?_
      refine Ops.r (Run.loadA rfl Tryz.isAgg45 Tryz.sizeOf45 (fun j v hj => hcell3 j v (by rw [hfe]; exact hj)) (by first | rfl | (simp; done))) rfl ?_
      refine Ops.cl (Enters.fn (evs.cons rfl (evs.cons rfl evs.nil)) Tryz.call97) ((rtext_spec q f _ hq (by obtain ⟨a1, a2, a3, a4⟩ := hfo; exact ⟨a1, a2, by omega, a4⟩))) rfl ?_
      rintro e w4 ⟨rfl, f4⟩
      refine ⟨_, rfl, ?_⟩
      have K := K.trans f4 (by simp)
      refine Ops.r (Run.asg rfl) rfl ?_
      refine Ops.r (Run.asg rfl) rfl ?_
      refine Ops.nil ?_
      refine thenQ_n ?_
      refine VC.sub [(4, _), (5, _)] (.cons rfl (.cons rfl .nil)) ?_
      refine VC.ret ?_
      refine blockQ_r (thenQ_r (thenQ_r (blockQ_r (thenQ_r (end2 rfl rfl ?_)))))
      exact ⟨rfl, K⟩
    · skip
      have hal := of_decide_eq_false hc2
      refine VC.skip ?_
      refine blockQ_n (thenQ_n ?_)
      refine VC.sub [(0, _), (1, _), (6, _), (7, _)] (.cons rfl (.cons rfl (.cons rfl (.cons rfl .nil)))) ?_
      refine VC.region ?_
      refine Ops.r (Run.mv rfl) rfl ?_
      refine Ops.r (Run.bin rfl rfl (Bin.add_i64 _ 1 (by omega))) rfl ?_
      refine Ops.r (Run.asg rfl) rfl ?_
      refine Ops.nil ?_
      refine thenQ_n ⟨(k + 1), (.cons rfl (.cons rfl (.cons rfl (.cons rfl .nil)))), ?_, ?_⟩
      · skip
        refine ⟨hc1, fun y hy => ?_, K, hO⟩
        rw [hts] at hy
        rcases List.mem_append.1 hy with h | h
        · exact hno y h
        · simp only [List.mem_singleton] at h; subst h; exact hal
      · skip
        first | omega | (dsimp only; omega)
  · skip
    have hkl : k = F.length := by omega
    subst hkl
    rw [List.take_length] at hno
    refine VC.exit ?_
    refine thenQ_x (thenQ_x (blockQ_x ?_))
    refine thenQ_n ?_
    refine VC.sub [] .nil ?_
    refine VC.seq ?_
    refine VC.region ?_
    refine Ops.r (Run.asg rfl) rfl ?_
    refine Ops.r (Run.asg rfl) rfl ?_
    refine Ops.nil ?_
    refine thenQ_n ?_
    refine VC.ret ?_
    refine end2 rfl rfl ?_
    exact ⟨by rw [findF_no hno], K⟩

end Go.Proofs.YtenbjndldenkfaaGreatDoor

