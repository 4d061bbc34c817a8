/-
  Lemmas on the way, joined: PartU, Eng17, PartO, SecQ, SecW, SecV, SecU, SecT, SecS, SecR.
-/
import Derived.ArgAppend
import Derived.Test.YtenbjndldenkfaaGreatDoorPk2
namespace Go.Proofs.YtenbjndldenkfaaGreatDoor
open Go.RowKit Go.Sort

/-- A part, and where its parameters lie. -/
abbrev Pc := Prt × Option Addr × Nat
def PP1 (x : Pc) : List Value := [.int .i64 ((x.1.kind : Nat) : Int), .int .i64 ((x.1.frm : Nat) : Int), .int .i64 ((x.1.body : Nat) : Int), .int .i64 ((x.1.tu : Nat) : Int), encStr x.1.m.ty, encStr x.1.m.sub, .slice x.2.1 x.1.m.ps.length x.2.2, .int .i64 x.1.up, .int .i64 ((x.1.kids : Nat) : Int)]
theorem PP1_len (x : Pc) : (PP1 x).length = 9 := rfl
theorem PP1_one (x : Pc) : ∀ u ∈ PP1 x, u.oneCell' = true := by
  intro u hu
  simp only [PP1, List.mem_cons, List.not_mem_nil, or_false] at hu
  rcases hu with rfl | rfl | rfl | rfl | rfl | rfl | rfl | rfl | rfl <;> rfl
def PP (l : List Pc) : List Value := l.flatMap PP1
theorem PP_append (a b : List Pc) : PP (a ++ b) = PP a ++ PP b := by simp [PP]
theorem PP_len (l : List Pc) : (PP l).length = l.length * 9 := flat_len PP1 9 PP1_len l
theorem PP_one (l : List Pc) : ∀ u ∈ PP l, u.oneCell' = true := flat_one PP1 PP1_one l
theorem PP_at {w : World} {A : Option Addr} {l : List Pc} {k : Nat} (h : Rd w 9 A l.length (PP l)) (hk : k < l.length) : ∃ ad, A = some ad ∧ ∀ j v, (PP1 l[k])[j]? = some v → w.cell? ((ad.add (k * 9)).add j) = some v := by
  obtain ⟨ad, rfl, hc⟩ := h.elem hk
  refine ⟨ad, rfl, fun j v hj => hc j v ?_⟩
  rw [show PP l = l.flatMap PP1 from rfl, flat_get PP1 9 PP1_len l k hk]
  exact hj
theorem hrdQ {w w' : World} {t : TypeId} {x : Pc} (h : Fresh w w' t (PP1 x).toArray) : Rd w' 9 (some ⟨w.heap.size, 0, none⟩) 1 (PP [x]) := Rd.of_blk (n := 1) (size := 9) h.blk rfl
/-- A cell of one of them becomes another one. -/
theorem PP_set (l : List Pc) (k j : Nat) (hk : k < l.length) (hj : j < 9) (v : Value) (x : Pc) (hx : (PP1 l[k]).set j v = PP1 x) : (PP l).set (k * 9 + j) v = PP (l.set k x) := by
  have e : l = l.take k ++ l[k] :: l.drop (k + 1) := by rw [← drop_cons hk, List.take_append_drop]
  have hlt : (l.take k).length = k := by rw [List.length_take]; omega
  have h1 : PP l = PP (l.take k) ++ (PP1 l[k] ++ PP (l.drop (k + 1))) := by
    conv => lhs; rw [e]
    rw [PP_append]
    rfl
  have h2 : PP (l.set k x) = PP (l.take k) ++ (PP1 x ++ PP (l.drop (k + 1))) := by
    rw [List.set_eq_take_append_cons_drop, if_pos hk, PP_append]
    rfl
  have h3 : (PP (l.take k)).length = k * 9 := by rw [PP_len, hlt]
  rw [h1, h2, List.set_append_right _ _ (by omega), h3, show k * 9 + j - k * 9 = j by omega, List.set_append_left _ _ (by rw [PP1_len]; exact hj), hx]
theorem fillP (a b c u : Int) (x y z k : Value) : Instr.fill (fun i => (#[(0, 1), (1, 1), (2, 1), (3, 1), (4, 3), (7, 1), (8, 1)] : Array (Nat × Nat))[i]?) #[k, .int .i64 0, .int .i64 0, .int .i64 0, .string ⟨#[]⟩, .string ⟨#[]⟩, .slice none 0 0, .int .i64 0, .int .i64 0] [(1, .int .i64 a), (2, .int .i64 b), (3, .int .i64 c), (4, .agg #[x, y, z]), (5, .int .i64 u)] = some #[k, .int .i64 a, .int .i64 b, .int .i64 c, x, y, z, .int .i64 u, .int .i64 0] := by
  simp [Instr.fill, Value.cells]
def OwnPs (w : World) (l : List Pc) : Prop := ∀ x ∈ l, Own w 102 2 x.2.1 x.1.m.ps.length x.2.2 (PC x.1.m.ps)
theorem OwnPs.frm0 {w w' : World} {l : List Pc} (h : OwnPs w l) (k : Frm [] w w') : OwnPs w' l := fun x hx => (h x hx).frm k (by simp)
theorem OwnPs.blk {w w' : World} {l : List Pc} {g : Nat} {t : TypeId} {cs : Array Value} (h : OwnPs w l) (k : Frm [g] w w') (hb : Blk w g t cs) (hne : 102 ≠ t) : OwnPs w' l := fun x hx => (h x hx).frm k (fun y hy => by have := (h x hx).ne_blk hb hne; simp; rintro rfl; exact this hy)
theorem OwnPs.own {w w' : World} {l : List Pc} {e size n c : Nat} {A : Option Addr} {xs : List Value} (h : OwnPs w l) (k : Frm (ob A) w w') (ho : Own w e size A n c xs) (hne : 102 ≠ e) : OwnPs w' l := fun x hx => (h x hx).frm k (fun y hy => (h x hx).ne_own ho hne y hy)
theorem OwnPs.set {w : World} {l : List Pc} {k : Nat} {x : Pc} (h : OwnPs w l) (hk : k < l.length) (hx : x.2 = l[k].2) (hm : x.1.m = l[k].1.m) : OwnPs w (l.set k x) := by
  intro y hy
  rcases List.mem_or_eq_of_mem_set hy with hy | rfl
  · exact h y hy
  · have := h l[k] (List.getElem_mem hk)
    rw [← hx, ← hm] at this
    exact this
theorem map_set (l : List Pc) (k : Nat) (x : Pc) : (l.set k x).map (·.1) = (l.map (·.1)).set k x.1 := by rw [List.map_set]
theorem modify_set (l : List Prt) (k : Nat) (hk : k < l.length) (f : Prt → Prt) : l.modify k f = l.set k (f l[k]) := by
  apply List.ext_getElem?
  intro i
  rw [List.getElem?_modify, List.getElem?_set]
  by_cases e : k = i
  · subst e
    simp [hk]
  · simp [e]
theorem fnd_full {s : Tx} {n : Nat} {l : List Prt} {frm tu : Nat} {up : Int} {dg : Bool} (h : l.length = 64) : fndQ s n l frm tu up dg = l := by unfold fndQ; rw [if_pos h]
def newP (s : Tx) (frm tu : Nat) (up : Int) (dg : Bool) : Prt := ⟨0, frm, frm + splitQ (sliceQ s frm tu), tu, mediaQ (sliceQ s frm tu) dg, up, 0⟩
theorem fnd_zero {s : Tx} {l : List Prt} {frm tu : Nat} {up : Int} {dg : Bool} (h : l.length ≠ 64) : fndQ s 0 l frm tu up dg = kid1 (l ++ [newP s frm tu up dg]) up := by unfold fndQ; rw [if_neg h]; rfl
theorem fnd_let {s : Tx} {n : Nat} {l : List Prt} {frm tu : Nat} {up : Int} {dg : Bool} (h : l.length ≠ 64) (h2 : IsLet (newP s frm tu up dg).m) : fndQ s (n + 1) l frm tu up dg = fndQ s n (setK (kid1 (l ++ [newP s frm tu up dg]) up) l.length 2) (newP s frm tu up dg).body tu (l.length : Int) false := by
  conv => lhs; unfold fndQ
  rw [if_neg h]
  exact (if_pos (show IsLet (mediaQ (sliceQ s frm tu) dg) from h2)).trans rfl
theorem fnd_plain {s : Tx} {n : Nat} {l : List Prt} {frm tu : Nat} {up : Int} {dg : Bool} (h : l.length ≠ 64) (h2 : ¬ IsLet (newP s frm tu up dg).m) (h3 : (newP s frm tu up dg).m.ty ≠ multT ∨ (findQ (newP s frm tu up dg).m.ps bndT).1 = []) : fndQ s (n + 1) l frm tu up dg = kid1 (l ++ [newP s frm tu up dg]) up := by
  conv => lhs; unfold fndQ
  rw [if_neg h]
  refine (if_neg (show ¬ IsLet (mediaQ (sliceQ s frm tu) dg) from h2)).trans ?_
  exact (if_pos h3).trans rfl
theorem fnd_mult {s : Tx} {n : Nat} {l : List Prt} {frm tu : Nat} {up : Int} {dg : Bool} (h : l.length ≠ 64) (h2 : ¬ IsLet (newP s frm tu up dg).m) (h3 : ¬ ((newP s frm tu up dg).m.ty ≠ multT ∨ (findQ (newP s frm tu up dg).m.ps bndT).1 = [])) : fndQ s (n + 1) l frm tu up dg = (spansQ s (findQ (newP s frm tu up dg).m.ps bndT).1 (newP s frm tu up dg).body tu).foldl (fun acc x => fndQ s n (setK acc l.length 1) x.1 x.2 (l.length : Int) (decide ((newP s frm tu up dg).m.sub = digT))) (kid1 (l ++ [newP s frm tu up dg]) up) := by
  conv => lhs; unfold fndQ
  rw [if_neg h]
  refine (if_neg (show ¬ IsLet (mediaQ (sliceQ s frm tu) dg) from h2)).trans ?_
  exact (if_neg h3).trans rfl
theorem fnd_len (s : Tx) : ∀ (n : Nat) (l : List Prt) (frm tu : Nat) (up : Int) (dg : Bool), l.length ≤ 64 → l.length ≤ (fndQ s n l frm tu up dg).length ∧ (fndQ s n l frm tu up dg).length ≤ 64 := by
  intro n
  induction n with
  | zero =>
    intro l frm tu up dg hl
    by_cases h : l.length = 64
    · rw [fnd_full h]; omega
    · rw [fnd_zero h, kid1_len]; simp; omega
  | succ n ih =>
    intro l frm tu up dg hl
    by_cases h : l.length = 64
    · rw [fnd_full h]; omega
    have h1 : (kid1 (l ++ [newP s frm tu up dg]) up).length = l.length + 1 := by rw [kid1_len]; simp
    by_cases h2 : IsLet (newP s frm tu up dg).m
    · rw [fnd_let h h2]
      have := ih (setK (kid1 (l ++ [newP s frm tu up dg]) up) l.length 2) (newP s frm tu up dg).body tu (l.length : Int) false (by rw [setK_len]; omega)
      rw [setK_len] at this
      omega
    · by_cases h3 : (newP s frm tu up dg).m.ty ≠ multT ∨ (findQ (newP s frm tu up dg).m.ps bndT).1 = []
      · rw [fnd_plain h h2 h3]; omega
      · rw [fnd_mult h h2 h3]
        generalize kid1 (l ++ [newP s frm tu up dg]) up = l1 at *
        generalize spansQ s (findQ (newP s frm tu up dg).m.ps bndT).1 (newP s frm tu up dg).body tu = sp
        have key : ∀ (sp : List (Nat × Nat)) (acc : List Prt), l1.length ≤ acc.length → acc.length ≤ 64 → l1.length ≤ (sp.foldl (fun acc x => fndQ s n (setK acc l.length 1) x.1 x.2 (l.length : Int) (decide ((newP s frm tu up dg).m.sub = digT))) acc).length ∧ (sp.foldl (fun acc x => fndQ s n (setK acc l.length 1) x.1 x.2 (l.length : Int) (decide ((newP s frm tu up dg).m.sub = digT))) acc).length ≤ 64 := by
          intro sp
          induction sp with
          | nil => exact fun acc a b => ⟨a, b⟩
          | cons x r ihs =>
            intro acc ha hb
            rw [List.foldl_cons]
            have := ih (setK acc l.length 1) x.1 x.2 (l.length : Int) (decide ((newP s frm tu up dg).m.sub = digT)) (by rw [setK_len]; exact hb)
            rw [setK_len] at this
            exact ihs _ (by omega) this.2
        have := key sp l1 (Nat.le_refl _) (by omega)
        omega
theorem Own.blk' {w w' : World} {e size n c g : Nat} {A : Option Addr} {xs : List Value} {t : TypeId} {cs : Array Value} (h : Own w e size A n c xs) (k : Frm [g] w w') (hb : Blk w g t cs) (hne : e ≠ t) : Own w' e size A n c xs := h.frm k (fun y hy => by have := h.ne_blk hb hne; simp; rintro rfl; exact this hy)
theorem Own.own' {w w' : World} {e size n c e2 size2 n2 c2 : Nat} {A B : Option Addr} {xs ys : List Value} (h : Own w e size A n c xs) (k : Frm (ob B) w w') (ho : Own w e2 size2 B n2 c2 ys) (hne : e ≠ e2) : Own w' e size A n c xs := h.frm k (fun y hy => h.ne_own ho hne y hy)
/-! ### how long they are -/
theorem medQ_val (q : Tx) : ∀ p ∈ (medQ q).ps, p.2.length ≤ q.length := by
  unfold medQ
  split
  · simp [med0]
  · rename_i p ps h
    unfold medOf
    split
    · intro y hy
      obtain ⟨x, hx, hy⟩ := List.mem_flatMap.1 (show y ∈ ps.flatMap parQ from hy)
      have h1 := pcs_len _ false q (Nat.le_refl _) x (by rw [h]; simp [hx])
      unfold parQ at hy
      split at hy
      · simp only [List.mem_singleton] at hy
        subst hy
        have h2 := valQ_len (aftF 61 x)
        have h3 := (bef_len 61 x).2
        show (valQ (aftF 61 x)).length ≤ _
        omega
      · simp at hy
    · intro y hy
      simp [med0] at hy
theorem find_val {k : Nat} (n : Tx) : ∀ ps : List Par, (∀ p ∈ ps, p.2.length ≤ k) → (findQ ps n).1.length ≤ k
  | [], _ => by simp [findQ]
  | p :: r, h => by
    unfold findQ
    split
    · exact h p (by simp)
    · exact find_val n r (fun p hp => h p (by simp [hp]))
theorem mediaQ_ok (s : Tx) (dg : Bool) : (mediaQ s dg).ps.length ≤ s.length + 1 ∧ (findQ (mediaQ s dg).ps bndT).1.length ≤ s.length := by
  unfold mediaQ
  split
  · exact ⟨by simp, by simp [findQ]⟩
  · have h1 := medQ_count (findH s ctype).1
    have h2 := pcs_count _ false (findH s ctype).1 (Nat.le_refl _)
    have h3 := findF_len s ctype (fieldsQ s)
    have h4 : findH s ctype = findF s ctype (fieldsQ s) := rfl
    have h5 := find_val bndT _ (medQ_val (findH s ctype).1)
    rw [← h4] at h3
    omega
/-! ### how many a part has -/
def KidsOk (l : List Prt) : Prop := ∀ (i : Nat) (x : Prt), l[i]? = some x → x.kids ≤ l.length
theorem kid1_kids {l : List Prt} {p : Prt} {up : Int} (h : KidsOk l) (hp : p.kids = 0) : KidsOk (kid1 (l ++ [p]) up) := by
  have h1 : ∀ (i : Nat) (x : Prt), (l ++ [p])[i]? = some x → x.kids ≤ l.length := by
    intro i x hx
    have hm := List.mem_of_getElem? hx
    rcases List.mem_append.1 hm with hm | hm
    · obtain ⟨j, hj⟩ := List.getElem?_of_mem hm
      exact h j x hj
    · simp only [List.mem_singleton] at hm
      subst hm
      omega
  intro i x hx
  rw [kid1_len, List.length_append]
  show x.kids ≤ l.length + 1
  unfold kid1 at hx
  split at hx
  · rw [List.getElem?_modify] at hx
    cases e : (l ++ [p])[i]? with
    | none => rw [e] at hx; simp at hx
    | some y =>
      have h2 := h1 i y e
      rw [e] at hx
      simp only [Option.map_eq_map, Option.map_some, Option.some.injEq] at hx
      subst hx
      split
      · show y.kids + 1 ≤ _; omega
      · show y.kids ≤ _; omega
  · have := h1 i x hx
    omega
theorem setK_kids {l : List Prt} {i k : Nat} (h : KidsOk l) : KidsOk (setK l i k) := by
  intro j x hx
  rw [setK_len]
  unfold setK at hx
  rw [List.getElem?_modify] at hx
  cases e : l[j]? with
  | none => rw [e] at hx; simp at hx
  | some y =>
    have h2 := h j y e
    rw [e] at hx
    simp only [Option.map_eq_map, Option.map_some, Option.some.injEq] at hx
    subst hx
    split
    · exact h2
    · exact h2
theorem fnd_kids (s : Tx) : ∀ (n : Nat) (l : List Prt) (frm tu : Nat) (up : Int) (dg : Bool), KidsOk l → KidsOk (fndQ s n l frm tu up dg) := by
  intro n
  induction n with
  | zero =>
    intro l frm tu up dg hl
    by_cases h : l.length = 64
    · rw [fnd_full h]; exact hl
    · rw [fnd_zero h]; exact kid1_kids hl rfl
  | succ n ih =>
    intro l frm tu up dg hl
    by_cases h : l.length = 64
    · rw [fnd_full h]; exact hl
    have h1 : KidsOk (kid1 (l ++ [newP s frm tu up dg]) up) := kid1_kids hl rfl
    by_cases h2 : IsLet (newP s frm tu up dg).m
    · rw [fnd_let h h2]
      exact ih _ _ _ _ _ (setK_kids h1)
    · by_cases h3 : (newP s frm tu up dg).m.ty ≠ multT ∨ (findQ (newP s frm tu up dg).m.ps bndT).1 = []
      · rw [fnd_plain h h2 h3]; exact h1
      · rw [fnd_mult h h2 h3]
        generalize spansQ s (findQ (newP s frm tu up dg).m.ps bndT).1 (newP s frm tu up dg).body tu = sp
        generalize kid1 (l ++ [newP s frm tu up dg]) up = a at h1
        induction sp generalizing a with
        | nil => exact h1
        | cons x r ihs => rw [List.foldl_cons]; exact ihs _ (ih _ _ _ _ _ (setK_kids h1))
theorem setK_map (l : List Pc) (i k : Nat) (hi : i < l.length) : (l.set i ({ l[i].1 with kind := k }, l[i].2)).map (·.1) = setK (l.map (·.1)) i k := by
  unfold setK
  rw [map_set, modify_set _ _ (by simpa using hi)]
  simp [List.getElem_map]
theorem kid1_map (l : List Pc) (u : Nat) (hu : u < l.length) : (l.set u ({ l[u].1 with kids := l[u].1.kids + 1 }, l[u].2)).map (·.1) = kid1 (l.map (·.1)) (u : Int) := by
  unfold kid1
  rw [if_pos (by omega), map_set, Int.toNat_natCast, modify_set _ _ (by simpa using hu)]
  simp [List.getElem_map]
theorem foldl_snoc' {α β : Type} (f : β → α → β) (b : β) (l : List α) (i : Nat) (h : i < l.length) : (l.take (i + 1)).foldl f b = f ((l.take i).foldl f b) l[i] := by rw [take_snoc h, List.foldl_append]; rfl
def FindAt (n : Nat) : Prop := ∀ (nest : Nat), nest + n = 6 → ∀ (g : Nat) (A : Option Addr) (c : Nat) (q : Tx) (l : List Pc) (LA : Option Addr) (lc frm tu : Nat) (up : Int) (dg : Bool) (w : World), Rd w 1 A q.length (U8 q) → q.length ≤ 400000 → q.length ≤ c → frm ≤ tu → tu ≤ q.length → l.length ≤ 64 → -1 ≤ up → up < (l.length : Int) → KidsOk (l.map (·.1)) →
  Blk w g 99 #[.slice A q.length c, .slice LA l.length lc] → Own w 69 9 LA l.length lc (PP l) → OwnPs w l → (∀ x ∈ obN A q.length, x ≠ g ∧ x ∉ ob LA) →
  Calls Tryz.prog 68 #[.pointer (some ⟨g, 0, none⟩), .int .i64 ((frm : Nat) : Int), .int .i64 ((tu : Nat) : Int), .int .i64 up, .int .i64 ((nest : Nat) : Int), .bool dg] w fun e w' => e = .returned (.tuple #[]) ∧
    ∃ (l2 : List Pc) (LA2 : Option Addr) (lc2 : Nat), l2.map (·.1) = fndQ q n (l.map (·.1)) frm tu up dg ∧ Blk w' g 99 #[.slice A q.length c, .slice LA2 l2.length lc2] ∧ Own w' 69 9 LA2 l2.length lc2 (PP l2) ∧ OwnPs w' l2 ∧ Frm (g :: ob LA) w w' ∧ ∀ x ∈ ob LA2, x ∈ ob LA ∨ w.heap.size ≤ x
theorem loadM {w : World} {gp : Nat} {x : Pc} (h : Blk w gp 69 (PP1 x).toArray) : ∀ j v, ((MdC x.1.m x.2.1 x.2.2).toList)[j]? = some v → w.cell? (((⟨gp, 0, none⟩ : Addr).add 4).add j) = some v := by
  intro j v hj
  rw [add_add, add_mk]
  have := h.cell (4 + j)
  rw [this, ← hj]
  match j with
  | 0 => rfl
  | 1 => rfl
  | 2 => rfl
  | j + 3 =>
    rw [show 4 + (j + 3) = j + 7 by omega]
    have : ((MdC x.1.m x.2.1 x.2.2).toList)[j + 3]? = none := by simp [MdC]
    rw [this] at hj
    cases hj

set_option maxRecDepth 100000 in
theorem find_step (n : Nat) (ih : ∀ m, m < n → FindAt m) : FindAt n := by
  intro nest hnn g A c q l LA lc frm tu up dg w hrd hq hc hft htl hl64 hup1 hup2 hkid hbg hO hPs hdis
  have hml : (l.map (·.1)).length = l.length := by simp
  refine VC.calls (nt := 147) (res := #[]) Tryz.func68 rfl Tryz.ntmps68 Tryz.results68 rfl ?_
  refine VC.seq ?_
  refine VC.seq ?_
  refine VC.region ?_
  refine Ops.r (Run.mv rfl) rfl ?_
  refine Ops.r (Run.nilck rfl) rfl ?_
  refine Ops.r (Run.fieldAddr rfl Tryz.underlying99 rfl Tryz.sizeOf60 (by decide)) rfl ?_
  refine Ops.r (Run.load rfl Tryz.isAgg60 (hbg.cell 1)) rfl ?_
  refine Ops.r (Run.lenS rfl Tryz.underlying60) rfl ?_
  refine Ops.r (Run.bin rfl rfl (Bin.eqlN _ 64)) rfl ?_
  refine Ops.nil ?_
  refine thenQ_n ?_
  refine VC.sub [(0, _), (1, _), (2, _), (3, _), (4, _), (5, _), (24, _)] (.cons rfl (.cons rfl (.cons rfl (.cons rfl (.cons rfl (.cons rfl (.cons rfl .nil))))))) ?_
  refine VC.condD rfl (fun hc1 => ?_) (fun hc1 => ?_)
  · skip
    refine VC.ret ?_
    refine thenQ_r (end0 ?_)
    exact ⟨rfl, l, LA, lc, (fnd_full (by rw [hml]; exact hc1)).symm, hbg, hO, hPs, Frm.refl _ _, fun x hx => .inl hx⟩
  · skip
    have hl63 : l.length ≤ 63 := by omega
    have hml64 : (l.map (·.1)).length ≠ 64 := by rw [hml]; exact hc1
    have hcut := U8_cut hrd hft htl hc
    have hsl := sliceQ_len (a := frm) htl
    have hspl := splitQ_le (sliceQ q frm tu)
    have hkl := kid1_len (l.map (·.1) ++ [newP q frm tu up dg]) up
    refine VC.skip ?_
    refine thenQ_n ?_
    refine VC.sub [(0, _), (1, _), (2, _), (3, _), (4, _), (5, _)] (.cons rfl (.cons rfl (.cons rfl (.cons rfl (.cons rfl (.cons rfl .nil)))))) ?_
    refine VC.seq ?_
    refine VC.region ?_
    refine Ops.r (Run.mv rfl) rfl ?_
    refine Ops.r (Run.nilck rfl) rfl ?_
    refine Ops.r (Run.fieldAddr rfl Tryz.underlying99 rfl Tryz.sizeOf22 (by decide)) rfl ?_
    refine Ops.r (Run.load rfl Tryz.isAgg22 (hbg.cell 0)) rfl ?_
    refine Ops.r (Run.mv rfl) rfl ?_
    refine Ops.r (Run.mv rfl) rfl ?_
    refine Ops.r (Run.sliceS frm tu rfl Tryz.underlying22 Tryz.sizeOf5 (evB.some_ rfl) (evB.some_ rfl) hft (by omega)) rfl ?_
    rw [← hsl]
    refine Ops.r (Run.asg rfl) rfl ?_
    refine Ops.nil ?_
    refine thenQ_n ?_
    refine VC.sub [(0, _), (1, _), (2, _), (3, _), (4, _), (5, _), (12, _)] (.cons rfl (.cons rfl (.cons rfl (.cons rfl (.cons rfl (.cons rfl (.cons rfl .nil))))))) ?_
    refine VC.seq ?_
    refine VC.region ?_
    refine Ops.r (Run.mv rfl) rfl ?_
    refine Ops.r (Run.nilck rfl) rfl ?_
    refine Ops.r (Run.fieldAddr rfl Tryz.underlying99 rfl Tryz.sizeOf60 (by decide)) rfl ?_
    refine Ops.r (Run.load rfl Tryz.isAgg60 (hbg.cell 1)) rfl ?_
    refine Ops.r (Run.lenS rfl Tryz.underlying60) rfl ?_
    refine Ops.r (Run.asg rfl) rfl ?_
    refine Ops.nil ?_
    refine thenQ_n ?_
    refine VC.sub [(0, _), (1, _), (2, _), (3, _), (4, _), (5, _), (12, _), (13, _)] (.cons rfl (.cons rfl (.cons rfl (.cons rfl (.cons rfl (.cons rfl (.cons rfl (.cons rfl .nil)))))))) ?_
    refine VC.seq ?_
    refine VC.region ?_
    refine Ops.r (Run.mv rfl) rfl ?_
    refine Ops.r (Run.mv rfl) rfl ?_
    refine Ops.r (Run.mv rfl) rfl ?_
    refine Ops.cl (Enters.fn (evs.cons rfl evs.nil) Tryz.call51) (split_spec _ _ (sliceQ q frm tu) _ hcut (by omega) (by omega)) rfl ?_
    rintro e w1 ⟨rfl, K⟩
    refine ⟨_, rfl, ?_⟩
    have hbg := hbg.frm K (by simp)
    have hO := hO.frm K (by simp)
    have hPs := hPs.frm0 K
    refine Ops.r (Run.bin rfl rfl (Bin.add_i64 _ _ (by omega))) rfl ?_
    refine Ops.r (Run.mv rfl) rfl ?_
    refine Ops.r (Run.mv rfl) rfl ?_
    refine Ops.r (Run.mv rfl) rfl ?_
    refine Ops.cl (Enters.fn (evs.cons rfl (evs.cons rfl evs.nil)) Tryz.call104) (media_spec _ _ (sliceQ q frm tu) dg _ (hcut.frm K (by simp)) (by omega) (by omega)) rfl ?_
    rintro e w2 ⟨hf2, MA, mc, rfl, hMO, hMub⟩
    refine ⟨_, rfl, ?_⟩
    have hbg := hbg.frm hf2 (by simp)
    have hO := hO.frm hf2 (by simp)
    have hPs := hPs.frm0 hf2
    have K := K.trans hf2 (by simp)
    obtain ⟨p, hp⟩ : ∃ p, newP q frm tu up dg = p := ⟨_, rfl⟩
    have hpm : mediaQ (sliceQ q frm tu) dg = p.m := by rw [← hp]; rfl
    have hmok := mediaQ_ok (sliceQ q frm tu) dg
    have hpb : frm + splitQ (sliceQ q frm tu) = p.body := by rw [← hp]; rfl
    have hpbt : p.body ≤ tu := by omega
    have hpc : (PP1 (p, MA, mc)) = [.int .i64 ((0 : Nat) : Int), .int .i64 ((frm : Nat) : Int), .int .i64 ((p.body : Nat) : Int), .int .i64 ((tu : Nat) : Int), encStr p.m.ty, encStr p.m.sub, .slice MA p.m.ps.length mc, .int .i64 up, .int .i64 ((0 : Nat) : Int)] := by rw [← hp]; rfl
    rw [hpm, hpb]
    rw [hpm] at hMO hmok
    rw [hp] at hkl
    have hkid1 : KidsOk (kid1 (l.map (·.1) ++ [p]) up) := kid1_kids hkid (by rw [← hp]; rfl)
    have hpk : p.kids = 0 := by rw [← hp]; rfl
    have hO0 := hO
    have lgw := hbg.lt
    refine Ops.r (Run.mv rfl) rfl ?_
    refine Ops.r (Run.build (evs.cons rfl (evs.cons rfl (evs.cons rfl (evs.cons rfl (evs.cons rfl evs.nil))))) zero69 (places69).choose_spec.1 (places69).choose_spec.2 (cells := (PP1 (p, MA, mc)).toArray) (by rw [hpc]; exact fillP _ _ _ _ _ _ _ _)) rfl ?_
    refine Ops.m (Does.alloc zero69) rfl ?_
    rintro _ w3 ⟨rfl, hF3⟩
    have hbp := hF3.blk
    have hbp0 := hbp
    have lg := hbg.lt
    have hbg := hbg.frm hF3.frm (by simp)
    have hO := hO.frm hF3.frm (by simp)
    have hPs := hPs.frm0 hF3.frm
    have hMO := hMO.frm hF3.frm (by simp)
    have sK := K.size
    have K := K.trans hF3.frm (by simp)
    generalize hgp : w2.heap.size = gp at hbp hbp0 lg sK ⊢
    refine Ops.st (Acts.storeA rfl rfl Tryz.sizeOf69 hbp rfl (PP1_one (p, MA, mc))) ?_
    rintro w4 ⟨hbpn, hf4, _⟩
    have hbp : Blk w4 gp 69 (PP1 (p, MA, mc)).toArray := hbpn
    have hbg := hbg.frm hf4 (by simp; omega)
    have hO := hO.frm hf4 (fun y hy => by have h1 := hO0.lt y hy; have h2 := K.size; simp; omega)
    have hPs := hPs.blk hf4 hbp0 (by decide)
    have hMO := hMO.blk' hf4 hbp0 (by decide)
    have K := Frm.own K hf4 (fun y hy => by simp at hy; omega)
    refine Ops.nil ?_
    refine thenQ_n ?_
    refine VC.sub [(0, _), (2, _), (3, _), (4, _), (13, _), (14, _)] (.cons rfl (.cons rfl (.cons rfl (.cons rfl (.cons rfl (.cons rfl .nil)))))) ?_
    refine VC.seq ?_
    refine VC.heldL 10 (fun V => Frm (ob LA) w4 V) (by kernel_rfl) ?_
    have hS0 : Frm [] w4 w4.drew := (Frm.refl [] w4).drew
    have hS : Frm (ob LA) w4 w4.drew := hS0.mono (by simp)
    have hng := hO.ne_blk hbg (by decide)
    have hngp : gp ∉ ob LA := fun hm => by have h1 := hO0.lt gp hm; omega
    have hbgv := hbg
    have hbpv := hbp
    have hO := hO.frm hS0 (by simp)
    have hbg := hbg.frm hS0 (by simp)
    have hbp := hbp.frm hS0 (by simp)
    have hPs := hPs.frm0 hS0
    have hMO := hMO.frm hS0 (by simp)
    have K := K.drew
    refine HOps.take 0 rfl (by kernel_rfl) (by kernel_rfl) (by kernel_rfl) hS (fun w0 hw0 => Run.mv rfl) trivial rfl rfl ?_
    refine HOps.take 1 rfl (by kernel_rfl) (by kernel_rfl) (by kernel_rfl) hS (fun w0 hw0 => Run.mv rfl) trivial rfl rfl ?_
    refine HOps.take 2 rfl (by kernel_rfl) (by kernel_rfl) (by kernel_rfl) hS (fun w0 hw0 => Run.nilck rfl) trivial rfl rfl ?_
    refine HOps.take 3 rfl (by kernel_rfl) (by kernel_rfl) (by kernel_rfl) hS (fun w0 hw0 => Run.fieldAddr rfl Tryz.underlying99 rfl Tryz.sizeOf60 (by decide)) trivial rfl rfl ?_
    refine HOps.take 4 rfl (by kernel_rfl) (by kernel_rfl) (by kernel_rfl) hS (fun w0 hw0 => Run.load rfl Tryz.isAgg60 ((hbgv.frm hw0 hng).cell 1)) trivial rfl rfl ?_
    refine HOps.r1 5 rfl (by kernel_rfl) hS (Run.loadA rfl Tryz.isAgg69 Tryz.sizeOf69 (fun j v hj => hbp.cells j v hj) (by first | rfl | (simp; done))) trivial rfl rfl ?_
    refine HOps.m 6 rfl (by kernel_rfl) (Does.buildS1 rfl Tryz.underlying60 Tryz.sizeOf69 zero69 (by decide) (by decide) rfl rfl) trivial rfl rfl ?_
    rintro _ w5 ⟨rfl, hF5⟩
    have hrdp := hrdQ (x := (p, MA, mc)) hF5
    have hO := hO.frm hF5.frm (by simp)
    have hbg := hbg.frm hF5.frm (by simp)
    have hbp := hbp.frm hF5.frm (by simp)
    have hPs := hPs.frm0 hF5.frm
    have hMO := hMO.frm hF5.frm (by simp)
    have K := K.trans hF5.frm (by simp)
    have hS := hS.trans hF5.frm (by simp)
    refine ⟨hS, ?_⟩
    refine HOps.m 7 rfl (by kernel_rfl) (Does.app rfl rfl Tryz.underlying60 (info69) rfl (by decide) hO hrdp (PP_one _) (by omega) (by omega)) trivial rfl rfl ?_
    rintro _ w6 ⟨LA6, lc6, rfl, hO6, hf6, hob6⟩
    rw [← PP_append] at hO6
    have hbg := hbg.frm hf6 hng
    have hbp := hbp.frm hf6 hngp
    have hPs := hPs.own hf6 hO (by decide)
    have hMO := hMO.own' hf6 hO (by decide)
    have K5 := K
    have KL := (K.mono (T := g :: ob LA) (by simp)).trans hf6 (fun y hy => .inl (by simp [hy]))
    have hS := hS.trans hf6 (fun y hy => .inl hy)
    refine ⟨hS, ?_⟩
    refine HOps.r1 8 rfl (by kernel_rfl) hS (Run.nilck rfl) trivial rfl rfl ?_
    refine HOps.r1 9 rfl (by kernel_rfl) hS (Run.fieldAddr rfl Tryz.underlying99 rfl Tryz.sizeOf60 (by decide)) trivial rfl rfl ?_
    refine HOps.stL rfl (by kernel_rfl) (Acts.store rfl rfl Tryz.sizeOf60 hbg rfl rfl) trivial rfl ?_
    rintro w7 ⟨hbgn, hf7, _⟩
    obtain ⟨L, hL⟩ : ∃ L : List Pc, l ++ [((p, MA, mc) : Pc)] = L := ⟨_, rfl⟩
    have hl1 : L.length = l.length + 1 := by rw [← hL]; simp
    have hbgn : Blk w7 g 99 #[.slice A q.length c, .slice LA6 L.length lc6] := by rw [hl1]; exact hbgn
    have hng6 := hO6.ne_blk hbg (by decide)
    have hO : Own w7 69 9 LA6 L.length lc6 (PP L) := by rw [hl1, ← hL]; exact hO6.frm hf7 (fun y hy => by simp; rintro rfl; exact hng6 hy)
    have hMO := hMO.blk' hf7 hbg (by decide)
    have hPs2 : OwnPs w7 L := by
      intro x hx
      rw [← hL] at hx
      rcases List.mem_append.1 hx with hx | hx
      · exact (hPs.blk hf7 hbg (by decide)) x hx
      · simp only [List.mem_singleton] at hx
        subst hx
        exact hMO
    have hbp := hbp.frm hf7 (by simp; omega)
    have K := KL.trans hf7 (fun y hy => .inl (by simp at hy; simp [hy]))
    have sK5 := K5.size
    have hgp6 : gp ∉ ob LA6 := fun hm => by
      rcases hob6 with h | h
      · rw [h] at hm; exact hngp hm
      · rw [h] at hm; simp only [List.mem_singleton] at hm; have := hbpv.lt; have h5 := hS0.size; have h6 := hF5.frm.size; omega
    have hub6 : ∀ x ∈ ob LA6, x ∈ ob LA ∨ w.heap.size ≤ x := fun x hx => by
      rcases hob6 with h | h
      · rw [h] at hx; exact .inl hx
      · rw [h] at hx; simp only [List.mem_singleton] at hx; exact .inr (by omega)
    have hm1 : L.map (·.1) = l.map (·.1) ++ [p] := by rw [← hL]; simp
    have hkL : ∀ (i : Nat) (hi : i < L.length), L[i].1.kids ≤ 64 := by
      intro i hi
      have hm : L[i].1 ∈ l.map (·.1) ++ [p] := by rw [← hm1]; exact List.mem_map_of_mem (List.getElem_mem hi)
      rcases List.mem_append.1 hm with hm | hm
      · obtain ⟨j, hj⟩ := List.getElem?_of_mem hm
        have := hkid j _ hj
        omega
      · simp only [List.mem_singleton] at hm
        rw [hm]
        omega
    clear hPs hO6
    refine HOps.done (by kernel_rfl) ?_
    refine thenQ_n ?_
    refine VC.sub [(0, _), (2, _), (3, _), (4, _), (13, _), (14, _)] (.cons rfl (.cons rfl (.cons rfl (.cons rfl (.cons rfl (.cons rfl .nil)))))) ?_
    refine VC.seq ?_
    refine VC.seq ?_
    refine VC.region ?_
    refine Ops.r (Run.mv rfl) rfl ?_
    refine Ops.r (Run.bin rfl rfl (Bin.geq _ 0)) rfl ?_
    refine Ops.nil ?_
    refine thenQ_n ?_
    refine VC.sub [(0, _), (2, _), (3, _), (4, _), (13, _), (14, _), (59, _)] (.cons rfl (.cons rfl (.cons rfl (.cons rfl (.cons rfl (.cons rfl (.cons rfl .nil))))))) ?_
    refine VC.meet (σ := List Pc) (fun s => [(0, .pointer (some ⟨g, 0, none⟩)), (2, .int .i64 ((tu : Nat) : Int)), (4, .int .i64 ((nest : Nat) : Int)), (13, .int .i64 ((l.length : Nat) : Int)), (14, .pointer (some ⟨gp, 0, none⟩))]) (fun s wr => s.map (·.1) = kid1 (l.map (·.1) ++ [p]) up ∧ Own wr 69 9 LA6 s.length lc6 (PP s) ∧ OwnPs wr s ∧ Blk wr g 99 #[.slice A q.length c, .slice LA6 s.length lc6] ∧ Blk wr gp 69 (PP1 (p, MA, mc)).toArray ∧ Own wr 102 2 MA p.m.ps.length mc (PC p.m.ps) ∧ Frm (g :: ob LA) w wr) ?_ ?_
    · skip
      refine VC.condD rfl (fun hc2 => ?_) (fun hc2 => ?_)
      · skip
        obtain ⟨u, rfl⟩ : ∃ u : Nat, up = (u : Int) := ⟨up.toNat, by omega⟩
        have hul : u < L.length := by omega
        obtain ⟨ad6, rfl, hcell⟩ := PP_at hO.rd hul
        have hku := hkL u hul
        have hset := PP_set L u 8 hul (by omega) (.int .i64 ((L[u].1.kids + 1 : Nat) : Int)) ({ L[u].1 with kids := L[u].1.kids + 1 }, L[u].2) rfl
        refine VC.region ?_
        refine Ops.r (Run.mv rfl) rfl ?_
        refine Ops.r (Run.nilck rfl) rfl ?_
        refine Ops.r (Run.fieldAddr rfl Tryz.underlying99 rfl Tryz.sizeOf60 (by decide)) rfl ?_
        refine Ops.r (Run.load rfl Tryz.isAgg60 (hbgn.cell 1)) rfl ?_
        refine Ops.r (Run.mv rfl) rfl ?_
        refine Ops.r (Run.indexS u rfl rfl Tryz.underlying60 Tryz.sizeOf69 hul) rfl ?_
        refine Ops.r (Run.fieldAddr rfl Tryz.underlying69 rfl Tryz.sizeOf3 (by decide)) rfl ?_
        refine Ops.r (Run.load rfl Tryz.isAgg3 (hcell 8 (.int .i64 ((L[u].1.kids : Nat) : Int)) rfl)) rfl ?_
        refine Ops.r (Run.bin rfl rfl (Bin.add_i64 L[u].1.kids 1 (by omega))) rfl ?_
        refine Ops.r (Run.indexS u rfl rfl Tryz.underlying60 Tryz.sizeOf69 hul) rfl ?_
        refine Ops.r (Run.fieldAddr rfl Tryz.underlying69 rfl Tryz.sizeOf3 (by decide)) rfl ?_
        refine Ops.st (Acts.storeOwn (u * 9 + 8) (congrArg (fun a => some (Value.pointer (some a))) (add_add ad6 _ 8)) rfl Tryz.sizeOf3 hO rfl (by omega) rfl) ?_
        rintro w8 ⟨hO8, hf8, _⟩
        rw [hset] at hO8
        have hng8 := hO.ne_blk hbgn (by decide)
        refine Ops.nil ?_
        refine thenQ_n ⟨(L.set u ({ L[u].1 with kids := L[u].1.kids + 1 }, L[u].2)), (.cons rfl (.cons rfl (.cons rfl (.cons rfl (.cons rfl .nil))))), ?_⟩
        refine ⟨by rw [kid1_map, hm1], by rw [List.length_set]; exact hO8, ?_, by rw [List.length_set]; exact hbgn.frm hf8 hng8, hbp.frm hf8 hgp6, hMO.own' hf8 hO (by decide), K.trans hf8 (fun y hy => by rcases hub6 y hy with h | h; exact .inl (by simp [h]); exact .inr h)⟩
        exact OwnPs.set (hPs2.own hf8 hO (by decide)) hul rfl rfl
      · skip
        refine VC.skip ?_
        refine thenQ_n ⟨L, (.cons rfl (.cons rfl (.cons rfl (.cons rfl (.cons rfl .nil))))), ?_⟩
        refine ⟨?_, hO, hPs2, hbgn, hbp, hMO, K⟩
        rw [hm1]
        unfold kid1
        rw [if_neg hc2]
    · skip
      rintro l1 w8 ⟨hm1, hO, hPs, hbg, hbp, hMO, K⟩ Γ hΓ
      have hl1 : l1.length = l.length + 1 := by
        have := congrArg List.length hm1
        rw [List.length_map, hkl] at this
        simpa using this
      have hl1i : l.length < l1.length := by omega
      have hk1 : KidsOk (l1.map (·.1)) := by rw [hm1]; exact hkid1
      have hrdK : ∀ {w' : World}, Frm (g :: ob LA) w w' → Rd w' 1 A q.length (U8 q) := fun K => hrd.frm K (fun hn x hx => by have := hdis x (obN_of hn hx); simp only [List.mem_cons, not_or]; exact ⟨this.1, this.2⟩)
      have hdisK : ∀ {B : Option Addr}, (∀ x ∈ ob B, x ∈ ob LA ∨ w.heap.size ≤ x) → ∀ x ∈ obN A q.length, x ≠ g ∧ x ∉ ob B := fun hB x hx => ⟨(hdis x hx).1, fun hm => by
        rcases hB x hm with h | h
        · exact (hdis x hx).2 h
        · have := hrd.lt (obN_mem hx).1 x (obN_mem hx).2; omega⟩
      refine thenQ_n (VC.sub _ hΓ ?_)
      refine VC.seq ?_
      refine VC.seq ?_
      refine VC.region ?_
      refine Ops.r (Run.mv rfl) rfl ?_
      refine Ops.r (Run.bin rfl rfl (Bin.eqlN _ 6)) rfl ?_
      refine Ops.nil ?_
      refine thenQ_n ?_
      refine VC.sub [(0, _), (2, _), (4, _), (13, _), (14, _), (72, _)] (.cons rfl (.cons rfl (.cons rfl (.cons rfl (.cons rfl (.cons rfl .nil)))))) ?_
      refine VC.condD rfl (fun hc3 => ?_) (fun hc3 => ?_)
      · skip
        have hn0 : n = 0 := by omega
        subst hn0
        have hz := fnd_zero (s := q) (frm := frm) (tu := tu) (up := up) (dg := dg) hml64
        rw [hp, ← hm1] at hz
        refine VC.ret ?_
        refine thenQ_r (end0 ?_)
        exact ⟨rfl, l1, LA6, lc6, hz.symm, hbg, hO, hPs, K, hub6⟩
      · skip
        obtain ⟨n', rfl⟩ : ∃ n', n = n' + 1 := ⟨n - 1, by omega⟩
        have hnm : ¬ IsLet p.m → ¬ (p.m.ty ≠ multT ∨ (findQ p.m.ps bndT).1 = []) → fndQ q (n' + 1) (l.map (·.1)) frm tu up dg = (spansQ q (findQ p.m.ps bndT).1 p.body tu).foldl (fun acc x => fndQ q n' (setK acc l.length 1) x.1 x.2 (l.length : Int) (decide (p.m.sub = digT))) (l1.map (·.1)) := by
          intro h2 h3
          have h := fnd_mult (s := q) (n := n') (frm := frm) (tu := tu) (up := up) (dg := dg) hml64 (by rw [hp]; exact h2) (by rw [hp]; exact h3)
          rw [hp, hml, ← hm1] at h
          exact h
        have hnp : ¬ IsLet p.m → (p.m.ty ≠ multT ∨ (findQ p.m.ps bndT).1 = []) → fndQ q (n' + 1) (l.map (·.1)) frm tu up dg = l1.map (·.1) := by
          intro h2 h3
          have h := fnd_plain (s := q) (n := n') (frm := frm) (tu := tu) (up := up) (dg := dg) hml64 (by rw [hp]; exact h2) (by rw [hp]; exact h3)
          rw [hp, ← hm1] at h
          exact h
        have hnl : IsLet p.m → fndQ q (n' + 1) (l.map (·.1)) frm tu up dg = fndQ q n' (setK (l1.map (·.1)) l.length 2) p.body tu (l.length : Int) false := by
          intro h2
          have h := fnd_let (s := q) (n := n') (frm := frm) (tu := tu) (up := up) (dg := dg) hml64 (by rw [hp]; exact h2)
          rw [hp, hml, ← hm1] at h
          exact h
        refine VC.skip ?_
        refine thenQ_n ?_
        refine VC.sub [(0, _), (2, _), (4, _), (13, _), (14, _)] (.cons rfl (.cons rfl (.cons rfl (.cons rfl (.cons rfl .nil))))) ?_
        refine VC.seq ?_
        refine VC.seq ?_
        refine VC.split1 [(0, _), (2, _), (4, _), (13, _), (14, _)] (.cons rfl (.cons rfl (.cons rfl (.cons rfl (.cons rfl .nil))))) 82 (.bool (decide (IsLet p.m))) ?_ ?_
        · refine VC.region ?_
          refine Ops.r (Run.fieldAddr rfl Tryz.underlying69 rfl Tryz.sizeOf67 (by decide)) rfl ?_
          refine Ops.r (Run.fieldAddr rfl Tryz.underlying67 rfl Tryz.sizeOf9 (by decide)) rfl ?_
          refine Ops.r (Run.load rfl Tryz.isAgg9 (loadM hbp 0 _ rfl)) rfl ?_
          refine Ops.r (Run.eqlT rfl rfl) rfl ?_
          by_cases hs76 : p.m.ty = msgT
          · skip
            refine Ops.r (Run.mv rfl) rfl ?_
            refine Ops.rg rfl (by first | rfl | assumption | exact decide_eq_true (by assumption) | exact decide_eq_false (by assumption) | decide | (simp; done) | (simp; omega) | (simp [*]; done)) (Run.fieldAddr rfl Tryz.underlying69 rfl Tryz.sizeOf67 (by decide)) rfl ?_
            refine Ops.rg rfl (by first | rfl | assumption | exact decide_eq_true (by assumption) | exact decide_eq_false (by assumption) | decide | (simp; done) | (simp; omega) | (simp [*]; done)) (Run.fieldAddr rfl Tryz.underlying67 rfl Tryz.sizeOf9 (by decide)) rfl ?_
            refine Ops.rg rfl (by first | rfl | assumption | exact decide_eq_true (by assumption) | exact decide_eq_false (by assumption) | decide | (simp; done) | (simp; omega) | (simp [*]; done)) (Run.load rfl Tryz.isAgg9 (loadM hbp 1 _ rfl)) rfl ?_
            refine Ops.rg rfl (by first | rfl | assumption | exact decide_eq_true (by assumption) | exact decide_eq_false (by assumption) | decide | (simp; done) | (simp; omega) | (simp [*]; done)) (Run.eqlT rfl rfl) rfl ?_
            by_cases hs81 : p.m.sub = rfcT
            · skip
              refine Ops.r (Run.pickT rfl rfl (by first | rfl | assumption | exact decide_eq_true (by assumption) | exact decide_eq_false (by assumption) | decide | (simp; done) | (simp; omega) | (simp [*]; done))) rfl ?_
              refine Ops.nil ?_
              refine thenQ_n ⟨(.cons (congrArg (fun b => some (Value.bool b)) (by first | exact (decide_eq_true hs81).trans (decide_eq_true ⟨hs76, hs81⟩).symm | exact (decide_eq_false hs81).trans (decide_eq_false (show ¬ IsLet p.m from fun h => hs81 h.2)).symm | exact (decide_eq_false (show ¬ IsLet p.m from fun h => hs76 h.1)).symm | exact (decide_eq_false hs76).trans (decide_eq_false (show ¬ IsLet p.m from fun h => hs76 h.1)).symm)) (.cons rfl (.cons rfl (.cons rfl (.cons rfl (.cons rfl .nil)))))), rfl⟩
            · skip
              refine Ops.r (Run.pickT rfl rfl (by first | rfl | assumption | exact decide_eq_true (by assumption) | exact decide_eq_false (by assumption) | decide | (simp; done) | (simp; omega) | (simp [*]; done))) rfl ?_
              refine Ops.nil ?_
              refine thenQ_n ⟨(.cons (congrArg (fun b => some (Value.bool b)) (by first | exact (decide_eq_true hs81).trans (decide_eq_true ⟨hs76, hs81⟩).symm | exact (decide_eq_false hs81).trans (decide_eq_false (show ¬ IsLet p.m from fun h => hs81 h.2)).symm | exact (decide_eq_false (show ¬ IsLet p.m from fun h => hs76 h.1)).symm | exact (decide_eq_false hs76).trans (decide_eq_false (show ¬ IsLet p.m from fun h => hs76 h.1)).symm)) (.cons rfl (.cons rfl (.cons rfl (.cons rfl (.cons rfl .nil)))))), rfl⟩
          · skip
            refine Ops.r (Run.mv rfl) rfl ?_
            refine Ops.sk rfl (by first | rfl | assumption | exact decide_eq_true (by assumption) | exact decide_eq_false (by assumption) | decide | (simp; done) | (simp; omega) | (simp [*]; done)) rfl ?_
            refine Ops.sk rfl (by first | rfl | assumption | exact decide_eq_true (by assumption) | exact decide_eq_false (by assumption) | decide | (simp; done) | (simp; omega) | (simp [*]; done)) rfl ?_
            refine Ops.sk rfl (by first | rfl | assumption | exact decide_eq_true (by assumption) | exact decide_eq_false (by assumption) | decide | (simp; done) | (simp; omega) | (simp [*]; done)) rfl ?_
            refine Ops.sk rfl (by first | rfl | assumption | exact decide_eq_true (by assumption) | exact decide_eq_false (by assumption) | decide | (simp; done) | (simp; omega) | (simp [*]; done)) rfl ?_
            refine Ops.r (Run.pickF rfl rfl (by first | rfl | assumption | exact decide_eq_true (by assumption) | exact decide_eq_false (by assumption) | decide | (simp; done) | (simp; omega) | (simp [*]; done))) rfl ?_
            refine Ops.nil ?_
            refine thenQ_n ⟨(.cons (congrArg (fun b => some (Value.bool b)) (by first | exact (decide_eq_true hs81).trans (decide_eq_true ⟨hs76, hs81⟩).symm | exact (decide_eq_false hs81).trans (decide_eq_false (show ¬ IsLet p.m from fun h => hs81 h.2)).symm | exact (decide_eq_false (show ¬ IsLet p.m from fun h => hs76 h.1)).symm | exact (decide_eq_false hs76).trans (decide_eq_false (show ¬ IsLet p.m from fun h => hs76 h.1)).symm)) (.cons rfl (.cons rfl (.cons rfl (.cons rfl (.cons rfl .nil)))))), rfl⟩
        · intro Γ hΓ
          refine thenQ_n (VC.sub _ hΓ ?_)
          refine VC.condD rfl (fun hc4 => ?_) (fun hc4 => ?_)
          · skip
            obtain ⟨ad6, rfl, hcell⟩ := PP_at hO.rd hl1i
            have hset := PP_set l1 l.length 0 hl1i (by omega) (.int .i64 2) ({ l1[l.length].1 with kind := 2 }, l1[l.length].2) rfl
            refine VC.seq ?_
            refine VC.region ?_
            refine Ops.r (Run.mv rfl) rfl ?_
            refine Ops.r (Run.nilck rfl) rfl ?_
            refine Ops.r (Run.fieldAddr rfl Tryz.underlying99 rfl Tryz.sizeOf60 (by decide)) rfl ?_
            refine Ops.r (Run.load rfl Tryz.isAgg60 (hbg.cell 1)) rfl ?_
            refine Ops.r (Run.mv rfl) rfl ?_
            refine Ops.r (Run.indexS l.length rfl rfl Tryz.underlying60 Tryz.sizeOf69 hl1i) rfl ?_
            refine Ops.r (Run.fieldAddr rfl Tryz.underlying69 rfl Tryz.sizeOf3 (by decide)) rfl ?_
            refine Ops.st (Acts.storeOwn (l.length * 9 + 0) (congrArg (fun a => some (Value.pointer (some a))) (add_add ad6 _ 0)) rfl Tryz.sizeOf3 hO rfl (by omega) rfl) ?_
            rintro w9 ⟨hO9, hf9, _⟩
            rw [hset] at hO9
            have hng9 := hO.ne_blk hbg (by decide)
            have hPs9 := OwnPs.set (x := ({ l1[l.length].1 with kind := 2 }, l1[l.length].2)) (hPs.own hf9 hO (by decide)) hl1i rfl rfl
            have hbg9 := hbg.frm hf9 hng9
            have hbp := hbp.frm hf9 hgp6
            have hm9 := setK_map l1 l.length 2 hl1i
            have K := K.trans hf9 (fun y hy => by rcases hub6 y hy with h | h; exact .inl (by simp [h]); exact .inr h)
            have hl2l : (l1.set l.length ({ l1[l.length].1 with kind := 2 }, l1[l.length].2)).length = l1.length := List.length_set
            obtain ⟨l2, hl2⟩ : ∃ l2 : List Pc, l1.set l.length ({ l1[l.length].1 with kind := 2 }, l1[l.length].2) = l2 := ⟨_, rfl⟩
            rw [hl2] at hO9 hPs9 hm9 hl2l
            have hk2 : KidsOk (l2.map (·.1)) := by rw [hm9]; exact setK_kids hk1
            rw [← hl2l] at hO9 hbg9
            refine Ops.nil ?_
            refine thenQ_n ?_
            refine VC.sub [(0, _), (2, _), (4, _), (13, _), (14, _)] (.cons rfl (.cons rfl (.cons rfl (.cons rfl (.cons rfl .nil))))) ?_
            refine VC.seq ?_
            refine VC.region ?_
            refine Ops.r (Run.mv rfl) rfl ?_
            refine Ops.r (Run.fieldAddr rfl Tryz.underlying69 rfl Tryz.sizeOf3 (by decide)) rfl ?_
            refine Ops.r (Run.load rfl Tryz.isAgg3 (hbp.cell 2)) rfl ?_
            refine Ops.r (Run.mv rfl) rfl ?_
            refine Ops.r (Run.mv rfl) rfl ?_
            refine Ops.r (Run.mv rfl) rfl ?_
            refine Ops.r (Run.bin rfl rfl (Bin.add_i64 nest 1 (by omega))) rfl ?_
            refine Ops.cl (Enters.fn (evs.cons rfl (evs.cons rfl (evs.cons rfl (evs.cons rfl (evs.cons rfl (evs.cons rfl evs.nil)))))) Tryz.call68) ((ih n' (by omega) (nest + 1) (by omega) g A c q l2 (some ad6) lc6 p.body tu (l.length : Int) false _ (hrdK K) hq hc hpbt htl (by omega) (by omega) (by omega) hk2 hbg9 hO9 hPs9 (hdisK hub6))) rfl ?_
            rintro e w10 ⟨rfl, l3, LA3, lc3, hm3, hbg3, hO3, hPs3, hf3, hub3⟩
            refine ⟨_, rfl, ?_⟩
            have hKs := K.size
            have K3 := K.trans hf3 (fun y hy => by rcases List.mem_cons.1 hy with h | h; exact .inl (by simp [h]); rcases hub6 y h with h | h; exact .inl (by simp [h]); exact .inr h)
            have hub3' : ∀ x ∈ ob LA3, x ∈ ob LA ∨ w.heap.size ≤ x := fun x hx => by
              rcases hub3 x hx with h | h
              · exact hub6 x h
              · exact .inr (by omega)
            refine Ops.nil ?_
            refine thenQ_n ?_
            refine VC.sub [] .nil ?_
            refine VC.ret ?_
            refine thenQ_r (end0 ?_)
            exact ⟨rfl, l3, LA3, lc3, by rw [hm3, hm9, hnl hc4], hbg3, hO3, hPs3, K3, hub3'⟩
          · skip
            refine VC.skip ?_
            refine thenQ_n ?_
            refine VC.sub [(0, _), (2, _), (4, _), (13, _), (14, _)] (.cons rfl (.cons rfl (.cons rfl (.cons rfl (.cons rfl .nil))))) ?_
            refine VC.seq ?_
            refine VC.region ?_
            refine Ops.r (Run.fieldAddr rfl Tryz.underlying69 rfl Tryz.sizeOf67 (by decide)) rfl ?_
            refine Ops.r (Run.loadA rfl Tryz.isAgg67 Tryz.sizeOf67 (loadM hbp) (by first | rfl | (simp; done))) rfl ?_
            refine Ops.cl (Enters.fn (evs.cons rfl (evs.cons rfl evs.nil)) Tryz.call105) ((find_spec p.m MA mc bndT _ hMO.rd (by omega))) rfl ?_
            rintro e w9 ⟨hf9, rfl⟩
            refine ⟨_, rfl, ?_⟩
            have hbg := hbg.frm hf9 (by simp)
            have hbp := hbp.frm hf9 (by simp)
            have hO := hO.frm hf9 (by simp)
            have hPs := hPs.frm0 hf9
            have K := K.trans hf9 (by simp)
            refine Ops.r (Run.mv rfl) rfl ?_
            refine Ops.r (Run.extract rfl rfl) rfl ?_
            refine Ops.r (Run.extract rfl rfl) rfl ?_
            refine Ops.r (Run.asg rfl) rfl ?_
            refine Ops.r (Run.asg rfl) rfl ?_
            refine Ops.nil ?_
            refine thenQ_n ?_
            refine VC.sub [(0, _), (2, _), (4, _), (13, _), (14, _), (15, _)] (.cons rfl (.cons rfl (.cons rfl (.cons rfl (.cons rfl (.cons rfl .nil)))))) ?_
            refine VC.seq ?_
            refine VC.seq ?_
            refine VC.split1 [(0, _), (2, _), (4, _), (13, _), (14, _), (15, _)] (.cons rfl (.cons rfl (.cons rfl (.cons rfl (.cons rfl (.cons rfl .nil)))))) 111 (.bool (decide (p.m.ty ≠ multT ∨ (findQ p.m.ps bndT).1 = []))) ?_ ?_
            · refine VC.region ?_
              refine Ops.r (Run.fieldAddr rfl Tryz.underlying69 rfl Tryz.sizeOf67 (by decide)) rfl ?_
              refine Ops.r (Run.fieldAddr rfl Tryz.underlying67 rfl Tryz.sizeOf9 (by decide)) rfl ?_
              refine Ops.r (Run.load rfl Tryz.isAgg9 (loadM hbp 0 _ rfl)) rfl ?_
              refine Ops.r (Run.neqT rfl rfl) rfl ?_
              by_cases hs107 : p.m.ty ≠ multT
              · skip
                refine Ops.r (Run.mv rfl) rfl ?_
                refine Ops.sk rfl (by first | rfl | assumption | exact decide_eq_true (by assumption) | exact decide_eq_false (by assumption) | decide | (simp; done) | (simp; omega) | (simp [*]; done)) rfl ?_
                refine Ops.sk rfl (by first | rfl | assumption | exact decide_eq_true (by assumption) | exact decide_eq_false (by assumption) | decide | (simp; done) | (simp; omega) | (simp [*]; done)) rfl ?_
                refine Ops.r (Run.pickT rfl rfl (by first | rfl | assumption | exact decide_eq_true (by assumption) | exact decide_eq_false (by assumption) | decide | (simp; done) | (simp; omega) | (simp [*]; done))) rfl ?_
                refine Ops.nil ?_
                refine thenQ_n ⟨(.cons (congrArg (fun b => some (Value.bool b)) (by first | (simp [hs107, hs110]; done) | (simp [hs107]; done))) (.cons rfl (.cons rfl (.cons rfl (.cons rfl (.cons rfl (.cons rfl .nil))))))), rfl⟩
              · skip
                refine Ops.r (Run.mv rfl) rfl ?_
                refine Ops.rg rfl (by first | rfl | assumption | exact decide_eq_true (by assumption) | exact decide_eq_false (by assumption) | decide | (simp; done) | (simp; omega) | (simp [*]; done)) (Run.mv rfl) rfl ?_
                refine Ops.rg rfl (by first | rfl | assumption | exact decide_eq_true (by assumption) | exact decide_eq_false (by assumption) | decide | (simp; done) | (simp; omega) | (simp [*]; done)) (Run.eqlT rfl rfl) rfl ?_
                by_cases hs110 : (findQ p.m.ps bndT).1 = []
                · skip
                  refine Ops.r (Run.pickF rfl rfl (by first | rfl | assumption | exact decide_eq_true (by assumption) | exact decide_eq_false (by assumption) | decide | (simp; done) | (simp; omega) | (simp [*]; done))) rfl ?_
                  refine Ops.nil ?_
                  refine thenQ_n ⟨(.cons (congrArg (fun b => some (Value.bool b)) (by first | (simp [hs107, hs110]; done) | (simp [hs107]; done))) (.cons rfl (.cons rfl (.cons rfl (.cons rfl (.cons rfl (.cons rfl .nil))))))), rfl⟩
                · skip
                  refine Ops.r (Run.pickF rfl rfl (by first | rfl | assumption | exact decide_eq_true (by assumption) | exact decide_eq_false (by assumption) | decide | (simp; done) | (simp; omega) | (simp [*]; done))) rfl ?_
                  refine Ops.nil ?_
                  refine thenQ_n ⟨(.cons (congrArg (fun b => some (Value.bool b)) (by first | (simp [hs107, hs110]; done) | (simp [hs107]; done))) (.cons rfl (.cons rfl (.cons rfl (.cons rfl (.cons rfl (.cons rfl .nil))))))), rfl⟩
            · intro Γ hΓ
              refine thenQ_n (VC.sub _ hΓ ?_)
              refine VC.condD rfl (fun hc5 => ?_) (fun hc5 => ?_)
              · skip
                refine VC.ret ?_
                refine thenQ_r (end0 ?_)
                exact ⟨rfl, l1, LA6, lc6, (hnp hc4 hc5).symm, hbg, hO, hPs, K, hub6⟩
              · skip
                refine VC.skip ?_
                refine thenQ_n ?_
                refine VC.sub [(0, _), (2, _), (4, _), (13, _), (14, _), (15, _)] (.cons rfl (.cons rfl (.cons rfl (.cons rfl (.cons rfl (.cons rfl .nil)))))) ?_
                refine VC.seq ?_
                refine VC.held (fun V => Frm [] w9 V) (by kernel_rfl) ?_
                have hS0 : Frm [] w9 w9.drew := (Frm.refl [] w9).drew
                have hS := hS0
                have hbgv := hbg
                have hbpv := hbp
                have hO := hO.frm hS0 (by simp)
                have hbg := hbg.frm hS0 (by simp)
                have hbp := hbp.frm hS0 (by simp)
                have hPs := hPs.frm0 hS0
                have K := K.drew
                refine HOps.take 0 rfl (by kernel_rfl) (by kernel_rfl) (by kernel_rfl) hS (fun w0 hw0 => Run.mv rfl) trivial rfl rfl ?_
                refine HOps.take 1 rfl (by kernel_rfl) (by kernel_rfl) (by kernel_rfl) hS (fun w0 hw0 => Run.nilck rfl) trivial rfl rfl ?_
                refine HOps.take 2 rfl (by kernel_rfl) (by kernel_rfl) (by kernel_rfl) hS (fun w0 hw0 => Run.fieldAddr rfl Tryz.underlying99 rfl Tryz.sizeOf22 (by decide)) trivial rfl rfl ?_
                refine HOps.take 3 rfl (by kernel_rfl) (by kernel_rfl) (by kernel_rfl) hS (fun w0 hw0 => Run.load rfl Tryz.isAgg22 ((hbgv.frm hw0 (by simp)).cell 0)) trivial rfl rfl ?_
                refine HOps.take 4 rfl (by kernel_rfl) (by kernel_rfl) (by kernel_rfl) hS (fun w0 hw0 => Run.fieldAddr rfl Tryz.underlying69 rfl Tryz.sizeOf3 (by decide)) trivial rfl rfl ?_
                refine HOps.take 5 rfl (by kernel_rfl) (by kernel_rfl) (by kernel_rfl) hS (fun w0 hw0 => Run.load rfl Tryz.isAgg3 ((hbpv.frm hw0 (by simp)).cell 2)) trivial rfl rfl ?_
                refine HOps.take 6 rfl (by kernel_rfl) (by kernel_rfl) (by kernel_rfl) hS (fun w0 hw0 => Run.mv rfl) trivial rfl rfl ?_
                refine HOps.take 7 rfl (by kernel_rfl) (by kernel_rfl) (by kernel_rfl) hS (fun w0 hw0 => Run.mv rfl) trivial rfl rfl ?_
                refine HOps.take (v := .int .i64 ((0 : Nat) : Int)) 10 rfl (by kernel_rfl) (by kernel_rfl) (by kernel_rfl) hS (fun w0 hw0 => Run.mv rfl) trivial rfl rfl ?_
                refine HOps.cl 8 rfl (by kernel_rfl) (Enters.fn (evs.cons rfl (evs.cons rfl (evs.cons rfl (evs.cons rfl evs.nil)))) Tryz.call106) ((spans_spec A c q (findQ p.m.ps bndT).1 p.body tu _ (hrdK K) (by omega) hc (by omega) hpbt htl)) trivial rfl rfl ?_
                rintro e w10 ⟨hf10, SA, sc, rfl, hSO, hSub⟩
                have hbg := hbg.frm hf10 (by simp)
                have hbp := hbp.frm hf10 (by simp)
                have hO := hO.frm hf10 (by simp)
                have hPs := hPs.frm0 hf10
                have K := K.trans hf10 (by simp)
                have hspo := spansQ_ok (s := q) (bd := (findQ p.m.ps bndT).1) hpbt htl
                have hspc := spansQ_count q (findQ p.m.ps bndT).1 p.body tu
                have hnm := hnm hc4 hc5
                generalize spansQ q (findQ p.m.ps bndT).1 p.body tu = sp at *
                have hS := hS.trans hf10 (by simp)
                refine ⟨_, rfl, hS, ?_⟩
                refine HOps.take 9 rfl (by kernel_rfl) (by kernel_rfl) (by kernel_rfl) hS (fun w0 hw0 => Run.lenS rfl Tryz.underlying134) trivial rfl rfl ?_
                refine HOps.done (by kernel_rfl) ?_
                refine thenQ_n ?_
                refine VC.sub [(0, _), (4, _), (13, _), (14, _), (120, _), (121, _), (122, _)] (.cons rfl (.cons rfl (.cons rfl (.cons rfl (.cons rfl (.cons rfl (.cons rfl .nil))))))) ?_
                refine VC.block ?_
                refine VC.loop (σ := Nat × List Pc × Option Addr × Nat) (fun s => [(0, .pointer (some ⟨g, 0, none⟩)), (4, .int .i64 ((nest : Nat) : Int)), (13, .int .i64 ((l.length : Nat) : Int)), (14, .pointer (some ⟨gp, 0, none⟩)), (120, .slice SA sp.length sc), (121, .int .i64 ((sp.length : Nat) : Int)), (122, .int .i64 ((s.1 : Nat) : Int))]) (fun s wr => s.1 ≤ sp.length ∧ s.2.1.map (·.1) = (sp.take s.1).foldl (fun acc x => fndQ q n' (setK acc l.length 1) x.1 x.2 (l.length : Int) (decide (p.m.sub = digT))) (l1.map (·.1)) ∧ l.length < s.2.1.length ∧ s.2.1.length ≤ 64 ∧ KidsOk (s.2.1.map (·.1)) ∧ Own wr 69 9 s.2.2.1 s.2.1.length s.2.2.2 (PP s.2.1) ∧ OwnPs wr s.2.1 ∧ Blk wr g 99 #[.slice A q.length c, .slice s.2.2.1 s.2.1.length s.2.2.2] ∧ Blk wr gp 69 (PP1 (p, MA, mc)).toArray ∧ Own wr 136 2 SA sp.length sc (PN sp) ∧ Frm (g :: ob LA) w wr ∧ (∀ x ∈ ob s.2.2.1, x ∈ ob LA ∨ w.heap.size ≤ x) ∧ gp ∉ ob s.2.2.1) (fun s => sp.length - s.1) (0, l1, LA6, lc6) (.cons rfl (.cons rfl (.cons rfl (.cons rfl (.cons rfl (.cons rfl (.cons rfl .nil))))))) ⟨by omega, rfl, hl1i, by show l1.length ≤ 64; omega, hk1, hO, hPs, hbg, hbp, hSO, K, hub6, hgp6⟩ ?_
                rintro ⟨j, l2, LA2, lc2⟩ wr ⟨hj, hm2, hl2a, hl2b, hk2, hO, hPs, hbg, hbp, hSO, K, hub2, hgp2⟩
                dsimp only at hj hm2 hl2a hl2b hk2 hO hPs hbg hbp hSO K hub2 hgp2 ⊢
                refine VC.seq ?_
                refine VC.region ?_
                refine Ops.r (Run.bin rfl rfl (Bin.lssN _ _)) rfl ?_
                refine Ops.nil ?_
                refine thenQ_n ?_
                refine VC.seq ?_
                refine VC.condD rfl (fun hc6 => ?_) (fun hc6 => ?_)
                · skip
                  obtain ⟨adS, rfl, hcS⟩ := PN_at hSO.rd hc6
                  have hfs := foldl_snoc' (fun acc x => fndQ q n' (setK acc l.length 1) x.1 x.2 (l.length : Int) (decide (p.m.sub = digT))) (l1.map (·.1)) sp j hc6
                  rw [← hm2] at hfs
                  have hxo := hspo sp[j] (List.getElem_mem hc6)
                  generalize hx : sp[j] = x at *
                  have lgp := hbp.lt
                  have lgg := hbg.lt
                  have lSO := hSO.lt
                  have lOO := hO.lt
                  refine VC.skip ?_
                  refine thenQ_n ?_
                  refine VC.sub [(0, _), (4, _), (13, _), (14, _), (120, _), (121, _), (122, _)] (.cons rfl (.cons rfl (.cons rfl (.cons rfl (.cons rfl (.cons rfl (.cons rfl .nil))))))) ?_
                  refine VC.seq ?_
                  refine VC.block ?_
                  refine VC.seq ?_
                  refine VC.region ?_
                  refine Ops.r (Run.indexS j rfl rfl Tryz.underlying134 Tryz.sizeOf136 hc6) rfl ?_
                  refine Ops.r (Run.loadA rfl Tryz.isAgg136 Tryz.sizeOf136 hcS (by first | rfl | (simp; done))) rfl ?_
                  refine Ops.m (Does.alloc zero136) rfl ?_
                  rintro _ V1 ⟨rfl, hF1⟩
                  have hb18 := hF1.blk
                  have hg18 : wr.heap.size < V1.heap.size := hb18.lt
                  have hO := hO.frm hF1.frm (by simp)
                  have hPs := hPs.frm0 hF1.frm
                  have hbg := hbg.frm hF1.frm (by simp)
                  have hbp := hbp.frm hF1.frm (by simp)
                  have hSO := hSO.frm hF1.frm (by simp)
                  have sKr := K.size
                  have K := K.trans hF1.frm (by simp)
                  generalize hg18e : wr.heap.size = g18 at *
                  have hb18o := hb18
                  refine Ops.st (Acts.storeA rfl rfl Tryz.sizeOf136 hb18 rfl (PN1_one x)) ?_
                  rintro V2 ⟨hb18n, hf2, _⟩
                  have hb18 : Blk V2 g18 136 (PN1 x).toArray := hb18n
                  have hO := hO.frm hf2 (fun y hy => by have := lOO y hy; simp; omega)
                  have hPs := hPs.blk hf2 hb18o (by decide)
                  have hbg := hbg.frm hf2 (by simp; omega)
                  have hbp := hbp.frm hf2 (by simp; omega)
                  have hSO := hSO.frm hf2 (fun y hy => by have := lSO y hy; simp; omega)
                  have K := K.trans hf2 (fun y hy => by simp at hy; exact .inr (by omega))
                  have hl2i : l.length < l2.length := hl2a
                  obtain ⟨ad2, rfl, hcell⟩ := PP_at hO.rd hl2i
                  have hset := PP_set l2 l.length 0 hl2i (by omega) (.int .i64 1) ({ l2[l.length].1 with kind := 1 }, l2[l.length].2) rfl
                  refine Ops.nil ?_
                  refine thenQ_n ?_
                  refine VC.sub [(0, _), (4, _), (13, _), (14, _), (18, _), (120, _), (121, _), (122, _)] (.cons rfl (.cons rfl (.cons rfl (.cons rfl (.cons rfl (.cons rfl (.cons rfl (.cons rfl .nil)))))))) ?_
                  refine VC.seq ?_
                  refine VC.region ?_
                  refine Ops.r (Run.mv rfl) rfl ?_
                  refine Ops.r (Run.nilck rfl) rfl ?_
                  refine Ops.r (Run.fieldAddr rfl Tryz.underlying99 rfl Tryz.sizeOf60 (by decide)) rfl ?_
                  refine Ops.r (Run.load rfl Tryz.isAgg60 (hbg.cell 1)) rfl ?_
                  refine Ops.r (Run.mv rfl) rfl ?_
                  refine Ops.r (Run.indexS l.length rfl rfl Tryz.underlying60 Tryz.sizeOf69 hl2i) rfl ?_
                  refine Ops.r (Run.fieldAddr rfl Tryz.underlying69 rfl Tryz.sizeOf3 (by decide)) rfl ?_
                  refine Ops.st (Acts.storeOwn (l.length * 9 + 0) (congrArg (fun a => some (Value.pointer (some a))) (add_add ad2 _ 0)) rfl Tryz.sizeOf3 hO rfl (by omega) rfl) ?_
                  rintro V3 ⟨hO3, hf3, _⟩
                  rw [hset] at hO3
                  have hng3 := hO.ne_blk hbg (by decide)
                  have hPs3 := OwnPs.set (x := ({ l2[l.length].1 with kind := 1 }, l2[l.length].2)) (hPs.own hf3 hO (by decide)) hl2i rfl rfl
                  have hbg3 := hbg.frm hf3 hng3
                  have hbp := hbp.frm hf3 hgp2
                  have hb18 := hb18.frm hf3 (fun hm => by have := lOO _ hm; omega)
                  have hSO := hSO.own' hf3 hO (by decide)
                  have hm3 := setK_map l2 l.length 1 hl2i
                  have K := K.trans hf3 (fun y hy => by rcases hub2 y hy with h | h; exact .inl (by simp [h]); exact .inr h)
                  have hl3l : (l2.set l.length ({ l2[l.length].1 with kind := 1 }, l2[l.length].2)).length = l2.length := List.length_set
                  obtain ⟨l3, hl3⟩ : ∃ l3 : List Pc, l2.set l.length ({ l2[l.length].1 with kind := 1 }, l2[l.length].2) = l3 := ⟨_, rfl⟩
                  rw [hl3] at hO3 hPs3 hm3 hl3l
                  have hk3 : KidsOk (l3.map (·.1)) := by rw [hm3]; exact setK_kids hk2
                  rw [← hl3l] at hO3 hbg3
                  refine Ops.nil ?_
                  refine thenQ_n ?_
                  refine VC.sub [(0, _), (4, _), (13, _), (14, _), (18, _), (120, _), (121, _), (122, _)] (.cons rfl (.cons rfl (.cons rfl (.cons rfl (.cons rfl (.cons rfl (.cons rfl (.cons rfl .nil)))))))) ?_
                  refine VC.region ?_
                  refine Ops.r (Run.mv rfl) rfl ?_
                  refine Ops.r (Run.indexA1 0 rfl rfl Tryz.underlying136 Tryz.sizeOf3 (by omega)) rfl ?_
                  refine Ops.r (Run.load rfl Tryz.isAgg3 (hb18.cell 0)) rfl ?_
                  refine Ops.r (Run.indexA1 1 rfl rfl Tryz.underlying136 Tryz.sizeOf3 (by omega)) rfl ?_
                  refine Ops.r (Run.load rfl Tryz.isAgg3 (hb18.cell 1)) rfl ?_
                  refine Ops.r (Run.mv rfl) rfl ?_
                  refine Ops.r (Run.mv rfl) rfl ?_
                  refine Ops.r (Run.bin rfl rfl (Bin.add_i64 nest 1 (by omega))) rfl ?_
                  refine Ops.r (Run.fieldAddr rfl Tryz.underlying69 rfl Tryz.sizeOf67 (by decide)) rfl ?_
                  refine Ops.r (Run.fieldAddr rfl Tryz.underlying67 rfl Tryz.sizeOf9 (by decide)) rfl ?_
                  refine Ops.r (Run.load rfl Tryz.isAgg9 (loadM hbp 1 _ rfl)) rfl ?_
                  refine Ops.r (Run.eqlT rfl rfl) rfl ?_
                  refine Ops.cl (Enters.fn (evs.cons rfl (evs.cons rfl (evs.cons rfl (evs.cons rfl (evs.cons rfl (evs.cons rfl evs.nil)))))) Tryz.call68) ((ih n' (by omega) (nest + 1) (by omega) g A c q l3 (some ad2) lc2 x.1 x.2 (l.length : Int) (decide (p.m.sub = digT)) _ (hrdK K) hq hc (by omega) (by omega) (by omega) (by omega) (by omega) hk3 hbg3 hO3 hPs3 (hdisK hub2))) rfl ?_
                  rintro e V4 ⟨rfl, l4, LA4, lc4, hm4, hbg4, hO4, hPs4, hf4, hub4⟩
                  refine ⟨_, rfl, ?_⟩
                  have hKs := K.size
                  have hng3' := hO3.ne_blk hbg3 (by decide)
                  have hfl := fnd_len q n' (l3.map (·.1)) x.1 x.2 (l.length : Int) (decide (p.m.sub = digT)) (by rw [List.length_map]; omega)
                  rw [← hm4, List.length_map, List.length_map] at hfl
                  have hk4 : KidsOk (l4.map (·.1)) := by rw [hm4]; exact fnd_kids q _ _ _ _ _ _ hk3
                  have hsz3 := hf3.size
                  have hbp := hbp.frm hf4 (by simp only [List.mem_cons, not_or]; exact ⟨by omega, hgp2⟩)
                  have hSO4 := hSO.frm hf4 (fun y hy => by
                    have h1 := hSO.ne_own hO3 (by decide) y hy
                    have h2 := hSO.ne_blk hbg3 (by decide)
                    simp only [List.mem_cons, not_or]
                    exact ⟨by rintro rfl; exact h2 hy, h1⟩)
                  have K4 := K.trans hf4 (fun y hy => by rcases List.mem_cons.1 hy with h | h; exact .inl (by simp [h]); rcases hub2 y h with h | h; exact .inl (by simp [h]); exact .inr h)
                  have hub4' : ∀ x ∈ ob LA4, x ∈ ob LA ∨ w.heap.size ≤ x := fun x hx => by
                    rcases hub4 x hx with h | h
                    · exact hub2 x h
                    · exact .inr (by omega)
                  have hgp4 : gp ∉ ob LA4 := fun hm => by
                    rcases hub4 gp hm with h | h
                    · exact hgp2 h
                    · have := hf2.size; omega
                  refine Ops.nil ?_
                  refine blockQ_n (thenQ_n ?_)
                  refine VC.sub [(0, _), (4, _), (13, _), (14, _), (120, _), (121, _), (122, _)] (.cons rfl (.cons rfl (.cons rfl (.cons rfl (.cons rfl (.cons rfl (.cons rfl .nil))))))) ?_
                  refine VC.region ?_
                  refine Ops.r (Run.bin rfl rfl (Bin.add_i64 _ 1 (by omega))) rfl ?_
                  refine Ops.r (Run.mv rfl) rfl ?_
                  refine Ops.nil ?_
                  refine thenQ_n ⟨(j + 1, l4, LA4, lc4), (.cons rfl (.cons rfl (.cons rfl (.cons rfl (.cons rfl (.cons rfl (.cons rfl .nil))))))), ?_, ?_⟩
                  · skip
                    refine ⟨hc6, ?_, by show l.length < l4.length; omega, by show l4.length ≤ 64; omega, hk4, hO4, hPs4, hbg4, hbp, hSO4, K4, hub4', hgp4⟩
                    rw [hfs, hm4, hm3]
                  · skip
                    first | omega | (dsimp only; omega)
                · skip
                  have hje : j = sp.length := by omega
                  subst hje
                  rw [List.take_length, ← hnm] at hm2
                  refine VC.exit ?_
                  refine thenQ_x (thenQ_x (blockQ_x ?_))
                  refine end0n ?_
                  exact ⟨rfl, l2, LA2, lc2, hm2, hbg, hO, hPs, K, hub2⟩

theorem find_all (n : Nat) : FindAt n := Nat.strongRecOn n (fun n ih => find_step n ih)

end Go.Proofs.YtenbjndldenkfaaGreatDoor

namespace Go.Proofs.YtenbjndldenkfaaGreatDoor
open Go.RowKit
section
variable {P : Program} {Γ : Env} {w : World} {dst : Option Tmp} {pos : String} {after : Array Edge} {g : Option (Nat × Bool)} {T : TypeId}
/-- A conversion of a row to its own type marks its block. -/
theorem Does.mark {t e : TypeId} {x : Operand} {gb n c : Nat} {cs : Array Value} (hx : ev? Γ x = some (.slice (some ⟨gb, 0, none⟩) n c)) (ht : P.underlying t = some (.slice e)) (he : P.underlying e = some (.int .u8)) (hb : Blk w gb e cs) :
    Does P ⟨dst, .convert t t x, T, pos, after, g⟩ Γ w (fun r w' => r = .slice (some ⟨gb, 0, none⟩) n c ∧ Fro w' gb e cs ∧ Frm [gb] w w') := fun ρ hρ => by
  have hsh : w.shape? gb = some (e, cs.size) := by
    unfold Blk at hb
    unfold World.shape?
    rw [hb]
  refine ⟨.slice (some ⟨gb, 0, none⟩) n c, w.freeze ⟨gb, cs.size, none⟩ 1, ?_, rfl, ?_, ?_⟩
  · simp [execOp, hρ _ _ hx, convert, run_underlying ht, run_underlying he, markStringish, hsh]
  · unfold Blk at hb
    unfold Fro World.freeze
    rw [if_neg (by decide)]
    show (w.heap.modify gb _)[gb]? = _
    rw [Array.getElem?_modify, if_pos rfl, hb]
    rfl
  · refine ⟨?_, ?_, ?_, ?_, ?_⟩
    · unfold World.freeze; rw [if_neg (by decide)]
    · unfold World.freeze; rw [if_neg (by decide)]
    · unfold World.freeze; rw [if_neg (by decide)]
    · unfold World.freeze; rw [if_neg (by decide)]; simp
    · intro i hi hni
      unfold World.freeze
      rw [if_neg (by decide)]
      show (w.heap.modify gb _)[i]? = _
      rw [Array.getElem?_modify, if_neg (fun h => hni (by simp [h]))]
/-- A row of one's own, or one that is marked and full. -/
def OwnF (w : World) (e : TypeId) (A : Option Addr) (n c : Nat) (xs : List Value) : Prop := Own w e 1 A n c xs ∨ ∃ (gb : Nat) (cs : Array Value), A = some ⟨gb, 0, none⟩ ∧ c = n ∧ cs.toList = xs ∧ xs.length = n ∧ Fro w gb e cs
theorem OwnF.frm {w w' : World} {S : List Nat} {e n c : Nat} {A : Option Addr} {xs : List Value} (h : OwnF w e A n c xs) (k : Frm S w w') (hS : ∀ x ∈ ob A, x ∉ S) : OwnF w' e A n c xs := by
  rcases h with h | ⟨gb, cs, rfl, h1, h2, h3, h4⟩
  · exact .inl (h.frm k hS)
  · exact .inr ⟨gb, cs, rfl, h1, h2, h3, h4.frm k (hS gb (by simp [ob]))⟩
theorem OwnF.lt {w : World} {e n c : Nat} {A : Option Addr} {xs : List Value} (h : OwnF w e A n c xs) : ∀ x ∈ ob A, x < w.heap.size := by
  rcases h with h | ⟨gb, cs, rfl, h1, h2, h3, h4⟩
  · exact h.lt
  · simpa [ob] using h4.lt
theorem OwnF.cells {w : World} {e n c gb : Nat} {cs : Array Value} {xs : List Value} (h2 : cs.toList = xs) (h4 : Fro w gb e cs) : ∀ j u, xs[j]? = some u → w.cell? ((⟨gb, 0, none⟩ : Addr).add j) = some u := by
  intro j u hu
  have e1 : (⟨gb, 0, none⟩ : Addr).add j = ⟨gb, j, none⟩ := by unfold Addr.add; split <;> simp_all
  rw [e1, h4.cell, ← hu, ← h2, Array.getElem?_toList]
theorem OwnF.rd {w : World} {e n c : Nat} {A : Option Addr} {xs : List Value} (h : OwnF w e A n c xs) : Rd w 1 A n xs := by
  rcases h with h | ⟨gb, cs, rfl, h1, h2, h3, h4⟩
  · exact h.rd
  · exact ⟨by omega, fun hn => ⟨_, rfl, h4.lt, OwnF.cells (n := n) (c := c) h2 h4⟩⟩
theorem OwnF.le {w : World} {e n c : Nat} {A : Option Addr} {xs : List Value} (h : OwnF w e A n c xs) : n ≤ c := by
  rcases h with h | ⟨gb, cs, rfl, h1, h2, h3, h4⟩
  · exact h.le
  · omega
theorem OwnF.ne_blk {w : World} {e t n c gb : Nat} {A : Option Addr} {xs : List Value} {cs : Array Value} (h : OwnF w e A n c xs) (hb : Blk w gb t cs) (hne : e ≠ t) : gb ∉ ob A := by
  rcases h with h | ⟨g2, cs2, rfl, h1, h2, h3, h4⟩
  · exact h.ne_blk hb hne
  · intro hm
    simp only [ob, List.mem_singleton] at hm
    subst hm
    unfold Fro at h4
    unfold Blk at hb
    rw [h4] at hb
    injection hb with hb
    injection hb with _ hb _
    exact hne hb
end
end Go.Proofs.YtenbjndldenkfaaGreatDoor

namespace Go.Proofs.YtenbjndldenkfaaGreatDoor
open Go.RowKit Go.Sort

theorem PP_get {w : World} {ad : Addr} {l : List Pc} {k : Nat} (h : Rd w 9 (some ad) l.length (PP l)) (hk : k < l.length) : ∀ j v, (PP1 l[k])[j]? = some v → w.cell? ((ad.add (k * 9)).add j) = some v := by
  obtain ⟨ad', e, h⟩ := PP_at h hk
  cases e
  exact h

set_option maxRecDepth 100000 in
theorem all_spec (A : Option Addr) (c : Nat) (q : Tx) (w : World) (hrd : Rd w 1 A q.length (U8 q)) (hq : q.length ≤ 400000) (hc : q.length ≤ c) :
    Calls Tryz.prog 38 #[.slice A q.length c] w fun e w' => Frm [] w w' ∧ ∃ (l : List Pc) (LA : Option Addr) (lc : Nat), l.map (·.1) = partsQ q ∧ e = .returned (.slice LA l.length lc) ∧ Own w' 69 9 LA l.length lc (PP l) ∧ OwnPs w' l ∧ ∀ x ∈ ob LA, w.heap.size ≤ x := by
  refine VC.calls (nt := 15) (res := #[.tmp 2]) Tryz.func38 rfl Tryz.ntmps38 Tryz.results38 rfl ?_
  refine VC.seq ?_
  refine VC.region ?_
  refine Ops.r (Run.asg rfl) rfl ?_
  refine Ops.nil ?_
  refine thenQ_n ?_
  refine VC.sub [(0, _)] (.cons rfl .nil) ?_
  refine VC.seq ?_
  refine VC.region ?_
  refine Ops.r (Run.mv rfl) rfl ?_
  refine Ops.r (Run.build (evs.cons rfl evs.nil) zero99 (places99).choose_spec.1 (places99).choose_spec.2 rfl) rfl ?_
  refine Ops.m (Does.box rfl) rfl ?_
  rintro _ w1 ⟨rfl, hF1⟩
  have hbg : Blk w1 w.heap.size 99 #[.slice A q.length c, .slice none 0 0] := hF1.blk
  have K := hF1.frm
  have hlt := hbg.lt
  refine Ops.r (Run.asg rfl) rfl ?_
  refine Ops.nil ?_
  refine thenQ_n ?_
  refine VC.sub [(0, _), (3, _)] (.cons rfl (.cons rfl .nil)) ?_
  refine VC.seq ?_
  refine VC.region ?_
  refine Ops.r (Run.mv rfl) rfl ?_
  refine Ops.r (Run.mv rfl) rfl ?_
  refine Ops.r (Run.lenS rfl Tryz.underlying22) rfl ?_
  refine Ops.cl (Enters.fn (evs.cons rfl (evs.cons rfl (evs.cons rfl (evs.cons rfl (evs.cons rfl (evs.cons rfl evs.nil)))))) Tryz.call68) ((find_all 6 0 rfl w.heap.size A c q [] none 0 0 q.length (-1) false _ (hrd.frm K (by simp)) hq hc (Nat.zero_le _) (Nat.le_refl _) (by simp) (by omega) (by simp) (by intro i x hx; simp at hx) hbg (Own.nil _ _ _) (by intro x hx; simp at hx) (fun x hx => ⟨by have := hrd.lt (obN_mem hx).1 x (obN_mem hx).2; omega, by simp [ob]⟩))) rfl ?_
  rintro e w2 ⟨rfl, l, LA, lc, hm, hbg, hO, hPs, hf2, hub⟩
  refine ⟨_, rfl, ?_⟩
  have K2 := Frm.own K hf2 (fun y hy => by simp [ob] at hy; omega)
  have hm : l.map (·.1) = partsQ q := hm
  refine Ops.nil ?_
  refine thenQ_n ?_
  refine VC.sub [(3, _)] (.cons rfl .nil) ?_
  refine VC.seq ?_
  refine VC.region ?_
  refine Ops.r (Run.mv rfl) rfl ?_
  refine Ops.r (Run.nilck rfl) rfl ?_
  refine Ops.r (Run.fieldAddr rfl Tryz.underlying99 rfl Tryz.sizeOf60 (by decide)) rfl ?_
  refine Ops.r (Run.load rfl Tryz.isAgg60 (hbg.cell 1)) rfl ?_
  refine Ops.r (Run.asg rfl) rfl ?_
  refine Ops.nil ?_
  refine thenQ_n ?_
  refine VC.sub [(2, _)] (.cons rfl .nil) ?_
  refine VC.ret ?_
  refine end1 rfl ?_
  exact ⟨K2, l, LA, lc, hm, rfl, hO, hPs, fun x hx => by rcases hub x hx with h | h; simp [ob] at h; omega⟩

end Go.Proofs.YtenbjndldenkfaaGreatDoor

namespace Go.Proofs.YtenbjndldenkfaaGreatDoor
open Go.RowKit

/-- The n-th part within another one; -1: there is none. -/
def kidL (i : Int) : List Prt → Nat → Int → Int
  | [], _, _ => -1
  | p :: r, k, n => if p.up = i then (if n = 1 then (k : Int) else kidL i r (k + 1) (n - 1)) else kidL i r (k + 1) n
def kidQ (l : List Prt) (i n : Int) : Int := kidL i l 0 n
theorem kidL_res (i : Int) : ∀ (l : List Prt) (k : Nat) (n : Int), kidL i l k n = -1 ∨ ∃ (j : Nat) (p : Prt), l[j]? = some p ∧ kidL i l k n = ((k + j : Nat) : Int) ∧ p.up = i
  | [], _, _ => .inl rfl
  | p :: r, k, n => by
    unfold kidL
    split
    · rename_i hp
      split
      · exact .inr ⟨0, p, rfl, by simp, hp⟩
      · rcases kidL_res i r (k + 1) (n - 1) with h | ⟨j, q, h1, h2, h3⟩
        · exact .inl h
        · exact .inr ⟨j + 1, q, by simpa using h1, by rw [h2]; congr 1; omega, h3⟩
    · rcases kidL_res i r (k + 1) n with h | ⟨j, q, h1, h2, h3⟩
      · exact .inl h
      · exact .inr ⟨j + 1, q, by simpa using h1, by rw [h2]; congr 1; omega, h3⟩
theorem kidQ_res (l : List Prt) (i n : Int) : kidQ l i n = -1 ∨ ∃ (j : Nat) (p : Prt), l[j]? = some p ∧ kidQ l i n = (j : Int) ∧ p.up = i := by
  rcases kidL_res i l 0 n with h | ⟨j, p, h1, h2, h3⟩
  · exact .inl h
  · exact .inr ⟨j, p, h1, by rw [kidQ, h2]; congr 1; omega, h3⟩
/-- The part of a number of another one: of the letter itself, or of one within. -/
def nextT (l : List Prt) (i : Nat) (n : Int) : Int := match l[i]? with
  | none => -1
  | some p => if p.kind = 1 then kidQ l i n else if n = 1 then (i : Int) else -1
def nextF (l : List Prt) (i : Nat) (n : Int) : Int := match l[i]? with
  | none => -1
  | some p => if p.kind = 1 then kidQ l i n else if p.kind = 2 ∧ 0 ≤ kidQ l i 1 then nextT l (kidQ l i 1).toNat n else -1
def nextQ (l : List Prt) (i : Nat) (n : Int) (own : Bool) : Int := if own = true then nextT l i n else nextF l i n
theorem nextT_res (l : List Prt) (i : Nat) (n : Int) : nextT l i n = -1 ∨ ∃ j : Nat, j < l.length ∧ nextT l i n = (j : Int) := by
  unfold nextT
  split
  · exact .inl rfl
  · rename_i p hp
    split
    · rcases kidQ_res l i n with h | ⟨j, q, h1, h2, _⟩
      · exact .inl h
      · exact .inr ⟨j, (List.getElem?_eq_some_iff.1 h1).1, h2⟩
    · split
      · exact .inr ⟨i, (List.getElem?_eq_some_iff.1 hp).1, rfl⟩
      · exact .inl rfl
theorem nextQ_res (l : List Prt) (i : Nat) (n : Int) (own : Bool) : nextQ l i n own = -1 ∨ ∃ j : Nat, j < l.length ∧ nextQ l i n own = (j : Int) := by
  unfold nextQ
  split
  · exact nextT_res l i n
  · unfold nextF
    split
    · exact .inl rfl
    · split
      · rcases kidQ_res l i n with h | ⟨j, q, h1, h2, _⟩
        · exact .inl h
        · exact .inr ⟨j, (List.getElem?_eq_some_iff.1 h1).1, h2⟩
      · split
        · exact nextT_res _ _ _
        · exact .inl rfl
/-- The part of a path. -/
def findL (l : List Prt) : Nat → Bool → List Int → Int
  | i, _, [] => (i : Int)
  | i, own, n :: r => if nextQ l i n own < 0 then -1 else findL l (nextQ l i n own).toNat false r
def findPQ (l : List Prt) (path : List Int) : Int := findL l 0 true path
theorem findL_res (l : List Prt) : ∀ (path : List Int) (i : Nat) (own : Bool), i < l.length → findL l i own path = -1 ∨ ∃ j : Nat, j < l.length ∧ findL l i own path = (j : Int)
  | [], i, _, h => .inr ⟨i, h, rfl⟩
  | n :: r, i, own, h => by
    unfold findL
    split
    · exact .inl rfl
    · rcases nextQ_res l i n own with h2 | ⟨j, hj, h2⟩
      · omega
      · rw [h2]
        exact findL_res l r _ _ (by simpa using hj)
def wholeQ (l : List Prt) (i : Nat) (path : List Int) : Int := if path = [] then 0 else match l[i]? with
  | none => -1
  | some p => if p.kind ≠ 2 then -1 else kidQ l i 1
theorem kidL_next {i : Int} {l : List Prt} {k : Nat} {n : Int} (h : k < l.length) : kidL i (l.drop k) k n = if l[k].up = i then (if n = 1 then (k : Int) else kidL i (l.drop (k + 1)) (k + 1) (n - 1)) else kidL i (l.drop (k + 1)) (k + 1) n := by
  rw [List.drop_eq_getElem_cons h, kidL]
theorem nextT_at {l : List Prt} {i : Nat} {n : Int} {p : Prt} (h : l[i]? = some p) : nextT l i n = if p.kind = 1 then kidQ l i n else if n = 1 then (i : Int) else -1 := by
  unfold nextT
  rw [h]
theorem nextF_at {l : List Prt} {i : Nat} {n : Int} {p : Prt} (h : l[i]? = some p) : nextF l i n = if p.kind = 1 then kidQ l i n else if p.kind = 2 ∧ 0 ≤ kidQ l i 1 then nextT l (kidQ l i 1).toNat n else -1 := by
  unfold nextF
  rw [h]
theorem wholeQ_at {l : List Prt} {i : Nat} {path : List Int} {p : Prt} (h : l[i]? = some p) : wholeQ l i path = if path = [] then 0 else if p.kind ≠ 2 then -1 else kidQ l i 1 := by
  unfold wholeQ
  rw [h]
/-! ### numbers that wrap -/
theorem wrap_dec (m : Int) : IntKind.i64.wrap (IntKind.i64.wrap m - 1) = IntKind.i64.wrap (m - 1) := by
  simp only [IntKind.wrap, IntKind.bits, IntKind.signed, Bool.true_and]
  split <;> split <;> split <;> simp_all <;> omega
theorem wrap_zero {m : Int} (h1 : -9223372036854785808 ≤ m) (h2 : m ≤ 9223372036854775807) : IntKind.i64.wrap m = 0 ↔ m = 0 := by
  simp only [IntKind.wrap, IntKind.bits, IntKind.signed, Bool.true_and]
  split <;> simp_all <;> omega
end Go.Proofs.YtenbjndldenkfaaGreatDoor

namespace Go.Proofs.YtenbjndldenkfaaGreatDoor
open Go.RowKit Go.Sort

theorem Bin.subW (x y : Int) : Bin .sub .i64 x .i64 y (.int .i64 (IntKind.i64.wrap (x - y))) := fun P T w => by simp [binOp, Op.intArith]
theorem wrap_in {n : Int} (h1 : -9223372036854775808 ≤ n) (h2 : n ≤ 9223372036854775807) : IntKind.i64.wrap n = n := wrap_fit _ _ (by simp only [bmin]; omega) (by simp only [bmax]; omega)
def PI (l : List Int) : List Value := l.map (Value.int .i64)
theorem PI_at {w : World} {A : Option Addr} {l : List Int} {k : Nat} (h : Rd w 1 A l.length (PI l)) (hk : k < l.length) : ∃ ad, A = some ad ∧ w.cell? (ad.add (k * 1)) = some (.int .i64 l[k]) := by
  obtain ⟨ad, rfl, hlt, hc⟩ := h.2 (by omega)
  refine ⟨ad, rfl, ?_⟩
  rw [Nat.mul_one]
  exact hc k _ (by simp [PI, List.getElem?_eq_getElem hk])

set_option maxRecDepth 100000 in
theorem kid_spec (A : Option Addr) (c : Nat) (l : List Pc) (i n : Int) (w : World) (hrd : Rd w 9 A l.length (PP l)) (hl : l.length ≤ 1000) (hn1 : -9223372036854775808 ≤ n) (hn2 : n ≤ 9223372036854775807) :
    Calls Tryz.prog 65 #[.slice A l.length c, .int .i64 i, .int .i64 n] w fun e w' => e = .returned (.int .i64 (kidQ (l.map (·.1)) i n)) ∧ Frm [] w w' := by
  refine VC.calls (nt := 26) (res := #[.tmp 6]) Tryz.func65 rfl Tryz.ntmps65 Tryz.results65 rfl ?_
  refine VC.seq ?_
  refine VC.region ?_
  refine Ops.r (v := .int .i64 ((0 : Nat) : Int)) (Run.asg rfl) rfl ?_
  refine Ops.nil ?_
  refine thenQ_n ?_
  refine VC.sub [(0, _), (1, _), (2, _)] (.cons rfl (.cons rfl (.cons rfl .nil))) ?_
  refine VC.seq ?_
  refine VC.seq ?_
  refine VC.region ?_
  refine Ops.r (Run.mv rfl) rfl ?_
  refine Ops.r (Run.lenS rfl Tryz.underlying60) rfl ?_
  refine Ops.r (v := .int .i64 ((0 : Nat) : Int)) (Run.mv rfl) rfl ?_
  refine Ops.nil ?_
  refine thenQ_n ?_
  refine VC.sub [(1, _), (2, _), (9, _), (10, _), (11, _)] (.cons rfl (.cons rfl (.cons rfl (.cons rfl (.cons rfl .nil))))) ?_
  refine VC.block ?_
  refine VC.loop (σ := Nat × Int) (fun s => [(1, .int .i64 i), (2, .int .i64 (IntKind.i64.wrap s.2)), (9, .slice A l.length c), (10, .int .i64 ((l.length : Nat) : Int)), (11, .int .i64 ((s.1 : Nat) : Int))]) (fun s wr => s.1 ≤ l.length ∧ n - s.1 ≤ s.2 ∧ s.2 ≤ n ∧ kidL i ((l.map (·.1)).drop s.1) s.1 s.2 = kidQ (l.map (·.1)) i n ∧ Frm [] w wr) (fun s => l.length - s.1) (0, n) (.cons rfl (.cons (by rw [wrap_in hn1 hn2]; rfl) (.cons rfl (.cons rfl (.cons rfl .nil))))) ⟨by omega, by simp, by simp, rfl, Frm.refl _ _⟩ ?_
  rintro ⟨k, m⟩ wr ⟨hk, hm1, hm2, hq, K⟩
  dsimp only at hk hm1 hm2 hq K ⊢
  have hml : (l.map (·.1)).length = l.length := by simp
  refine VC.seq ?_
  refine VC.region ?_
  refine Ops.r (Run.bin rfl rfl (Bin.lssN _ _)) rfl ?_
  refine Ops.nil ?_
  refine thenQ_n ?_
  refine VC.seq ?_
  refine VC.condD rfl (fun hc1 => ?_) (fun hc1 => ?_)
  · skip
    obtain ⟨ad, rfl, hcell⟩ := PP_at (hrd.frm K (by simp)) hc1
    have hnx := kidL_next (i := i) (l := (l.map (·.1))) (k := k) (n := m) (by omega)
    rw [List.getElem_map, hq] at hnx
    refine VC.skip ?_
    refine thenQ_n ?_
    refine VC.sub [(1, _), (2, _), (9, _), (10, _), (11, _)] (.cons rfl (.cons rfl (.cons rfl (.cons rfl (.cons rfl .nil))))) ?_
    refine VC.seq ?_
    refine VC.block ?_
    refine VC.seq ?_
    refine VC.region ?_
    refine Ops.r (Run.mv rfl) rfl ?_
    refine Ops.r (Run.indexS k rfl rfl Tryz.underlying60 Tryz.sizeOf69 hc1) rfl ?_
    refine Ops.r (Run.loadA rfl Tryz.isAgg69 Tryz.sizeOf69 hcell (by first | rfl | (simp; done))) rfl ?_
    refine Ops.m (Does.alloc zero69) rfl ?_
    rintro _ w2 ⟨rfl, hF2⟩
    have hb8 := hF2.blk
    have sK := K.size
    have K := K.trans hF2.frm (by simp)
    generalize hg8 : wr.heap.size = g8 at hb8 sK ⊢
    refine Ops.r (Run.asg rfl) rfl ?_
    refine Ops.st (Acts.storeA rfl rfl Tryz.sizeOf69 hb8 rfl (PP1_one l[k])) ?_
    rintro w3 ⟨hb8n, hf3, _⟩
    have hb8 : Blk w3 g8 69 (PP1 l[k]).toArray := hb8n
    have K := Frm.own K hf3 (fun y hy => by simp at hy; omega)
    refine Ops.nil ?_
    refine thenQ_n ?_
    refine VC.sub [(1, _), (2, _), (7, _), (8, _), (9, _), (10, _), (11, _)] (.cons rfl (.cons rfl (.cons rfl (.cons rfl (.cons rfl (.cons rfl (.cons rfl .nil))))))) ?_
    refine VC.seq ?_
    refine VC.region ?_
    refine Ops.r (Run.fieldAddr rfl Tryz.underlying69 rfl Tryz.sizeOf3 (by decide)) rfl ?_
    refine Ops.r (Run.load rfl Tryz.isAgg3 (hb8.cell 7)) rfl ?_
    refine Ops.r (Run.mv rfl) rfl ?_
    refine Ops.r (Run.bin rfl rfl (Bin.eql _ _)) rfl ?_
    refine Ops.nil ?_
    refine thenQ_n ?_
    refine VC.sub [(1, _), (2, _), (7, _), (9, _), (10, _), (11, _), (19, _)] (.cons rfl (.cons rfl (.cons rfl (.cons rfl (.cons rfl (.cons rfl (.cons rfl .nil))))))) ?_
    refine VC.meet (σ := Int) (fun s => [(1, .int .i64 i), (2, .int .i64 (IntKind.i64.wrap s)), (9, .slice (some ad) l.length c), (10, .int .i64 ((l.length : Nat) : Int)), (11, .int .i64 ((k : Nat) : Int))]) (fun s wr => n - ((k + 1 : Nat) : Int) ≤ s ∧ s ≤ n ∧ kidL i ((l.map (·.1)).drop (k + 1)) (k + 1) s = kidQ (l.map (·.1)) i n ∧ Frm [] w wr) ?_ ?_
    · skip
      refine VC.condD rfl (fun hc2 => ?_) (fun hc2 => ?_)
      · skip
        rw [if_pos hc2] at hnx
        refine VC.seq ?_
        refine VC.region ?_
        refine Ops.r (Run.mv rfl) rfl ?_
        refine Ops.r (Run.bin rfl rfl (Bin.subW _ 1)) rfl ?_
        rw [wrap_dec]
        refine Ops.r (Run.asg rfl) rfl ?_
        refine Ops.nil ?_
        refine thenQ_n ?_
        refine VC.sub [(1, _), (2, _), (7, _), (9, _), (10, _), (11, _)] (.cons rfl (.cons rfl (.cons rfl (.cons rfl (.cons rfl (.cons rfl .nil)))))) ?_
        refine VC.seq ?_
        refine VC.region ?_
        refine Ops.r (Run.mv rfl) rfl ?_
        refine Ops.r (Run.bin rfl rfl (Bin.eql _ 0)) rfl ?_
        refine Ops.nil ?_
        refine thenQ_n ?_
        refine VC.sub [(1, _), (2, _), (7, _), (9, _), (10, _), (11, _), (23, _)] (.cons rfl (.cons rfl (.cons rfl (.cons rfl (.cons rfl (.cons rfl (.cons rfl .nil))))))) ?_
        refine VC.condD rfl (fun hc3 => ?_) (fun hc3 => ?_)
        · skip
          have hm : m = 1 := by have := (wrap_zero (m := m - 1) (by omega) (by omega)).1 hc3; omega
          rw [if_pos hm] at hnx
          refine VC.seq ?_
          refine VC.region ?_
          refine Ops.r (Run.mv rfl) rfl ?_
          refine Ops.r (Run.asg rfl) rfl ?_
          refine Ops.nil ?_
          refine thenQ_n ?_
          refine VC.sub [(6, _)] (.cons rfl .nil) ?_
          refine VC.ret ?_
          refine thenQ_r (blockQ_r (thenQ_r (thenQ_r (blockQ_r (thenQ_r (end1 rfl ?_))))))
          exact ⟨by rw [hnx], K⟩
        · skip
          have hm : m ≠ 1 := fun h => hc3 ((wrap_zero (m := m - 1) (by omega) (by omega)).2 (by omega))
          rw [if_neg hm] at hnx
          refine VC.skip ?_
          refine thenQ_n ⟨(m - 1), (.cons rfl (.cons rfl (.cons rfl (.cons rfl (.cons rfl .nil))))), ?_⟩
          exact ⟨by omega, by omega, hnx.symm, K⟩
      · skip
        rw [if_neg hc2] at hnx
        refine VC.skip ?_
        refine thenQ_n ⟨m, (.cons rfl (.cons rfl (.cons rfl (.cons rfl (.cons rfl .nil))))), ?_⟩
        exact ⟨by omega, by omega, hnx.symm, K⟩
    · skip
      rintro m2 w4 ⟨hm1, hm2, hq, K⟩ Γ hΓ
      refine blockQ_n (thenQ_n (VC.sub _ hΓ ?_))
      refine VC.region ?_
      refine Ops.r (Run.bin rfl rfl (Bin.add_i64 _ 1 (by omega))) rfl ?_
      refine Ops.r (Run.mv rfl) rfl ?_
      refine Ops.nil ?_
      refine thenQ_n ⟨(k + 1, m2), (.cons rfl (.cons rfl (.cons rfl (.cons rfl (.cons rfl .nil))))), ?_, ?_⟩
      · skip
        exact ⟨hc1, hm1, hm2, hq, K⟩
      · skip
        first | omega | (dsimp only; omega)
  · skip
    have hkl : k = l.length := by omega
    rw [List.drop_of_length_le (by omega)] at hq
    have hq : -1 = kidQ (l.map (·.1)) i n := hq
    refine VC.exit ?_
    refine thenQ_x (thenQ_x (blockQ_x ?_))
    refine thenQ_n ?_
    refine VC.sub [] .nil ?_
    refine VC.seq ?_
    refine VC.region ?_
    refine Ops.r (v := .int .i64 (-1)) (Run.asg rfl) rfl ?_
    refine Ops.nil ?_
    refine thenQ_n ?_
    refine VC.ret ?_
    refine end1 rfl ?_
    exact ⟨by rw [← hq], K⟩

set_option maxRecDepth 100000 in
theorem nextT_spec (A : Option Addr) (c : Nat) (l : List Pc) (i : Nat) (n : Int) (w : World) (hrd : Rd w 9 A l.length (PP l)) (hl : l.length ≤ 1000) (hn1 : -9223372036854775808 ≤ n) (hn2 : n ≤ 9223372036854775807) (hi : i < l.length) :
    Calls Tryz.prog 71 #[.slice A l.length c, .int .i64 ((i : Nat) : Int), .int .i64 n, .bool true] w fun e w' => e = .returned (.int .i64 (nextT (l.map (·.1)) i n)) ∧ Frm [] w w' := by
  have hml : (l.map (·.1))[i]? = some l[i].1 := by rw [List.getElem?_map, List.getElem?_eq_getElem hi]; rfl
  obtain ⟨ad, rfl, hcell⟩ := PP_at hrd hi
  have K := Frm.refl [] w
  have hnx := nextT_at (n := n) hml
  refine VC.calls (nt := 48) (res := #[.tmp 8]) Tryz.func71 rfl Tryz.ntmps71 Tryz.results71 rfl ?_
  refine VC.seq ?_
  refine VC.region ?_
  refine Ops.r (v := .int .i64 ((0 : Nat) : Int)) (Run.asg rfl) rfl ?_
  refine Ops.nil ?_
  refine thenQ_n ?_
  refine VC.sub [(0, _), (1, _), (2, _), (3, _)] (.cons rfl (.cons rfl (.cons rfl (.cons rfl .nil)))) ?_
  refine VC.seq ?_
  refine VC.block ?_
  refine VC.seq ?_
  refine VC.region ?_
  refine Ops.r (Run.mv rfl) rfl ?_
  refine Ops.r (Run.mv rfl) rfl ?_
  refine Ops.r (Run.indexS i rfl rfl Tryz.underlying60 Tryz.sizeOf69 hi) rfl ?_
  refine Ops.r (Run.fieldAddr rfl Tryz.underlying69 rfl Tryz.sizeOf3 (by decide)) rfl ?_
  refine Ops.r (Run.load rfl Tryz.isAgg3 (hcell 0 _ rfl)) rfl ?_
  refine Ops.r (Run.bin rfl rfl (Bin.eqlN _ 1)) rfl ?_
  refine Ops.r (Run.asg rfl) rfl ?_
  refine Ops.nil ?_
  refine thenQ_n ?_
  refine VC.sub [(0, _), (1, _), (2, _), (3, _), (10, _)] (.cons rfl (.cons rfl (.cons rfl (.cons rfl (.cons rfl .nil))))) ?_
  refine VC.condD rfl (fun hc1 => ?_) (fun hc1 => ?_)
  · skip
    rw [if_pos hc1] at hnx
    refine VC.seq ?_
    refine VC.region ?_
    refine Ops.r (Run.mv rfl) rfl ?_
    refine Ops.r (Run.mv rfl) rfl ?_
    refine Ops.r (Run.mv rfl) rfl ?_
    refine Ops.cl (Enters.fn (evs.cons rfl (evs.cons rfl (evs.cons rfl evs.nil))) Tryz.call65) ((kid_spec (some ad) c l ((i : Nat) : Int) n _ (hrd.frm K (by simp)) hl hn1 hn2)) rfl ?_
    rintro e w1 ⟨rfl, hfw1⟩
    refine ⟨_, rfl, ?_⟩
    have K := K.trans hfw1 (by simp)
    refine Ops.r (Run.asg rfl) rfl ?_
    refine Ops.nil ?_
    refine thenQ_n ?_
    refine VC.sub [(8, _)] (.cons rfl .nil) ?_
    refine VC.ret ?_
    refine blockQ_r (thenQ_r (end1 rfl ?_))
    exact ⟨by rw [hnx], K⟩
  · skip
    rw [if_neg hc1] at hnx
    refine VC.seq ?_
    refine VC.region ?_
    refine Ops.r (Run.mv rfl) rfl ?_
    refine Ops.r (Run.mv rfl) rfl ?_
    refine Ops.rg rfl (by first | rfl | assumption | exact decide_eq_true (by assumption) | exact decide_eq_false (by assumption) | decide | (simp; done) | (simp; omega) | (simp [*]; done)) (Run.mv rfl) rfl ?_
    refine Ops.rg rfl (by first | rfl | assumption | exact decide_eq_true (by assumption) | exact decide_eq_false (by assumption) | decide | (simp; done) | (simp; omega) | (simp [*]; done)) (Run.bin rfl rfl (Bin.eql _ 1)) rfl ?_
    refine Ops.r (Run.pickT rfl rfl (by first | rfl | assumption | exact decide_eq_true (by assumption) | exact decide_eq_false (by assumption) | decide | (simp; done) | (simp; omega) | (simp [*]; done))) rfl ?_
    refine Ops.r (Run.asg rfl) rfl ?_
    refine Ops.nil ?_
    refine thenQ_n ?_
    refine VC.sub [(0, _), (1, _), (2, _), (3, _), (21, _)] (.cons rfl (.cons rfl (.cons rfl (.cons rfl (.cons rfl .nil))))) ?_
    refine VC.condB rfl (fun hc2 => ?_) (fun hc2 => ?_)
    · skip
      rw [if_pos (of_decide_eq_true hc2)] at hnx
      refine VC.seq ?_
      refine VC.region ?_
      refine Ops.r (Run.mv rfl) rfl ?_
      refine Ops.r (Run.asg rfl) rfl ?_
      refine Ops.nil ?_
      refine thenQ_n ?_
      refine VC.sub [(8, _)] (.cons rfl .nil) ?_
      refine VC.ret ?_
      refine blockQ_r (thenQ_r (end1 rfl ?_))
      exact ⟨by rw [hnx], K⟩
    · skip
      rw [if_neg (of_decide_eq_false hc2)] at hnx
      refine VC.seq ?_
      refine VC.region ?_
      refine Ops.r (Run.mv rfl) rfl ?_
      refine Ops.r (Run.not rfl) rfl ?_
      refine Ops.r (Run.mv rfl) rfl ?_
      refine Ops.sk rfl (by simp) rfl ?_
      refine Ops.sk rfl (by simp) rfl ?_
      refine Ops.sk rfl (by simp) rfl ?_
      refine Ops.sk rfl (by simp) rfl ?_
      refine Ops.sk rfl (by simp) rfl ?_
      refine Ops.sk rfl (by simp) rfl ?_
      refine Ops.r (Run.pickF rfl rfl (by first | rfl | assumption | exact decide_eq_true (by assumption) | exact decide_eq_false (by assumption) | decide | (simp; done) | (simp; omega) | (simp [*]; done))) rfl ?_
      refine Ops.r (Run.asg rfl) rfl ?_
      refine Ops.nil ?_
      refine thenQ_n ?_
      refine VC.sub [(0, _), (1, _), (2, _), (28, _)] (.cons rfl (.cons rfl (.cons rfl (.cons rfl .nil)))) ?_
      refine VC.condF rfl (rfl) ?_
      refine VC.skip ?_
      refine blockQ_n (thenQ_n ?_)
      refine VC.sub [] .nil ?_
      refine VC.seq ?_
      refine VC.region ?_
      refine Ops.r (v := .int .i64 (-1)) (Run.asg rfl) rfl ?_
      refine Ops.nil ?_
      refine thenQ_n ?_
      refine VC.ret ?_
      refine end1 rfl ?_
      exact ⟨by rw [hnx], K⟩

set_option maxRecDepth 100000 in
theorem nextF_spec (A : Option Addr) (c : Nat) (l : List Pc) (i : Nat) (n : Int) (w : World) (hrd : Rd w 9 A l.length (PP l)) (hl : l.length ≤ 1000) (hn1 : -9223372036854775808 ≤ n) (hn2 : n ≤ 9223372036854775807) (hi : i < l.length) :
    Calls Tryz.prog 71 #[.slice A l.length c, .int .i64 ((i : Nat) : Int), .int .i64 n, .bool false] w fun e w' => e = .returned (.int .i64 (nextF (l.map (·.1)) i n)) ∧ Frm [] w w' := by
  have hml : (l.map (·.1))[i]? = some l[i].1 := by rw [List.getElem?_map, List.getElem?_eq_getElem hi]; rfl
  obtain ⟨ad, rfl, hcell⟩ := PP_at hrd hi
  have K := Frm.refl [] w
  have hnx := nextF_at (n := n) hml
  refine VC.calls (nt := 48) (res := #[.tmp 8]) Tryz.func71 rfl Tryz.ntmps71 Tryz.results71 rfl ?_
  refine VC.seq ?_
  refine VC.region ?_
  refine Ops.r (v := .int .i64 ((0 : Nat) : Int)) (Run.asg rfl) rfl ?_
  refine Ops.nil ?_
  refine thenQ_n ?_
  refine VC.sub [(0, _), (1, _), (2, _), (3, _)] (.cons rfl (.cons rfl (.cons rfl (.cons rfl .nil)))) ?_
  refine VC.seq ?_
  refine VC.block ?_
  refine VC.seq ?_
  refine VC.region ?_
  refine Ops.r (Run.mv rfl) rfl ?_
  refine Ops.r (Run.mv rfl) rfl ?_
  refine Ops.r (Run.indexS i rfl rfl Tryz.underlying60 Tryz.sizeOf69 hi) rfl ?_
  refine Ops.r (Run.fieldAddr rfl Tryz.underlying69 rfl Tryz.sizeOf3 (by decide)) rfl ?_
  refine Ops.r (Run.load rfl Tryz.isAgg3 (hcell 0 _ rfl)) rfl ?_
  refine Ops.r (Run.bin rfl rfl (Bin.eqlN _ 1)) rfl ?_
  refine Ops.r (Run.asg rfl) rfl ?_
  refine Ops.nil ?_
  refine thenQ_n ?_
  refine VC.sub [(0, _), (1, _), (2, _), (3, _), (10, _)] (.cons rfl (.cons rfl (.cons rfl (.cons rfl (.cons rfl .nil))))) ?_
  refine VC.condD rfl (fun hc1 => ?_) (fun hc1 => ?_)
  · skip
    rw [if_pos hc1] at hnx
    refine VC.seq ?_
    refine VC.region ?_
    refine Ops.r (Run.mv rfl) rfl ?_
    refine Ops.r (Run.mv rfl) rfl ?_
    refine Ops.r (Run.mv rfl) rfl ?_
    refine Ops.cl (Enters.fn (evs.cons rfl (evs.cons rfl (evs.cons rfl evs.nil))) Tryz.call65) ((kid_spec (some ad) c l ((i : Nat) : Int) n _ (hrd.frm K (by simp)) hl hn1 hn2)) rfl ?_
    rintro e w1 ⟨rfl, hfw1⟩
    refine ⟨_, rfl, ?_⟩
    have K := K.trans hfw1 (by simp)
    refine Ops.r (Run.asg rfl) rfl ?_
    refine Ops.nil ?_
    refine thenQ_n ?_
    refine VC.sub [(8, _)] (.cons rfl .nil) ?_
    refine VC.ret ?_
    refine blockQ_r (thenQ_r (end1 rfl ?_))
    exact ⟨by rw [hnx], K⟩
  · skip
    rw [if_neg hc1] at hnx
    refine VC.seq ?_
    refine VC.region ?_
    refine Ops.r (Run.mv rfl) rfl ?_
    refine Ops.r (Run.mv rfl) rfl ?_
    refine Ops.sk rfl (by simp) rfl ?_
    refine Ops.sk rfl (by simp) rfl ?_
    refine Ops.r (Run.pickF rfl rfl (by first | rfl | assumption | exact decide_eq_true (by assumption) | exact decide_eq_false (by assumption) | decide | (simp; done) | (simp; omega) | (simp [*]; done))) rfl ?_
    refine Ops.r (Run.asg rfl) rfl ?_
    refine Ops.nil ?_
    refine thenQ_n ?_
    refine VC.sub [(0, _), (1, _), (2, _), (3, _), (21, _)] (.cons rfl (.cons rfl (.cons rfl (.cons rfl (.cons rfl .nil))))) ?_
    refine VC.condF rfl (rfl) ?_
    refine VC.seq ?_
    refine VC.region ?_
    refine Ops.r (Run.mv rfl) rfl ?_
    refine Ops.r (Run.not rfl) rfl ?_
    refine Ops.r (Run.mv rfl) rfl ?_
    refine Ops.rg rfl (by first | rfl | assumption | exact decide_eq_true (by assumption) | exact decide_eq_false (by assumption) | decide | (simp; done) | (simp; omega) | (simp [*]; done)) (Run.mv rfl) rfl ?_
    refine Ops.rg rfl (by first | rfl | assumption | exact decide_eq_true (by assumption) | exact decide_eq_false (by assumption) | decide | (simp; done) | (simp; omega) | (simp [*]; done)) (Run.mv rfl) rfl ?_
    refine Ops.rg rfl (by first | rfl | assumption | exact decide_eq_true (by assumption) | exact decide_eq_false (by assumption) | decide | (simp; done) | (simp; omega) | (simp [*]; done)) (Run.indexS i rfl rfl Tryz.underlying60 Tryz.sizeOf69 hi) rfl ?_
    refine Ops.rg rfl (by first | rfl | assumption | exact decide_eq_true (by assumption) | exact decide_eq_false (by assumption) | decide | (simp; done) | (simp; omega) | (simp [*]; done)) (Run.fieldAddr rfl Tryz.underlying69 rfl Tryz.sizeOf3 (by decide)) rfl ?_
    refine Ops.rg rfl (by first | rfl | assumption | exact decide_eq_true (by assumption) | exact decide_eq_false (by assumption) | decide | (simp; done) | (simp; omega) | (simp [*]; done)) (Run.load rfl Tryz.isAgg3 (hcell 0 _ rfl)) rfl ?_
    refine Ops.rg rfl (by first | rfl | assumption | exact decide_eq_true (by assumption) | exact decide_eq_false (by assumption) | decide | (simp; done) | (simp; omega) | (simp [*]; done)) (Run.bin rfl rfl (Bin.eqlN _ 2)) rfl ?_
    refine Ops.r (Run.pickT rfl rfl (by first | rfl | assumption | exact decide_eq_true (by assumption) | exact decide_eq_false (by assumption) | decide | (simp; done) | (simp; omega) | (simp [*]; done))) rfl ?_
    refine Ops.r (Run.asg rfl) rfl ?_
    refine Ops.nil ?_
    refine thenQ_n ?_
    refine VC.sub [(0, _), (1, _), (2, _), (28, _)] (.cons rfl (.cons rfl (.cons rfl (.cons rfl .nil)))) ?_
    refine VC.meet (σ := Unit) (fun s => []) (fun s wr => Frm [] w wr ∧ nextF (l.map (·.1)) i n = -1) ?_ ?_
    · skip
      refine VC.condB rfl (fun hc3 => ?_) (fun hc3 => ?_)
      · skip
        have hc3 := of_decide_eq_true hc3
        refine VC.seq ?_
        refine VC.region ?_
        refine Ops.r (Run.mv rfl) rfl ?_
        refine Ops.r (Run.mv rfl) rfl ?_
        refine Ops.cl (Enters.fn (evs.cons rfl (evs.cons rfl (evs.cons rfl evs.nil))) Tryz.call65) ((kid_spec (some ad) c l ((i : Nat) : Int) 1 _ (hrd.frm K (by simp)) hl (by omega) (by omega))) rfl ?_
        rintro e w1 ⟨rfl, hfw1⟩
        refine ⟨_, rfl, ?_⟩
        have K := K.trans hfw1 (by simp)
        refine Ops.r (Run.asg rfl) rfl ?_
        refine Ops.nil ?_
        refine thenQ_n ?_
        refine VC.sub [(0, _), (2, _), (9, _)] (.cons rfl (.cons rfl (.cons rfl .nil))) ?_
        refine VC.seq ?_
        refine VC.region ?_
        refine Ops.r (Run.mv rfl) rfl ?_
        refine Ops.r (Run.bin rfl rfl (Bin.geq _ 0)) rfl ?_
        refine Ops.nil ?_
        refine thenQ_n ?_
        refine VC.sub [(0, _), (2, _), (9, _), (43, _)] (.cons rfl (.cons rfl (.cons rfl (.cons rfl .nil)))) ?_
        refine VC.condD rfl (fun hc4 => ?_) (fun hc4 => ?_)
        · skip
          rw [if_pos ⟨hc3, hc4⟩] at hnx
          obtain ⟨j, pj, hj, hje⟩ : ∃ (j : Nat) (p : Prt), (l.map (·.1))[j]? = some p ∧ kidQ (l.map (·.1)) ((i : Nat) : Int) 1 = (j : Int) := by
            rcases kidQ_res (l.map (·.1)) ((i : Nat) : Int) 1 with h | ⟨j, p, h1, h2, _⟩
            · omega
            · exact ⟨j, p, h1, h2⟩
          have hjl : j < l.length := by have := (List.getElem?_eq_some_iff.1 hj).1; simpa using this
          rw [hje, Int.toNat_natCast] at hnx
          rw [hje]
          refine VC.seq ?_
          refine VC.region ?_
          refine Ops.r (Run.mv rfl) rfl ?_
          refine Ops.r (Run.mv rfl) rfl ?_
          refine Ops.r (Run.mv rfl) rfl ?_
          refine Ops.cl (Enters.fn (evs.cons rfl (evs.cons rfl (evs.cons rfl (evs.cons rfl evs.nil)))) Tryz.call71) ((nextT_spec (some ad) c l j n _ (hrd.frm K (by simp)) hl hn1 hn2 hjl)) rfl ?_
          rintro e w2 ⟨rfl, hf2⟩
          refine ⟨_, rfl, ?_⟩
          have K := K.trans hf2 (by simp)
          refine Ops.r (Run.asg rfl) rfl ?_
          refine Ops.nil ?_
          refine thenQ_n ?_
          refine VC.sub [(8, _)] (.cons rfl .nil) ?_
          refine VC.ret ?_
          refine thenQ_r (blockQ_r (thenQ_r (end1 rfl ?_)))
          exact ⟨by rw [hnx], K⟩
        · skip
          rw [if_neg (fun h => hc4 h.2)] at hnx
          refine VC.skip ?_
          refine thenQ_n ⟨(), .nil, ?_⟩
          exact ⟨K, hnx⟩
      · skip
        have hc3 := of_decide_eq_false hc3
        rw [if_neg (fun h => hc3 h.1)] at hnx
        refine VC.skip ?_
        refine thenQ_n ⟨(), .nil, ?_⟩
        exact ⟨K, hnx⟩
    · skip
      rintro _ w5 ⟨K, hnx⟩ Γ hΓ
      refine blockQ_n (thenQ_n (VC.sub _ hΓ ?_))
      refine VC.seq ?_
      refine VC.region ?_
      refine Ops.r (v := .int .i64 (-1)) (Run.asg rfl) rfl ?_
      refine Ops.nil ?_
      refine thenQ_n ?_
      refine VC.ret ?_
      refine end1 rfl ?_
      exact ⟨by rw [hnx], K⟩

theorem next_spec (A : Option Addr) (c : Nat) (l : List Pc) (i : Nat) (n : Int) (own : Bool) (w : World) (hrd : Rd w 9 A l.length (PP l)) (hl : l.length ≤ 1000) (hn1 : -9223372036854775808 ≤ n) (hn2 : n ≤ 9223372036854775807) (hi : i < l.length) :
    Calls Tryz.prog 71 #[.slice A l.length c, .int .i64 ((i : Nat) : Int), .int .i64 n, .bool own] w fun e w' => e = .returned (.int .i64 (nextQ (l.map (·.1)) i n own)) ∧ Frm [] w w' := by
  cases own with
  | true => exact nextT_spec A c l i n w hrd hl hn1 hn2 hi
  | false => exact nextF_spec A c l i n w hrd hl hn1 hn2 hi

set_option maxRecDepth 100000 in
theorem find_path_spec (A B : Option Addr) (c d : Nat) (l : List Pc) (path : List Int) (w : World) (hrd : Rd w 9 A l.length (PP l)) (hl : l.length ≤ 1000) (hl0 : 0 < l.length) (hp : Rd w 1 B path.length (PI path)) (hpl : path.length ≤ 9223372036854775807) (hpb : ∀ n ∈ path, -9223372036854775808 ≤ n ∧ n ≤ 9223372036854775807) :
    Calls Tryz.prog 41 #[.slice A l.length c, .slice B path.length d] w fun e w' => e = .returned (.int .i64 (findPQ (l.map (·.1)) path)) ∧ Frm [] w w' := by
  refine VC.calls (nt := 24) (res := #[.tmp 4]) Tryz.func41 rfl Tryz.ntmps41 Tryz.results41 rfl ?_
  refine VC.seq ?_
  refine VC.region ?_
  refine Ops.r (v := .int .i64 ((0 : Nat) : Int)) (Run.asg rfl) rfl ?_
  refine Ops.nil ?_
  refine thenQ_n ?_
  refine VC.sub [(0, _), (1, _)] (.cons rfl (.cons rfl .nil)) ?_
  refine VC.seq ?_
  refine VC.region ?_
  refine Ops.r (v := .int .i64 ((0 : Nat) : Int)) (Run.asg rfl) rfl ?_
  refine Ops.r (Run.asg rfl) rfl ?_
  refine Ops.nil ?_
  refine thenQ_n ?_
  refine VC.seq ?_
  refine VC.seq ?_
  refine VC.region ?_
  refine Ops.r (Run.mv rfl) rfl ?_
  refine Ops.r (Run.lenS rfl Tryz.underlying33) rfl ?_
  refine Ops.r (v := .int .i64 ((0 : Nat) : Int)) (Run.mv rfl) rfl ?_
  refine Ops.nil ?_
  refine thenQ_n ?_
  refine VC.sub [(0, _), (5, _), (6, _), (9, _), (10, _), (11, _)] (.cons rfl (.cons rfl (.cons rfl (.cons rfl (.cons rfl (.cons rfl .nil)))))) ?_
  refine VC.block ?_
  refine VC.loop (σ := Nat × Nat) (fun s => [(0, .slice A l.length c), (5, .int .i64 ((s.2 : Nat) : Int)), (6, .bool (decide (s.1 = 0))), (9, .slice B path.length d), (10, .int .i64 ((path.length : Nat) : Int)), (11, .int .i64 ((s.1 : Nat) : Int))]) (fun s wr => s.1 ≤ path.length ∧ s.2 < l.length ∧ findL (l.map (·.1)) s.2 (decide (s.1 = 0)) (path.drop s.1) = findPQ (l.map (·.1)) path ∧ Frm [] w wr) (fun s => path.length - s.1) (0, 0) (.cons rfl (.cons rfl (.cons rfl (.cons rfl (.cons rfl (.cons rfl .nil)))))) ⟨by omega, hl0, rfl, Frm.refl _ _⟩ ?_
  rintro ⟨k, i⟩ wr ⟨hk, hi, hq, K⟩
  dsimp only at hk hi hq K ⊢
  refine VC.seq ?_
  refine VC.region ?_
  refine Ops.r (Run.bin rfl rfl (Bin.lssN _ _)) rfl ?_
  refine Ops.nil ?_
  refine thenQ_n ?_
  refine VC.seq ?_
  refine VC.condD rfl (fun hc1 => ?_) (fun hc1 => ?_)
  · skip
    obtain ⟨adB, rfl, hcB⟩ := PI_at (hp.frm K (by simp)) hc1
    have hb := hpb path[k] (List.getElem_mem hc1)
    rw [List.drop_eq_getElem_cons hc1, findL] at hq
    generalize hn : path[k] = n at *
    refine VC.skip ?_
    refine thenQ_n ?_
    refine VC.sub [(0, _), (5, _), (6, _), (9, _), (10, _), (11, _)] (.cons rfl (.cons rfl (.cons rfl (.cons rfl (.cons rfl (.cons rfl .nil)))))) ?_
    refine VC.seq ?_
    refine VC.block ?_
    refine VC.seq ?_
    refine VC.region ?_
    refine Ops.r (Run.indexS k rfl rfl Tryz.underlying33 Tryz.sizeOf3 hc1) rfl ?_
    refine Ops.r (Run.load rfl Tryz.isAgg3 hcB) rfl ?_
    refine Ops.r (Run.asg rfl) rfl ?_
    refine Ops.nil ?_
    refine thenQ_n ?_
    refine VC.sub [(0, _), (5, _), (6, _), (8, _), (9, _), (10, _), (11, _)] (.cons rfl (.cons rfl (.cons rfl (.cons rfl (.cons rfl (.cons rfl (.cons rfl .nil))))))) ?_
    refine VC.seq ?_
    refine VC.seq ?_
    refine VC.region ?_
    refine Ops.r (Run.mv rfl) rfl ?_
    refine Ops.r (Run.mv rfl) rfl ?_
    refine Ops.r (Run.mv rfl) rfl ?_
    refine Ops.r (Run.mv rfl) rfl ?_
    refine Ops.cl (Enters.fn (evs.cons rfl (evs.cons rfl (evs.cons rfl (evs.cons rfl evs.nil)))) Tryz.call71) ((next_spec A c l i n (decide (k = 0)) _ (hrd.frm K (by simp)) hl hb.1 hb.2 hi)) rfl ?_
    rintro e w2 ⟨rfl, hf2⟩
    refine ⟨_, rfl, ?_⟩
    have K := K.trans hf2 (by simp)
    refine Ops.r (Run.asg rfl) rfl ?_
    refine Ops.nil ?_
    refine thenQ_n ?_
    refine VC.sub [(0, _), (5, _), (9, _), (10, _), (11, _)] (.cons rfl (.cons rfl (.cons rfl (.cons rfl (.cons rfl .nil))))) ?_
    refine VC.seq ?_
    refine VC.region ?_
    refine Ops.r (Run.mv rfl) rfl ?_
    refine Ops.r (Run.bin rfl rfl (Bin.lss _ 0)) rfl ?_
    refine Ops.nil ?_
    refine thenQ_n ?_
    refine VC.sub [(0, _), (5, _), (9, _), (10, _), (11, _), (21, _)] (.cons rfl (.cons rfl (.cons rfl (.cons rfl (.cons rfl (.cons rfl .nil)))))) ?_
    refine VC.condD rfl (fun hc2 => ?_) (fun hc2 => ?_)
    · skip
      rw [if_pos hc2] at hq
      refine VC.seq ?_
      refine VC.region ?_
      refine Ops.r (v := .int .i64 (-1)) (Run.asg rfl) rfl ?_
      refine Ops.nil ?_
      refine thenQ_n ?_
      refine VC.sub [(4, _)] (.cons rfl .nil) ?_
      refine VC.ret ?_
      refine thenQ_r (blockQ_r (thenQ_r (thenQ_r (blockQ_r (thenQ_r (end1 rfl ?_))))))
      exact ⟨by rw [← hq], K⟩
    · skip
      rw [if_neg hc2] at hq
      obtain ⟨j, hjl, hje⟩ : ∃ j : Nat, j < (l.map (·.1)).length ∧ nextQ (l.map (·.1)) i n (decide (k = 0)) = (j : Int) := by
        rcases nextQ_res (l.map (·.1)) i n (decide (k = 0)) with h | h
        · omega
        · exact h
      rw [List.length_map] at hjl
      rw [hje, Int.toNat_natCast] at hq
      rw [hje]
      refine VC.skip ?_
      refine thenQ_n ?_
      refine VC.sub [(0, _), (5, _), (9, _), (10, _), (11, _)] (.cons rfl (.cons rfl (.cons rfl (.cons rfl (.cons rfl .nil))))) ?_
      refine VC.region ?_
      refine Ops.r (Run.asg rfl) rfl ?_
      refine Ops.nil ?_
      refine blockQ_n (thenQ_n ?_)
      refine VC.region ?_
      refine Ops.r (Run.bin rfl rfl (Bin.add_i64 _ 1 (by omega))) rfl ?_
      refine Ops.r (Run.mv rfl) rfl ?_
      refine Ops.nil ?_
      refine thenQ_n ⟨(k + 1, j), (.cons rfl (.cons rfl (.cons (by rw [show decide (k + 1 = 0) = false by simp]; rfl) (.cons rfl (.cons rfl (.cons rfl .nil)))))), ?_, ?_⟩
      · skip
        exact ⟨hc1, hjl, by rw [← hq]; simp, K⟩
      · skip
        first | omega | (dsimp only; omega)
  · skip
    have hkl : k = path.length := by omega
    rw [List.drop_of_length_le (by omega)] at hq
    have hq : ((i : Nat) : Int) = findPQ (l.map (·.1)) path := hq
    refine VC.exit ?_
    refine thenQ_x (thenQ_x (blockQ_x ?_))
    refine thenQ_n ?_
    refine VC.sub [(5, _)] (.cons rfl .nil) ?_
    refine VC.seq ?_
    refine VC.region ?_
    refine Ops.r (Run.mv rfl) rfl ?_
    refine Ops.r (Run.asg rfl) rfl ?_
    refine Ops.nil ?_
    refine thenQ_n ?_
    refine VC.sub [(4, _)] (.cons rfl .nil) ?_
    refine VC.ret ?_
    refine end1 rfl ?_
    exact ⟨by rw [← hq], K⟩

set_option maxRecDepth 100000 in
theorem whole_path_spec (A B : Option Addr) (c d : Nat) (l : List Pc) (i : Nat) (path : List Int) (w : World) (hrd : Rd w 9 A l.length (PP l)) (hl : l.length ≤ 1000) (hi : i < l.length) :
    Calls Tryz.prog 44 #[.slice A l.length c, .int .i64 ((i : Nat) : Int), .slice B path.length d] w fun e w' => e = .returned (.int .i64 (wholeQ (l.map (·.1)) i path)) ∧ Frm [] w w' := by
  have hml : (l.map (·.1))[i]? = some l[i].1 := by rw [List.getElem?_map, List.getElem?_eq_getElem hi]; rfl
  obtain ⟨ad, rfl, hcell⟩ := PP_at hrd hi
  have K := Frm.refl [] w
  have hnx := wholeQ_at (path := path) hml
  refine VC.calls (nt := 19) (res := #[.tmp 6]) Tryz.func44 rfl Tryz.ntmps44 Tryz.results44 rfl ?_
  refine VC.seq ?_
  refine VC.region ?_
  refine Ops.r (v := .int .i64 ((0 : Nat) : Int)) (Run.asg rfl) rfl ?_
  refine Ops.nil ?_
  refine thenQ_n ?_
  refine VC.sub [(0, _), (1, _), (2, _)] (.cons rfl (.cons rfl (.cons rfl .nil))) ?_
  refine VC.seq ?_
  refine VC.seq ?_
  refine VC.region ?_
  refine Ops.r (Run.mv rfl) rfl ?_
  refine Ops.r (Run.lenS rfl Tryz.underlying33) rfl ?_
  refine Ops.r (Run.bin rfl rfl (Bin.eqlN _ 0)) rfl ?_
  refine Ops.nil ?_
  refine thenQ_n ?_
  refine VC.sub [(0, _), (1, _), (9, _)] (.cons rfl (.cons rfl (.cons rfl .nil))) ?_
  refine VC.condD rfl (fun hc1 => ?_) (fun hc1 => ?_)
  · skip
    rw [if_pos (List.length_eq_zero_iff.1 hc1)] at hnx
    refine VC.seq ?_
    refine VC.region ?_
    refine Ops.r (v := .int .i64 ((0 : Nat) : Int)) (Run.asg rfl) rfl ?_
    refine Ops.nil ?_
    refine thenQ_n ?_
    refine VC.sub [(6, _)] (.cons rfl .nil) ?_
    refine VC.ret ?_
    refine thenQ_r (end1 rfl ?_)
    exact ⟨by rw [hnx]; rfl, K⟩
  · skip
    rw [if_neg (fun h => hc1 (by rw [h]; rfl))] at hnx
    refine VC.skip ?_
    refine thenQ_n ?_
    refine VC.sub [(0, _), (1, _)] (.cons rfl (.cons rfl .nil)) ?_
    refine VC.seq ?_
    refine VC.seq ?_
    refine VC.region ?_
    refine Ops.r (Run.mv rfl) rfl ?_
    refine Ops.r (Run.mv rfl) rfl ?_
    refine Ops.r (Run.indexS i rfl rfl Tryz.underlying60 Tryz.sizeOf69 hi) rfl ?_
    refine Ops.r (Run.fieldAddr rfl Tryz.underlying69 rfl Tryz.sizeOf3 (by decide)) rfl ?_
    refine Ops.r (Run.load rfl Tryz.isAgg3 (hcell 0 _ rfl)) rfl ?_
    refine Ops.r (Run.bin rfl rfl (Bin.neqN _ 2)) rfl ?_
    refine Ops.nil ?_
    refine thenQ_n ?_
    refine VC.sub [(0, _), (1, _), (15, _)] (.cons rfl (.cons rfl (.cons rfl .nil))) ?_
    refine VC.condD rfl (fun hc2 => ?_) (fun hc2 => ?_)
    · skip
      rw [if_pos hc2] at hnx
      refine VC.seq ?_
      refine VC.region ?_
      refine Ops.r (v := .int .i64 (-1)) (Run.asg rfl) rfl ?_
      refine Ops.nil ?_
      refine thenQ_n ?_
      refine VC.sub [(6, _)] (.cons rfl .nil) ?_
      refine VC.ret ?_
      refine thenQ_r (end1 rfl ?_)
      exact ⟨by rw [hnx], K⟩
    · skip
      rw [if_neg hc2] at hnx
      refine VC.skip ?_
      refine thenQ_n ?_
      refine VC.sub [(0, _), (1, _)] (.cons rfl (.cons rfl .nil)) ?_
      refine VC.seq ?_
      refine VC.region ?_
      refine Ops.r (Run.mv rfl) rfl ?_
      refine Ops.r (Run.mv rfl) rfl ?_
      refine Ops.cl (Enters.fn (evs.cons rfl (evs.cons rfl (evs.cons rfl evs.nil))) Tryz.call65) ((kid_spec (some ad) c l ((i : Nat) : Int) 1 _ (hrd.frm K (by simp)) hl (by omega) (by omega))) rfl ?_
      rintro e w1 ⟨rfl, hfw1⟩
      refine ⟨_, rfl, ?_⟩
      have K := K.trans hfw1 (by simp)
      refine Ops.r (Run.asg rfl) rfl ?_
      refine Ops.nil ?_
      refine thenQ_n ?_
      refine VC.sub [(6, _)] (.cons rfl .nil) ?_
      refine VC.ret ?_
      refine end1 rfl ?_
      exact ⟨by rw [hnx], K⟩

end Go.Proofs.YtenbjndldenkfaaGreatDoor

namespace Go.Proofs.YtenbjndldenkfaaGreatDoor
open Go.RowKit Go.Sort


theorem SB_at1 {w : World} {A : Option Addr} {l : List Tx} {k : Nat} (h : Rd w 1 A l.length (SB l)) (hk : k < l.length) : ∃ ad, A = some ad ∧ w.cell? (ad.add (k * 1)) = some (encStr l[k]) := by
  rw [Nat.mul_one]
  exact SB_at h hk

def hdrT : Tx := [72, 69, 65, 68, 69, 82]
def txtT : Tx := [84, 69, 88, 84]
def mimT : Tx := [77, 73, 77, 69]
def fldT : Tx := [72, 69, 65, 68, 69, 82, 46, 70, 73, 69, 76, 68, 83]
def othT : Tx := [72, 69, 65, 68, 69, 82, 46, 70, 73, 69, 76, 68, 83, 46, 78, 79, 84]
/-- A section: its path, what of the part, the names. -/
structure Wnt where
  path : List Int
  what : Tx
  names : List Tx
def BadN (n : Int) : Prop := n < 1 ∨ 64 < n
instance (n : Int) : Decidable (BadN n) := by unfold BadN; infer_instance
def NamedW (s : Tx) : Prop := s = fldT ∨ s = othT
instance (s : Tx) : Decidable (NamedW s) := by unfold NamedW; infer_instance
def KindW (v : Wnt) : Prop := v.what = [] ∨ v.what = hdrT ∨ v.what = txtT ∨ v.what = fldT ∨ v.what = othT ∨ (v.what = mimT ∧ 0 < v.path.length)
instance (v : Wnt) : Decidable (KindW v) := by unfold KindW; infer_instance
def MayW (v : Wnt) : Prop := ¬ (8 < v.path.length ∨ ∃ n ∈ v.path, BadN n) ∧ ¬ ((16 < v.names.length ∨ ¬ (NamedW v.what ↔ 0 < v.names.length)) ∨ ∃ s ∈ v.names, ¬ TokQ s) ∧ KindW v
instance (v : Wnt) : Decidable (MayW v) := by unfold MayW; infer_instance
def WtC (v : Wnt) (A : Option Addr) (c : Nat) (B : Option Addr) (d : Nat) : Array Value := #[.slice A v.path.length c, encStr v.what, .slice B v.names.length d]

set_option maxRecDepth 100000 in
theorem mayN_spec (n : Int) (w : World) : Calls Tryz.prog 73 #[.int .i64 n] w fun e w' => e = .returned (.bool (decide (BadN n))) ∧ w = w' := by
  refine VC.calls (nt := 9) (res := #[.tmp 2]) Tryz.func73 rfl Tryz.ntmps73 Tryz.results73 rfl ?_
  refine VC.seq ?_
  refine VC.region ?_
  refine Ops.r (Run.asg rfl) rfl ?_
  refine Ops.nil ?_
  refine thenQ_n ?_
  refine VC.sub [(0, _)] (.cons rfl .nil) ?_
  refine VC.seq ?_
  refine VC.split1 [] .nil 2 (.bool (decide (BadN n))) ?_ ?_
  · refine VC.region ?_
    refine Ops.r (Run.mv rfl) rfl ?_
    refine Ops.r (Run.bin rfl rfl (Bin.lss _ 1)) rfl ?_
    by_cases hs4 : n < 1
    · skip
      refine Ops.r (Run.mv rfl) rfl ?_
      refine Ops.sk rfl (by first | rfl | assumption | exact decide_eq_true (by assumption) | exact decide_eq_false (by assumption) | decide | (simp; done) | (simp; omega) | (simp [*]; done)) rfl ?_
      refine Ops.sk rfl (by first | rfl | assumption | exact decide_eq_true (by assumption) | exact decide_eq_false (by assumption) | decide | (simp; done) | (simp; omega) | (simp [*]; done)) rfl ?_
      refine Ops.r (Run.pickT rfl rfl (by first | rfl | assumption | exact decide_eq_true (by assumption) | exact decide_eq_false (by assumption) | decide | (simp; done) | (simp; omega) | (simp [*]; done))) rfl ?_
      refine Ops.r (Run.asg rfl) rfl ?_
      refine Ops.nil ?_
      refine thenQ_n ⟨(.cons (congrArg (fun b => some (Value.bool b)) (by first | exact (decide_eq_true (show BadN n from .inl hs4)).symm | exact (decide_eq_true hs7).trans (decide_eq_true (show BadN n from .inr hs7)).symm | exact (decide_eq_false hs7).trans (decide_eq_false (show ¬ BadN n from fun h => h.elim hs4 hs7)).symm)) .nil), rfl⟩
    · skip
      refine Ops.r (Run.mv rfl) rfl ?_
      refine Ops.rg rfl (by first | rfl | assumption | exact decide_eq_true (by assumption) | exact decide_eq_false (by assumption) | decide | (simp; done) | (simp; omega) | (simp [*]; done)) (Run.mv rfl) rfl ?_
      refine Ops.rg rfl (by first | rfl | assumption | exact decide_eq_true (by assumption) | exact decide_eq_false (by assumption) | decide | (simp; done) | (simp; omega) | (simp [*]; done)) (Run.bin rfl rfl (Bin.gtr _ 64)) rfl ?_
      by_cases hs7 : 64 < n
      · skip
        refine Ops.r (Run.pickF rfl rfl (by first | rfl | assumption | exact decide_eq_true (by assumption) | exact decide_eq_false (by assumption) | decide | (simp; done) | (simp; omega) | (simp [*]; done))) rfl ?_
        refine Ops.r (Run.asg rfl) rfl ?_
        refine Ops.nil ?_
        refine thenQ_n ⟨(.cons (congrArg (fun b => some (Value.bool b)) (by first | exact (decide_eq_true (show BadN n from .inl hs4)).symm | exact (decide_eq_true hs7).trans (decide_eq_true (show BadN n from .inr hs7)).symm | exact (decide_eq_false hs7).trans (decide_eq_false (show ¬ BadN n from fun h => h.elim hs4 hs7)).symm)) .nil), rfl⟩
      · skip
        refine Ops.r (Run.pickF rfl rfl (by first | rfl | assumption | exact decide_eq_true (by assumption) | exact decide_eq_false (by assumption) | decide | (simp; done) | (simp; omega) | (simp [*]; done))) rfl ?_
        refine Ops.r (Run.asg rfl) rfl ?_
        refine Ops.nil ?_
        refine thenQ_n ⟨(.cons (congrArg (fun b => some (Value.bool b)) (by first | exact (decide_eq_true (show BadN n from .inl hs4)).symm | exact (decide_eq_true hs7).trans (decide_eq_true (show BadN n from .inr hs7)).symm | exact (decide_eq_false hs7).trans (decide_eq_false (show ¬ BadN n from fun h => h.elim hs4 hs7)).symm)) .nil), rfl⟩
  · intro Γ hΓ
    refine thenQ_n (VC.sub _ hΓ ?_)
    refine VC.ret ?_
    refine end1 rfl ?_
    exact ⟨rfl, rfl⟩

set_option maxRecDepth 100000 in
theorem idxI (A : Option Addr) (c : Nat) (l : List Int) (w : World) (hl : Rd w 1 A l.length (PI l)) (hn : l.length ≤ 1000000) :
    Calls Tryz.prog 111 #[.slice A l.length c, .func (.func 73) #[] #[]] w fun e w' => w = w' ∧ ∃ k : Int, e = .returned (.int .i64 k) ∧ (0 ≤ k ↔ ∃ n ∈ l, BadN n) := by
  refine VC.calls (nt := 19) (res := #[.tmp 4]) Tryz.func111 rfl Tryz.ntmps111 Tryz.results111 rfl ?_
  refine VC.seq ?_
  refine VC.region ?_
  refine Ops.r (v := .int .i64 ((0 : Nat) : Int)) (Run.asg rfl) rfl ?_
  refine Ops.nil ?_
  refine thenQ_n ?_
  refine VC.sub [(0, _), (1, _)] (.cons rfl (.cons rfl .nil)) ?_
  refine VC.seq ?_
  refine VC.seq ?_
  refine VC.region ?_
  refine Ops.r (Run.mv rfl) rfl ?_
  refine Ops.r (Run.lenS rfl Tryz.underlying33) rfl ?_
  refine Ops.r (v := .int .i64 ((0 : Nat) : Int)) (Run.mv rfl) rfl ?_
  refine Ops.nil ?_
  refine thenQ_n ?_
  refine VC.sub [(0, _), (1, _), (7, _), (8, _)] (.cons rfl (.cons rfl (.cons rfl (.cons rfl .nil)))) ?_
  refine VC.block ?_
  refine VC.loop (σ := Nat) (fun s => [(0, .slice A l.length c), (1, .func (.func 73) #[] #[]), (7, .int .i64 ((l.length : Nat) : Int)), (8, .int .i64 ((s : Nat) : Int))]) (fun s wr => s ≤ l.length ∧ w = wr ∧ ∀ x ∈ l.take s, ¬ (BadN x)) (fun s => l.length - s) 0 (.cons rfl (.cons rfl (.cons rfl (.cons rfl .nil)))) ⟨by omega, rfl, by simp⟩ ?_
  rintro i _ ⟨hi, rfl, hno⟩
  refine VC.seq ?_
  refine VC.region ?_
  refine Ops.r (Run.bin rfl rfl (Bin.lssN _ _)) rfl ?_
  refine Ops.nil ?_
  refine thenQ_n ?_
  refine VC.seq ?_
  refine VC.condD rfl (fun hc1 => ?_) (fun hc1 => ?_)
  · skip
    obtain ⟨ad, rfl, hcell⟩ := PI_at hl hc1
    have hts := take_snoc hc1
    have hmem := List.getElem_mem hc1
    generalize hx : l[i] = x at *
    refine VC.skip ?_
    refine thenQ_n ?_
    refine VC.sub [(0, _), (1, _), (7, _), (8, _)] (.cons rfl (.cons rfl (.cons rfl (.cons rfl .nil)))) ?_
    refine VC.seq ?_
    refine VC.block ?_
    refine VC.seq ?_
    refine VC.region ?_
    refine Ops.r (Run.mv rfl) rfl ?_
    refine Ops.r (Run.asg rfl) rfl ?_
    refine Ops.nil ?_
    refine thenQ_n ?_
    refine VC.sub [(0, _), (1, _), (5, _), (7, _), (8, _)] (.cons rfl (.cons rfl (.cons rfl (.cons rfl (.cons rfl .nil))))) ?_
    refine VC.seq ?_
    refine VC.region ?_
    refine Ops.r (Run.mv rfl) rfl ?_
    refine Ops.r (Run.mv rfl) rfl ?_
    refine Ops.r (Run.mv rfl) rfl ?_
    refine Ops.r (Run.indexS i rfl rfl Tryz.underlying33 Tryz.sizeOf3 hc1) rfl ?_
    refine Ops.r (Run.load rfl Tryz.isAgg3 hcell) rfl ?_
    refine Ops.cl (Enters.dyn rfl (evs.cons rfl evs.nil) Tryz.call73) ((mayN_spec x _)) rfl ?_
    rintro e _ ⟨rfl, rfl⟩
    refine ⟨_, rfl, ?_⟩
    refine Ops.nil ?_
    refine thenQ_n ?_
    refine VC.sub [(0, _), (1, _), (5, _), (7, _), (8, _), (16, _)] (.cons rfl (.cons rfl (.cons rfl (.cons rfl (.cons rfl (.cons rfl .nil)))))) ?_
    refine VC.condB rfl (fun hc2 => ?_) (fun hc2 => ?_)
    · skip
      refine VC.seq ?_
      refine VC.region ?_
      refine Ops.r (Run.mv rfl) rfl ?_
      refine Ops.r (Run.asg rfl) rfl ?_
      refine Ops.nil ?_
      refine thenQ_n ?_
      refine VC.sub [(4, _)] (.cons rfl .nil) ?_
      refine VC.ret ?_
      refine blockQ_r (thenQ_r (thenQ_r (blockQ_r (thenQ_r (end1 rfl ?_)))))
      exact ⟨rfl, _, rfl, ⟨fun _ => ⟨x, hmem, of_decide_eq_true hc2⟩, fun _ => by omega⟩⟩
    · skip
      refine VC.skip ?_
      refine blockQ_n (thenQ_n ?_)
      refine VC.sub [(0, _), (1, _), (7, _), (8, _)] (.cons rfl (.cons rfl (.cons rfl (.cons rfl .nil)))) ?_
      refine VC.region ?_
      refine Ops.r (Run.bin rfl rfl (Bin.add_i64 _ 1 (by omega))) rfl ?_
      refine Ops.r (Run.mv rfl) rfl ?_
      refine Ops.nil ?_
      refine thenQ_n ⟨(i + 1), (.cons rfl (.cons rfl (.cons rfl (.cons rfl .nil)))), ?_, ?_⟩
      · skip
        refine ⟨hc1, rfl, fun y hy => ?_⟩
        rw [hts] at hy
        rcases List.mem_append.1 hy with h | h
        · exact hno y h
        · simp only [List.mem_singleton] at h; subst h; exact of_decide_eq_false hc2
      · skip
        first | omega | (dsimp only; omega)
  · skip
    have hil : i = l.length := by omega
    rw [hil, List.take_length] at hno
    refine VC.exit ?_
    refine thenQ_x (thenQ_x (blockQ_x ?_))
    refine thenQ_n ?_
    refine VC.sub [] .nil ?_
    refine VC.seq ?_
    refine VC.region ?_
    refine Ops.r (v := .int .i64 (-1)) (Run.asg rfl) rfl ?_
    refine Ops.nil ?_
    refine thenQ_n ?_
    refine VC.ret ?_
    refine end1 rfl ?_
    exact ⟨rfl, _, rfl, ⟨fun h => by omega, fun ⟨y, hy, hb⟩ => absurd hb (hno y hy)⟩⟩

set_option maxRecDepth 100000 in
theorem idxI_has (A : Option Addr) (c : Nat) (l : List Int) (w : World) (hl : Rd w 1 A l.length (PI l)) (hn : l.length ≤ 1000000) :
    Calls Tryz.prog 72 #[.slice A l.length c, .func (.func 73) #[] #[]] w fun e w' => e = .returned (.bool (decide (∃ n ∈ l, BadN n))) ∧ w = w' := by
  refine VC.calls (nt := 9) (res := #[.tmp 4]) Tryz.func72 rfl Tryz.ntmps72 Tryz.results72 rfl ?_
  refine VC.seq ?_
  refine VC.region ?_
  refine Ops.r (Run.asg rfl) rfl ?_
  refine Ops.nil ?_
  refine thenQ_n ?_
  refine VC.sub [(0, _), (1, _)] (.cons rfl (.cons rfl .nil)) ?_
  refine VC.seq ?_
  refine VC.region ?_
  refine Ops.r (Run.mv rfl) rfl ?_
  refine Ops.r (Run.mv rfl) rfl ?_
  refine Ops.cl (Enters.fn (evs.cons rfl (evs.cons rfl evs.nil)) Tryz.call111) ((idxI A c l _ hl hn)) rfl ?_
  rintro e _ ⟨rfl, k, rfl, hk⟩
  refine ⟨_, rfl, ?_⟩
  refine Ops.r (Run.bin rfl rfl (Bin.geq _ 0)) rfl ?_
  refine Ops.r (Run.asg rfl) rfl ?_
  refine Ops.nil ?_
  refine thenQ_n ?_
  refine VC.sub [(4, _)] (.cons rfl .nil) ?_
  refine VC.ret ?_
  refine end1 rfl ?_
  exact ⟨by rw [decide_eq_decide.2 hk], rfl⟩

set_option maxRecDepth 100000 in
theorem mayS_spec (q : Tx) (w : World) (hq : q.length ≤ 1000000) : Calls Tryz.prog 75 #[encStr q] w fun e w' => e = .returned (.bool (decide (¬ TokQ q))) ∧ w = w' := by
  refine VC.calls (nt := 6) (res := #[.tmp 2]) Tryz.func75 rfl Tryz.ntmps75 Tryz.results75 rfl ?_
  refine VC.seq ?_
  refine VC.region ?_
  refine Ops.r (Run.asg rfl) rfl ?_
  refine Ops.nil ?_
  refine thenQ_n ?_
  refine VC.sub [(0, _)] (.cons rfl .nil) ?_
  refine VC.seq ?_
  refine VC.region ?_
  refine Ops.r (Run.mv rfl) rfl ?_
  refine Ops.cl (Enters.fn (evs.cons rfl evs.nil) Tryz.call76) ((token_spec q _ hq)) rfl ?_
  rintro e _ ⟨rfl, rfl⟩
  refine ⟨_, rfl, ?_⟩
  refine Ops.r (Run.not rfl) rfl ?_
  refine Ops.r (Run.asg rfl) rfl ?_
  refine Ops.nil ?_
  refine thenQ_n ?_
  refine VC.sub [(2, _)] (.cons rfl .nil) ?_
  refine VC.ret ?_
  refine end1 rfl ?_
  exact ⟨by by_cases h : TokQ q <;> simp [h], rfl⟩

set_option maxRecDepth 100000 in
theorem idxS (A : Option Addr) (c : Nat) (l : List Tx) (w : World) (hl : Rd w 1 A l.length (SB l)) (hn : l.length ≤ 1000000) (hs : ∀ s ∈ l, s.length ≤ 1000000) :
    Calls Tryz.prog 112 #[.slice A l.length c, .func (.func 75) #[] #[]] w fun e w' => w = w' ∧ ∃ k : Int, e = .returned (.int .i64 k) ∧ (0 ≤ k ↔ ∃ n ∈ l, ¬ TokQ n) := by
  refine VC.calls (nt := 19) (res := #[.tmp 4]) Tryz.func112 rfl Tryz.ntmps112 Tryz.results112 rfl ?_
  refine VC.seq ?_
  refine VC.region ?_
  refine Ops.r (v := .int .i64 ((0 : Nat) : Int)) (Run.asg rfl) rfl ?_
  refine Ops.nil ?_
  refine thenQ_n ?_
  refine VC.sub [(0, _), (1, _)] (.cons rfl (.cons rfl .nil)) ?_
  refine VC.seq ?_
  refine VC.seq ?_
  refine VC.region ?_
  refine Ops.r (Run.mv rfl) rfl ?_
  refine Ops.r (Run.lenS rfl Tryz.underlying36) rfl ?_
  refine Ops.r (v := .int .i64 ((0 : Nat) : Int)) (Run.mv rfl) rfl ?_
  refine Ops.nil ?_
  refine thenQ_n ?_
  refine VC.sub [(0, _), (1, _), (7, _), (8, _)] (.cons rfl (.cons rfl (.cons rfl (.cons rfl .nil)))) ?_
  refine VC.block ?_
  refine VC.loop (σ := Nat) (fun s => [(0, .slice A l.length c), (1, .func (.func 75) #[] #[]), (7, .int .i64 ((l.length : Nat) : Int)), (8, .int .i64 ((s : Nat) : Int))]) (fun s wr => s ≤ l.length ∧ w = wr ∧ ∀ x ∈ l.take s, ¬ (¬ TokQ x)) (fun s => l.length - s) 0 (.cons rfl (.cons rfl (.cons rfl (.cons rfl .nil)))) ⟨by omega, rfl, by simp⟩ ?_
  rintro i _ ⟨hi, rfl, hno⟩
  refine VC.seq ?_
  refine VC.region ?_
  refine Ops.r (Run.bin rfl rfl (Bin.lssN _ _)) rfl ?_
  refine Ops.nil ?_
  refine thenQ_n ?_
  refine VC.seq ?_
  refine VC.condD rfl (fun hc1 => ?_) (fun hc1 => ?_)
  · skip
    obtain ⟨ad, rfl, hcell⟩ := SB_at1 hl hc1
    have hts := take_snoc hc1
    have hmem := List.getElem_mem hc1
    generalize hx : l[i] = x at *
    refine VC.skip ?_
    refine thenQ_n ?_
    refine VC.sub [(0, _), (1, _), (7, _), (8, _)] (.cons rfl (.cons rfl (.cons rfl (.cons rfl .nil)))) ?_
    refine VC.seq ?_
    refine VC.block ?_
    refine VC.seq ?_
    refine VC.region ?_
    refine Ops.r (Run.mv rfl) rfl ?_
    refine Ops.r (Run.asg rfl) rfl ?_
    refine Ops.nil ?_
    refine thenQ_n ?_
    refine VC.sub [(0, _), (1, _), (5, _), (7, _), (8, _)] (.cons rfl (.cons rfl (.cons rfl (.cons rfl (.cons rfl .nil))))) ?_
    refine VC.seq ?_
    refine VC.region ?_
    refine Ops.r (Run.mv rfl) rfl ?_
    refine Ops.r (Run.mv rfl) rfl ?_
    refine Ops.r (Run.mv rfl) rfl ?_
    refine Ops.r (Run.indexS i rfl rfl Tryz.underlying36 Tryz.sizeOf9 hc1) rfl ?_
    refine Ops.r (Run.load rfl Tryz.isAgg9 hcell) rfl ?_
    refine Ops.cl (Enters.dyn rfl (evs.cons rfl evs.nil) Tryz.call75) ((mayS_spec x _ (hs x hmem))) rfl ?_
    rintro e _ ⟨rfl, rfl⟩
    refine ⟨_, rfl, ?_⟩
    refine Ops.nil ?_
    refine thenQ_n ?_
    refine VC.sub [(0, _), (1, _), (5, _), (7, _), (8, _), (16, _)] (.cons rfl (.cons rfl (.cons rfl (.cons rfl (.cons rfl (.cons rfl .nil)))))) ?_
    refine VC.condB rfl (fun hc2 => ?_) (fun hc2 => ?_)
    · skip
      refine VC.seq ?_
      refine VC.region ?_
      refine Ops.r (Run.mv rfl) rfl ?_
      refine Ops.r (Run.asg rfl) rfl ?_
      refine Ops.nil ?_
      refine thenQ_n ?_
      refine VC.sub [(4, _)] (.cons rfl .nil) ?_
      refine VC.ret ?_
      refine blockQ_r (thenQ_r (thenQ_r (blockQ_r (thenQ_r (end1 rfl ?_)))))
      exact ⟨rfl, _, rfl, ⟨fun _ => ⟨x, hmem, of_decide_eq_true hc2⟩, fun _ => by omega⟩⟩
    · skip
      refine VC.skip ?_
      refine blockQ_n (thenQ_n ?_)
      refine VC.sub [(0, _), (1, _), (7, _), (8, _)] (.cons rfl (.cons rfl (.cons rfl (.cons rfl .nil)))) ?_
      refine VC.region ?_
      refine Ops.r (Run.bin rfl rfl (Bin.add_i64 _ 1 (by omega))) rfl ?_
      refine Ops.r (Run.mv rfl) rfl ?_
      refine Ops.nil ?_
      refine thenQ_n ⟨(i + 1), (.cons rfl (.cons rfl (.cons rfl (.cons rfl .nil)))), ?_, ?_⟩
      · skip
        refine ⟨hc1, rfl, fun y hy => ?_⟩
        rw [hts] at hy
        rcases List.mem_append.1 hy with h | h
        · exact hno y h
        · simp only [List.mem_singleton] at h; subst h; exact of_decide_eq_false hc2
      · skip
        first | omega | (dsimp only; omega)
  · skip
    have hil : i = l.length := by omega
    rw [hil, List.take_length] at hno
    refine VC.exit ?_
    refine thenQ_x (thenQ_x (blockQ_x ?_))
    refine thenQ_n ?_
    refine VC.sub [] .nil ?_
    refine VC.seq ?_
    refine VC.region ?_
    refine Ops.r (v := .int .i64 (-1)) (Run.asg rfl) rfl ?_
    refine Ops.nil ?_
    refine thenQ_n ?_
    refine VC.ret ?_
    refine end1 rfl ?_
    exact ⟨rfl, _, rfl, ⟨fun h => by omega, fun ⟨y, hy, hb⟩ => absurd hb (hno y hy)⟩⟩

set_option maxRecDepth 100000 in
theorem idxS_has (A : Option Addr) (c : Nat) (l : List Tx) (w : World) (hl : Rd w 1 A l.length (SB l)) (hn : l.length ≤ 1000000) (hs : ∀ s ∈ l, s.length ≤ 1000000) :
    Calls Tryz.prog 74 #[.slice A l.length c, .func (.func 75) #[] #[]] w fun e w' => e = .returned (.bool (decide (∃ n ∈ l, ¬ TokQ n))) ∧ w = w' := by
  refine VC.calls (nt := 9) (res := #[.tmp 4]) Tryz.func74 rfl Tryz.ntmps74 Tryz.results74 rfl ?_
  refine VC.seq ?_
  refine VC.region ?_
  refine Ops.r (Run.asg rfl) rfl ?_
  refine Ops.nil ?_
  refine thenQ_n ?_
  refine VC.sub [(0, _), (1, _)] (.cons rfl (.cons rfl .nil)) ?_
  refine VC.seq ?_
  refine VC.region ?_
  refine Ops.r (Run.mv rfl) rfl ?_
  refine Ops.r (Run.mv rfl) rfl ?_
  refine Ops.cl (Enters.fn (evs.cons rfl (evs.cons rfl evs.nil)) Tryz.call112) ((idxS A c l _ hl hn hs)) rfl ?_
  rintro e _ ⟨rfl, k, rfl, hk⟩
  refine ⟨_, rfl, ?_⟩
  refine Ops.r (Run.bin rfl rfl (Bin.geq _ 0)) rfl ?_
  refine Ops.r (Run.asg rfl) rfl ?_
  refine Ops.nil ?_
  refine thenQ_n ?_
  refine VC.sub [(4, _)] (.cons rfl .nil) ?_
  refine VC.ret ?_
  refine end1 rfl ?_
  exact ⟨by rw [decide_eq_decide.2 hk], rfl⟩

end Go.Proofs.YtenbjndldenkfaaGreatDoor

namespace Go.Proofs.YtenbjndldenkfaaGreatDoor
open Go.RowKit Go.Sort

theorem not_may1 {v : Wnt} (h : 8 < v.path.length ∨ ∃ n ∈ v.path, BadN n) : ¬ MayW v := fun k => k.1 h
theorem not_may2 {v : Wnt} (h : (16 < v.names.length ∨ ¬ (NamedW v.what ↔ 0 < v.names.length)) ∨ ∃ s ∈ v.names, ¬ TokQ s) : ¬ MayW v := fun k => k.2.1 h
theorem kind_last {v : Wnt} (h3 : ¬ v.what = []) (h4 : ¬ v.what = hdrT) (h5 : ¬ v.what = txtT) (h6 : ¬ v.what = fldT) (h7 : ¬ v.what = othT) (h : KindW v) : v.what = mimT ∧ 0 < v.path.length := by
  rcases h with h | h | h | h | h | h
  · exact absurd h h3
  · exact absurd h h4
  · exact absurd h h5
  · exact absurd h h6
  · exact absurd h h7
  · exact h
theorem bne_dec (p q : Prop) [Decidable p] [Decidable q] : (decide p != decide q) = decide (¬ (p ↔ q)) := by
  by_cases hp : p <;> by_cases hq : q <;> simp [hp, hq]
theorem WtC_one (v : Wnt) (A : Option Addr) (c : Nat) (B : Option Addr) (d : Nat) : ∀ u ∈ (WtC v A c B d).toList, u.oneCell' = true := by
  intro u hu
  simp only [WtC, List.mem_cons, List.not_mem_nil, or_false] at hu
  rcases hu with rfl | rfl | rfl <;> rfl

set_option maxRecDepth 100000 in
theorem may_spec (v : Wnt) (A B : Option Addr) (c d : Nat) (w : World) (hp : Rd w 1 A v.path.length (PI v.path)) (hpl : v.path.length ≤ 1000000) (hn : Rd w 1 B v.names.length (SB v.names)) (hnl : v.names.length ≤ 1000000) (hns : ∀ s ∈ v.names, s.length ≤ 1000000) :
    Calls Tryz.prog 42 #[.agg (WtC v A c B d)] w fun e w' => e = .returned (.bool (decide (MayW v))) ∧ Frm [] w w' := by
  refine VC.calls (nt := 52) (res := #[.tmp 2]) Tryz.func42 rfl Tryz.ntmps42 Tryz.results42 rfl ?_
  refine VC.seq ?_
  refine VC.region ?_
  refine Ops.m (Does.box rfl) rfl ?_
  rintro _ w1 ⟨rfl, hF1⟩
  have hb1 : Blk w1 w.heap.size 38 (WtC v A c B d) := hF1.blk
  have K := hF1.frm
  have hp := hp.frm K (by simp)
  have hn := hn.frm K (by simp)
  generalize w.heap.size = g1 at hb1 ⊢
  refine Ops.r (Run.asg rfl) rfl ?_
  refine Ops.nil ?_
  refine thenQ_n ?_
  refine VC.sub [(1, _)] (.cons rfl .nil) ?_
  refine VC.seq ?_
  refine VC.split1 [(1, _)] (.cons rfl .nil) 3 (.bool (decide (NamedW v.what))) ?_ ?_
  · refine VC.region ?_
    refine Ops.r (Run.fieldAddr rfl Tryz.underlying38 rfl Tryz.sizeOf9 (by decide)) rfl ?_
    refine Ops.r (Run.load rfl Tryz.isAgg9 (hb1.cell 1)) rfl ?_
    refine Ops.r (Run.eqlT rfl rfl) rfl ?_
    by_cases hs6 : v.what = fldT
    · skip
      refine Ops.r (Run.mv rfl) rfl ?_
      refine Ops.sk rfl (by first | rfl | assumption | exact decide_eq_true (by assumption) | exact decide_eq_false (by assumption) | decide | (simp; done) | (simp; omega) | (simp [*]; done)) rfl ?_
      refine Ops.sk rfl (by first | rfl | assumption | exact decide_eq_true (by assumption) | exact decide_eq_false (by assumption) | decide | (simp; done) | (simp; omega) | (simp [*]; done)) rfl ?_
      refine Ops.sk rfl (by first | rfl | assumption | exact decide_eq_true (by assumption) | exact decide_eq_false (by assumption) | decide | (simp; done) | (simp; omega) | (simp [*]; done)) rfl ?_
      refine Ops.r (Run.pickT rfl rfl (by first | rfl | assumption | exact decide_eq_true (by assumption) | exact decide_eq_false (by assumption) | decide | (simp; done) | (simp; omega) | (simp [*]; done))) rfl ?_
      refine Ops.r (Run.asg rfl) rfl ?_
      refine Ops.nil ?_
      refine thenQ_n ⟨(.cons (congrArg (fun b => some (Value.bool b)) (by first | exact (decide_eq_true (show NamedW v.what from .inl hs6)).symm | exact (decide_eq_true hs6).trans (decide_eq_true (show NamedW v.what from .inl hs6)).symm | exact (decide_eq_true hs10).trans (decide_eq_true (show NamedW v.what from .inr hs10)).symm | exact (decide_eq_false hs10).trans (decide_eq_false (show ¬ (NamedW v.what) from fun h => h.elim hs6 hs10)).symm)) (.cons rfl .nil)), rfl⟩
    · skip
      refine Ops.r (Run.mv rfl) rfl ?_
      refine Ops.rg rfl (by first | rfl | assumption | exact decide_eq_true (by assumption) | exact decide_eq_false (by assumption) | decide | (simp; done) | (simp; omega) | (simp [*]; done)) (Run.fieldAddr rfl Tryz.underlying38 rfl Tryz.sizeOf9 (by decide)) rfl ?_
      refine Ops.rg rfl (by first | rfl | assumption | exact decide_eq_true (by assumption) | exact decide_eq_false (by assumption) | decide | (simp; done) | (simp; omega) | (simp [*]; done)) (Run.load rfl Tryz.isAgg9 (hb1.cell 1)) rfl ?_
      refine Ops.rg rfl (by first | rfl | assumption | exact decide_eq_true (by assumption) | exact decide_eq_false (by assumption) | decide | (simp; done) | (simp; omega) | (simp [*]; done)) (Run.eqlT rfl rfl) rfl ?_
      by_cases hs10 : v.what = othT
      · skip
        refine Ops.r (Run.pickF rfl rfl (by first | rfl | assumption | exact decide_eq_true (by assumption) | exact decide_eq_false (by assumption) | decide | (simp; done) | (simp; omega) | (simp [*]; done))) rfl ?_
        refine Ops.r (Run.asg rfl) rfl ?_
        refine Ops.nil ?_
        refine thenQ_n ⟨(.cons (congrArg (fun b => some (Value.bool b)) (by first | exact (decide_eq_true (show NamedW v.what from .inl hs6)).symm | exact (decide_eq_true hs6).trans (decide_eq_true (show NamedW v.what from .inl hs6)).symm | exact (decide_eq_true hs10).trans (decide_eq_true (show NamedW v.what from .inr hs10)).symm | exact (decide_eq_false hs10).trans (decide_eq_false (show ¬ (NamedW v.what) from fun h => h.elim hs6 hs10)).symm)) (.cons rfl .nil)), rfl⟩
      · skip
        refine Ops.r (Run.pickF rfl rfl (by first | rfl | assumption | exact decide_eq_true (by assumption) | exact decide_eq_false (by assumption) | decide | (simp; done) | (simp; omega) | (simp [*]; done))) rfl ?_
        refine Ops.r (Run.asg rfl) rfl ?_
        refine Ops.nil ?_
        refine thenQ_n ⟨(.cons (congrArg (fun b => some (Value.bool b)) (by first | exact (decide_eq_true (show NamedW v.what from .inl hs6)).symm | exact (decide_eq_true hs6).trans (decide_eq_true (show NamedW v.what from .inl hs6)).symm | exact (decide_eq_true hs10).trans (decide_eq_true (show NamedW v.what from .inr hs10)).symm | exact (decide_eq_false hs10).trans (decide_eq_false (show ¬ (NamedW v.what) from fun h => h.elim hs6 hs10)).symm)) (.cons rfl .nil)), rfl⟩
  · intro Γ hΓ
    refine thenQ_n (VC.sub _ hΓ ?_)
    refine VC.seq ?_
    refine VC.seq ?_
    refine VC.split1 [(1, _), (3, _)] (.cons rfl (.cons rfl .nil)) 20 (.bool (decide (8 < v.path.length ∨ ∃ n ∈ v.path, BadN n))) ?_ ?_
    · refine VC.region ?_
      refine Ops.r (Run.fieldAddr rfl Tryz.underlying38 rfl Tryz.sizeOf33 (by decide)) rfl ?_
      refine Ops.r (Run.load rfl Tryz.isAgg33 (hb1.cell 0)) rfl ?_
      refine Ops.r (Run.lenS rfl Tryz.underlying33) rfl ?_
      refine Ops.r (Run.bin rfl rfl (Bin.gtrN _ 8)) rfl ?_
      by_cases hs15 : 8 < v.path.length
      · skip
        refine Ops.r (Run.mv rfl) rfl ?_
        refine Ops.sk rfl (by first | rfl | assumption | exact decide_eq_true (by assumption) | exact decide_eq_false (by assumption) | decide | (simp; done) | (simp; omega) | (simp [*]; done)) rfl ?_
        refine Ops.sk rfl (by first | rfl | assumption | exact decide_eq_true (by assumption) | exact decide_eq_false (by assumption) | decide | (simp; done) | (simp; omega) | (simp [*]; done)) rfl ?_
        refine Ops.sk rfl (by first | rfl | assumption | exact decide_eq_true (by assumption) | exact decide_eq_false (by assumption) | decide | (simp; done) | (simp; omega) | (simp [*]; done)) rfl ?_
        refine Ops.r (Run.pickT rfl rfl (by first | rfl | assumption | exact decide_eq_true (by assumption) | exact decide_eq_false (by assumption) | decide | (simp; done) | (simp; omega) | (simp [*]; done))) rfl ?_
        refine Ops.nil ?_
        refine thenQ_n ⟨(.cons (congrArg (fun b => some (Value.bool b)) (by first | exact (decide_eq_true (show 8 < v.path.length ∨ ∃ n ∈ v.path, BadN n from .inl hs15)).symm | exact (decide_eq_true hs15).trans (decide_eq_true (show 8 < v.path.length ∨ ∃ n ∈ v.path, BadN n from .inl hs15)).symm | exact (decide_eq_true hs19).trans (decide_eq_true (show 8 < v.path.length ∨ ∃ n ∈ v.path, BadN n from .inr hs19)).symm | exact (decide_eq_false hs19).trans (decide_eq_false (show ¬ (8 < v.path.length ∨ ∃ n ∈ v.path, BadN n) from fun h => h.elim hs15 hs19)).symm)) (.cons rfl (.cons rfl .nil))), rfl⟩
      · skip
        refine Ops.r (Run.mv rfl) rfl ?_
        refine Ops.rg rfl (by first | rfl | assumption | exact decide_eq_true (by assumption) | exact decide_eq_false (by assumption) | decide | (simp; done) | (simp; omega) | (simp [*]; done)) (Run.fieldAddr rfl Tryz.underlying38 rfl Tryz.sizeOf33 (by decide)) rfl ?_
        refine Ops.rg rfl (by first | rfl | assumption | exact decide_eq_true (by assumption) | exact decide_eq_false (by assumption) | decide | (simp; done) | (simp; omega) | (simp [*]; done)) (Run.load rfl Tryz.isAgg33 (hb1.cell 0)) rfl ?_
        refine Ops.clg rfl (by first | rfl | assumption | exact decide_eq_true (by assumption) | exact decide_eq_false (by assumption) | decide | (simp; done) | (simp; omega) | (simp [*]; done)) (Enters.fn (evs.cons rfl (evs.cons rfl evs.nil)) Tryz.call72) ((idxI_has A c v.path _ hp hpl)) rfl ?_
        rintro e _ ⟨rfl, rfl⟩
        refine ⟨_, rfl, ?_⟩
        by_cases hs19 : ∃ n ∈ v.path, BadN n
        · skip
          refine Ops.r (Run.pickF rfl rfl (by first | rfl | assumption | exact decide_eq_true (by assumption) | exact decide_eq_false (by assumption) | decide | (simp; done) | (simp; omega) | (simp [*]; done))) rfl ?_
          refine Ops.nil ?_
          refine thenQ_n ⟨(.cons (congrArg (fun b => some (Value.bool b)) (by first | exact (decide_eq_true (show 8 < v.path.length ∨ ∃ n ∈ v.path, BadN n from .inl hs15)).symm | exact (decide_eq_true hs15).trans (decide_eq_true (show 8 < v.path.length ∨ ∃ n ∈ v.path, BadN n from .inl hs15)).symm | exact (decide_eq_true hs19).trans (decide_eq_true (show 8 < v.path.length ∨ ∃ n ∈ v.path, BadN n from .inr hs19)).symm | exact (decide_eq_false hs19).trans (decide_eq_false (show ¬ (8 < v.path.length ∨ ∃ n ∈ v.path, BadN n) from fun h => h.elim hs15 hs19)).symm)) (.cons rfl (.cons rfl .nil))), rfl⟩
        · skip
          refine Ops.r (Run.pickF rfl rfl (by first | rfl | assumption | exact decide_eq_true (by assumption) | exact decide_eq_false (by assumption) | decide | (simp; done) | (simp; omega) | (simp [*]; done))) rfl ?_
          refine Ops.nil ?_
          refine thenQ_n ⟨(.cons (congrArg (fun b => some (Value.bool b)) (by first | exact (decide_eq_true (show 8 < v.path.length ∨ ∃ n ∈ v.path, BadN n from .inl hs15)).symm | exact (decide_eq_true hs15).trans (decide_eq_true (show 8 < v.path.length ∨ ∃ n ∈ v.path, BadN n from .inl hs15)).symm | exact (decide_eq_true hs19).trans (decide_eq_true (show 8 < v.path.length ∨ ∃ n ∈ v.path, BadN n from .inr hs19)).symm | exact (decide_eq_false hs19).trans (decide_eq_false (show ¬ (8 < v.path.length ∨ ∃ n ∈ v.path, BadN n) from fun h => h.elim hs15 hs19)).symm)) (.cons rfl (.cons rfl .nil))), rfl⟩
    · intro Γ hΓ
      refine thenQ_n (VC.sub _ hΓ ?_)
      refine VC.condD rfl (fun hc1 => ?_) (fun hc1 => ?_)
      · skip
        refine VC.seq ?_
        refine VC.region ?_
        refine Ops.r (Run.asg rfl) rfl ?_
        refine Ops.nil ?_
        refine thenQ_n ?_
        refine VC.sub [(2, _)] (.cons rfl .nil) ?_
        refine VC.ret ?_
        refine thenQ_r (end1 rfl ?_)
        exact ⟨by rw [decide_eq_false (not_may1 hc1)], K⟩
      · skip
        refine VC.skip ?_
        refine thenQ_n ?_
        refine VC.sub [(1, _), (3, _)] (.cons rfl (.cons rfl .nil)) ?_
        refine VC.seq ?_
        refine VC.seq ?_
        refine VC.split1 [(1, _)] (.cons rfl .nil) 37 (.bool (decide ((16 < v.names.length ∨ ¬ (NamedW v.what ↔ 0 < v.names.length)) ∨ ∃ s ∈ v.names, ¬ TokQ s))) ?_ ?_
        · refine VC.region ?_
          refine Ops.r (Run.fieldAddr rfl Tryz.underlying38 rfl Tryz.sizeOf36 (by decide)) rfl ?_
          refine Ops.r (Run.load rfl Tryz.isAgg36 (hb1.cell 2)) rfl ?_
          refine Ops.r (Run.lenS rfl Tryz.underlying36) rfl ?_
          refine Ops.r (Run.bin rfl rfl (Bin.gtrN _ 16)) rfl ?_
          by_cases hs24 : 16 < v.names.length
          · skip
            refine Ops.r (Run.mv rfl) rfl ?_
            refine Ops.sk rfl (by first | rfl | assumption | exact decide_eq_true (by assumption) | exact decide_eq_false (by assumption) | decide | (simp; done) | (simp; omega) | (simp [*]; done)) rfl ?_
            refine Ops.sk rfl (by first | rfl | assumption | exact decide_eq_true (by assumption) | exact decide_eq_false (by assumption) | decide | (simp; done) | (simp; omega) | (simp [*]; done)) rfl ?_
            refine Ops.sk rfl (by first | rfl | assumption | exact decide_eq_true (by assumption) | exact decide_eq_false (by assumption) | decide | (simp; done) | (simp; omega) | (simp [*]; done)) rfl ?_
            refine Ops.sk rfl (by first | rfl | assumption | exact decide_eq_true (by assumption) | exact decide_eq_false (by assumption) | decide | (simp; done) | (simp; omega) | (simp [*]; done)) rfl ?_
            refine Ops.sk rfl (by first | rfl | assumption | exact decide_eq_true (by assumption) | exact decide_eq_false (by assumption) | decide | (simp; done) | (simp; omega) | (simp [*]; done)) rfl ?_
            refine Ops.sk rfl (by first | rfl | assumption | exact decide_eq_true (by assumption) | exact decide_eq_false (by assumption) | decide | (simp; done) | (simp; omega) | (simp [*]; done)) rfl ?_
            refine Ops.r (Run.pickT rfl rfl (by first | rfl | assumption | exact decide_eq_true (by assumption) | exact decide_eq_false (by assumption) | decide | (simp; done) | (simp; omega) | (simp [*]; done))) rfl ?_
            refine Ops.r (Run.mv rfl) rfl ?_
            refine Ops.sk rfl (by first | rfl | assumption | exact decide_eq_true (by assumption) | exact decide_eq_false (by assumption) | decide | (simp; done) | (simp; omega) | (simp [*]; done)) rfl ?_
            refine Ops.sk rfl (by first | rfl | assumption | exact decide_eq_true (by assumption) | exact decide_eq_false (by assumption) | decide | (simp; done) | (simp; omega) | (simp [*]; done)) rfl ?_
            refine Ops.sk rfl (by first | rfl | assumption | exact decide_eq_true (by assumption) | exact decide_eq_false (by assumption) | decide | (simp; done) | (simp; omega) | (simp [*]; done)) rfl ?_
            refine Ops.r (Run.pickT rfl rfl (by first | rfl | assumption | exact decide_eq_true (by assumption) | exact decide_eq_false (by assumption) | decide | (simp; done) | (simp; omega) | (simp [*]; done))) rfl ?_
            refine Ops.nil ?_
            refine thenQ_n ⟨(.cons (congrArg (fun b => some (Value.bool b)) (by first | exact (decide_eq_true (show (16 < v.names.length ∨ ¬ (NamedW v.what ↔ 0 < v.names.length)) ∨ ∃ s ∈ v.names, ¬ TokQ s from .inl (.inl hs24))).symm | exact (decide_eq_true hs24).trans (decide_eq_true (show (16 < v.names.length ∨ ¬ (NamedW v.what ↔ 0 < v.names.length)) ∨ ∃ s ∈ v.names, ¬ TokQ s from .inl (.inl hs24))).symm | exact (decide_eq_true (show (16 < v.names.length ∨ ¬ (NamedW v.what ↔ 0 < v.names.length)) ∨ ∃ s ∈ v.names, ¬ TokQ s from .inl (.inr hs31))).symm | exact (decide_eq_true hs31).trans (decide_eq_true (show (16 < v.names.length ∨ ¬ (NamedW v.what ↔ 0 < v.names.length)) ∨ ∃ s ∈ v.names, ¬ TokQ s from .inl (.inr hs31))).symm | exact (decide_eq_true hs36).trans (decide_eq_true (show (16 < v.names.length ∨ ¬ (NamedW v.what ↔ 0 < v.names.length)) ∨ ∃ s ∈ v.names, ¬ TokQ s from .inr hs36)).symm | exact (decide_eq_false hs36).trans (decide_eq_false (show ¬ ((16 < v.names.length ∨ ¬ (NamedW v.what ↔ 0 < v.names.length)) ∨ ∃ s ∈ v.names, ¬ TokQ s) from fun h => h.elim (fun h => h.elim hs24 hs31) hs36)).symm)) (.cons rfl .nil)), rfl⟩
          · skip
            refine Ops.r (Run.mv rfl) rfl ?_
            refine Ops.rg rfl (by first | rfl | assumption | exact decide_eq_true (by assumption) | exact decide_eq_false (by assumption) | decide | (simp; done) | (simp; omega) | (simp [*]; done)) (Run.mv rfl) rfl ?_
            refine Ops.rg rfl (by first | rfl | assumption | exact decide_eq_true (by assumption) | exact decide_eq_false (by assumption) | decide | (simp; done) | (simp; omega) | (simp [*]; done)) (Run.fieldAddr rfl Tryz.underlying38 rfl Tryz.sizeOf36 (by decide)) rfl ?_
            refine Ops.rg rfl (by first | rfl | assumption | exact decide_eq_true (by assumption) | exact decide_eq_false (by assumption) | decide | (simp; done) | (simp; omega) | (simp [*]; done)) (Run.load rfl Tryz.isAgg36 (hb1.cell 2)) rfl ?_
            refine Ops.rg rfl (by first | rfl | assumption | exact decide_eq_true (by assumption) | exact decide_eq_false (by assumption) | decide | (simp; done) | (simp; omega) | (simp [*]; done)) (Run.lenS rfl Tryz.underlying36) rfl ?_
            refine Ops.rg rfl (by first | rfl | assumption | exact decide_eq_true (by assumption) | exact decide_eq_false (by assumption) | decide | (simp; done) | (simp; omega) | (simp [*]; done)) (Run.bin rfl rfl (Bin.gtrN _ 0)) rfl ?_
            refine Ops.rg rfl (by first | rfl | assumption | exact decide_eq_true (by assumption) | exact decide_eq_false (by assumption) | decide | (simp; done) | (simp; omega) | (simp [*]; done)) (Run.neqB rfl rfl Tryz.underlying4) rfl ?_
            rw [bne_dec]
            by_cases hs31 : ¬ (NamedW v.what ↔ 0 < v.names.length)
            · skip
              refine Ops.r (Run.pickF rfl rfl (by first | rfl | assumption | exact decide_eq_true (by assumption) | exact decide_eq_false (by assumption) | decide | (simp; done) | (simp; omega) | (simp [*]; done))) rfl ?_
              refine Ops.r (Run.mv rfl) rfl ?_
              refine Ops.sk rfl (by first | rfl | assumption | exact decide_eq_true (by assumption) | exact decide_eq_false (by assumption) | decide | (simp; done) | (simp; omega) | (simp [*]; done)) rfl ?_
              refine Ops.sk rfl (by first | rfl | assumption | exact decide_eq_true (by assumption) | exact decide_eq_false (by assumption) | decide | (simp; done) | (simp; omega) | (simp [*]; done)) rfl ?_
              refine Ops.sk rfl (by first | rfl | assumption | exact decide_eq_true (by assumption) | exact decide_eq_false (by assumption) | decide | (simp; done) | (simp; omega) | (simp [*]; done)) rfl ?_
              refine Ops.r (Run.pickT rfl rfl (by first | rfl | assumption | exact decide_eq_true (by assumption) | exact decide_eq_false (by assumption) | decide | (simp; done) | (simp; omega) | (simp [*]; done))) rfl ?_
              refine Ops.nil ?_
              refine thenQ_n ⟨(.cons (congrArg (fun b => some (Value.bool b)) (by first | exact (decide_eq_true (show (16 < v.names.length ∨ ¬ (NamedW v.what ↔ 0 < v.names.length)) ∨ ∃ s ∈ v.names, ¬ TokQ s from .inl (.inl hs24))).symm | exact (decide_eq_true hs24).trans (decide_eq_true (show (16 < v.names.length ∨ ¬ (NamedW v.what ↔ 0 < v.names.length)) ∨ ∃ s ∈ v.names, ¬ TokQ s from .inl (.inl hs24))).symm | exact (decide_eq_true (show (16 < v.names.length ∨ ¬ (NamedW v.what ↔ 0 < v.names.length)) ∨ ∃ s ∈ v.names, ¬ TokQ s from .inl (.inr hs31))).symm | exact (decide_eq_true hs31).trans (decide_eq_true (show (16 < v.names.length ∨ ¬ (NamedW v.what ↔ 0 < v.names.length)) ∨ ∃ s ∈ v.names, ¬ TokQ s from .inl (.inr hs31))).symm | exact (decide_eq_true hs36).trans (decide_eq_true (show (16 < v.names.length ∨ ¬ (NamedW v.what ↔ 0 < v.names.length)) ∨ ∃ s ∈ v.names, ¬ TokQ s from .inr hs36)).symm | exact (decide_eq_false hs36).trans (decide_eq_false (show ¬ ((16 < v.names.length ∨ ¬ (NamedW v.what ↔ 0 < v.names.length)) ∨ ∃ s ∈ v.names, ¬ TokQ s) from fun h => h.elim (fun h => h.elim hs24 hs31) hs36)).symm)) (.cons rfl .nil)), rfl⟩
            · skip
              refine Ops.r (Run.pickF rfl rfl (by first | rfl | assumption | exact decide_eq_true (by assumption) | exact decide_eq_false (by assumption) | decide | (simp; done) | (simp; omega) | (simp [*]; done))) rfl ?_
              refine Ops.r (Run.mv rfl) rfl ?_
              refine Ops.rg rfl (by first | rfl | assumption | exact decide_eq_true (by assumption) | exact decide_eq_false (by assumption) | decide | (simp; done) | (simp; omega) | (simp [*]; done)) (Run.fieldAddr rfl Tryz.underlying38 rfl Tryz.sizeOf36 (by decide)) rfl ?_
              refine Ops.rg rfl (by first | rfl | assumption | exact decide_eq_true (by assumption) | exact decide_eq_false (by assumption) | decide | (simp; done) | (simp; omega) | (simp [*]; done)) (Run.load rfl Tryz.isAgg36 (hb1.cell 2)) rfl ?_
              refine Ops.clg rfl (by first | rfl | assumption | exact decide_eq_true (by assumption) | exact decide_eq_false (by assumption) | decide | (simp; done) | (simp; omega) | (simp [*]; done)) (Enters.fn (evs.cons rfl (evs.cons rfl evs.nil)) Tryz.call74) ((idxS_has B d v.names _ hn hnl hns)) rfl ?_
              rintro e _ ⟨rfl, rfl⟩
              refine ⟨_, rfl, ?_⟩
              by_cases hs36 : ∃ s ∈ v.names, ¬ TokQ s
              · skip
                refine Ops.r (Run.pickF rfl rfl (by first | rfl | assumption | exact decide_eq_true (by assumption) | exact decide_eq_false (by assumption) | decide | (simp; done) | (simp; omega) | (simp [*]; done))) rfl ?_
                refine Ops.nil ?_
                refine thenQ_n ⟨(.cons (congrArg (fun b => some (Value.bool b)) (by first | exact (decide_eq_true (show (16 < v.names.length ∨ ¬ (NamedW v.what ↔ 0 < v.names.length)) ∨ ∃ s ∈ v.names, ¬ TokQ s from .inl (.inl hs24))).symm | exact (decide_eq_true hs24).trans (decide_eq_true (show (16 < v.names.length ∨ ¬ (NamedW v.what ↔ 0 < v.names.length)) ∨ ∃ s ∈ v.names, ¬ TokQ s from .inl (.inl hs24))).symm | exact (decide_eq_true (show (16 < v.names.length ∨ ¬ (NamedW v.what ↔ 0 < v.names.length)) ∨ ∃ s ∈ v.names, ¬ TokQ s from .inl (.inr hs31))).symm | exact (decide_eq_true hs31).trans (decide_eq_true (show (16 < v.names.length ∨ ¬ (NamedW v.what ↔ 0 < v.names.length)) ∨ ∃ s ∈ v.names, ¬ TokQ s from .inl (.inr hs31))).symm | exact (decide_eq_true hs36).trans (decide_eq_true (show (16 < v.names.length ∨ ¬ (NamedW v.what ↔ 0 < v.names.length)) ∨ ∃ s ∈ v.names, ¬ TokQ s from .inr hs36)).symm | exact (decide_eq_false hs36).trans (decide_eq_false (show ¬ ((16 < v.names.length ∨ ¬ (NamedW v.what ↔ 0 < v.names.length)) ∨ ∃ s ∈ v.names, ¬ TokQ s) from fun h => h.elim (fun h => h.elim hs24 hs31) hs36)).symm)) (.cons rfl .nil)), rfl⟩
              · skip
                refine Ops.r (Run.pickF rfl rfl (by first | rfl | assumption | exact decide_eq_true (by assumption) | exact decide_eq_false (by assumption) | decide | (simp; done) | (simp; omega) | (simp [*]; done))) rfl ?_
                refine Ops.nil ?_
                refine thenQ_n ⟨(.cons (congrArg (fun b => some (Value.bool b)) (by first | exact (decide_eq_true (show (16 < v.names.length ∨ ¬ (NamedW v.what ↔ 0 < v.names.length)) ∨ ∃ s ∈ v.names, ¬ TokQ s from .inl (.inl hs24))).symm | exact (decide_eq_true hs24).trans (decide_eq_true (show (16 < v.names.length ∨ ¬ (NamedW v.what ↔ 0 < v.names.length)) ∨ ∃ s ∈ v.names, ¬ TokQ s from .inl (.inl hs24))).symm | exact (decide_eq_true (show (16 < v.names.length ∨ ¬ (NamedW v.what ↔ 0 < v.names.length)) ∨ ∃ s ∈ v.names, ¬ TokQ s from .inl (.inr hs31))).symm | exact (decide_eq_true hs31).trans (decide_eq_true (show (16 < v.names.length ∨ ¬ (NamedW v.what ↔ 0 < v.names.length)) ∨ ∃ s ∈ v.names, ¬ TokQ s from .inl (.inr hs31))).symm | exact (decide_eq_true hs36).trans (decide_eq_true (show (16 < v.names.length ∨ ¬ (NamedW v.what ↔ 0 < v.names.length)) ∨ ∃ s ∈ v.names, ¬ TokQ s from .inr hs36)).symm | exact (decide_eq_false hs36).trans (decide_eq_false (show ¬ ((16 < v.names.length ∨ ¬ (NamedW v.what ↔ 0 < v.names.length)) ∨ ∃ s ∈ v.names, ¬ TokQ s) from fun h => h.elim (fun h => h.elim hs24 hs31) hs36)).symm)) (.cons rfl .nil)), rfl⟩
        · intro Γ hΓ
          refine thenQ_n (VC.sub _ hΓ ?_)
          refine VC.condD rfl (fun hc2 => ?_) (fun hc2 => ?_)
          · skip
            refine VC.seq ?_
            refine VC.region ?_
            refine Ops.r (Run.asg rfl) rfl ?_
            refine Ops.nil ?_
            refine thenQ_n ?_
            refine VC.sub [(2, _)] (.cons rfl .nil) ?_
            refine VC.ret ?_
            refine thenQ_r (end1 rfl ?_)
            exact ⟨by rw [decide_eq_false (not_may2 hc2)], K⟩
          · skip
            refine VC.skip ?_
            refine thenQ_n ?_
            refine VC.sub [(1, _)] (.cons rfl .nil) ?_
            refine VC.seq ?_
            refine VC.seq ?_
            refine VC.region ?_
            refine Ops.r (Run.fieldAddr rfl Tryz.underlying38 rfl Tryz.sizeOf9 (by decide)) rfl ?_
            refine Ops.r (Run.load rfl Tryz.isAgg9 (hb1.cell 1)) rfl ?_
            refine Ops.nil ?_
            refine thenQ_n ?_
            refine VC.sub [(1, _), (39, _)] (.cons rfl (.cons rfl .nil)) ?_
            refine VC.block ?_
            refine VC.seq ?_
            refine VC.seq ?_
            refine VC.region ?_
            refine Ops.r (Run.eqlT rfl rfl) rfl ?_
            refine Ops.r (Run.asg rfl) rfl ?_
            refine Ops.nil ?_
            refine thenQ_n ?_
            refine VC.sub [(1, _), (39, _), (40, _)] (.cons rfl (.cons rfl (.cons rfl .nil))) ?_
            refine VC.condD rfl (fun hc3 => ?_) (fun hc3 => ?_)
            · skip
              refine VC.skip ?_
              refine thenQ_n ?_
              refine VC.condT rfl (decide_eq_true hc3) ?_
              refine VC.seq ?_
              refine VC.region ?_
              refine Ops.r (Run.asg rfl) rfl ?_
              refine Ops.nil ?_
              refine thenQ_n ?_
              refine VC.sub [(2, _)] (.cons rfl .nil) ?_
              refine VC.ret ?_
              refine blockQ_r (thenQ_r (end1 rfl ?_))
              exact ⟨by rw [decide_eq_true (show MayW v from ⟨hc1, hc2, .inl hc3⟩)], K⟩
            · skip
              refine VC.seq ?_
              refine VC.region ?_
              refine Ops.r (Run.eqlT rfl rfl) rfl ?_
              refine Ops.r (Run.asg rfl) rfl ?_
              refine Ops.nil ?_
              refine thenQ_n ?_
              refine VC.sub [(1, _), (39, _), (40, _)] (.cons rfl (.cons rfl (.cons rfl .nil))) ?_
              refine VC.condD rfl (fun hc4 => ?_) (fun hc4 => ?_)
              · skip
                refine VC.skip ?_
                refine thenQ_n ?_
                refine VC.condT rfl (decide_eq_true hc4) ?_
                refine VC.seq ?_
                refine VC.region ?_
                refine Ops.r (Run.asg rfl) rfl ?_
                refine Ops.nil ?_
                refine thenQ_n ?_
                refine VC.sub [(2, _)] (.cons rfl .nil) ?_
                refine VC.ret ?_
                refine blockQ_r (thenQ_r (end1 rfl ?_))
                exact ⟨by rw [decide_eq_true (show MayW v from ⟨hc1, hc2, .inr (.inl hc4)⟩)], K⟩
              · skip
                refine VC.seq ?_
                refine VC.region ?_
                refine Ops.r (Run.eqlT rfl rfl) rfl ?_
                refine Ops.r (Run.asg rfl) rfl ?_
                refine Ops.nil ?_
                refine thenQ_n ?_
                refine VC.sub [(1, _), (39, _), (40, _)] (.cons rfl (.cons rfl (.cons rfl .nil))) ?_
                refine VC.condD rfl (fun hc5 => ?_) (fun hc5 => ?_)
                · skip
                  refine VC.skip ?_
                  refine thenQ_n ?_
                  refine VC.condT rfl (decide_eq_true hc5) ?_
                  refine VC.seq ?_
                  refine VC.region ?_
                  refine Ops.r (Run.asg rfl) rfl ?_
                  refine Ops.nil ?_
                  refine thenQ_n ?_
                  refine VC.sub [(2, _)] (.cons rfl .nil) ?_
                  refine VC.ret ?_
                  refine blockQ_r (thenQ_r (end1 rfl ?_))
                  exact ⟨by rw [decide_eq_true (show MayW v from ⟨hc1, hc2, .inr (.inr (.inl hc5))⟩)], K⟩
                · skip
                  refine VC.seq ?_
                  refine VC.region ?_
                  refine Ops.r (Run.eqlT rfl rfl) rfl ?_
                  refine Ops.r (Run.asg rfl) rfl ?_
                  refine Ops.nil ?_
                  refine thenQ_n ?_
                  refine VC.sub [(1, _), (39, _), (40, _)] (.cons rfl (.cons rfl (.cons rfl .nil))) ?_
                  refine VC.condD rfl (fun hc6 => ?_) (fun hc6 => ?_)
                  · skip
                    refine VC.skip ?_
                    refine thenQ_n ?_
                    refine VC.condT rfl (decide_eq_true hc6) ?_
                    refine VC.seq ?_
                    refine VC.region ?_
                    refine Ops.r (Run.asg rfl) rfl ?_
                    refine Ops.nil ?_
                    refine thenQ_n ?_
                    refine VC.sub [(2, _)] (.cons rfl .nil) ?_
                    refine VC.ret ?_
                    refine blockQ_r (thenQ_r (end1 rfl ?_))
                    exact ⟨by rw [decide_eq_true (show MayW v from ⟨hc1, hc2, .inr (.inr (.inr (.inl hc6)))⟩)], K⟩
                  · skip
                    refine VC.region ?_
                    refine Ops.r (Run.eqlT rfl rfl) rfl ?_
                    refine Ops.r (Run.asg rfl) rfl ?_
                    refine Ops.nil ?_
                    refine thenQ_n ?_
                    refine VC.sub [(1, _), (39, _), (40, _)] (.cons rfl (.cons rfl (.cons rfl .nil))) ?_
                    refine VC.condD rfl (fun hc7 => ?_) (fun hc7 => ?_)
                    · skip
                      refine VC.seq ?_
                      refine VC.region ?_
                      refine Ops.r (Run.asg rfl) rfl ?_
                      refine Ops.nil ?_
                      refine thenQ_n ?_
                      refine VC.sub [(2, _)] (.cons rfl .nil) ?_
                      refine VC.ret ?_
                      refine blockQ_r (thenQ_r (end1 rfl ?_))
                      exact ⟨by rw [decide_eq_true (show MayW v from ⟨hc1, hc2, .inr (.inr (.inr (.inr (.inl hc7))))⟩)], K⟩
                    · skip
                      refine VC.seq ?_
                      refine VC.region ?_
                      refine Ops.r (Run.eqlT rfl rfl) rfl ?_
                      refine Ops.r (Run.asg rfl) rfl ?_
                      refine Ops.nil ?_
                      refine thenQ_n ?_
                      refine VC.sub [(1, _), (46, _)] (.cons rfl (.cons rfl .nil)) ?_
                      refine VC.condD rfl (fun hc8 => ?_) (fun hc8 => ?_)
                      · skip
                        refine VC.seq ?_
                        refine VC.region ?_
                        refine Ops.r (Run.fieldAddr rfl Tryz.underlying38 rfl Tryz.sizeOf33 (by decide)) rfl ?_
                        refine Ops.r (Run.load rfl Tryz.isAgg33 (hb1.cell 0)) rfl ?_
                        refine Ops.r (Run.lenS rfl Tryz.underlying33) rfl ?_
                        refine Ops.r (Run.bin rfl rfl (Bin.gtrN _ 0)) rfl ?_
                        refine Ops.r (Run.asg rfl) rfl ?_
                        refine Ops.nil ?_
                        refine thenQ_n ?_
                        refine VC.sub [(2, _)] (.cons rfl .nil) ?_
                        refine VC.ret ?_
                        refine blockQ_r (thenQ_r (end1 rfl ?_))
                        exact ⟨by rw [decide_eq_decide.2 (show 0 < v.path.length ↔ MayW v from ⟨fun h => ⟨hc1, hc2, .inr (.inr (.inr (.inr (.inr ⟨hc8, h⟩))))⟩, fun h => (kind_last hc3 hc4 hc5 hc6 hc7 h.2.2).2⟩)], K⟩
                      · skip
                        refine VC.skip ?_
                        refine blockQ_n (thenQ_n ?_)
                        refine VC.sub [] .nil ?_
                        refine VC.seq ?_
                        refine VC.region ?_
                        refine Ops.r (Run.asg rfl) rfl ?_
                        refine Ops.nil ?_
                        refine thenQ_n ?_
                        refine VC.ret ?_
                        refine end1 rfl ?_
                        exact ⟨by rw [decide_eq_false (show ¬ MayW v from fun h => hc8 (kind_last hc3 hc4 hc5 hc6 hc7 h.2.2).1)], K⟩

end Go.Proofs.YtenbjndldenkfaaGreatDoor

namespace Go.Proofs.YtenbjndldenkfaaGreatDoor
open Go.RowKit Go.Sort

section
variable {P : Program} {Γ : Env} {w : World} {dst : Option Tmp} {pos : String} {after : Array Edge} {g : Option (Nat × Bool)} {T : TypeId}
theorem Run.eqlNilS {t yT e : TypeId} {x y : Operand} {A : Option Addr} {n c : Nat} (hx : ev? Γ x = some (.slice A n c)) (hy : ev? Γ y = some (.slice none 0 0)) (ht : P.underlying t = some (.slice e)) :
    Run P ⟨dst, .binOp .eql t x y yT, T, pos, after, g⟩ Γ w (.bool A.isNone) := fun ρ hρ => by
  have h0 : ∀ d : Nat, (Op.equalIn (d + 1) t (.slice A n c) (.slice none 0 0)).run P w = .ok A.isNone w := fun d => by
    cases A <;> simp [Op.equalIn, run_underlying ht]
  have h1 : (Op.equal t (.slice A n c) (.slice none 0 0)).run P w = .ok A.isNone w := h0 9999
  simp [execOp, hρ _ _ hx, hρ _ _ hy, eqGuard, binOp, h1]
end

set_option maxRecDepth 100000 in
theorem clone_spec (A : Option Addr) (c n : Nat) (q : Tx) (w : World) (hn : n = q.length) (hrd : Rd w 1 A n (U8 q)) (hq : q.length ≤ 1000000) :
    Calls Tryz.prog 43 #[.slice A n c] w fun e w' => Frm [] w w' ∧ ∃ (A2 : Option Addr) (c2 : Nat), e = .returned (.slice A2 q.length c2) ∧ Own w' 5 1 A2 q.length c2 (U8 q) ∧ ∀ x ∈ ob A2, w.heap.size ≤ x := by
  subst hn
  have K := Frm.refl [] w
  refine VC.calls (nt := 8) (res := #[.tmp 2]) Tryz.func43 rfl Tryz.ntmps43 Tryz.results43 rfl ?_
  refine VC.seq ?_
  refine VC.region ?_
  refine Ops.r (Run.asg rfl) rfl ?_
  refine Ops.nil ?_
  refine thenQ_n ?_
  refine VC.sub [(0, _)] (.cons rfl .nil) ?_
  refine VC.seq ?_
  refine VC.seq ?_
  refine VC.region ?_
  refine Ops.r (Run.mv rfl) rfl ?_
  refine Ops.r (Run.eqlNilS rfl rfl Tryz.underlying22) rfl ?_
  refine Ops.nil ?_
  refine thenQ_n ?_
  refine VC.sub [(0, _), (4, _)] (.cons rfl (.cons rfl .nil)) ?_
  refine VC.condB rfl (fun hc1 => ?_) (fun hc1 => ?_)
  · skip
    have hA : A = none := Option.isNone_iff_eq_none.1 hc1
    have hq0 : q = [] := by
      cases q with
      | nil => rfl
      | cons x r =>
        obtain ⟨ad, h, _⟩ := hrd.2 (by simp)
        rw [hA] at h
        cases h
    subst hq0
    refine VC.seq ?_
    refine VC.region ?_
    refine Ops.r (Run.asg rfl) rfl ?_
    refine Ops.nil ?_
    refine thenQ_n ?_
    refine VC.sub [(2, _)] (.cons rfl .nil) ?_
    refine VC.ret ?_
    refine thenQ_r (end1 rfl ?_)
    exact ⟨K, none, 0, rfl, Own.nil _ _ _, by simp [ob]⟩
  · skip
    refine VC.skip ?_
    refine thenQ_n ?_
    refine VC.sub [(0, _)] (.cons rfl .nil) ?_
    refine VC.seq ?_
    refine VC.region ?_
    refine Ops.m (Does.buildS0 Tryz.underlying22 Tryz.sizeOf5) rfl ?_
    rintro _ w1 ⟨rfl, hF1⟩
    have hb := hF1.blk
    have hO := Own.of_blk (n := 0) (size := 1) hb rfl (by simp [maxLen])
    have hrd := hrd.frm hF1.frm (by simp)
    have K := K.trans hF1.frm (by simp)
    refine Ops.r (Run.mv rfl) rfl ?_
    refine Ops.m (Does.app rfl rfl Tryz.underlying22 (info5) rfl (by decide) hO hrd (U8_one _) (by omega) (by omega)) rfl ?_
    rintro _ w2 ⟨A2, c2, rfl, hO2, hf2, hob2⟩
    have K2 := Frm.own K hf2 (fun y hy => by simp [ob] at hy; omega)
    have sK := K.size
    rw [Nat.zero_add] at hO2 ⊢
    refine Ops.r (Run.asg rfl) rfl ?_
    refine Ops.nil ?_
    refine thenQ_n ?_
    refine VC.sub [(2, _)] (.cons rfl .nil) ?_
    refine VC.ret ?_
    refine end1 rfl ?_
    refine ⟨K2, A2, c2, rfl, hO2, fun x hx => ?_⟩
    rcases hob2 with h | h
    · rw [h] at hx; simp only [ob, List.mem_singleton] at hx; omega
    · rw [h] at hx; simp only [List.mem_singleton] at hx; omega

/-- What the letter within has that a section's header and text are of. -/
def pickK (q : Tx) (v : Wnt) (i : Nat) : Option Tx := if wholeQ (partsQ q) i v.path < 0 then none else match (partsQ q)[(wholeQ (partsQ q) i v.path).toNat]? with
  | none => none
  | some p => some (if v.what = txtT then sliceQ q p.body p.tu else sliceQ q p.frm p.body)
/-- What a section has, but for picked fields. -/
def getQ (q : Tx) (v : Wnt) : Option Tx := if ¬ MayW v ∨ findPQ (partsQ q) v.path < 0 then none else match (partsQ q)[(findPQ (partsQ q) v.path).toNat]? with
  | none => none
  | some p => if v.what = [] ∧ v.path.length = 0 then some q else if v.what = [] then some (sliceQ q p.body p.tu) else if v.what = mimT then some (sliceQ q p.frm p.body) else pickK q v (findPQ (partsQ q) v.path).toNat
theorem getQ_at {q : Tx} {v : Wnt} {i : Nat} {p : Prt} (h1 : ¬ (¬ MayW v ∨ findPQ (partsQ q) v.path < 0)) (h2 : findPQ (partsQ q) v.path = (i : Int)) (h3 : (partsQ q)[i]? = some p) :
    getQ q v = if v.what = [] ∧ v.path.length = 0 then some q else if v.what = [] then some (sliceQ q p.body p.tu) else if v.what = mimT then some (sliceQ q p.frm p.body) else pickK q v i := by
  unfold getQ
  rw [if_neg h1, h2, Int.toNat_natCast, h3]
theorem pickK_at {q : Tx} {v : Wnt} {i k : Nat} {p : Prt} (h1 : wholeQ (partsQ q) i v.path = (k : Int)) (h2 : (partsQ q)[k]? = some p) : pickK q v i = some (if v.what = txtT then sliceQ q p.body p.tu else sliceQ q p.frm p.body) := by
  unfold pickK
  rw [if_neg (by omega), h1, Int.toNat_natCast, h2]
theorem hdr_only {v : Wnt} (hm : MayW v) (hn : ¬ NamedW v.what) (h3 : ¬ v.what = []) (h4 : ¬ v.what = mimT) (h5 : ¬ v.what = txtT) : v.what = hdrT := by
  rcases hm.2.2 with h | h | h | h | h | h
  · exact absurd h h3
  · exact h
  · exact absurd h h5
  · exact absurd (.inl h) hn
  · exact absurd (.inr h) hn
  · exact absurd h.1 h4
theorem parts_pos (q : Tx) : 0 < (partsQ q).length := by
  obtain ⟨p, h, _⟩ := (parts_ok q).2.2
  exact (List.getElem?_eq_some_iff.1 h).1
theorem wholeQ_res (l : List Prt) (i : Nat) (path : List Int) (hl : 0 < l.length) : wholeQ l i path = -1 ∨ ∃ j : Nat, j < l.length ∧ wholeQ l i path = (j : Int) := by
  unfold wholeQ
  split
  · exact .inr ⟨0, hl, rfl⟩
  · split
    · exact .inl rfl
    · split
      · exact .inl rfl
      · rcases kidQ_res l i 1 with h | ⟨j, p, h1, h2, _⟩
        · exact .inl h
        · exact .inr ⟨j, (List.getElem?_eq_some_iff.1 h1).1, h2⟩

theorem not_dec (p : Prop) [Decidable p] : (!decide p) = decide (¬ p) := by by_cases h : p <;> simp [h]

set_option maxRecDepth 100000 in
theorem get_spec (A : Option Addr) (c : Nat) (q : Tx) (v : Wnt) (B N : Option Addr) (d nc : Nat) (w : World) (hrd : Rd w 1 A q.length (U8 q)) (hq : q.length ≤ 400000) (hc : q.length ≤ c) (hp : Rd w 1 B v.path.length (PI v.path)) (hpl : v.path.length ≤ 1000000) (hpb : ∀ n ∈ v.path, -9223372036854775808 ≤ n ∧ n ≤ 9223372036854775807) (hn : Rd w 1 N v.names.length (SB v.names)) (hnl : v.names.length ≤ 1000000) (hns : ∀ s ∈ v.names, s.length ≤ 1000000) (hnn : ¬ NamedW v.what) :
    Calls Tryz.prog 19 #[.slice A q.length c, .agg (WtC v B d N nc)] w fun e w' => Frm [] w w' ∧ ∃ (A2 : Option Addr) (c2 : Nat), e = .returned (.tuple #[.slice A2 ((getQ q v).getD []).length c2, .bool (getQ q v).isSome]) ∧ Own w' 5 1 A2 ((getQ q v).getD []).length c2 (U8 ((getQ q v).getD [])) ∧ ∀ x ∈ ob A2, w.heap.size ≤ x := by
  refine VC.calls (nt := 104) (res := #[.tmp 4, .tmp 5]) Tryz.func19 rfl Tryz.ntmps19 Tryz.results19 rfl ?_
  refine VC.seq ?_
  refine VC.region ?_
  refine Ops.m (Does.box rfl) rfl ?_
  rintro _ w1 ⟨rfl, hF1⟩
  have hb3 : Blk w1 w.heap.size 38 (WtC v B d N nc) := hF1.blk
  have K := hF1.frm
  have hg3 := hb3.lt
  generalize hg3e : w.heap.size = g3 at hb3 hg3 ⊢
  refine Ops.r (Run.asg rfl) rfl ?_
  refine Ops.r (Run.asg rfl) rfl ?_
  refine Ops.nil ?_
  refine thenQ_n ?_
  refine VC.sub [(0, _), (3, _)] (.cons rfl (.cons rfl .nil)) ?_
  refine VC.seq ?_
  refine VC.region ?_
  refine Ops.r (Run.mv rfl) rfl ?_
  refine Ops.cl (Enters.fn (evs.cons rfl evs.nil) Tryz.call38) ((all_spec A c q _ (hrd.frm K (by simp)) (by omega) hc)) rfl ?_
  rintro e w2 ⟨hf2, l, LA, lc, hm, rfl, hP, _, hubP⟩
  refine ⟨_, rfl, ?_⟩
  have hb3 := hb3.frm hf2 (by simp)
  have K := K.trans hf2 (by simp)
  have hml : l.length = (partsQ q).length := by rw [← hm, List.length_map]
  obtain ⟨hok, hl64, _⟩ := parts_ok q
  have hl0 := parts_pos q
  refine Ops.r (Run.asg rfl) rfl ?_
  refine Ops.nil ?_
  refine thenQ_n ?_
  refine VC.sub [(0, _), (3, _), (6, _)] (.cons rfl (.cons rfl (.cons rfl .nil))) ?_
  refine VC.seq ?_
  refine VC.region ?_
  refine Ops.r (Run.mv rfl) rfl ?_
  refine Ops.r (Run.fieldAddr rfl Tryz.underlying38 rfl Tryz.sizeOf33 (by decide)) rfl ?_
  refine Ops.r (Run.load rfl Tryz.isAgg33 (hb3.cell 0)) rfl ?_
  refine Ops.cl (Enters.fn (evs.cons rfl (evs.cons rfl evs.nil)) Tryz.call41) ((find_path_spec LA B lc d l v.path _ hP.rd (by omega) (by omega) (hp.frm K (by simp)) (by omega) hpb)) rfl ?_
  rintro e w3 ⟨rfl, hf3⟩
  rw [hm]
  refine ⟨_, rfl, ?_⟩
  have hb3 := hb3.frm hf3 (by simp)
  have hP := hP.frm hf3 (by simp)
  have K := K.trans hf3 (by simp)
  refine Ops.r (Run.asg rfl) rfl ?_
  refine Ops.nil ?_
  refine thenQ_n ?_
  refine VC.sub [(0, _), (3, _), (6, _), (7, _)] (.cons rfl (.cons rfl (.cons rfl (.cons rfl .nil)))) ?_
  refine VC.seq ?_
  refine VC.seq ?_
  refine VC.splitR [(0, .slice A q.length c), (3, .pointer (some ⟨g3, 0, none⟩)), (6, .slice LA l.length lc), (7, .int .i64 (findPQ (partsQ q) v.path))] (Frm [] w3) 22 (.bool (decide (¬ MayW v ∨ findPQ (partsQ q) v.path < 0))) ?_ ?_
  · refine VC.region ?_
    refine Ops.r (Run.loadA rfl Tryz.isAgg38 Tryz.sizeOf38 (fun j v hj => hb3.cells j v hj) (by first | rfl | (simp; done))) rfl ?_
    refine Ops.cl (Enters.fn (evs.cons rfl evs.nil) Tryz.call42) ((may_spec v B N d nc _ (hp.frm K (by simp)) hpl (hn.frm K (by simp)) hnl hns)) rfl ?_
    rintro e w4 ⟨rfl, hf4⟩
    refine ⟨_, rfl, ?_⟩
    refine Ops.r (Run.not rfl) rfl ?_
    rw [not_dec]
    by_cases hs18 : ¬ MayW v
    · skip
      refine Ops.r (Run.mv rfl) rfl ?_
      refine Ops.sk rfl (by first | rfl | assumption | exact decide_eq_true (by assumption) | exact decide_eq_false (by assumption) | decide | (simp; done) | (simp; omega) | (simp [*]; done)) rfl ?_
      refine Ops.sk rfl (by first | rfl | assumption | exact decide_eq_true (by assumption) | exact decide_eq_false (by assumption) | decide | (simp; done) | (simp; omega) | (simp [*]; done)) rfl ?_
      refine Ops.r (Run.pickT rfl rfl (by first | rfl | assumption | exact decide_eq_true (by assumption) | exact decide_eq_false (by assumption) | decide | (simp; done) | (simp; omega) | (simp [*]; done))) rfl ?_
      refine Ops.nil ?_
      refine thenQ_n ⟨(.cons (congrArg (fun b => some (Value.bool b)) (by first | exact (decide_eq_true (show ¬ MayW v ∨ findPQ (partsQ q) v.path < 0 from .inl hs18)).symm | exact (decide_eq_true hs18).trans (decide_eq_true (show ¬ MayW v ∨ findPQ (partsQ q) v.path < 0 from .inl hs18)).symm | exact (decide_eq_true hs21).trans (decide_eq_true (show ¬ MayW v ∨ findPQ (partsQ q) v.path < 0 from .inr hs21)).symm | exact (decide_eq_false hs21).trans (decide_eq_false (show ¬ (¬ MayW v ∨ findPQ (partsQ q) v.path < 0) from fun h => h.elim hs18 hs21)).symm)) (.cons rfl (.cons rfl (.cons rfl (.cons rfl .nil))))), (hf4)⟩
    · skip
      refine Ops.r (Run.mv rfl) rfl ?_
      refine Ops.rg rfl (by first | rfl | assumption | exact decide_eq_true (by assumption) | exact decide_eq_false (by assumption) | decide | (simp; done) | (simp; omega) | (simp [*]; done)) (Run.mv rfl) rfl ?_
      refine Ops.rg rfl (by first | rfl | assumption | exact decide_eq_true (by assumption) | exact decide_eq_false (by assumption) | decide | (simp; done) | (simp; omega) | (simp [*]; done)) (Run.bin rfl rfl (Bin.lss _ 0)) rfl ?_
      by_cases hs21 : findPQ (partsQ q) v.path < 0
      · skip
        refine Ops.r (Run.pickF rfl rfl (by first | rfl | assumption | exact decide_eq_true (by assumption) | exact decide_eq_false (by assumption) | decide | (simp; done) | (simp; omega) | (simp [*]; done))) rfl ?_
        refine Ops.nil ?_
        refine thenQ_n ⟨(.cons (congrArg (fun b => some (Value.bool b)) (by first | exact (decide_eq_true (show ¬ MayW v ∨ findPQ (partsQ q) v.path < 0 from .inl hs18)).symm | exact (decide_eq_true hs18).trans (decide_eq_true (show ¬ MayW v ∨ findPQ (partsQ q) v.path < 0 from .inl hs18)).symm | exact (decide_eq_true hs21).trans (decide_eq_true (show ¬ MayW v ∨ findPQ (partsQ q) v.path < 0 from .inr hs21)).symm | exact (decide_eq_false hs21).trans (decide_eq_false (show ¬ (¬ MayW v ∨ findPQ (partsQ q) v.path < 0) from fun h => h.elim hs18 hs21)).symm)) (.cons rfl (.cons rfl (.cons rfl (.cons rfl .nil))))), (hf4)⟩
      · skip
        refine Ops.r (Run.pickF rfl rfl (by first | rfl | assumption | exact decide_eq_true (by assumption) | exact decide_eq_false (by assumption) | decide | (simp; done) | (simp; omega) | (simp [*]; done))) rfl ?_
        refine Ops.nil ?_
        refine thenQ_n ⟨(.cons (congrArg (fun b => some (Value.bool b)) (by first | exact (decide_eq_true (show ¬ MayW v ∨ findPQ (partsQ q) v.path < 0 from .inl hs18)).symm | exact (decide_eq_true hs18).trans (decide_eq_true (show ¬ MayW v ∨ findPQ (partsQ q) v.path < 0 from .inl hs18)).symm | exact (decide_eq_true hs21).trans (decide_eq_true (show ¬ MayW v ∨ findPQ (partsQ q) v.path < 0 from .inr hs21)).symm | exact (decide_eq_false hs21).trans (decide_eq_false (show ¬ (¬ MayW v ∨ findPQ (partsQ q) v.path < 0) from fun h => h.elim hs18 hs21)).symm)) (.cons rfl (.cons rfl (.cons rfl (.cons rfl .nil))))), (hf4)⟩
  · intro Γ w4 hΓ hf4
    refine thenQ_n (VC.sub _ hΓ ?_)
    refine VC.condD rfl (fun hc1 => ?_) (fun hc1 => ?_)
    · skip
      have hb3 := hb3.frm hf4 (by simp)
      have hP := hP.frm hf4 (by simp)
      have K := K.trans hf4 (by simp)
      have hgq : getQ q v = none := by unfold getQ; rw [if_pos hc1]
      refine VC.seq ?_
      refine VC.region ?_
      refine Ops.r (Run.asg rfl) rfl ?_
      refine Ops.r (Run.asg rfl) rfl ?_
      refine Ops.nil ?_
      refine thenQ_n ?_
      refine VC.sub [(4, _), (5, _)] (.cons rfl (.cons rfl .nil)) ?_
      refine VC.ret ?_
      refine thenQ_r (end2 rfl rfl ?_)
      rw [hgq]
      exact ⟨K, none, 0, rfl, Own.nil _ _ _, by simp [ob]⟩
    · skip
      have hb3 := hb3.frm hf4 (by simp)
      have hP := hP.frm hf4 (by simp)
      have K := K.trans hf4 (by simp)
      obtain ⟨i, hil, hie⟩ : ∃ i : Nat, i < (partsQ q).length ∧ findPQ (partsQ q) v.path = (i : Int) := by
        rcases findL_res (partsQ q) v.path 0 true hl0 with h | h
        · exact absurd (.inr (by show findPQ (partsQ q) v.path < 0; unfold findPQ; omega)) hc1
        · exact h
      have hpi := List.getElem?_eq_getElem hil
      have hgq := getQ_at hc1 hie hpi
      have hmay : MayW v := Classical.byContradiction fun h => hc1 (.inl h)
      have hpo := hok i _ hpi
      have hlm : l[i].1 = (partsQ q)[i] := by have := List.getElem?_map (f := fun x : Pc => x.1) (l := l) (i := i); rw [hm, hpi, List.getElem?_eq_getElem (by omega)] at this; simpa using this.symm
      obtain ⟨ad, rfl, hcell⟩ := PP_at hP.rd (show i < l.length by omega)
      rw [hie]
      obtain ⟨pp, hpp⟩ : ∃ p, (partsQ q)[i] = p := ⟨_, rfl⟩
      rw [hpp] at hgq hpo hlm
      obtain ⟨y, hy⟩ : ∃ y, l[i] = (pp, y) := ⟨l[i].2, by rw [← hlm]⟩
      rw [hy] at hcell
      obtain ⟨hp1, hp2, hp3, _⟩ := hpo
      refine VC.skip ?_
      refine thenQ_n ?_
      refine VC.sub [(0, _), (3, _), (6, _), (7, _)] (.cons rfl (.cons rfl (.cons rfl (.cons rfl .nil)))) ?_
      refine VC.seq ?_
      refine VC.region ?_
      refine Ops.r (Run.mv rfl) rfl ?_
      refine Ops.r (Run.mv rfl) rfl ?_
      refine Ops.r (Run.indexS i rfl rfl Tryz.underlying60 Tryz.sizeOf69 (by omega)) rfl ?_
      refine Ops.r (Run.loadA rfl Tryz.isAgg69 Tryz.sizeOf69 hcell (by first | rfl | (simp; done))) rfl ?_
      refine Ops.m (Does.alloc zero69) rfl ?_
      rintro _ w5 ⟨rfl, hF5⟩
      have hb8 := hF5.blk
      have hP4 := hP
      have hb34 := hb3.lt
      have sK4 := K.size
      have hb3 := hb3.frm hF5.frm (by simp)
      have hP := hP.frm hF5.frm (by simp)
      have lP := hP.lt
      have lb3 := hb3.lt
      have K := K.trans hF5.frm (by simp)
      have hPn : ∀ x ∈ ob (some ad), x < w4.heap.size := by have := hP4.lt; exact this
      generalize hg8 : w4.heap.size = g8 at hb8 sK4 hPn ⊢
      refine Ops.st (Acts.storeA rfl rfl Tryz.sizeOf69 hb8 rfl (PP1_one (pp, y))) ?_
      rintro w6 ⟨hb8n, hf6, _⟩
      have hb8 : Blk w6 g8 69 (PP1 (pp, y)).toArray := hb8n
      have hb3 := hb3.frm hf6 (by simp; omega)
      have hP := hP.frm hf6 (fun x hx => by have := hPn x hx; simp; omega)
      have K := Frm.own K hf6 (fun y hy => by simp at hy; omega)
      refine Ops.nil ?_
      refine thenQ_n ?_
      refine VC.sub [(0, _), (3, _), (6, _), (7, _), (8, _)] (.cons rfl (.cons rfl (.cons rfl (.cons rfl (.cons rfl .nil))))) ?_
      refine VC.seq ?_
      refine VC.block ?_
      refine VC.seq ?_
      refine VC.split1 [(0, _), (3, _), (6, _), (7, _), (8, _)] (.cons rfl (.cons rfl (.cons rfl (.cons rfl (.cons rfl .nil))))) 27 (.bool (decide (v.what = [] ∧ v.path.length = 0))) ?_ ?_
      · refine VC.region ?_
        refine Ops.r (Run.fieldAddr rfl Tryz.underlying38 rfl Tryz.sizeOf9 (by decide)) rfl ?_
        refine Ops.r (Run.load rfl Tryz.isAgg9 (hb3.cell 1)) rfl ?_
        refine Ops.r (Run.eqlT rfl rfl) rfl ?_
        by_cases hs30 : v.what = []
        · skip
          refine Ops.r (Run.mv rfl) rfl ?_
          refine Ops.rg rfl (by first | rfl | assumption | exact decide_eq_true (by assumption) | exact decide_eq_false (by assumption) | decide | (simp; done) | (simp; omega) | (simp [*]; done)) (Run.fieldAddr rfl Tryz.underlying38 rfl Tryz.sizeOf33 (by decide)) rfl ?_
          refine Ops.rg rfl (by first | rfl | assumption | exact decide_eq_true (by assumption) | exact decide_eq_false (by assumption) | decide | (simp; done) | (simp; omega) | (simp [*]; done)) (Run.load rfl Tryz.isAgg33 (hb3.cell 0)) rfl ?_
          refine Ops.rg rfl (by first | rfl | assumption | exact decide_eq_true (by assumption) | exact decide_eq_false (by assumption) | decide | (simp; done) | (simp; omega) | (simp [*]; done)) (Run.lenS rfl Tryz.underlying33) rfl ?_
          refine Ops.rg rfl (by first | rfl | assumption | exact decide_eq_true (by assumption) | exact decide_eq_false (by assumption) | decide | (simp; done) | (simp; omega) | (simp [*]; done)) (Run.bin rfl rfl (Bin.eqlN _ 0)) rfl ?_
          by_cases hs35 : v.path.length = 0
          · skip
            refine Ops.r (Run.pickT rfl rfl (by first | rfl | assumption | exact decide_eq_true (by assumption) | exact decide_eq_false (by assumption) | decide | (simp; done) | (simp; omega) | (simp [*]; done))) rfl ?_
            refine Ops.r (Run.asg rfl) rfl ?_
            refine Ops.nil ?_
            refine thenQ_n ⟨(.cons (congrArg (fun b => some (Value.bool b)) (by first | exact (decide_eq_true hs35).trans (decide_eq_true ⟨hs30, hs35⟩).symm | exact (decide_eq_false hs35).trans (decide_eq_false (show ¬ (v.what = [] ∧ v.path.length = 0) from fun h => hs35 h.2)).symm | exact (decide_eq_false (show ¬ (v.what = [] ∧ v.path.length = 0) from fun h => hs30 h.1)).symm | exact (decide_eq_false hs30).trans (decide_eq_false (show ¬ (v.what = [] ∧ v.path.length = 0) from fun h => hs30 h.1)).symm)) (.cons rfl (.cons rfl (.cons rfl (.cons rfl (.cons rfl .nil)))))), rfl⟩
          · skip
            refine Ops.r (Run.pickT rfl rfl (by first | rfl | assumption | exact decide_eq_true (by assumption) | exact decide_eq_false (by assumption) | decide | (simp; done) | (simp; omega) | (simp [*]; done))) rfl ?_
            refine Ops.r (Run.asg rfl) rfl ?_
            refine Ops.nil ?_
            refine thenQ_n ⟨(.cons (congrArg (fun b => some (Value.bool b)) (by first | exact (decide_eq_true hs35).trans (decide_eq_true ⟨hs30, hs35⟩).symm | exact (decide_eq_false hs35).trans (decide_eq_false (show ¬ (v.what = [] ∧ v.path.length = 0) from fun h => hs35 h.2)).symm | exact (decide_eq_false (show ¬ (v.what = [] ∧ v.path.length = 0) from fun h => hs30 h.1)).symm | exact (decide_eq_false hs30).trans (decide_eq_false (show ¬ (v.what = [] ∧ v.path.length = 0) from fun h => hs30 h.1)).symm)) (.cons rfl (.cons rfl (.cons rfl (.cons rfl (.cons rfl .nil)))))), rfl⟩
        · skip
          refine Ops.r (Run.mv rfl) rfl ?_
          refine Ops.sk rfl (by first | rfl | assumption | exact decide_eq_true (by assumption) | exact decide_eq_false (by assumption) | decide | (simp; done) | (simp; omega) | (simp [*]; done)) rfl ?_
          refine Ops.sk rfl (by first | rfl | assumption | exact decide_eq_true (by assumption) | exact decide_eq_false (by assumption) | decide | (simp; done) | (simp; omega) | (simp [*]; done)) rfl ?_
          refine Ops.sk rfl (by first | rfl | assumption | exact decide_eq_true (by assumption) | exact decide_eq_false (by assumption) | decide | (simp; done) | (simp; omega) | (simp [*]; done)) rfl ?_
          refine Ops.sk rfl (by first | rfl | assumption | exact decide_eq_true (by assumption) | exact decide_eq_false (by assumption) | decide | (simp; done) | (simp; omega) | (simp [*]; done)) rfl ?_
          refine Ops.r (Run.pickF rfl rfl (by first | rfl | assumption | exact decide_eq_true (by assumption) | exact decide_eq_false (by assumption) | decide | (simp; done) | (simp; omega) | (simp [*]; done))) rfl ?_
          refine Ops.r (Run.asg rfl) rfl ?_
          refine Ops.nil ?_
          refine thenQ_n ⟨(.cons (congrArg (fun b => some (Value.bool b)) (by first | exact (decide_eq_true hs35).trans (decide_eq_true ⟨hs30, hs35⟩).symm | exact (decide_eq_false hs35).trans (decide_eq_false (show ¬ (v.what = [] ∧ v.path.length = 0) from fun h => hs35 h.2)).symm | exact (decide_eq_false (show ¬ (v.what = [] ∧ v.path.length = 0) from fun h => hs30 h.1)).symm | exact (decide_eq_false hs30).trans (decide_eq_false (show ¬ (v.what = [] ∧ v.path.length = 0) from fun h => hs30 h.1)).symm)) (.cons rfl (.cons rfl (.cons rfl (.cons rfl (.cons rfl .nil)))))), rfl⟩
      · intro Γ hΓ
        refine thenQ_n (VC.sub _ hΓ ?_)
        refine VC.condD rfl (fun hc2 => ?_) (fun hc2 => ?_)
        · skip
          rw [if_pos hc2] at hgq
          refine VC.seq ?_
          refine VC.region ?_
          refine Ops.r (Run.mv rfl) rfl ?_
          refine Ops.cl (Enters.fn (evs.cons rfl evs.nil) Tryz.call43) ((clone_spec A c q.length q _ rfl (hrd.frm K (by simp)) (by omega))) rfl ?_
          rintro e w7 ⟨hf7, A2, c2, rfl, hO2, hub2⟩
          refine ⟨_, rfl, ?_⟩
          have sK := K.size
          have K := K.trans hf7 (by simp)
          refine Ops.r (Run.asg rfl) rfl ?_
          refine Ops.r (Run.asg rfl) rfl ?_
          refine Ops.nil ?_
          refine thenQ_n ?_
          refine VC.sub [(4, _), (5, _)] (.cons rfl (.cons rfl .nil)) ?_
          refine VC.ret ?_
          refine blockQ_r (thenQ_r (end2 rfl rfl ?_))
          rw [hgq]
          exact ⟨K, A2, c2, rfl, hO2, fun x hx => by have := hub2 x hx; omega⟩
        · skip
          rw [if_neg hc2] at hgq
          refine VC.seq ?_
          refine VC.region ?_
          refine Ops.r (Run.fieldAddr rfl Tryz.underlying38 rfl Tryz.sizeOf9 (by decide)) rfl ?_
          refine Ops.r (Run.load rfl Tryz.isAgg9 (hb3.cell 1)) rfl ?_
          refine Ops.r (Run.eqlT rfl rfl) rfl ?_
          refine Ops.r (Run.asg rfl) rfl ?_
          refine Ops.nil ?_
          refine thenQ_n ?_
          refine VC.sub [(0, _), (3, _), (6, _), (7, _), (8, _), (39, _)] (.cons rfl (.cons rfl (.cons rfl (.cons rfl (.cons rfl (.cons rfl .nil)))))) ?_
          refine VC.condD rfl (fun hc3 => ?_) (fun hc3 => ?_)
          · skip
            rw [if_pos hc3] at hgq
            refine VC.seq ?_
            refine VC.region ?_
            refine Ops.r (Run.mv rfl) rfl ?_
            refine Ops.r (Run.fieldAddr rfl Tryz.underlying69 rfl Tryz.sizeOf3 (by decide)) rfl ?_
            refine Ops.r (Run.load rfl Tryz.isAgg3 (hb8.cell 2)) rfl ?_
            refine Ops.r (Run.fieldAddr rfl Tryz.underlying69 rfl Tryz.sizeOf3 (by decide)) rfl ?_
            refine Ops.r (Run.load rfl Tryz.isAgg3 (hb8.cell 3)) rfl ?_
            refine Ops.r (Run.sliceS pp.body pp.tu rfl Tryz.underlying22 Tryz.sizeOf5 (evB.some_ rfl) (evB.some_ rfl) (by omega) (by omega)) rfl ?_
            refine Ops.cl (Enters.fn (evs.cons rfl evs.nil) Tryz.call43) ((clone_spec (cutA A c pp.body 1) (c - pp.body) (pp.tu - pp.body) (sliceQ q pp.body pp.tu) _ (sliceQ_len (by omega)).symm (U8_cutN (hrd.frm K (by simp)) (by omega) (by omega) hc) (by rw [sliceQ_len (by omega)]; omega))) rfl ?_
            rintro e w7 ⟨hfw7, A2, c2, rfl, hO2, hub2⟩
            refine ⟨_, rfl, ?_⟩
            have sK := K.size
            have K := K.trans hfw7 (by simp)
            refine Ops.r (Run.asg rfl) rfl ?_
            refine Ops.r (Run.asg rfl) rfl ?_
            refine Ops.nil ?_
            refine thenQ_n ?_
            refine VC.sub [(4, _), (5, _)] (.cons rfl (.cons rfl .nil)) ?_
            refine VC.ret ?_
            refine blockQ_r (thenQ_r (end2 rfl rfl ?_))
            rw [hgq]
            exact ⟨K, A2, c2, rfl, hO2, fun x hx => by have := hub2 x hx; omega⟩
          · skip
            rw [if_neg hc3] at hgq
            refine VC.seq ?_
            refine VC.region ?_
            refine Ops.r (Run.fieldAddr rfl Tryz.underlying38 rfl Tryz.sizeOf9 (by decide)) rfl ?_
            refine Ops.r (Run.load rfl Tryz.isAgg9 (hb3.cell 1)) rfl ?_
            refine Ops.r (Run.eqlT rfl rfl) rfl ?_
            refine Ops.r (Run.asg rfl) rfl ?_
            refine Ops.nil ?_
            refine thenQ_n ?_
            refine VC.sub [(0, _), (3, _), (6, _), (7, _), (8, _), (50, _)] (.cons rfl (.cons rfl (.cons rfl (.cons rfl (.cons rfl (.cons rfl .nil)))))) ?_
            refine VC.condD rfl (fun hc4 => ?_) (fun hc4 => ?_)
            · skip
              rw [if_pos (show v.what = mimT from hc4)] at hgq
              refine VC.seq ?_
              refine VC.region ?_
              refine Ops.r (Run.mv rfl) rfl ?_
              refine Ops.r (Run.fieldAddr rfl Tryz.underlying69 rfl Tryz.sizeOf3 (by decide)) rfl ?_
              refine Ops.r (Run.load rfl Tryz.isAgg3 (hb8.cell 1)) rfl ?_
              refine Ops.r (Run.fieldAddr rfl Tryz.underlying69 rfl Tryz.sizeOf3 (by decide)) rfl ?_
              refine Ops.r (Run.load rfl Tryz.isAgg3 (hb8.cell 2)) rfl ?_
              refine Ops.r (Run.sliceS pp.frm pp.body rfl Tryz.underlying22 Tryz.sizeOf5 (evB.some_ rfl) (evB.some_ rfl) (by omega) (by omega)) rfl ?_
              refine Ops.cl (Enters.fn (evs.cons rfl evs.nil) Tryz.call43) ((clone_spec (cutA A c pp.frm 1) (c - pp.frm) (pp.body - pp.frm) (sliceQ q pp.frm pp.body) _ (sliceQ_len (by omega)).symm (U8_cutN (hrd.frm K (by simp)) (by omega) (by omega) hc) (by rw [sliceQ_len (by omega)]; omega))) rfl ?_
              rintro e w7 ⟨hfw7, A2, c2, rfl, hO2, hub2⟩
              refine ⟨_, rfl, ?_⟩
              have sK := K.size
              have K := K.trans hfw7 (by simp)
              refine Ops.r (Run.asg rfl) rfl ?_
              refine Ops.r (Run.asg rfl) rfl ?_
              refine Ops.nil ?_
              refine thenQ_n ?_
              refine VC.sub [(4, _), (5, _)] (.cons rfl (.cons rfl .nil)) ?_
              refine VC.ret ?_
              refine blockQ_r (thenQ_r (end2 rfl rfl ?_))
              rw [hgq]
              exact ⟨K, A2, c2, rfl, hO2, fun x hx => by have := hub2 x hx; omega⟩
            · skip
              rw [if_neg (show ¬ v.what = mimT from hc4)] at hgq
              refine VC.skip ?_
              refine blockQ_n (thenQ_n ?_)
              refine VC.sub [(0, _), (3, _), (6, _), (7, _), (8, _)] (.cons rfl (.cons rfl (.cons rfl (.cons rfl (.cons rfl .nil))))) ?_
              refine VC.seq ?_
              refine VC.region ?_
              refine Ops.r (Run.mv rfl) rfl ?_
              refine Ops.r (Run.mv rfl) rfl ?_
              refine Ops.r (Run.fieldAddr rfl Tryz.underlying38 rfl Tryz.sizeOf33 (by decide)) rfl ?_
              refine Ops.r (Run.load rfl Tryz.isAgg33 (hb3.cell 0)) rfl ?_
              refine Ops.cl (Enters.fn (evs.cons rfl (evs.cons rfl (evs.cons rfl evs.nil))) Tryz.call44) ((whole_path_spec (some ad) B lc d l i v.path _ hP.rd (by omega) (by omega))) rfl ?_
              rintro e w7 ⟨rfl, hf7⟩
              rw [hm]
              refine ⟨_, rfl, ?_⟩
              have hb3 := hb3.frm hf7 (by simp)
              have hP := hP.frm hf7 (by simp)
              have hb8 := hb8.frm hf7 (by simp)
              have sK7 := K.size
              have K := K.trans hf7 (by simp)
              refine Ops.r (Run.asg rfl) rfl ?_
              refine Ops.nil ?_
              refine thenQ_n ?_
              refine VC.sub [(0, _), (3, _), (6, _), (8, _), (9, _)] (.cons rfl (.cons rfl (.cons rfl (.cons rfl (.cons rfl .nil))))) ?_
              refine VC.seq ?_
              refine VC.seq ?_
              refine VC.region ?_
              refine Ops.r (Run.mv rfl) rfl ?_
              refine Ops.r (Run.bin rfl rfl (Bin.lss _ 0)) rfl ?_
              refine Ops.nil ?_
              refine thenQ_n ?_
              refine VC.sub [(0, _), (3, _), (6, _), (8, _), (9, _), (67, _)] (.cons rfl (.cons rfl (.cons rfl (.cons rfl (.cons rfl (.cons rfl .nil)))))) ?_
              refine VC.condD rfl (fun hc5 => ?_) (fun hc5 => ?_)
              · skip
                have hgq : getQ q v = none := by rw [hgq]; unfold pickK; rw [if_pos hc5]
                refine VC.seq ?_
                refine VC.region ?_
                refine Ops.r (Run.asg rfl) rfl ?_
                refine Ops.r (Run.asg rfl) rfl ?_
                refine Ops.nil ?_
                refine thenQ_n ?_
                refine VC.sub [(4, _), (5, _)] (.cons rfl (.cons rfl .nil)) ?_
                refine VC.ret ?_
                refine thenQ_r (end2 rfl rfl ?_)
                rw [hgq]
                exact ⟨K, none, 0, rfl, Own.nil _ _ _, by simp [ob]⟩
              · skip
                obtain ⟨k, hkl, hke⟩ : ∃ k : Nat, k < (partsQ q).length ∧ wholeQ (partsQ q) i v.path = (k : Int) := by
                  rcases wholeQ_res (partsQ q) i v.path hl0 with h | h
                  · omega
                  · exact h
                have hpk := List.getElem?_eq_getElem hkl
                rw [pickK_at hke hpk] at hgq
                have hpo := hok k _ hpk
                have hlm : l[k].1 = (partsQ q)[k] := by have := List.getElem?_map (f := fun x : Pc => x.1) (l := l) (i := k); rw [hm, hpk, List.getElem?_eq_getElem (by omega)] at this; simpa using this.symm
                have hcell := PP_get hP.rd (show k < l.length by omega)
                rw [hke]
                clear hp1 hp2 hp3 hy hpp
                have hb8o := hb8
                obtain ⟨pp, hpp⟩ : ∃ p, (partsQ q)[k] = p := ⟨_, rfl⟩
                rw [hpp] at hgq hpo hlm
                obtain ⟨y, hy⟩ : ∃ y, l[k] = (pp, y) := ⟨l[k].2, by rw [← hlm]⟩
                rw [hy] at hcell
                obtain ⟨hp1, hp2, hp3, _⟩ := hpo
                refine VC.skip ?_
                refine thenQ_n ?_
                refine VC.sub [(0, _), (3, _), (6, _), (8, _), (9, _)] (.cons rfl (.cons rfl (.cons rfl (.cons rfl (.cons rfl .nil))))) ?_
                refine VC.seq ?_
                refine VC.region ?_
                refine Ops.r (Run.mv rfl) rfl ?_
                refine Ops.r (Run.mv rfl) rfl ?_
                refine Ops.r (Run.indexS k rfl rfl Tryz.underlying60 Tryz.sizeOf69 (by omega)) rfl ?_
                refine Ops.r (Run.loadA rfl Tryz.isAgg69 Tryz.sizeOf69 hcell (by first | rfl | (simp; done))) rfl ?_
                refine Ops.st (Acts.storeA rfl rfl Tryz.sizeOf69 hb8o rfl (PP1_one (pp, y))) ?_
                rintro w8 ⟨hb8n, hf8, _⟩
                have hb8 : Blk w8 g8 69 (PP1 (pp, y)).toArray := hb8n
                have hb3 := hb3.frm hf8 (by simp; omega)
                have K := Frm.own K hf8 (fun y hy => by simp at hy; omega)
                refine Ops.nil ?_
                refine thenQ_n ?_
                refine VC.sub [(0, _), (3, _), (8, _)] (.cons rfl (.cons rfl (.cons rfl .nil))) ?_
                refine VC.seq ?_
                refine VC.seq ?_
                refine VC.region ?_
                refine Ops.r (Run.fieldAddr rfl Tryz.underlying38 rfl Tryz.sizeOf9 (by decide)) rfl ?_
                refine Ops.r (Run.load rfl Tryz.isAgg9 (hb3.cell 1)) rfl ?_
                refine Ops.nil ?_
                refine thenQ_n ?_
                refine VC.sub [(0, _), (3, _), (8, _), (73, _)] (.cons rfl (.cons rfl (.cons rfl (.cons rfl .nil)))) ?_
                refine VC.block ?_
                refine VC.seq ?_
                refine VC.region ?_
                refine Ops.r (Run.eqlT rfl rfl) rfl ?_
                refine Ops.r (Run.asg rfl) rfl ?_
                refine Ops.nil ?_
                refine thenQ_n ?_
                refine VC.sub [(0, _), (3, _), (8, _), (73, _), (74, _)] (.cons rfl (.cons rfl (.cons rfl (.cons rfl (.cons rfl .nil))))) ?_
                refine VC.condD rfl (fun hc6 => ?_) (fun hc6 => ?_)
                · skip
                  rw [if_pos (show v.what = txtT from hc6)] at hgq
                  refine VC.seq ?_
                  refine VC.region ?_
                  refine Ops.r (Run.mv rfl) rfl ?_
                  refine Ops.r (Run.fieldAddr rfl Tryz.underlying69 rfl Tryz.sizeOf3 (by decide)) rfl ?_
                  refine Ops.r (Run.load rfl Tryz.isAgg3 (hb8.cell 2)) rfl ?_
                  refine Ops.r (Run.fieldAddr rfl Tryz.underlying69 rfl Tryz.sizeOf3 (by decide)) rfl ?_
                  refine Ops.r (Run.load rfl Tryz.isAgg3 (hb8.cell 3)) rfl ?_
                  refine Ops.r (Run.sliceS pp.body pp.tu rfl Tryz.underlying22 Tryz.sizeOf5 (evB.some_ rfl) (evB.some_ rfl) (by omega) (by omega)) rfl ?_
                  refine Ops.cl (Enters.fn (evs.cons rfl evs.nil) Tryz.call43) ((clone_spec (cutA A c pp.body 1) (c - pp.body) (pp.tu - pp.body) (sliceQ q pp.body pp.tu) _ (sliceQ_len (by omega)).symm (U8_cutN (hrd.frm K (by simp)) (by omega) (by omega) hc) (by rw [sliceQ_len (by omega)]; omega))) rfl ?_
                  rintro e w9 ⟨hfw9, A2, c2, rfl, hO2, hub2⟩
                  refine ⟨_, rfl, ?_⟩
                  have sK := K.size
                  have K := K.trans hfw9 (by simp)
                  refine Ops.r (Run.asg rfl) rfl ?_
                  refine Ops.r (Run.asg rfl) rfl ?_
                  refine Ops.nil ?_
                  refine thenQ_n ?_
                  refine VC.sub [(4, _), (5, _)] (.cons rfl (.cons rfl .nil)) ?_
                  refine VC.ret ?_
                  refine blockQ_r (thenQ_r (end2 rfl rfl ?_))
                  rw [hgq]
                  exact ⟨K, A2, c2, rfl, hO2, fun x hx => by have := hub2 x hx; omega⟩
                · skip
                  rw [if_neg (show ¬ v.what = txtT from hc6)] at hgq
                  refine VC.seq ?_
                  refine VC.region ?_
                  refine Ops.r (Run.eqlT rfl rfl) rfl ?_
                  refine Ops.r (Run.asg rfl) rfl ?_
                  refine Ops.nil ?_
                  refine thenQ_n ?_
                  refine VC.sub [(0, _), (3, _), (8, _), (83, _)] (.cons rfl (.cons rfl (.cons rfl (.cons rfl .nil)))) ?_
                  refine VC.condT rfl (decide_eq_true (hdr_only hmay hnn hc3 hc4 hc6)) ?_
                  refine VC.seq ?_
                  refine VC.region ?_
                  refine Ops.r (Run.mv rfl) rfl ?_
                  refine Ops.r (Run.fieldAddr rfl Tryz.underlying69 rfl Tryz.sizeOf3 (by decide)) rfl ?_
                  refine Ops.r (Run.load rfl Tryz.isAgg3 (hb8.cell 1)) rfl ?_
                  refine Ops.r (Run.fieldAddr rfl Tryz.underlying69 rfl Tryz.sizeOf3 (by decide)) rfl ?_
                  refine Ops.r (Run.load rfl Tryz.isAgg3 (hb8.cell 2)) rfl ?_
                  refine Ops.r (Run.sliceS pp.frm pp.body rfl Tryz.underlying22 Tryz.sizeOf5 (evB.some_ rfl) (evB.some_ rfl) (by omega) (by omega)) rfl ?_
                  refine Ops.cl (Enters.fn (evs.cons rfl evs.nil) Tryz.call43) ((clone_spec (cutA A c pp.frm 1) (c - pp.frm) (pp.body - pp.frm) (sliceQ q pp.frm pp.body) _ (sliceQ_len (by omega)).symm (U8_cutN (hrd.frm K (by simp)) (by omega) (by omega) hc) (by rw [sliceQ_len (by omega)]; omega))) rfl ?_
                  rintro e w9 ⟨hfw9, A2, c2, rfl, hO2, hub2⟩
                  refine ⟨_, rfl, ?_⟩
                  have sK := K.size
                  have K := K.trans hfw9 (by simp)
                  refine Ops.r (Run.asg rfl) rfl ?_
                  refine Ops.r (Run.asg rfl) rfl ?_
                  refine Ops.nil ?_
                  refine thenQ_n ?_
                  refine VC.sub [(4, _), (5, _)] (.cons rfl (.cons rfl .nil)) ?_
                  refine VC.ret ?_
                  refine blockQ_r (thenQ_r (end2 rfl rfl ?_))
                  rw [hgq]
                  exact ⟨K, A2, c2, rfl, hO2, fun x hx => by have := hub2 x hx; omega⟩

end Go.Proofs.YtenbjndldenkfaaGreatDoor

namespace Go.Proofs.YtenbjndldenkfaaGreatDoor
open Go.RowKit Go.Sort

def gre (c : UInt8) : UInt8 := if 97 ≤ c.toNat ∧ c.toNat ≤ 122 then c - 32 else c
theorem gre_nat (c : UInt8) : (gre c).toNat = if 97 ≤ c.toNat ∧ c.toNat ≤ 122 then c.toNat - 32 else c.toNat := by
  unfold gre
  split
  · rename_i h
    have h32 : (32 : UInt8).toNat = 32 := rfl
    rw [UInt8.toNat_sub_of_le _ _ (by rw [UInt8.le_iff_toNat_le]; omega), h32]
  · rfl
def greS (s : Tx) : Tx := s.map gre
theorem greS_len (s : Tx) : (greS s).length = s.length := by simp [greS]

theorem gre_step {s : Tx} {i : Nat} (h : i < s.length) : ((s.take i).map gre ++ s.drop i).set i (gre s[i]) = (s.take (i + 1)).map gre ++ s.drop (i + 1) := by
  have e1 : ((s.take i).map gre).length = i := by simp; omega
  rw [List.set_append_right _ _ (by omega), e1, Nat.sub_self, List.drop_eq_getElem_cons h, List.set_cons_zero]
  have e2 : s.take (i + 1) = s.take i ++ [s[i]] := by rw [List.take_add_one, List.getElem?_eq_getElem h]; rfl
  rw [e2]
  simp only [List.map_append, List.map_cons, List.map_nil, List.append_assoc, List.cons_append, List.nil_append]
theorem gre_stay {s : Tx} {i : Nat} (h : i < s.length) (hl : gre s[i] = s[i]) : (s.take i).map gre ++ s.drop i = (s.take (i + 1)).map gre ++ s.drop (i + 1) := by
  rw [← gre_step h, hl]
  apply List.ext_getElem?
  intro j
  by_cases hj : j = i
  · subst hj
    have e1 : ((s.take j).map gre).length = j := by simp; omega
    rw [List.getElem?_set_self (by simp; omega), List.getElem?_append_right (by omega), e1, Nat.sub_self, List.drop_eq_getElem_cons h]
    rfl
  · rw [List.getElem?_set_ne (Ne.symm hj)]

set_option maxRecDepth 100000 in
theorem great_spec (q : Tx) (w : World) (hq : q.length ≤ 1000000) : Calls Tryz.prog 84 #[encStr q] w fun e w' => e = .returned (encStr (greS q)) ∧ Frm [] w w' := by
  refine VC.calls (nt := 29) (res := #[.tmp 2]) Tryz.func84 rfl Tryz.ntmps84 Tryz.results84 rfl ?_
  refine VC.seq ?_
  refine VC.region ?_
  refine Ops.r (Run.asg rfl) rfl ?_
  refine Ops.nil ?_
  refine thenQ_n ?_
  refine VC.sub [(0, _)] (.cons rfl .nil) ?_
  refine VC.seq ?_
  refine VC.region ?_
  refine Ops.r (Run.mv rfl) rfl ?_
  refine Ops.m (Does.bytesOfT rfl Tryz.underlying9 Tryz.underlying22 Tryz.underlying5) rfl ?_
  rintro _ w1 ⟨c1, cs1, rfl, hF1, ht1, hf1⟩
  have hge : w.heap.size ≤ w.heap.size := Nat.le_refl _
  generalize hg : w.heap.size = g1 at hF1 hge ⊢
  refine Ops.r (Run.asg rfl) rfl ?_
  refine Ops.nil ?_
  refine thenQ_n ?_
  refine VC.sub [(3, _)] (.cons rfl .nil) ?_
  refine VC.seq ?_
  refine VC.seq ?_
  refine VC.region ?_
  refine Ops.r (Run.mv rfl) rfl ?_
  refine Ops.r (Run.lenS rfl Tryz.underlying22) rfl ?_
  refine Ops.r (v := .int .i64 ((0 : Nat) : Int)) (Run.mv rfl) rfl ?_
  refine Ops.nil ?_
  refine thenQ_n ?_
  refine VC.block ?_
  refine VC.loop (σ := Nat) (fun s => [(3, .slice (some ⟨g1, 0, none⟩) q.length c1), (8, .slice (some ⟨g1, 0, none⟩) q.length c1), (9, .int .i64 ((q.length : Nat) : Int)), (10, .int .i64 ((s : Nat) : Int))]) (fun s wr => s ≤ q.length ∧ Frm [] w wr ∧ ∃ cs, Fro wr g1 5 cs ∧ cs.toList.take q.length = U8 ((q.take s).map gre ++ q.drop s)) (fun s => q.length - s) 0 (.cons rfl (.cons rfl (.cons rfl (.cons rfl .nil)))) ⟨by omega, hf1, cs1, hF1, by simpa using ht1⟩ ?_
  rintro i wr ⟨hi, hfr, cs, hF, ht⟩
  refine VC.seq ?_
  refine VC.region ?_
  refine Ops.r (Run.bin rfl rfl (Bin.lssN _ _)) rfl ?_
  refine Ops.nil ?_
  refine thenQ_n ?_
  refine VC.seq ?_
  refine VC.condD rfl (fun hc1 => ?_) (fun hc1 => ?_)
  · skip
    have hrd : Rd wr 1 (some ⟨g1, 0, none⟩) q.length (U8 ((q.take i).map gre ++ q.drop i)) := by
      have h := hF.rd (l := (q.take i).map gre ++ q.drop i) (by simpa [Nat.min_eq_left hi, Nat.add_sub_cancel' hi] using ht)
      simpa [Nat.min_eq_left hi, Nat.add_sub_cancel' hi] using h
    have hcell : wr.cell? ((⟨g1, 0, none⟩ : Addr).add (i * 1)) = some (.int .u8 ((q[i].toNat : Nat) : Int)) := by
      rw [Nat.mul_one]
      obtain ⟨ad, u, hA, hu, hc⟩ := hrd.at1 hc1
      cases hA
      rw [hc, ← hu]
      simp [U8, List.getElem?_append_right, Nat.min_eq_left hi, List.getElem?_eq_getElem, hc1]
    have hll : ((q.take i).map gre ++ q.drop i).length = q.length := by simp; omega
    have hsz : i < cs.size := by
      have := congrArg List.length ht
      simp [U8] at this
      omega
    refine VC.skip ?_
    refine thenQ_n ?_
    refine VC.sub [(3, _), (8, _), (9, _), (10, _)] (.cons rfl (.cons rfl (.cons rfl (.cons rfl .nil)))) ?_
    refine VC.seq ?_
    refine VC.block ?_
    refine VC.seq ?_
    refine VC.region ?_
    refine Ops.r (Run.mv rfl) rfl ?_
    refine Ops.r (Run.indexS i rfl rfl Tryz.underlying22 Tryz.sizeOf5 hc1) rfl ?_
    refine Ops.r (Run.load rfl Tryz.isAgg5 hcell) rfl ?_
    refine Ops.r (Run.asg rfl) rfl ?_
    refine Ops.r (Run.asg rfl) rfl ?_
    refine Ops.nil ?_
    refine thenQ_n ?_
    refine VC.sub [(3, _), (4, _), (5, _), (8, _), (9, _), (10, _)] (.cons rfl (.cons rfl (.cons rfl (.cons rfl (.cons rfl (.cons rfl .nil)))))) ?_
    refine VC.seq ?_
    refine VC.split1 [(3, _), (4, _), (5, _), (8, _), (9, _), (10, _)] (.cons rfl (.cons rfl (.cons rfl (.cons rfl (.cons rfl (.cons rfl .nil)))))) 20 (.bool (decide ((97 ≤ q[i].toNat) ∧ (q[i].toNat ≤ 122)))) ?_ ?_
    · by_cases hs0 : 97 ≤ q[i].toNat
      · skip
        refine VC.region ?_
        refine Ops.r (Run.mv rfl) rfl ?_
        refine Ops.r (Run.bin rfl rfl (Bin.geqN _ 97)) rfl ?_
        refine Ops.r (Run.mv rfl) rfl ?_
        refine Ops.rg rfl (by first | rfl | assumption | exact decide_eq_true (by assumption) | exact decide_eq_false (by assumption) | decide | (simp; done) | (simp; omega) | (simp [*]; done)) (Run.mv rfl) rfl ?_
        refine Ops.rg rfl (by first | rfl | assumption | exact decide_eq_true (by assumption) | exact decide_eq_false (by assumption) | decide | (simp; done) | (simp; omega) | (simp [*]; done)) (Run.bin rfl rfl (Bin.leqN _ 122)) rfl ?_
        refine Ops.r (Run.pickT rfl rfl (by first | rfl | assumption | exact decide_eq_true (by assumption) | exact decide_eq_false (by assumption) | decide | (simp; done) | (simp; omega) | (simp [*]; done))) rfl ?_
        refine Ops.nil ?_
        refine thenQ_n ⟨(.cons (by rw [dand1 hs0]; rfl) (.cons rfl (.cons rfl (.cons rfl (.cons rfl (.cons rfl (.cons rfl .nil))))))), rfl⟩
      · skip
        refine VC.region ?_
        refine Ops.r (Run.mv rfl) rfl ?_
        refine Ops.r (Run.bin rfl rfl (Bin.geqN _ 97)) rfl ?_
        refine Ops.r (Run.mv rfl) rfl ?_
        refine Ops.sk rfl (by first | rfl | assumption | exact decide_eq_true (by assumption) | exact decide_eq_false (by assumption) | decide | (simp; done) | (simp; omega) | (simp [*]; done)) rfl ?_
        refine Ops.sk rfl (by first | rfl | assumption | exact decide_eq_true (by assumption) | exact decide_eq_false (by assumption) | decide | (simp; done) | (simp; omega) | (simp [*]; done)) rfl ?_
        refine Ops.r (Run.pickF rfl rfl (by first | rfl | assumption | exact decide_eq_true (by assumption) | exact decide_eq_false (by assumption) | decide | (simp; done) | (simp; omega) | (simp [*]; done))) rfl ?_
        refine Ops.nil ?_
        refine thenQ_n ⟨(.cons (by rw [dand0 hs0]; rfl) (.cons rfl (.cons rfl (.cons rfl (.cons rfl (.cons rfl (.cons rfl .nil))))))), rfl⟩
    · intro Γ hΓ
      refine thenQ_n (VC.sub _ hΓ ?_)
      refine VC.meet (σ := Unit) (fun s => [(3, .slice (some ⟨g1, 0, none⟩) q.length c1), (8, .slice (some ⟨g1, 0, none⟩) q.length c1), (9, .int .i64 ((q.length : Nat) : Int)), (10, .int .i64 ((i : Nat) : Int))]) (fun s wm => Frm [] w wm ∧ ∃ cs, Fro wm g1 5 cs ∧ cs.toList.take q.length = U8 ((q.take (i + 1)).map gre ++ q.drop (i + 1))) ?_ ?_
      · skip
        refine VC.condD rfl (fun hc2 => ?_) (fun hc2 => ?_)
        · skip
          refine VC.region ?_
          refine Ops.r (Run.mv rfl) rfl ?_
          refine Ops.r (Run.mv rfl) rfl ?_
          refine Ops.r (Run.mv rfl) rfl ?_
          refine Ops.r (Run.bin rfl rfl (Bin.sub_u8 _ 32 (by omega) (by omega))) rfl ?_
          rw [show (q[i].toNat - 32 : Nat) = (gre q[i]).toNat by rw [gre_nat, if_pos hc2]]
          refine Ops.r (Run.indexS i rfl rfl Tryz.underlying22 Tryz.sizeOf5 hc1) rfl ?_
          rw [show (⟨g1, 0, none⟩ : Addr).add (i * 1) = ⟨g1, i, none⟩ by unfold Addr.add; rw [Nat.mul_one]; split <;> simp_all]
          refine Ops.st (Acts.storeFro rfl rfl Tryz.sizeOf5 hF hsz rfl) ?_
          rintro w2 ⟨hF2, hf2, hs2⟩
          refine Ops.nil ?_
          refine thenQ_n ⟨(), (.cons rfl (.cons rfl (.cons rfl (.cons rfl .nil)))), ?_⟩
          exact ⟨hfr.own hf2 (fun x hx => by simp at hx; omega), _, hF2, by rw [u8_set ht hll hc1, gre_step hc1]⟩
        · skip
          refine VC.skip ?_
          refine thenQ_n ⟨(), (.cons rfl (.cons rfl (.cons rfl (.cons rfl .nil)))), ?_⟩
          exact ⟨hfr, cs, hF, by rw [ht, gre_stay hc1 (UInt8.toNat_inj.1 (by rw [gre_nat, if_neg hc2]))]⟩
      · skip
        rintro _ wm ⟨hfr2, cs2, hF2, ht2⟩ Γ hΓ
        refine blockQ_n (thenQ_n (VC.sub _ hΓ ?_))
        refine VC.region ?_
        refine Ops.r (Run.bin rfl rfl (Bin.add_i64 _ 1 (by omega))) rfl ?_
        refine Ops.r (Run.mv rfl) rfl ?_
        refine Ops.nil ?_
        refine thenQ_n ⟨(i + 1), (.cons rfl (.cons rfl (.cons rfl (.cons rfl .nil)))), ?_, ?_⟩
        · skip
          exact ⟨hc1, hfr2, cs2, hF2, ht2⟩
        · skip
          first | omega | (dsimp only; omega)
  · skip
    refine VC.exit ?_
    refine thenQ_x (thenQ_x (blockQ_x ?_))
    refine thenQ_n ?_
    refine VC.sub [(3, _)] (.cons rfl .nil) ?_
    refine VC.seq ?_
    refine VC.region ?_
    refine Ops.r (Run.mv rfl) rfl ?_
    have hR : Rd wr 1 (some ⟨g1, 0, none⟩) q.length (U8 (greS q)) := by
      have him : i = q.length := by omega
      subst him
      have h := hF.rd (l := greS q) (by rw [greS_len, ht]; simp [greS])
      rwa [greS_len] at h
    refine Ops.r (Run.strOfT rfl Tryz.underlying22 Tryz.underlying5 Tryz.underlying9 hR) rfl ?_
    refine Ops.r (Run.asg rfl) rfl ?_
    refine Ops.nil ?_
    refine thenQ_n ?_
    refine VC.sub [(2, _)] (.cons rfl .nil) ?_
    refine VC.ret ?_
    refine end1 rfl ?_
    exact ⟨rfl, hfr⟩

end Go.Proofs.YtenbjndldenkfaaGreatDoor

namespace Go.Proofs.YtenbjndldenkfaaGreatDoor
open Go.RowKit Go.Sort

/-- What of the library's own variables is asked: the longest text that is sought fast; the error of a number. -/
def LibV (w : World) : Prop := (∃ m, w.cell? ⟨0, 0, none⟩ = some (.int .i64 m)) ∧ ∃ ev, w.cell? ⟨2, 0, none⟩ = some ev ∧ (ev = .nilIface ∨ ∃ te pe, ev = .iface te pe)
theorem cell_frm0 {w w' : World} {a : Addr} {v : Value} (h : w.cell? a = some v) (k : Frm [] w w') : w'.cell? a = some v := by
  have hlt : a.block < w.heap.size := by
    apply Classical.byContradiction
    intro hn
    have : w.heap[a.block]? = none := by simp; omega
    simp [World.cell?, this] at h
  have e := k.block a.block hlt (by simp)
  simp only [World.cell?] at h ⊢
  rw [e]
  exact h
theorem LibV.frm0 {w w' : World} (h : LibV w) (k : Frm [] w w') : LibV w' := by
  obtain ⟨⟨m, h1⟩, ev, h2, h3⟩ := h
  exact ⟨⟨m, cell_frm0 h1 k⟩, ev, cell_frm0 h2 k, h3⟩
theorem atoi_spec (s : Tx) (w : World) (hs : s.length ≤ 18) (hv : LibV w) : Calls Tryz.prog 118 #[encStr s] w fun e w' => Frm [] w w' ∧ ∃ (n : Int) (ev : Value) (b : Bool), e = .returned (.tuple #[.int .i64 n, ev]) ∧ ((b = false ∧ Lib.atoi s = some n ∧ ev = .nilIface) ∨ (b = true ∧ Lib.atoi s = none ∧ n = 0 ∧ ∃ t v, ev = .iface t v)) := by
  have hsz : (⟨s.toArray⟩ : ByteArray).size ≤ 18 := by show s.toArray.size ≤ 18; simpa using hs
  have hl : (⟨s.toArray⟩ : ByteArray).data.toList = s := by simp
  cases h : Lib.atoi s with
  | some n => exact (Tryz.strconv_Atoi ⟨s.toArray⟩ n hsz (by rw [hl]; exact h) w).mono fun e w' ⟨he, t, hw⟩ => ⟨Frm.of_below (hw ▸ Lib.bytesWorld_below _ _ _), n, _, false, he, .inl ⟨rfl, rfl, rfl⟩⟩
  | none =>
    obtain ⟨_, ev, h2, h3⟩ := hv
    exact (Tryz.strconv_Atoi_err ⟨s.toArray⟩ hsz (by rw [hl]; exact h) ev w h2 h3).mono fun e w' ⟨N, he, _, _, hb⟩ => ⟨Frm.of_below hb, 0, _, true, he, .inr ⟨rfl, rfl, rfl, _, _, rfl⟩⟩
section
variable {P : Program} {Γ : Env} {w : World} {dst : Option Tmp} {T : TypeId} {pos : String} {after : Array Edge} {g : Option (Nat × Bool)}
theorem Run.neqNilE {t yT : TypeId} {x : Operand} {ev : Value} {b : Bool} {d : TypeDesc} (hx : ev? Γ x = some ev) (hev : (b = false ∧ ev = .nilIface) ∨ (b = true ∧ ∃ u v, ev = .iface u v)) (ht : P.underlying t = some d) (hd : notIface d = false) :
    Run P ⟨dst, .binOp .neq t x (.const .nilIface) yT, T, pos, after, g⟩ Γ w (.bool b) := by
  rcases hev with ⟨rfl, rfl⟩ | ⟨rfl, u, v, rfl⟩
  · exact Run.neqNil2 hx ht hd
  · exact Run.neqNilI hx rfl ht hd
end
def hedQ (s : Tx) : UInt8 := s.headD 0
def IsNo (s : Tx) : Prop := ((s = [] ∨ 2 < s.length) ∨ (hedQ s).toNat < 49) ∨ 57 < (hedQ s).toNat
instance (s : Tx) : Decidable (IsNo s) := by unfold IsNo; infer_instance
/-- A number of a path; 0: it is none. -/
def pnumQ (s : Tx) : Int := if IsNo s then 0 else match Lib.atoi s with
  | some n => if 64 < n then 0 else n
  | none => 0

set_option maxRecDepth 100000 in
theorem number_spec (s : Tx) (w : World) (hs : s.length ≤ 1000000) (hv : LibV w) : Calls Tryz.prog 83 #[encStr s] w fun e w' => e = .returned (.int .i64 (pnumQ s)) ∧ Frm [] w w' := by
  have hgx : ¬ s = [] → s[0]? = some (hedQ s) := fun h => by cases s with
    | nil => exact absurd rfl h
    | cons x r => rfl
  refine VC.calls (nt := 34) (res := #[.tmp 2]) Tryz.func83 rfl Tryz.ntmps83 Tryz.results83 rfl ?_
  refine VC.seq ?_
  refine VC.region ?_
  refine Ops.r (v := .int .i64 ((0 : Nat) : Int)) (Run.asg rfl) rfl ?_
  refine Ops.nil ?_
  refine thenQ_n ?_
  refine VC.sub [(0, _)] (.cons rfl .nil) ?_
  refine VC.seq ?_
  refine VC.seq ?_
  refine VC.split1 [(0, _)] (.cons rfl .nil) 21 (.bool (decide (IsNo s))) ?_ ?_
  · refine VC.region ?_
    refine Ops.r (Run.mv rfl) rfl ?_
    refine Ops.r (Run.eqlT rfl rfl) rfl ?_
    by_cases hs6 : s = []
    · skip
      refine Ops.r (Run.mv rfl) rfl ?_
      refine Ops.sk rfl (by first | rfl | assumption | exact decide_eq_true (by assumption) | exact decide_eq_false (by assumption) | decide | (simp; done) | (simp; omega) | (simp [*]; done)) rfl ?_
      refine Ops.sk rfl (by first | rfl | assumption | exact decide_eq_true (by assumption) | exact decide_eq_false (by assumption) | decide | (simp; done) | (simp; omega) | (simp [*]; done)) rfl ?_
      refine Ops.sk rfl (by first | rfl | assumption | exact decide_eq_true (by assumption) | exact decide_eq_false (by assumption) | decide | (simp; done) | (simp; omega) | (simp [*]; done)) rfl ?_
      refine Ops.r (Run.pickT rfl rfl (by first | rfl | assumption | exact decide_eq_true (by assumption) | exact decide_eq_false (by assumption) | decide | (simp; done) | (simp; omega) | (simp [*]; done))) rfl ?_
      refine Ops.r (Run.mv rfl) rfl ?_
      refine Ops.sk rfl (by first | rfl | assumption | exact decide_eq_true (by assumption) | exact decide_eq_false (by assumption) | decide | (simp; done) | (simp; omega) | (simp [*]; done)) rfl ?_
      refine Ops.sk rfl (by first | rfl | assumption | exact decide_eq_true (by assumption) | exact decide_eq_false (by assumption) | decide | (simp; done) | (simp; omega) | (simp [*]; done)) rfl ?_
      refine Ops.sk rfl (by first | rfl | assumption | exact decide_eq_true (by assumption) | exact decide_eq_false (by assumption) | decide | (simp; done) | (simp; omega) | (simp [*]; done)) rfl ?_
      refine Ops.r (Run.pickT rfl rfl (by first | rfl | assumption | exact decide_eq_true (by assumption) | exact decide_eq_false (by assumption) | decide | (simp; done) | (simp; omega) | (simp [*]; done))) rfl ?_
      refine Ops.r (Run.mv rfl) rfl ?_
      refine Ops.sk rfl (by first | rfl | assumption | exact decide_eq_true (by assumption) | exact decide_eq_false (by assumption) | decide | (simp; done) | (simp; omega) | (simp [*]; done)) rfl ?_
      refine Ops.sk rfl (by first | rfl | assumption | exact decide_eq_true (by assumption) | exact decide_eq_false (by assumption) | decide | (simp; done) | (simp; omega) | (simp [*]; done)) rfl ?_
      refine Ops.sk rfl (by first | rfl | assumption | exact decide_eq_true (by assumption) | exact decide_eq_false (by assumption) | decide | (simp; done) | (simp; omega) | (simp [*]; done)) rfl ?_
      refine Ops.r (Run.pickT rfl rfl (by first | rfl | assumption | exact decide_eq_true (by assumption) | exact decide_eq_false (by assumption) | decide | (simp; done) | (simp; omega) | (simp [*]; done))) rfl ?_
      refine Ops.nil ?_
      refine thenQ_n ⟨(.cons (congrArg (fun b => some (Value.bool b)) (by first | (simp [IsNo, hs6, hs10, hs15, hs20]; done) | (simp [IsNo, hs6, hs10, hs15]; done) | (simp [IsNo, hs6, hs10]; done) | (simp [IsNo, hs6]; done))) (.cons rfl .nil)), rfl⟩
    · skip
      refine Ops.r (Run.mv rfl) rfl ?_
      refine Ops.rg rfl (by first | rfl | assumption | exact decide_eq_true (by assumption) | exact decide_eq_false (by assumption) | decide | (simp; done) | (simp; omega) | (simp [*]; done)) (Run.mv rfl) rfl ?_
      refine Ops.rg rfl (by first | rfl | assumption | exact decide_eq_true (by assumption) | exact decide_eq_false (by assumption) | decide | (simp; done) | (simp; omega) | (simp [*]; done)) (Run.lenT rfl Tryz.underlying9) rfl ?_
      refine Ops.rg rfl (by first | rfl | assumption | exact decide_eq_true (by assumption) | exact decide_eq_false (by assumption) | decide | (simp; done) | (simp; omega) | (simp [*]; done)) (Run.bin rfl rfl (Bin.gtrN _ 2)) rfl ?_
      by_cases hs10 : 2 < s.length
      · skip
        refine Ops.r (Run.pickF rfl rfl (by first | rfl | assumption | exact decide_eq_true (by assumption) | exact decide_eq_false (by assumption) | decide | (simp; done) | (simp; omega) | (simp [*]; done))) rfl ?_
        refine Ops.r (Run.mv rfl) rfl ?_
        refine Ops.sk rfl (by first | rfl | assumption | exact decide_eq_true (by assumption) | exact decide_eq_false (by assumption) | decide | (simp; done) | (simp; omega) | (simp [*]; done)) rfl ?_
        refine Ops.sk rfl (by first | rfl | assumption | exact decide_eq_true (by assumption) | exact decide_eq_false (by assumption) | decide | (simp; done) | (simp; omega) | (simp [*]; done)) rfl ?_
        refine Ops.sk rfl (by first | rfl | assumption | exact decide_eq_true (by assumption) | exact decide_eq_false (by assumption) | decide | (simp; done) | (simp; omega) | (simp [*]; done)) rfl ?_
        refine Ops.r (Run.pickT rfl rfl (by first | rfl | assumption | exact decide_eq_true (by assumption) | exact decide_eq_false (by assumption) | decide | (simp; done) | (simp; omega) | (simp [*]; done))) rfl ?_
        refine Ops.r (Run.mv rfl) rfl ?_
        refine Ops.sk rfl (by first | rfl | assumption | exact decide_eq_true (by assumption) | exact decide_eq_false (by assumption) | decide | (simp; done) | (simp; omega) | (simp [*]; done)) rfl ?_
        refine Ops.sk rfl (by first | rfl | assumption | exact decide_eq_true (by assumption) | exact decide_eq_false (by assumption) | decide | (simp; done) | (simp; omega) | (simp [*]; done)) rfl ?_
        refine Ops.sk rfl (by first | rfl | assumption | exact decide_eq_true (by assumption) | exact decide_eq_false (by assumption) | decide | (simp; done) | (simp; omega) | (simp [*]; done)) rfl ?_
        refine Ops.r (Run.pickT rfl rfl (by first | rfl | assumption | exact decide_eq_true (by assumption) | exact decide_eq_false (by assumption) | decide | (simp; done) | (simp; omega) | (simp [*]; done))) rfl ?_
        refine Ops.nil ?_
        refine thenQ_n ⟨(.cons (congrArg (fun b => some (Value.bool b)) (by first | (simp [IsNo, hs6, hs10, hs15, hs20]; done) | (simp [IsNo, hs6, hs10, hs15]; done) | (simp [IsNo, hs6, hs10]; done) | (simp [IsNo, hs6]; done))) (.cons rfl .nil)), rfl⟩
      · skip
        refine Ops.r (Run.pickF rfl rfl (by first | rfl | assumption | exact decide_eq_true (by assumption) | exact decide_eq_false (by assumption) | decide | (simp; done) | (simp; omega) | (simp [*]; done))) rfl ?_
        refine Ops.r (Run.mv rfl) rfl ?_
        refine Ops.rg rfl (by first | rfl | assumption | exact decide_eq_true (by assumption) | exact decide_eq_false (by assumption) | decide | (simp; done) | (simp; omega) | (simp [*]; done)) (Run.mv rfl) rfl ?_
        refine Ops.rg rfl (by first | rfl | assumption | exact decide_eq_true (by assumption) | exact decide_eq_false (by assumption) | decide | (simp; done) | (simp; omega) | (simp [*]; done)) (Run.indexT 0 rfl rfl Tryz.underlying9 (hgx hs6)) rfl ?_
        refine Ops.rg rfl (by first | rfl | assumption | exact decide_eq_true (by assumption) | exact decide_eq_false (by assumption) | decide | (simp; done) | (simp; omega) | (simp [*]; done)) (Run.bin rfl rfl (Bin.lssN _ 49)) rfl ?_
        by_cases hs15 : (hedQ s).toNat < 49
        · skip
          refine Ops.r (Run.pickF rfl rfl (by first | rfl | assumption | exact decide_eq_true (by assumption) | exact decide_eq_false (by assumption) | decide | (simp; done) | (simp; omega) | (simp [*]; done))) rfl ?_
          refine Ops.r (Run.mv rfl) rfl ?_
          refine Ops.sk rfl (by first | rfl | assumption | exact decide_eq_true (by assumption) | exact decide_eq_false (by assumption) | decide | (simp; done) | (simp; omega) | (simp [*]; done)) rfl ?_
          refine Ops.sk rfl (by first | rfl | assumption | exact decide_eq_true (by assumption) | exact decide_eq_false (by assumption) | decide | (simp; done) | (simp; omega) | (simp [*]; done)) rfl ?_
          refine Ops.sk rfl (by first | rfl | assumption | exact decide_eq_true (by assumption) | exact decide_eq_false (by assumption) | decide | (simp; done) | (simp; omega) | (simp [*]; done)) rfl ?_
          refine Ops.r (Run.pickT rfl rfl (by first | rfl | assumption | exact decide_eq_true (by assumption) | exact decide_eq_false (by assumption) | decide | (simp; done) | (simp; omega) | (simp [*]; done))) rfl ?_
          refine Ops.nil ?_
          refine thenQ_n ⟨(.cons (congrArg (fun b => some (Value.bool b)) (by first | (simp [IsNo, hs6, hs10, hs15, hs20]; done) | (simp [IsNo, hs6, hs10, hs15]; done) | (simp [IsNo, hs6, hs10]; done) | (simp [IsNo, hs6]; done))) (.cons rfl .nil)), rfl⟩
        · skip
          refine Ops.r (Run.pickF rfl rfl (by first | rfl | assumption | exact decide_eq_true (by assumption) | exact decide_eq_false (by assumption) | decide | (simp; done) | (simp; omega) | (simp [*]; done))) rfl ?_
          refine Ops.r (Run.mv rfl) rfl ?_
          refine Ops.rg rfl (by first | rfl | assumption | exact decide_eq_true (by assumption) | exact decide_eq_false (by assumption) | decide | (simp; done) | (simp; omega) | (simp [*]; done)) (Run.mv rfl) rfl ?_
          refine Ops.rg rfl (by first | rfl | assumption | exact decide_eq_true (by assumption) | exact decide_eq_false (by assumption) | decide | (simp; done) | (simp; omega) | (simp [*]; done)) (Run.indexT 0 rfl rfl Tryz.underlying9 (hgx hs6)) rfl ?_
          refine Ops.rg rfl (by first | rfl | assumption | exact decide_eq_true (by assumption) | exact decide_eq_false (by assumption) | decide | (simp; done) | (simp; omega) | (simp [*]; done)) (Run.bin rfl rfl (Bin.gtrN _ 57)) rfl ?_
          by_cases hs20 : 57 < (hedQ s).toNat
          · skip
            refine Ops.r (Run.pickF rfl rfl (by first | rfl | assumption | exact decide_eq_true (by assumption) | exact decide_eq_false (by assumption) | decide | (simp; done) | (simp; omega) | (simp [*]; done))) rfl ?_
            refine Ops.nil ?_
            refine thenQ_n ⟨(.cons (congrArg (fun b => some (Value.bool b)) (by first | (simp [IsNo, hs6, hs10, hs15, hs20]; done) | (simp [IsNo, hs6, hs10, hs15]; done) | (simp [IsNo, hs6, hs10]; done) | (simp [IsNo, hs6]; done))) (.cons rfl .nil)), rfl⟩
          · skip
            refine Ops.r (Run.pickF rfl rfl (by first | rfl | assumption | exact decide_eq_true (by assumption) | exact decide_eq_false (by assumption) | decide | (simp; done) | (simp; omega) | (simp [*]; done))) rfl ?_
            refine Ops.nil ?_
            refine thenQ_n ⟨(.cons (congrArg (fun b => some (Value.bool b)) (by first | (simp [IsNo, hs6, hs10, hs15, hs20]; done) | (simp [IsNo, hs6, hs10, hs15]; done) | (simp [IsNo, hs6, hs10]; done) | (simp [IsNo, hs6]; done))) (.cons rfl .nil)), rfl⟩
  · intro Γ hΓ
    refine thenQ_n (VC.sub _ hΓ ?_)
    refine VC.condD rfl (fun hc1 => ?_) (fun hc1 => ?_)
    · skip
      have hnq : pnumQ s = 0 := by unfold pnumQ; rw [if_pos hc1]
      refine VC.seq ?_
      refine VC.region ?_
      refine Ops.r (v := .int .i64 ((0 : Nat) : Int)) (Run.asg rfl) rfl ?_
      refine Ops.nil ?_
      refine thenQ_n ?_
      refine VC.sub [(2, _)] (.cons rfl .nil) ?_
      refine VC.ret ?_
      refine thenQ_r (end1 rfl ?_)
      exact ⟨by rw [hnq]; rfl, Frm.refl _ _⟩
    · skip
      have hs2 : s.length ≤ 2 := by
        apply Classical.byContradiction
        intro h
        exact hc1 (.inl (.inl (.inr (by omega))))
      refine VC.skip ?_
      refine thenQ_n ?_
      refine VC.sub [(0, _)] (.cons rfl .nil) ?_
      refine VC.seq ?_
      refine VC.region ?_
      refine Ops.r (Run.mv rfl) rfl ?_
      refine Ops.cl (Enters.fn (evs.cons rfl evs.nil) Tryz.call118) ((atoi_spec s _ (by omega) hv)) rfl ?_
      rintro e w1 ⟨K, n, ev, b, rfl, hab⟩
      refine ⟨_, rfl, ?_⟩
      have hev : (b = false ∧ ev = .nilIface) ∨ (b = true ∧ ∃ u v, ev = .iface u v) := by
        rcases hab with ⟨h1, _, h2⟩ | ⟨h1, _, _, h2⟩
        · exact .inl ⟨h1, h2⟩
        · exact .inr ⟨h1, h2⟩
      have hnq : pnumQ s = if b = true ∨ 64 < n then 0 else n := by
        unfold pnumQ
        rw [if_neg hc1]
        rcases hab with ⟨h1, h2, _⟩ | ⟨h1, h2, h3, _⟩
        · rw [h2, h1]; simp
        · rw [h2, h1]; simp
      refine Ops.r (Run.mv rfl) rfl ?_
      refine Ops.r (Run.extract rfl rfl) rfl ?_
      refine Ops.r (Run.extract rfl rfl) rfl ?_
      refine Ops.r (Run.asg rfl) rfl ?_
      refine Ops.r (Run.asg rfl) rfl ?_
      refine Ops.nil ?_
      refine thenQ_n ?_
      refine VC.sub [(3, _), (4, _)] (.cons rfl (.cons rfl .nil)) ?_
      refine VC.seq ?_
      refine VC.seq ?_
      refine VC.split1 [(3, _)] (.cons rfl .nil) 32 (.bool (decide (b = true ∨ 64 < n))) ?_ ?_
      · refine VC.region ?_
        refine Ops.r (Run.mv rfl) rfl ?_
        refine Ops.r (Run.neqNilE rfl hev Tryz.underlying52 rfl) rfl ?_
        rw [show b = decide (b = true) by simp]
        by_cases hs28 : b = true
        · skip
          refine Ops.r (Run.mv rfl) rfl ?_
          refine Ops.sk rfl (by first | rfl | assumption | exact decide_eq_true (by assumption) | exact decide_eq_false (by assumption) | decide | (simp; done) | (simp; omega) | (simp [*]; done)) rfl ?_
          refine Ops.sk rfl (by first | rfl | assumption | exact decide_eq_true (by assumption) | exact decide_eq_false (by assumption) | decide | (simp; done) | (simp; omega) | (simp [*]; done)) rfl ?_
          refine Ops.r (Run.pickT rfl rfl (by first | rfl | assumption | exact decide_eq_true (by assumption) | exact decide_eq_false (by assumption) | decide | (simp; done) | (simp; omega) | (simp [*]; done))) rfl ?_
          refine Ops.nil ?_
          refine thenQ_n ⟨(.cons (congrArg (fun b => some (Value.bool b)) (by first | (simp [hs28, hs31]; done) | (simp [hs28]; done))) (.cons rfl .nil)), rfl⟩
        · skip
          refine Ops.r (Run.mv rfl) rfl ?_
          refine Ops.rg rfl (by first | rfl | assumption | exact decide_eq_true (by assumption) | exact decide_eq_false (by assumption) | decide | (simp; done) | (simp; omega) | (simp [*]; done)) (Run.mv rfl) rfl ?_
          refine Ops.rg rfl (by first | rfl | assumption | exact decide_eq_true (by assumption) | exact decide_eq_false (by assumption) | decide | (simp; done) | (simp; omega) | (simp [*]; done)) (Run.bin rfl rfl (Bin.gtr _ 64)) rfl ?_
          by_cases hs31 : 64 < n
          · skip
            refine Ops.r (Run.pickF rfl rfl (by first | rfl | assumption | exact decide_eq_true (by assumption) | exact decide_eq_false (by assumption) | decide | (simp; done) | (simp; omega) | (simp [*]; done))) rfl ?_
            refine Ops.nil ?_
            refine thenQ_n ⟨(.cons (congrArg (fun b => some (Value.bool b)) (by first | (simp [hs28, hs31]; done) | (simp [hs28]; done))) (.cons rfl .nil)), rfl⟩
          · skip
            refine Ops.r (Run.pickF rfl rfl (by first | rfl | assumption | exact decide_eq_true (by assumption) | exact decide_eq_false (by assumption) | decide | (simp; done) | (simp; omega) | (simp [*]; done))) rfl ?_
            refine Ops.nil ?_
            refine thenQ_n ⟨(.cons (congrArg (fun b => some (Value.bool b)) (by first | (simp [hs28, hs31]; done) | (simp [hs28]; done))) (.cons rfl .nil)), rfl⟩
      · intro Γ hΓ
        refine thenQ_n (VC.sub _ hΓ ?_)
        refine VC.condD rfl (fun hc2 => ?_) (fun hc2 => ?_)
        · skip
          rw [if_pos hc2] at hnq
          refine VC.seq ?_
          refine VC.region ?_
          refine Ops.r (v := .int .i64 ((0 : Nat) : Int)) (Run.asg rfl) rfl ?_
          refine Ops.nil ?_
          refine thenQ_n ?_
          refine VC.sub [(2, _)] (.cons rfl .nil) ?_
          refine VC.ret ?_
          refine thenQ_r (end1 rfl ?_)
          exact ⟨by rw [hnq]; rfl, K⟩
        · skip
          rw [if_neg hc2] at hnq
          refine VC.skip ?_
          refine thenQ_n ?_
          refine VC.sub [(3, _)] (.cons rfl .nil) ?_
          refine VC.seq ?_
          refine VC.region ?_
          refine Ops.r (Run.mv rfl) rfl ?_
          refine Ops.r (Run.asg rfl) rfl ?_
          refine Ops.nil ?_
          refine thenQ_n ?_
          refine VC.sub [(2, _)] (.cons rfl .nil) ?_
          refine VC.ret ?_
          refine end1 rfl ?_
          exact ⟨by rw [hnq]; rfl, K⟩

end Go.Proofs.YtenbjndldenkfaaGreatDoor

