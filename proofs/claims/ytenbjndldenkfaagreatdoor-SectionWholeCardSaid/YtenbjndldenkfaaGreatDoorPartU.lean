/-
  The parts of a letter, one within the other.
-/
import Derived.Test.YtenbjndldenkfaaGreatDoorPartV
namespace Go.Proofs.YtenbjndldenkfaaGreatDoor
open Go.RowKit Go.Sort

/-- A part, and where its parameters lie. -/
abbrev Pc := Prt × Option Addr × Nat
def PP1 (x : Pc) : List Value := [.int .i64 ((x.1.kind : Nat) : Int), .int .i64 ((x.1.frm : Nat) : Int), .int .i64 ((x.1.body : Nat) : Int), .int .i64 ((x.1.tu : Nat) : Int), encStr x.1.m.ty, encStr x.1.m.sub, .slice x.2.1 x.1.m.ps.length x.2.2, .int .i64 x.1.up, .int .i64 ((x.1.kids : Nat) : Int)]
theorem PP1_len (x : Pc) : (PP1 x).length = 9 := rfl
theorem PP1_one (x : Pc) : ∀ u ∈ PP1 x, u.oneCell' = true := by
  intro u hu
  simp only [PP1, List.mem_cons, List.not_mem_nil, or_false] at hu
  rcases hu with rfl | rfl | rfl | rfl | rfl | rfl | rfl | rfl | rfl <;> rfl
def PP (l : List Pc) : List Value := l.flatMap PP1
theorem PP_append (a b : List Pc) : PP (a ++ b) = PP a ++ PP b := by simp [PP]
theorem PP_len (l : List Pc) : (PP l).length = l.length * 9 := flat_len PP1 9 PP1_len l
theorem PP_one (l : List Pc) : ∀ u ∈ PP l, u.oneCell' = true := flat_one PP1 PP1_one l
theorem PP_at {w : World} {A : Option Addr} {l : List Pc} {k : Nat} (h : Rd w 9 A l.length (PP l)) (hk : k < l.length) : ∃ ad, A = some ad ∧ ∀ j v, (PP1 l[k])[j]? = some v → w.cell? ((ad.add (k * 9)).add j) = some v := by
  obtain ⟨ad, rfl, hc⟩ := h.elem hk
  refine ⟨ad, rfl, fun j v hj => hc j v ?_⟩
  rw [show PP l = l.flatMap PP1 from rfl, flat_get PP1 9 PP1_len l k hk]
  exact hj
theorem hrdQ {w w' : World} {t : TypeId} {x : Pc} (h : Fresh w w' t (PP1 x).toArray) : Rd w' 9 (some ⟨w.heap.size, 0, none⟩) 1 (PP [x]) := Rd.of_blk (n := 1) (size := 9) h.blk rfl
/-- A cell of one of them becomes another one. -/
theorem PP_set (l : List Pc) (k j : Nat) (hk : k < l.length) (hj : j < 9) (v : Value) (x : Pc) (hx : (PP1 l[k]).set j v = PP1 x) : (PP l).set (k * 9 + j) v = PP (l.set k x) := by
  have e : l = l.take k ++ l[k] :: l.drop (k + 1) := by rw [← drop_cons hk, List.take_append_drop]
  have hlt : (l.take k).length = k := by rw [List.length_take]; omega
  have h1 : PP l = PP (l.take k) ++ (PP1 l[k] ++ PP (l.drop (k + 1))) := by
    conv => lhs; rw [e]
    rw [PP_append]
    rfl
  have h2 : PP (l.set k x) = PP (l.take k) ++ (PP1 x ++ PP (l.drop (k + 1))) := by
    rw [List.set_eq_take_append_cons_drop, if_pos hk, PP_append]
    rfl
  have h3 : (PP (l.take k)).length = k * 9 := by rw [PP_len, hlt]
  rw [h1, h2, List.set_append_right _ _ (by omega), h3, show k * 9 + j - k * 9 = j by omega, List.set_append_left _ _ (by rw [PP1_len]; exact hj), hx]
theorem fillP (a b c u : Int) (x y z k : Value) : Instr.fill (fun i => (#[(0, 1), (1, 1), (2, 1), (3, 1), (4, 3), (7, 1), (8, 1)] : Array (Nat × Nat))[i]?) #[k, .int .i64 0, .int .i64 0, .int .i64 0, .string ⟨#[]⟩, .string ⟨#[]⟩, .slice none 0 0, .int .i64 0, .int .i64 0] [(1, .int .i64 a), (2, .int .i64 b), (3, .int .i64 c), (4, .agg #[x, y, z]), (5, .int .i64 u)] = some #[k, .int .i64 a, .int .i64 b, .int .i64 c, x, y, z, .int .i64 u, .int .i64 0] := by
  simp [Instr.fill, Value.cells]
def OwnPs (w : World) (l : List Pc) : Prop := ∀ x ∈ l, Own w 102 2 x.2.1 x.1.m.ps.length x.2.2 (PC x.1.m.ps)
theorem OwnPs.frm0 {w w' : World} {l : List Pc} (h : OwnPs w l) (k : Frm [] w w') : OwnPs w' l := fun x hx => (h x hx).frm k (by simp)
theorem OwnPs.blk {w w' : World} {l : List Pc} {g : Nat} {t : TypeId} {cs : Array Value} (h : OwnPs w l) (k : Frm [g] w w') (hb : Blk w g t cs) (hne : 102 ≠ t) : OwnPs w' l := fun x hx => (h x hx).frm k (fun y hy => by have := (h x hx).ne_blk hb hne; simp; rintro rfl; exact this hy)
theorem OwnPs.own {w w' : World} {l : List Pc} {e size n c : Nat} {A : Option Addr} {xs : List Value} (h : OwnPs w l) (k : Frm (ob A) w w') (ho : Own w e size A n c xs) (hne : 102 ≠ e) : OwnPs w' l := fun x hx => (h x hx).frm k (fun y hy => (h x hx).ne_own ho hne y hy)
theorem OwnPs.set {w : World} {l : List Pc} {k : Nat} {x : Pc} (h : OwnPs w l) (hk : k < l.length) (hx : x.2 = l[k].2) (hm : x.1.m = l[k].1.m) : OwnPs w (l.set k x) := by
  intro y hy
  rcases List.mem_or_eq_of_mem_set hy with hy | rfl
  · exact h y hy
  · have := h l[k] (List.getElem_mem hk)
    rw [← hx, ← hm] at this
    exact this
theorem map_set (l : List Pc) (k : Nat) (x : Pc) : (l.set k x).map (·.1) = (l.map (·.1)).set k x.1 := by rw [List.map_set]
theorem modify_set (l : List Prt) (k : Nat) (hk : k < l.length) (f : Prt → Prt) : l.modify k f = l.set k (f l[k]) := by
  apply List.ext_getElem?
  intro i
  rw [List.getElem?_modify, List.getElem?_set]
  by_cases e : k = i
  · subst e
    simp [hk]
  · simp [e]
theorem fnd_full {s : Tx} {n : Nat} {l : List Prt} {frm tu : Nat} {up : Int} {dg : Bool} (h : l.length = 64) : fndQ s n l frm tu up dg = l := by unfold fndQ; rw [if_pos h]
def newP (s : Tx) (frm tu : Nat) (up : Int) (dg : Bool) : Prt := ⟨0, frm, frm + splitQ (sliceQ s frm tu), tu, mediaQ (sliceQ s frm tu) dg, up, 0⟩
theorem fnd_zero {s : Tx} {l : List Prt} {frm tu : Nat} {up : Int} {dg : Bool} (h : l.length ≠ 64) : fndQ s 0 l frm tu up dg = kid1 (l ++ [newP s frm tu up dg]) up := by unfold fndQ; rw [if_neg h]; rfl
theorem fnd_let {s : Tx} {n : Nat} {l : List Prt} {frm tu : Nat} {up : Int} {dg : Bool} (h : l.length ≠ 64) (h2 : IsLet (newP s frm tu up dg).m) : fndQ s (n + 1) l frm tu up dg = fndQ s n (setK (kid1 (l ++ [newP s frm tu up dg]) up) l.length 2) (newP s frm tu up dg).body tu (l.length : Int) false := by
  conv => lhs; unfold fndQ
  rw [if_neg h]
  exact (if_pos (show IsLet (mediaQ (sliceQ s frm tu) dg) from h2)).trans rfl
theorem fnd_plain {s : Tx} {n : Nat} {l : List Prt} {frm tu : Nat} {up : Int} {dg : Bool} (h : l.length ≠ 64) (h2 : ¬ IsLet (newP s frm tu up dg).m) (h3 : (newP s frm tu up dg).m.ty ≠ multT ∨ (findQ (newP s frm tu up dg).m.ps bndT).1 = []) : fndQ s (n + 1) l frm tu up dg = kid1 (l ++ [newP s frm tu up dg]) up := by
  conv => lhs; unfold fndQ
  rw [if_neg h]
  refine (if_neg (show ¬ IsLet (mediaQ (sliceQ s frm tu) dg) from h2)).trans ?_
  exact (if_pos h3).trans rfl
theorem fnd_mult {s : Tx} {n : Nat} {l : List Prt} {frm tu : Nat} {up : Int} {dg : Bool} (h : l.length ≠ 64) (h2 : ¬ IsLet (newP s frm tu up dg).m) (h3 : ¬ ((newP s frm tu up dg).m.ty ≠ multT ∨ (findQ (newP s frm tu up dg).m.ps bndT).1 = [])) : fndQ s (n + 1) l frm tu up dg = (spansQ s (findQ (newP s frm tu up dg).m.ps bndT).1 (newP s frm tu up dg).body tu).foldl (fun acc x => fndQ s n (setK acc l.length 1) x.1 x.2 (l.length : Int) (decide ((newP s frm tu up dg).m.sub = digT))) (kid1 (l ++ [newP s frm tu up dg]) up) := by
  conv => lhs; unfold fndQ
  rw [if_neg h]
  refine (if_neg (show ¬ IsLet (mediaQ (sliceQ s frm tu) dg) from h2)).trans ?_
  exact (if_neg h3).trans rfl
theorem fnd_len (s : Tx) : ∀ (n : Nat) (l : List Prt) (frm tu : Nat) (up : Int) (dg : Bool), l.length ≤ 64 → l.length ≤ (fndQ s n l frm tu up dg).length ∧ (fndQ s n l frm tu up dg).length ≤ 64 := by
  intro n
  induction n with
  | zero =>
    intro l frm tu up dg hl
    by_cases h : l.length = 64
    · rw [fnd_full h]; omega
    · rw [fnd_zero h, kid1_len]; simp; omega
  | succ n ih =>
    intro l frm tu up dg hl
    by_cases h : l.length = 64
    · rw [fnd_full h]; omega
    have h1 : (kid1 (l ++ [newP s frm tu up dg]) up).length = l.length + 1 := by rw [kid1_len]; simp
    by_cases h2 : IsLet (newP s frm tu up dg).m
    · rw [fnd_let h h2]
      have := ih (setK (kid1 (l ++ [newP s frm tu up dg]) up) l.length 2) (newP s frm tu up dg).body tu (l.length : Int) false (by rw [setK_len]; omega)
      rw [setK_len] at this
      omega
    · by_cases h3 : (newP s frm tu up dg).m.ty ≠ multT ∨ (findQ (newP s frm tu up dg).m.ps bndT).1 = []
      · rw [fnd_plain h h2 h3]; omega
      · rw [fnd_mult h h2 h3]
        generalize kid1 (l ++ [newP s frm tu up dg]) up = l1 at *
        generalize spansQ s (findQ (newP s frm tu up dg).m.ps bndT).1 (newP s frm tu up dg).body tu = sp
        have key : ∀ (sp : List (Nat × Nat)) (acc : List Prt), l1.length ≤ acc.length → acc.length ≤ 64 → l1.length ≤ (sp.foldl (fun acc x => fndQ s n (setK acc l.length 1) x.1 x.2 (l.length : Int) (decide ((newP s frm tu up dg).m.sub = digT))) acc).length ∧ (sp.foldl (fun acc x => fndQ s n (setK acc l.length 1) x.1 x.2 (l.length : Int) (decide ((newP s frm tu up dg).m.sub = digT))) acc).length ≤ 64 := by
          intro sp
          induction sp with
          | nil => exact fun acc a b => ⟨a, b⟩
          | cons x r ihs =>
            intro acc ha hb
            rw [List.foldl_cons]
            have := ih (setK acc l.length 1) x.1 x.2 (l.length : Int) (decide ((newP s frm tu up dg).m.sub = digT)) (by rw [setK_len]; exact hb)
            rw [setK_len] at this
            exact ihs _ (by omega) this.2
        have := key sp l1 (Nat.le_refl _) (by omega)
        omega
theorem Own.blk' {w w' : World} {e size n c g : Nat} {A : Option Addr} {xs : List Value} {t : TypeId} {cs : Array Value} (h : Own w e size A n c xs) (k : Frm [g] w w') (hb : Blk w g t cs) (hne : e ≠ t) : Own w' e size A n c xs := h.frm k (fun y hy => by have := h.ne_blk hb hne; simp; rintro rfl; exact this hy)
theorem Own.own' {w w' : World} {e size n c e2 size2 n2 c2 : Nat} {A B : Option Addr} {xs ys : List Value} (h : Own w e size A n c xs) (k : Frm (ob B) w w') (ho : Own w e2 size2 B n2 c2 ys) (hne : e ≠ e2) : Own w' e size A n c xs := h.frm k (fun y hy => h.ne_own ho hne y hy)
/-! ### how long they are -/
theorem medQ_val (q : Tx) : ∀ p ∈ (medQ q).ps, p.2.length ≤ q.length := by
  unfold medQ
  split
  · simp [med0]
  · rename_i p ps h
    unfold medOf
    split
    · intro y hy
      obtain ⟨x, hx, hy⟩ := List.mem_flatMap.1 (show y ∈ ps.flatMap parQ from hy)
      have h1 := pcs_len _ false q (Nat.le_refl _) x (by rw [h]; simp [hx])
      unfold parQ at hy
      split at hy
      · simp only [List.mem_singleton] at hy
        subst hy
        have h2 := valQ_len (aftF 61 x)
        have h3 := (bef_len 61 x).2
        show (valQ (aftF 61 x)).length ≤ _
        omega
      · simp at hy
    · intro y hy
      simp [med0] at hy
theorem find_val {k : Nat} (n : Tx) : ∀ ps : List Par, (∀ p ∈ ps, p.2.length ≤ k) → (findQ ps n).1.length ≤ k
  | [], _ => by simp [findQ]
  | p :: r, h => by
    unfold findQ
    split
    · exact h p (by simp)
    · exact find_val n r (fun p hp => h p (by simp [hp]))
theorem mediaQ_ok (s : Tx) (dg : Bool) : (mediaQ s dg).ps.length ≤ s.length + 1 ∧ (findQ (mediaQ s dg).ps bndT).1.length ≤ s.length := by
  unfold mediaQ
  split
  · exact ⟨by simp, by simp [findQ]⟩
  · have h1 := medQ_count (findH s ctype).1
    have h2 := pcs_count _ false (findH s ctype).1 (Nat.le_refl _)
    have h3 := findF_len s ctype (fieldsQ s)
    have h4 : findH s ctype = findF s ctype (fieldsQ s) := rfl
    have h5 := find_val bndT _ (medQ_val (findH s ctype).1)
    rw [← h4] at h3
    omega
/-! ### how many a part has -/
def KidsOk (l : List Prt) : Prop := ∀ (i : Nat) (x : Prt), l[i]? = some x → x.kids ≤ l.length
theorem kid1_kids {l : List Prt} {p : Prt} {up : Int} (h : KidsOk l) (hp : p.kids = 0) : KidsOk (kid1 (l ++ [p]) up) := by
  have h1 : ∀ (i : Nat) (x : Prt), (l ++ [p])[i]? = some x → x.kids ≤ l.length := by
    intro i x hx
    have hm := List.mem_of_getElem? hx
    rcases List.mem_append.1 hm with hm | hm
    · obtain ⟨j, hj⟩ := List.getElem?_of_mem hm
      exact h j x hj
    · simp only [List.mem_singleton] at hm
      subst hm
      omega
  intro i x hx
  rw [kid1_len, List.length_append]
  show x.kids ≤ l.length + 1
  unfold kid1 at hx
  split at hx
  · rw [List.getElem?_modify] at hx
    cases e : (l ++ [p])[i]? with
    | none => rw [e] at hx; simp at hx
    | some y =>
      have h2 := h1 i y e
      rw [e] at hx
      simp only [Option.map_eq_map, Option.map_some, Option.some.injEq] at hx
      subst hx
      split
      · show y.kids + 1 ≤ _; omega
      · show y.kids ≤ _; omega
  · have := h1 i x hx
    omega
theorem setK_kids {l : List Prt} {i k : Nat} (h : KidsOk l) : KidsOk (setK l i k) := by
  intro j x hx
  rw [setK_len]
  unfold setK at hx
  rw [List.getElem?_modify] at hx
  cases e : l[j]? with
  | none => rw [e] at hx; simp at hx
  | some y =>
    have h2 := h j y e
    rw [e] at hx
    simp only [Option.map_eq_map, Option.map_some, Option.some.injEq] at hx
    subst hx
    split
    · exact h2
    · exact h2
theorem fnd_kids (s : Tx) : ∀ (n : Nat) (l : List Prt) (frm tu : Nat) (up : Int) (dg : Bool), KidsOk l → KidsOk (fndQ s n l frm tu up dg) := by
  intro n
  induction n with
  | zero =>
    intro l frm tu up dg hl
    by_cases h : l.length = 64
    · rw [fnd_full h]; exact hl
    · rw [fnd_zero h]; exact kid1_kids hl rfl
  | succ n ih =>
    intro l frm tu up dg hl
    by_cases h : l.length = 64
    · rw [fnd_full h]; exact hl
    have h1 : KidsOk (kid1 (l ++ [newP s frm tu up dg]) up) := kid1_kids hl rfl
    by_cases h2 : IsLet (newP s frm tu up dg).m
    · rw [fnd_let h h2]
      exact ih _ _ _ _ _ (setK_kids h1)
    · by_cases h3 : (newP s frm tu up dg).m.ty ≠ multT ∨ (findQ (newP s frm tu up dg).m.ps bndT).1 = []
      · rw [fnd_plain h h2 h3]; exact h1
      · rw [fnd_mult h h2 h3]
        generalize spansQ s (findQ (newP s frm tu up dg).m.ps bndT).1 (newP s frm tu up dg).body tu = sp
        generalize kid1 (l ++ [newP s frm tu up dg]) up = a at h1
        induction sp generalizing a with
        | nil => exact h1
        | cons x r ihs => rw [List.foldl_cons]; exact ihs _ (ih _ _ _ _ _ (setK_kids h1))
theorem setK_map (l : List Pc) (i k : Nat) (hi : i < l.length) : (l.set i ({ l[i].1 with kind := k }, l[i].2)).map (·.1) = setK (l.map (·.1)) i k := by
  unfold setK
  rw [map_set, modify_set _ _ (by simpa using hi)]
  simp [List.getElem_map]
theorem kid1_map (l : List Pc) (u : Nat) (hu : u < l.length) : (l.set u ({ l[u].1 with kids := l[u].1.kids + 1 }, l[u].2)).map (·.1) = kid1 (l.map (·.1)) (u : Int) := by
  unfold kid1
  rw [if_pos (by omega), map_set, Int.toNat_natCast, modify_set _ _ (by simpa using hu)]
  simp [List.getElem_map]
theorem foldl_snoc' {α β : Type} (f : β → α → β) (b : β) (l : List α) (i : Nat) (h : i < l.length) : (l.take (i + 1)).foldl f b = f ((l.take i).foldl f b) l[i] := by rw [take_snoc h, List.foldl_append]; rfl
def FindAt (n : Nat) : Prop := ∀ (nest : Nat), nest + n = 6 → ∀ (g : Nat) (A : Option Addr) (c : Nat) (q : Tx) (l : List Pc) (LA : Option Addr) (lc frm tu : Nat) (up : Int) (dg : Bool) (w : World), Rd w 1 A q.length (U8 q) → q.length ≤ 400000 → q.length ≤ c → frm ≤ tu → tu ≤ q.length → l.length ≤ 64 → -1 ≤ up → up < (l.length : Int) → KidsOk (l.map (·.1)) →
  Blk w g 99 #[.slice A q.length c, .slice LA l.length lc] → Own w 69 9 LA l.length lc (PP l) → OwnPs w l → (∀ x ∈ obN A q.length, x ≠ g ∧ x ∉ ob LA) →
  Calls Tryz.prog 68 #[.pointer (some ⟨g, 0, none⟩), .int .i64 ((frm : Nat) : Int), .int .i64 ((tu : Nat) : Int), .int .i64 up, .int .i64 ((nest : Nat) : Int), .bool dg] w fun e w' => e = .returned (.tuple #[]) ∧
    ∃ (l2 : List Pc) (LA2 : Option Addr) (lc2 : Nat), l2.map (·.1) = fndQ q n (l.map (·.1)) frm tu up dg ∧ Blk w' g 99 #[.slice A q.length c, .slice LA2 l2.length lc2] ∧ Own w' 69 9 LA2 l2.length lc2 (PP l2) ∧ OwnPs w' l2 ∧ Frm (g :: ob LA) w w' ∧ ∀ x ∈ ob LA2, x ∈ ob LA ∨ w.heap.size ≤ x
theorem loadM {w : World} {gp : Nat} {x : Pc} (h : Blk w gp 69 (PP1 x).toArray) : ∀ j v, ((MdC x.1.m x.2.1 x.2.2).toList)[j]? = some v → w.cell? (((⟨gp, 0, none⟩ : Addr).add 4).add j) = some v := by
  intro j v hj
  rw [add_add, add_mk]
  have := h.cell (4 + j)
  rw [this, ← hj]
  match j with
  | 0 => rfl
  | 1 => rfl
  | 2 => rfl
  | j + 3 =>
    rw [show 4 + (j + 3) = j + 7 by omega]
    have : ((MdC x.1.m x.2.1 x.2.2).toList)[j + 3]? = none := by simp [MdC]
    rw [this] at hj
    cases hj

set_option maxRecDepth 100000 in
theorem find_step (n : Nat) (ih : ∀ m, m < n → FindAt m) : FindAt n := by
  intro nest hnn g A c q l LA lc frm tu up dg w hrd hq hc hft htl hl64 hup1 hup2 hkid hbg hO hPs hdis
  have hml : (l.map (·.1)).length = l.length := by simp
  refine VC.calls (nt := 147) (res := #[]) Tryz.func68 rfl Tryz.ntmps68 Tryz.results68 rfl ?_
  refine VC.seq ?_
  refine VC.seq ?_
  refine VC.region ?_
  refine Ops.r (Run.mv rfl) rfl ?_
  refine Ops.r (Run.nilck rfl) rfl ?_
  refine Ops.r (Run.fieldAddr rfl Tryz.underlying99 rfl Tryz.sizeOf60 (by decide)) rfl ?_
  refine Ops.r (Run.load rfl Tryz.isAgg60 (hbg.cell 1)) rfl ?_
  refine Ops.r (Run.lenS rfl Tryz.underlying60) rfl ?_
  refine Ops.r (Run.bin rfl rfl (Bin.eqlN _ 64)) rfl ?_
  refine Ops.nil ?_
  refine thenQ_n ?_
  refine VC.sub [(0, _), (1, _), (2, _), (3, _), (4, _), (5, _), (24, _)] (.cons rfl (.cons rfl (.cons rfl (.cons rfl (.cons rfl (.cons rfl (.cons rfl .nil))))))) ?_
  refine VC.condD rfl (fun hc1 => ?_) (fun hc1 => ?_)
  · skip
    refine VC.ret ?_
    refine thenQ_r (end0 ?_)
    exact ⟨rfl, l, LA, lc, (fnd_full (by rw [hml]; exact hc1)).symm, hbg, hO, hPs, Frm.refl _ _, fun x hx => .inl hx⟩
  · skip
    have hl63 : l.length ≤ 63 := by omega
    have hml64 : (l.map (·.1)).length ≠ 64 := by rw [hml]; exact hc1
    have hcut := U8_cut hrd hft htl hc
    have hsl := sliceQ_len (a := frm) htl
    have hspl := splitQ_le (sliceQ q frm tu)
    have hkl := kid1_len (l.map (·.1) ++ [newP q frm tu up dg]) up
    refine VC.skip ?_
    refine thenQ_n ?_
    refine VC.sub [(0, _), (1, _), (2, _), (3, _), (4, _), (5, _)] (.cons rfl (.cons rfl (.cons rfl (.cons rfl (.cons rfl (.cons rfl .nil)))))) ?_
    refine VC.seq ?_
    refine VC.region ?_
    refine Ops.r (Run.mv rfl) rfl ?_
    refine Ops.r (Run.nilck rfl) rfl ?_
    refine Ops.r (Run.fieldAddr rfl Tryz.underlying99 rfl Tryz.sizeOf22 (by decide)) rfl ?_
    refine Ops.r (Run.load rfl Tryz.isAgg22 (hbg.cell 0)) rfl ?_
    refine Ops.r (Run.mv rfl) rfl ?_
    refine Ops.r (Run.mv rfl) rfl ?_
    refine Ops.r (Run.sliceS frm tu rfl Tryz.underlying22 Tryz.sizeOf5 (evB.some_ rfl) (evB.some_ rfl) hft (by omega)) rfl ?_
    rw [← hsl]
    refine Ops.r (Run.asg rfl) rfl ?_
    refine Ops.nil ?_
    refine thenQ_n ?_
    refine VC.sub [(0, _), (1, _), (2, _), (3, _), (4, _), (5, _), (12, _)] (.cons rfl (.cons rfl (.cons rfl (.cons rfl (.cons rfl (.cons rfl (.cons rfl .nil))))))) ?_
    refine VC.seq ?_
    refine VC.region ?_
    refine Ops.r (Run.mv rfl) rfl ?_
    refine Ops.r (Run.nilck rfl) rfl ?_
    refine Ops.r (Run.fieldAddr rfl Tryz.underlying99 rfl Tryz.sizeOf60 (by decide)) rfl ?_
    refine Ops.r (Run.load rfl Tryz.isAgg60 (hbg.cell 1)) rfl ?_
    refine Ops.r (Run.lenS rfl Tryz.underlying60) rfl ?_
    refine Ops.r (Run.asg rfl) rfl ?_
    refine Ops.nil ?_
    refine thenQ_n ?_
    refine VC.sub [(0, _), (1, _), (2, _), (3, _), (4, _), (5, _), (12, _), (13, _)] (.cons rfl (.cons rfl (.cons rfl (.cons rfl (.cons rfl (.cons rfl (.cons rfl (.cons rfl .nil)))))))) ?_
    refine VC.seq ?_
    refine VC.region ?_
    refine Ops.r (Run.mv rfl) rfl ?_
    refine Ops.r (Run.mv rfl) rfl ?_
    refine Ops.r (Run.mv rfl) rfl ?_
    refine Ops.cl (Enters.fn (evs.cons rfl evs.nil) Tryz.call51) (split_spec _ _ (sliceQ q frm tu) _ hcut (by omega) (by omega)) rfl ?_
    rintro e w1 ⟨rfl, K⟩
    refine ⟨_, rfl, ?_⟩
    have hbg := hbg.frm K (by simp)
    have hO := hO.frm K (by simp)
    have hPs := hPs.frm0 K
    refine Ops.r (Run.bin rfl rfl (Bin.add_i64 _ _ (by omega))) rfl ?_
    refine Ops.r (Run.mv rfl) rfl ?_
    refine Ops.r (Run.mv rfl) rfl ?_
    refine Ops.r (Run.mv rfl) rfl ?_
    refine Ops.cl (Enters.fn (evs.cons rfl (evs.cons rfl evs.nil)) Tryz.call104) (media_spec _ _ (sliceQ q frm tu) dg _ (hcut.frm K (by simp)) (by omega) (by omega)) rfl ?_
    rintro e w2 ⟨hf2, MA, mc, rfl, hMO, hMub⟩
    refine ⟨_, rfl, ?_⟩
    have hbg := hbg.frm hf2 (by simp)
    have hO := hO.frm hf2 (by simp)
    have hPs := hPs.frm0 hf2
    have K := K.trans hf2 (by simp)
    obtain ⟨p, hp⟩ : ∃ p, newP q frm tu up dg = p := ⟨_, rfl⟩
    have hpm : mediaQ (sliceQ q frm tu) dg = p.m := by rw [← hp]; rfl
    have hmok := mediaQ_ok (sliceQ q frm tu) dg
    have hpb : frm + splitQ (sliceQ q frm tu) = p.body := by rw [← hp]; rfl
    have hpbt : p.body ≤ tu := by omega
    have hpc : (PP1 (p, MA, mc)) = [.int .i64 ((0 : Nat) : Int), .int .i64 ((frm : Nat) : Int), .int .i64 ((p.body : Nat) : Int), .int .i64 ((tu : Nat) : Int), encStr p.m.ty, encStr p.m.sub, .slice MA p.m.ps.length mc, .int .i64 up, .int .i64 ((0 : Nat) : Int)] := by rw [← hp]; rfl
    rw [hpm, hpb]
    rw [hpm] at hMO hmok
    rw [hp] at hkl
    have hkid1 : KidsOk (kid1 (l.map (·.1) ++ [p]) up) := kid1_kids hkid (by rw [← hp]; rfl)
    have hpk : p.kids = 0 := by rw [← hp]; rfl
    have hO0 := hO
    have lgw := hbg.lt
    refine Ops.r (Run.mv rfl) rfl ?_
    refine Ops.r (Run.build (evs.cons rfl (evs.cons rfl (evs.cons rfl (evs.cons rfl (evs.cons rfl evs.nil))))) zero69 (places69).choose_spec.1 (places69).choose_spec.2 (cells := (PP1 (p, MA, mc)).toArray) (by rw [hpc]; exact fillP _ _ _ _ _ _ _ _)) rfl ?_
    refine Ops.m (Does.alloc zero69) rfl ?_
    rintro _ w3 ⟨rfl, hF3⟩
    have hbp := hF3.blk
    have hbp0 := hbp
    have lg := hbg.lt
    have hbg := hbg.frm hF3.frm (by simp)
    have hO := hO.frm hF3.frm (by simp)
    have hPs := hPs.frm0 hF3.frm
    have hMO := hMO.frm hF3.frm (by simp)
    have sK := K.size
    have K := K.trans hF3.frm (by simp)
    generalize hgp : w2.heap.size = gp at hbp hbp0 lg sK ⊢
    refine Ops.st (Acts.storeA rfl rfl Tryz.sizeOf69 hbp rfl (PP1_one (p, MA, mc))) ?_
    rintro w4 ⟨hbpn, hf4, _⟩
    have hbp : Blk w4 gp 69 (PP1 (p, MA, mc)).toArray := hbpn
    have hbg := hbg.frm hf4 (by simp; omega)
    have hO := hO.frm hf4 (fun y hy => by have h1 := hO0.lt y hy; have h2 := K.size; simp; omega)
    have hPs := hPs.blk hf4 hbp0 (by decide)
    have hMO := hMO.blk' hf4 hbp0 (by decide)
    have K := Frm.own K hf4 (fun y hy => by simp at hy; omega)
    refine Ops.nil ?_
    refine thenQ_n ?_
    refine VC.sub [(0, _), (2, _), (3, _), (4, _), (13, _), (14, _)] (.cons rfl (.cons rfl (.cons rfl (.cons rfl (.cons rfl (.cons rfl .nil)))))) ?_
    refine VC.seq ?_
    refine VC.heldL 10 (fun V => Frm (ob LA) w4 V) (by kernel_rfl) ?_
    have hS0 : Frm [] w4 w4.drew := (Frm.refl [] w4).drew
    have hS : Frm (ob LA) w4 w4.drew := hS0.mono (by simp)
    have hng := hO.ne_blk hbg (by decide)
    have hngp : gp ∉ ob LA := fun hm => by have h1 := hO0.lt gp hm; omega
    have hbgv := hbg
    have hbpv := hbp
    have hO := hO.frm hS0 (by simp)
    have hbg := hbg.frm hS0 (by simp)
    have hbp := hbp.frm hS0 (by simp)
    have hPs := hPs.frm0 hS0
    have hMO := hMO.frm hS0 (by simp)
    have K := K.drew
    refine HOps.take 0 rfl (by kernel_rfl) (by kernel_rfl) (by kernel_rfl) hS (fun w0 hw0 => Run.mv rfl) trivial rfl rfl ?_
    refine HOps.take 1 rfl (by kernel_rfl) (by kernel_rfl) (by kernel_rfl) hS (fun w0 hw0 => Run.mv rfl) trivial rfl rfl ?_
    refine HOps.take 2 rfl (by kernel_rfl) (by kernel_rfl) (by kernel_rfl) hS (fun w0 hw0 => Run.nilck rfl) trivial rfl rfl ?_
    refine HOps.take 3 rfl (by kernel_rfl) (by kernel_rfl) (by kernel_rfl) hS (fun w0 hw0 => Run.fieldAddr rfl Tryz.underlying99 rfl Tryz.sizeOf60 (by decide)) trivial rfl rfl ?_
    refine HOps.take 4 rfl (by kernel_rfl) (by kernel_rfl) (by kernel_rfl) hS (fun w0 hw0 => Run.load rfl Tryz.isAgg60 ((hbgv.frm hw0 hng).cell 1)) trivial rfl rfl ?_
    refine HOps.r1 5 rfl (by kernel_rfl) hS (Run.loadA rfl Tryz.isAgg69 Tryz.sizeOf69 (fun j v hj => hbp.cells j v hj) (by first | rfl | (simp; done))) trivial rfl rfl ?_
    refine HOps.m 6 rfl (by kernel_rfl) (Does.buildS1 rfl Tryz.underlying60 Tryz.sizeOf69 zero69 (by decide) (by decide) rfl rfl) trivial rfl rfl ?_
    rintro _ w5 ⟨rfl, hF5⟩
    have hrdp := hrdQ (x := (p, MA, mc)) hF5
    have hO := hO.frm hF5.frm (by simp)
    have hbg := hbg.frm hF5.frm (by simp)
    have hbp := hbp.frm hF5.frm (by simp)
    have hPs := hPs.frm0 hF5.frm
    have hMO := hMO.frm hF5.frm (by simp)
    have K := K.trans hF5.frm (by simp)
    have hS := hS.trans hF5.frm (by simp)
    refine ⟨hS, ?_⟩
    refine HOps.m 7 rfl (by kernel_rfl) (Does.app rfl rfl Tryz.underlying60 (info69) rfl (by decide) hO hrdp (PP_one _) (by omega) (by omega)) trivial rfl rfl ?_
    rintro _ w6 ⟨LA6, lc6, rfl, hO6, hf6, hob6⟩
    rw [← PP_append] at hO6
    have hbg := hbg.frm hf6 hng
    have hbp := hbp.frm hf6 hngp
    have hPs := hPs.own hf6 hO (by decide)
    have hMO := hMO.own' hf6 hO (by decide)
    have K5 := K
    have KL := (K.mono (T := g :: ob LA) (by simp)).trans hf6 (fun y hy => .inl (by simp [hy]))
    have hS := hS.trans hf6 (fun y hy => .inl hy)
    refine ⟨hS, ?_⟩
    refine HOps.r1 8 rfl (by kernel_rfl) hS (Run.nilck rfl) trivial rfl rfl ?_
    refine HOps.r1 9 rfl (by kernel_rfl) hS (Run.fieldAddr rfl Tryz.underlying99 rfl Tryz.sizeOf60 (by decide)) trivial rfl rfl ?_
    refine HOps.stL rfl (by kernel_rfl) (Acts.store rfl rfl Tryz.sizeOf60 hbg rfl rfl) trivial rfl ?_
    rintro w7 ⟨hbgn, hf7, _⟩
    obtain ⟨L, hL⟩ : ∃ L : List Pc, l ++ [((p, MA, mc) : Pc)] = L := ⟨_, rfl⟩
    have hl1 : L.length = l.length + 1 := by rw [← hL]; simp
    have hbgn : Blk w7 g 99 #[.slice A q.length c, .slice LA6 L.length lc6] := by rw [hl1]; exact hbgn
    have hng6 := hO6.ne_blk hbg (by decide)
    have hO : Own w7 69 9 LA6 L.length lc6 (PP L) := by rw [hl1, ← hL]; exact hO6.frm hf7 (fun y hy => by simp; rintro rfl; exact hng6 hy)
    have hMO := hMO.blk' hf7 hbg (by decide)
    have hPs2 : OwnPs w7 L := by
      intro x hx
      rw [← hL] at hx
      rcases List.mem_append.1 hx with hx | hx
      · exact (hPs.blk hf7 hbg (by decide)) x hx
      · simp only [List.mem_singleton] at hx
        subst hx
        exact hMO
    have hbp := hbp.frm hf7 (by simp; omega)
    have K := KL.trans hf7 (fun y hy => .inl (by simp at hy; simp [hy]))
    have sK5 := K5.size
    have hgp6 : gp ∉ ob LA6 := fun hm => by
      rcases hob6 with h | h
      · rw [h] at hm; exact hngp hm
      · rw [h] at hm; simp only [List.mem_singleton] at hm; have := hbpv.lt; have h5 := hS0.size; have h6 := hF5.frm.size; omega
    have hub6 : ∀ x ∈ ob LA6, x ∈ ob LA ∨ w.heap.size ≤ x := fun x hx => by
      rcases hob6 with h | h
      · rw [h] at hx; exact .inl hx
      · rw [h] at hx; simp only [List.mem_singleton] at hx; exact .inr (by omega)
    have hm1 : L.map (·.1) = l.map (·.1) ++ [p] := by rw [← hL]; simp
    have hkL : ∀ (i : Nat) (hi : i < L.length), L[i].1.kids ≤ 64 := by
      intro i hi
      have hm : L[i].1 ∈ l.map (·.1) ++ [p] := by rw [← hm1]; exact List.mem_map_of_mem (List.getElem_mem hi)
      rcases List.mem_append.1 hm with hm | hm
      · obtain ⟨j, hj⟩ := List.getElem?_of_mem hm
        have := hkid j _ hj
        omega
      · simp only [List.mem_singleton] at hm
        rw [hm]
        omega
    clear hPs hO6
    refine HOps.done (by kernel_rfl) ?_
    refine thenQ_n ?_
    refine VC.sub [(0, _), (2, _), (3, _), (4, _), (13, _), (14, _)] (.cons rfl (.cons rfl (.cons rfl (.cons rfl (.cons rfl (.cons rfl .nil)))))) ?_
    refine VC.seq ?_
    refine VC.seq ?_
    refine VC.region ?_
    refine Ops.r (Run.mv rfl) rfl ?_
    refine Ops.r (Run.bin rfl rfl (Bin.geq _ 0)) rfl ?_
    refine Ops.nil ?_
    refine thenQ_n ?_
    refine VC.sub [(0, _), (2, _), (3, _), (4, _), (13, _), (14, _), (59, _)] (.cons rfl (.cons rfl (.cons rfl (.cons rfl (.cons rfl (.cons rfl (.cons rfl .nil))))))) ?_
    refine VC.meet (σ := List Pc) (fun s => [(0, .pointer (some ⟨g, 0, none⟩)), (2, .int .i64 ((tu : Nat) : Int)), (4, .int .i64 ((nest : Nat) : Int)), (13, .int .i64 ((l.length : Nat) : Int)), (14, .pointer (some ⟨gp, 0, none⟩))]) (fun s wr => s.map (·.1) = kid1 (l.map (·.1) ++ [p]) up ∧ Own wr 69 9 LA6 s.length lc6 (PP s) ∧ OwnPs wr s ∧ Blk wr g 99 #[.slice A q.length c, .slice LA6 s.length lc6] ∧ Blk wr gp 69 (PP1 (p, MA, mc)).toArray ∧ Own wr 102 2 MA p.m.ps.length mc (PC p.m.ps) ∧ Frm (g :: ob LA) w wr) ?_ ?_
    · skip
      refine VC.condD rfl (fun hc2 => ?_) (fun hc2 => ?_)
      · skip
        obtain ⟨u, rfl⟩ : ∃ u : Nat, up = (u : Int) := ⟨up.toNat, by omega⟩
        have hul : u < L.length := by omega
        obtain ⟨ad6, rfl, hcell⟩ := PP_at hO.rd hul
        have hku := hkL u hul
        have hset := PP_set L u 8 hul (by omega) (.int .i64 ((L[u].1.kids + 1 : Nat) : Int)) ({ L[u].1 with kids := L[u].1.kids + 1 }, L[u].2) rfl
        refine VC.region ?_
        refine Ops.r (Run.mv rfl) rfl ?_
        refine Ops.r (Run.nilck rfl) rfl ?_
        refine Ops.r (Run.fieldAddr rfl Tryz.underlying99 rfl Tryz.sizeOf60 (by decide)) rfl ?_
        refine Ops.r (Run.load rfl Tryz.isAgg60 (hbgn.cell 1)) rfl ?_
        refine Ops.r (Run.mv rfl) rfl ?_
        refine Ops.r (Run.indexS u rfl rfl Tryz.underlying60 Tryz.sizeOf69 hul) rfl ?_
        refine Ops.r (Run.fieldAddr rfl Tryz.underlying69 rfl Tryz.sizeOf3 (by decide)) rfl ?_
        refine Ops.r (Run.load rfl Tryz.isAgg3 (hcell 8 (.int .i64 ((L[u].1.kids : Nat) : Int)) rfl)) rfl ?_
        refine Ops.r (Run.bin rfl rfl (Bin.add_i64 L[u].1.kids 1 (by omega))) rfl ?_
        refine Ops.r (Run.indexS u rfl rfl Tryz.underlying60 Tryz.sizeOf69 hul) rfl ?_
        refine Ops.r (Run.fieldAddr rfl Tryz.underlying69 rfl Tryz.sizeOf3 (by decide)) rfl ?_
        refine Ops.st (Acts.storeOwn (u * 9 + 8) (congrArg (fun a => some (Value.pointer (some a))) (add_add ad6 _ 8)) rfl Tryz.sizeOf3 hO rfl (by omega) rfl) ?_
        rintro w8 ⟨hO8, hf8, _⟩
        rw [hset] at hO8
        have hng8 := hO.ne_blk hbgn (by decide)
        refine Ops.nil ?_
        refine thenQ_n ⟨(L.set u ({ L[u].1 with kids := L[u].1.kids + 1 }, L[u].2)), (.cons rfl (.cons rfl (.cons rfl (.cons rfl (.cons rfl .nil))))), ?_⟩
        refine ⟨by rw [kid1_map, hm1], by rw [List.length_set]; exact hO8, ?_, by rw [List.length_set]; exact hbgn.frm hf8 hng8, hbp.frm hf8 hgp6, hMO.own' hf8 hO (by decide), K.trans hf8 (fun y hy => by rcases hub6 y hy with h | h; exact .inl (by simp [h]); exact .inr h)⟩
        exact OwnPs.set (hPs2.own hf8 hO (by decide)) hul rfl rfl
      · skip
        refine VC.skip ?_
        refine thenQ_n ⟨L, (.cons rfl (.cons rfl (.cons rfl (.cons rfl (.cons rfl .nil))))), ?_⟩
        refine ⟨?_, hO, hPs2, hbgn, hbp, hMO, K⟩
        rw [hm1]
        unfold kid1
        rw [if_neg hc2]
    · skip
      rintro l1 w8 ⟨hm1, hO, hPs, hbg, hbp, hMO, K⟩ Γ hΓ
      have hl1 : l1.length = l.length + 1 := by
        have := congrArg List.length hm1
        rw [List.length_map, hkl] at this
        simpa using this
      have hl1i : l.length < l1.length := by omega
      have hk1 : KidsOk (l1.map (·.1)) := by rw [hm1]; exact hkid1
      have hrdK : ∀ {w' : World}, Frm (g :: ob LA) w w' → Rd w' 1 A q.length (U8 q) := fun K => hrd.frm K (fun hn x hx => by have := hdis x (obN_of hn hx); simp only [List.mem_cons, not_or]; exact ⟨this.1, this.2⟩)
      have hdisK : ∀ {B : Option Addr}, (∀ x ∈ ob B, x ∈ ob LA ∨ w.heap.size ≤ x) → ∀ x ∈ obN A q.length, x ≠ g ∧ x ∉ ob B := fun hB x hx => ⟨(hdis x hx).1, fun hm => by
        rcases hB x hm with h | h
        · exact (hdis x hx).2 h
        · have := hrd.lt (obN_mem hx).1 x (obN_mem hx).2; omega⟩
      refine thenQ_n (VC.sub _ hΓ ?_)
      refine VC.seq ?_
      refine VC.seq ?_
      refine VC.region ?_
      refine Ops.r (Run.mv rfl) rfl ?_
      refine Ops.r (Run.bin rfl rfl (Bin.eqlN _ 6)) rfl ?_
      refine Ops.nil ?_
      refine thenQ_n ?_
      refine VC.sub [(0, _), (2, _), (4, _), (13, _), (14, _), (72, _)] (.cons rfl (.cons rfl (.cons rfl (.cons rfl (.cons rfl (.cons rfl .nil)))))) ?_
      refine VC.condD rfl (fun hc3 => ?_) (fun hc3 => ?_)
      · skip
        have hn0 : n = 0 := by omega
        subst hn0
        have hz := fnd_zero (s := q) (frm := frm) (tu := tu) (up := up) (dg := dg) hml64
        rw [hp, ← hm1] at hz
        refine VC.ret ?_
        refine thenQ_r (end0 ?_)
        exact ⟨rfl, l1, LA6, lc6, hz.symm, hbg, hO, hPs, K, hub6⟩
      · skip
        obtain ⟨n', rfl⟩ : ∃ n', n = n' + 1 := ⟨n - 1, by omega⟩
        have hnm : ¬ IsLet p.m → ¬ (p.m.ty ≠ multT ∨ (findQ p.m.ps bndT).1 = []) → fndQ q (n' + 1) (l.map (·.1)) frm tu up dg = (spansQ q (findQ p.m.ps bndT).1 p.body tu).foldl (fun acc x => fndQ q n' (setK acc l.length 1) x.1 x.2 (l.length : Int) (decide (p.m.sub = digT))) (l1.map (·.1)) := by
          intro h2 h3
          have h := fnd_mult (s := q) (n := n') (frm := frm) (tu := tu) (up := up) (dg := dg) hml64 (by rw [hp]; exact h2) (by rw [hp]; exact h3)
          rw [hp, hml, ← hm1] at h
          exact h
        have hnp : ¬ IsLet p.m → (p.m.ty ≠ multT ∨ (findQ p.m.ps bndT).1 = []) → fndQ q (n' + 1) (l.map (·.1)) frm tu up dg = l1.map (·.1) := by
          intro h2 h3
          have h := fnd_plain (s := q) (n := n') (frm := frm) (tu := tu) (up := up) (dg := dg) hml64 (by rw [hp]; exact h2) (by rw [hp]; exact h3)
          rw [hp, ← hm1] at h
          exact h
        have hnl : IsLet p.m → fndQ q (n' + 1) (l.map (·.1)) frm tu up dg = fndQ q n' (setK (l1.map (·.1)) l.length 2) p.body tu (l.length : Int) false := by
          intro h2
          have h := fnd_let (s := q) (n := n') (frm := frm) (tu := tu) (up := up) (dg := dg) hml64 (by rw [hp]; exact h2)
          rw [hp, hml, ← hm1] at h
          exact h
        refine VC.skip ?_
        refine thenQ_n ?_
        refine VC.sub [(0, _), (2, _), (4, _), (13, _), (14, _)] (.cons rfl (.cons rfl (.cons rfl (.cons rfl (.cons rfl .nil))))) ?_
        refine VC.seq ?_
        refine VC.seq ?_
        refine VC.split1 [(0, _), (2, _), (4, _), (13, _), (14, _)] (.cons rfl (.cons rfl (.cons rfl (.cons rfl (.cons rfl .nil))))) 82 (.bool (decide (IsLet p.m))) ?_ ?_
        · refine VC.region ?_
          refine Ops.r (Run.fieldAddr rfl Tryz.underlying69 rfl Tryz.sizeOf67 (by decide)) rfl ?_
          refine Ops.r (Run.fieldAddr rfl Tryz.underlying67 rfl Tryz.sizeOf9 (by decide)) rfl ?_
          refine Ops.r (Run.load rfl Tryz.isAgg9 (loadM hbp 0 _ rfl)) rfl ?_
          refine Ops.r (Run.eqlT rfl rfl) rfl ?_
          by_cases hs76 : p.m.ty = msgT
          · skip
            refine Ops.r (Run.mv rfl) rfl ?_
            refine Ops.rg rfl (by first | rfl | assumption | exact decide_eq_true (by assumption) | exact decide_eq_false (by assumption) | decide | (simp; done) | (simp; omega) | (simp [*]; done)) (Run.fieldAddr rfl Tryz.underlying69 rfl Tryz.sizeOf67 (by decide)) rfl ?_
            refine Ops.rg rfl (by first | rfl | assumption | exact decide_eq_true (by assumption) | exact decide_eq_false (by assumption) | decide | (simp; done) | (simp; omega) | (simp [*]; done)) (Run.fieldAddr rfl Tryz.underlying67 rfl Tryz.sizeOf9 (by decide)) rfl ?_
            refine Ops.rg rfl (by first | rfl | assumption | exact decide_eq_true (by assumption) | exact decide_eq_false (by assumption) | decide | (simp; done) | (simp; omega) | (simp [*]; done)) (Run.load rfl Tryz.isAgg9 (loadM hbp 1 _ rfl)) rfl ?_
            refine Ops.rg rfl (by first | rfl | assumption | exact decide_eq_true (by assumption) | exact decide_eq_false (by assumption) | decide | (simp; done) | (simp; omega) | (simp [*]; done)) (Run.eqlT rfl rfl) rfl ?_
            by_cases hs81 : p.m.sub = rfcT
            · skip
              refine Ops.r (Run.pickT rfl rfl (by first | rfl | assumption | exact decide_eq_true (by assumption) | exact decide_eq_false (by assumption) | decide | (simp; done) | (simp; omega) | (simp [*]; done))) rfl ?_
              refine Ops.nil ?_
              refine thenQ_n ⟨(.cons (congrArg (fun b => some (Value.bool b)) (by first | exact (decide_eq_true hs81).trans (decide_eq_true ⟨hs76, hs81⟩).symm | exact (decide_eq_false hs81).trans (decide_eq_false (show ¬ IsLet p.m from fun h => hs81 h.2)).symm | exact (decide_eq_false (show ¬ IsLet p.m from fun h => hs76 h.1)).symm | exact (decide_eq_false hs76).trans (decide_eq_false (show ¬ IsLet p.m from fun h => hs76 h.1)).symm)) (.cons rfl (.cons rfl (.cons rfl (.cons rfl (.cons rfl .nil)))))), rfl⟩
            · skip
              refine Ops.r (Run.pickT rfl rfl (by first | rfl | assumption | exact decide_eq_true (by assumption) | exact decide_eq_false (by assumption) | decide | (simp; done) | (simp; omega) | (simp [*]; done))) rfl ?_
              refine Ops.nil ?_
              refine thenQ_n ⟨(.cons (congrArg (fun b => some (Value.bool b)) (by first | exact (decide_eq_true hs81).trans (decide_eq_true ⟨hs76, hs81⟩).symm | exact (decide_eq_false hs81).trans (decide_eq_false (show ¬ IsLet p.m from fun h => hs81 h.2)).symm | exact (decide_eq_false (show ¬ IsLet p.m from fun h => hs76 h.1)).symm | exact (decide_eq_false hs76).trans (decide_eq_false (show ¬ IsLet p.m from fun h => hs76 h.1)).symm)) (.cons rfl (.cons rfl (.cons rfl (.cons rfl (.cons rfl .nil)))))), rfl⟩
          · skip
            refine Ops.r (Run.mv rfl) rfl ?_
            refine Ops.sk rfl (by first | rfl | assumption | exact decide_eq_true (by assumption) | exact decide_eq_false (by assumption) | decide | (simp; done) | (simp; omega) | (simp [*]; done)) rfl ?_
            refine Ops.sk rfl (by first | rfl | assumption | exact decide_eq_true (by assumption) | exact decide_eq_false (by assumption) | decide | (simp; done) | (simp; omega) | (simp [*]; done)) rfl ?_
            refine Ops.sk rfl (by first | rfl | assumption | exact decide_eq_true (by assumption) | exact decide_eq_false (by assumption) | decide | (simp; done) | (simp; omega) | (simp [*]; done)) rfl ?_
            refine Ops.sk rfl (by first | rfl | assumption | exact decide_eq_true (by assumption) | exact decide_eq_false (by assumption) | decide | (simp; done) | (simp; omega) | (simp [*]; done)) rfl ?_
            refine Ops.r (Run.pickF rfl rfl (by first | rfl | assumption | exact decide_eq_true (by assumption) | exact decide_eq_false (by assumption) | decide | (simp; done) | (simp; omega) | (simp [*]; done))) rfl ?_
            refine Ops.nil ?_
            refine thenQ_n ⟨(.cons (congrArg (fun b => some (Value.bool b)) (by first | exact (decide_eq_true hs81).trans (decide_eq_true ⟨hs76, hs81⟩).symm | exact (decide_eq_false hs81).trans (decide_eq_false (show ¬ IsLet p.m from fun h => hs81 h.2)).symm | exact (decide_eq_false (show ¬ IsLet p.m from fun h => hs76 h.1)).symm | exact (decide_eq_false hs76).trans (decide_eq_false (show ¬ IsLet p.m from fun h => hs76 h.1)).symm)) (.cons rfl (.cons rfl (.cons rfl (.cons rfl (.cons rfl .nil)))))), rfl⟩
        · intro Γ hΓ
          refine thenQ_n (VC.sub _ hΓ ?_)
          refine VC.condD rfl (fun hc4 => ?_) (fun hc4 => ?_)
          · skip
            obtain ⟨ad6, rfl, hcell⟩ := PP_at hO.rd hl1i
            have hset := PP_set l1 l.length 0 hl1i (by omega) (.int .i64 2) ({ l1[l.length].1 with kind := 2 }, l1[l.length].2) rfl
            refine VC.seq ?_
            refine VC.region ?_
            refine Ops.r (Run.mv rfl) rfl ?_
            refine Ops.r (Run.nilck rfl) rfl ?_
            refine Ops.r (Run.fieldAddr rfl Tryz.underlying99 rfl Tryz.sizeOf60 (by decide)) rfl ?_
            refine Ops.r (Run.load rfl Tryz.isAgg60 (hbg.cell 1)) rfl ?_
            refine Ops.r (Run.mv rfl) rfl ?_
            refine Ops.r (Run.indexS l.length rfl rfl Tryz.underlying60 Tryz.sizeOf69 hl1i) rfl ?_
            refine Ops.r (Run.fieldAddr rfl Tryz.underlying69 rfl Tryz.sizeOf3 (by decide)) rfl ?_
            refine Ops.st (Acts.storeOwn (l.length * 9 + 0) (congrArg (fun a => some (Value.pointer (some a))) (add_add ad6 _ 0)) rfl Tryz.sizeOf3 hO rfl (by omega) rfl) ?_
            rintro w9 ⟨hO9, hf9, _⟩
            rw [hset] at hO9
            have hng9 := hO.ne_blk hbg (by decide)
            have hPs9 := OwnPs.set (x := ({ l1[l.length].1 with kind := 2 }, l1[l.length].2)) (hPs.own hf9 hO (by decide)) hl1i rfl rfl
            have hbg9 := hbg.frm hf9 hng9
            have hbp := hbp.frm hf9 hgp6
            have hm9 := setK_map l1 l.length 2 hl1i
            have K := K.trans hf9 (fun y hy => by rcases hub6 y hy with h | h; exact .inl (by simp [h]); exact .inr h)
            have hl2l : (l1.set l.length ({ l1[l.length].1 with kind := 2 }, l1[l.length].2)).length = l1.length := List.length_set
            obtain ⟨l2, hl2⟩ : ∃ l2 : List Pc, l1.set l.length ({ l1[l.length].1 with kind := 2 }, l1[l.length].2) = l2 := ⟨_, rfl⟩
            rw [hl2] at hO9 hPs9 hm9 hl2l
            have hk2 : KidsOk (l2.map (·.1)) := by rw [hm9]; exact setK_kids hk1
            rw [← hl2l] at hO9 hbg9
            refine Ops.nil ?_
            refine thenQ_n ?_
            refine VC.sub [(0, _), (2, _), (4, _), (13, _), (14, _)] (.cons rfl (.cons rfl (.cons rfl (.cons rfl (.cons rfl .nil))))) ?_
            refine VC.seq ?_
            refine VC.region ?_
            refine Ops.r (Run.mv rfl) rfl ?_
            refine Ops.r (Run.fieldAddr rfl Tryz.underlying69 rfl Tryz.sizeOf3 (by decide)) rfl ?_
            refine Ops.r (Run.load rfl Tryz.isAgg3 (hbp.cell 2)) rfl ?_
            refine Ops.r (Run.mv rfl) rfl ?_
            refine Ops.r (Run.mv rfl) rfl ?_
            refine Ops.r (Run.mv rfl) rfl ?_
            refine Ops.r (Run.bin rfl rfl (Bin.add_i64 nest 1 (by omega))) rfl ?_
            refine Ops.cl (Enters.fn (evs.cons rfl (evs.cons rfl (evs.cons rfl (evs.cons rfl (evs.cons rfl (evs.cons rfl evs.nil)))))) Tryz.call68) ((ih n' (by omega) (nest + 1) (by omega) g A c q l2 (some ad6) lc6 p.body tu (l.length : Int) false _ (hrdK K) hq hc hpbt htl (by omega) (by omega) (by omega) hk2 hbg9 hO9 hPs9 (hdisK hub6))) rfl ?_
            rintro e w10 ⟨rfl, l3, LA3, lc3, hm3, hbg3, hO3, hPs3, hf3, hub3⟩
            refine ⟨_, rfl, ?_⟩
            have hKs := K.size
            have K3 := K.trans hf3 (fun y hy => by rcases List.mem_cons.1 hy with h | h; exact .inl (by simp [h]); rcases hub6 y h with h | h; exact .inl (by simp [h]); exact .inr h)
            have hub3' : ∀ x ∈ ob LA3, x ∈ ob LA ∨ w.heap.size ≤ x := fun x hx => by
              rcases hub3 x hx with h | h
              · exact hub6 x h
              · exact .inr (by omega)
            refine Ops.nil ?_
            refine thenQ_n ?_
            refine VC.sub [] .nil ?_
            refine VC.ret ?_
            refine thenQ_r (end0 ?_)
            exact ⟨rfl, l3, LA3, lc3, by rw [hm3, hm9, hnl hc4], hbg3, hO3, hPs3, K3, hub3'⟩
          · skip
            refine VC.skip ?_
            refine thenQ_n ?_
            refine VC.sub [(0, _), (2, _), (4, _), (13, _), (14, _)] (.cons rfl (.cons rfl (.cons rfl (.cons rfl (.cons rfl .nil))))) ?_
            refine VC.seq ?_
            refine VC.region ?_
            refine Ops.r (Run.fieldAddr rfl Tryz.underlying69 rfl Tryz.sizeOf67 (by decide)) rfl ?_
            refine Ops.r (Run.loadA rfl Tryz.isAgg67 Tryz.sizeOf67 (loadM hbp) (by first | rfl | (simp; done))) rfl ?_
            refine Ops.cl (Enters.fn (evs.cons rfl (evs.cons rfl evs.nil)) Tryz.call105) ((find_spec p.m MA mc bndT _ hMO.rd (by omega))) rfl ?_
            rintro e w9 ⟨hf9, rfl⟩
            refine ⟨_, rfl, ?_⟩
            have hbg := hbg.frm hf9 (by simp)
            have hbp := hbp.frm hf9 (by simp)
            have hO := hO.frm hf9 (by simp)
            have hPs := hPs.frm0 hf9
            have K := K.trans hf9 (by simp)
            refine Ops.r (Run.mv rfl) rfl ?_
            refine Ops.r (Run.extract rfl rfl) rfl ?_
            refine Ops.r (Run.extract rfl rfl) rfl ?_
            refine Ops.r (Run.asg rfl) rfl ?_
            refine Ops.r (Run.asg rfl) rfl ?_
            refine Ops.nil ?_
            refine thenQ_n ?_
            refine VC.sub [(0, _), (2, _), (4, _), (13, _), (14, _), (15, _)] (.cons rfl (.cons rfl (.cons rfl (.cons rfl (.cons rfl (.cons rfl .nil)))))) ?_
            refine VC.seq ?_
            refine VC.seq ?_
            refine VC.split1 [(0, _), (2, _), (4, _), (13, _), (14, _), (15, _)] (.cons rfl (.cons rfl (.cons rfl (.cons rfl (.cons rfl (.cons rfl .nil)))))) 111 (.bool (decide (p.m.ty ≠ multT ∨ (findQ p.m.ps bndT).1 = []))) ?_ ?_
            · refine VC.region ?_
              refine Ops.r (Run.fieldAddr rfl Tryz.underlying69 rfl Tryz.sizeOf67 (by decide)) rfl ?_
              refine Ops.r (Run.fieldAddr rfl Tryz.underlying67 rfl Tryz.sizeOf9 (by decide)) rfl ?_
              refine Ops.r (Run.load rfl Tryz.isAgg9 (loadM hbp 0 _ rfl)) rfl ?_
              refine Ops.r (Run.neqT rfl rfl) rfl ?_
              by_cases hs107 : p.m.ty ≠ multT
              · skip
                refine Ops.r (Run.mv rfl) rfl ?_
                refine Ops.sk rfl (by first | rfl | assumption | exact decide_eq_true (by assumption) | exact decide_eq_false (by assumption) | decide | (simp; done) | (simp; omega) | (simp [*]; done)) rfl ?_
                refine Ops.sk rfl (by first | rfl | assumption | exact decide_eq_true (by assumption) | exact decide_eq_false (by assumption) | decide | (simp; done) | (simp; omega) | (simp [*]; done)) rfl ?_
                refine Ops.r (Run.pickT rfl rfl (by first | rfl | assumption | exact decide_eq_true (by assumption) | exact decide_eq_false (by assumption) | decide | (simp; done) | (simp; omega) | (simp [*]; done))) rfl ?_
                refine Ops.nil ?_
                refine thenQ_n ⟨(.cons (congrArg (fun b => some (Value.bool b)) (by first | (simp [hs107, hs110]; done) | (simp [hs107]; done))) (.cons rfl (.cons rfl (.cons rfl (.cons rfl (.cons rfl (.cons rfl .nil))))))), rfl⟩
              · skip
                refine Ops.r (Run.mv rfl) rfl ?_
                refine Ops.rg rfl (by first | rfl | assumption | exact decide_eq_true (by assumption) | exact decide_eq_false (by assumption) | decide | (simp; done) | (simp; omega) | (simp [*]; done)) (Run.mv rfl) rfl ?_
                refine Ops.rg rfl (by first | rfl | assumption | exact decide_eq_true (by assumption) | exact decide_eq_false (by assumption) | decide | (simp; done) | (simp; omega) | (simp [*]; done)) (Run.eqlT rfl rfl) rfl ?_
                by_cases hs110 : (findQ p.m.ps bndT).1 = []
                · skip
                  refine Ops.r (Run.pickF rfl rfl (by first | rfl | assumption | exact decide_eq_true (by assumption) | exact decide_eq_false (by assumption) | decide | (simp; done) | (simp; omega) | (simp [*]; done))) rfl ?_
                  refine Ops.nil ?_
                  refine thenQ_n ⟨(.cons (congrArg (fun b => some (Value.bool b)) (by first | (simp [hs107, hs110]; done) | (simp [hs107]; done))) (.cons rfl (.cons rfl (.cons rfl (.cons rfl (.cons rfl (.cons rfl .nil))))))), rfl⟩
                · skip
                  refine Ops.r (Run.pickF rfl rfl (by first | rfl | assumption | exact decide_eq_true (by assumption) | exact decide_eq_false (by assumption) | decide | (simp; done) | (simp; omega) | (simp [*]; done))) rfl ?_
                  refine Ops.nil ?_
                  refine thenQ_n ⟨(.cons (congrArg (fun b => some (Value.bool b)) (by first | (simp [hs107, hs110]; done) | (simp [hs107]; done))) (.cons rfl (.cons rfl (.cons rfl (.cons rfl (.cons rfl (.cons rfl .nil))))))), rfl⟩
            · intro Γ hΓ
              refine thenQ_n (VC.sub _ hΓ ?_)
              refine VC.condD rfl (fun hc5 => ?_) (fun hc5 => ?_)
              · skip
                refine VC.ret ?_
                refine thenQ_r (end0 ?_)
                exact ⟨rfl, l1, LA6, lc6, (hnp hc4 hc5).symm, hbg, hO, hPs, K, hub6⟩
              · skip
                refine VC.skip ?_
                refine thenQ_n ?_
                refine VC.sub [(0, _), (2, _), (4, _), (13, _), (14, _), (15, _)] (.cons rfl (.cons rfl (.cons rfl (.cons rfl (.cons rfl (.cons rfl .nil)))))) ?_
                refine VC.seq ?_
                refine VC.held (fun V => Frm [] w9 V) (by kernel_rfl) ?_
                have hS0 : Frm [] w9 w9.drew := (Frm.refl [] w9).drew
                have hS := hS0
                have hbgv := hbg
                have hbpv := hbp
                have hO := hO.frm hS0 (by simp)
                have hbg := hbg.frm hS0 (by simp)
                have hbp := hbp.frm hS0 (by simp)
                have hPs := hPs.frm0 hS0
                have K := K.drew
                refine HOps.take 0 rfl (by kernel_rfl) (by kernel_rfl) (by kernel_rfl) hS (fun w0 hw0 => Run.mv rfl) trivial rfl rfl ?_
                refine HOps.take 1 rfl (by kernel_rfl) (by kernel_rfl) (by kernel_rfl) hS (fun w0 hw0 => Run.nilck rfl) trivial rfl rfl ?_
                refine HOps.take 2 rfl (by kernel_rfl) (by kernel_rfl) (by kernel_rfl) hS (fun w0 hw0 => Run.fieldAddr rfl Tryz.underlying99 rfl Tryz.sizeOf22 (by decide)) trivial rfl rfl ?_
                refine HOps.take 3 rfl (by kernel_rfl) (by kernel_rfl) (by kernel_rfl) hS (fun w0 hw0 => Run.load rfl Tryz.isAgg22 ((hbgv.frm hw0 (by simp)).cell 0)) trivial rfl rfl ?_
                refine HOps.take 4 rfl (by kernel_rfl) (by kernel_rfl) (by kernel_rfl) hS (fun w0 hw0 => Run.fieldAddr rfl Tryz.underlying69 rfl Tryz.sizeOf3 (by decide)) trivial rfl rfl ?_
                refine HOps.take 5 rfl (by kernel_rfl) (by kernel_rfl) (by kernel_rfl) hS (fun w0 hw0 => Run.load rfl Tryz.isAgg3 ((hbpv.frm hw0 (by simp)).cell 2)) trivial rfl rfl ?_
                refine HOps.take 6 rfl (by kernel_rfl) (by kernel_rfl) (by kernel_rfl) hS (fun w0 hw0 => Run.mv rfl) trivial rfl rfl ?_
                refine HOps.take 7 rfl (by kernel_rfl) (by kernel_rfl) (by kernel_rfl) hS (fun w0 hw0 => Run.mv rfl) trivial rfl rfl ?_
                refine HOps.take (v := .int .i64 ((0 : Nat) : Int)) 10 rfl (by kernel_rfl) (by kernel_rfl) (by kernel_rfl) hS (fun w0 hw0 => Run.mv rfl) trivial rfl rfl ?_
                refine HOps.cl 8 rfl (by kernel_rfl) (Enters.fn (evs.cons rfl (evs.cons rfl (evs.cons rfl (evs.cons rfl evs.nil)))) Tryz.call106) ((spans_spec A c q (findQ p.m.ps bndT).1 p.body tu _ (hrdK K) (by omega) hc (by omega) hpbt htl)) trivial rfl rfl ?_
                rintro e w10 ⟨hf10, SA, sc, rfl, hSO, hSub⟩
                have hbg := hbg.frm hf10 (by simp)
                have hbp := hbp.frm hf10 (by simp)
                have hO := hO.frm hf10 (by simp)
                have hPs := hPs.frm0 hf10
                have K := K.trans hf10 (by simp)
                have hspo := spansQ_ok (s := q) (bd := (findQ p.m.ps bndT).1) hpbt htl
                have hspc := spansQ_count q (findQ p.m.ps bndT).1 p.body tu
                have hnm := hnm hc4 hc5
                generalize spansQ q (findQ p.m.ps bndT).1 p.body tu = sp at *
                have hS := hS.trans hf10 (by simp)
                refine ⟨_, rfl, hS, ?_⟩
                refine HOps.take 9 rfl (by kernel_rfl) (by kernel_rfl) (by kernel_rfl) hS (fun w0 hw0 => Run.lenS rfl Tryz.underlying134) trivial rfl rfl ?_
                refine HOps.done (by kernel_rfl) ?_
                refine thenQ_n ?_
                refine VC.sub [(0, _), (4, _), (13, _), (14, _), (120, _), (121, _), (122, _)] (.cons rfl (.cons rfl (.cons rfl (.cons rfl (.cons rfl (.cons rfl (.cons rfl .nil))))))) ?_
                refine VC.block ?_
                refine VC.loop (σ := Nat × List Pc × Option Addr × Nat) (fun s => [(0, .pointer (some ⟨g, 0, none⟩)), (4, .int .i64 ((nest : Nat) : Int)), (13, .int .i64 ((l.length : Nat) : Int)), (14, .pointer (some ⟨gp, 0, none⟩)), (120, .slice SA sp.length sc), (121, .int .i64 ((sp.length : Nat) : Int)), (122, .int .i64 ((s.1 : Nat) : Int))]) (fun s wr => s.1 ≤ sp.length ∧ s.2.1.map (·.1) = (sp.take s.1).foldl (fun acc x => fndQ q n' (setK acc l.length 1) x.1 x.2 (l.length : Int) (decide (p.m.sub = digT))) (l1.map (·.1)) ∧ l.length < s.2.1.length ∧ s.2.1.length ≤ 64 ∧ KidsOk (s.2.1.map (·.1)) ∧ Own wr 69 9 s.2.2.1 s.2.1.length s.2.2.2 (PP s.2.1) ∧ OwnPs wr s.2.1 ∧ Blk wr g 99 #[.slice A q.length c, .slice s.2.2.1 s.2.1.length s.2.2.2] ∧ Blk wr gp 69 (PP1 (p, MA, mc)).toArray ∧ Own wr 136 2 SA sp.length sc (PN sp) ∧ Frm (g :: ob LA) w wr ∧ (∀ x ∈ ob s.2.2.1, x ∈ ob LA ∨ w.heap.size ≤ x) ∧ gp ∉ ob s.2.2.1) (fun s => sp.length - s.1) (0, l1, LA6, lc6) (.cons rfl (.cons rfl (.cons rfl (.cons rfl (.cons rfl (.cons rfl (.cons rfl .nil))))))) ⟨by omega, rfl, hl1i, by show l1.length ≤ 64; omega, hk1, hO, hPs, hbg, hbp, hSO, K, hub6, hgp6⟩ ?_
                rintro ⟨j, l2, LA2, lc2⟩ wr ⟨hj, hm2, hl2a, hl2b, hk2, hO, hPs, hbg, hbp, hSO, K, hub2, hgp2⟩
                dsimp only at hj hm2 hl2a hl2b hk2 hO hPs hbg hbp hSO K hub2 hgp2 ⊢
                refine VC.seq ?_
                refine VC.region ?_
                refine Ops.r (Run.bin rfl rfl (Bin.lssN _ _)) rfl ?_
                refine Ops.nil ?_
                refine thenQ_n ?_
                refine VC.seq ?_
                refine VC.condD rfl (fun hc6 => ?_) (fun hc6 => ?_)
                · skip
                  obtain ⟨adS, rfl, hcS⟩ := PN_at hSO.rd hc6
                  have hfs := foldl_snoc' (fun acc x => fndQ q n' (setK acc l.length 1) x.1 x.2 (l.length : Int) (decide (p.m.sub = digT))) (l1.map (·.1)) sp j hc6
                  rw [← hm2] at hfs
                  have hxo := hspo sp[j] (List.getElem_mem hc6)
                  generalize hx : sp[j] = x at *
                  have lgp := hbp.lt
                  have lgg := hbg.lt
                  have lSO := hSO.lt
                  have lOO := hO.lt
                  refine VC.skip ?_
                  refine thenQ_n ?_
                  refine VC.sub [(0, _), (4, _), (13, _), (14, _), (120, _), (121, _), (122, _)] (.cons rfl (.cons rfl (.cons rfl (.cons rfl (.cons rfl (.cons rfl (.cons rfl .nil))))))) ?_
                  refine VC.seq ?_
                  refine VC.block ?_
                  refine VC.seq ?_
                  refine VC.region ?_
                  refine Ops.r (Run.indexS j rfl rfl Tryz.underlying134 Tryz.sizeOf136 hc6) rfl ?_
                  refine Ops.r (Run.loadA rfl Tryz.isAgg136 Tryz.sizeOf136 hcS (by first | rfl | (simp; done))) rfl ?_
                  refine Ops.m (Does.alloc zero136) rfl ?_
                  rintro _ V1 ⟨rfl, hF1⟩
                  have hb18 := hF1.blk
                  have hg18 : wr.heap.size < V1.heap.size := hb18.lt
                  have hO := hO.frm hF1.frm (by simp)
                  have hPs := hPs.frm0 hF1.frm
                  have hbg := hbg.frm hF1.frm (by simp)
                  have hbp := hbp.frm hF1.frm (by simp)
                  have hSO := hSO.frm hF1.frm (by simp)
                  have sKr := K.size
                  have K := K.trans hF1.frm (by simp)
                  generalize hg18e : wr.heap.size = g18 at *
                  have hb18o := hb18
                  refine Ops.st (Acts.storeA rfl rfl Tryz.sizeOf136 hb18 rfl (PN1_one x)) ?_
                  rintro V2 ⟨hb18n, hf2, _⟩
                  have hb18 : Blk V2 g18 136 (PN1 x).toArray := hb18n
                  have hO := hO.frm hf2 (fun y hy => by have := lOO y hy; simp; omega)
                  have hPs := hPs.blk hf2 hb18o (by decide)
                  have hbg := hbg.frm hf2 (by simp; omega)
                  have hbp := hbp.frm hf2 (by simp; omega)
                  have hSO := hSO.frm hf2 (fun y hy => by have := lSO y hy; simp; omega)
                  have K := K.trans hf2 (fun y hy => by simp at hy; exact .inr (by omega))
                  have hl2i : l.length < l2.length := hl2a
                  obtain ⟨ad2, rfl, hcell⟩ := PP_at hO.rd hl2i
                  have hset := PP_set l2 l.length 0 hl2i (by omega) (.int .i64 1) ({ l2[l.length].1 with kind := 1 }, l2[l.length].2) rfl
                  refine Ops.nil ?_
                  refine thenQ_n ?_
                  refine VC.sub [(0, _), (4, _), (13, _), (14, _), (18, _), (120, _), (121, _), (122, _)] (.cons rfl (.cons rfl (.cons rfl (.cons rfl (.cons rfl (.cons rfl (.cons rfl (.cons rfl .nil)))))))) ?_
                  refine VC.seq ?_
                  refine VC.region ?_
                  refine Ops.r (Run.mv rfl) rfl ?_
                  refine Ops.r (Run.nilck rfl) rfl ?_
                  refine Ops.r (Run.fieldAddr rfl Tryz.underlying99 rfl Tryz.sizeOf60 (by decide)) rfl ?_
                  refine Ops.r (Run.load rfl Tryz.isAgg60 (hbg.cell 1)) rfl ?_
                  refine Ops.r (Run.mv rfl) rfl ?_
                  refine Ops.r (Run.indexS l.length rfl rfl Tryz.underlying60 Tryz.sizeOf69 hl2i) rfl ?_
                  refine Ops.r (Run.fieldAddr rfl Tryz.underlying69 rfl Tryz.sizeOf3 (by decide)) rfl ?_
                  refine Ops.st (Acts.storeOwn (l.length * 9 + 0) (congrArg (fun a => some (Value.pointer (some a))) (add_add ad2 _ 0)) rfl Tryz.sizeOf3 hO rfl (by omega) rfl) ?_
                  rintro V3 ⟨hO3, hf3, _⟩
                  rw [hset] at hO3
                  have hng3 := hO.ne_blk hbg (by decide)
                  have hPs3 := OwnPs.set (x := ({ l2[l.length].1 with kind := 1 }, l2[l.length].2)) (hPs.own hf3 hO (by decide)) hl2i rfl rfl
                  have hbg3 := hbg.frm hf3 hng3
                  have hbp := hbp.frm hf3 hgp2
                  have hb18 := hb18.frm hf3 (fun hm => by have := lOO _ hm; omega)
                  have hSO := hSO.own' hf3 hO (by decide)
                  have hm3 := setK_map l2 l.length 1 hl2i
                  have K := K.trans hf3 (fun y hy => by rcases hub2 y hy with h | h; exact .inl (by simp [h]); exact .inr h)
                  have hl3l : (l2.set l.length ({ l2[l.length].1 with kind := 1 }, l2[l.length].2)).length = l2.length := List.length_set
                  obtain ⟨l3, hl3⟩ : ∃ l3 : List Pc, l2.set l.length ({ l2[l.length].1 with kind := 1 }, l2[l.length].2) = l3 := ⟨_, rfl⟩
                  rw [hl3] at hO3 hPs3 hm3 hl3l
                  have hk3 : KidsOk (l3.map (·.1)) := by rw [hm3]; exact setK_kids hk2
                  rw [← hl3l] at hO3 hbg3
                  refine Ops.nil ?_
                  refine thenQ_n ?_
                  refine VC.sub [(0, _), (4, _), (13, _), (14, _), (18, _), (120, _), (121, _), (122, _)] (.cons rfl (.cons rfl (.cons rfl (.cons rfl (.cons rfl (.cons rfl (.cons rfl (.cons rfl .nil)))))))) ?_
                  refine VC.region ?_
                  refine Ops.r (Run.mv rfl) rfl ?_
                  refine Ops.r (Run.indexA1 0 rfl rfl Tryz.underlying136 Tryz.sizeOf3 (by omega)) rfl ?_
                  refine Ops.r (Run.load rfl Tryz.isAgg3 (hb18.cell 0)) rfl ?_
                  refine Ops.r (Run.indexA1 1 rfl rfl Tryz.underlying136 Tryz.sizeOf3 (by omega)) rfl ?_
                  refine Ops.r (Run.load rfl Tryz.isAgg3 (hb18.cell 1)) rfl ?_
                  refine Ops.r (Run.mv rfl) rfl ?_
                  refine Ops.r (Run.mv rfl) rfl ?_
                  refine Ops.r (Run.bin rfl rfl (Bin.add_i64 nest 1 (by omega))) rfl ?_
                  refine Ops.r (Run.fieldAddr rfl Tryz.underlying69 rfl Tryz.sizeOf67 (by decide)) rfl ?_
                  refine Ops.r (Run.fieldAddr rfl Tryz.underlying67 rfl Tryz.sizeOf9 (by decide)) rfl ?_
                  refine Ops.r (Run.load rfl Tryz.isAgg9 (loadM hbp 1 _ rfl)) rfl ?_
                  refine Ops.r (Run.eqlT rfl rfl) rfl ?_
                  refine Ops.cl (Enters.fn (evs.cons rfl (evs.cons rfl (evs.cons rfl (evs.cons rfl (evs.cons rfl (evs.cons rfl evs.nil)))))) Tryz.call68) ((ih n' (by omega) (nest + 1) (by omega) g A c q l3 (some ad2) lc2 x.1 x.2 (l.length : Int) (decide (p.m.sub = digT)) _ (hrdK K) hq hc (by omega) (by omega) (by omega) (by omega) (by omega) hk3 hbg3 hO3 hPs3 (hdisK hub2))) rfl ?_
                  rintro e V4 ⟨rfl, l4, LA4, lc4, hm4, hbg4, hO4, hPs4, hf4, hub4⟩
                  refine ⟨_, rfl, ?_⟩
                  have hKs := K.size
                  have hng3' := hO3.ne_blk hbg3 (by decide)
                  have hfl := fnd_len q n' (l3.map (·.1)) x.1 x.2 (l.length : Int) (decide (p.m.sub = digT)) (by rw [List.length_map]; omega)
                  rw [← hm4, List.length_map, List.length_map] at hfl
                  have hk4 : KidsOk (l4.map (·.1)) := by rw [hm4]; exact fnd_kids q _ _ _ _ _ _ hk3
                  have hsz3 := hf3.size
                  have hbp := hbp.frm hf4 (by simp only [List.mem_cons, not_or]; exact ⟨by omega, hgp2⟩)
                  have hSO4 := hSO.frm hf4 (fun y hy => by
                    have h1 := hSO.ne_own hO3 (by decide) y hy
                    have h2 := hSO.ne_blk hbg3 (by decide)
                    simp only [List.mem_cons, not_or]
                    exact ⟨by rintro rfl; exact h2 hy, h1⟩)
                  have K4 := K.trans hf4 (fun y hy => by rcases List.mem_cons.1 hy with h | h; exact .inl (by simp [h]); rcases hub2 y h with h | h; exact .inl (by simp [h]); exact .inr h)
                  have hub4' : ∀ x ∈ ob LA4, x ∈ ob LA ∨ w.heap.size ≤ x := fun x hx => by
                    rcases hub4 x hx with h | h
                    · exact hub2 x h
                    · exact .inr (by omega)
                  have hgp4 : gp ∉ ob LA4 := fun hm => by
                    rcases hub4 gp hm with h | h
                    · exact hgp2 h
                    · have := hf2.size; omega
                  refine Ops.nil ?_
                  refine blockQ_n (thenQ_n ?_)
                  refine VC.sub [(0, _), (4, _), (13, _), (14, _), (120, _), (121, _), (122, _)] (.cons rfl (.cons rfl (.cons rfl (.cons rfl (.cons rfl (.cons rfl (.cons rfl .nil))))))) ?_
                  refine VC.region ?_
                  refine Ops.r (Run.bin rfl rfl (Bin.add_i64 _ 1 (by omega))) rfl ?_
                  refine Ops.r (Run.mv rfl) rfl ?_
                  refine Ops.nil ?_
                  refine thenQ_n ⟨(j + 1, l4, LA4, lc4), (.cons rfl (.cons rfl (.cons rfl (.cons rfl (.cons rfl (.cons rfl (.cons rfl .nil))))))), ?_, ?_⟩
                  · skip
                    refine ⟨hc6, ?_, by show l.length < l4.length; omega, by show l4.length ≤ 64; omega, hk4, hO4, hPs4, hbg4, hbp, hSO4, K4, hub4', hgp4⟩
                    rw [hfs, hm4, hm3]
                  · skip
                    first | omega | (dsimp only; omega)
                · skip
                  have hje : j = sp.length := by omega
                  subst hje
                  rw [List.take_length, ← hnm] at hm2
                  refine VC.exit ?_
                  refine thenQ_x (thenQ_x (blockQ_x ?_))
                  refine end0n ?_
                  exact ⟨rfl, l2, LA2, lc2, hm2, hbg, hO, hPs, K, hub2⟩

theorem find_all (n : Nat) : FindAt n := Nat.strongRecOn n (fun n ih => find_step n ih)

end Go.Proofs.YtenbjndldenkfaaGreatDoor
