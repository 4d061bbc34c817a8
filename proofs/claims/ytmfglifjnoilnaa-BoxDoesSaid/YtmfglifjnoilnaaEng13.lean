/-
  Several operations (calls, makings, reads) of which each may come first: each is shown once, for whatever world the others have left; behind them all facts hold.
-/
import Derived.Test.YtmfglifjnoilnaaEng12
namespace Go.Proofs.Ytmfglifjnoilnaa
open Go.RowKit
/-- An operation among others: its number, its slot, the slots that it needs, what holds behind it (of the others' values, of its value, and of the blocks from lo up to hi, which it has made). -/
structure PT where
  i : Nat
  d : Nat
  dep : List Nat
  pure : Bool
  Φ : (Nat → Value) → Value → Nat → Nat → World → Prop
/-- What an operation does. -/
def PStep (P : Program) (ops : Array Oper) (n : NF) (t : PT) (ρ : Nat → Value) (Γ : Env) (W : World) : Prop :=
  ∃ oi, ops[t.i]? = some oi ∧ oi.dst = some t.d ∧ Nat.blt t.d n.n = true ∧ oi.guard = none ∧
    ((∃ f args R, Enters P oi Γ W f args ∧ Calls P f args W R ∧ ∀ e W', R e W' → ∃ v, e = .returned v ∧ Frm [] W W' ∧ t.Φ ρ v W.heap.size W'.heap.size W') ∨
      (∃ R, Does P oi Γ W R ∧ ∀ v W', R v W' → Frm [] W W' ∧ t.Φ ρ v W.heap.size W'.heap.size W')) ∧
    (t.pure = true → ∃ v, (∀ W', Run P oi Γ W' v) ∧ t.Φ ρ v W.heap.size W.heap.size W)
/-- In whatever order, the others (number, slot, slots needed, is it pure?) are all that may come up, until none is left, and then so many are listed; what is pure is taken as soon as it may come up. -/
def parB (ops : Array Oper) (L : Nat) (target : Array Bool) : Nat → Array Bool → List (Nat × Nat × List Nat × Bool) → Bool
  | 0, listed, rest => rest.isEmpty && (listed.toList == target.toList)
  | k + 1, listed, rest => match rest.find? (fun t => t.2.2.2 && (Region.ready .any ops listed).contains t.1 && Region.free .any ops listed t.1 && (Region.noSelect ops && lastOk ops L t.1) && !(rest.any fun u => t.2.2.1.any fun x => Nat.beq x u.2.1)) with
    | some t => parB ops L target k (listed.setIfInBounds t.1 true) (rest.filter fun u => !Nat.beq u.1 t.1)
    | none => !rest.isEmpty && !(Region.ready .any ops listed).isEmpty && (Region.ready .any ops listed).all fun i =>
      rest.any (fun t => Nat.beq t.1 i && !(rest.any fun u => t.2.2.1.any fun x => Nat.beq x u.2.1)) && parB ops L target k (listed.setIfInBounds i true) (rest.filter fun t => !Nat.beq t.1 i)
/-- A task that is done. -/
structure PD where
  t : PT
  v : Value
  lo : Nat
  hi : Nat
abbrev PT.key (t : PT) : Nat × Nat × List Nat × Bool := (t.i, t.d, t.dep, t.pure)
/-- The values of those that are done. -/
def dget (done : List PD) (x : Nat) : Value × Nat × Nat := match done.find? (fun y => Nat.beq y.t.d x) with | some y => (y.v, y.lo, y.hi) | none => (undef, 0, 0)
abbrev dval (done : List PD) (x : Nat) : Value := (dget done x).1
abbrev denv (done : List PD) (Γ : Env) : Env := done.map (fun x => (x.t.d, x.v)) ++ Γ
theorem get_append (A Γ : Env) (x : Nat) : get? (A ++ Γ) x = match get? A x with | some v => some v | none => get? Γ x := by
  induction A with
  | nil => rfl
  | cons a r ih =>
    obtain ⟨k, v⟩ := a
    simp only [List.cons_append, get?]
    cases Nat.beq k x with
    | true => rfl
    | false => exact ih
theorem get_done {done : List PD} {x : PD} (hn : (done.map fun y => y.t.d).Nodup) (hx : x ∈ done) : get? (done.map fun y => (y.t.d, y.v)) x.t.d = some x.v := by
  induction done with
  | nil => cases hx
  | cons a r ih =>
    simp only [List.map_cons, List.nodup_cons] at hn
    simp only [List.map_cons, get?]
    rcases List.mem_cons.1 hx with rfl | h
    · simp
    · have hne : a.t.d ≠ x.t.d := fun e => hn.1 (by rw [e]; exact List.mem_map.2 ⟨x, h, rfl⟩)
      have : Nat.beq a.t.d x.t.d = false := by
        rw [Bool.eq_false_iff]; intro hb; exact hne (Nat.eq_of_beq_eq_true hb)
      rw [this]
      exact ih hn.2 h
theorem dget_done {done : List PD} {x : PD} (hn : (done.map fun y => y.t.d).Nodup) (hx : x ∈ done) : dget done x.t.d = (x.v, x.lo, x.hi) := by
  have hf : done.find? (fun y => Nat.beq y.t.d x.t.d) = some x := by
    induction done with
    | nil => cases hx
    | cons b r ih =>
      simp only [List.map_cons, List.nodup_cons] at hn
      rcases List.mem_cons.1 hx with rfl | h
      · simp [List.find?_cons]
      · have hne : b.t.d ≠ x.t.d := fun e => hn.1 (by rw [e]; exact List.mem_map.2 ⟨x, h, rfl⟩)
        have hbq : Nat.beq b.t.d x.t.d = false := by rw [Bool.eq_false_iff]; intro hb; exact hne (Nat.eq_of_beq_eq_true hb)
        rw [List.find?_cons, hbq]
        exact ih hn.2 h
  unfold dget
  rw [hf]
theorem dget_cons {done : List PD} {y : PD} {x : Nat} (h : y.t.d ≠ x) : dget (y :: done) x = dget done x := by
  unfold dget
  have : Nat.beq y.t.d x = false := by rw [Bool.eq_false_iff]; intro hb; exact h (Nat.eq_of_beq_eq_true hb)
  rw [List.find?_cons, this]
theorem get_undone {done : List PD} {x : Nat} (hx : ∀ y ∈ done, y.t.d ≠ x) : get? (done.map fun y => (y.t.d, y.v)) x = none := by
  induction done with
  | nil => rfl
  | cons a r ih =>
    simp only [List.map_cons, get?]
    have : Nat.beq a.t.d x = false := by
      rw [Bool.eq_false_iff]; intro hb; exact hx a (by simp) (Nat.eq_of_beq_eq_true hb)
    rw [this]
    exact ih fun y hy => hx y (by simp [hy])
theorem inj_nodup {f : PT → Nat} {u t : PT} : ∀ l : List PT, (l.map f).Nodup → u ∈ l → t ∈ l → f u = f t → u = t
  | [], _, h, _, _ => by cases h
  | b :: r, hn, h1, h2, e => by
    simp only [List.map_cons, List.nodup_cons] at hn
    rcases List.mem_cons.1 h1 with h3 | h3
    · rcases List.mem_cons.1 h2 with h4 | h4
      · rw [h3, h4]
      · exact absurd (List.mem_map.2 ⟨t, h4, by rw [← e, h3]⟩) hn.1
    · rcases List.mem_cons.1 h2 with h4 | h4
      · exact absurd (List.mem_map.2 ⟨u, h3, by rw [e, h4]⟩) hn.1
      · exact inj_nodup r hn.2 h3 h4 e
section
variable {P : Program} {n : NF} {Γ : Env} {w : World} {K : Env → World → Prop} {Pn : List PanicEntry → World → Prop} {ops : Array Oper} {S : World → Prop} {L : Nat} {target : Array Bool}
/-- What is behind all of them. -/
def PAll (ts : List PT) (w : World) (g : Nat → Value × Nat × Nat) (W : World) : Prop :=
  (∀ t ∈ ts, t.Φ (fun x => (g x).1) (g t.d).1 (g t.d).2.1 (g t.d).2.2 W ∧ w.heap.size ≤ (g t.d).2.1 ∧ (g t.d).2.1 ≤ (g t.d).2.2 ∧ (g t.d).2.2 ≤ W.heap.size) ∧
    ∀ t ∈ ts, ∀ u ∈ ts, t.d ≠ u.d → (g t.d).2.2 ≤ (g u.d).2.1 ∨ (g u.d).2.2 ≤ (g t.d).2.1
theorem par_aux (ts : List PT) (hnd : (ts.map PT.d).Nodup) (hndi : (ts.map PT.i).Nodup) (h0 : ∀ t ∈ ts, get? Γ t.d = none) (fuel : Nat)
    (hst : ∀ t ∈ ts, ∀ ρ v lo hi W W', Frm [] W W' → t.Φ ρ v lo hi W → t.Φ ρ v lo hi W')
    (hcg : ∀ t ∈ ts, ∀ ρ ρ' v lo hi W, (∀ x ∈ t.dep, ρ x = ρ' x) → t.Φ ρ v lo hi W → t.Φ ρ' v lo hi W)
    (hok : ∀ t ∈ ts, ∀ W (g : Nat → Value × Nat × Nat), Frm [] w W → (∀ u ∈ ts, u.d ∈ t.dep → u.Φ (fun x => (g x).1) (g u.d).1 (g u.d).2.1 (g u.d).2.2 W) → (∀ x ∈ t.dep, ∃ u ∈ ts, u.d = x) → PStep P ops n t (fun x => (g x).1) (t.dep.map (fun x => (x, (g x).1)) ++ Γ) W)
    (hdep : ∀ t ∈ ts, ∀ x ∈ t.dep, ∃ u ∈ ts, u.d = x)
    (hS : ∀ W, Frm [] w W → S W)
    (k : ∀ g W, Frm [] w W → PAll ts w g W → HOps P n ops S Pn L fuel target (ts.map (fun t => (t.d, (g t.d).1)) ++ Γ) W K) :
    ∀ (m : Nat) (done : List PD) (rest : List PT) (listed : Array Bool) (W : World) (a : Act), parB ops L target m listed (rest.map PT.key) = true → m = rest.length → (∀ t, t ∈ ts ↔ t ∈ done.map PD.t ∨ t ∈ rest) → (done.map fun x => x.t.d).Nodup → (rest.map PT.i).Nodup → (∀ t ∈ rest, ∀ x ∈ done, x.t.d ≠ t.d) →
      (∀ x ∈ done, ∀ z ∈ x.t.dep, ∃ y ∈ done, y.t.d = z) → (∀ x ∈ done, x.t.Φ (dval done) x.v x.lo x.hi W ∧ w.heap.size ≤ x.lo ∧ x.lo ≤ x.hi ∧ x.hi ≤ W.heap.size) → done.Pairwise (fun x y => y.hi ≤ x.lo) → Frm [] w W → Sat n (denv done Γ) a →
      wpAnyE P ops (liftN n K Pn) S L (fuel + m) listed a W
  | 0, done, rest, listed, W, a, hb, hm, hts, hdn, _, _, _, hph, hpw, hfr, hs => by
    have hr : rest = [] := List.eq_nil_of_length_eq_zero hm.symm
    subst hr
    simp only [parB, List.map_nil, List.isEmpty_nil, Bool.true_and, beq_iff_eq] at hb
    have hl : listed = target := Array.toList_inj.1 hb
    subst hl
    let g : Nat → Value × Nat × Nat := dget done
    have hg : ∀ x ∈ done, g x.t.d = (x.v, x.lo, x.hi) := fun x hx => dget_done hdn hx
    have hin : ∀ t ∈ ts, ∃ x ∈ done, x.t = t := by
      intro t ht
      rcases (hts t).1 ht with h | h
      · obtain ⟨x, hx, rfl⟩ := List.mem_map.1 h; exact ⟨x, hx, rfl⟩
      · simp at h
    refine k g W hfr ⟨?_, ?_⟩ a ?_
    · intro t ht
      obtain ⟨x, hx, rfl⟩ := hin t ht
      rw [hg x hx]
      exact hph x hx
    · intro t ht u hu hne
      obtain ⟨x, hx, rfl⟩ := hin t ht
      obtain ⟨y, hy, rfl⟩ := hin u hu
      rw [hg x hx, hg y hy]
      have key : ∀ l : List PD, l.Pairwise (fun x y => y.hi ≤ x.lo) → x ∈ l → y ∈ l → x.hi ≤ y.lo ∨ y.hi ≤ x.lo := by
        intro l
        induction l with
        | nil => intro _ h; cases h
        | cons b r ih =>
          intro hp hxb hyb
          obtain ⟨hp1, hp2⟩ := List.pairwise_cons.1 hp
          rcases List.mem_cons.1 hxb with rfl | hxr
          · rcases List.mem_cons.1 hyb with rfl | hyr
            · exact absurd rfl hne
            · exact .inr (hp1 y hyr)
          · rcases List.mem_cons.1 hyb with rfl | hyr
            · exact .inl (hp1 x hxr)
            · exact ih hp2 hxr hyr
      exact key done hpw hx hy
    · refine ⟨hs.size, hs.defers, fun x v hv => hs.at_ x v ?_⟩
      rw [get_append] at hv ⊢
      by_cases hx : ∃ y ∈ done, y.t.d = x
      · obtain ⟨y, hy, rfl⟩ := hx
        have hyt : y.t ∈ ts := (hts y.t).2 (.inl (List.mem_map.2 ⟨y, hy, rfl⟩))
        have h1 : get? (ts.map fun t => (t.d, (g t.d).1)) y.t.d = some (g y.t.d).1 := by
          clear hv hs k hok hst hcg hts hin h0 hdep hndi
          induction ts with
          | nil => cases hyt
          | cons b r ih =>
            simp only [List.map_cons, get?]
            cases hq : Nat.beq b.d y.t.d with
            | true => rw [Nat.eq_of_beq_eq_true hq]; rfl
            | false =>
              rcases List.mem_cons.1 hyt with h | h
              · rw [← h] at hq; simp at hq
              · simp only [List.map_cons, List.nodup_cons] at hnd
                exact ih hnd.2 h
        rw [h1] at hv
        rw [get_done hdn hy]
        rw [hg y hy] at hv
        exact hv
      · have hno : ∀ y ∈ done, y.t.d ≠ x := fun y hy e => hx ⟨y, hy, e⟩
        rw [get_undone hno]
        have h1 : get? (ts.map fun t => (t.d, (g t.d).1)) x = none := by
          have hno2 : ∀ t ∈ ts, t.d ≠ x := fun t ht e => by
            obtain ⟨y, hy, rfl⟩ := hin t ht
            exact hno y hy e
          clear hv hs k hok hst hcg hts hin hx hno h0 hdep hndi hnd
          induction ts with
          | nil => rfl
          | cons b r ih =>
            simp only [List.map_cons, get?]
            have hq : Nat.beq b.d x = false := by rw [Bool.eq_false_iff]; intro hb; exact hno2 b (by simp) (Nat.eq_of_beq_eq_true hb)
            rw [hq]
            exact ih fun t ht => hno2 t (by simp [ht])
        rw [h1] at hv
        exact hv
  | m + 1, done, rest, listed, W, a, hb, hm, hts, hdn, hri, hdr, hdc, hph, hpw, hfr, hs => by
    -- one of them, t, comes first
    have one : ∀ t ∈ rest, (!((rest.map PT.key).any fun u => t.dep.any fun x => Nat.beq x u.2.1)) = true → parB ops L target m (listed.setIfInBounds t.i true) ((rest.map PT.key).filter fun u => !Nat.beq u.1 t.i) = true →
        ∃ ρ Γ', PStep P ops n t ρ Γ' W ∧ Sat n Γ' a ∧ ∀ v W', Frm [] W W' → t.Φ ρ v W.heap.size W'.heap.size W' → S W' ∧ wpAnyE P ops (liftN n K Pn) S L (fuel + m) (listed.setIfInBounds t.i true) (a.put (some t.d) v) W' := by
      intro t ht hq2 hnext
      have htts : t ∈ ts := (hts t).2 (.inr ht)
      -- what it needs is done
      have hdd : ∀ x ∈ t.dep, ∃ y ∈ done, y.t.d = x := by
        intro x hx
        obtain ⟨u, hu, rfl⟩ := hdep t htts x hx
        rcases (hts u).1 hu with h | h
        · obtain ⟨y, hy, rfl⟩ := List.mem_map.1 h; exact ⟨y, hy, rfl⟩
        · exfalso
          simp only [Bool.not_eq_true', Bool.eq_false_iff, ne_eq, List.any_eq_true, not_exists, not_and] at hq2
          exact hq2 u.key (List.mem_map.2 ⟨u, h, rfl⟩) u.d hx (Nat.beq_refl u.d)
      let g : Nat → Value × Nat × Nat := dget done
      have hg : ∀ x ∈ done, g x.t.d = (x.v, x.lo, x.hi) := fun x hx => dget_done hdn hx
      have hstep := hok t htts W g hfr (fun u hu hud => by
        obtain ⟨y, hy, hyd⟩ := hdd u.d hud
        have huy : u = y.t := by
          have hyt : y.t ∈ ts := (hts y.t).2 (.inl (List.mem_map.2 ⟨y, hy, rfl⟩))
          exact inj_nodup ts hnd hu hyt hyd.symm
        rw [huy, hg y hy]
        exact (hph y hy).1) (hdep t htts)
      have hsub : Sat n (t.dep.map (fun x => (x, (g x).1)) ++ Γ) a := by
        refine ⟨hs.size, hs.defers, fun x v hv => hs.at_ x v ?_⟩
        rw [get_append] at hv ⊢
        by_cases hx : ∃ y ∈ done, y.t.d = x
        · obtain ⟨y, hy, rfl⟩ := hx
          rw [get_done hdn hy]
          have hyt : y.t ∈ ts := (hts y.t).2 (.inl (List.mem_map.2 ⟨y, hy, rfl⟩))
          have key : ∀ l : List Nat, get? (l.map fun x => (x, (g x).1)) y.t.d = some y.v ∨ get? (l.map fun x => (x, (g x).1)) y.t.d = none := by
            intro l
            induction l with
            | nil => exact .inr rfl
            | cons b r ih =>
              simp only [List.map_cons, get?]
              cases hq : Nat.beq b y.t.d with
              | true => rw [Nat.eq_of_beq_eq_true hq, hg y hy]; exact .inl rfl
              | false => exact ih
          rcases key t.dep with h1 | h1
          · rw [h1] at hv; exact hv
          · rw [h1] at hv
            exact absurd hv (by rw [h0 _ hyt]; simp)
        · have hno : ∀ y ∈ done, y.t.d ≠ x := fun y hy e => hx ⟨y, hy, e⟩
          rw [get_undone hno]
          have h1 : get? (t.dep.map fun x => (x, (g x).1)) x = none := by
            have key : ∀ l : List Nat, (∀ z ∈ l, z ≠ x) → get? (l.map fun x => (x, (g x).1)) x = none := by
              intro l hl
              induction l with
              | nil => rfl
              | cons b r ih =>
                simp only [List.map_cons, get?]
                have hq : Nat.beq b x = false := by rw [Bool.eq_false_iff]; intro hb; exact hl b (by simp) (Nat.eq_of_beq_eq_true hb)
                rw [hq]
                exact ih fun z hz => hl z (by simp [hz])
            exact key t.dep fun z hz e => by
              obtain ⟨y, hy, hyd⟩ := hdd z hz
              exact hno y hy (hyd.trans e)
          rw [h1] at hv
          exact hv
      have hmr : m = (rest.filter fun u => !Nat.beq u.i t.i).length := by
        have key : ∀ l : List PT, (l.map PT.i).Nodup → t ∈ l → l.length = (l.filter fun u => !Nat.beq u.i t.i).length + 1 := by
          intro l
          induction l with
          | nil => intro _ h; cases h
          | cons b r ih =>
            intro hn h1
            simp only [List.map_cons, List.nodup_cons] at hn
            rcases List.mem_cons.1 h1 with rfl | h1
            · have e : (r.filter fun u => !Nat.beq u.i t.i) = r := by
                refine List.filter_eq_self.2 fun u hu => ?_
                have : Nat.beq u.i t.i = false := by
                  rw [Bool.eq_false_iff]; intro hb
                  exact hn.1 (List.mem_map.2 ⟨u, hu, Nat.eq_of_beq_eq_true hb⟩)
                rw [this]; rfl
              rw [List.filter_cons]
              simp only [Nat.beq_refl, Bool.not_true, Bool.false_eq_true, if_false, e, List.length_cons]
            · have hb : Nat.beq b.i t.i = false := by
                rw [Bool.eq_false_iff]; intro hb
                exact hn.1 (List.mem_map.2 ⟨t, h1, (Nat.eq_of_beq_eq_true hb).symm⟩)
              rw [List.filter_cons, hb]
              simp only [Bool.not_false, if_true, List.length_cons, ih hn.2 h1]
        have := key rest hri ht
        omega
      have hfm : (rest.map PT.key).filter (fun u => !Nat.beq u.1 t.i) = (rest.filter fun u => !Nat.beq u.i t.i).map PT.key := by
        rw [List.filter_map]; rfl
      have again : ∀ v W', Frm [] W W' → t.Φ (dval done) v W.heap.size W'.heap.size W' → S W' ∧ wpAnyE P ops (liftN n K Pn) S L (fuel + m) (listed.setIfInBounds t.i true) (a.put (some t.d) v) W' := by
        intro v W' hf hΦ
        have hfr' := hfr.trans hf (by simp)
        refine ⟨hS W' hfr', ?_⟩
        have hnot : t.d ∉ done.map fun x => x.t.d := fun h => by
          obtain ⟨y, hy, hyd⟩ := List.mem_map.1 h
          exact hdr t ht y hy hyd
        obtain ⟨_, _, _, hdn', _, _, _⟩ := hstep
        refine par_aux ts hnd hndi h0 fuel hst hcg hok hdep hS k m (⟨t, v, W.heap.size, W'.heap.size⟩ :: done) (rest.filter fun u => !Nat.beq u.i t.i) _ W' _ (by rw [← hfm]; exact hnext) hmr ?_ ?_ ?_ ?_ ?_ ?_ ?_ hfr' (hs.put hdn' v)
        · intro u
          rw [hts u]
          simp only [List.map_cons, List.mem_cons, List.mem_filter]
          constructor
          · rintro (h | h)
            · exact .inl (.inr h)
            · by_cases hut : u.i = t.i
              · left; left
                exact inj_nodup rest hri h ht hut
              · right
                refine ⟨h, ?_⟩
                have : Nat.beq u.i t.i = false := by rw [Bool.eq_false_iff]; intro hb; exact hut (Nat.eq_of_beq_eq_true hb)
                rw [this]; rfl
          · rintro ((rfl | h) | h)
            · exact .inr ht
            · exact .inl h
            · exact .inr h.1
        · simp only [List.map_cons, List.nodup_cons]
          exact ⟨hnot, hdn⟩
        · exact hri.sublist (List.Sublist.map _ List.filter_sublist)
        · intro u hu x hx
          obtain ⟨hu1, hu2⟩ := List.mem_filter.1 hu
          rcases List.mem_cons.1 hx with rfl | hx
          · intro e
            have hut : u ∈ ts := (hts u).2 (.inr hu1)
            have := inj_nodup ts hnd hut htts e.symm
            subst this
            simp at hu2
          · exact hdr u hu1 x hx
        · intro x hx z hz
          rcases List.mem_cons.1 hx with rfl | hx
          · obtain ⟨y, hy, hyz⟩ := hdd z hz
            exact ⟨y, List.mem_cons_of_mem _ hy, hyz⟩
          · obtain ⟨y, hy, hyz⟩ := hdc x hx z hz
            exact ⟨y, List.mem_cons_of_mem _ hy, hyz⟩
        · have hsame : ∀ z, (∃ y ∈ done, y.t.d = z) → dval done z = dval (⟨t, v, W.heap.size, W'.heap.size⟩ :: done) z := fun z ⟨y, hy, hyz⟩ => by
            unfold dval
            rw [dget_cons]
            intro e
            exact hnot (List.mem_map.2 ⟨y, hy, hyz.trans e.symm⟩)
          intro x hx
          rcases List.mem_cons.1 hx with rfl | hx
          · exact ⟨hcg t htts _ _ _ _ _ _ (fun z hz => hsame z (hdd z hz)) hΦ, hfr.size, hf.size, Nat.le_refl _⟩
          · obtain ⟨h1, h2, h3, h4⟩ := hph x hx
            have hxt : x.t ∈ ts := (hts x.t).2 (.inl (List.mem_map.2 ⟨x, hx, rfl⟩))
            exact ⟨hcg x.t hxt _ _ _ _ _ _ (fun z hz => hsame z (hdc x hx z hz)) (hst x.t hxt _ _ _ _ _ _ hf h1), h2, h3, Nat.le_trans h4 hf.size⟩
        · refine List.pairwise_cons.2 ⟨fun y hy => ?_, hpw⟩
          exact (hph y hy).2.2.2
      exact ⟨dval done, _, hstep, hsub, again⟩
    have all : ∀ (oi : Oper) (t : PT), True := fun _ _ => trivial
    clear all
    unfold parB at hb
    split at hb
    · rename_i t0 hfind
      have hmem := List.mem_of_find?_eq_some hfind
      have hp := List.find?_some hfind
      simp only [Bool.and_eq_true] at hp
      obtain ⟨⟨⟨⟨hpu, hrd⟩, hfree⟩, hsel⟩, hdp⟩ := hp
      obtain ⟨t, ht, rfl⟩ := List.mem_map.1 hmem
      obtain ⟨ρ, Γ', ⟨oi, hoi, hdst, hdn', hgd, _, hpure⟩, hsub, again⟩ := one t ht hdp hb
      obtain ⟨v, hrun, hΦ⟩ := hpure hpu
      obtain ⟨_, hk⟩ := again v W (Frm.refl _ _) hΦ
      refine wpAnyE_take (f := fuel + m) hoi (by simpa using hsel) hfree hrd liftN_put (.inl ⟨by unfold Region.wanted; rw [hgd], fun w' _ => hrun w' _ hsub.fits⟩) (hS W hfr) ?_
      rw [hdst]
      exact hk
    · simp only [Bool.and_eq_true, Bool.not_eq_true', List.all_eq_true, List.any_eq_true] at hb
      obtain ⟨⟨_, hne⟩, hall⟩ := hb
      refine wpAnyE_all (rs := Region.ready .any ops listed) rfl (by intro e; rw [e] at hne; simp at hne) ?_
      intro i hi
      obtain ⟨⟨t0, ht0, hq⟩, hnext⟩ := hall i hi
      obtain ⟨t, ht, rfl⟩ := List.mem_map.1 ht0
      obtain ⟨hq1, hq2⟩ := hq
      have hti : t.i = i := Nat.eq_of_beq_eq_true hq1
      subst hti
      obtain ⟨ρ, Γ', ⟨oi, hoi, hdst, hdn', hgd, hstep, _⟩, hsub, again⟩ := one t ht (by rw [Bool.not_eq_true']; exact hq2) hnext
      unfold wpOp
      simp only [hoi]
      rw [if_pos (by unfold Region.wanted; rw [hgd])]
      left
      unfold Oper.wp
      rcases hstep with ⟨f, args, R, he, hc, hR⟩ | ⟨R, hD, hR⟩
      · rw [he _ hsub.fits, Oper.upon_enter, hdst]
        refine hc.mono ?_
        intro e W' hR'
        obtain ⟨v, rfl, hf, hΦ⟩ := hR e W' hR'
        exact again v W' hf hΦ
      · obtain ⟨v, W', hrun, hR'⟩ := hD _ hsub.fits
        rw [hrun, Oper.upon_value, hdst]
        obtain ⟨hf, hΦ⟩ := hR v W' hR'
        exact again v W' hf hΦ
/-- The operations ts, in whatever order. -/
theorem HOps.par (ts : List PT) (m : Nat) {fuel : Nat} {listed : Array Bool} (hm : ts.length = m) (hb : parB ops L target m listed (ts.map PT.key) = true) (hnd : (ts.map PT.d).Nodup) (hndi : (ts.map PT.i).Nodup) (h0 : ∀ t ∈ ts, get? Γ t.d = none)
    (hdep : ∀ t ∈ ts, ∀ x ∈ t.dep, ∃ u ∈ ts, u.d = x)
    (hS : ∀ W, Frm [] w W → S W)
    (hst : ∀ t ∈ ts, ∀ ρ v lo hi W W', Frm [] W W' → t.Φ ρ v lo hi W → t.Φ ρ v lo hi W')
    (hcg : ∀ t ∈ ts, ∀ ρ ρ' v lo hi W, (∀ x ∈ t.dep, ρ x = ρ' x) → t.Φ ρ v lo hi W → t.Φ ρ' v lo hi W)
    (hok : ∀ t ∈ ts, ∀ W (g : Nat → Value × Nat × Nat), Frm [] w W → (∀ u ∈ ts, u.d ∈ t.dep → u.Φ (fun x => (g x).1) (g u.d).1 (g u.d).2.1 (g u.d).2.2 W) → (∀ x ∈ t.dep, ∃ u ∈ ts, u.d = x) → PStep P ops n t (fun x => (g x).1) (t.dep.map (fun x => (x, (g x).1)) ++ Γ) W)
    (k : ∀ g W, Frm [] w W → PAll ts w g W → HOps P n ops S Pn L fuel target (ts.map (fun t => (t.d, (g t.d).1)) ++ Γ) W K) : HOps P n ops S Pn L (fuel + m) listed Γ w K := by
  intro a hs
  exact par_aux ts hnd hndi h0 fuel hst hcg hok hdep hS k m [] ts listed w a hb hm.symm (by simp) (by simp) hndi (by simp) (by simp) (by simp) List.Pairwise.nil (Frm.refl _ _) hs
theorem PStep.cl {t : PT} {ρ : Nat → Value} {W : World} {f : FuncId} {args : Array Value} {R : Ending → World → Prop} {oi : Oper} (hp : t.pure = false) (hi : ops[t.i]? = some oi) (hd : oi.dst = some t.d) (hn : Nat.blt t.d n.n = true) (hg : oi.guard = none) (he : Enters P oi Γ W f args) (hc : Calls P f args W R)
    (h : ∀ e W', R e W' → ∃ v, e = .returned v ∧ Frm [] W W' ∧ t.Φ ρ v W.heap.size W'.heap.size W') : PStep P ops n t ρ Γ W := ⟨oi, hi, hd, hn, hg, .inl ⟨f, args, R, he, hc, h⟩, fun h' => by rw [hp] at h'; cases h'⟩
theorem PStep.m {t : PT} {ρ : Nat → Value} {W : World} {R : Value → World → Prop} {oi : Oper} (hp : t.pure = false) (hi : ops[t.i]? = some oi) (hd : oi.dst = some t.d) (hn : Nat.blt t.d n.n = true) (hg : oi.guard = none) (hD : Does P oi Γ W R)
    (h : ∀ v W', R v W' → Frm [] W W' ∧ t.Φ ρ v W.heap.size W'.heap.size W') : PStep P ops n t ρ Γ W := ⟨oi, hi, hd, hn, hg, .inr ⟨R, hD, h⟩, fun h' => by rw [hp] at h'; cases h'⟩
/-- A block that is made. -/
abbrev PT.made (i d : Nat) (T : TypeId) (cs : Array Value) : PT := ⟨i, d, [], false, fun _ v lo hi W => (v = .pointer (some ⟨lo, 0, none⟩) ∧ lo < hi) ∧ Blk W lo T cs⟩
theorem PT.made_st {i d : Nat} {T : TypeId} {cs : Array Value} : ∀ ρ v lo hi W W', Frm [] W W' → (PT.made i d T cs).Φ ρ v lo hi W → (PT.made i d T cs).Φ ρ v lo hi W' :=
  fun _ _ _ _ _ _ hf h => ⟨h.1, h.2.frm hf (by simp)⟩
theorem PT.made_ok {i d : Nat} {T e : TypeId} {z : Value} {ρ : Nat → Value} {W : World} {pos : String} {after : Array Edge} (hi : ops[i]? = some ⟨some d, .alloc T, e, pos, after, none⟩) (hn : Nat.blt d n.n = true) (hz : ∀ w, (zeroValue T).run P w = .ok z w) : PStep P ops n (PT.made i d T z.cells) ρ Γ W :=
  PStep.m rfl hi rfl hn rfl (Does.alloc hz) fun _ _ h => ⟨h.2.frm, ⟨h.1, by rw [h.2.size]; omega⟩, h.2.blk⟩
/-- A reckoning. -/
theorem PStep.r {t : PT} {ρ : Nat → Value} {W : World} {v : Value} {oi : Oper} (hi : ops[t.i]? = some oi) (hd : oi.dst = some t.d) (hn : Nat.blt t.d n.n = true) (hg : oi.guard = none) (hD : ∀ W', Run P oi Γ W' v)
    (h : t.Φ ρ v W.heap.size W.heap.size W) : PStep P ops n t ρ Γ W :=
  ⟨oi, hi, hd, hn, hg, .inr ⟨fun r w' => r = v ∧ w' = W, fun ρ hρ => ⟨v, W, hD W ρ hρ, rfl, rfl⟩, by rintro _ _ ⟨rfl, rfl⟩; exact ⟨Frm.refl _ _, h⟩⟩, fun _ => ⟨v, hD, h⟩⟩
/-- A value handed on. -/
abbrev PT.mv (i d src : Nat) (more : List Nat) : PT := ⟨i, d, src :: more, true, fun ρ v _ _ _ => v = ρ src⟩
/-- A part of a tuple. -/
abbrev PT.part (i d src k : Nat) (more : List Nat) : PT := ⟨i, d, src :: more, true, fun ρ v _ _ _ => ∃ xs, ρ src = .tuple xs ∧ xs[k]? = some v⟩
end
end Go.Proofs.Ytmfglifjnoilnaa
