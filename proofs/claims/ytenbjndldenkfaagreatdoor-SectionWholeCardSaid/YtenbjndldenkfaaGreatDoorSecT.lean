/-
  What a section of a letter has, but for picked fields.
-/
import Derived.Test.YtenbjndldenkfaaGreatDoorSecU
namespace Go.Proofs.YtenbjndldenkfaaGreatDoor
open Go.RowKit Go.Sort

section
variable {P : Program} {Γ : Env} {w : World} {dst : Option Tmp} {pos : String} {after : Array Edge} {g : Option (Nat × Bool)} {T : TypeId}
theorem Run.eqlNilS {t yT e : TypeId} {x y : Operand} {A : Option Addr} {n c : Nat} (hx : ev? Γ x = some (.slice A n c)) (hy : ev? Γ y = some (.slice none 0 0)) (ht : P.underlying t = some (.slice e)) :
    Run P ⟨dst, .binOp .eql t x y yT, T, pos, after, g⟩ Γ w (.bool A.isNone) := fun ρ hρ => by
  have h0 : ∀ d : Nat, (Op.equalIn (d + 1) t (.slice A n c) (.slice none 0 0)).run P w = .ok A.isNone w := fun d => by
    cases A <;> simp [Op.equalIn, run_underlying ht]
  have h1 : (Op.equal t (.slice A n c) (.slice none 0 0)).run P w = .ok A.isNone w := h0 9999
  simp [execOp, hρ _ _ hx, hρ _ _ hy, eqGuard, binOp, h1]
end

set_option maxRecDepth 100000 in
theorem clone_spec (A : Option Addr) (c n : Nat) (q : Tx) (w : World) (hn : n = q.length) (hrd : Rd w 1 A n (U8 q)) (hq : q.length ≤ 1000000) :
    Calls Tryz.prog 43 #[.slice A n c] w fun e w' => Frm [] w w' ∧ ∃ (A2 : Option Addr) (c2 : Nat), e = .returned (.slice A2 q.length c2) ∧ Own w' 5 1 A2 q.length c2 (U8 q) ∧ ∀ x ∈ ob A2, w.heap.size ≤ x := by
  subst hn
  have K := Frm.refl [] w
  refine VC.calls (nt := 8) (res := #[.tmp 2]) Tryz.func43 rfl Tryz.ntmps43 Tryz.results43 rfl ?_
  refine VC.seq ?_
  refine VC.region ?_
  refine Ops.r (Run.asg rfl) rfl ?_
  refine Ops.nil ?_
  refine thenQ_n ?_
  refine VC.sub [(0, _)] (.cons rfl .nil) ?_
  refine VC.seq ?_
  refine VC.seq ?_
  refine VC.region ?_
  refine Ops.r (Run.mv rfl) rfl ?_
  refine Ops.r (Run.eqlNilS rfl rfl Tryz.underlying22) rfl ?_
  refine Ops.nil ?_
  refine thenQ_n ?_
  refine VC.sub [(0, _), (4, _)] (.cons rfl (.cons rfl .nil)) ?_
  refine VC.condB rfl (fun hc1 => ?_) (fun hc1 => ?_)
  · skip
    have hA : A = none := Option.isNone_iff_eq_none.1 hc1
    have hq0 : q = [] := by
      cases q with
      | nil => rfl
      | cons x r =>
        obtain ⟨ad, h, _⟩ := hrd.2 (by simp)
        rw [hA] at h
        cases h
    subst hq0
    refine VC.seq ?_
    refine VC.region ?_
    refine Ops.r (Run.asg rfl) rfl ?_
    refine Ops.nil ?_
    refine thenQ_n ?_
    refine VC.sub [(2, _)] (.cons rfl .nil) ?_
    refine VC.ret ?_
    refine thenQ_r (end1 rfl ?_)
    exact ⟨K, none, 0, rfl, Own.nil _ _ _, by simp [ob]⟩
  · skip
    refine VC.skip ?_
    refine thenQ_n ?_
    refine VC.sub [(0, _)] (.cons rfl .nil) ?_
    refine VC.seq ?_
    refine VC.region ?_
    refine Ops.m (Does.buildS0 Tryz.underlying22 Tryz.sizeOf5) rfl ?_
    rintro _ w1 ⟨rfl, hF1⟩
    have hb := hF1.blk
    have hO := Own.of_blk (n := 0) (size := 1) hb rfl (by simp [maxLen])
    have hrd := hrd.frm hF1.frm (by simp)
    have K := K.trans hF1.frm (by simp)
    refine Ops.r (Run.mv rfl) rfl ?_
    refine Ops.m (Does.app rfl rfl Tryz.underlying22 (info5) rfl (by decide) hO hrd (U8_one _) (by omega) (by omega)) rfl ?_
    rintro _ w2 ⟨A2, c2, rfl, hO2, hf2, hob2⟩
    have K2 := Frm.own K hf2 (fun y hy => by simp [ob] at hy; omega)
    have sK := K.size
    rw [Nat.zero_add] at hO2 ⊢
    refine Ops.r (Run.asg rfl) rfl ?_
    refine Ops.nil ?_
    refine thenQ_n ?_
    refine VC.sub [(2, _)] (.cons rfl .nil) ?_
    refine VC.ret ?_
    refine end1 rfl ?_
    refine ⟨K2, A2, c2, rfl, hO2, fun x hx => ?_⟩
    rcases hob2 with h | h
    · rw [h] at hx; simp only [ob, List.mem_singleton] at hx; omega
    · rw [h] at hx; simp only [List.mem_singleton] at hx; omega

/-- What the letter within has that a section's header and text are of. -/
def pickK (q : Tx) (v : Wnt) (i : Nat) : Option Tx := if wholeQ (partsQ q) i v.path < 0 then none else match (partsQ q)[(wholeQ (partsQ q) i v.path).toNat]? with
  | none => none
  | some p => some (if v.what = txtT then sliceQ q p.body p.tu else sliceQ q p.frm p.body)
/-- What a section has, but for picked fields. -/
def getQ (q : Tx) (v : Wnt) : Option Tx := if ¬ MayW v ∨ findPQ (partsQ q) v.path < 0 then none else match (partsQ q)[(findPQ (partsQ q) v.path).toNat]? with
  | none => none
  | some p => if v.what = [] ∧ v.path.length = 0 then some q else if v.what = [] then some (sliceQ q p.body p.tu) else if v.what = mimT then some (sliceQ q p.frm p.body) else pickK q v (findPQ (partsQ q) v.path).toNat
theorem getQ_at {q : Tx} {v : Wnt} {i : Nat} {p : Prt} (h1 : ¬ (¬ MayW v ∨ findPQ (partsQ q) v.path < 0)) (h2 : findPQ (partsQ q) v.path = (i : Int)) (h3 : (partsQ q)[i]? = some p) :
    getQ q v = if v.what = [] ∧ v.path.length = 0 then some q else if v.what = [] then some (sliceQ q p.body p.tu) else if v.what = mimT then some (sliceQ q p.frm p.body) else pickK q v i := by
  unfold getQ
  rw [if_neg h1, h2, Int.toNat_natCast, h3]
theorem pickK_at {q : Tx} {v : Wnt} {i k : Nat} {p : Prt} (h1 : wholeQ (partsQ q) i v.path = (k : Int)) (h2 : (partsQ q)[k]? = some p) : pickK q v i = some (if v.what = txtT then sliceQ q p.body p.tu else sliceQ q p.frm p.body) := by
  unfold pickK
  rw [if_neg (by omega), h1, Int.toNat_natCast, h2]
theorem hdr_only {v : Wnt} (hm : MayW v) (hn : ¬ NamedW v.what) (h3 : ¬ v.what = []) (h4 : ¬ v.what = mimT) (h5 : ¬ v.what = txtT) : v.what = hdrT := by
  rcases hm.2.2 with h | h | h | h | h | h
  · exact absurd h h3
  · exact h
  · exact absurd h h5
  · exact absurd (.inl h) hn
  · exact absurd (.inr h) hn
  · exact absurd h.1 h4
theorem parts_pos (q : Tx) : 0 < (partsQ q).length := by
  obtain ⟨p, h, _⟩ := (parts_ok q).2.2
  exact (List.getElem?_eq_some_iff.1 h).1
theorem wholeQ_res (l : List Prt) (i : Nat) (path : List Int) (hl : 0 < l.length) : wholeQ l i path = -1 ∨ ∃ j : Nat, j < l.length ∧ wholeQ l i path = (j : Int) := by
  unfold wholeQ
  split
  · exact .inr ⟨0, hl, rfl⟩
  · split
    · exact .inl rfl
    · split
      · exact .inl rfl
      · rcases kidQ_res l i 1 with h | ⟨j, p, h1, h2, _⟩
        · exact .inl h
        · exact .inr ⟨j, (List.getElem?_eq_some_iff.1 h1).1, h2⟩

theorem not_dec (p : Prop) [Decidable p] : (!decide p) = decide (¬ p) := by by_cases h : p <;> simp [h]

set_option maxRecDepth 100000 in
theorem get_spec (A : Option Addr) (c : Nat) (q : Tx) (v : Wnt) (B N : Option Addr) (d nc : Nat) (w : World) (hrd : Rd w 1 A q.length (U8 q)) (hq : q.length ≤ 400000) (hc : q.length ≤ c) (hp : Rd w 1 B v.path.length (PI v.path)) (hpl : v.path.length ≤ 1000000) (hpb : ∀ n ∈ v.path, -9223372036854775808 ≤ n ∧ n ≤ 9223372036854775807) (hn : Rd w 1 N v.names.length (SB v.names)) (hnl : v.names.length ≤ 1000000) (hns : ∀ s ∈ v.names, s.length ≤ 1000000) (hnn : ¬ NamedW v.what) :
    Calls Tryz.prog 19 #[.slice A q.length c, .agg (WtC v B d N nc)] w fun e w' => Frm [] w w' ∧ ∃ (A2 : Option Addr) (c2 : Nat), e = .returned (.tuple #[.slice A2 ((getQ q v).getD []).length c2, .bool (getQ q v).isSome]) ∧ Own w' 5 1 A2 ((getQ q v).getD []).length c2 (U8 ((getQ q v).getD [])) ∧ ∀ x ∈ ob A2, w.heap.size ≤ x := by
  refine VC.calls (nt := 104) (res := #[.tmp 4, .tmp 5]) Tryz.func19 rfl Tryz.ntmps19 Tryz.results19 rfl ?_
  refine VC.seq ?_
  refine VC.region ?_
  refine Ops.m (Does.box rfl) rfl ?_
  rintro _ w1 ⟨rfl, hF1⟩
  have hb3 : Blk w1 w.heap.size 38 (WtC v B d N nc) := hF1.blk
  have K := hF1.frm
  have hg3 := hb3.lt
  generalize hg3e : w.heap.size = g3 at hb3 hg3 ⊢
  refine Ops.r (Run.asg rfl) rfl ?_
  refine Ops.r (Run.asg rfl) rfl ?_
  refine Ops.nil ?_
  refine thenQ_n ?_
  refine VC.sub [(0, _), (3, _)] (.cons rfl (.cons rfl .nil)) ?_
  refine VC.seq ?_
  refine VC.region ?_
  refine Ops.r (Run.mv rfl) rfl ?_
  refine Ops.cl (Enters.fn (evs.cons rfl evs.nil) Tryz.call38) ((all_spec A c q _ (hrd.frm K (by simp)) (by omega) hc)) rfl ?_
  rintro e w2 ⟨hf2, l, LA, lc, hm, rfl, hP, _, hubP⟩
  refine ⟨_, rfl, ?_⟩
  have hb3 := hb3.frm hf2 (by simp)
  have K := K.trans hf2 (by simp)
  have hml : l.length = (partsQ q).length := by rw [← hm, List.length_map]
  obtain ⟨hok, hl64, _⟩ := parts_ok q
  have hl0 := parts_pos q
  refine Ops.r (Run.asg rfl) rfl ?_
  refine Ops.nil ?_
  refine thenQ_n ?_
  refine VC.sub [(0, _), (3, _), (6, _)] (.cons rfl (.cons rfl (.cons rfl .nil))) ?_
  refine VC.seq ?_
  refine VC.region ?_
  refine Ops.r (Run.mv rfl) rfl ?_
  refine Ops.r (Run.fieldAddr rfl Tryz.underlying38 rfl Tryz.sizeOf33 (by decide)) rfl ?_
  refine Ops.r (Run.load rfl Tryz.isAgg33 (hb3.cell 0)) rfl ?_
  refine Ops.cl (Enters.fn (evs.cons rfl (evs.cons rfl evs.nil)) Tryz.call41) ((find_path_spec LA B lc d l v.path _ hP.rd (by omega) (by omega) (hp.frm K (by simp)) (by omega) hpb)) rfl ?_
  rintro e w3 ⟨rfl, hf3⟩
  rw [hm]
  refine ⟨_, rfl, ?_⟩
  have hb3 := hb3.frm hf3 (by simp)
  have hP := hP.frm hf3 (by simp)
  have K := K.trans hf3 (by simp)
  refine Ops.r (Run.asg rfl) rfl ?_
  refine Ops.nil ?_
  refine thenQ_n ?_
  refine VC.sub [(0, _), (3, _), (6, _), (7, _)] (.cons rfl (.cons rfl (.cons rfl (.cons rfl .nil)))) ?_
  refine VC.seq ?_
  refine VC.seq ?_
  refine VC.splitR [(0, .slice A q.length c), (3, .pointer (some ⟨g3, 0, none⟩)), (6, .slice LA l.length lc), (7, .int .i64 (findPQ (partsQ q) v.path))] (Frm [] w3) 22 (.bool (decide (¬ MayW v ∨ findPQ (partsQ q) v.path < 0))) ?_ ?_
  · refine VC.region ?_
    refine Ops.r (Run.loadA rfl Tryz.isAgg38 Tryz.sizeOf38 (fun j v hj => hb3.cells j v hj) (by first | rfl | (simp; done))) rfl ?_
    refine Ops.cl (Enters.fn (evs.cons rfl evs.nil) Tryz.call42) ((may_spec v B N d nc _ (hp.frm K (by simp)) hpl (hn.frm K (by simp)) hnl hns)) rfl ?_
    rintro e w4 ⟨rfl, hf4⟩
    refine ⟨_, rfl, ?_⟩
    refine Ops.r (Run.not rfl) rfl ?_
    rw [not_dec]
    by_cases hs18 : ¬ MayW v
    · skip
      refine Ops.r (Run.mv rfl) rfl ?_
      refine Ops.sk rfl (by first | rfl | assumption | exact decide_eq_true (by assumption) | exact decide_eq_false (by assumption) | decide | (simp; done) | (simp; omega) | (simp [*]; done)) rfl ?_
      refine Ops.sk rfl (by first | rfl | assumption | exact decide_eq_true (by assumption) | exact decide_eq_false (by assumption) | decide | (simp; done) | (simp; omega) | (simp [*]; done)) rfl ?_
      refine Ops.r (Run.pickT rfl rfl (by first | rfl | assumption | exact decide_eq_true (by assumption) | exact decide_eq_false (by assumption) | decide | (simp; done) | (simp; omega) | (simp [*]; done))) rfl ?_
      refine Ops.nil ?_
      refine thenQ_n ⟨(.cons (congrArg (fun b => some (Value.bool b)) (by first | exact (decide_eq_true (show ¬ MayW v ∨ findPQ (partsQ q) v.path < 0 from .inl hs18)).symm | exact (decide_eq_true hs18).trans (decide_eq_true (show ¬ MayW v ∨ findPQ (partsQ q) v.path < 0 from .inl hs18)).symm | exact (decide_eq_true hs21).trans (decide_eq_true (show ¬ MayW v ∨ findPQ (partsQ q) v.path < 0 from .inr hs21)).symm | exact (decide_eq_false hs21).trans (decide_eq_false (show ¬ (¬ MayW v ∨ findPQ (partsQ q) v.path < 0) from fun h => h.elim hs18 hs21)).symm)) (.cons rfl (.cons rfl (.cons rfl (.cons rfl .nil))))), (hf4)⟩
    · skip
      refine Ops.r (Run.mv rfl) rfl ?_
      refine Ops.rg rfl (by first | rfl | assumption | exact decide_eq_true (by assumption) | exact decide_eq_false (by assumption) | decide | (simp; done) | (simp; omega) | (simp [*]; done)) (Run.mv rfl) rfl ?_
      refine Ops.rg rfl (by first | rfl | assumption | exact decide_eq_true (by assumption) | exact decide_eq_false (by assumption) | decide | (simp; done) | (simp; omega) | (simp [*]; done)) (Run.bin rfl rfl (Bin.lss _ 0)) rfl ?_
      by_cases hs21 : findPQ (partsQ q) v.path < 0
      · skip
        refine Ops.r (Run.pickF rfl rfl (by first | rfl | assumption | exact decide_eq_true (by assumption) | exact decide_eq_false (by assumption) | decide | (simp; done) | (simp; omega) | (simp [*]; done))) rfl ?_
        refine Ops.nil ?_
        refine thenQ_n ⟨(.cons (congrArg (fun b => some (Value.bool b)) (by first | exact (decide_eq_true (show ¬ MayW v ∨ findPQ (partsQ q) v.path < 0 from .inl hs18)).symm | exact (decide_eq_true hs18).trans (decide_eq_true (show ¬ MayW v ∨ findPQ (partsQ q) v.path < 0 from .inl hs18)).symm | exact (decide_eq_true hs21).trans (decide_eq_true (show ¬ MayW v ∨ findPQ (partsQ q) v.path < 0 from .inr hs21)).symm | exact (decide_eq_false hs21).trans (decide_eq_false (show ¬ (¬ MayW v ∨ findPQ (partsQ q) v.path < 0) from fun h => h.elim hs18 hs21)).symm)) (.cons rfl (.cons rfl (.cons rfl (.cons rfl .nil))))), (hf4)⟩
      · skip
        refine Ops.r (Run.pickF rfl rfl (by first | rfl | assumption | exact decide_eq_true (by assumption) | exact decide_eq_false (by assumption) | decide | (simp; done) | (simp; omega) | (simp [*]; done))) rfl ?_
        refine Ops.nil ?_
        refine thenQ_n ⟨(.cons (congrArg (fun b => some (Value.bool b)) (by first | exact (decide_eq_true (show ¬ MayW v ∨ findPQ (partsQ q) v.path < 0 from .inl hs18)).symm | exact (decide_eq_true hs18).trans (decide_eq_true (show ¬ MayW v ∨ findPQ (partsQ q) v.path < 0 from .inl hs18)).symm | exact (decide_eq_true hs21).trans (decide_eq_true (show ¬ MayW v ∨ findPQ (partsQ q) v.path < 0 from .inr hs21)).symm | exact (decide_eq_false hs21).trans (decide_eq_false (show ¬ (¬ MayW v ∨ findPQ (partsQ q) v.path < 0) from fun h => h.elim hs18 hs21)).symm)) (.cons rfl (.cons rfl (.cons rfl (.cons rfl .nil))))), (hf4)⟩
  · intro Γ w4 hΓ hf4
    refine thenQ_n (VC.sub _ hΓ ?_)
    refine VC.condD rfl (fun hc1 => ?_) (fun hc1 => ?_)
    · skip
      have hb3 := hb3.frm hf4 (by simp)
      have hP := hP.frm hf4 (by simp)
      have K := K.trans hf4 (by simp)
      have hgq : getQ q v = none := by unfold getQ; rw [if_pos hc1]
      refine VC.seq ?_
      refine VC.region ?_
      refine Ops.r (Run.asg rfl) rfl ?_
      refine Ops.r (Run.asg rfl) rfl ?_
      refine Ops.nil ?_
      refine thenQ_n ?_
      refine VC.sub [(4, _), (5, _)] (.cons rfl (.cons rfl .nil)) ?_
      refine VC.ret ?_
      refine thenQ_r (end2 rfl rfl ?_)
      rw [hgq]
      exact ⟨K, none, 0, rfl, Own.nil _ _ _, by simp [ob]⟩
    · skip
      have hb3 := hb3.frm hf4 (by simp)
      have hP := hP.frm hf4 (by simp)
      have K := K.trans hf4 (by simp)
      obtain ⟨i, hil, hie⟩ : ∃ i : Nat, i < (partsQ q).length ∧ findPQ (partsQ q) v.path = (i : Int) := by
        rcases findL_res (partsQ q) v.path 0 true hl0 with h | h
        · exact absurd (.inr (by show findPQ (partsQ q) v.path < 0; unfold findPQ; omega)) hc1
        · exact h
      have hpi := List.getElem?_eq_getElem hil
      have hgq := getQ_at hc1 hie hpi
      have hmay : MayW v := Classical.byContradiction fun h => hc1 (.inl h)
      have hpo := hok i _ hpi
      have hlm : l[i].1 = (partsQ q)[i] := by have := List.getElem?_map (f := fun x : Pc => x.1) (l := l) (i := i); rw [hm, hpi, List.getElem?_eq_getElem (by omega)] at this; simpa using this.symm
      obtain ⟨ad, rfl, hcell⟩ := PP_at hP.rd (show i < l.length by omega)
      rw [hie]
      obtain ⟨pp, hpp⟩ : ∃ p, (partsQ q)[i] = p := ⟨_, rfl⟩
      rw [hpp] at hgq hpo hlm
      obtain ⟨y, hy⟩ : ∃ y, l[i] = (pp, y) := ⟨l[i].2, by rw [← hlm]⟩
      rw [hy] at hcell
      obtain ⟨hp1, hp2, hp3, _⟩ := hpo
      refine VC.skip ?_
      refine thenQ_n ?_
      refine VC.sub [(0, _), (3, _), (6, _), (7, _)] (.cons rfl (.cons rfl (.cons rfl (.cons rfl .nil)))) ?_
      refine VC.seq ?_
      refine VC.region ?_
      refine Ops.r (Run.mv rfl) rfl ?_
      refine Ops.r (Run.mv rfl) rfl ?_
      refine Ops.r (Run.indexS i rfl rfl Tryz.underlying60 Tryz.sizeOf69 (by omega)) rfl ?_
      refine Ops.r (Run.loadA rfl Tryz.isAgg69 Tryz.sizeOf69 hcell (by first | rfl | (simp; done))) rfl ?_
      refine Ops.m (Does.alloc zero69) rfl ?_
      rintro _ w5 ⟨rfl, hF5⟩
      have hb8 := hF5.blk
      have hP4 := hP
      have hb34 := hb3.lt
      have sK4 := K.size
      have hb3 := hb3.frm hF5.frm (by simp)
      have hP := hP.frm hF5.frm (by simp)
      have lP := hP.lt
      have lb3 := hb3.lt
      have K := K.trans hF5.frm (by simp)
      have hPn : ∀ x ∈ ob (some ad), x < w4.heap.size := by have := hP4.lt; exact this
      generalize hg8 : w4.heap.size = g8 at hb8 sK4 hPn ⊢
      refine Ops.st (Acts.storeA rfl rfl Tryz.sizeOf69 hb8 rfl (PP1_one (pp, y))) ?_
      rintro w6 ⟨hb8n, hf6, _⟩
      have hb8 : Blk w6 g8 69 (PP1 (pp, y)).toArray := hb8n
      have hb3 := hb3.frm hf6 (by simp; omega)
      have hP := hP.frm hf6 (fun x hx => by have := hPn x hx; simp; omega)
      have K := Frm.own K hf6 (fun y hy => by simp at hy; omega)
      refine Ops.nil ?_
      refine thenQ_n ?_
      refine VC.sub [(0, _), (3, _), (6, _), (7, _), (8, _)] (.cons rfl (.cons rfl (.cons rfl (.cons rfl (.cons rfl .nil))))) ?_
      refine VC.seq ?_
      refine VC.block ?_
      refine VC.seq ?_
      refine VC.split1 [(0, _), (3, _), (6, _), (7, _), (8, _)] (.cons rfl (.cons rfl (.cons rfl (.cons rfl (.cons rfl .nil))))) 27 (.bool (decide (v.what = [] ∧ v.path.length = 0))) ?_ ?_
      · refine VC.region ?_
        refine Ops.r (Run.fieldAddr rfl Tryz.underlying38 rfl Tryz.sizeOf9 (by decide)) rfl ?_
        refine Ops.r (Run.load rfl Tryz.isAgg9 (hb3.cell 1)) rfl ?_
        refine Ops.r (Run.eqlT rfl rfl) rfl ?_
        by_cases hs30 : v.what = []
        · skip
          refine Ops.r (Run.mv rfl) rfl ?_
          refine Ops.rg rfl (by first | rfl | assumption | exact decide_eq_true (by assumption) | exact decide_eq_false (by assumption) | decide | (simp; done) | (simp; omega) | (simp [*]; done)) (Run.fieldAddr rfl Tryz.underlying38 rfl Tryz.sizeOf33 (by decide)) rfl ?_
          refine Ops.rg rfl (by first | rfl | assumption | exact decide_eq_true (by assumption) | exact decide_eq_false (by assumption) | decide | (simp; done) | (simp; omega) | (simp [*]; done)) (Run.load rfl Tryz.isAgg33 (hb3.cell 0)) rfl ?_
          refine Ops.rg rfl (by first | rfl | assumption | exact decide_eq_true (by assumption) | exact decide_eq_false (by assumption) | decide | (simp; done) | (simp; omega) | (simp [*]; done)) (Run.lenS rfl Tryz.underlying33) rfl ?_
          refine Ops.rg rfl (by first | rfl | assumption | exact decide_eq_true (by assumption) | exact decide_eq_false (by assumption) | decide | (simp; done) | (simp; omega) | (simp [*]; done)) (Run.bin rfl rfl (Bin.eqlN _ 0)) rfl ?_
          by_cases hs35 : v.path.length = 0
          · skip
            refine Ops.r (Run.pickT rfl rfl (by first | rfl | assumption | exact decide_eq_true (by assumption) | exact decide_eq_false (by assumption) | decide | (simp; done) | (simp; omega) | (simp [*]; done))) rfl ?_
            refine Ops.r (Run.asg rfl) rfl ?_
            refine Ops.nil ?_
            refine thenQ_n ⟨(.cons (congrArg (fun b => some (Value.bool b)) (by first | exact (decide_eq_true hs35).trans (decide_eq_true ⟨hs30, hs35⟩).symm | exact (decide_eq_false hs35).trans (decide_eq_false (show ¬ (v.what = [] ∧ v.path.length = 0) from fun h => hs35 h.2)).symm | exact (decide_eq_false (show ¬ (v.what = [] ∧ v.path.length = 0) from fun h => hs30 h.1)).symm | exact (decide_eq_false hs30).trans (decide_eq_false (show ¬ (v.what = [] ∧ v.path.length = 0) from fun h => hs30 h.1)).symm)) (.cons rfl (.cons rfl (.cons rfl (.cons rfl (.cons rfl .nil)))))), rfl⟩
          · skip
            refine Ops.r (Run.pickT rfl rfl (by first | rfl | assumption | exact decide_eq_true (by assumption) | exact decide_eq_false (by assumption) | decide | (simp; done) | (simp; omega) | (simp [*]; done))) rfl ?_
            refine Ops.r (Run.asg rfl) rfl ?_
            refine Ops.nil ?_
            refine thenQ_n ⟨(.cons (congrArg (fun b => some (Value.bool b)) (by first | exact (decide_eq_true hs35).trans (decide_eq_true ⟨hs30, hs35⟩).symm | exact (decide_eq_false hs35).trans (decide_eq_false (show ¬ (v.what = [] ∧ v.path.length = 0) from fun h => hs35 h.2)).symm | exact (decide_eq_false (show ¬ (v.what = [] ∧ v.path.length = 0) from fun h => hs30 h.1)).symm | exact (decide_eq_false hs30).trans (decide_eq_false (show ¬ (v.what = [] ∧ v.path.length = 0) from fun h => hs30 h.1)).symm)) (.cons rfl (.cons rfl (.cons rfl (.cons rfl (.cons rfl .nil)))))), rfl⟩
        · skip
          refine Ops.r (Run.mv rfl) rfl ?_
          refine Ops.sk rfl (by first | rfl | assumption | exact decide_eq_true (by assumption) | exact decide_eq_false (by assumption) | decide | (simp; done) | (simp; omega) | (simp [*]; done)) rfl ?_
          refine Ops.sk rfl (by first | rfl | assumption | exact decide_eq_true (by assumption) | exact decide_eq_false (by assumption) | decide | (simp; done) | (simp; omega) | (simp [*]; done)) rfl ?_
          refine Ops.sk rfl (by first | rfl | assumption | exact decide_eq_true (by assumption) | exact decide_eq_false (by assumption) | decide | (simp; done) | (simp; omega) | (simp [*]; done)) rfl ?_
          refine Ops.sk rfl (by first | rfl | assumption | exact decide_eq_true (by assumption) | exact decide_eq_false (by assumption) | decide | (simp; done) | (simp; omega) | (simp [*]; done)) rfl ?_
          refine Ops.r (Run.pickF rfl rfl (by first | rfl | assumption | exact decide_eq_true (by assumption) | exact decide_eq_false (by assumption) | decide | (simp; done) | (simp; omega) | (simp [*]; done))) rfl ?_
          refine Ops.r (Run.asg rfl) rfl ?_
          refine Ops.nil ?_
          refine thenQ_n ⟨(.cons (congrArg (fun b => some (Value.bool b)) (by first | exact (decide_eq_true hs35).trans (decide_eq_true ⟨hs30, hs35⟩).symm | exact (decide_eq_false hs35).trans (decide_eq_false (show ¬ (v.what = [] ∧ v.path.length = 0) from fun h => hs35 h.2)).symm | exact (decide_eq_false (show ¬ (v.what = [] ∧ v.path.length = 0) from fun h => hs30 h.1)).symm | exact (decide_eq_false hs30).trans (decide_eq_false (show ¬ (v.what = [] ∧ v.path.length = 0) from fun h => hs30 h.1)).symm)) (.cons rfl (.cons rfl (.cons rfl (.cons rfl (.cons rfl .nil)))))), rfl⟩
      · intro Γ hΓ
        refine thenQ_n (VC.sub _ hΓ ?_)
        refine VC.condD rfl (fun hc2 => ?_) (fun hc2 => ?_)
        · skip
          rw [if_pos hc2] at hgq
          refine VC.seq ?_
          refine VC.region ?_
          refine Ops.r (Run.mv rfl) rfl ?_
          refine Ops.cl (Enters.fn (evs.cons rfl evs.nil) Tryz.call43) ((clone_spec A c q.length q _ rfl (hrd.frm K (by simp)) (by omega))) rfl ?_
          rintro e w7 ⟨hf7, A2, c2, rfl, hO2, hub2⟩
          refine ⟨_, rfl, ?_⟩
          have sK := K.size
          have K := K.trans hf7 (by simp)
          refine Ops.r (Run.asg rfl) rfl ?_
          refine Ops.r (Run.asg rfl) rfl ?_
          refine Ops.nil ?_
          refine thenQ_n ?_
          refine VC.sub [(4, _), (5, _)] (.cons rfl (.cons rfl .nil)) ?_
          refine VC.ret ?_
          refine blockQ_r (thenQ_r (end2 rfl rfl ?_))
          rw [hgq]
          exact ⟨K, A2, c2, rfl, hO2, fun x hx => by have := hub2 x hx; omega⟩
        · skip
          rw [if_neg hc2] at hgq
          refine VC.seq ?_
          refine VC.region ?_
          refine Ops.r (Run.fieldAddr rfl Tryz.underlying38 rfl Tryz.sizeOf9 (by decide)) rfl ?_
          refine Ops.r (Run.load rfl Tryz.isAgg9 (hb3.cell 1)) rfl ?_
          refine Ops.r (Run.eqlT rfl rfl) rfl ?_
          refine Ops.r (Run.asg rfl) rfl ?_
          refine Ops.nil ?_
          refine thenQ_n ?_
          refine VC.sub [(0, _), (3, _), (6, _), (7, _), (8, _), (39, _)] (.cons rfl (.cons rfl (.cons rfl (.cons rfl (.cons rfl (.cons rfl .nil)))))) ?_
          refine VC.condD rfl (fun hc3 => ?_) (fun hc3 => ?_)
          · skip
            rw [if_pos hc3] at hgq
            refine VC.seq ?_
            refine VC.region ?_
            refine Ops.r (Run.mv rfl) rfl ?_
            refine Ops.r (Run.fieldAddr rfl Tryz.underlying69 rfl Tryz.sizeOf3 (by decide)) rfl ?_
            refine Ops.r (Run.load rfl Tryz.isAgg3 (hb8.cell 2)) rfl ?_
            refine Ops.r (Run.fieldAddr rfl Tryz.underlying69 rfl Tryz.sizeOf3 (by decide)) rfl ?_
            refine Ops.r (Run.load rfl Tryz.isAgg3 (hb8.cell 3)) rfl ?_
            refine Ops.r (Run.sliceS pp.body pp.tu rfl Tryz.underlying22 Tryz.sizeOf5 (evB.some_ rfl) (evB.some_ rfl) (by omega) (by omega)) rfl ?_
            refine Ops.cl (Enters.fn (evs.cons rfl evs.nil) Tryz.call43) ((clone_spec (cutA A c pp.body 1) (c - pp.body) (pp.tu - pp.body) (sliceQ q pp.body pp.tu) _ (sliceQ_len (by omega)).symm (U8_cutN (hrd.frm K (by simp)) (by omega) (by omega) hc) (by rw [sliceQ_len (by omega)]; omega))) rfl ?_
            rintro e w7 ⟨hfw7, A2, c2, rfl, hO2, hub2⟩
            refine ⟨_, rfl, ?_⟩
            have sK := K.size
            have K := K.trans hfw7 (by simp)
            refine Ops.r (Run.asg rfl) rfl ?_
            refine Ops.r (Run.asg rfl) rfl ?_
            refine Ops.nil ?_
            refine thenQ_n ?_
            refine VC.sub [(4, _), (5, _)] (.cons rfl (.cons rfl .nil)) ?_
            refine VC.ret ?_
            refine blockQ_r (thenQ_r (end2 rfl rfl ?_))
            rw [hgq]
            exact ⟨K, A2, c2, rfl, hO2, fun x hx => by have := hub2 x hx; omega⟩
          · skip
            rw [if_neg hc3] at hgq
            refine VC.seq ?_
            refine VC.region ?_
            refine Ops.r (Run.fieldAddr rfl Tryz.underlying38 rfl Tryz.sizeOf9 (by decide)) rfl ?_
            refine Ops.r (Run.load rfl Tryz.isAgg9 (hb3.cell 1)) rfl ?_
            refine Ops.r (Run.eqlT rfl rfl) rfl ?_
            refine Ops.r (Run.asg rfl) rfl ?_
            refine Ops.nil ?_
            refine thenQ_n ?_
            refine VC.sub [(0, _), (3, _), (6, _), (7, _), (8, _), (50, _)] (.cons rfl (.cons rfl (.cons rfl (.cons rfl (.cons rfl (.cons rfl .nil)))))) ?_
            refine VC.condD rfl (fun hc4 => ?_) (fun hc4 => ?_)
            · skip
              rw [if_pos (show v.what = mimT from hc4)] at hgq
              refine VC.seq ?_
              refine VC.region ?_
              refine Ops.r (Run.mv rfl) rfl ?_
              refine Ops.r (Run.fieldAddr rfl Tryz.underlying69 rfl Tryz.sizeOf3 (by decide)) rfl ?_
              refine Ops.r (Run.load rfl Tryz.isAgg3 (hb8.cell 1)) rfl ?_
              refine Ops.r (Run.fieldAddr rfl Tryz.underlying69 rfl Tryz.sizeOf3 (by decide)) rfl ?_
              refine Ops.r (Run.load rfl Tryz.isAgg3 (hb8.cell 2)) rfl ?_
              refine Ops.r (Run.sliceS pp.frm pp.body rfl Tryz.underlying22 Tryz.sizeOf5 (evB.some_ rfl) (evB.some_ rfl) (by omega) (by omega)) rfl ?_
              refine Ops.cl (Enters.fn (evs.cons rfl evs.nil) Tryz.call43) ((clone_spec (cutA A c pp.frm 1) (c - pp.frm) (pp.body - pp.frm) (sliceQ q pp.frm pp.body) _ (sliceQ_len (by omega)).symm (U8_cutN (hrd.frm K (by simp)) (by omega) (by omega) hc) (by rw [sliceQ_len (by omega)]; omega))) rfl ?_
              rintro e w7 ⟨hfw7, A2, c2, rfl, hO2, hub2⟩
              refine ⟨_, rfl, ?_⟩
              have sK := K.size
              have K := K.trans hfw7 (by simp)
              refine Ops.r (Run.asg rfl) rfl ?_
              refine Ops.r (Run.asg rfl) rfl ?_
              refine Ops.nil ?_
              refine thenQ_n ?_
              refine VC.sub [(4, _), (5, _)] (.cons rfl (.cons rfl .nil)) ?_
              refine VC.ret ?_
              refine blockQ_r (thenQ_r (end2 rfl rfl ?_))
              rw [hgq]
              exact ⟨K, A2, c2, rfl, hO2, fun x hx => by have := hub2 x hx; omega⟩
            · skip
              rw [if_neg (show ¬ v.what = mimT from hc4)] at hgq
              refine VC.skip ?_
              refine blockQ_n (thenQ_n ?_)
              refine VC.sub [(0, _), (3, _), (6, _), (7, _), (8, _)] (.cons rfl (.cons rfl (.cons rfl (.cons rfl (.cons rfl .nil))))) ?_
              refine VC.seq ?_
              refine VC.region ?_
              refine Ops.r (Run.mv rfl) rfl ?_
              refine Ops.r (Run.mv rfl) rfl ?_
              refine Ops.r (Run.fieldAddr rfl Tryz.underlying38 rfl Tryz.sizeOf33 (by decide)) rfl ?_
              refine Ops.r (Run.load rfl Tryz.isAgg33 (hb3.cell 0)) rfl ?_
              refine Ops.cl (Enters.fn (evs.cons rfl (evs.cons rfl (evs.cons rfl evs.nil))) Tryz.call44) ((whole_path_spec (some ad) B lc d l i v.path _ hP.rd (by omega) (by omega))) rfl ?_
              rintro e w7 ⟨rfl, hf7⟩
              rw [hm]
              refine ⟨_, rfl, ?_⟩
              have hb3 := hb3.frm hf7 (by simp)
              have hP := hP.frm hf7 (by simp)
              have hb8 := hb8.frm hf7 (by simp)
              have sK7 := K.size
              have K := K.trans hf7 (by simp)
              refine Ops.r (Run.asg rfl) rfl ?_
              refine Ops.nil ?_
              refine thenQ_n ?_
              refine VC.sub [(0, _), (3, _), (6, _), (8, _), (9, _)] (.cons rfl (.cons rfl (.cons rfl (.cons rfl (.cons rfl .nil))))) ?_
              refine VC.seq ?_
              refine VC.seq ?_
              refine VC.region ?_
              refine Ops.r (Run.mv rfl) rfl ?_
              refine Ops.r (Run.bin rfl rfl (Bin.lss _ 0)) rfl ?_
              refine Ops.nil ?_
              refine thenQ_n ?_
              refine VC.sub [(0, _), (3, _), (6, _), (8, _), (9, _), (67, _)] (.cons rfl (.cons rfl (.cons rfl (.cons rfl (.cons rfl (.cons rfl .nil)))))) ?_
              refine VC.condD rfl (fun hc5 => ?_) (fun hc5 => ?_)
              · skip
                have hgq : getQ q v = none := by rw [hgq]; unfold pickK; rw [if_pos hc5]
                refine VC.seq ?_
                refine VC.region ?_
                refine Ops.r (Run.asg rfl) rfl ?_
                refine Ops.r (Run.asg rfl) rfl ?_
                refine Ops.nil ?_
                refine thenQ_n ?_
                refine VC.sub [(4, _), (5, _)] (.cons rfl (.cons rfl .nil)) ?_
                refine VC.ret ?_
                refine thenQ_r (end2 rfl rfl ?_)
                rw [hgq]
                exact ⟨K, none, 0, rfl, Own.nil _ _ _, by simp [ob]⟩
              · skip
                obtain ⟨k, hkl, hke⟩ : ∃ k : Nat, k < (partsQ q).length ∧ wholeQ (partsQ q) i v.path = (k : Int) := by
                  rcases wholeQ_res (partsQ q) i v.path hl0 with h | h
                  · omega
                  · exact h
                have hpk := List.getElem?_eq_getElem hkl
                rw [pickK_at hke hpk] at hgq
                have hpo := hok k _ hpk
                have hlm : l[k].1 = (partsQ q)[k] := by have := List.getElem?_map (f := fun x : Pc => x.1) (l := l) (i := k); rw [hm, hpk, List.getElem?_eq_getElem (by omega)] at this; simpa using this.symm
                have hcell := PP_get hP.rd (show k < l.length by omega)
                rw [hke]
                clear hp1 hp2 hp3 hy hpp
                have hb8o := hb8
                obtain ⟨pp, hpp⟩ : ∃ p, (partsQ q)[k] = p := ⟨_, rfl⟩
                rw [hpp] at hgq hpo hlm
                obtain ⟨y, hy⟩ : ∃ y, l[k] = (pp, y) := ⟨l[k].2, by rw [← hlm]⟩
                rw [hy] at hcell
                obtain ⟨hp1, hp2, hp3, _⟩ := hpo
                refine VC.skip ?_
                refine thenQ_n ?_
                refine VC.sub [(0, _), (3, _), (6, _), (8, _), (9, _)] (.cons rfl (.cons rfl (.cons rfl (.cons rfl (.cons rfl .nil))))) ?_
                refine VC.seq ?_
                refine VC.region ?_
                refine Ops.r (Run.mv rfl) rfl ?_
                refine Ops.r (Run.mv rfl) rfl ?_
                refine Ops.r (Run.indexS k rfl rfl Tryz.underlying60 Tryz.sizeOf69 (by omega)) rfl ?_
                refine Ops.r (Run.loadA rfl Tryz.isAgg69 Tryz.sizeOf69 hcell (by first | rfl | (simp; done))) rfl ?_
                refine Ops.st (Acts.storeA rfl rfl Tryz.sizeOf69 hb8o rfl (PP1_one (pp, y))) ?_
                rintro w8 ⟨hb8n, hf8, _⟩
                have hb8 : Blk w8 g8 69 (PP1 (pp, y)).toArray := hb8n
                have hb3 := hb3.frm hf8 (by simp; omega)
                have K := Frm.own K hf8 (fun y hy => by simp at hy; omega)
                refine Ops.nil ?_
                refine thenQ_n ?_
                refine VC.sub [(0, _), (3, _), (8, _)] (.cons rfl (.cons rfl (.cons rfl .nil))) ?_
                refine VC.seq ?_
                refine VC.seq ?_
                refine VC.region ?_
                refine Ops.r (Run.fieldAddr rfl Tryz.underlying38 rfl Tryz.sizeOf9 (by decide)) rfl ?_
                refine Ops.r (Run.load rfl Tryz.isAgg9 (hb3.cell 1)) rfl ?_
                refine Ops.nil ?_
                refine thenQ_n ?_
                refine VC.sub [(0, _), (3, _), (8, _), (73, _)] (.cons rfl (.cons rfl (.cons rfl (.cons rfl .nil)))) ?_
                refine VC.block ?_
                refine VC.seq ?_
                refine VC.region ?_
                refine Ops.r (Run.eqlT rfl rfl) rfl ?_
                refine Ops.r (Run.asg rfl) rfl ?_
                refine Ops.nil ?_
                refine thenQ_n ?_
                refine VC.sub [(0, _), (3, _), (8, _), (73, _), (74, _)] (.cons rfl (.cons rfl (.cons rfl (.cons rfl (.cons rfl .nil))))) ?_
                refine VC.condD rfl (fun hc6 => ?_) (fun hc6 => ?_)
                · skip
                  rw [if_pos (show v.what = txtT from hc6)] at hgq
                  refine VC.seq ?_
                  refine VC.region ?_
                  refine Ops.r (Run.mv rfl) rfl ?_
                  refine Ops.r (Run.fieldAddr rfl Tryz.underlying69 rfl Tryz.sizeOf3 (by decide)) rfl ?_
                  refine Ops.r (Run.load rfl Tryz.isAgg3 (hb8.cell 2)) rfl ?_
                  refine Ops.r (Run.fieldAddr rfl Tryz.underlying69 rfl Tryz.sizeOf3 (by decide)) rfl ?_
                  refine Ops.r (Run.load rfl Tryz.isAgg3 (hb8.cell 3)) rfl ?_
                  refine Ops.r (Run.sliceS pp.body pp.tu rfl Tryz.underlying22 Tryz.sizeOf5 (evB.some_ rfl) (evB.some_ rfl) (by omega) (by omega)) rfl ?_
                  refine Ops.cl (Enters.fn (evs.cons rfl evs.nil) Tryz.call43) ((clone_spec (cutA A c pp.body 1) (c - pp.body) (pp.tu - pp.body) (sliceQ q pp.body pp.tu) _ (sliceQ_len (by omega)).symm (U8_cutN (hrd.frm K (by simp)) (by omega) (by omega) hc) (by rw [sliceQ_len (by omega)]; omega))) rfl ?_
                  rintro e w9 ⟨hfw9, A2, c2, rfl, hO2, hub2⟩
                  refine ⟨_, rfl, ?_⟩
                  have sK := K.size
                  have K := K.trans hfw9 (by simp)
                  refine Ops.r (Run.asg rfl) rfl ?_
                  refine Ops.r (Run.asg rfl) rfl ?_
                  refine Ops.nil ?_
                  refine thenQ_n ?_
                  refine VC.sub [(4, _), (5, _)] (.cons rfl (.cons rfl .nil)) ?_
                  refine VC.ret ?_
                  refine blockQ_r (thenQ_r (end2 rfl rfl ?_))
                  rw [hgq]
                  exact ⟨K, A2, c2, rfl, hO2, fun x hx => by have := hub2 x hx; omega⟩
                · skip
                  rw [if_neg (show ¬ v.what = txtT from hc6)] at hgq
                  refine VC.seq ?_
                  refine VC.region ?_
                  refine Ops.r (Run.eqlT rfl rfl) rfl ?_
                  refine Ops.r (Run.asg rfl) rfl ?_
                  refine Ops.nil ?_
                  refine thenQ_n ?_
                  refine VC.sub [(0, _), (3, _), (8, _), (83, _)] (.cons rfl (.cons rfl (.cons rfl (.cons rfl .nil)))) ?_
                  refine VC.condT rfl (decide_eq_true (hdr_only hmay hnn hc3 hc4 hc6)) ?_
                  refine VC.seq ?_
                  refine VC.region ?_
                  refine Ops.r (Run.mv rfl) rfl ?_
                  refine Ops.r (Run.fieldAddr rfl Tryz.underlying69 rfl Tryz.sizeOf3 (by decide)) rfl ?_
                  refine Ops.r (Run.load rfl Tryz.isAgg3 (hb8.cell 1)) rfl ?_
                  refine Ops.r (Run.fieldAddr rfl Tryz.underlying69 rfl Tryz.sizeOf3 (by decide)) rfl ?_
                  refine Ops.r (Run.load rfl Tryz.isAgg3 (hb8.cell 2)) rfl ?_
                  refine Ops.r (Run.sliceS pp.frm pp.body rfl Tryz.underlying22 Tryz.sizeOf5 (evB.some_ rfl) (evB.some_ rfl) (by omega) (by omega)) rfl ?_
                  refine Ops.cl (Enters.fn (evs.cons rfl evs.nil) Tryz.call43) ((clone_spec (cutA A c pp.frm 1) (c - pp.frm) (pp.body - pp.frm) (sliceQ q pp.frm pp.body) _ (sliceQ_len (by omega)).symm (U8_cutN (hrd.frm K (by simp)) (by omega) (by omega) hc) (by rw [sliceQ_len (by omega)]; omega))) rfl ?_
                  rintro e w9 ⟨hfw9, A2, c2, rfl, hO2, hub2⟩
                  refine ⟨_, rfl, ?_⟩
                  have sK := K.size
                  have K := K.trans hfw9 (by simp)
                  refine Ops.r (Run.asg rfl) rfl ?_
                  refine Ops.r (Run.asg rfl) rfl ?_
                  refine Ops.nil ?_
                  refine thenQ_n ?_
                  refine VC.sub [(4, _), (5, _)] (.cons rfl (.cons rfl .nil)) ?_
                  refine VC.ret ?_
                  refine blockQ_r (thenQ_r (end2 rfl rfl ?_))
                  rw [hgq]
                  exact ⟨K, A2, c2, rfl, hO2, fun x hx => by have := hub2 x hx; omega⟩

end Go.Proofs.YtenbjndldenkfaaGreatDoor
