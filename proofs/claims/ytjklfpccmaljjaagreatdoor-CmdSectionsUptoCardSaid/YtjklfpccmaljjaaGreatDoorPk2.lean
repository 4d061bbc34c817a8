/-
  Lemmas on the way, joined: CmdN, CmdO, CmdP, CmdQ, Eng28, Eng29, CmdR, CmdV, CmdW, CmdT, CmdU, CmdX, SeqI0, SecM, KeyQ, SecX, SecY, CmdSw, SecO.
-/
import Derived.Test.YtjklfpccmaljjaaGreatDoorRows
import Derived.Test.YtjklfpccmaljjaaGreatDoorPk1
set_option maxRecDepth 100000
set_option linter.unusedVariables false
set_option linter.unusedSimpArgs false
set_option maxHeartbeats 8000000
namespace Go.Proofs.YtjklfpccmaljjaaGreatDoor
section
open Go.RowKit
def eM (tk : List Tk) (q : Nat) : Option ItM := (qL tk q [0]).bind bU
theorem pK (w0 : World) (gf gb d : Nat) (I : Option Addr) (rs : List ItR) (gp gc : Nat) (A : Option Addr) (n c : Nat) (tk : List Tk) (q : Nat) (cs : Array Value) (w : World) (hP : IsCp w gp gc A n c tk q cs) (hF : Blk w gf 117 #[.func (.func 70) ([] : List Value).toArray ([jI0 gb] : List Value).toArray]) (hG : Blk w gb 61 #[jI0 gp]) (hI : IsIt w w0.heap.size I d rs) (hcs : cs[9]? = some (.slice I rs.length d)) (hA : 0 < n → ∀ x ∈ ob A, x < w0.heap.size) (hK : Frm [] w0 w) (hgp : w0.heap.size ≤ gp) (hrs : rs.length ≤ 1000000) (hl : ∀ x ∈ tk, x.2.length ≤ 50000) (hv : cN w0) (htb : Tab w0) : Calls Tryz.prog 72 #[jI0 gf, jI0 gb] w fun e w' => match eM tk q with
   | none => e = .panicked dG ∧ Frm [gp] w w'
   | some x => e = .returned (.tuple #[]) ∧ ∃ I' d' r, r.x = x ∧ IsIt w' w0.heap.size I' d' (rs ++ [r]) ∧ IsCp w' gp gc A n c tk (q + 1) (cs.setIfInBounds 9 (.slice I' (rs.length + 1) d')) ∧ Frm (gp :: gc :: ob I) w w' ∧ ∀ y ∈ ob I', y ∈ ob I ∨ w.heap.size ≤ y := by
 refine jV Tryz.func72 Tryz.ntmps72 Tryz.results72 ?_
 refine VC.held (fun V => V.cell? ⟨gf, 0, none⟩ = some (.func (.func 70) ([] : List Value).toArray ([jI0 gb] : List Value).toArray) ∧ V.cell? ⟨gb, 0, none⟩ = some (jI0 gp)) jK ?_
 have hd := (qF.drew w).frm
 have hPd := hP.frm hd
 have hId := hI.frm hd
 have hGd := hG.frm hd jp
 have hFd := hF.frm hd jp
 have hS : (fun V : World => V.cell? ⟨gf, 0, none⟩ = some (.func (.func 70) ([] : List Value).toArray ([jI0 gb] : List Value).toArray) ∧ V.cell? ⟨gb, 0, none⟩ = some (jI0 gp)) w.drew := ⟨hFd.cell 0, hGd.cell 0⟩
 refine jH 0 rfl hS (fun w0 hw0 => Run.load rfl Tryz.isAgg117 hw0.1) ?_
 refine jH 1 rfl hS (fun w0 hw0 => Run.load rfl zcc hw0.2) ?_
 refine qJ.m 2 rfl jK (qV.buildS1 rfl zi zc fV jd jd rfl rfl) trivial rfl rfl ?_
 rintro _ w1 ⟨rfl, hF1⟩
 have hK1 : Rd w1 1 (some ⟨w.drew.heap.size, 0, none⟩) 1 (IB [0]) := Rd.of_blk (n := 1) (size := 1) hF1.blk rfl
 have hPl := hP.lt
 have hG1 := hGd.frm hF1.frm jp
 have hf1 := hFd.frm hF1.frm jp
 have hI1 := hId.frm hF1.frm
 have hP1 := hPd.frm hF1.frm
 have hsz1 := hd.size
 have hS : (fun V : World => V.cell? ⟨gf, 0, none⟩ = some (.func (.func 70) ([] : List Value).toArray ([jI0 gb] : List Value).toArray) ∧ V.cell? ⟨gb, 0, none⟩ = some (jI0 gp)) w1 := ⟨hf1.cell 0, hG1.cell 0⟩
 refine ⟨hS, ?_⟩
 refine qJ.clp 3 rfl jK (jE2 Tryz.call31) (cI (some ⟨w.drew.heap.size, 0, none⟩) 1 1 [0] gp gc A n c tk q cs w1 hP1 rfl jo hK1 (fun _ x hx => by rw [ze.1 hx]; show w.drew.heap.size ≠ gp; omega)) trivial rfl rfl ?_
 rintro e w2 ⟨hf2, he⟩
 rcases hT : qL tk q [0] with _ | s
 ·
  rw [hT] at he
  exact .inr ⟨_, he, bX (by rw [show eM tk q = none by simp [eM, hT]]; exact ⟨rfl, ((hd.trans hF1.frm jp).mono jp).trans hf2 (fun x hx => .inl hx)⟩)⟩
 rw [hT] at he
 obtain ⟨rfl, hP2⟩ := he
 have hG2 := hG1.frm hf2 (by simp; exact hG1.ne hP1.p jd)
 have hF2 := hf1.frm hf2 (by simp; exact hf1.ne hP1.p jd)
 have hI2 := hI1.blk hP1.p hf2 jd jd jd
 have K2 : Frm [gp] w w2 := ((hd.trans hF1.frm jp).mono jp).trans hf2 (fun x hx => .inl hx)
 have q2 := K2.size
 have q0 := hK.size
 have K02 : Frm [] w0 w2 := hK.own K2 (by simp; omega)
 have hS : (fun V : World => V.cell? ⟨gf, 0, none⟩ = some (.func (.func 70) ([] : List Value).toArray ([jI0 gb] : List Value).toArray) ∧ V.cell? ⟨gb, 0, none⟩ = some (jI0 gp)) w2 := ⟨hF2.cell 0, hG2.cell 0⟩
 have him : eM tk q = bU s := by simp [eM, hT]
 rw [him]
 refine .inl ⟨_, rfl, hS, ?_⟩
 refine qJ.clp 4 rfl jK (qD.dyn rfl (evs.cons rfl evs.nil) Tryz.call70) (gJ s gb w0.heap.size d I rs gp gc A n c tk (q + 1) cs w2 hP2 hG2 hI2 hcs hA jo hrs (eB hT hl) (hv.frm0 K02) (htb.frm K02)) trivial rfl rfl ?_
 rintro e w3 he
 rcases hM : bU s with _ | x
 ·
  rw [hM] at he
  exact .inr ⟨_, he.1, bX ⟨rfl, K2.trans he.2 jp⟩⟩
 rw [hM] at he
 obtain ⟨rfl, I3, d3, r, hr, hI3, hP3, hf3, hu3⟩ := he
 have hF3 := hF2.frm hf3 (by simp; exact ⟨hF2.ne hP2.k jd, hI2.row.ne_blk hF2 jd⟩)
 have hG3 := hG2.frm hf3 (by simp; exact ⟨hG2.ne hP2.k jd, hI2.row.ne_blk hG2 jd⟩)
 refine .inl ⟨_, rfl, ⟨hF3.cell 0, hG3.cell 0⟩, ?_⟩
 refine qJ.done jK ?_
 refine dB ?_
 exact ⟨rfl, I3, d3, r, hr, hI3, hP3, (K2.mono jp).trans hf3 (fun y hy => .inl (by simp at hy; rcases hy with h | h <;> simp [h])), fun y hy => by rcases hu3 y hy with h | h; exact .inl h; exact .inr jo⟩
theorem tG {cs : Array Value} {i : Nat} {v : Value} (h : cs[i]? = some v) : cs.setIfInBounds i v = cs := by
 apply Array.ext_getElem?
 intro j
 rw [zah]
 split
 ·
  next he =>
  subst he
  rw [if_pos (Array.getElem?_eq_some_iff.1 h).1, h]
 rfl
theorem uM {cs : Array Value} {i : Nat} {u v : Value} : (cs.setIfInBounds i u).setIfInBounds i v = cs.setIfInBounds i v := by
 apply Array.ext_getElem?
 intro j
 simp only [zah, Array.size_setIfInBounds]
 split <;> rfl
theorem vY {cs : Array Value} {i : Nat} {v : Value} (h : i < cs.size) : (cs.setIfInBounds i v)[i]? = some v := by
 rw [zah, if_pos rfl, if_pos h]
def cU (v0 w : World) (gf gb gp gc : Nat) (A : Option Addr) (n c : Nat) (tk : List Tk) (csS : Array Value) (Bs : Option Addr) (ds : Nat) (sp : List Sp) (xs : List ItM) (W : World) (q : Nat) (cs : Array Value) : Prop :=
 ∃ I d rs, rs.map (·.x) = xs ∧ IsIt W v0.heap.size I d rs ∧ cs[9]? = some (.slice I rs.length d) ∧ (∀ v, cs.setIfInBounds 9 v = csS.setIfInBounds 9 v) ∧ IsCp W gp gc A n c tk q cs ∧ Blk W gf 117 #[.func (.func 70) ([] : List Value).toArray ([jI0 gb] : List Value).toArray] ∧ Blk W gb 61 #[jI0 gp] ∧ Own W 96 2 Bs sp.length ds (SC sp) ∧ Frm [gp, gc] w W ∧ ∀ y ∈ ob I, w.heap.size ≤ y
section
variable {v0 w : World} {gf gb gp gc : Nat} {A : Option Addr} {n c : Nat} {tk : List Tk} {csS : Array Value} {Bs : Option Addr} {ds : Nat} {sp : List Sp} {xs : List ItM} {W W' : World} {q q2 : Nat} {cs : Array Value}
theorem cU.frm (h : cU v0 w gf gb gp gc A n c tk csS Bs ds sp xs W q cs) (k : Frm [] W W') : cU v0 w gf gb gp gc A n c tk csS Bs ds sp xs W' q cs := by
 obtain ⟨I, d, rs, h1, h2, h3, h4, h5, h6, h7, h8, h9, h10⟩ := h
 exact ⟨I, d, rs, h1, h2.frm k, h3, h4, h5.frm k, h6.frm k jp, h7.frm k jp, h8.frm k jp, h9.trans k jp, h10⟩
theorem cU.read (h : cU v0 w gf gb gp gc A n c tk csS Bs ds sp xs W q cs) (k : Frm [gp] W W') (hP : IsCp W' gp gc A n c tk q2 cs) : cU v0 w gf gb gp gc A n c tk csS Bs ds sp xs W' q2 cs := by
 obtain ⟨I, d, rs, h1, h2, h3, h4, h5, h6, h7, h8, h9, h10⟩ := h
 exact ⟨I, d, rs, h1, h2.blk h5.p k jd jd jd, h3, h4, hP, h6.frm k (by simp; exact h6.ne h5.p jd), h7.frm k (by simp; exact h7.ne h5.p jd), h8.one k h5.p jd, h9.trans k (fun x hx => .inl (by simp at hx; simp [hx])), h10⟩
theorem cU.add {I I' : Option Addr} {d d' : Nat} {rs : List ItR} {r : ItR} (h1 : rs.map (·.x) = xs) (h2 : IsIt W v0.heap.size I d rs) (h4 : ∀ v, cs.setIfInBounds 9 v = csS.setIfInBounds 9 v) (h5 : IsCp W gp gc A n c tk q cs) (h6 : Blk W gf 117 #[.func (.func 70) ([] : List Value).toArray ([jI0 gb] : List Value).toArray]) (h7 : Blk W gb 61 #[jI0 gp]) (h8 : Own W 96 2 Bs sp.length ds (SC sp)) (h9 : Frm [gp, gc] w W) (h10 : ∀ y ∈ ob I, w.heap.size ≤ y)
  (g2 : IsIt W' v0.heap.size I' d' (rs ++ [r])) (g5 : IsCp W' gp gc A n c tk q2 (cs.setIfInBounds 9 (.slice I' (rs.length + 1) d'))) (k : Frm (gp :: gc :: ob I) W W') (hu : ∀ y ∈ ob I', y ∈ ob I ∨ W.heap.size ≤ y) : cU v0 w gf gb gp gc A n c tk csS Bs ds sp (xs ++ [r.x]) W' q2 (cs.setIfInBounds 9 (.slice I' (rs.length + 1) d')) := by
 have hsz := h9.size
 refine ⟨I', d', rs ++ [r], by simp [h1], g2, by rw [vY (by rw [h5.sz]; decide)]; simp, fun v => by rw [uM]; exact h4 v, g5, h6.frm k (by simp; exact ⟨h6.ne h5.p jd, h6.ne h5.k jd, h2.row.ne_blk h6 jd⟩), h7.frm k (by simp; exact ⟨h7.ne h5.p jd, h7.ne h5.k jd, h2.row.ne_blk h7 jd⟩), h8.frm k (fun y hy => by simp; exact ⟨fun e => (h8.ne_blk h5.p jd) (e ▸ hy), fun e => (h8.ne_blk h5.k jd) (e ▸ hy), h8.ne_own h2.row jd y hy⟩), h9.trans k (fun y hy => ?_), fun y hy => ?_⟩
 ·
  simp at hy
  rcases hy with h | h | h
  · exact .inl (by simp [h])
  · exact .inl (by simp [h])
  exact .inr (h10 y h)
 rcases hu y hy with h | h
 · exact h10 y h
 omega
end
def lZ (tk : List Tk) (_ k : Nat) : Option Nat := (eM tk k).map fun _ => k + 1
noncomputable def cM (tk : List Tk) (q : Nat) : Option (List Sp × List ItM × Nat) := (gZ tk q).bind fun sp =>
 if IsT tk (q + 1) 2 then (fY tk (lZ tk) 1 16 (q + 1)).map fun p => (sp, (List.range p.2).map (fun i => (eM tk (q + 2 + i)).getD it0), p.1 + 1)
 else (qL tk (q + 1) [0]).bind fun s => if bD (qH s) = [] then (bU s).map fun x => (sp, [x], q + 2) else some (sp, (bD (qH s)).map (fun m => (bU m).getD it0), q + 2)
theorem rF : ∀ m ∈ cV, ∃ x, bU m = some x := by
 have h : ∀ m ∈ cV, (eH (qH m)).isSome = true ∧ m.length ≤ 50000 := jd
 intro m hm
 obtain ⟨x, hx⟩ := Option.isSome_iff_exists.1 (h m hm).1
 exact ⟨x, by unfold bU; rw [hx]⟩
theorem tH : ∀ m ∈ cV, m.length ≤ 50000 := jd
theorem uN (s : Tx) {k : Nat} (h : k < (bD s).length) : (bD s)[k]? = cV[k]? ∧ k < 5 := by
 have h5 : cV.length = 5 := rfl
 have h2 : ∀ j, k < (cV.take j).length → (cV.take j)[k]? = cV[k]? ∧ k < 5 := fun j hj => by
  rw [zaf] at hj
  exact ⟨by rw [List.getElem?_take, if_pos jo], jo⟩
 unfold bD at h ⊢
 split
 · rename_i h1; rw [if_pos h1] at h; exact h2 3 h
 rename_i h1; rw [if_neg h1] at h
 split
 · rename_i h3; rw [if_pos h3] at h; exact h2 4 h
 rename_i h3; rw [if_neg h3] at h
 split
 · rename_i h4; rw [if_pos h4] at h; exact ⟨rfl, jo⟩
 rename_i h4; rw [if_neg h4] at h; cases h
theorem Run.neqNilS {P : Program} {Γ : Env} {w : World} {dst : Option Nat} {T : TypeId} {pos : String} {after : Array Edge} {g : Option (Nat × Bool)} {t yT e : TypeId} {x y : Operand} {A : Option Addr} {n c : Nat} (hx : ev? Γ x = some (.slice A n c)) (hy : ev? Γ y = some (.slice none 0 0)) (ht : P.underlying t = some (.slice e)) :
  Run P ⟨dst, .binOp .neq t x y yT, T, pos, after, g⟩ Γ w (.bool (! A.isNone)) := fun ρ hρ => by
 have h0 : ∀ d : Nat, (Op.equalIn (d + 1) t (.slice A n c) (.slice none 0 0)).run P w = .ok A.isNone w := fun d => by
  cases A <;> simp [Op.equalIn, run_underlying ht]
 have h1 : (Op.equal t (.slice A n c) (.slice none 0 0)).run P w = .ok A.isNone w := h0 9999
 simp [execOp, hρ _ _ hx, hρ _ _ hy, eqGuard, binOp, h1]
theorem uP (w : World) : (zeroValue 117).run Tryz.prog w = .ok (.nilFunc) w := by
 simp only [zeroValue, Sem.run_bind, Tryz.typeInfo117, Result.andThen_ok]; rfl
theorem nP (v0 : World) (gp gc : Nat) (A : Option Addr) (n c : Nat) (tk : List Tk) (q : Nat) (cs : Array Value) (w : World) (hP : IsCp w gp gc A n c tk q cs) (hcs : cs[9]? = some (.slice none 0 0)) (hA : 0 < n → ∀ x ∈ ob A, x < v0.heap.size) (hK0 : Frm [] v0 w) (hgp : v0.heap.size ≤ gp ∧ v0.heap.size ≤ gc) (hl : ∀ x ∈ tk, x.2.length ≤ 50000) (hv : cN v0) (htb : Tab v0) : Calls Tryz.prog 35 #[jI0 gp] w fun e w' => match cM tk q with
   | none => e = .panicked dG ∧ Frm [gp, gc] w w'
   | some (sp, xs, q2) => e = .returned (.tuple #[]) ∧ ∃ gf gb Bs ds cs2, cU v0 w gf gb gp gc A n c tk (cs.setIfInBounds 8 (.slice Bs sp.length ds)) Bs ds sp xs w' q2 cs2 := by
 refine jV Tryz.func35 Tryz.ntmps35 Tryz.results35 ?_
 refine jS (jR ?_)
 refine Ops.m (qV.box rfl) rfl ?_
 rintro _ w1 ⟨rfl, hF1⟩
 obtain ⟨gb, hgb⟩ : ∃ g, g = w.heap.size := ⟨_, rfl⟩
 have hG : Blk w1 gb 61 #[jI0 gp] := by rw [hgb]; exact hF1.blk
 have hP1 := hP.frm hF1.frm
 rw [← hgb]
 refine jO (jN (jv1 1 ?_))
 refine jS ?_
 refine VC.heldL 8 (fun V => V.cell? ⟨gb, 0, none⟩ = some (jI0 gp) ∧ V.cell? ⟨gp, 2, none⟩ = some (jI0 gc)) jK ?_
 have hd := (qF.drew w1).frm
 have hPd := hP1.frm hd
 have hGd := hG.frm hd jp
 have hS : (fun V : World => V.cell? ⟨gb, 0, none⟩ = some (jI0 gp) ∧ V.cell? ⟨gp, 2, none⟩ = some (jI0 gc)) w1.drew := ⟨hGd.cell 0, hPd.p.cell 2⟩
 refine jH 0 rfl hS (fun w0 hw0 => Run.load rfl zcc hw0.1) ?_
 refine jH 1 rfl hS (fun w0 hw0 => Run.nilck rfl) ?_
 refine jH 2 rfl hS (fun w0 hw0 => Run.fieldAddr rfl zn rfl zat jd) ?_
 refine jH 3 rfl hS (fun w0 hw0 => Run.load rfl zbd hw0.2) ?_
 refine qJ.r1 4 rfl jK hS (Run.load rfl zcc hS.1) trivial rfl rfl ?_
 refine qJ.clp 5 rfl jK (jE1 Tryz.call69) (rC gp gc A n c tk q cs _ hPd (fun x hx => by have := hl x hx; omega)) trivial rfl rfl ?_
 rintro e w2 ⟨hf2, he⟩
 have K2 : Frm [gp, gc] w w2 := ((hF1.frm.trans hd jp).mono jp).trans hf2 (fun x hx => .inl (by simp at hx; simp [hx]))
 rcases hT : gZ tk q with _ | sp
 ·
  rw [hT] at he
  exact .inr ⟨_, he, qT (bX (by rw [show cM tk q = none by simp [cM, hT]]; exact ⟨rfl, K2⟩))⟩
 rw [hT] at he
 obtain ⟨Bs, ds, rfl, hP2, hoS, hupS⟩ := he
 have hG2 := hGd.frm hf2 (by simp; exact hGd.ne hPd.p jd)
 have hS : (fun V : World => V.cell? ⟨gb, 0, none⟩ = some (jI0 gp) ∧ V.cell? ⟨gp, 2, none⟩ = some (jI0 gc)) w2 := ⟨hG2.cell 0, hP2.p.cell 2⟩
 refine .inl ⟨_, rfl, hS, ?_⟩
 refine qJ.r1 6 rfl jK hS (Run.nilck rfl) trivial rfl rfl ?_
 refine qJ.r1 7 rfl jK hS (Run.fieldAddr rfl zp rfl zcr jd) trivial rfl rfl ?_
 refine qJ.stL rfl jK (qZ.store (i := 8) rfl rfl zcr hP2.k (by rw [hP2.sz]; rfl) rfl) trivial rfl ?_
 rintro w3 ⟨hb3, hf3, hs3⟩
 have hf3 : Frm [gc] w2 w3 := hf3
 obtain ⟨csS, hcsS⟩ : ∃ x, x = cs.setIfInBounds 8 (.slice Bs sp.length ds) := ⟨_, rfl⟩
 have hP3 : IsCp w3 gp gc A n c tk (q + 1) csS := by rw [hcsS]; exact hP2.turn hb3 (by simp [hP2.sz]) hf3
 have hG3 := hG2.frm hf3 (by simp; exact hG2.ne hP2.k jd)
 have hoS := hoS.one hf3 hP2.k jd
 have h9 : csS[9]? = some (.slice none 0 0) := by rw [hcsS, zah, if_neg jd]; exact hcs
 have K3 : Frm [gp, gc] w w3 := K2.trans hf3 (fun x hx => .inl (by simp at hx; simp [hx]))
 refine qJ.done jK ?_
 refine jN (jv1 1 ?_)
 refine jS (jR (je (Run.mkFunc evs.nil (evs.cons rfl evs.nil)) ?_))
 refine Ops.m (qV.alloc uP) rfl ?_
 rintro _ w4 ⟨rfl, hF4⟩
 obtain ⟨gf, hgf⟩ : ∃ g, g = w3.heap.size := ⟨_, rfl⟩
 have hb4 := hF4.blk
 rw [← hgf] at hb4 ⊢
 refine Ops.st (qZ.store (i := 0) rfl rfl Tryz.sizeOf117 hb4 rfl rfl) ?_
 rintro w5 ⟨hFf, hf5, hs5⟩
 have hFf : Blk w5 gf 117 #[.func (.func 70) ([] : List Value).toArray ([jI0 gb] : List Value).toArray] := hFf
 have hf45 : Frm [] w3 w5 := hF4.frm.own hf5 (fun x hx => by rw [ze] at hx; omega)
 have hP5 := hP3.frm hf45
 have hG5 := hG3.frm hf45 jp
 have hoS := hoS.frm hf45 jp
 have K5 := K3.trans hf45 jp
 have hX5 : cU v0 w gf gb gp gc A n c tk csS Bs ds sp [] w5 (q + 1) csS := ⟨none, 0, [], rfl, IsIt.nil _ _, h9, fun _ => rfl, hP5, hFf, hG5, hoS, K5, fun _ h => absurd h (by simp [ob])⟩
 clear hFf hoS
 refine jO (jN (jv2 1 2 ?_))
 refine jS (jS (jR (jl rfl zcc (hG5.cell 0) ?_)))
 refine jc (jE3 Tryz.call61) (jP 0 2 gp gc A n c tk (q + 1) csS w5 hP5 jo) ?_
 rintro e w6 ⟨hf6, rfl⟩
 refine ⟨_, rfl, ?_⟩
 have hX6 := hX5.frm hf6
 have hG6 := hG5.frm hf6 jp
 have hP6 := hP5.frm hf6
 have K6 := K5.trans hf6 jp
 rw [Nat.add_zero]
 have hbase : ∀ W, Frm [gp, gc] w W → Frm [] v0 W := fun W k => hK0.own k (by simp; exact hgp)
 clear hX5
 refine jO (jN (jv3 1 2 17 ?_))
 refine VC.condB rfl (fun hc1 => ?_) (fun hc1 => ?_)
 ·
  have hit : IsT tk (q + 1) 2 := by simpa using hc1
  have hfm : cM tk q = (fY tk (lZ tk) 1 16 (q + 1)).map fun p => (sp, (List.range p.2).map (fun i => (eM tk (q + 2 + i)).getD it0), p.1 + 1) := by unfold cM; rw [hT, zap, if_pos hit]
  rw [hfm]
  have hone : ∀ j W q1 cs1, j < 16 → ¬ IsT tk q1 3 → (j ≤ 16 ∧ q1 = q + 2 + j ∧ cU v0 w gf gb gp gc A n c tk csS Bs ds sp ((List.range j).map fun i => (eM tk (q + 2 + i)).getD it0) W q1 cs1) → Calls Tryz.prog 72 ([jI0 gf, jI0 gb] : List Value).toArray W fun e w' => match lZ tk j q1 with
     | none => e = .panicked dG ∧ Frm [gp, gc] w w'
     | some q2 => e = .returned (.tuple #[]) ∧ ∃ cs2, (j + 1 ≤ 16 ∧ q2 = q + 2 + (j + 1) ∧ cU v0 w gf gb gp gc A n c tk csS Bs ds sp ((List.range (j + 1)).map fun i => (eM tk (q + 2 + i)).getD it0) w' q2 cs2) := by
   intro j W q1 cs1 hj hn3 h
   obtain ⟨_, hq1, I, d, rs, h1, h2, h3, h4, h5, h6, h7, h8, h9, h10⟩ := h
   have hln : rs.length = j := by have := congrArg List.length h1; simpa using this
   refine (pK v0 gf gb d I rs gp gc A n c tk q1 cs1 W h5 h6 h7 h2 h3 hA (hbase W h9) hgp.1 jo hl hv htb).mono fun e w' he => ?_
   unfold lZ
   rcases hi : eM tk q1 with _ | x
   ·
    rw [hi] at he
    exact ⟨he.1, h9.trans he.2 (fun y hy => .inl (by simp at hy; simp [hy]))⟩
   rw [hi] at he
   obtain ⟨he, I', d', r, hr, g2, g5, k, hu⟩ := he
   refine ⟨he, cs1.setIfInBounds 9 (.slice I' (rs.length + 1) d'), jo, (by show q1 + 1 = _; omega), ?_⟩
   have := cU.add h1 h2 h4 h5 h6 h7 h8 h9 h10 g2 g5 k hu
   rw [List.range_succ, zcw, List.map_singleton, ← hq1, hi]
   rw [hr] at this
   exact this
  refine jS (jR (jl rfl zcc (hG6.cell 0) (je (Run.mkFunc evs.nil (evs.cons rfl (evs.cons rfl evs.nil))) ?_)))
  refine Ops.clp (jE4 Tryz.call62) (pQ 72 [] [jI0 gf, jI0 gb] 1 16 (lZ tk) (fun j W q1 cs1 => j ≤ 16 ∧ q1 = q + 2 + j ∧ cU v0 w gf gb gp gc A n c tk csS Bs ds sp ((List.range j).map fun i => (eM tk (q + 2 + i)).getD it0) W q1 cs1) w gp gc A n c tk (q + 1) csS w6 hP6 K6 jo jo Tryz.call72 (fun W k hP => ⟨zau _, rfl, hX6.read k hP⟩) (fun j W q1 cs1 h => by obtain ⟨_, _, I, d, rs, h1, h2, h3, h4, h5, h6, h7, h8, h9, h10⟩ := h; exact ⟨h5, h9⟩) (fun j W W' q1 cs1 h k => ⟨h.1, h.2.1, h.2.2.frm k⟩) hone) rfl ?_
  rintro e w7 he
  rcases hL : fY tk (lZ tk) 1 16 (q + 1) with _ | ⟨q2, j⟩
  ·
   rw [hL] at he
   exact .inr ⟨_, he.1, qT (qT (bX ⟨rfl, he.2⟩))⟩
  rw [hL] at he
  obtain ⟨rfl, cs2, W1, ⟨_, _, hX7⟩, hf7, hP7⟩ := he
  refine .inl ⟨_, rfl, ?_⟩
  refine jO (jN ?_)
  refine VC.sub [] .nil ?_
  refine jT ?_
  refine qQ (sP ?_)
  refine ⟨rfl, gf, gb, Bs, ds, cs2, ?_⟩
  rw [← hcsS]
  exact hX7.read hf7 hP7
 have hit : ¬ IsT tk (q + 1) 2 := by simpa using hc1
 have hfm : cM tk q = (qL tk (q + 1) [0]).bind fun s => if bD (qH s) = [] then (bU s).map fun x => (sp, [x], q + 2) else some (sp, (bD (qH s)).map (fun m => (bU m).getD it0), q + 2) := by unfold cM; rw [hT, zap, if_neg hit]
 rw [hfm]
 refine jQ (jN (jv2 1 2 ?_))
 refine jS (jR (jl rfl zcc (hG6.cell 0) ?_))
 refine Ops.m (qV.buildS1 rfl zi zc fV jd jd rfl rfl) rfl ?_
 rintro _ w7 ⟨rfl, hF7⟩
 have hK7 : Rd w7 1 (some ⟨w6.heap.size, 0, none⟩) 1 (IB [0]) := Rd.of_blk (n := 1) (size := 1) hF7.blk rfl
 have hPl := hP6.lt
 have hX7 := hX6.frm hF7.frm
 refine Ops.clp (jE2 Tryz.call31) (cI (some ⟨w6.heap.size, 0, none⟩) 1 1 [0] gp gc A n c tk (q + 1) csS w7 (hP6.frm hF7.frm) rfl jo hK7 (fun _ x hx => by rw [ze.1 hx]; show w6.heap.size ≠ gp; omega)) rfl ?_
 rintro e w8 ⟨hf8, he⟩
 rcases hTk : qL tk (q + 1) [0] with _ | s
 ·
  rw [hTk] at he
  exact .inr ⟨_, he, qT (bX ⟨rfl, (K6.trans hF7.frm jp).trans hf8 (fun x hx => .inl (by simp at hx; simp [hx]))⟩)⟩
 rw [hTk] at he
 obtain ⟨rfl, hP8⟩ := he
 have hsl := eB hTk hl
 have hX8 := hX7.read hf8 hP8
 rw [zap]
 refine .inl ⟨_, rfl, ?_⟩
 refine ja rfl (jO (jN (jv2 2 3 ?_)))
 refine jS (jS (jR (jM ?_)))
 refine jc (jE1 Tryz.call30) (eJ s w8 jo) ?_
 rintro e w9 ⟨rfl, hf9⟩
 refine ⟨_, rfl, ?_⟩
 have hX9 := hX8.frm hf9
 refine jc (jE1 Tryz.call73) (nN (qH s) w9) ?_
 rintro e wa ⟨hfa, Bm, dm, rfl, hRm, hm0, hm1, hdm⟩
 refine ⟨_, rfl, ?_⟩
 have hXa := hX9.frm hfa
 refine ja rfl (jO (jN (jv3 2 3 4 ?_)))
 refine jS (jR (jm rfl (je (Run.neqNilS rfl rfl zk) (jO (jN (jv4 2 3 4 28 ?_))))))
 refine VC.condB rfl (fun hc2 => ?_) (fun hc2 => ?_)
 ·
  have hmn : bD (qH s) ≠ [] := fun h0 => by
   obtain ⟨h1, h2⟩ := hm0 h0
   rw [h1] at hc2
   simp at hc2
  obtain ⟨gm, hgm, hbm⟩ := hm1 hmn
  subst hgm
  rw [if_neg hmn]
  obtain ⟨ml, hml⟩ : ∃ ml, ml = bD (qH s) := ⟨_, rfl⟩
  have hmat : ∀ k, k < ml.length → ml[k]? = cV[k]? ∧ k < 5 := by rw [hml]; exact fun k hk => uN _ hk
  have hmL : ml.length ≤ 5 := by rcases Nat.lt_or_ge 5 ml.length with h | h; exact absurd (hmat 5 h).2 jo; exact h
  rw [← hml] at hdm ⊢
  clear hRm hm0 hm1
  refine jS (jS (jR (jm rfl (jL rfl zk ?_))))
  refine jx .i64 0 ?_
  refine jO (jN (jv4 2 29 30 31 ?_))
  refine jB ?_
  refine VC.loop (σ := Nat × Array Value) (fun s => [(2, jI0 gf), (29, .slice (some ⟨gm, 0, none⟩) ml.length dm), (30, jI1 ml.length), (31, jI1 s.1)]) (fun s wr => s.1 ≤ ml.length ∧ Blk wr gm 9 (SB cV).toArray ∧ cU v0 w gf gb gp gc A n c tk csS Bs ds sp ((ml.take s.1).map fun m => (bU m).getD it0) wr (q + 2) s.2) (fun s => ml.length - s.1) (0, csS) (js4 rfl rfl rfl rfl) ⟨zau _, hbm, hXa⟩ ?_
  clear hXa hbm
  rintro ⟨k, cs1⟩ wr ⟨hk, hbm, hXk⟩
  dsimp only at hk hXk ⊢
  obtain ⟨I, d, rs, x1, x2, x3, x4, x5, x6, x7, x8, x9, x10⟩ := hXk
  have hrl : rs.length ≤ 5 := by have := congrArg List.length x1; simp at this; omega
  refine jS (jR (jb rfl rfl (Bin.lssN _ _) (jO (jN (jS ?_)))))
  refine jD rfl (fun hc3 => ?_) fun hc3 => ?_
  ·
   have hk3 : k < ml.length := by simpa using hc3
   have hm5 := hmat k hk3
   obtain ⟨mk, hmk⟩ : ∃ mk, cV[k]? = some mk := ⟨_, zb (show k < cV.length from hm5.2)⟩
   have hmem : mk ∈ cV := zbl hmk
   obtain ⟨xk, hxk⟩ := rF mk hmem
   refine jQ (jN (jv4 2 29 30 31 ?_))
   refine jS (jB (jS (jR (je (Run.index1 _ rfl rfl zk zd jo) (jl rfl zh (v := encStr mk) (hbm.cells k _ (by simp [SB, hmk])) (ja rfl (jO (jN (jv5 2 6 29 30 31 ?_)))))))))
   refine jR (jl rfl Tryz.isAgg117 (x6.cell 0) (jM ?_))
   refine Ops.clp (qD.dyn rfl (evs.cons rfl evs.nil) Tryz.call70) (gJ mk gb v0.heap.size d I rs gp gc A n c tk (q + 2) cs1 wr x5 x7 x2 x3 hA (hbase _ x9).size jo (tH mk hmem) (hv.frm0 (hbase _ x9)) (htb.frm (hbase _ x9))) rfl ?_
   rintro e wb he
   rw [hxk] at he
   obtain ⟨rfl, I3, d3, r, hr, g2, g5, kf, hu⟩ := he
   have hXb := cU.add x1 x2 x4 x5 x6 x7 x8 x9 x10 g2 g5 (kf.mono (fun y hy => by simp at hy; rcases hy with h | h <;> simp [h])) hu
   have hbm := hbm.frm kf (by simp; exact ⟨hbm.ne x5.k jd, x2.row.ne_blk hbm jd⟩)
   refine .inl ⟨_, rfl, ?_⟩
   refine jO ?_
   refine qW (jN ?_)
   refine jv4 2 29 30 31 ?_
   refine jR (jb rfl rfl (Bin.add_i64 _ 1 jo) (jm rfl (jO ?_)))
   refine jN ⟨(k + 1, cs1.setIfInBounds 9 (.slice I3 (rs.length + 1) d3)), (js4 rfl rfl rfl rfl), ?_, ?_⟩
   ·
    refine ⟨hk3, hbm, ?_⟩
    rw [zba, zcw, hm5.1, hmk]
    rw [hr] at hXb
    show cU v0 w gf gb gp gc A n c tk csS Bs ds sp (_ ++ [(bU mk).getD it0]) wb (q + 2) _
    rw [hxk]
    exact hXb
   exact jq
  have hnk : ¬ k < ml.length := by simpa using hc3
  have hk3 : k = ml.length := by omega
  refine jX ?_
  refine qK (qK (qS ?_))
  refine jN ?_
  refine VC.sub [] .nil ?_
  refine jT ?_
  refine qQ (sP ?_)
  refine ⟨rfl, gf, gb, Bs, ds, cs1, ?_⟩
  rw [← hcsS]
  rw [hk3, zr (zai _)] at x1
  exact ⟨I, d, rs, x1, x2, x3, x4, x5, x6, x7, x8, x9, x10⟩
 have hmn : bD (qH s) = [] := by
  rcases hq : bD (qH s) with _ | ⟨a, r⟩
  · rfl
  obtain ⟨g, h1, _⟩ := hm1 (by rw [hq]; exact List.cons_ne_nil _ _)
  rw [h1] at hc2
  simp at hc2
 rw [if_pos hmn]
 obtain ⟨I, d, rs, x1, x2, x3, x4, x5, x6, x7, x8, x9, x10⟩ := hXa
 have hr0 : rs = [] := List.map_eq_nil_iff.1 x1
 refine jQ (jN (jv2 2 3 ?_))
 refine jR (jl rfl Tryz.isAgg117 (x6.cell 0) (jM ?_))
 refine Ops.clp (qD.dyn rfl (evs.cons rfl evs.nil) Tryz.call70) (gJ s gb v0.heap.size d I rs gp gc A n c tk (q + 2) csS wa x5 x7 x2 x3 hA (hbase _ x9).size (by rw [hr0]; exact zau _) hsl (hv.frm0 (hbase _ x9)) (htb.frm (hbase _ x9))) rfl ?_
 rintro e wb he
 rcases hi : bU s with _ | x
 ·
  rw [hi] at he
  exact .inr ⟨_, he.1, bX ⟨rfl, x9.trans he.2 jp⟩⟩
 rw [hi] at he
 obtain ⟨rfl, I3, d3, r, hr, g2, g5, kf, hu⟩ := he
 have hXb := cU.add x1 x2 x4 x5 x6 x7 x8 x9 x10 g2 g5 (kf.mono (fun y hy => by simp at hy; rcases hy with h | h <;> simp [h])) hu
 refine .inl ⟨_, rfl, ?_⟩
 refine jO ?_
 refine dB ?_
 refine ⟨rfl, gf, gb, Bs, ds, csS.setIfInBounds 9 (.slice I3 (rs.length + 1) d3), ?_⟩
 rw [← hcsS]
 rw [hr] at hXb
 exact hXb
def cE (tag : Tx) : Array Value := #[encStr tag, encStr [], .bool false, encStr [], encStr [], .slice none 0 0, .int .i64 0, .bool false, .slice none 0 0, .slice none 0 0, .int .i64 0, encStr [], encStr [], .int .i64 0, .slice none 0 0, .slice none 0 0, .int .i64 0, .int .i64 0, .bool false, .slice none 0 0]
theorem gK (tag : Tx) : ∀ u ∈ (cE tag).toList, u.oneCell' = true := by
 intro u hu
 simp only [cE, zak, zax, or_false] at hu
 rcases hu with rfl | rfl | rfl | rfl | rfl | rfl | rfl | rfl | rfl | rfl | rfl | rfl | rfl | rfl | rfl | rfl | rfl | rfl | rfl | rfl <;> rfl
theorem eT (g1 g2 g3 : Nat) (A : Option Addr) (n c : Nat) (tk : List Tk) (cs : Array Value) (v3 : Value) (w : World) (hT : Blk w g1 23 #[.slice A n c]) (hO : Blk w g2 34 cs) (hsz : cs.size = 20) (h3 : Blk w g3 35 #[v3]) (hR : RdT w A n tk) (hn : 0 < n) :
  CallsD Tryz.prog 17 #[jI0 g1, jI0 g2, jI0 g3] (.panicking dG) w fun e u w' => (∃ v, e = .returned v) ∧ settle u = .returning ∧ Blk w' g2 34 (cE (tk.getD 0 tk0).2) ∧ Blk w' g3 35 #[.int .i64 20] ∧ Frm [g2, g3] w w' := by
 obtain ⟨ad, hA, hel⟩ := hR.cell hn
 subst hA
 have hne : g2 ≠ g3 := hO.ne h3 jd
 refine VC.recovered (nt := 12) (res := #[]) (u' := .panicking [{ v := .iface 89 (.agg #[]), recovered := true }]) (v := .iface 89 (.agg #[])) Tryz.func17 rfl Tryz.ntmps17 Tryz.results17 rfl (.inl ⟨[], rfl, rfl⟩) rfl rfl rfl rfl rfl rfl rfl rfl ?_
 refine jS (jR (jm rfl (je (Run.neqNilI rfl rfl zbm rfl) (jO (jN (jv4 0 1 2 6 ?_))))))
 refine VC.condT rfl (rfl) ?_
 refine jR (jl rfl zbp (hT.cell 0) (je (Run.indexS 0 rfl rfl zab zw jo) (jf rfl zaz rfl zd (jl rfl zh (hel _ (Frm.refl _ _) 1 _ rfl) (je (Run.build (evs.cons rfl evs.nil) eW (dA).choose_spec.1 (dA).choose_spec.2 (cells := cE (tk.getD 0 tk0).2) rfl) ?_)))))
 refine Ops.st (qZ.storeA rfl rfl zay hO hsz.symm (gK _)) ?_
 rintro w1 ⟨hb1, hf1, hs1⟩
 refine Ops.st (qZ.store (i := 0) (v := .int .i64 20) rfl rfl Tryz.sizeOf35 (h3.frm hf1 (by simp; omega)) rfl rfl) ?_
 rintro w2 ⟨hb2, hf2, hs2⟩
 refine jO ?_
 refine dB ?_
 exact ⟨⟨_, rfl⟩, rfl, hb1.frm hf2 (by simp; omega), hb2, (hf1.mono (T := [g2, g3]) jp).trans hf2 (fun x hx => .inl (by simp at hx; simp [hx]))⟩
theorem pV (g1 g2 g3 : Nat) (w : World) :
  CallsD Tryz.prog 17 #[jI0 g1, jI0 g2, jI0 g3] .returning w fun e u w' => (∃ v, e = .returned v) ∧ settle u = .returning ∧ w' = w := by
 refine VC.recovered (nt := 12) (res := #[]) (u' := .returning) (v := .nilIface) Tryz.func17 rfl Tryz.ntmps17 Tryz.results17 rfl (.inr ⟨rfl, rfl, rfl⟩) rfl rfl rfl rfl rfl rfl rfl rfl ?_
 refine jS (jR (jm rfl (je (Run.neqNil2 rfl zbm rfl) (jO (jN (jv4 0 1 2 6 ?_))))))
 refine VC.condF rfl (rfl) ?_
 refine jQ ?_
 refine dB ?_
 exact ⟨⟨_, rfl⟩, rfl, rfl⟩
end
section
open Go.RowKit
open Go.Maps (Keyed)
section
variable {P : Program} {k : TypeId} {κ : Type} {enc : κ → Value} {w : World} {g : Nat} {M : κ → Option Value} {Γ : Env} {dst : Option Tmp} {T : TypeId} {pos : String} {after : Array Edge} {gd : Option (Nat × Bool)}
theorem rA {t e : TypeId} {z : Value} {x : κ} {kl : Lit} (h : MpF P k enc w g M) (K : Keyed P k) (ht : P.underlying t = some (.map k e)) (hz : (zeroValue e).run P w = .ok z w) (hkey : keyOf P k (enc x) = some kl) :
  (Instr.lookup t (.map (some g)) (enc x) true).run P w = .ok (.tuple #[(M x).getD z, .bool (M x).isSome]) w := by
 obtain ⟨es, clock, hb, h2, h3, h4⟩ := h
 rcases K.find w hkey es (fun e he => (h2 e he).1) with ⟨h5, h6⟩ | ⟨j, e0, h5, h6, h7⟩
 ·
  have hM : M x = none := by
   cases hm : M x with
   | none => rfl
   | some v =>
    obtain ⟨e1, he1, he2, _⟩ := (h4 x v).1 hm
    exact absurd he2 (h6 e1 he1)
  rw [hM]
  simp [Instr.lookup, run_underlying ht, MapKept.run_getObj_map hb, K.check w _ hkey, h5, hz, Result.andThen]
 have hM : M x = some e0.val := (h4 x e0.val).2 ⟨e0, zbl h6, h7, rfl⟩
 rw [hM]
 simp [Instr.lookup, run_underlying ht, MapKept.run_getObj_map hb, K.check w _ hkey, h5, hz, Result.andThen]
theorem Run.lookup2 {t e : TypeId} {a b : Operand} {z : Value} {x : κ} {kl : Lit} (ha : ev? Γ a = some (.map (some g))) (hb : ev? Γ b = some (enc x)) (h : MpF P k enc w g M) (K : Keyed P k) (ht : P.underlying t = some (.map k e)) (hz : ∀ w, (zeroValue e).run P w = .ok z w) (hkey : keyOf P k (enc x) = some kl) :
  Run P ⟨dst, .lookup t a b true, T, pos, after, gd⟩ Γ w (.tuple #[(M x).getD z, .bool (M x).isSome]) := fun ρ hρ => by
 simp [execOp, hρ _ _ ha, hρ _ _ hb, rA h K ht (hz w) hkey]
end
end
section
open Go.RowKit
def eK (ts : List Tmp) (a a' : Act) : Prop := ∀ t ∈ ts, a'.tmps.getD t undef = a.tmps.getD t undef
theorem eK.put {ts : List Tmp} {a0 a : Act} {d : Option Tmp} {v : Value} (h : eK ts a0 a) (hd : ∀ t ∈ ts, d ≠ some t) : eK ts a0 (a.put d v) := fun t ht => by
 rw [← h t ht]
 cases d with
 | none => rfl
 | some k =>
  have hk : k ≠ t := fun e => hd t ht (by rw [e])
  simp [Act.put, zah, hk]
section
variable {P : Program} {ops : Array Oper} {Q : Exit → Act → World → Prop} {S : World → Prop} {L : Nat} {ts : List Tmp} {a0 : Act}
theorem tM {o : Oper} {a : Act} {w : World} {K : Act → World → Prop} (hd : ∀ t ∈ ts, o.dst ≠ some t) (ha : eK ts a0 a) (hh : o.wp P a w K Q) :
  o.wp P a w (fun a' w' => K a' w' ∧ eK ts a0 a') (fun e a' w' => Q e a' w' ∧ ∀ ch, e = .panic ch → eK ts a0 a') := by
 unfold Oper.wp at *
 generalize (execOp a.eval o).run P w = r at *
 cases r with
 | ok n w' =>
  cases n <;> simp only [Oper.upon] at hh ⊢
  case value => exact ⟨hh, ha.put hd⟩
  case skip => exact ⟨hh, ha.put hd⟩
  case defer => exact ⟨hh, eK.put (a := { a with defers := _ }) ha hd⟩
  case enter => exact Calls.mono hh (fun e w'' he => by
   cases e with
   | returned v => exact ⟨he, ha.put hd⟩
   | panicked ch => exact ⟨he, fun _ _ => ha⟩
   | outgrown => obtain ⟨a1, w1, h1⟩ := he; exact ⟨a1, w1, h1, fun ch h => by cases h⟩)
  case row => exact Rows.mono hh (fun _ _ he => ⟨he, ha.put hd⟩)
 | halt x w' => cases x <;> simp only [Oper.upon] at hh ⊢ <;> first | exact hh | exact ⟨hh, fun _ _ => ha⟩
theorem dE (hops : ∀ (i : Nat) (o : Oper), ops[i]? = some o → ∀ t ∈ ts, o.dst ≠ some t) : ∀ (f : Nat) (listed : Array Bool) (a : Act) (w : World), eK ts a0 a → bO P ops Q S L f listed a w →
  bO P ops (fun e a' w' => Q e a' w' ∧ ∀ ch, e = .panic ch → eK ts a0 a') S L f listed a w
 | 0, _, _, _, _, h => ⟨h.1, h.2, fun ch h => by cases h⟩
 | f + 1, listed, a, w, ha, h => ⟨fun hr => ⟨h.1 hr, fun ch h => by cases h⟩, fun i hi => by
   have h2 := h.2 i hi
   unfold wpOp at h2 ⊢
   cases ho : ops[i]? with
   | none => rw [ho] at h2; exact ⟨h2.1, dE hops f _ a w ha h2.2⟩
   | some o =>
    rw [ho] at h2
    dsimp only at h2 ⊢
    split
    ·
     rename_i hw
     rw [if_pos hw] at h2
     rcases h2 with h2 | ⟨h2, a1, w1, h3⟩
     · exact .inl (Oper.wp_mono (fun a' w' h4 => ⟨h4.1.1, dE hops f _ a' w' h4.2 h4.1.2⟩) (tM (hops i o ho) ha h2))
     exact .inr ⟨h2, a1, w1, h3, fun ch h => by cases h⟩
    rename_i hw
    rw [if_neg hw] at h2
    exact ⟨h2.1, dE hops f _ _ w (ha.put (hops i o ho)) h2.2⟩⟩
end
section
variable {P : Program} {n : NF} {Γ : Env} {w : World} {Q : Exit → Env → World → Prop}
theorem nI {t : Nat} {v : Value} : ∀ {Γ : Env}, get? Γ t = some v → t ∈ Γ.map (·.1)
 | [], h => by cases h
 | (k, u) :: r, h => by
  unfold get? at h
  cases hb : Nat.beq k t with
  | true => rw [zbh hb]; simp
  | false => rw [hb] at h; exact List.mem_cons_of_mem _ (nI h)
def vG (Γ0 : Env) (l : List Oper) : Bool := l.all fun o => match o.dst with | none => true | some d => Γ0.all fun b => ! Nat.beq b.1 d
theorem VC.heldK {id : Nat} {l : List Oper} (Γ0 : Env) (L : Nat) (S : World → Prop) (hm : P.follows .mixedOrders = true) (hsub : Sub Γ Γ0) (hsp : vG Γ0 l = true)
  (h : qJ P n l.toArray S (fun ch w' => Q (.panic ch) Γ0 w') L l.toArray.size (Array.replicate l.toArray.size false) Γ w.drew (fun Γ' w' => Q .normal Γ' w')) (hnd : n.ro = none ∨ cS l.toArray = true := by first | exact .inl rfl | exact .inr jK) : VC P n (.region id l.toArray true) Γ w Q := by
 intro a hs m
 have hk := dE (a0 := a) (ts := Γ0.map (·.1)) (fun i o ho t ht hd => by
  have h1 := List.all_eq_true.1 hsp o (zbl (by simpa using ho))
  rw [hd] at h1
  obtain ⟨b, hb, rfl⟩ := List.mem_map.1 ht
  have h2 := List.all_eq_true.1 h1 b hb
  simp at h2) _ _ _ _ (fun _ _ => rfl) (h a hs)
 refine wpIn_mono (Q := fun e a' w' => fD n (fun Γ' w' => Q .normal Γ' w') (fun ch w' => Q (.panic ch) Γ0 w') e a' w' ∧ ∀ ch, e = .panic ch → eK (Γ0.map (·.1)) a a') (wpIn_region_any hm (fB hnd (fun ⟨_, _, h⟩ => h.1) _ _ _ _ (fC _ _ _ _ hk))) ?_
 intro e a' w hq
 cases e with
 | normal => exact hq.1
 | panic ch =>
  refine ⟨Γ0, ⟨hq.1.1.1, hq.1.1.2, fun t v hg => ?_⟩, hq.1.2⟩
  have hmem := nI hg
  rw [hq.2 ch rfl t hmem]
  exact hs.at_ t v (hsub.get t v hg)
 | _ => exact hq.1.elim
end
def gC (tag nm : Tx) : Array Value := (cE tag).setIfInBounds 1 (encStr nm)
def pW (tag nm : Tx) : Array Value := (gC tag nm).setIfInBounds 2 (.bool true)
def kD (tk : List Tk) : Tx := if 0 < tk.length ∧ (tk.getD 0 tk0).1 = 0 then (tk.getD 0 tk0).2 else []
def cF (tk : List Tk) (D : Tx → Option Nat) : Option Unit := if 0 < tk.length ∧ (tk.getD 0 tk0).1 = 0 then (qL tk 1 [0]).bind fun s => if (eS (qH s)).isSome then (D (qH s)).bind fun q => if q = tk.length then some () else none else none else none
def lJ (w : World) (A : Option Addr) (n c : Nat) (tk : List Tk) (q0 : Nat) (C : Tx → Array Value) (D : Tx → Option Nat) (Y : World → Array Value → Prop) (nm : Tx) (f : Nat) : Prop :=
 ∀ W gp gc cs, IsCp W gp gc A n c tk q0 cs → cs = C nm → Frm [] w W → w.heap.size ≤ gp → w.heap.size ≤ gc → Calls Tryz.prog f #[jI0 gp] W fun e w' => match D nm with
  | none => e = .panicked dG ∧ Frm [gp, gc] W w'
  | some q2 => e = .returned (.tuple #[]) ∧ ∃ cs2, IsCp w' gp gc A n c tk q2 cs2 ∧ Frm [gp, gc] W w' ∧ Y w' cs2 ∧ ∀ u ∈ cs2.toList, u.oneCell' = true
theorem rI (w : World) : (zeroValue 66).run Tryz.prog w = .ok (.nilFunc) w := by
 simp only [zeroValue, Sem.run_bind, Tryz.typeInfo66, Result.andThen_ok]; rfl
theorem gL {Γ : Env} {w : World} {R : Ending → World → Prop} {g2 g3 : Nat} {cs : Array Value} {v3 : Value} (e2 : get? Γ 2 = some (jI0 g2)) (e3 : get? Γ 3 = some (jI0 g3)) (h2 : Blk w g2 34 cs) (h3 : Blk w g3 35 #[v3]) (hs : cs.size = 20)
  (k : R (.returned (.tuple #[.agg cs, v3])) w) : cG Tryz.prog #[.cell 2 34, .cell 3 35] R .ret Γ w :=
 cJ (qI e2 Tryz.isAgg34 zay h2.cells hs (dY e3 Tryz.isAgg35 (h3.cell 0) (bW k)))
theorem eV (A : Option Addr) (n c : Nat) (tk : List Tk) (D : Tx → Option Nat) (Y : World → Array Value → Prop) (w : World) (hR : RdT w A n tk) (hn : n ≤ 100000) (hl : ∀ x ∈ tk, x.2.length ≤ 1000000) (hYf : ∀ W W' g t csx cs, Y W cs → Blk W g t csx → (t = 34 ∨ t = 35) → Frm [g] W W' → Y W' cs)
  (hD : ∀ s, qL tk 1 [0] = some s → ∀ fv, eS (qH s) = some fv → ∃ f, fv = .func (.func f) ([] : List Value).toArray ([] : List Value).toArray ∧ (∀ args w, (callFunc f args).run Tryz.prog w = .ok (.enter f args) w) ∧ lJ w A n c tk 2 (gC (kD tk)) D Y (qH s) f) :
  Calls Tryz.prog 10 #[.slice A n c] w fun e w' => Frm [] w w' ∧ ∃ cs' code, e = .returned (.tuple #[.agg cs', .int .i64 code]) ∧ match cF tk D with
   | none => cs' = cE (kD tk) ∧ code = 20
   | some _ => code = 0 ∧ cs'.size = 20 ∧ Y w' cs' := by
 refine LW.calls (nt := 67) Tryz.func10 rfl Tryz.ntmps10 rfl ?_
 refine LW.seq ?_
 refine jR ?_
 refine Ops.m (qV.box rfl) rfl ?_
 rintro _ w1 ⟨rfl, hF1⟩
 obtain ⟨g1, hg1⟩ : ∃ g, g = w.heap.size := ⟨_, rfl⟩
 have hb1 := hF1.blk
 have s1 := hF1.size
 rw [← hg1] at hb1 ⊢
 refine Ops.m (qV.alloc eW) rfl ?_
 rintro _ w2 ⟨rfl, hF2⟩
 obtain ⟨g2, hg2⟩ : ∃ g, g = w1.heap.size := ⟨_, rfl⟩
 have hb2 := hF2.blk
 have s2 := hF2.size
 rw [← hg2] at hb2 ⊢
 refine Ops.m (qV.alloc pC) rfl ?_
 rintro _ w3 ⟨rfl, hF3⟩
 obtain ⟨g3, hg3⟩ : ∃ g, g = w2.heap.size := ⟨_, rfl⟩
 have hb3 := hF3.blk
 have s3 := hF3.size
 rw [← hg3] at hb3 ⊢
 have K3 : Frm [] w w3 := (hF1.frm.trans hF2.frm jp).trans hF3.frm jp
 have hb1 : Blk w3 g1 23 #[.slice A n c] := (hb1.frm hF2.frm jp).frm hF3.frm jp
 have hb2 : Blk w3 g2 34 (cE []) := hb2.frm hF3.frm jp
 have hR3 := hR.frm K3 jp
 have hln := hR.len
 refine jO (jN ?_)
 refine LW.seq ?_
 refine jS ?_
 refine VC.split1 [(1, _), (2, _), (3, _)] (js3 rfl rfl rfl) 16 (.bool (decide (n = 0 ∨ (tk.getD 0 tk0).1 ≠ 0))) ?_ ?_
 ·
  refine jR (jl rfl zbp (hb1.cell 0) (jL rfl zab (jb rfl rfl (Bin.eqlN _ 0) ?_)))
  by_cases hs9 : n = 0
  ·
   refine jM ?_
   refine jU ?_
   refine jU ?_
   refine jU ?_
   refine jU ?_
   refine jU ?_
   refine jW rfl rfl au (jO ?_)
   refine jN ⟨(js4 (jC (by grind)) rfl rfl rfl), rfl⟩
  refine jM ?_
  refine jk (Run.load rfl zbp (hb1.cell 0)) ?_
  obtain ⟨ad, hA, hel⟩ := hR3.cell (k := 0) jo
  subst hA
  refine jk (Run.indexS 0 rfl rfl zab zw jo) ?_
  refine jk (Run.fieldAddr rfl zaz rfl zc jd) ?_
  refine jk (Run.load rfl zl (hel _ (Frm.refl _ _) 0 _ rfl)) ?_
  refine jk (Run.bin rfl rfl (Bin.neq _ 0)) ?_
  by_cases hs15 : (tk.getD 0 tk0).1 ≠ 0
  ·
   refine jF rfl rfl au (jO ?_)
   refine jN ⟨(js4 (jC (by grind)) rfl rfl rfl), rfl⟩
  refine jF rfl rfl au (jO ?_)
  refine jN ⟨(js4 (jC (by grind)) rfl rfl rfl), rfl⟩
 intro Γ hΓ
 refine jN (VC.sub _ hΓ ?_)
 refine jD rfl (fun hc1 => ?_) fun hc1 => ?_
 ·
  have hbad : ¬ (0 < tk.length ∧ (tk.getD 0 tk0).1 = 0) := by rw [hln]; rintro ⟨h1, h2⟩; rcases hc1 with h | h; omega; exact h h2
  have hpm : cF tk D = none := by unfold cF; rw [if_neg hbad]
  have hpt : kD tk = [] := if_neg hbad
  refine jS (jR (je (Run.build evs.nil eW (dA).choose_spec.1 (dA).choose_spec.2 (cells := cE []) rfl) ?_))
  refine Ops.st (qZ.storeA rfl rfl zay hb2 rfl (gK _)) ?_
  rintro w4 ⟨hb4, hf4, hs4⟩
  refine Ops.st (qZ.store (i := 0) (v := .int .i64 20) rfl rfl Tryz.sizeOf35 (hb3.frm hf4 (by simp; omega)) rfl rfl) ?_
  rintro w5 ⟨hb5, hf5, hs5⟩
  refine jO (jN (jv2 2 3 ?_))
  refine jT ?_
  refine qQ (sT zcn ?_)
  refine cJ ?_
  refine qI rfl Tryz.isAgg34 zay ((hb4.frm hf5 (by simp; omega)).cells) (by first | rfl | (simp; done) | (simp [*]; done)) ?_
  refine dY rfl Tryz.isAgg35 ((hb5.cell 0)) ?_
  refine bW ?_
  refine ⟨(K3.own hf4 (by simp; omega)).own hf5 (by simp; omega), cE [], 20, rfl, ?_⟩
  rw [hpm, hpt]
  exact ⟨rfl, rfl⟩
 have hgood : 0 < tk.length ∧ (tk.getD 0 tk0).1 = 0 := by rw [hln]; exact ⟨jo, by rcases Decidable.em ((tk.getD 0 tk0).1 = 0) with h | h; exact h; exact absurd (.inr h) hc1⟩
 have hn0 : 0 < n := jo
 have hpt : kD tk = (tk.getD 0 tk0).2 := if_pos hgood
 obtain ⟨ad, hA, hel⟩ := hR3.cell (k := 0) hn0
 have hR3' := hR3
 subst hA
 refine jQ (jN ?_)
 refine LW.dfr (us := [_, _, _]) (Run.mkFunc evs.nil (evs.cons rfl (evs.cons rfl (evs.cons rfl evs.nil)))) rfl rfl rfl rfl rfl rfl rfl ?_
 refine LW.vc ?_
 refine jS ?_
 refine VC.held (fun V => Frm [] w3 V) jK ?_
 have hS : Frm [] w3 w3.drew := (qF.drew w3).frm
 refine jH 0 rfl hS (fun w0 hw0 => Run.load rfl zbp ((hb1.frm hw0 jp).cell 0)) ?_
 refine jH 1 rfl hS (fun w0 hw0 => Run.load rfl zbp ((hb1.frm hw0 jp).cell 0)) ?_
 refine jH 2 rfl hS (fun w0 hw0 => Run.indexS 0 rfl rfl zab zw jo) ?_
 refine jH 3 rfl hS (fun w0 hw0 => Run.fieldAddr rfl zaz rfl zd jd) ?_
 refine jH 4 rfl hS (fun w0 hw0 => Run.load rfl zh (hel _ hw0 1 _ rfl)) ?_
 refine jH 5 rfl hS (fun w0 hw0 => Run.build (evs.cons rfl evs.nil) eW (dA).choose_spec.1 (dA).choose_spec.2 (cells := cE (tk.getD 0 tk0).2) rfl) ?_
 refine qJ.m 6 rfl jK (qV.box rfl) trivial rfl rfl ?_
 rintro _ w4 ⟨rfl, hF4⟩
 obtain ⟨gc, hgc⟩ : ∃ g, g = w3.drew.heap.size := ⟨_, rfl⟩
 have hbc := hF4.blk
 rw [← hgc] at hbc ⊢
 have hS : Frm [] w3 w4 := Frm.trans hS hF4.frm jp
 have s4 := hF4.size
 refine ⟨hS, ?_⟩
 refine jH 7 rfl hS (fun w0 hw0 => Run.build (evs.cons rfl (evs.cons rfl (evs.cons rfl evs.nil))) uL (mQ).choose_spec.1 (mQ).choose_spec.2 (cells := #[.slice (some ad) n c, jI1 1, jI0 gc]) rfl) ?_
 refine qJ.m 8 rfl jK (qV.box rfl) trivial rfl rfl ?_
 rintro _ w5 ⟨rfl, hF5⟩
 obtain ⟨gp, hgp⟩ : ∃ g, g = w4.heap.size := ⟨_, rfl⟩
 have hbp := hF5.blk
 rw [← hgp] at hbp ⊢
 have hbc := hbc.frm hF5.frm jp
 have K5 : Frm [] w3 w5 := Frm.trans hS hF5.frm jp
 have s3d := (qF.drew w3).frm.size
 have hP5 : IsCp w5 gp gc (some ad) n c tk 1 (cE (tk.getD 0 tk0).2) := ⟨hbp, hbc, rfl, hR3'.frm K5 jp, jo, hn, fun h0 x hx => by have := hR.rd.lt h0 x hx; omega⟩
 have hS : Frm [] w3 w5 := K5
 refine ⟨hS, ?_⟩
 refine jH 9 rfl hS (fun w0 hw0 => Run.asg rfl) ?_
 refine qJ.done jK ?_
 refine jN (jv4 1 2 3 4 ?_)
 refine jS ?_
 refine VC.heldK [(2, _), (3, _)] 8 (fun V => V.cell? ⟨gp, 2, none⟩ = some (jI0 gc)) jK (js2 rfl rfl) jK ?_
 have hd := (qF.drew w5).frm
 have hPd := hP5.frm hd
 have hS : (fun V : World => V.cell? ⟨gp, 2, none⟩ = some (jI0 gc)) w5.drew := hPd.p.cell 2
 have hR1 : g1 < g2 ∧ g2 < g3 ∧ g3 < gc ∧ gc < gp ∧ w.heap.size ≤ g1 := by have := (qF.drew w3).frm.size; omega
 have K05 : Frm [] w w5 := K3.trans K5 jp
 have hb1 := hb1.frm K5 jp
 have hb2 := hb2.frm K5 jp
 have hb3 := hb3.frm K5 jp
 refine jh 0 hS ?_
 refine jH 1 rfl hS (fun w0 hw0 => Run.nilck rfl) ?_
 refine jH 2 rfl hS (fun w0 hw0 => Run.fieldAddr rfl zn rfl zat jd) ?_
 refine jH 3 rfl hS (fun w0 hw0 => Run.load rfl zbd hw0) ?_
 refine qJ.r1 4 rfl jK hS (Run.mv rfl) trivial rfl rfl ?_
 refine qJ.clp 5 rfl jK (jE1 Tryz.call18) (kH gp gc (some ad) n c tk 1 _ _ hPd hl) trivial rfl rfl ?_
 rintro e w6 ⟨hf6, he⟩
 have k56 : Frm [gp] w5 w6 := (hd.mono jp).trans hf6 (fun x hx => .inl hx)
 have K06 : Frm [] w w6 := K05.own k56 (by simp; omega)
 have hb1 : Blk w6 g1 23 _ := hb1.frm k56 (by simp; omega)
 have hb2 := hb2.frm k56 (by simp; omega)
 have hb3 := hb3.frm k56 (by simp; omega)
 rcases hT : qL tk 1 [0] with _ | s
 ·
  rw [hT] at he
  have hpm : cF tk D = none := by unfold cF; rw [if_pos hgood, hT]; rfl
  refine .inr ⟨_, he, qT (fA zcn Tryz.call17 ?_)⟩
  refine (eT g1 g2 g3 (some ad) n c tk (cE []) _ w6 hb1 hb2 rfl hb3 (hR.frm K06 jp) hn0).mono ?_
  rintro e u w7 ⟨hv, hu2, hb2, hb3, hf7⟩
  exact ⟨hv, hu2, gL (by rfl) (by rfl) hb2 hb3 rfl ⟨K06.own hf7 (by simp; omega), _, _, rfl, by rw [hpm, hpt]; exact ⟨rfl, rfl⟩⟩⟩
 rw [hT] at he
 obtain ⟨rfl, hP6⟩ := he
 have hS : (fun V : World => V.cell? ⟨gp, 2, none⟩ = some (jI0 gc)) w6 := hP6.p.cell 2
 refine .inl ⟨_, rfl, hS, ?_⟩
 refine qJ.r1 6 rfl jK hS (Run.nilck rfl) trivial rfl rfl ?_
 refine qJ.r1 7 rfl jK hS (Run.fieldAddr rfl zp rfl zd jd) trivial rfl rfl ?_
 refine qJ.stL rfl jK (qZ.store (i := 1) rfl rfl zd hP6.k (by rw [hP6.sz]; rfl) rfl) trivial rfl ?_
 rintro w7 ⟨hb7, hf7, hs7⟩
 have hf7 : Frm [gc] w6 w7 := hf7
 have hP7 := hP6.turn hb7 (by rw [Array.size_setIfInBounds]; exact hP6.sz) hf7
 have K07 : Frm [] w w7 := K06.own hf7 (by simp; omega)
 have hb1 := hb1.frm hf7 (by simp; omega)
 have hb2 := hb2.frm hf7 (by simp; omega)
 have hb3 := hb3.frm hf7 (by simp; omega)
 refine qJ.done jK ?_
 refine jN (jv4 1 2 3 4 ?_)
 refine jS ?_
 refine VC.held (fun V => V.cell? ⟨gp, 2, none⟩ = some (jI0 gc) ∧ V.cell? ⟨gc, 1, none⟩ = some (encStr (qH s))) jK ?_
 have hd := (qF.drew w7).frm
 have hPd := hP7.frm hd
 have mkS : ∀ W, IsCp W gp gc (some ad) n c tk 2 ((cE (tk.getD 0 tk0).2).setIfInBounds 1 (encStr (qH s))) → (fun V : World => V.cell? ⟨gp, 2, none⟩ = some (jI0 gc) ∧ V.cell? ⟨gc, 1, none⟩ = some (encStr (qH s))) W := fun W h => ⟨h.p.cell 2, h.k.cells 1 _ rfl⟩
 have hS := mkS _ hPd
 refine jh 1 hS ?_
 refine jH 2 rfl hS (fun w0 hw0 => Run.nilck rfl) ?_
 refine jH 3 rfl hS (fun w0 hw0 => Run.fieldAddr rfl zn rfl zat jd) ?_
 refine jH 4 rfl hS (fun w0 hw0 => Run.load rfl zbd hw0.1) ?_
 refine jH 5 rfl hS (fun w0 hw0 => Run.nilck rfl) ?_
 refine jH 6 rfl hS (fun w0 hw0 => Run.fieldAddr rfl zp rfl zd jd) ?_
 refine jH 7 rfl hS (fun w0 hw0 => Run.load rfl zh hw0.2) ?_
 refine qJ.cl 0 rfl jK (jE0 Tryz.call19) (nV _) trivial rfl rfl ?_
 rintro e w8 ⟨hf8, m, rfl, hm8, hmp⟩
 have hP8 := hPd.frm hf8
 have hS := mkS _ hP8
 refine ⟨_, rfl, hS, ?_⟩
 have K08 : Frm [] w w8 := (K07.trans hd jp).trans hf8 jp
 have k78 : Frm [] w7 w8 := hd.trans hf8 jp
 have hb1 := hb1.frm k78 jp
 have hb2 := hb2.frm k78 jp
 have hb3 := hb3.frm k78 jp
 have hsl := eB hT hl
 obtain ⟨ov, hov⟩ : ∃ ov, eS (qH s) = ov := ⟨_, rfl⟩
 refine qJ.r1 8 rfl jK hS (Run.lookup2 (enc := encStr) (x := qH s) rfl rfl hmp (Go.Maps.string_keyed za) zu rI (bP _ (by rw [dH]; omega))) trivial rfl rfl ?_
 rw [hov]
 refine jh 9 hS ?_
 refine jH 10 rfl hS (fun w0 hw0 => Run.extract rfl rfl) ?_
 refine jH 11 rfl hS (fun w0 hw0 => Run.extract rfl rfl) ?_
 refine jH 12 rfl hS (fun w0 hw0 => Run.asg rfl) ?_
 refine jH 13 rfl hS (fun w0 hw0 => Run.asg rfl) ?_
 refine qJ.done jK ?_
 refine jN (jv6 1 2 3 4 5 6 ?_)
 refine jS (jR (jM ?_))
 refine Ops.clp (jE1 zbc) (bH ov.isSome w8) rfl ?_
 rintro e _ ⟨rfl, he⟩
 rcases ov with _ | fv
 ·
  have hpm : cF tk D = none := by unfold cF; rw [if_pos hgood, hT]; simp [hov]
  refine .inr ⟨_, he, qT (fA zcn Tryz.call17 ?_)⟩
  refine (eT g1 g2 g3 (some ad) n c tk (cE []) _ w8 hb1 hb2 rfl hb3 (hR.frm K08 jp) hn0).mono ?_
  rintro e u wx ⟨hv, hu2, hb2, hb3, hfx⟩
  exact ⟨hv, hu2, gL (by rfl) (by rfl) hb2 hb3 rfl ⟨K08.own hfx (by simp; omega), _, _, rfl, by rw [hpm, hpt]; exact ⟨rfl, rfl⟩⟩⟩
 refine .inl ⟨_, he, ?_⟩
 obtain ⟨f, rfl, hent, hdeed⟩ := hD s hT _ hov
 refine jO (jN (jv5 1 2 3 4 5 ?_))
 refine jS (jR (jm rfl (jM ?_)))
 refine Ops.clp (qD.dyn rfl (evs.cons rfl evs.nil) hent) (hdeed w8 gp gc _ hP8 (by rw [hpt]; rfl) K08 jo jo) rfl ?_
 rintro e w9 he
 obtain ⟨G, hG⟩ : ∃ G, D (qH s) = G := ⟨_, rfl⟩
 rw [hG] at he
 rcases G with _ | q2
 ·
  have hpm : cF tk D = none := by unfold cF; rw [if_pos hgood, hT]; simp [hov, hG]
  have hf9 := he.2
  have hb1 := hb1.frm hf9 (by simp; omega)
  have hb2 := hb2.frm hf9 (by simp; omega)
  have hb3 := hb3.frm hf9 (by simp; omega)
  have K09 : Frm [] w w9 := K08.own hf9 (by simp; omega)
  refine .inr ⟨_, he.1, qT (fA zcn Tryz.call17 ?_)⟩
  refine (eT g1 g2 g3 (some ad) n c tk (cE []) _ w9 hb1 hb2 rfl hb3 (hR.frm K09 jp) hn0).mono ?_
  rintro e u wx ⟨hv, hu2, hb2, hb3, hfx⟩
  exact ⟨hv, hu2, gL (by rfl) (by rfl) hb2 hb3 rfl ⟨K09.own hfx (by simp; omega), _, _, rfl, by rw [hpm, hpt]; exact ⟨rfl, rfl⟩⟩⟩
 obtain ⟨rfl, cs2, hP9, hf9, hY9, hone⟩ := he
 have hb1 := hb1.frm hf9 (by simp; omega)
 have hb2 := hb2.frm hf9 (by simp; omega)
 have hb3 := hb3.frm hf9 (by simp; omega)
 have K09 : Frm [] w w9 := K08.own hf9 (by simp; omega)
 refine .inl ⟨_, rfl, ?_⟩
 refine jO (jN (jv4 1 2 3 4 ?_))
 refine jS ?_
 refine VC.tail 7 jK jK ?_
 simp only [List.take_succ_cons, List.take_zero, List.drop_succ_cons, List.drop_zero]
 refine qM ?_
 refine qE (Run.nilck rfl) ?_
 refine qE (Run.fieldAddr rfl zn rfl zc jd) ?_
 refine qE (Run.load rfl zl (hP9.p.cell 1)) ?_
 refine qE (Run.load rfl zbp (hb1.cell 0)) ?_
 refine qE (Run.lenS rfl zab) ?_
 refine qE (Run.bin rfl rfl (Bin.eqlN _ _)) ?_
 refine qC.nil ?_
 refine Ops.clp (jE1 zbc) (bH (decide (q2 = n)) _) rfl ?_
 rintro e wa ⟨hwa, he⟩
 have hda : Frm [] w9 wa := by subst hwa; first | exact (qF.drew w9).frm | exact Frm.refl _ _
 have hb29 := hb2
 have hb1 := hb1.frm hda jp
 have hb2 := hb2.frm hda jp
 have hb3 := hb3.frm hda jp
 have K0a : Frm [] w wa := K09.trans hda jp
 by_cases hqn : q2 = n
 rotate_left
 ·
  rw [decide_eq_false hqn] at he
  have hpm : cF tk D = none := by unfold cF; rw [if_pos hgood, hT]; simp [hov, hG, hln, hqn]
  refine .inr ⟨_, he, qT (fA zcn Tryz.call17 ?_)⟩
  refine (eT g1 g2 g3 (some ad) n c tk (cE []) _ wa hb1 hb2 rfl hb3 (hR.frm K0a jp) hn0).mono ?_
  rintro e u wx ⟨hv, hu2, hb2, hb3, hfx⟩
  exact ⟨hv, hu2, gL (by rfl) (by rfl) hb2 hb3 rfl ⟨K0a.own hfx (by simp; omega), _, _, rfl, by rw [hpm, hpt]; exact ⟨rfl, rfl⟩⟩⟩
 rw [decide_eq_true hqn] at he
 refine .inl ⟨_, he, ?_⟩
 have hpm : cF tk D = some () := by unfold cF; rw [if_pos hgood, hT]; simp [hov, hG, hln, hqn]
 have hPa := hP9.frm hda
 have hsza := hPa.sz
 refine jO (jN (jv3 2 3 4 ?_))
 refine jS (jR (jm rfl (jZ rfl (jf rfl zn rfl zat (jl rfl zbd (hPa.p.cell 2) (jZ rfl (je (Run.loadA rfl Tryz.isAgg34 zay hPa.k.cells hPa.sz) ?_)))))))
 refine Ops.st (qZ.storeA rfl rfl (fun w => (zay w).trans (by simp [hsza])) hb2 (by simp [hsza]; rfl) (by simpa using hone)) ?_
 rintro wb ⟨hbb, hfb, hsb⟩
 refine Ops.st (qZ.store (i := 0) (v := .int .i64 0) rfl rfl Tryz.sizeOf35 (hb3.frm hfb (by simp; omega)) rfl rfl) ?_
 rintro wc ⟨hbc2, hfc, hsc⟩
 refine jO (jN (jv2 2 3 ?_))
 refine jT ?_
 refine sU zcn Tryz.call17 ?_
 refine (pV g1 g2 g3 _).mono ?_
 rintro e u _ ⟨hv, hu2, rfl⟩
 refine ⟨hv, hu2, ?_⟩
 refine cJ ?_
 refine qI rfl Tryz.isAgg34 zay ((hbb.frm hfc (by simp; omega)).cells) (by first | rfl | (simp; done) | (simp [*]; done)) ?_
 refine dY rfl Tryz.isAgg35 ((hbc2.cell 0)) ?_
 refine bW ?_
 refine ⟨(K0a.own hfb (by simp; omega)).own hfc (by simp; omega), _, 0, rfl, ?_⟩
 rw [hpm]
 exact ⟨rfl, by simp [hsza], by simpa using hYf _ _ g3 _ _ cs2 (hYf _ _ g2 _ _ cs2 (hYf _ _ g2 _ _ cs2 hY9 hb29 (.inl rfl) (hda.mono jp)) hb2 (.inl rfl) hfb) (hb3.frm hfb (by simp; omega)) (.inr rfl) hfc⟩
def mT (y : Tx) : Option Value := if y = [69, 88, 80, 85, 78, 71, 69] then some (.func (.func 75) #[] #[]) else if y = [83, 69, 65, 82, 67, 72] then some (.func (.func 34) #[] #[]) else if y = [67, 79, 80, 89] then some (.func (.func 37) #[] #[]) else if y = [83, 84, 79, 82, 69] then some (.func (.func 36) #[] #[]) else if y = [70, 69, 84, 67, 72] then some (.func (.func 35) #[] #[]) else none
def gV (tk : List Tk) (D : Tx → Option Nat) : Option Nat := (qL tk 2 [0]).bind fun s => if (mT (qH s)).isSome then D (qH s) else none
theorem rL (A : Option Addr) (n c : Nat) (tk : List Tk) (tag : Tx) (D D' : Tx → Option Nat) (Y : World → Array Value → Prop) (w0 : World) (hl : ∀ x ∈ tk, x.2.length ≤ 1000000) (nm : Tx) (hnm : D' nm = gV tk D)
  (hA : 0 < n → ∀ x ∈ ob A, x < w0.heap.size) (hD : ∀ s, qL tk 2 [0] = some s → ∀ fv, mT (qH s) = some fv → ∃ f, fv = .func (.func f) ([] : List Value).toArray ([] : List Value).toArray ∧ (∀ args w, (callFunc f args).run Tryz.prog w = .ok (.enter f args) w) ∧ lJ w0 A n c tk 3 (pW tag) D Y (qH s) f) :
  lJ w0 A n c tk 2 (gC tag) D' Y nm 38 := by
 intro w gp gc cs hP hcs K0 hgp hgc
 rw [hnm]
 have hsz := K0.size
 have hcz : ∀ s : Tx, (cs.setIfInBounds 2 (.bool true)).setIfInBounds 1 (encStr s) = pW tag s := fun s => by rw [hcs]; rfl
 refine jV Tryz.func38 Tryz.ntmps38 Tryz.results38 ?_
 refine jS ?_
 refine VC.heldL 15 (fun V : World => V.cell? ⟨gp, 2, none⟩ = some (jI0 gc)) jK ?_
 have hd := (qF.drew w).frm
 have hPd := hP.frm hd
 have hS : (fun V : World => V.cell? ⟨gp, 2, none⟩ = some (jI0 gc)) w.drew := hPd.p.cell 2
 refine jh 0 hS ?_
 refine jH 1 rfl hS (fun w0 hw0 => Run.nilck rfl) ?_
 refine jH 2 rfl hS (fun w0 hw0 => Run.fieldAddr rfl zn rfl zat jd) ?_
 refine jH 3 rfl hS (fun w0 hw0 => Run.load rfl zbd hw0) ?_
 refine jh 4 hS ?_
 refine jH 5 rfl hS (fun w0 hw0 => Run.nilck rfl) ?_
 refine jH 6 rfl hS (fun w0 hw0 => Run.fieldAddr rfl zn rfl zat jd) ?_
 refine jH 7 rfl hS (fun w0 hw0 => Run.load rfl zbd hw0) ?_
 refine qJ.r1 8 rfl jK hS (Run.mv rfl) trivial rfl rfl ?_
 refine qJ.clp 9 rfl jK (jE1 Tryz.call18) (kH gp gc A n c tk 2 cs _ hPd hl) trivial rfl rfl ?_
 rintro e w1 ⟨hf1, he⟩
 rcases hT1 : qL tk 2 [0] with _ | s
 ·
  rw [hT1] at he
  exact .inr ⟨_, he, qT (bX (by rw [show gV tk D = none by simp [gV, hT1]]; exact ⟨rfl, (hd.mono jp).trans hf1 (fun x hx => .inl (by simp at hx; simp [hx]))⟩))⟩
 rw [hT1] at he
 obtain ⟨rfl, hP1⟩ := he
 have hS : (fun V : World => V.cell? ⟨gp, 2, none⟩ = some (jI0 gc)) w1 := hP1.p.cell 2
 refine .inl ⟨_, rfl, hS, ?_⟩
 refine qJ.r1 10 rfl jK hS (Run.nilck rfl) trivial rfl rfl ?_
 refine qJ.r1 11 rfl jK hS (Run.fieldAddr rfl zp rfl zm jd) trivial rfl rfl ?_
 refine qJ.st 12 rfl jK (qZ.store (i := 2) rfl rfl zm hP1.k (by rw [hP1.sz]; rfl) rfl) trivial rfl ?_
 rintro w2 ⟨hb2, hf2, hs2⟩
 have hP2 := hP1.turn hb2 (by simp [hP1.sz]) hf2
 have hS : (fun V : World => V.cell? ⟨gp, 2, none⟩ = some (jI0 gc)) w2 := hP2.p.cell 2
 refine ⟨hS, ?_⟩
 refine qJ.r1 13 rfl jK hS (Run.nilck rfl) trivial rfl rfl ?_
 refine qJ.r1 14 rfl jK hS (Run.fieldAddr rfl zp rfl zd jd) trivial rfl rfl ?_
 refine qJ.stL rfl jK (qZ.store (i := 1) rfl rfl zd hP2.k (by rw [hP2.sz]; rfl) rfl) trivial rfl ?_
 rintro w3 ⟨hb3, hf3, hs3⟩
 have hP3 := hP2.turn hb3 (by simp [hP1.sz]) hf3
 rw [hcz] at hP3
 have K3 : Frm [gp, gc] w w3 := (((hd.mono jp).trans hf1 (fun x hx => .inl (by simp at hx; simp [hx]))).trans hf2 (fun x hx => .inl (by simp at hx; simp [hx]))).trans hf3 (fun x hx => .inl (by simp at hx; simp [hx]))
 refine qJ.done jK ?_
 refine jN (jv1 0 ?_)
 refine jS (jR ?_)
 refine Ops.m (qV.makeMap (k := 9) (enc := encStr)) rfl ?_
 rintro _ v0 ⟨rfl, hm0, hf0, hs0⟩
 obtain ⟨m, hmm⟩ : ∃ m, m = w3.heap.size := ⟨_, rfl⟩
 rw [← hmm] at hm0 ⊢
 refine Ops.st (qZ.mapIns (x := [70, 69, 84, 67, 72]) rfl rfl rfl hm0 (Go.Maps.string_keyed za) bM zu (bP _ jd)) ?_
 rintro v1 ⟨hm1, hf1, hs1⟩
 refine Ops.st (qZ.mapIns (x := [83, 84, 79, 82, 69]) rfl rfl rfl hm1 (Go.Maps.string_keyed za) bM zu (bP _ jd)) ?_
 rintro v2 ⟨hm2, hf2, hs2⟩
 refine Ops.st (qZ.mapIns (x := [67, 79, 80, 89]) rfl rfl rfl hm2 (Go.Maps.string_keyed za) bM zu (bP _ jd)) ?_
 rintro v3 ⟨hm3, hf3, hs3⟩
 refine Ops.st (qZ.mapIns (x := [83, 69, 65, 82, 67, 72]) rfl rfl rfl hm3 (Go.Maps.string_keyed za) bM zu (bP _ jd)) ?_
 rintro v4 ⟨hm4, hf4, hs4⟩
 refine Ops.st (qZ.mapIns (x := [69, 88, 80, 85, 78, 71, 69]) rfl rfl rfl hm4 (Go.Maps.string_keyed za) bM zu (bP _ jd)) ?_
 rintro v5 ⟨hm5, hf5, hs5⟩
 refine jM ?_
 have hmk : MpF Tryz.prog 9 encStr v5 m mT := hm5
 have Km : Frm [] w3 v5 := ((((hf0.own hf1 (by simp; omega)).own hf2 (by simp; omega)).own hf3 (by simp; omega)).own hf4 (by simp; omega)).own hf5 (by simp; omega)
 have hP5 := hP3.frm Km
 have K5 : Frm [gp, gc] w v5 := K3.trans Km jp
 have hsl := eB hT1 hl
 obtain ⟨ov, hov⟩ : ∃ ov, mT (qH s) = ov := ⟨_, rfl⟩
 refine ja rfl (jO (jN (jv2 0 2 ?_)))
 refine jS (jR (jm rfl (jm rfl (jZ rfl (jf rfl zn rfl zat (jl rfl zbd (hP5.p.cell 2) (jZ rfl (jf rfl zp rfl zd (jl rfl zh (hP5.k.cells 1 _ rfl) (je (Run.lookup2 (enc := encStr) (x := qH s) rfl rfl hmk (Go.Maps.string_keyed za) zu rI (bP _ (by rw [dH]; omega))) ?_))))))))))
 rw [hov]
 refine jm rfl (jY rfl rfl (jY rfl rfl (ja rfl (ja rfl (jO (jN (jv3 0 3 4 ?_)))))))
 refine jS (jR (jM ?_))
 refine Ops.clp (jE1 zbc) (bH ov.isSome _) rfl ?_
 rintro e _ ⟨rfl, he⟩
 rcases ov with _ | fv
 · exact .inr ⟨_, he, qT (bX (by rw [show gV tk D = none by simp [gV, hT1, hov]]; exact ⟨rfl, K5⟩))⟩
 refine .inl ⟨_, he, ?_⟩
 obtain ⟨f, rfl, hent, hdeed⟩ := hD s hT1 _ hov
 refine jO (jN (jv2 0 3 ?_))
 refine jR (jm rfl (jM ?_))
 refine Ops.clp (qD.dyn rfl (evs.cons rfl evs.nil) hent) (hdeed _ gp gc _ hP5 rfl (K0.own K5 (by simp; omega)) hgp hgc) rfl ?_
 rintro e w9 he
 have hu : gV tk D = D (qH s) := by simp [gV, hT1, hov]
 obtain ⟨G, hG⟩ : ∃ G, D (qH s) = G := ⟨_, rfl⟩
 rw [hG] at he hu
 rcases G with _ | q2
 · exact .inr ⟨_, he.1, bX (by rw [hu]; exact ⟨rfl, K5.trans he.2 (fun x hx => .inl hx)⟩)⟩
 obtain ⟨rfl, cs2, hP9, hf9, hY9, hone⟩ := he
 refine .inl ⟨_, rfl, ?_⟩
 refine jO ?_
 refine dB ?_
 exact (by rw [hu]; exact ⟨rfl, cs2, hP9, K5.trans hf9 (fun x hx => .inl hx), hY9, hone⟩)
def lK (B0 : Nat) (tk : List Tk) (q0 : Nat) (cs0 : Array Value) (W : World) (cs : Array Value) : Prop :=
 ∃ sp xs q2 Bs ds I d rs, cM tk q0 = some (sp, xs, q2) ∧ rs.map (·.x) = xs ∧ IsIt W B0 I d rs ∧ Own W 96 2 Bs sp.length ds (SC sp) ∧ cs = (cs0.setIfInBounds 8 (.slice Bs sp.length ds)).setIfInBounds 9 (.slice I rs.length d)
theorem lK.frm {B0 q0 g : Nat} {tk : List Tk} {cs0 cs csx : Array Value} {W W' : World} {t : TypeId} (h : lK B0 tk q0 cs0 W cs) (hb : Blk W g t csx) (ht : t = 34 ∨ t = 35) (k : Frm [g] W W') : lK B0 tk q0 cs0 W' cs := by
 obtain ⟨sp, xs, q2, Bs, ds, I, d, rs, h1, h2, h3, h4, h5⟩ := h
 have hne : ∀ e : TypeId, e ≠ 34 → e ≠ 35 → e ≠ t := fun e h1 h2 => by rcases ht with rfl | rfl <;> assumption
 exact ⟨sp, xs, q2, Bs, ds, I, d, rs, h1, h2, h3.blk hb k (hne _ jd jd) (hne _ jd jd) (hne _ jd jd), h4.one k hb (hne _ jd jd), h5⟩
theorem cX {cs : Array Value} {i : Nat} {v : Value} (h : ∀ u ∈ cs.toList, u.oneCell' = true) (hv : v.oneCell' = true) : ∀ u ∈ (cs.setIfInBounds i v).toList, u.oneCell' = true := by
 intro u hu
 rw [zcs] at hu
 rcases List.mem_or_eq_of_mem_set hu with h1 | rfl
 · exact h u h1
 exact hv
theorem kE {A : Option Addr} {n c : Nat} {tk : List Tk} {w0 : World} {q0 : Nat} {C : Tx → Array Value} {D : Tx → Option Nat} (nm : Tx) (hC : (C nm)[9]? = some (.slice none 0 0)) (hC1 : ∀ u ∈ (C nm).toList, u.oneCell' = true) (hA : 0 < n → ∀ x ∈ ob A, x < w0.heap.size) (hl : ∀ x ∈ tk, x.2.length ≤ 50000) (hv : cN w0) (htb : Tab w0) (hDn : D nm = (cM tk q0).map fun p => p.2.2) :
  lJ w0 A n c tk q0 C D (lK w0.heap.size tk q0 (C nm)) nm 35 := by
 intro W gp gc cs hP hcs K hgp hgc
 subst hcs
 refine (nP w0 gp gc A n c tk q0 _ W hP hC hA K ⟨hgp, hgc⟩ hl hv htb).mono ?_
 rintro e w' he
 rw [hDn]
 obtain ⟨G, hG⟩ : ∃ G, cM tk q0 = G := ⟨_, rfl⟩
 rw [hG] at he ⊢
 rcases G with _ | ⟨sp, xs, q2⟩
 · exact he
 obtain ⟨rfl, gf, gb, Bs, ds, cs2, I, d, rs, h1, h2, h3, h4, h5, _, _, h8, h9, _⟩ := he
 have h6 : cs2 = ((C nm).setIfInBounds 8 (.slice Bs sp.length ds)).setIfInBounds 9 (.slice I rs.length d) := by rw [← h4, tG h3]
 refine ⟨rfl, cs2, h5, h9, ⟨sp, xs, q2, Bs, ds, I, d, rs, hG, h1, h2, h8, h6⟩, ?_⟩
 rw [h6]
 exact cX (cX hC1 rfl) rfl
theorem tN {A : Option Addr} {n c : Nat} {tk : List Tk} {w0 : World} {q0 : Nat} {C : Tx → Array Value} {D : Tx → Option Nat} (nm : Tx) (hC1 : ∀ u ∈ (C nm).toList, u.oneCell' = true) (hDn : D nm = (fG tk q0).map fun _ => q0 + 2) :
  lJ w0 A n c tk q0 C D (fun _ cs => ∃ s, fG tk q0 = some s ∧ cs = ((C nm).setIfInBounds 3 (encStr s.1)).setIfInBounds 4 (encStr s.2)) nm 41 := by
 intro W gp gc cs hP hcs K hgp hgc
 subst hcs
 refine (rQ gp gc A n c tk q0 _ W hP).mono ?_
 rintro e w' ⟨hf, he⟩
 rw [hDn]
 obtain ⟨G, hG⟩ : ∃ G, fG tk q0 = G := ⟨_, rfl⟩
 rw [hG] at he ⊢
 rcases G with _ | s
 · exact ⟨he, hf⟩
 obtain ⟨rfl, hP2⟩ := he
 exact ⟨rfl, _, hP2, hf, ⟨s, rfl, rfl⟩, cX (cX hC1 rfl) rfl⟩
theorem pY {A : Option Addr} {n c : Nat} {tk : List Tk} {w0 : World} {q0 : Nat} {C : Tx → Array Value} {D : Tx → Option Nat} (nm : Tx) (hC1 : ∀ u ∈ (C nm).toList, u.oneCell' = true) (hDn : D nm = some q0) :
  lJ w0 A n c tk q0 C D (fun _ cs => cs = C nm) nm 39 := by
 intro W gp gc cs hP hcs K hgp hgc
 subst hcs
 refine (nK gp W).mono ?_
 rintro e w' ⟨rfl, rfl⟩
 rw [hDn]
 exact ⟨rfl, _, hP, Frm.refl _ _, rfl, hC1⟩
theorem eZ (tag nm : Tx) : ∀ u ∈ (gC tag nm).toList, u.oneCell' = true := cX (gK tag) rfl
theorem mU (tag nm : Tx) : ∀ u ∈ (pW tag nm).toList, u.oneCell' = true := cX (eZ tag nm) rfl
def Sgn (c : UInt8) : Prop := 33 ≤ c.toNat ∧ c.toNat ≤ 126 ∧ c.toNat ≠ 40 ∧ c.toNat ≠ 41 ∧ c.toNat ≠ 34
instance (c : UInt8) : Decidable (Sgn c) := by unfold Sgn; infer_instance
def gW : Tx → Option Nat
 | [] => none
 | c :: r => if c.toNat = 34 then some 0 else if c.toNat < 32 ∨ c.toNat = 127 ∨ c.toNat = 92 then none else (gW r).map (· + 1)
def atF : Bool → Tx → Option Nat
 | b, [] => if b = true then none else some 0
 | b, c :: r => if b = true ∧ (c.toNat < 32 ∨ 126 < c.toNat) then none else if b = false ∧ ¬ Sgn c then some 0 else (atF (if c.toNat = 93 then false else if c.toNat = 91 then true else b) r).map (· + 1)
def gY (s : Tx) (a : Nat) : Option (Tk × Nat) := match s[a]? with
 | none => none
 | some c => if c.toNat = 40 then some ((2, [40]), a + 1) else if c.toNat = 41 then some ((3, [41]), a + 1) else if c.toNat = 34 then (gW (s.drop (a + 1))).map fun k => ((1, (s.drop (a + 1)).take k), a + 1 + k + 1) else (atF false (s.drop a)).bind fun k => if k = 0 then none else some ((0, (s.drop a).take k), a + k)
theorem tP {s : Tx} {i m : Nat} (h : gW (s.drop i) = some m) : ∃ hi : i < s.length, (s[i].toNat = 34 ∧ m = 0) ∨ (s[i].toNat ≠ 34 ∧ ¬ (s[i].toNat < 32) ∧ s[i].toNat ≠ 127 ∧ s[i].toNat ≠ 92 ∧ ∃ m', m = m' + 1 ∧ gW (s.drop (i + 1)) = some m') := by
 by_cases hi : i < s.length
 ·
  refine ⟨hi, ?_⟩
  rw [zby hi] at h
  unfold gW at h
  split at h
  · injection h with h; exact .inl ⟨by assumption, h.symm⟩
  split at h
  · cases h
  obtain ⟨m', h1, h2⟩ := Option.map_eq_some_iff.1 h
  exact .inr ⟨by assumption, jo, jo, jo, m', h2.symm, h1⟩
 rw [zbo jo] at h; cases h
theorem uR {s : Tx} {b : Bool} {i m : Nat} (h : atF b (s.drop i) = some m) : (m = 0 ∧ b = false ∧ (s.length ≤ i ∨ ∃ hi : i < s.length, ¬ Sgn s[i])) ∨ (∃ hi : i < s.length, ¬ (b = true ∧ (s[i].toNat < 32 ∨ 126 < s[i].toNat)) ∧ (b = false → Sgn s[i]) ∧ ∃ m', m = m' + 1 ∧ atF (if s[i].toNat = 93 then false else if s[i].toNat = 91 then true else b) (s.drop (i + 1)) = some m') := by
 by_cases hi : i < s.length
 ·
  rw [zby hi] at h
  unfold atF at h
  split at h
  · cases h
  split at h
  · rename_i h1; injection h with h; exact .inl ⟨h.symm, h1.1, .inr ⟨hi, h1.2⟩⟩
  rename_i h0 h1
  obtain ⟨m', h2, h3⟩ := Option.map_eq_some_iff.1 h
  exact .inr ⟨hi, h0, fun hb => Classical.byContradiction fun h4 => h1 ⟨hb, h4⟩, m', h3.symm, h2⟩
 rw [zbo jo] at h
 unfold atF at h
 split at h
 · cases h
 injection h with h; exact .inl ⟨h.symm, by cases b <;> simp_all, .inl jo⟩
theorem uS {s : Tx} {a j : Nat} (h : a + j < s.length) : (s.drop a).take (j + 1) = (s.drop a).take j ++ (s.drop (a + j)).take 1 := by
 rw [List.take_add, List.drop_drop]
theorem tR (c : UInt8) (w : World) : Calls Tryz.prog 90 #[.int .u8 ((c.toNat : Nat) : Int)] w fun e w' => e = .returned (.bool (decide (Sgn c))) ∧ w' = w := by
 refine jV Tryz.func90 Tryz.ntmps90 Tryz.results90 ?_
 refine jS (jR (ja rfl (jO (jN (jv1 0 ?_)))))
 refine jS ?_
 refine VC.split1 [] .nil 2 (.bool (decide (Sgn c))) ?_ ?_
 ·
  refine jR ?_
  refine jm rfl (jb rfl rfl (Bin.leqN 33 _) ?_)
  by_cases hs4 : 33 ≤ c.toNat
  ·
   refine jM ?_
   refine jG ?_
   refine jk (Run.bin rfl rfl (Bin.leqN _ 126)) ?_
   by_cases hs7 : c.toNat ≤ 126
   ·
    refine jW rfl rfl au (jM ?_)
    refine jG ?_
    refine jk (Run.bin rfl rfl (Bin.neqN _ 40)) ?_
    by_cases hs11 : c.toNat ≠ 40
    ·
     refine jW rfl rfl au (jM ?_)
     refine jG ?_
     refine jk (Run.bin rfl rfl (Bin.neqN _ 41)) ?_
     by_cases hs15 : c.toNat ≠ 41
     ·
      refine jW rfl rfl au (jM ?_)
      refine jG ?_
      refine jk (Run.bin rfl rfl (Bin.neqN _ 34)) ?_
      by_cases hs19 : c.toNat ≠ 34
      ·
       refine jW rfl rfl au (ja rfl (jO ?_))
       refine jN ⟨(js1 (jC (by unfold Sgn; grind))), rfl⟩
      refine jW rfl rfl au (ja rfl (jO ?_))
      refine jN ⟨(js1 (jC (by unfold Sgn; grind))), rfl⟩
     refine jW rfl rfl au (jM ?_)
     refine jU ?_
     refine jU ?_
     refine jF rfl rfl au (ja rfl (jO ?_))
     refine jN ⟨(js1 (jC (by unfold Sgn; grind))), rfl⟩
    refine jW rfl rfl au (jM ?_)
    refine jU ?_
    refine jU ?_
    refine jF rfl rfl au (jM ?_)
    refine jU ?_
    refine jU ?_
    refine jF rfl rfl au (ja rfl (jO ?_))
    refine jN ⟨(js1 (jC (by unfold Sgn; grind))), rfl⟩
   refine jW rfl rfl au (jM ?_)
   refine jU ?_
   refine jU ?_
   refine jF rfl rfl au (jM ?_)
   refine jU ?_
   refine jU ?_
   refine jF rfl rfl au (jM ?_)
   refine jU ?_
   refine jU ?_
   refine jF rfl rfl au (ja rfl (jO ?_))
   refine jN ⟨(js1 (jC (by unfold Sgn; grind))), rfl⟩
  refine jM ?_
  refine jU ?_
  refine jU ?_
  refine jF rfl rfl au (jM ?_)
  refine jU ?_
  refine jU ?_
  refine jF rfl rfl au (jM ?_)
  refine jU ?_
  refine jU ?_
  refine jF rfl rfl au (jM ?_)
  refine jU ?_
  refine jU ?_
  refine jF rfl rfl au (ja rfl (jO ?_))
  refine jN ⟨(js1 (jC (by unfold Sgn; grind))), rfl⟩
 intro Γ hΓ
 refine jN (VC.sub _ hΓ ?_)
 refine jT ?_
 refine qP rfl ?_
 exact ⟨rfl, rfl⟩
theorem nR (q : Tx) (a : Nat) (t : Tk) (nx : Nat) (w : World) (hs : q.length ≤ 1000000) (h : gY q a = some (t, nx)) : Calls Tryz.prog 60 #[encStr q, jI1 a] w fun e w' => e = .returned (.tuple #[.agg (tkC t).toArray, jI1 nx]) ∧ Frm [] w w' := by
 have ha : a < q.length := by
  by_cases h1 : a < q.length
  · exact h1
  unfold gY at h; rw [zav jo] at h; cases h
 unfold gY at h
 rw [zb ha] at h
 dsimp only at h
 refine jV Tryz.func60 Tryz.ntmps60 Tryz.results60 ?_
 refine jS (jR ?_)
 refine Ops.m (qV.alloc cH) rfl ?_
 rintro _ w1 ⟨rfl, hF1⟩
 obtain ⟨g4, hg4⟩ : ∃ g, g = w.heap.size := ⟨_, rfl⟩
 have hb1 := hF1.blk
 have s1 := hF1.size
 rw [← hg4] at hb1 ⊢
 have K := hF1.frm
 refine jz 0 (jO (jN (jv3 0 1 4 ?_)))
 refine jS (jS (jR (jm rfl (jM ?_))))
 refine je (Run.indexT _ rfl rfl za (zb ha)) ?_
 refine jb rfl rfl (Bin.eqlN _ 40) (jO (jN (jv4 0 1 4 14 ?_)))
 refine jD rfl (fun hc1 => ?_) fun hc1 => ?_
 ·
  rw [if_pos hc1] at h
  injection h with h
  injection h with h1 h2
  subst h1 h2
  refine jS (jR (je (Run.build (evs.cons rfl (evs.cons rfl evs.nil)) cH (bY).choose_spec.1 (bY).choose_spec.2 (cells := (tkC (2, [40])).toArray) rfl) (jm rfl (jb rfl rfl (Bin.add_i64 _ 1 jo) ?_))))
  refine Ops.st (qZ.storeA rfl rfl zw hb1 rfl (dL _)) ?_
  rintro w2 ⟨hb2, hf2, hs2⟩
  refine ja rfl (jO (jN (jv2 4 5 ?_)))
  refine jT ?_
  refine qQ (cJ ?_)
  refine qI rfl zda zw ((hb2.cells)) (by first | rfl | (simp; done) | (simp [*]; done)) ?_
  refine bE rfl ?_
  refine bW ?_
  exact ⟨rfl, K.own hf2 (by simp; omega)⟩
 rw [if_neg hc1] at h
 refine jQ (jN (jv3 0 1 4 ?_))
 refine jS (jS (jR (jm rfl (jM ?_))))
 refine je (Run.indexT _ rfl rfl za (zb ha)) ?_
 refine jb rfl rfl (Bin.eqlN _ 41) (jO (jN (jv4 0 1 4 21 ?_)))
 refine jD rfl (fun hc2 => ?_) fun hc2 => ?_
 ·
  rw [if_pos hc2] at h
  injection h with h
  injection h with h1 h2
  subst h1 h2
  refine jS (jR (je (Run.build (evs.cons rfl (evs.cons rfl evs.nil)) cH (bY).choose_spec.1 (bY).choose_spec.2 (cells := (tkC (3, [41])).toArray) rfl) (jm rfl (jb rfl rfl (Bin.add_i64 _ 1 jo) ?_))))
  refine Ops.st (qZ.storeA rfl rfl zw hb1 rfl (dL _)) ?_
  rintro w2 ⟨hb2, hf2, hs2⟩
  refine ja rfl (jO (jN (jv2 4 5 ?_)))
  refine jT ?_
  refine qQ (cJ ?_)
  refine qI rfl zda zw ((hb2.cells)) (by first | rfl | (simp; done) | (simp [*]; done)) ?_
  refine bE rfl ?_
  refine bW ?_
  exact ⟨rfl, K.own hf2 (by simp; omega)⟩
 rw [if_neg hc2] at h
 refine jQ (jN (jv3 0 1 4 ?_))
 refine jS (jS (jR (jm rfl (jM ?_))))
 refine je (Run.indexT _ rfl rfl za (zb ha)) ?_
 refine jb rfl rfl (Bin.eqlN _ 34) (jO (jN (jv4 0 1 4 28 ?_)))
 refine jD rfl (fun hc3 => ?_) fun hc3 => ?_
 ·
  rw [if_pos hc3] at h
  obtain ⟨Q, hQ, h⟩ := Option.map_eq_some_iff.1 h
  injection h with h1 h2
  subst h1 h2
  refine jS (jR (ja rfl (jO (jN (jv4 0 1 4 6 ?_)))))
  refine jS (jS (jR (jm rfl (jb rfl rfl (Bin.add_i64 _ 1 jo) (ja rfl (jO (jN (jv4 0 4 6 7 ?_))))))))
  refine jB ?_
  refine VC.loop (σ := Nat × Nat) (fun s => [(0, encStr q), (4, jI0 g4), (6, encStr ((q.drop (a + 1)).take s.1)), (7, jI1 (a + 1 + s.1))]) (fun s wr => s.1 + s.2 = Q ∧ gW (q.drop (a + 1 + s.1)) = some s.2 ∧ wr = w1) (fun s => s.2) (0, Q) (js4 rfl rfl rfl rfl) ⟨jp, hQ, rfl⟩ ?_
  rintro ⟨j, m⟩ wr ⟨hjm, hq, rfl⟩
  dsimp only at hjm hq ⊢
  obtain ⟨hi, hst⟩ := tP hq
  refine jS (jS (jR (jm rfl (jm rfl (je (Run.lenT rfl za) (jb rfl rfl (Bin.lssN _ _) (jO (jN (jv5 0 4 6 7 34 ?_)))))))))
  refine VC.condT rfl (decide_eq_true hi) ?_
  refine jQ (jN (jv4 0 4 6 7 ?_))
  refine jS (jB (jS (jR (jm rfl (jM ?_)))))
  refine je (Run.indexT _ rfl rfl za (zb hi)) ?_
  refine ja rfl (jO (jN (jv5 0 4 6 7 8 ?_)))
  refine jS (jS (jR (jm rfl (jb rfl rfl (Bin.eqlN _ 34) (jO (jN (jv6 0 4 6 7 8 41 ?_)))))))
  refine jD rfl (fun hc5 => ?_) fun hc5 => ?_
  ·
   have hm : m = 0 := by
    rcases hst with h | h
    · exact h.2
    exact absurd hc5 h.1
   have hjQ : j = Q := jo
   subst hjQ
   refine jS (jR (jm rfl (je (Run.build (evs.cons rfl (evs.cons rfl evs.nil)) cH (bY).choose_spec.1 (bY).choose_spec.2 (cells := (tkC (1, (q.drop (a + 1)).take j)).toArray) rfl) (jm rfl (jb rfl rfl (Bin.add_i64 _ 1 jo) ?_)))))
   refine Ops.st (qZ.storeA rfl rfl zw hb1 rfl (dL _)) ?_
   rintro w2 ⟨hb2, hf2, hs2⟩
   refine ja rfl (jO (jN (jv2 4 5 ?_)))
   refine jT ?_
   refine qQ (qR (qQ (qQ (qR (qQ (qQ (cJ ?_)))))))
   refine qI rfl zda zw ((hb2.cells)) (by first | rfl | (simp; done) | (simp [*]; done)) ?_
   refine bE rfl ?_
   refine bW ?_
   exact ⟨rfl, K.own hf2 (by simp; omega)⟩
  obtain ⟨h51, h52, h53, h54, m', rfl, hq'⟩ : q[a + 1 + j].toNat ≠ 34 ∧ ¬ (q[a + 1 + j].toNat < 32) ∧ q[a + 1 + j].toNat ≠ 127 ∧ q[a + 1 + j].toNat ≠ 92 ∧ ∃ m', m = m' + 1 ∧ gW (q.drop (a + 1 + j + 1)) = some m' := by
   rcases hst with h | h
   · exact absurd h.1 hc5
   exact h
  refine jQ (jN (jv5 0 4 6 7 8 ?_))
  refine jS (jS ?_)
  refine VC.split1 [(0, _), (4, _), (6, _), (7, _), (8, _)] (js5 rfl rfl rfl rfl rfl) 51 (.bool (decide (False))) ?_ ?_
  ·
   refine jR ?_
   refine jm rfl (jb rfl rfl (Bin.lssN _ 32) ?_)
   by_cases hs47 : q[a + 1 + j].toNat < 32
   ·
    refine jM ?_
    refine jU ?_
    refine jU ?_
    refine jW rfl rfl au (jO ?_)
    refine jN ⟨(js6 (jC (by grind)) rfl rfl rfl rfl rfl), rfl⟩
   refine jM ?_
   refine jG ?_
   refine jk (Run.bin rfl rfl (Bin.eqlN _ 127)) ?_
   by_cases hs50 : q[a + 1 + j].toNat = 127
   ·
    refine jF rfl rfl au (jO ?_)
    refine jN ⟨(js6 (jC (by grind)) rfl rfl rfl rfl rfl), rfl⟩
   refine jF rfl rfl au (jO ?_)
   refine jN ⟨(js6 (jC (by grind)) rfl rfl rfl rfl rfl), rfl⟩
  intro Γ hΓ
  refine jN (VC.sub _ hΓ ?_)
  refine VC.condF rfl (rfl) ?_
  refine jQ (jN (jv5 0 4 6 7 8 ?_))
  refine jS (jS (jR (jm rfl (jb rfl rfl (Bin.eqlN _ 92) (jO (jN (jv5 0 4 6 7 54 ?_)))))))
  refine VC.condF rfl (decide_eq_false h54) ?_
  refine jQ (jN (jv4 0 4 6 7 ?_))
  refine jR (jm rfl (jm rfl (jm rfl (jm rfl (jb rfl rfl (Bin.add_i64 _ 1 jo) (je (Run.sliceT _ _ rfl za (evB.some_ rfl) (evB.some_ rfl) jo jo) (je (Run.addT rfl rfl (by simp only [zaf, zaw]; omega)) (ja rfl (jO ?_)))))))))
  refine qW (jN ?_)
  refine jv4 0 4 6 7 ?_
  refine jR (jm rfl (jb rfl rfl (Bin.add_i64 _ 1 jo) (ja rfl (jO ?_))))
  refine jN ⟨(j + 1, m'), (js4 rfl rfl (by show some (encStr _) = some (encStr _); rw [uS jo, show a + 1 + j + 1 - (a + 1 + j) = 1 by omega]) rfl), ?_, ?_⟩
  · exact ⟨jo, by rw [← zce]; exact hq', rfl⟩
  exact jq
 rw [if_neg hc3] at h
 obtain ⟨Q, hQ, h⟩ := Option.bind_eq_some_iff.1 h
 split at h
 · cases h
 rename_i hQ0
 injection h with h
 injection h with h1 h2
 subst h1 h2
 refine jQ (jN (jv3 0 1 4 ?_))
 refine jS (jR (jm rfl (ja rfl (jO (jN (jv4 0 1 4 9 ?_))))))
 refine jS (jR (ja rfl (jO (jN (jS (jB ?_))))))
 refine VC.loop (σ := Nat × Nat × Bool) (fun s => [(0, encStr q), (1, jI1 a), (4, jI0 g4), (9, jI1 (a + s.1)), (10, .bool s.2.2)]) (fun s wr => s.1 + s.2.1 = Q ∧ atF s.2.2 (q.drop (a + s.1)) = some s.2.1 ∧ a + s.1 ≤ q.length ∧ wr = w1) (fun s => s.2.1) (0, Q, false) (js5 rfl rfl rfl rfl rfl) ⟨jp, hQ, jo, rfl⟩ ?_
 rintro ⟨j, m, b⟩ wr ⟨hjm, hq, hjl, rfl⟩
 dsimp only at hjm hq hjl ⊢
 have hst := uR hq
 refine jS (jS (jR (jm rfl (jm rfl (je (Run.lenT rfl za) (jb rfl rfl (Bin.lssN _ _) (jO (jN (jv6 0 1 4 9 10 86 ?_)))))))))
 refine jD rfl (fun hc9 => ?_) fun hc9 => ?_
 ·
  have hnb : ¬ (b = true ∧ (q[a + j].toNat < 32 ∨ 126 < q[a + j].toNat)) := by
   rcases hst with ⟨_, h, _⟩ | ⟨_, h, _⟩
   · simp [h]
   exact h
  refine jQ (jN (jv5 0 1 4 9 10 ?_))
  refine jB (jS (jS ?_))
  refine VC.split1 [(0, _), (1, _), (4, _), (9, _), (10, _)] (js5 rfl rfl rfl rfl rfl) 99 (.bool (decide (False))) ?_ ?_
  ·
   refine jR (jM ?_)
   by_cases hs87 : b = true
   ·
    refine jM ?_
    refine jG ?_
    refine jG ?_
    refine jk (Run.indexT _ rfl rfl za (zb hc9)) ?_
    refine jk (Run.bin rfl rfl (Bin.lssN _ 32)) ?_
    by_cases hs92 : q[a + j].toNat < 32
    ·
     refine jG ?_
     refine jU ?_
     refine jU ?_
     refine jU ?_
     refine jU ?_
     refine jk (Run.pickT rfl rfl au) ?_
     refine jW rfl rfl au (jO ?_)
     refine jN ⟨(js6 (jC (by grind)) rfl rfl rfl rfl rfl), rfl⟩
    refine jG ?_
    refine jG ?_
    refine jG ?_
    refine jk (Run.indexT _ rfl rfl za (zb hc9)) ?_
    refine jk (Run.bin rfl rfl (Bin.gtrN _ 126)) ?_
    by_cases hs97 : 126 < q[a + j].toNat
    ·
     refine jk (Run.pickF rfl rfl au) ?_
     refine jW rfl rfl au (jO ?_)
     refine jN ⟨(js6 (jC (by grind)) rfl rfl rfl rfl rfl), rfl⟩
    refine jk (Run.pickF rfl rfl au) ?_
    refine jW rfl rfl au (jO ?_)
    refine jN ⟨(js6 (jC (by grind)) rfl rfl rfl rfl rfl), rfl⟩
   refine jM ?_
   refine jU ?_
   refine jU ?_
   refine jU ?_
   refine jU ?_
   refine jU ?_
   refine Ops.skU rfl rfl ?_
   refine Ops.skU rfl rfl ?_
   refine Ops.skU rfl rfl ?_
   refine Ops.skU rfl rfl ?_
   refine jU ?_
   refine jF rfl rfl au (jO ?_)
   refine jN ⟨(js6 (jC (by grind)) rfl rfl rfl rfl rfl), rfl⟩
  intro Γ hΓ
  refine jN (VC.sub _ hΓ ?_)
  refine VC.condF rfl (rfl) ?_
  refine jQ (jN (jv5 0 1 4 9 10 ?_))
  refine jS (jS ?_)
  refine VC.split1 [(0, _), (1, _), (4, _), (9, _), (10, _)] (js5 rfl rfl rfl rfl rfl) 109 (.bool (decide (b = false ∧ ¬ Sgn q[a + j]))) ?_ ?_
  ·
   refine jR (jM ?_)
   by_cases hs101 : b = true
   ·
    refine je (Run.not rfl) (jM ?_)
    refine jU ?_
    refine jU ?_
    refine jU ?_
    refine jU ?_
    refine jU ?_
    refine jF rfl rfl au (jO ?_)
    refine jN ⟨(js6 (jC (by grind)) rfl rfl rfl rfl rfl), rfl⟩
   refine je (Run.not rfl) (jM ?_)
   refine jG ?_
   refine jG ?_
   refine jk (Run.indexT _ rfl rfl za (zb hc9)) ?_
   refine Ops.clg rfl au (jE1 Tryz.call90) (tR _ _) rfl ?_
   rintro e _ ⟨rfl, rfl⟩
   refine ⟨_, rfl, ?_⟩
   by_cases hs107 : Sgn q[a + j]
   ·
    refine jk (Run.not rfl) ?_
    refine jW rfl rfl au (jO ?_)
    refine jN ⟨(js6 (jC (by grind)) rfl rfl rfl rfl rfl), rfl⟩
   refine jk (Run.not rfl) ?_
   refine jW rfl rfl au (jO ?_)
   refine jN ⟨(js6 (jC (by grind)) rfl rfl rfl rfl rfl), rfl⟩
  intro Γ hΓ
  refine jN (VC.sub _ hΓ ?_)
  refine jD rfl (fun hc11 => ?_) fun hc11 => ?_
  ·
   obtain ⟨rfl, rfl⟩ : m = 0 ∧ b = false := by
    rcases hst with ⟨h1, h2, _⟩ | ⟨_, _, h, _⟩
    · exact ⟨h1, h2⟩
    exact absurd (h hc11.1) hc11.2
   have hjQ : j = Q := jo
   subst hjQ
   refine jX ?_
   refine qK (eI rfl (qK (qS ?_)))
   refine jN (jv5 0 1 4 9 10 ?_)
   refine jS (jS ?_)
   refine VC.split1 [(0, _), (1, _), (4, _), (9, _)] (js4 rfl rfl rfl rfl) 125 (.bool (decide (False))) ?_ ?_
   ·
    refine jR ?_
    refine jm rfl (jM ?_)
    refine jG ?_
    refine jG ?_
    refine jk (Run.bin rfl rfl (Bin.eqlN _ _)) ?_
    by_cases hs124 : a + j = a
    ·
     refine jF rfl rfl au (jO ?_)
     refine jN ⟨(js5 (jC (by grind)) rfl rfl rfl rfl), rfl⟩
    refine jF rfl rfl au (jO ?_)
    refine jN ⟨(js5 (jC (by grind)) rfl rfl rfl rfl), rfl⟩
   intro Γ hΓ
   refine jN (VC.sub _ hΓ ?_)
   refine VC.condF rfl (rfl) ?_
   refine jQ (jN (jv4 0 1 4 9 ?_))
   refine jS (jR (jm rfl (jm rfl (jm rfl (je (Run.sliceT _ _ rfl za (evB.some_ rfl) (evB.some_ rfl) jo jo) (je (Run.build (evs.cons rfl (evs.cons rfl evs.nil)) cH (bY).choose_spec.1 (bY).choose_spec.2 (cells := (tkC (0, (q.drop a).take (a + j - a))).toArray) rfl) (jM ?_)))))))
   refine Ops.st (qZ.storeA rfl rfl zw hb1 rfl (dL _)) ?_
   rintro w2 ⟨hb2, hf2, hs2⟩
   refine ja rfl (jO (jN (jv2 4 5 ?_)))
   refine jT ?_
   refine cJ ?_
   refine qI rfl zda zw ((hb2.cells)) (by first | rfl | (simp; done) | (simp [*]; done)) ?_
   refine bE rfl ?_
   refine bW ?_
   exact ⟨by rw [show a + j - a = j by omega]; rfl, K.own hf2 (by simp; omega)⟩
  obtain ⟨m', rfl, hq'⟩ : ∃ m', m = m' + 1 ∧ atF (if q[a + j].toNat = 93 then false else if q[a + j].toNat = 91 then true else b) (q.drop (a + j + 1)) = some m' := by
   rcases hst with ⟨_, h, h2 | ⟨_, h2⟩⟩ | ⟨_, _, _, h⟩
   · omega
   · exact absurd ⟨h, h2⟩ hc11
   exact h
  refine jQ (jN (jv5 0 1 4 9 10 ?_))
  refine jS (jS (jR (jm rfl (jM ?_))))
  refine je (Run.indexT _ rfl rfl za (zb hc9)) ?_
  refine jb rfl rfl (Bin.eqlN _ 91) (jO (jN (jv6 0 1 4 9 10 113 ?_)))
  refine jD rfl (fun hc12 => ?_) fun hc12 => ?_
  ·
   refine jR (ja rfl (jO (jN (jv5 0 1 4 9 10 ?_))))
   refine jS (jS (jR (jm rfl (jM ?_))))
   refine je (Run.indexT _ rfl rfl za (zb hc9)) ?_
   refine jb rfl rfl (Bin.eqlN _ 93) (jO (jN (jv6 0 1 4 9 10 117 ?_)))
   refine jD rfl (fun hc13 => ?_) fun hc13 => ?_
   ·
    refine jR (ja rfl (jO (jN (jv5 0 1 4 9 10 ?_))))
    refine jR (jm rfl (jb rfl rfl (Bin.add_i64 _ 1 jo) (ja rfl (jO ?_))))
    refine qW (jN ⟨(j + 1, m', false), (js5 rfl rfl rfl rfl rfl), ?_, ?_⟩)
    · exact ⟨by show j + 1 + m' = _; omega, by rw [← zce, ← hq', if_pos hc13], by show a + (j + 1) ≤ _; omega, rfl⟩
    exact jq
   refine jQ (jN (jv5 0 1 4 9 10 ?_))
   refine jR (jm rfl (jb rfl rfl (Bin.add_i64 _ 1 jo) (ja rfl (jO ?_))))
   refine qW (jN ⟨(j + 1, m', true), (js5 rfl rfl rfl rfl rfl), ?_, ?_⟩)
   · exact ⟨by show j + 1 + m' = _; omega, by rw [← zce, ← hq', if_neg hc13, if_pos hc12], by show a + (j + 1) ≤ _; omega, rfl⟩
   exact jq
  refine jQ (jN (jv5 0 1 4 9 10 ?_))
  refine jS (jS (jR (jm rfl (jM ?_))))
  refine je (Run.indexT _ rfl rfl za (zb hc9)) ?_
  refine jb rfl rfl (Bin.eqlN _ 93) (jO (jN (jv6 0 1 4 9 10 117 ?_)))
  refine jD rfl (fun hc13 => ?_) fun hc13 => ?_
  ·
   refine jR (ja rfl (jO (jN (jv5 0 1 4 9 10 ?_))))
   refine jR (jm rfl (jb rfl rfl (Bin.add_i64 _ 1 jo) (ja rfl (jO ?_))))
   refine qW (jN ⟨(j + 1, m', false), (js5 rfl rfl rfl rfl rfl), ?_, ?_⟩)
   · exact ⟨by show j + 1 + m' = _; omega, by rw [← zce, ← hq', if_pos hc13], by show a + (j + 1) ≤ _; omega, rfl⟩
   exact jq
  refine jQ (jN (jv5 0 1 4 9 10 ?_))
  refine jR (jm rfl (jb rfl rfl (Bin.add_i64 _ 1 jo) (ja rfl (jO ?_))))
  refine qW (jN ⟨(j + 1, m', b), (js5 rfl rfl rfl rfl rfl), ?_, ?_⟩)
  · exact ⟨by show j + 1 + m' = _; omega, by rw [← zce, ← hq', if_neg hc13, if_neg hc12], by show a + (j + 1) ≤ _; omega, rfl⟩
  exact jq
 obtain ⟨rfl, rfl⟩ : m = 0 ∧ b = false := by
  rcases hst with ⟨h1, h2, _⟩ | ⟨h, _⟩
  · exact ⟨h1, h2⟩
  omega
 have hjQ : j = Q := jo
 subst hjQ
 refine jX ?_
 refine qK (qK (qS ?_))
 refine jN (jv5 0 1 4 9 10 ?_)
 refine jS (jS ?_)
 refine VC.split1 [(0, _), (1, _), (4, _), (9, _)] (js4 rfl rfl rfl rfl) 125 (.bool (decide (False))) ?_ ?_
 ·
  refine jR ?_
  refine jm rfl (jM ?_)
  refine jG ?_
  refine jG ?_
  refine jk (Run.bin rfl rfl (Bin.eqlN _ _)) ?_
  by_cases hs124 : a + j = a
  ·
   refine jF rfl rfl au (jO ?_)
   refine jN ⟨(js5 (jC (by grind)) rfl rfl rfl rfl), rfl⟩
  refine jF rfl rfl au (jO ?_)
  refine jN ⟨(js5 (jC (by grind)) rfl rfl rfl rfl), rfl⟩
 intro Γ hΓ
 refine jN (VC.sub _ hΓ ?_)
 refine VC.condF rfl (rfl) ?_
 refine jQ (jN (jv4 0 1 4 9 ?_))
 refine jS (jR (jm rfl (jm rfl (jm rfl (je (Run.sliceT _ _ rfl za (evB.some_ rfl) (evB.some_ rfl) jo jo) (je (Run.build (evs.cons rfl (evs.cons rfl evs.nil)) cH (bY).choose_spec.1 (bY).choose_spec.2 (cells := (tkC (0, (q.drop a).take (a + j - a))).toArray) rfl) (jM ?_)))))))
 refine Ops.st (qZ.storeA rfl rfl zw hb1 rfl (dL _)) ?_
 rintro w2 ⟨hb2, hf2, hs2⟩
 refine ja rfl (jO (jN (jv2 4 5 ?_)))
 refine jT ?_
 refine cJ ?_
 refine qI rfl zda zw ((hb2.cells)) (by first | rfl | (simp; done) | (simp [*]; done)) ?_
 refine bE rfl ?_
 refine bW ?_
 exact ⟨by rw [show a + j - a = j by omega]; rfl, K.own hf2 (by simp; omega)⟩
theorem rO : ∀ (s : Tx) {k : Nat}, gW s = some k → k < s.length
 | [], _, h => by cases h
 | c :: r, k, h => by
  unfold gW at h
  split at h
  · injection h with h; subst h; simp
  split at h
  · cases h
  obtain ⟨m, h1, rfl⟩ := Option.map_eq_some_iff.1 h
  have := rO r h1
  simp; omega
theorem uX : ∀ (s : Tx) {b : Bool} {k : Nat}, atF b s = some k → k ≤ s.length
 | [], b, k, h => by
  unfold atF at h
  split at h
  · cases h
  injection h with h; subst h; simp
 | c :: r, b, k, h => by
  unfold atF at h
  split at h
  · cases h
  split at h
  · injection h with h; subst h; simp
  obtain ⟨m, h1, rfl⟩ := Option.map_eq_some_iff.1 h
  have := uX r h1
  simp; omega
theorem vH {q : Tx} {a : Nat} {t : Tk} {nx : Nat} (h : gY q a = some (t, nx)) : a < nx ∧ nx ≤ q.length := by
 unfold gY at h
 split at h
 · cases h
 rename_i c hc
 have ha := (List.getElem?_eq_some_iff.1 hc).1
 split at h
 · injection h with h; injection h with h1 h2; omega
 split at h
 · injection h with h; injection h with h1 h2; omega
 split at h
 ·
  obtain ⟨Q, hQ, h⟩ := Option.map_eq_some_iff.1 h
  have := rO _ hQ
  rw [zaw] at this
  injection h with h1 h2; omega
 obtain ⟨Q, hQ, h⟩ := Option.bind_eq_some_iff.1 h
 have := uX _ hQ
 rw [zaw] at this
 split at h
 · cases h
 injection h with h; injection h with h1 h2; omega
def dX (q : Tx) : Nat → Nat → Nat → Option (List (Tk × Nat))
 | 0, _, _ => none
 | f + 1, a, gap => match q[a]? with
  | none => if gap = 0 then some [] else none
  | some c => if c.toNat = 32 then dX q f (a + 1) (gap + 1) else match gY q a with
   | none => none
   | some p => (dX q f p.2 0).map ((p.1, gap) :: ·)
theorem tS {q : Tx} {f a gap : Nat} {R : List (Tk × Nat)} (h : dX q f a gap = some R) : (q.length ≤ a ∧ gap = 0 ∧ R = []) ∨ ∃ ha : a < q.length, ∃ f', f = f' + 1 ∧ ((q[a].toNat = 32 ∧ dX q f' (a + 1) (gap + 1) = some R) ∨ (q[a].toNat ≠ 32 ∧ ∃ t nx R', gY q a = some (t, nx) ∧ dX q f' nx 0 = some R' ∧ R = (t, gap) :: R')) := by
 cases f with
 | zero => cases h
 | succ f =>
  unfold dX at h
  split at h
  ·
   rename_i hn
   split at h
   · injection h with h; exact .inl ⟨by simpa using hn, by assumption, h.symm⟩
   cases h
  rename_i c hc
  obtain ⟨ha, rfl⟩ := List.getElem?_eq_some_iff.1 hc
  refine .inr ⟨ha, f, rfl, ?_⟩
  split at h
  · exact .inl ⟨by assumption, h⟩
  split at h
  · cases h
  rename_i p hp
  obtain ⟨R', h1, h2⟩ := Option.map_eq_some_iff.1 h
  exact .inr ⟨by assumption, p.1, p.2, R', hp, h1, h2.symm⟩
def bV (L : List (Tk × Nat)) : List Tk := L.map (·.1)
def kF (L : List (Tk × Nat)) : List Int := L.map fun x => ((x.2 : Nat) : Int)
def gG (L : List (Tk × Nat)) : Prop := ∀ i < L.length, (kF L).getD i 0 = if i = 0 ∨ ((bV L).getD (i - 1) tk0).1 = 2 ∨ ((bV L).getD i tk0).1 = 3 then 0 else 1
instance (L : List (Tk × Nat)) : Decidable (gG L) := by unfold gG; infer_instance
structure TokR (w wr : World) (L : List (Tk × Nat)) (A : Option Addr) (d : Nat) (G : Option Addr) (e : Nat) : Prop where
 out : Own wr 41 2 A L.length d ((bV L).flatMap tkC)
 gap : Own wr 3 1 G L.length e (IB (kF L))
 up : (∀ x ∈ ob A, w.heap.size ≤ x) ∧ ∀ x ∈ ob G, w.heap.size ≤ x
 frm : Frm [] w wr
theorem TokR.step {w wr wx : World} {L : List (Tk × Nat)} {A G : Option Addr} {d e : Nat} (h : TokR w wr L A d G e) (k : Frm [] wr wx) : TokR w wx L A d G e := ⟨h.out.frm k jp, h.gap.frm k jp, h.up, h.frm.trans k jp⟩
theorem hrdK {w w' : World} {t : TypeId} {x : Tk} (h : Fresh w w' t (Value.agg (tkC x).toArray).cells) : Rd w' 2 (some ⟨w.heap.size, 0, none⟩) 1 ([x].flatMap tkC) := Rd.of_blk (n := 1) (size := 2) h.blk rfl
theorem hrdI {w w' : World} {t : TypeId} {q : Int} (h : Fresh w w' t #[.int .i64 q]) : Rd w' 1 (some ⟨w.heap.size, 0, none⟩) 1 (IB [q]) := Rd.of_blk (n := 1) (size := 1) h.blk rfl
theorem pG (q : Tx) (L : List (Tk × Nat)) (F : Nat) (P : Option Addr) (pc : Nat) (w : World) (hs : q.length ≤ 1000000) (hP : Rd w 2 P 1 [.bool false, encStr q]) (hF : dX q F 0 0 = some L) (hG : gG L) : Calls Tryz.prog 29 #[.slice P 1 pc] w fun e w' => ∃ A d, e = .returned (.tuple #[.slice A L.length d, .int .i64 0]) ∧ RdT w' A L.length (bV L) ∧ Frm [] w w' := by
 obtain ⟨pad, rfl, _, hpc⟩ := hP.2 jo
 have hp1 : ∀ W, Frm [] w W → W.cell? ((pad.add (0 * 2)).add 0) = some (.bool false) := fun W hW => by
  obtain ⟨ad, h1, _, h2⟩ := (hP.frm hW jp).2 jo
  cases h1
  have := h2 0 _ rfl
  rw [show (0 * 2) = 0 from rfl, show pad.add 0 = pad by cases pad; simp [Addr.add]]
  simpa using this
 have hp2 : ∀ W, Frm [] w W → W.cell? ((pad.add (0 * 2)).add 1) = some (encStr q) := fun W hW => by
  obtain ⟨ad, h1, _, h2⟩ := (hP.frm hW jp).2 jo
  cases h1
  have := h2 1 _ rfl
  rw [show (0 * 2) = 0 from rfl, show pad.add 0 = pad by cases pad; simp [Addr.add]]
  simpa using this
 refine jV Tryz.func29 Tryz.ntmps29 Tryz.results29 ?_
 refine jS (jR (ja rfl (jz 0 (jO (jN (jv1 0 ?_))))))
 refine jS (jR (ja rfl (jO (jN (jS (jR (ja rfl (jO (jN (jS (jR (jz 0 (jO (jN (jS (jS (jR (jz 0 (jO (jN (jB ?_)))))))))))))))))))))
 refine VC.loop (σ := Nat × List (Tk × Nat) × Option Addr × Nat × Option Addr × Nat) (fun s => [(0, .slice (some pad) 1 pc), (4, .slice s.2.2.1 s.2.1.length s.2.2.2.1), (5, .slice s.2.2.2.2.1 s.2.1.length s.2.2.2.2.2), (6, jI1 0), (7, jI1 s.1)]) (fun s wr => (s.1 = 0 ∧ s.2.1 = [] ∨ s.1 = 1 ∧ s.2.1 = L) ∧ s.2.1.length ≤ q.length ∧ TokR w wr s.2.1 s.2.2.1 s.2.2.2.1 s.2.2.2.2.1 s.2.2.2.2.2) (fun s => 1 - s.1) (0, [], none, 0, none, 0) (js5 rfl rfl rfl rfl rfl) ⟨.inl ⟨rfl, rfl⟩, jp, Own.nil _ _ _, Own.nil _ _ _, ⟨by simp [ob], by simp [ob]⟩, Frm.refl _ _⟩ ?_
 rintro ⟨i, pre, A, d, G, e⟩ wr ⟨hip, hpq, hT⟩
 dsimp only at hip hpq hT ⊢
 refine jS (jS (jR (jm rfl (jm rfl (jL rfl zbw (jb rfl rfl (Bin.lssN _ _) (jO (jN (jv6 0 4 5 6 7 16 ?_)))))))))
 refine jD rfl (fun hc1 => ?_) fun hc1 => ?_
 ·
  obtain ⟨rfl, rfl⟩ : i = 0 ∧ pre = [] := by
   rcases hip with h | ⟨h, _⟩
   · exact h
   omega
  refine jQ (jN (jv5 0 4 5 6 7 ?_))
  refine jS (jB (jS (jS (jR (jm rfl (jm rfl (je (Run.indexS 0 rfl rfl zbw Tryz.sizeOf82 jo) (jf rfl zcl rfl zm (jl rfl zal (hp1 _ hT.frm) (jO (jN (jv6 0 4 5 6 7 23 ?_))))))))))))
  refine VC.condF rfl (rfl) ?_
  refine jQ (jN (jv5 0 4 5 6 7 ?_))
  refine jS (jR (jz 0 (jO (jN (jB ?_)))))
  refine VC.loop (σ := (Nat × Nat × Nat × List (Tk × Nat)) × List (Tk × Nat) × Option Addr × Nat × Option Addr × Nat) (fun s => [(0, .slice (some pad) 1 pc), (4, .slice s.2.2.1 s.2.1.length s.2.2.2.1), (5, .slice s.2.2.2.2.1 s.2.1.length s.2.2.2.2.2), (6, jI1 s.1.2.1), (7, jI1 0), (8, jI1 s.1.1)]) (fun s wr => s.1.1 ≤ q.length ∧ s.1.2.1 ≤ s.1.1 ∧ s.2.1.length ≤ s.1.1 ∧ dX q s.1.2.2.1 s.1.1 s.1.2.1 = some s.1.2.2.2 ∧ s.2.1 ++ s.1.2.2.2 = L ∧ TokR w wr s.2.1 s.2.2.1 s.2.2.2.1 s.2.2.2.2.1 s.2.2.2.2.2) (fun s => s.1.2.2.1) ((0, 0, F, L), [], A, d, G, e) (js6 rfl rfl rfl rfl rfl rfl) ⟨jp, jp, jp, hF, jp, hT⟩ ?_
  rintro ⟨⟨a, gap, f, R⟩, pre, A, d, G, e⟩ wr ⟨hal, hga, hpl, htk, hL, hT⟩
  dsimp only at hal hga hpl htk hL hT ⊢
  have hst := tS htk
  refine jS (jS (jR (jm rfl (jm rfl (jm rfl (je (Run.indexS 0 rfl rfl zbw Tryz.sizeOf82 jo) (jf rfl zcl rfl zd (jl rfl zh (hp2 _ hT.frm) (je (Run.lenT rfl za) (jb rfl rfl (Bin.lssN _ _) (jO (jN (jv7 0 4 5 6 7 8 44 ?_)))))))))))))
  refine jD rfl (fun hc3 => ?_) fun hc3 => ?_
  ·
   obtain ⟨f, rfl, hst2⟩ : ∃ f', f = f' + 1 ∧ ((q[a].toNat = 32 ∧ dX q f' (a + 1) (gap + 1) = some R) ∨ (q[a].toNat ≠ 32 ∧ ∃ t nx R', gY q a = some (t, nx) ∧ dX q f' nx 0 = some R' ∧ R = (t, gap) :: R')) := by
    rcases hst with ⟨h, _⟩ | ⟨_, h⟩
    · omega
    exact h
   refine jQ (jN (jv6 0 4 5 6 7 8 ?_))
   refine jB (jS (jS (jR (jm rfl (jm rfl (je (Run.indexS 0 rfl rfl zbw Tryz.sizeOf82 jo) (jf rfl zcl rfl zd (jl rfl zh (hp2 _ hT.frm) (jM ?_)))))))))
   refine je (Run.indexT _ rfl rfl za (zb hc3)) ?_
   refine jb rfl rfl (Bin.eqlN _ 32) (jO (jN (jv7 0 4 5 6 7 8 52 ?_)))
   refine jD rfl (fun hc4 => ?_) fun hc4 => ?_
   ·
    have hst3 : dX q f (a + 1) (gap + 1) = some R := by
     rcases hst2 with ⟨_, h⟩ | ⟨h, _⟩
     · exact h
     exact absurd hc4 h
    refine jS (jR (jm rfl (jb rfl rfl (Bin.add_i64 _ 1 jo) (ja rfl (jO (jN (jv6 0 4 5 6 7 8 ?_)))))))
    refine jS (jR (jm rfl (jb rfl rfl (Bin.add_i64 _ 1 jo) (ja rfl (jO (jN (jv6 0 4 5 6 7 8 ?_)))))))
    refine jX ?_
    refine qK (qS ?_)
    refine jN ⟨((a + 1, gap + 1, f, R), pre, A, d, G, e), (js6 rfl rfl rfl rfl rfl rfl), ?_, ?_⟩
    · exact ⟨by show a + 1 ≤ _; omega, by show gap + 1 ≤ a + 1; omega, by show pre.length ≤ a + 1; omega, hst3, hL, hT⟩
    exact jq
   obtain ⟨t, nx, R', hct, hst3, rfl⟩ : ∃ t nx R', gY q a = some (t, nx) ∧ dX q f nx 0 = some R' ∧ R = (t, gap) :: R' := by
    rcases hst2 with ⟨h, _⟩ | ⟨_, h⟩
    · exact absurd h hc4
    exact h
   have hnx := vH hct
   refine jQ (jN (jv6 0 4 5 6 7 8 ?_))
   refine jS (jR (jm rfl (jm rfl (je (Run.indexS 0 rfl rfl zbw Tryz.sizeOf82 jo) (jf rfl zcl rfl zd (jl rfl zh (hp2 _ hT.frm) (jM ?_)))))))
   refine jc (jE2 Tryz.call60) (nR q a t nx _ hs hct) ?_
   rintro _ w1 ⟨rfl, hf1⟩
   refine ⟨_, rfl, ?_⟩
   have hT := hT.step hf1
   refine jm rfl (jY rfl rfl (jY rfl rfl ?_))
   refine Ops.m (qV.alloc cH) rfl ?_
   rintro _ w2 ⟨rfl, hF2⟩
   obtain ⟨g9, hg9⟩ : ∃ g, g = w1.heap.size := ⟨_, rfl⟩
   have hb2 := hF2.blk
   have s2 := hF2.size
   rw [← hg9] at hb2 ⊢
   have s1 := hT.frm.size
   have hAlt : ∀ y ∈ ob A, y < g9 := fun y hy => by have := hT.out.lt y hy; omega
   have hGlt : ∀ y ∈ ob G, y < g9 := fun y hy => by have := hT.gap.lt y hy; omega
   have hT := hT.step hF2.frm
   refine Ops.st (qZ.storeA rfl rfl zw hb2 rfl (dL _)) ?_
   rintro w3 ⟨hb3, hf3, hs3⟩
   have hT : TokR w w3 pre A d G e := ⟨hT.out.frm hf3 (fun y hy h => by have := hAlt y hy; simp at h; omega), hT.gap.frm hf3 (fun y hy h => by have := hGlt y hy; simp at h; omega), hT.up, hT.frm.own hf3 (by simp; omega)⟩
   refine ja rfl (jO (jN (jv7 0 4 5 6 7 9 10 ?_)))
   refine jS (jS (jR (jm rfl (jb rfl rfl (Bin.eqlN _ 0) (jO (jN (jv8 0 4 5 6 7 9 10 68 ?_)))))))
   refine VC.condF rfl jdf ?_
   refine jQ (jN (jv7 0 4 5 6 7 9 10 ?_))
   refine jS (jR (jm rfl (je (Run.loadA rfl zda zw (hb3.cells) (by first | rfl | (simp; done))) ?_)))
   refine Ops.m (qV.buildS1 rfl zab zw cH jd jd rfl rfl) rfl ?_
   rintro _ w4 ⟨rfl, hF4⟩
   have hT := hT.step hF4.frm
   have s4 := hF4.size
   refine Ops.m (qV.app rfl rfl zab (uA) rfl jd hT.out (hrdK hF4) (dL _) jo jo) rfl ?_
   rintro _ w5 ⟨A5, d5, rfl, hA5, hf5, hob5⟩
   have hA5 : Own w5 41 2 A5 (pre ++ [(t, gap)]).length d5 ((bV (pre ++ [(t, gap)])).flatMap tkC) := by simpa [bV] using hA5
   have hupA : ∀ x ∈ ob A5, w.heap.size ≤ x := lI hT.up.1 hob5 hT.frm.size
   have hGp := hT.gap.frm hf5 (hT.gap.ne_own hT.out jd)
   have hK5 := hT.frm.own hf5 hT.up.1
   have s5 := hf5.size
   refine ja rfl (jO (jN (jv6 0 4 5 6 7 10 ?_)))
   refine jS (jR (jm rfl (jM ?_)))
   refine Ops.m (qV.buildS1 rfl zi zc fV jd jd rfl rfl) rfl ?_
   rintro _ w6 ⟨rfl, hF6⟩
   have hA6 := hA5.frm hF6.frm jp
   have hGp := hGp.frm hF6.frm jp
   have hK6 := hK5.trans hF6.frm jp
   have s6 := hF6.size
   refine Ops.m (qV.app rfl rfl zi (tO) rfl jd hGp (hrdI hF6) (uF _) jo jo) rfl ?_
   rintro _ w7 ⟨G7, e7, rfl, hG7, hf7, hob7⟩
   have hG7 : Own w7 3 1 G7 (pre ++ [(t, gap)]).length e7 (IB (kF (pre ++ [(t, gap)]))) := by simpa [kF, IB] using hG7
   have hT7 : TokR w w7 (pre ++ [(t, gap)]) A5 d5 G7 e7 := ⟨hA6.frm hf7 (hA6.ne_own hGp jd), hG7, ⟨hupA, lI hT.up.2 hob7 hK6.size⟩, hK6.own hf7 hT.up.2⟩
   have el : pre.length + 1 = (pre ++ [(t, gap)]).length := jp
   refine ja rfl (jO (jN (jv5 0 4 5 7 10 ?_)))
   refine jS (jR (jz 0 (jO (jN (jR (jm rfl (ja rfl (jO ?_))))))))
   refine qW (jN ⟨((nx, 0, f, R'), pre ++ [(t, gap)], A5, d5, G7, e7), (js6 rfl (by rw [← el]; rfl) (by rw [← el]; rfl) rfl rfl rfl), ?_, ?_⟩)
   · exact ⟨by show nx ≤ _; omega, by show 0 ≤ nx; omega, by simp; omega, hst3, by simpa using hL, hT7⟩
   exact jq
  obtain ⟨rfl, rfl⟩ : gap = 0 ∧ R = [] := by
   rcases hst with ⟨_, h⟩ | ⟨h, _⟩
   · exact h
   omega
  rw [List.append_nil] at hL
  subst hL
  refine jX ?_
  refine qK (qK (qS ?_))
  refine qW (jN ?_)
  refine jv5 0 4 5 6 7 ?_
  refine jR (jm rfl (jb rfl rfl (Bin.add_i64 _ 1 jo) (ja rfl (jO ?_))))
  refine jN ⟨(1, pre, A, d, G, e), (js5 rfl rfl rfl rfl rfl), ?_, ?_⟩
  · exact ⟨.inr ⟨rfl, rfl⟩, by show pre.length ≤ _; omega, hT⟩
  exact jq
 obtain ⟨rfl, rfl⟩ : i = 1 ∧ pre = L := by
  rcases hip with ⟨h, _⟩ | h
  · omega
  exact h
 rename World => wq
 have hR : RdT wq A pre.length (bV pre) := ⟨by simp [bV], hT.out.rd⟩
 refine jX ?_
 refine qK (qK (qS ?_))
 refine jN (jv3 4 5 6 ?_)
 refine jS (jS (jR (jm rfl (jb rfl rfl (Bin.gtrN _ 0) (jO (jN (jv3 4 5 79 ?_)))))))
 refine VC.condF rfl (rfl) ?_
 refine jQ (jN (jv2 4 5 ?_))
 refine jS (jS (jR (jz 0 (jO (jN (jB ?_))))))
 refine VC.loop (σ := Nat) (fun s => [(4, .slice A pre.length d), (5, .slice G pre.length e), (11, jI1 s)]) (fun s wr => s ≤ pre.length ∧ wr = wq) (fun s => pre.length - s) 0 (js3 rfl rfl rfl) ⟨jo, rfl⟩ ?_
 rintro i wr ⟨hi, rfl⟩
 refine jS (jS (jR (jm rfl (jm rfl (jL rfl zab (jb rfl rfl (Bin.lssN _ _) (jO (jN (jv4 4 5 11 83 ?_)))))))))
 refine jD rfl (fun hc7 => ?_) fun hc7 => ?_
 ·
  have hGi := hG i hc7
  obtain ⟨oad, rfl, hoc⟩ := hR.cell hc7
  have hoc2 : ∀ W, Frm [] wr W → ∀ j v, (tkC ((bV pre).getD (i - 1) tk0))[j]? = some v → W.cell? ((oad.add ((i - 1) * 2)).add j) = some v := by
   obtain ⟨ad, h1, h2⟩ := hR.cell (k := i - 1) jo
   cases h1
   exact h2
  obtain ⟨gad, rfl, hgc⟩ := oT hT.gap.rd (by simp [kF]) hc7
  refine jQ (jN (jv3 4 5 11 ?_))
  refine jS (jB (jS (jR (jz 1 (jO (jN (jS (jS ?_))))))))
  refine VC.split1 [(4, _), (5, _), (11, _), (12, _)] (js4 rfl rfl rfl rfl) 104 (.bool (decide (i = 0 ∨ ((bV pre).getD (i - 1) tk0).1 = 2 ∨ ((bV pre).getD i tk0).1 = 3))) ?_ ?_
  ·
   refine jR ?_
   refine jm rfl (jb rfl rfl (Bin.eqlN _ 0) ?_)
   by_cases hs87 : i = 0
   ·
    refine jM ?_
    refine jU ?_
    refine jU ?_
    refine jU ?_
    refine jU ?_
    refine jU ?_
    refine jU ?_
    refine jU ?_
    refine jW rfl rfl au (jM ?_)
    refine jU ?_
    refine jU ?_
    refine jU ?_
    refine jU ?_
    refine jU ?_
    refine jU ?_
    refine jW rfl rfl au (jO ?_)
    refine jN ⟨(js5 (jC (by grind)) rfl rfl rfl rfl), rfl⟩
   refine jM ?_
   refine jG ?_
   refine jG ?_
   refine jk (Run.bin rfl rfl (Bin.subN i 1 jo (by simp [bmax]; omega))) ?_
   refine jk (Run.indexS (i - 1) rfl rfl zab zw jo) ?_
   refine jk (Run.fieldAddr rfl zaz rfl zc jd) ?_
   refine jk (Run.load rfl zl (hoc2 _ (Frm.refl _ _) 0 _ rfl)) ?_
   refine jk (Run.bin rfl rfl (Bin.eql _ 2)) ?_
   by_cases hs95 : ((bV pre).getD (i - 1) tk0).1 = 2
   ·
    refine jF rfl rfl au (jM ?_)
    refine jU ?_
    refine jU ?_
    refine jU ?_
    refine jU ?_
    refine jU ?_
    refine jU ?_
    refine jW rfl rfl au (jO ?_)
    refine jN ⟨(js5 (jC (by grind)) rfl rfl rfl rfl), rfl⟩
   refine jF rfl rfl au (jM ?_)
   refine jG ?_
   refine jG ?_
   refine jk (Run.indexS i rfl rfl zab zw hc7) ?_
   refine jk (Run.fieldAddr rfl zaz rfl zc jd) ?_
   refine jk (Run.load rfl zl (hoc _ (Frm.refl _ _) 0 _ rfl)) ?_
   refine jk (Run.bin rfl rfl (Bin.eql _ 3)) ?_
   by_cases hs103 : ((bV pre).getD i tk0).1 = 3
   ·
    refine jF rfl rfl au (jO ?_)
    refine jN ⟨(js5 (jC (by grind)) rfl rfl rfl rfl), rfl⟩
   refine jF rfl rfl au (jO ?_)
   refine jN ⟨(js5 (jC (by grind)) rfl rfl rfl rfl), rfl⟩
  intro Γ hΓ
  refine jN (VC.sub _ hΓ ?_)
  refine jD rfl (fun hc8 => ?_) fun hc8 => ?_
  ·
   refine jR (jz 0 (jO (jN (jv4 4 5 11 12 ?_))))
   refine jS (jR (jm rfl (jm rfl (je (Run.index1 i rfl rfl zi zc hc7) (jl rfl zl hgc (jm rfl (jb rfl rfl (Bin.neq _ _) (jO (jN (jv4 4 5 11 110 ?_))))))))))
   refine VC.condF rfl (decide_eq_false (by rw [hGi, if_pos hc8]; simp)) ?_
   refine jQ ?_
   refine qW (jN ?_)
   refine jv3 4 5 11 ?_
   refine jR (jm rfl (jb rfl rfl (Bin.add_i64 _ 1 jo) (ja rfl (jO ?_))))
   refine jN ⟨i + 1, (js3 rfl rfl rfl), ?_, ?_⟩
   · exact ⟨jo, rfl⟩
   exact jq
  refine jQ (jN (jv4 4 5 11 12 ?_))
  refine jS (jR (jm rfl (jm rfl (je (Run.index1 i rfl rfl zi zc hc7) (jl rfl zl hgc (jm rfl (jb rfl rfl (Bin.neq _ _) (jO (jN (jv4 4 5 11 110 ?_))))))))))
  refine VC.condF rfl (decide_eq_false (by rw [hGi, if_neg hc8]; simp)) ?_
  refine jQ ?_
  refine qW (jN ?_)
  refine jv3 4 5 11 ?_
  refine jR (jm rfl (jb rfl rfl (Bin.add_i64 _ 1 jo) (ja rfl (jO ?_))))
  refine jN ⟨i + 1, (js3 rfl rfl rfl), ?_, ?_⟩
  · exact ⟨jo, rfl⟩
  exact jq
 refine jX ?_
 refine qK (qK (qS ?_))
 refine jN (jv1 4 ?_)
 refine jS (jR (jm rfl (ja rfl (jz 0 (jO (jN (jv2 2 3 ?_)))))))
 refine jT ?_
 refine end2 rfl rfl ?_
 exact ⟨A, d, rfl, hR, hT.frm⟩
theorem gH (q : Tx) (L : List (Tk × Nat)) (F : Nat) (w : World) (hs : q.length ≤ 1000000) (hF : dX q F 0 0 = some L) (hG : gG L) : Calls Tryz.prog 16 #[encStr q] w fun e w' => ∃ A d, e = .returned (.slice A L.length d) ∧ RdT w' A L.length (bV L) ∧ Frm [] w w' := by
 refine jV Tryz.func16 Tryz.ntmps16 Tryz.results16 ?_
 refine jS (jR (ja rfl (jO (jN (jv1 0 ?_)))))
 refine jS (jR (jm rfl (je (Run.build (evs.cons rfl evs.nil) pD (mX).choose_spec.1 (mX).choose_spec.2 (cells := #[.bool false, encStr q]) rfl) ?_)))
 refine Ops.m (qV.buildS1 rfl zbw Tryz.sizeOf82 pD jd jd rfl rfl) rfl ?_
 rintro _ w1 ⟨rfl, hF1⟩
 refine jc (jE1 Tryz.call29) (pG q L F _ _ w1 hs (Rd.of_blk (n := 1) (size := 2) hF1.blk rfl) hF hG) ?_
 rintro e w2 ⟨A, d, rfl, hR2, hf2⟩
 refine ⟨_, rfl, ?_⟩
 refine jm rfl (jY rfl rfl (jY rfl rfl (ja rfl (ja rfl (jO (jN (jv1 3 ?_)))))))
 refine jS (jR (jm rfl (ja rfl (jO (jN (jv1 2 ?_))))))
 refine jT ?_
 refine qP rfl ?_
 exact ⟨A, d, rfl, hR2, hF1.frm.trans hf2 jp⟩
def axS1 : Tx := [97, 32, 108, 111, 103, 105, 110, 32, 106, 111, 101, 32, 34, 120, 32, 121, 34]
def gD : List (Tk × Nat) := [((0, [97]), 0), ((0, [108, 111, 103, 105, 110]), 1), ((0, [106, 111, 101]), 1), ((1, [120, 32, 121]), 1)]
theorem nL : dX axS1 200 0 0 = some gD ∧ gG gD := jd
def axS2 : Tx := [97, 32, 117, 105, 100, 32, 102, 101, 116, 99, 104, 32, 49, 58, 42, 32, 40, 102, 108, 97, 103, 115, 32, 98, 111, 100, 121, 91, 49, 93, 60, 48, 46, 57, 62, 41]
def eO : List (Tk × Nat) := [((0, [97]), 0), ((0, [117, 105, 100]), 1), ((0, [102, 101, 116, 99, 104]), 1), ((0, [49, 58, 42]), 1), ((2, [40]), 1), ((0, [102, 108, 97, 103, 115]), 0), ((0, [98, 111, 100, 121, 91, 49, 93, 60, 48, 46, 57, 62]), 1), ((3, [41]), 0)]
theorem nO : dX axS2 200 0 0 = some eO ∧ gG eO := jd
def axS3 : Tx := [97, 32, 110, 111, 111, 112, 32, 120]
def lV : List (Tk × Nat) := [((0, [97]), 0), ((0, [110, 111, 111, 112]), 1), ((0, [120]), 1)]
theorem oQ : dX axS3 200 0 0 = some lV ∧ gG lV := jd
theorem tT (A : Option Addr) (c : Nat) (w : World) (hR : RdT w A 4 (bV gD)) : Calls Tryz.prog 10 #[.slice A 4 c] w fun e w' => Frm [] w w' ∧ e = .returned (.tuple #[.agg (((gC [97] [76, 79, 71, 73, 78]).setIfInBounds 3 (encStr [106, 111, 101])).setIfInBounds 4 (encStr [120, 32, 121])), .int .i64 0]) := by
 refine (eV A 4 c _ (fun _ => some 4) (fun _ cs => ∃ s, fG (bV gD) 2 = some s ∧ cs = ((gC [97] [76, 79, 71, 73, 78]).setIfInBounds 3 (encStr s.1)).setIfInBounds 4 (encStr s.2)) w hR jd jd (fun W W' g t csx cs h _ _ _ => h) (fun s hs fv hfv => ?_)).mono ?_
 ·
  have h1 : qL (bV gD) 1 [0] = some [108, 111, 103, 105, 110] := jd
  rw [h1] at hs
  injection hs with hs
  subst hs
  have h2 : eS (qH [108, 111, 103, 105, 110]) = some (.func (.func 41) #[] #[]) := by rfl
  rw [h2] at hfv
  injection hfv with hfv
  exact ⟨_, hfv.symm, Tryz.call41, tN _ (eZ _ _) jd⟩
 rintro e w' ⟨hf, cs', code, rfl, he⟩
 have h3 : cF (bV gD) (fun _ => some 4) = some () := jd
 rw [h3] at he
 obtain ⟨rfl, _, s, hs, rfl⟩ := he
 have h4 : fG (bV gD) 2 = some ([106, 111, 101], [120, 32, 121]) := jd
 rw [h4] at hs
 injection hs with hs
 subst hs
 exact ⟨hf, rfl⟩
theorem lU : (cM (bV eO) 3).map (fun p => (p.2.1.length, (p.2.1.getD 1 it0).label, p.2.2)) = some (2, [66, 79, 68, 89, 91, 49, 93, 60, 48, 62], 8) := by decide +kernel
theorem tU (A : Option Addr) (c : Nat) (w : World) (hR : RdT w A 8 (bV eO)) (hv : cN w) (htb : Tab w) : Calls Tryz.prog 10 #[.slice A 8 c] w fun e w' => Frm [] w w' ∧ ∃ cs', e = .returned (.tuple #[.agg cs', .int .i64 0]) ∧ (∀ u ∈ cs'.toList, u.oneCell' = true) ∧ cs'.size = 20 ∧ cs'[1]? = some (encStr [70, 69, 84, 67, 72]) ∧ cs'[2]? = some (.bool true) ∧ ∃ ad d, cs'[9]? = some (.slice (some ad) 2 d) ∧ ∀ W, Frm [] w' W → W.cell? ((ad.add (1 * 9)).add 1) = some (encStr [66, 79, 68, 89, 91, 49, 93, 60, 48, 62]) := by
 have hA : 0 < 8 → ∀ x ∈ ob A, x < w.heap.size := fun h0 x hx => hR.rd.lt h0 x hx
 refine (eV A 8 c _ (fun _ => gV (bV eO) (fun _ => some 8)) (lK w.heap.size (bV eO) 3 (pW [97] [70, 69, 84, 67, 72])) w hR jd jd (fun W W' g t csx cs h hb ht k => h.frm hb ht k) (fun s hs fv hfv => ?_)).mono ?_
 ·
  have h1 : qL (bV eO) 1 [0] = some [117, 105, 100] := jd
  rw [h1] at hs
  injection hs with hs
  subst hs
  have h2 : eS (qH [117, 105, 100]) = some (.func (.func 38) #[] #[]) := by rfl
  rw [h2] at hfv
  injection hfv with hfv
  refine ⟨_, hfv.symm, Tryz.call38, rL A 8 c _ _ (fun _ => some 8) _ _ w jd _ rfl hA (fun s hs fv hfv => ?_)⟩
  have h3 : qL (bV eO) 2 [0] = some [102, 101, 116, 99, 104] := jd
  rw [h3] at hs
  injection hs with hs
  subst hs
  have h4 : mT (qH [102, 101, 116, 99, 104]) = some (.func (.func 35) #[] #[]) := by rfl
  rw [h4] at hfv
  injection hfv with hfv
  refine ⟨_, hfv.symm, Tryz.call35, kE _ rfl (mU _ _) hA jd hv htb ?_⟩
  have h5 := lU
  obtain ⟨p, h6, h7⟩ := Option.map_eq_some_iff.1 h5
  rw [h6]
  injection h7 with h7 h8
  injection h8 with h8 h9
  show some 8 = some p.2.2
  rw [h9]
 rintro e w' ⟨hf, cs', code, rfl, he⟩
 have h3 : cF (bV eO) (fun _ => gV (bV eO) (fun _ => some 8)) = some () := by decide +kernel
 rw [h3] at he
 obtain ⟨rfl, hsz, sp, xs, q2, Bs, ds, I, d, rs, h4, h5, h6, _, rfl⟩ := he
 have h7 := lU
 rw [h4] at h7
 simp only [Option.map_some, Option.some.injEq, Prod.mk.injEq] at h7
 obtain ⟨h7, h8, h9⟩ := h7
 have hrl : rs.length = 2 := by rw [← h7, ← h5, zbb]
 have h1 : 1 < rs.length := by omega
 obtain ⟨ad, rfl, _⟩ := h6.row.rd.elem h1
 refine ⟨hf, _, rfl, cX (cX (mU _ _) rfl) rfl, hsz, rfl, rfl, ad, d, by rw [hrl]; rfl, fun W hW => ?_⟩
 obtain ⟨ad2, h10, hc⟩ := (h6.row.frm hW jp).rd.elem h1
 cases h10
 refine hc 1 _ ?_
 unfold IRC
 rw [hU itR 9 (fun _ => rfl) rs 1 h1]
 have : (xs.getD 1 it0) = (rs[1]).x := by rw [← h5, zo, zck, zb h1]; rfl
 rw [this] at h8
 rw [← h8]
 rfl
theorem tB (A : Option Addr) (c : Nat) (w : World) (hR : RdT w A 3 (bV lV)) : Calls Tryz.prog 10 #[.slice A 3 c] w fun e w' => Frm [] w w' ∧ e = .returned (.tuple #[.agg (cE [97]), .int .i64 20]) := by
 refine (eV A 3 c _ (fun _ => some 2) (fun _ cs => cs = gC [97] [78, 79, 79, 80]) w hR jd jd (fun W W' g t csx cs h _ _ _ => h) (fun s hs fv hfv => ?_)).mono ?_
 ·
  have h1 : qL (bV lV) 1 [0] = some [110, 111, 111, 112] := jd
  rw [h1] at hs
  injection hs with hs
  subst hs
  have h2 : eS (qH [110, 111, 111, 112]) = some (.func (.func 39) #[] #[]) := by rfl
  rw [h2] at hfv
  injection hfv with hfv
  exact ⟨_, hfv.symm, Tryz.call39, pY _ (eZ _ _) rfl⟩
 rintro e w' ⟨hf, cs', code, rfl, he⟩
 have h3 : cF (bV lV) (fun _ => some 2) = none := jd
 rw [h3] at he
 obtain ⟨rfl, rfl⟩ := he
 exact ⟨hf, rfl⟩
theorem fQ (w : World) (hv : cN w) (htb : Tab w) : Calls Tryz.prog 8 #[] w fun e w' => e = .returned (.bool true) ∧ Frm [] w w' := by
 refine jV Tryz.func8 Tryz.ntmps8 Tryz.results8 ?_
 refine jS (jR (ja rfl (jO (jN ?_))))
 refine VC.sub [] .nil ?_
 refine jS (jR ?_)
 refine jc (jE1 Tryz.call16) (gH axS1 gD 200 _ jd nL.1 nL.2) ?_
 rintro _ v1 ⟨A1, d1, rfl, hR1, hf1⟩
 refine ⟨_, rfl, ?_⟩
 refine jc (jE1 Tryz.call10) (tT A1 d1 v1 hR1) ?_
 rintro _ u1 ⟨k1, rfl⟩
 refine ⟨_, rfl, ?_⟩
 refine jm rfl (jY rfl rfl (jY rfl rfl ?_))
 refine Ops.m (qV.alloc eW) rfl ?_
 rintro _ a1 ⟨rfl, hF1⟩
 obtain ⟨g1, hg1⟩ : ∃ g, g = u1.heap.size := ⟨_, rfl⟩
 have hb1 := hF1.blk
 rw [← hg1] at hb1 ⊢
 refine Ops.st (qZ.storeA rfl rfl zay hb1 rfl (cX (cX (eZ _ _) rfl) rfl)) ?_
 rintro b1 ⟨hc1, hs1, hz1⟩
 have K1 : Frm [] w b1 := ((hf1.trans k1 jp).trans hF1.frm jp).own hs1 (by have := (hf1.trans k1 jp).size; simp; omega)
 refine ja rfl (jO (jN (jv2 1 2 ?_)))
 refine jS (jR ?_)
 refine jc (jE1 Tryz.call16) (gH axS2 eO 200 _ jd nO.1 nO.2) ?_
 rintro _ v2 ⟨A2, d2, rfl, hR2, hf2⟩
 refine ⟨_, rfl, ?_⟩
 refine jc (jE1 Tryz.call10) (tU A2 d2 v2 hR2 (hv.frm0 (K1.trans hf2 jp)) (htb.frm (K1.trans hf2 jp))) ?_
 rintro _ u2 ⟨k2, cs2, rfl, one2, sz2, n2, uid2, ad2, dd2, it2, lab2⟩
 refine ⟨_, rfl, ?_⟩
 refine jm rfl (jY rfl rfl (jY rfl rfl ?_))
 refine Ops.m (qV.alloc eW) rfl ?_
 rintro _ a2 ⟨rfl, hF2⟩
 obtain ⟨g2, hg2⟩ : ∃ g, g = u2.heap.size := ⟨_, rfl⟩
 have hb2 := hF2.blk
 rw [← hg2] at hb2 ⊢
 refine Ops.st (qZ.storeA rfl rfl (fun w => (zay w).trans (by rw [sz2])) hb2 sz2 one2) ?_
 rintro b2 ⟨hc2, hs2, hz2⟩
 have K2 : Frm [] b1 a2 := (hf2.trans k2 jp).trans hF2.frm jp
 have K2b : Frm [] b1 b2 := K2.own hs2 (by have := (hf2.trans k2 jp).size; simp; omega)
 have hc1 := hc1.frm K2b jp
 have lab2 : ∀ W, Frm [] b2 W → W.cell? ((ad2.add (1 * 9)).add 1) = some (encStr [66, 79, 68, 89, 91, 49, 93, 60, 48, 62]) := fun W hW => lab2 W ((hF2.frm.own hs2 (by simp; omega)).trans hW jp)
 refine ja rfl (jO (jN (jv4 1 2 3 4 ?_)))
 refine jS (jR ?_)
 refine jc (jE1 Tryz.call16) (gH axS3 lV 200 _ jd oQ.1 oQ.2) ?_
 rintro _ v3 ⟨A3, d3, rfl, hR3, hf3⟩
 refine ⟨_, rfl, ?_⟩
 refine jc (jE1 Tryz.call10) (tB A3 d3 v3 hR3) ?_
 rintro _ u3 ⟨k3, rfl⟩
 refine ⟨_, rfl, ?_⟩
 refine jm rfl (jY rfl rfl (jY rfl rfl ?_))
 refine Ops.m (qV.alloc eW) rfl ?_
 rintro _ a3 ⟨rfl, hF3⟩
 obtain ⟨g3, hg3⟩ : ∃ g, g = u3.heap.size := ⟨_, rfl⟩
 have hb3 := hF3.blk
 rw [← hg3] at hb3 ⊢
 refine Ops.st (qZ.storeA rfl rfl zay hb3 rfl (gK _)) ?_
 rintro b3 ⟨hc3, hs3, hz3⟩
 have K3 : Frm [] b2 b3 := ((hf3.trans k3 jp).trans hF3.frm jp).own hs3 (by have := (hf3.trans k3 jp).size; simp; omega)
 have hc1 := hc1.frm K3 jp
 have hc2 := hc2.frm K3 jp
 have lab2 := lab2 _ K3
 refine ja rfl (jO (jN (jv6 1 2 3 4 5 6 ?_)))
 refine jS ?_
 refine VC.split1 [] .nil 0 (.bool (decide (True))) ?_ ?_
 ·
  refine jR (jf rfl zp rfl zd (jl rfl zh (hc1.cells 1 _ rfl) (je (Run.eqlT rfl rfl) (jM ?_))))
  refine jk (Run.fieldAddr rfl zp rfl zd jd) ?_
  refine jk (Run.load rfl zh (hc1.cells 3 _ rfl)) ?_
  refine jk (Run.eqlT rfl rfl) ?_
  refine jW rfl rfl au (jM ?_)
  refine jk (Run.fieldAddr rfl zp rfl zd jd) ?_
  refine jk (Run.load rfl zh (hc1.cells 4 _ rfl)) ?_
  refine jk (Run.eqlT rfl rfl) ?_
  refine jW rfl rfl au (jM ?_)
  refine jG ?_
  refine jk (Run.bin rfl rfl (Bin.eqlN _ 0)) ?_
  refine jW rfl rfl au (jM ?_)
  refine jk (Run.fieldAddr rfl zp rfl zd jd) ?_
  refine jk (Run.load rfl zh (hc2.cells 1 _ (by rw [zbj]; exact n2))) ?_
  refine jk (Run.eqlT rfl rfl) ?_
  refine jW rfl rfl au (jM ?_)
  refine jk (Run.fieldAddr rfl zp rfl zm jd) ?_
  refine jk (Run.load rfl zal (hc2.cells 2 _ (by rw [zbj]; exact uid2))) ?_
  refine jW rfl rfl au (jM ?_)
  refine jk (Run.fieldAddr rfl zp rfl zbq jd) ?_
  refine jk (Run.load rfl Tryz.isAgg27 (hc2.cells 9 _ (by rw [zbj]; exact it2))) ?_
  refine jk (Run.lenS rfl zbv) ?_
  refine jk (Run.bin rfl rfl (Bin.eqlN _ 2)) ?_
  refine jW rfl rfl au (jM ?_)
  refine jk (Run.fieldAddr rfl zp rfl zbq jd) ?_
  refine jk (Run.load rfl Tryz.isAgg27 (hc2.cells 9 _ (by rw [zbj]; exact it2))) ?_
  refine jk (Run.indexS 1 rfl rfl zbv zz jo) ?_
  refine jk (Run.fieldAddr rfl zg rfl zd jd) ?_
  refine jk (Run.load rfl zh lab2) ?_
  refine jk (Run.eqlT rfl rfl) ?_
  refine jW rfl rfl au (jM ?_)
  refine jG ?_
  refine jk (Run.bin rfl rfl (Bin.eqlN _ 0)) ?_
  refine jW rfl rfl au (jM ?_)
  refine jG ?_
  refine jk (Run.bin rfl rfl (Bin.eqlN _ 20)) ?_
  refine jW rfl rfl au (jM ?_)
  refine jk (Run.fieldAddr rfl zp rfl zd jd) ?_
  refine jk (Run.load rfl zh (hc3.cells 0 _ rfl)) ?_
  refine jk (Run.eqlT rfl rfl) ?_
  refine jW rfl rfl au (jm rfl (jW rfl rfl au (ja rfl (jO ?_))))
  refine jN ⟨(js1 (jC jp)), rfl⟩
 intro Γ hΓ
 refine jN (VC.sub _ hΓ ?_)
 refine jT ?_
 refine qP rfl ?_
 exact ⟨rfl, (K1.trans K2b jp).trans K3 jp⟩
end
section
open Go.RowKit Go.Sort
theorem decL (n : Nat) : (Lib.decDigits n).length ≤ n + 1 := by
 induction n using Nat.strongRecOn with
 | ind n ih =>
  unfold Lib.decDigits
  split
  · simp
  rw [zao]
  have := ih (n / 10) jo
  simp
  omega
theorem uT : ∀ n : Nat, n < 10 → (([48, 49, 50, 51, 52, 53, 54, 55, 56, 57] : Tx).drop n).take (n + 1 - n) = Lib.decDigits n := by decide +kernel
theorem tC {n : Nat} (h : ¬ n < 10) : Lib.decDigits n = Lib.decDigits (n / 10) ++ Lib.decDigits (n % 10) := by
 conv => lhs; unfold Lib.decDigits
 rw [dif_neg h]
 congr 1
 conv => rhs; unfold Lib.decDigits
 rw [dif_pos jo]
theorem sQ (n : Nat) (hn : n ≤ 4611686018427387904) (ih : ∀ m, m < n → ∀ w, Calls Tryz.prog 14 #[jI1 m] w fun e w' => e = .returned (encStr (Lib.decDigits m)) ∧ w = w') (w : World) :
  Calls Tryz.prog 14 #[jI1 n] w fun e w' => e = .returned (encStr (Lib.decDigits n)) ∧ w = w' := by
 refine jV Tryz.func14 Tryz.ntmps14 Tryz.results14 ?_
 refine jS (jR (ja rfl (jO (jN (jv1 0 ?_)))))
 refine jS (jS (jR (jm rfl (jb rfl rfl (Bin.lssN _ 10) (jO (jN (jv2 0 4 ?_)))))))
 refine jD rfl (fun hc1 => ?_) fun hc1 => ?_
 ·
  refine jS (jR (jm rfl (jm rfl (jb rfl rfl (Bin.add_i64 _ 1 jo) (je (Run.sliceT (s := [48, 49, 50, 51, 52, 53, 54, 55, 56, 57]) n (n + 1) rfl za (evB.some_ rfl) (evB.some_ rfl) jo (by simp; omega)) ?_)))))
  rw [uT n hc1]
  refine ja rfl (jO (jN (jv1 2 ?_)))
  refine jT ?_
  refine qQ (qP rfl ?_)
  exact ⟨rfl, rfl⟩
 refine jQ (jN (jv1 0 ?_))
 refine jS (jR (jm rfl (jb rfl rfl (Bin.quo_i64 n 10 jo jo) ?_)))
 refine jc0 (jE1 Tryz.call14) ((ih (n / 10) jo _)) ?_
 refine jm rfl (jb rfl rfl (Bin.remN _ 10 jo) ?_)
 refine jc0 (jE1 Tryz.call14) ((ih (n % 10) jo _)) ?_
 refine je (Run.addT rfl rfl (by have h1 := decL (n / 10); have h2 := decL (n % 10); omega)) (ja rfl (jO (jN (jv1 2 ?_))))
 refine jT ?_
 refine qP rfl ?_
 exact ⟨by rw [tC hc1], rfl⟩
theorem fX (n : Nat) : n ≤ 4611686018427387904 → ∀ w : World, Calls Tryz.prog 14 #[jI1 n] w fun e w' => e = .returned (encStr (Lib.decDigits n)) ∧ w = w' := by
 induction n using Nat.strongRecOn with
 | ind n ih => exact fun hn w => sQ n hn (fun m hm w => ih m hm jo w) w
end
section
open Go.RowKit Go.Sort
theorem sX {w : World} {ad : Addr} {l : List Int} {k : Nat} (h : Rd w 1 (some ad) l.length (PI l)) (hk : k < l.length) : w.cell? (ad.add (k * 1)) = some (.int .i64 l[k]) := by
 obtain ⟨ad', e, h⟩ := lF h hk
 cases e
 exact h
theorem oX {w : World} {ad : Addr} {l : List Tx} {k : Nat} (h : Rd w 1 (some ad) l.length (SB l)) (hk : k < l.length) : w.cell? (ad.add (k * 1)) = some (encStr l[k]) := by
 obtain ⟨ad', e, h⟩ := kN h hk
 cases e
 exact h
def eU (v u : Wnt) : Prop := v.what = u.what ∧ v.path = u.path ∧ v.names = u.names
instance (v u : Wnt) : Decidable (eU v u) := by unfold eU; infer_instance
theorem tD {v u : Wnt} (h : (v.what ≠ u.what ∨ v.path.length ≠ u.path.length) ∨ v.names.length ≠ u.names.length) : ¬ eU v u := by
 rintro ⟨h1, h2, h3⟩
 rcases h with (h | h) | h
 · exact h h1
 · exact h (by rw [h2])
 exact h (by rw [h3])
theorem fU (v u : Wnt) (A N B M : Option Addr) (c nc d mc : Nat) (w : World) (hp : Rd w 1 A v.path.length (PI v.path)) (hn : Rd w 1 N v.names.length (SB v.names)) (hq : Rd w 1 B u.path.length (PI u.path)) (hm : Rd w 1 M u.names.length (SB u.names)) (hpl : v.path.length ≤ 9223372036854775807) (hnl : v.names.length ≤ 9223372036854775807) :
  Calls Tryz.prog 15 #[.agg (WtC v A c N nc), .agg (WtC u B d M mc)] w fun e w' => e = .returned (.bool (decide (eU v u))) ∧ Frm [] w w' := by
 refine jV Tryz.func15 Tryz.ntmps15 Tryz.results15 ?_
 refine jS (jR ?_)
 refine Ops.m (qV.box rfl) rfl ?_
 rintro _ w1 ⟨rfl, hF2⟩
 have hb2 : Blk w1 w.heap.size 47 (WtC v A c N nc) := hF2.blk
 have f2 := hF2.frm
 have hp := hp.frm f2 jp
 have hn := hn.frm f2 jp
 have hq := hq.frm f2 jp
 have hm := hm.frm f2 jp
 generalize w.heap.size = g2 at hb2 ⊢
 refine Ops.m (qV.box rfl) rfl ?_
 rintro _ w2 ⟨rfl, hF3⟩
 have hb3 : Blk w2 w1.heap.size 47 (WtC u B d M mc) := hF3.blk
 have f3 := hF3.frm
 have hp := hp.frm f3 jp
 have hn := hn.frm f3 jp
 have hq := hq.frm f3 jp
 have hm := hm.frm f3 jp
 have hb2 := hb2.frm f3 jp
 generalize w1.heap.size = g3 at hb3 ⊢
 have K := f2.trans f3 jp
 have hb20 := hb2
 have hb30 := hb3
 refine ja rfl (jO (jN (jv2 2 3 ?_)))
 refine jS (jS ?_)
 refine VC.split1 [(2, _), (3, _)] (js2 rfl rfl) 29 (.bool (decide ((v.what ≠ u.what ∨ v.path.length ≠ u.path.length) ∨ v.names.length ≠ u.names.length))) ?_ ?_
 ·
  refine jR (jf rfl zf rfl zd (jl rfl zh (hb2.cell 1) (jf rfl zf rfl zd (jl rfl zh (hb3.cell 1) (je (Run.neqT rfl rfl) ?_)))))
  by_cases hs11 : v.what ≠ u.what
  ·
   refine jM ?_
   refine jU ?_
   refine jU ?_
   refine jU ?_
   refine jU ?_
   refine jU ?_
   refine jU ?_
   refine jU ?_
   refine jW rfl rfl au (jM ?_)
   refine jU ?_
   refine jU ?_
   refine jU ?_
   refine jU ?_
   refine jU ?_
   refine jU ?_
   refine jU ?_
   refine jW rfl rfl au (jO ?_)
   refine jN ⟨(js3 (jC (by first | exact (decide_eq_true (show (v.what ≠ u.what ∨ v.path.length ≠ u.path.length) ∨ v.names.length ≠ u.names.length from .inl (.inl hs11))).symm | exact (decide_eq_true hs11).trans (decide_eq_true (show (v.what ≠ u.what ∨ v.path.length ≠ u.path.length) ∨ v.names.length ≠ u.names.length from .inl (.inl hs11))).symm | exact (decide_eq_true (show (v.what ≠ u.what ∨ v.path.length ≠ u.path.length) ∨ v.names.length ≠ u.names.length from .inl (.inr hs19))).symm | exact (decide_eq_true hs19).trans (decide_eq_true (show (v.what ≠ u.what ∨ v.path.length ≠ u.path.length) ∨ v.names.length ≠ u.names.length from .inl (.inr hs19))).symm | exact (decide_eq_true hs28).trans (decide_eq_true (show (v.what ≠ u.what ∨ v.path.length ≠ u.path.length) ∨ v.names.length ≠ u.names.length from .inr hs28)).symm | exact (decide_eq_false hs28).trans (decide_eq_false (show ¬ ((v.what ≠ u.what ∨ v.path.length ≠ u.path.length) ∨ v.names.length ≠ u.names.length) from fun h => h.elim (fun h => h.elim hs11 hs19) hs28)).symm)) rfl rfl), rfl⟩
  refine jM ?_
  refine jk (Run.fieldAddr rfl zf rfl zac jd) ?_
  refine jk (Run.load rfl zas (show _ = some (Value.slice A v.path.length c) from hb2.cell 0)) ?_
  refine jk (Run.lenS rfl zi) ?_
  refine jk (Run.fieldAddr rfl zf rfl zac jd) ?_
  refine jk (Run.load rfl zas (show _ = some (Value.slice B u.path.length d) from hb3.cell 0)) ?_
  refine jk (Run.lenS rfl zi) ?_
  refine jk (Run.bin rfl rfl (Bin.neqN _ _)) ?_
  by_cases hs19 : v.path.length ≠ u.path.length
  ·
   refine jF rfl rfl au (jM ?_)
   refine jU ?_
   refine jU ?_
   refine jU ?_
   refine jU ?_
   refine jU ?_
   refine jU ?_
   refine jU ?_
   refine jW rfl rfl au (jO ?_)
   refine jN ⟨(js3 (jC (by first | exact (decide_eq_true (show (v.what ≠ u.what ∨ v.path.length ≠ u.path.length) ∨ v.names.length ≠ u.names.length from .inl (.inl hs11))).symm | exact (decide_eq_true hs11).trans (decide_eq_true (show (v.what ≠ u.what ∨ v.path.length ≠ u.path.length) ∨ v.names.length ≠ u.names.length from .inl (.inl hs11))).symm | exact (decide_eq_true (show (v.what ≠ u.what ∨ v.path.length ≠ u.path.length) ∨ v.names.length ≠ u.names.length from .inl (.inr hs19))).symm | exact (decide_eq_true hs19).trans (decide_eq_true (show (v.what ≠ u.what ∨ v.path.length ≠ u.path.length) ∨ v.names.length ≠ u.names.length from .inl (.inr hs19))).symm | exact (decide_eq_true hs28).trans (decide_eq_true (show (v.what ≠ u.what ∨ v.path.length ≠ u.path.length) ∨ v.names.length ≠ u.names.length from .inr hs28)).symm | exact (decide_eq_false hs28).trans (decide_eq_false (show ¬ ((v.what ≠ u.what ∨ v.path.length ≠ u.path.length) ∨ v.names.length ≠ u.names.length) from fun h => h.elim (fun h => h.elim hs11 hs19) hs28)).symm)) rfl rfl), rfl⟩
  refine jF rfl rfl au (jM ?_)
  refine jk (Run.fieldAddr rfl zf rfl zv jd) ?_
  refine jk (Run.load rfl zan (show _ = some (Value.slice N v.names.length nc) from hb2.cell 2)) ?_
  refine jk (Run.lenS rfl zk) ?_
  refine jk (Run.fieldAddr rfl zf rfl zv jd) ?_
  refine jk (Run.load rfl zan (show _ = some (Value.slice M u.names.length mc) from hb3.cell 2)) ?_
  refine jk (Run.lenS rfl zk) ?_
  refine jk (Run.bin rfl rfl (Bin.neqN _ _)) ?_
  by_cases hs28 : v.names.length ≠ u.names.length
  ·
   refine jF rfl rfl au (jO ?_)
   refine jN ⟨(js3 (jC (by first | exact (decide_eq_true (show (v.what ≠ u.what ∨ v.path.length ≠ u.path.length) ∨ v.names.length ≠ u.names.length from .inl (.inl hs11))).symm | exact (decide_eq_true hs11).trans (decide_eq_true (show (v.what ≠ u.what ∨ v.path.length ≠ u.path.length) ∨ v.names.length ≠ u.names.length from .inl (.inl hs11))).symm | exact (decide_eq_true (show (v.what ≠ u.what ∨ v.path.length ≠ u.path.length) ∨ v.names.length ≠ u.names.length from .inl (.inr hs19))).symm | exact (decide_eq_true hs19).trans (decide_eq_true (show (v.what ≠ u.what ∨ v.path.length ≠ u.path.length) ∨ v.names.length ≠ u.names.length from .inl (.inr hs19))).symm | exact (decide_eq_true hs28).trans (decide_eq_true (show (v.what ≠ u.what ∨ v.path.length ≠ u.path.length) ∨ v.names.length ≠ u.names.length from .inr hs28)).symm | exact (decide_eq_false hs28).trans (decide_eq_false (show ¬ ((v.what ≠ u.what ∨ v.path.length ≠ u.path.length) ∨ v.names.length ≠ u.names.length) from fun h => h.elim (fun h => h.elim hs11 hs19) hs28)).symm)) rfl rfl), rfl⟩
  refine jF rfl rfl au (jO ?_)
  refine jN ⟨(js3 (jC (by first | exact (decide_eq_true (show (v.what ≠ u.what ∨ v.path.length ≠ u.path.length) ∨ v.names.length ≠ u.names.length from .inl (.inl hs11))).symm | exact (decide_eq_true hs11).trans (decide_eq_true (show (v.what ≠ u.what ∨ v.path.length ≠ u.path.length) ∨ v.names.length ≠ u.names.length from .inl (.inl hs11))).symm | exact (decide_eq_true (show (v.what ≠ u.what ∨ v.path.length ≠ u.path.length) ∨ v.names.length ≠ u.names.length from .inl (.inr hs19))).symm | exact (decide_eq_true hs19).trans (decide_eq_true (show (v.what ≠ u.what ∨ v.path.length ≠ u.path.length) ∨ v.names.length ≠ u.names.length from .inl (.inr hs19))).symm | exact (decide_eq_true hs28).trans (decide_eq_true (show (v.what ≠ u.what ∨ v.path.length ≠ u.path.length) ∨ v.names.length ≠ u.names.length from .inr hs28)).symm | exact (decide_eq_false hs28).trans (decide_eq_false (show ¬ ((v.what ≠ u.what ∨ v.path.length ≠ u.path.length) ∨ v.names.length ≠ u.names.length) from fun h => h.elim (fun h => h.elim hs11 hs19) hs28)).symm)) rfl rfl), rfl⟩
 intro Γ hΓ
 refine jN (VC.sub _ hΓ ?_)
 refine jD rfl (fun hc1 => ?_) fun hc1 => ?_
 ·
  refine jS (jR (ja rfl (jO (jN (jv1 4 ?_)))))
  refine jT ?_
  refine qQ (qP rfl ?_)
  exact ⟨by rw [decide_eq_false (tD hc1)], K⟩
 have e1 : v.what = u.what := Classical.byContradiction fun h => hc1 (.inl (.inl h))
 have e2 : v.path.length = u.path.length := Classical.byContradiction fun h => hc1 (.inl (.inr h))
 have e3 : v.names.length = u.names.length := Classical.byContradiction fun h => hc1 (.inr h)
 refine jQ (jN (jv2 2 3 ?_))
 refine jS (jS (jR (jz 0 (jO (jN (jB ?_))))))
 refine VC.loop (σ := Nat) (fun s => [(2, jI0 g2), (3, jI0 g3), (5, jI1 s)]) (fun s wr => s ≤ v.path.length ∧ v.path.take s = u.path.take s ∧ Frm [] w2 wr) (fun s => v.path.length - s) 0 (js3 rfl rfl rfl) ⟨jo, jp, Frm.refl _ _⟩ ?_
 rintro i wr ⟨hi, heq, K0⟩
 have hb2 := hb20.frm K0 jp
 have hb3 := hb30.frm K0 jp
 refine jS (jS (jR (jm rfl (jf rfl zf rfl zac (jl rfl zas (show _ = some (Value.slice A v.path.length c) from hb2.cell 0) (jL rfl zi (jb rfl rfl (Bin.lssN _ _) (jO (jN (jv4 2 3 5 34 ?_))))))))))
 refine jD rfl (fun hc2 => ?_) fun hc2 => ?_
 ·
  obtain ⟨ad1, rfl, _⟩ := lF (hp.frm K0 jp) hc2
  obtain ⟨ad2, rfl, _⟩ := lF (hq.frm K0 jp) (jo : i < u.path.length)
  have hg1 := fun {w0 : World} (k : Frm [] w2 w0) => sX (hp.frm k jp) hc2
  have hg2 := fun {w0 : World} (k : Frm [] w2 w0) => sX (hq.frm k jp) (jo : i < u.path.length)
  have ht1 := dS hc2
  have ht2 := dS (jo : i < u.path.length)
  refine jQ (jN (jv3 2 3 5 ?_))
  refine jS (jB (jS ?_))
  refine VC.held (fun V => Frm [] wr V) jK ?_
  have hS : Frm [] wr wr.drew := (Frm.refl [] wr).drew
  refine jH 0 rfl hS (fun w0 hw0 => Run.fieldAddr rfl zf rfl zac jd) ?_
  refine jH 1 rfl hS (fun w0 hw0 => Run.load rfl zas (show _ = some (Value.slice (some ad1) v.path.length c) from (hb2.frm hw0 jp).cell 0)) ?_
  refine jh 2 hS ?_
  refine jH 3 rfl hS (fun w0 hw0 => Run.indexS i rfl rfl zi zc hc2) ?_
  refine jH 4 rfl hS (fun w0 hw0 => Run.load rfl zl (hg1 (K0.trans hw0 jp))) ?_
  refine jH 5 rfl hS (fun w0 hw0 => Run.fieldAddr rfl zf rfl zac jd) ?_
  refine jH 6 rfl hS (fun w0 hw0 => Run.load rfl zas (show _ = some (Value.slice (some ad2) u.path.length d) from (hb3.frm hw0 jp).cell 0)) ?_
  refine jh 7 hS ?_
  refine jH 8 rfl hS (fun w0 hw0 => Run.indexS i rfl rfl zi zc jo) ?_
  refine jH 9 rfl hS (fun w0 hw0 => Run.load rfl zl (hg2 (K0.trans hw0 jp))) ?_
  refine jH 10 rfl hS (fun w0 hw0 => Run.bin rfl rfl (Bin.neq _ _)) ?_
  refine qJ.done jK ?_
  refine jN (jv4 2 3 5 47 ?_)
  refine jD rfl (fun hc3 => ?_) fun hc3 => ?_
  ·
   have hne : v.path ≠ u.path := fun h => by have h2 := hc3; simp [h] at h2
   refine jS (jR (ja rfl (jO (jN (jv1 4 ?_)))))
   refine jT ?_
   refine qR (qQ (qQ (qR (qQ (qP rfl ?_)))))
   exact ⟨by rw [decide_eq_false (show ¬ eU v u from fun h => hne h.2.1)], K.trans (K0.drew) jp⟩
  refine jQ ?_
  refine qW (jN ?_)
  refine jv3 2 3 5 ?_
  refine jR (jm rfl (jb rfl rfl (Bin.add_i64 _ 1 jo) (ja rfl (jO ?_))))
  refine jN ⟨(i + 1), (js3 rfl rfl rfl), ?_, ?_⟩
  ·
   have hxy : v.path[i] = u.path[i] := by have h2 := hc3; simpa using h2
   exact ⟨jo, by rw [ht1, ht2, heq, hxy], (K0.drew)⟩
  exact jq
 have hep : v.path = u.path := by
  have hil : i = v.path.length := jo
  rw [hil, zar, e2, zar] at heq
  exact heq
 refine jX ?_
 refine qK (qK (qS ?_))
 refine jN (jv2 2 3 ?_)
 refine jS (jS (jR (jz 0 (jO (jN (jB ?_))))))
 refine VC.loop (σ := Nat) (fun s => [(2, jI0 g2), (3, jI0 g3), (6, jI1 s)]) (fun s wr => s ≤ v.names.length ∧ v.names.take s = u.names.take s ∧ Frm [] w2 wr) (fun s => v.names.length - s) 0 (js3 rfl rfl rfl) ⟨jo, jp, K0⟩ ?_
 rintro i wr ⟨hi, heq, K0⟩
 have hb2 := hb20.frm K0 jp
 have hb3 := hb30.frm K0 jp
 refine jS (jS (jR (jm rfl (jf rfl zf rfl zv (jl rfl zan (show _ = some (Value.slice N v.names.length nc) from hb2.cell 2) (jL rfl zk (jb rfl rfl (Bin.lssN _ _) (jO (jN (jv4 2 3 6 52 ?_))))))))))
 refine jD rfl (fun hc4 => ?_) fun hc4 => ?_
 ·
  obtain ⟨ad1, rfl, _⟩ := kN (hn.frm K0 jp) hc4
  obtain ⟨ad2, rfl, _⟩ := kN (hm.frm K0 jp) (jo : i < u.names.length)
  have hg1 := fun {w0 : World} (k : Frm [] w2 w0) => oX (hn.frm k jp) hc4
  have hg2 := fun {w0 : World} (k : Frm [] w2 w0) => oX (hm.frm k jp) (jo : i < u.names.length)
  have ht1 := dS hc4
  have ht2 := dS (jo : i < u.names.length)
  refine jQ (jN (jv3 2 3 6 ?_))
  refine jS (jB (jS ?_))
  refine VC.held (fun V => Frm [] wr V) jK ?_
  have hS : Frm [] wr wr.drew := (Frm.refl [] wr).drew
  refine jH 0 rfl hS (fun w0 hw0 => Run.fieldAddr rfl zf rfl zv jd) ?_
  refine jH 1 rfl hS (fun w0 hw0 => Run.load rfl zan (show _ = some (Value.slice (some ad1) v.names.length nc) from (hb2.frm hw0 jp).cell 2)) ?_
  refine jh 2 hS ?_
  refine jH 3 rfl hS (fun w0 hw0 => Run.indexS i rfl rfl zk zd hc4) ?_
  refine jH 4 rfl hS (fun w0 hw0 => Run.load rfl zh (hg1 (K0.trans hw0 jp))) ?_
  refine jH 5 rfl hS (fun w0 hw0 => Run.fieldAddr rfl zf rfl zv jd) ?_
  refine jH 6 rfl hS (fun w0 hw0 => Run.load rfl zan (show _ = some (Value.slice (some ad2) u.names.length mc) from (hb3.frm hw0 jp).cell 2)) ?_
  refine jh 7 hS ?_
  refine jH 8 rfl hS (fun w0 hw0 => Run.indexS i rfl rfl zk zd jo) ?_
  refine jH 9 rfl hS (fun w0 hw0 => Run.load rfl zh (hg2 (K0.trans hw0 jp))) ?_
  refine jH 10 rfl hS (fun w0 hw0 => Run.neqT rfl rfl) ?_
  refine qJ.done jK ?_
  refine jN (jv4 2 3 6 65 ?_)
  refine jD rfl (fun hc5 => ?_) fun hc5 => ?_
  ·
   have hne : v.names ≠ u.names := fun h => by have h2 := hc5; simp [h] at h2
   refine jS (jR (ja rfl (jO (jN (jv1 4 ?_)))))
   refine jT ?_
   refine qR (qQ (qQ (qR (qQ (qP rfl ?_)))))
   exact ⟨by rw [decide_eq_false (show ¬ eU v u from fun h => hne h.2.2)], K.trans (K0.drew) jp⟩
  refine jQ ?_
  refine qW (jN ?_)
  refine jv3 2 3 6 ?_
  refine jR (jm rfl (jb rfl rfl (Bin.add_i64 _ 1 jo) (ja rfl (jO ?_))))
  refine jN ⟨(i + 1), (js3 rfl rfl rfl), ?_, ?_⟩
  ·
   have hxy : v.names[i] = u.names[i] := by have h2 := hc5; simpa using h2
   exact ⟨jo, by rw [ht1, ht2, heq, hxy], (K0.drew)⟩
  exact jq
 have hen : v.names = u.names := by
  have hil : i = v.names.length := jo
  rw [hil, zar, e3, zar] at heq
  exact heq
 refine jX ?_
 refine qK (qK (qS ?_))
 refine jN ?_
 refine VC.sub [] .nil ?_
 refine jS (jR (ja rfl (jO (jN (jT ?_)))))
 refine qP rfl ?_
 exact ⟨by rw [decide_eq_true (show eU v u from ⟨e1, hep, hen⟩)], K.trans K0 jp⟩
end
section
open Go.RowKit
theorem vU {w : World} {A : Option Addr} {l : List ItR} {k : Nat} (h : Rd w 9 A l.length (IRC l)) (hk : k < l.length) : ∃ ad, A = some ad ∧ ∀ W, Frm [] w W → ∀ j v, (itR l[k])[j]? = some v → W.cell? ((ad.add (k * 9)).add j) = some v := by
 have key : ∀ W, Frm [] w W → ∃ ad, A = some ad ∧ ∀ j v, (itR l[k])[j]? = some v → W.cell? ((ad.add (k * 9)).add j) = some v := fun W hW => by
  obtain ⟨ad, h2, hc⟩ := (h.frm hW jp).elem hk
  exact ⟨ad, h2, fun j v hj => hc j v (by unfold IRC; rw [hU itR 9 (fun _ => rfl) l k hk]; exact hj)⟩
 obtain ⟨ad, h1, _⟩ := key w (Frm.refl _ _)
 refine ⟨ad, h1, fun W hW => ?_⟩
 obtain ⟨a2, h2, h3⟩ := key W hW
 rw [h1] at h2
 cases h2
 exact h3
theorem Blk.sub {w : World} {g : Nat} {t : TypeId} {cs : Array Value} (h : Blk w g t cs) (i : Nat) (l : List Value) (hl : (cs.toList.drop i).take l.length = l) : ∀ j v, l[j]? = some v → w.cell? ((⟨g, i, none⟩ : Addr).add j) = some v := by
 intro j v hj
 have hlt : j < l.length := (List.getElem?_eq_some_iff.1 hj).1
 rw [show ((⟨g, i, none⟩ : Addr).add j) = ⟨g, i + j, none⟩ by unfold Addr.add; split <;> simp_all, h.cell]
 rw [← hl, zaj hlt, zdb] at hj
 simpa using hj
theorem oZ {c : UInt8} : ∀ {a a2 b b2 : Tx}, c ∉ a → c ∉ a2 → a2 ++ c :: b2 = a ++ c :: b → a = a2
 | [], [], _, _, _, _, _ => rfl
 | [], y :: s, _, _, _, h2, h => by simp at h; exact absurd (h.1 ▸ List.mem_cons_self) h2
 | x :: r, [], _, _, h1, _, h => by simp at h; exact absurd (h.1 ▸ List.mem_cons_self) h1
 | x :: r, y :: s, _, _, h1, h2, h => by
  simp only [List.cons_append, List.cons.injEq] at h
  obtain ⟨rfl, h⟩ := h
  rw [oZ (fun hh => h1 (List.mem_cons_of_mem _ hh)) (fun hh => h2 (List.mem_cons_of_mem _ hh)) h]
theorem mB {c : UInt8} : ∀ {a b : Tx}, c ∉ a → Lib.indexByte (a ++ c :: b) c = ((a.length : Nat) : Int) := fun {a b} h => by
 rcases cZ (a ++ c :: b) c with ⟨_, h2⟩ | ⟨a2, b2, h1, h2, h3⟩
 · exact absurd jp h2
 have e : a2 = a := oZ h2 h h1
 rw [h3, e]
theorem vM {c : UInt8} {a : Tx} (h : c ∉ a) : Lib.indexByte a c = -1 := by
 rcases cZ a c with ⟨h1, _⟩ | ⟨a2, b2, h1, _, _⟩
 · exact h1
 exact absurd (by rw [h1]; simp) h
theorem uU {c : UInt8} {x : Tx} (h : c ∉ x) : ∀ k, Lib.splitK [c] 0 k x = [x]
 | 0 => rfl
 | k + 1 => by unfold Lib.splitK; rw [Lib.index_one, vM h]; rfl
theorem uB {c : UInt8} {x r : Tx} (h : c ∉ x) (k : Nat) : Lib.splitK [c] 0 (k + 1) (x ++ c :: r) = x :: Lib.splitK [c] 0 k r := by
 show (if Lib.index (x ++ c :: r) [c] == -1 then _ else _) = _
 rw [Lib.index_one, mB h, if_neg (by first | (simp; done) | (simp; omega))]
 simp
theorem kA (x y : Tx) (r : List Tx) (c : UInt8) : Lib.join (x :: y :: r) [c] = x ++ c :: Lib.join (y :: r) [c] := by simp [Lib.join]
theorem pH (x : Tx) (c : UInt8) : Lib.join [x] [c] = x := by simp [Lib.join]
theorem lB {c : UInt8} : ∀ {ws : List Tx}, ws ≠ [] → (∀ t ∈ ws, c ∉ t) → Lib.splitK [c] 0 ((Lib.join ws [c]).count c) (Lib.join ws [c]) = ws
 | [], h, _ => absurd rfl h
 | [x], _, h => by rw [pH]; exact uU (h x jp) _
 | x :: y :: r, _, h => by
  have hc : (Lib.join (x :: y :: r) [c]).count c = (Lib.join (y :: r) [c]).count c + 1 := by
   rw [kA, List.count_append, List.count_eq_zero.2 (h x jp), List.count_cons_self]; omega
  rw [hc, kA, uB (h x jp), lB jp (fun t ht => h t (by simp [ht]))]
theorem sZ {ws : List Tx} (h0 : ws ≠ []) (h : ∀ t ∈ ws, (32 : UInt8) ∉ t) : cT (Lib.join ws [32]) = ws := by
 unfold cT
 rw [Lib.splitB_data]
 have : Lib.countB ⟨(Lib.join ws [32]).toArray⟩ ⟨#[32]⟩ = (Lib.join ws [32]).count 32 := by
  unfold Lib.countB
  exact Lib.count_one 32 _
 rw [this]
 exact lB h0 h
theorem kZ : ∀ n : Nat, 1 ≤ n → n ≤ 64 → bI (Lib.decDigits n) = ((n : Nat) : Int) ∧ (46 : UInt8) ∉ Lib.decDigits n ∧ (32 : UInt8) ∉ Lib.decDigits n ∧ (91 : UInt8) ∉ Lib.decDigits n ∧ (93 : UInt8) ∉ Lib.decDigits n ∧ Lib.decDigits n ≠ [] := by
 intro n h1 h2
 have key : ∀ m : Fin 65, 1 ≤ m.1 → (fun l : Tx => bI l = ((m.1 : Nat) : Int) ∧ (46 : UInt8) ∉ l ∧ (32 : UInt8) ∉ l ∧ (91 : UInt8) ∉ l ∧ (93 : UInt8) ∉ l ∧ l ≠ []) (if m.1 < 10 then [UInt8.ofNat (48 + m.1)] else [UInt8.ofNat (48 + m.1 / 10), UInt8.ofNat (48 + m.1 % 10)]) := jd
 have e : Lib.decDigits n = if n < 10 then [UInt8.ofNat (48 + n)] else [UInt8.ofNat (48 + n / 10), UInt8.ofNat (48 + n % 10)] := by
  split
  · rename_i h; exact bF h
  rename_i h; rw [fT h, bF (n := n / 10) jo, bF (n := n % 10) jo]; rfl
 have := key ⟨n, jo⟩ h1
 rw [e]
 exact this
def dcs (p : List Int) : List Tx := p.map fun n => Lib.decDigits n.toNat
def whs (t : Tx) : List Tx := if t = [] then [] else [t]
theorem uZ {v : Wnt} (h : fL v) : bI (bQ 46 v.what) = 0 ∧ qH v.what = v.what ∧ (32 : UInt8) ∉ v.what ∧ (91 : UInt8) ∉ v.what ∧ (93 : UInt8) ∉ v.what := by
 have h2 : ∀ t ∈ ([[], sF, sA, mY, mG, sI] : List Tx), bI (bQ 46 t) = 0 ∧ qH t = t ∧ (32 : UInt8) ∉ t ∧ (91 : UInt8) ∉ t ∧ (93 : UInt8) ∉ t := jd
 exact h2 _ (by unfold fL at h; simp; grind)
theorem uC {ws : List Tx} {c : UInt8} (h : ∀ x ∈ ws, x ≠ []) (h0 : ws ≠ []) : Lib.join ws [c] ≠ [] := by
 match ws, h0 with
 | [x], _ => rw [pH]; exact h x jp
 | x :: y :: r, _ => rw [kA]; simp
theorem eD {c d : UInt8} (hd : d ≠ c) : ∀ {ws : List Tx}, (∀ x ∈ ws, d ∉ x) → d ∉ Lib.join ws [c]
 | [], _ => by simp [Lib.join]
 | [x], h => by rw [pH]; exact h x jp
 | x :: y :: r, h => by
  rw [kA]
  have := eD hd (ws := y :: r) (fun z hz => h z (by simp [hz]))
  simp only [List.mem_append, zak, not_or]
  exact ⟨h x jp, hd, this⟩
theorem sJ {t : Tx} (ht : bI (bQ 46 t) = 0) : ∀ (ps : List Int) (k : Nat) (p : List Int), (∀ n ∈ ps, ¬ bZ n) → (Lib.join (dcs ps ++ whs t) [46]).length ≤ k → cC k (Lib.join (dcs ps ++ whs t) [46]) p = some (p ++ ps, t) := by
 intro ps
 induction ps with
 | nil =>
  intro k p _ hk
  have e : Lib.join (dcs [] ++ whs t) [46] = t := by unfold dcs whs; split <;> simp_all [Lib.join]
  rw [e] at hk ⊢
  cases k with
  | zero => unfold cC; simp
  | succ k =>
   unfold cC
   split
   · simp_all
   first | (rw [if_pos ht]; simp) | simp
 | cons n ps ih =>
  intro k p hb hk
  have hn : 1 ≤ n ∧ n ≤ 64 := by have := hb n jp; unfold bZ at this; omega
  obtain ⟨d1, d2, _, _, _, d6⟩ := kZ n.toNat jo jo
  have hrest : ∀ x ∈ dcs ps ++ whs t, x ≠ [] := by
   intro x hx
   rcases List.mem_append.1 hx with h | h
   ·
    obtain ⟨m, hm, rfl⟩ := List.mem_map.1 h
    have h3 : 1 ≤ m ∧ m ≤ 64 := by have := hb m (by simp [hm]); unfold bZ at this; omega
    exact (kZ m.toNat jo jo).2.2.2.2.2
   unfold whs at h; split at h <;> simp_all
  have hstep : ∀ J A2 : Tx, J ≠ [] → bQ 46 J = Lib.decDigits n.toNat → qB 46 J = A2 → ¬ (46 ∈ J ∧ A2 = []) → J.length ≤ k → ∃ k', k = k' + 1 ∧ cC k J p = cC k' A2 (p ++ [n]) := by
   intro J A2 h0 h1 h2 h3 h4
   obtain ⟨k', rfl, e⟩ := kS (p := p) h0 h4
   refine ⟨k', rfl, ?_⟩
   rw [e, h1, h2, d1, if_neg jo, if_neg h3, show (((n.toNat : Nat) : Int)) = n by omega]
  rcases hR : dcs ps ++ whs t with _ | ⟨y, r⟩
  ·
   have hps : ps = [] ∧ t = [] := by
    have := List.append_eq_nil_iff.1 hR
    refine ⟨by simpa [dcs] using this.1, ?_⟩
    have h2 := this.2
    unfold whs at h2
    split at h2
    · assumption
    cases h2
   obtain ⟨rfl, rfl⟩ := hps
   have e : Lib.join (dcs [n] ++ whs []) [46] = Lib.decDigits n.toNat := by simp [dcs, whs, Lib.join]
   rw [e] at hk ⊢
   obtain ⟨k', rfl, e2⟩ := hstep _ [] d6 (gU d2).1 (gU d2).2 (fun h => d2 h.1) hk
   rw [e2]
   cases k' with
   | zero => rfl
   | succ k' => unfold cC; simp
  have e : Lib.join (dcs (n :: ps) ++ whs t) [46] = Lib.decDigits n.toNat ++ 46 :: Lib.join (dcs ps ++ whs t) [46] := by
   rw [hR]
   show Lib.join (Lib.decDigits n.toNat :: (dcs ps ++ whs t)) [46] = _
   rw [hR, kA]
  have hJ : Lib.join (dcs ps ++ whs t) [46] ≠ [] := uC hrest (by rw [hR]; simp)
  rw [e] at hk ⊢
  obtain ⟨k', rfl, e2⟩ := hstep _ _ jp (eL d2).1 (eL d2).2 (fun h => hJ h.2) hk
  rw [e2, ih k' (p ++ [n]) (fun m hm => hb m (by simp [hm])) (by simp at hk; omega)]
  simp
theorem oJ {v : Wnt} (h : bS v) : (32 : UInt8) ∉ Lib.join (bC v) [46] ∧ (91 : UInt8) ∉ Lib.join (bC v) [46] ∧ (93 : UInt8) ∉ Lib.join (bC v) [46] := by
 have hw := uZ h.2.2
 have key : ∀ x ∈ bC v, (32 : UInt8) ∉ x ∧ (91 : UInt8) ∉ x ∧ (93 : UInt8) ∉ x := by
  intro x hx
  unfold bC at hx
  rcases List.mem_append.1 hx with h1 | h1
  ·
   obtain ⟨m, hm, rfl⟩ := List.mem_map.1 h1
   have h3 : ¬ bZ m := fun hb => h.1 (.inr ⟨m, hm, hb⟩)
   have h4 : 1 ≤ m ∧ m ≤ 64 := by unfold bZ at h3; omega
   obtain ⟨_, _, d3, d4, d5, _⟩ := kZ m.toNat jo jo
   exact ⟨d3, d4, d5⟩
  split at h1
  · cases h1
  rw [ze] at h1; subst h1; exact hw.2.2
 exact ⟨eD jd fun x hx => (key x hx).1, eD jd fun x hx => (key x hx).2.1, eD jd fun x hx => (key x hx).2.2⟩
theorem mC {s : Tx} (h : bJ s) : (32 : UInt8) ∉ s ∧ (91 : UInt8) ∉ s ∧ (93 : UInt8) ∉ s := by
 refine ⟨fun h1 => ?_, fun h1 => ?_, fun h1 => ?_⟩ <;> have := h.2 _ h1 <;> revert this <;> decide
theorem sV {v : Wnt} (h : bS v) : bR (qO v) = some v := by
 have hw := uZ h.2.2
 have hJ := oJ h
 have hp : kR (Lib.join (bC v) [46]) = some (v.path, v.what) := by
  have := sJ hw.1 v.path _ [] (fun n hn hb => h.1 (.inr ⟨n, hn, hb⟩)) (zai _)
  exact this
 have hno : ∀ s ∈ v.names, bJ s := fun s hs => Classical.byContradiction fun hq => h.2.1 (.inr ⟨s, hs, hq⟩)
 have hm : bS ⟨v.path, qH v.what, v.names⟩ := by rw [hw.2.1]; exact h
 unfold qO
 rw [if_pos h]
 by_cases hn : v.names = []
 ·
  rw [if_pos hn, List.append_nil]
  have h1 : cR (Lib.join (bC v) [46]) = some v.names := by unfold cR; rw [if_neg hJ.1, hn]
  unfold bR
  rw [h1, (gU hJ.1).1, hp]
  dsimp only
  rw [if_pos hm, hw.2.1]
 rw [if_neg hn]
 have e : Lib.join (bC v) [46] ++ ([32, 40] ++ Lib.join v.names [32] ++ [41]) = Lib.join (bC v) [46] ++ 32 :: (40 :: (Lib.join v.names [32] ++ [41])) := jp
 rw [e]
 have hb := eL (b := 40 :: (Lib.join v.names [32] ++ [41])) hJ.1
 have hin : Lib.trimPrefix (40 :: (Lib.join v.names [32] ++ [41])) [40] = Lib.join v.names [32] ++ [41] := by simp [Lib.trimPrefix, Lib.hasPrefix]
 have h1 : cR (Lib.join (bC v) [46] ++ 32 :: (40 :: (Lib.join v.names [32] ++ [41]))) = some v.names := by
  unfold cR fH
  rw [if_pos jp, hb.2, hin, if_neg (by simp [Lib.hasPrefix, Lib.hasSuffix])]
  have h2 : Lib.trimSuffix (Lib.join v.names [32] ++ [41]) [41] = Lib.join v.names [32] := by simp [Lib.trimSuffix, Lib.hasSuffix]
  rw [h2, sZ hn (fun t ht => (mC (hno t ht)).1)]
 unfold bR
 rw [h1, hb.1, hp]
 dsimp only
 rw [if_pos hm, hw.2.1]
theorem uD {v : Wnt} : (91 : UInt8) ∉ qO v ∧ (93 : UInt8) ∉ qO v := by
 unfold qO
 split
 ·
  rename_i h
  have hJ := oJ h
  have hno : ∀ s ∈ v.names, bJ s := fun s hs => Classical.byContradiction fun hq => h.2.1 (.inr ⟨s, hs, hq⟩)
  have h1 := eD (c := 32) (d := 91) jd (fun x hx => (mC (hno x hx)).2.1)
  have h2 := eD (c := 32) (d := 93) jd (fun x hx => (mC (hno x hx)).2.2)
  split
  · simp [hJ]
  simp [hJ, h1, h2]
 simp
theorem mD : ∀ (a b : Tx) (acc : Nat), Lib.decFrom acc (a ++ b) = (Lib.decFrom acc a).bind fun m => Lib.decFrom m b
 | [], b, acc => rfl
 | c :: r, b, acc => by
  show (match Lib.digitVal c with | some d => Lib.decFrom (acc * 10 + d) (r ++ b) | none => none) = (match Lib.digitVal c with | some d => Lib.decFrom (acc * 10 + d) r | none => none).bind fun m => Lib.decFrom m b
  cases Lib.digitVal c with
  | none => rfl
  | some d => exact mD r b _
theorem oK : ∀ n : Nat, n < 10 → Lib.digitVal (UInt8.ofNat (48 + n)) = some n := jd
theorem tE (n : Nat) : Lib.decFrom 0 (Lib.decDigits n) = some n := by
 induction n using Nat.strongRecOn with
 | ind n ih =>
  by_cases h : n < 10
  ·
   rw [bF h]
   unfold Lib.decFrom
   rw [oK n h]
   simp [Lib.decFrom]
  rw [fT h, mD, ih (n / 10) jo, bF (n := n % 10) (Nat.mod_lt _ jd)]
  simp only [zap]
  unfold Lib.decFrom
  rw [oK (n % 10) (Nat.mod_lt _ jd)]
  simp only [Lib.decFrom]
  congr 1
  omega
theorem kJ (n : Nat) : ∀ x ∈ Lib.decDigits n, x ∈ lX := by
 induction n using Nat.strongRecOn with
 | ind n ih =>
  have h10 : ∀ m : Nat, m < 10 → ∀ x ∈ ([UInt8.ofNat (48 + m)] : Tx), x ∈ lX := jd
  by_cases h : n < 10
  · rw [bF h]; exact h10 n h
  rw [fT h]
  intro x hx
  rcases List.mem_append.1 hx with h1 | h1
  · exact ih (n / 10) jo x h1
  rw [bF (n := n % 10) (Nat.mod_lt _ jd)] at h1
  exact h10 _ (Nat.mod_lt _ jd) x h1
theorem sW (n : Nat) : Lib.decDigits n ≠ [] := by
 by_cases h : n < 10
 · rw [bF h]; simp
 rw [fT h, bF (n := n % 10) (Nat.mod_lt _ jd)]; simp
theorem eE : ∀ (k n : Nat), n < 10 ^ (k + 1) → (Lib.decDigits n).length ≤ k + 1
 | 0, n, h => by rw [bF (by simpa using h)]; simp
 | k + 1, n, h => by
  by_cases h1 : n < 10
  · rw [bF h1]; simp
  rw [fT h1, bF (n := n % 10) (Nat.mod_lt _ jd), zao]
  have := eE k (n / 10) (by rw [Nat.div_lt_iff_lt_mul jd, ← Nat.pow_succ]; exact h)
  simp; omega
theorem tF (n : Nat) : Lib.atoi (Lib.decDigits n) = some ((n : Nat) : Int) := by
 have h1 := kJ n
 have h2 := tE n
 have h3 := sW n
 cases hl : Lib.decDigits n with
 | nil => exact absurd hl h3
 | cons b r =>
  rw [hl] at h1 h2
  have hb := h1 b jp
  have hb2 : b ≠ 45 ∧ b ≠ 43 := ⟨fun e => by subst e; revert hb; decide, fun e => by subst e; revert hb; decide⟩
  show (if (b == 45) = true then (Lib.decNat r).map (fun (m : Nat) => -(m : Int)) else if (b == 43) = true then (Lib.decNat r).map (fun (m : Nat) => (m : Int)) else (Lib.decNat (b :: r)).map fun (m : Nat) => (m : Int)) = _
  rw [if_neg (by simpa using hb2.1), if_neg (by simpa using hb2.2)]
  unfold Lib.decNat
  rw [h2]
  rfl
theorem mE (n : Nat) (h : n < 65536) : gX (Lib.decDigits n) = ((n : Nat) : Int) := by
 have h1 := eE 5 n jo
 have h2 : 0 < (Lib.decDigits n).length := List.length_pos_iff.2 (sW n)
 unfold gX
 rw [if_neg, tF]
 · rfl
 rintro (h3 | h3 | h3)
 · omega
 · omega
 exact h3 (rR.2 (kJ n))
theorem sY (n : Nat) : (46 : UInt8) ∉ Lib.decDigits n ∧ (60 : UInt8) ∉ Lib.decDigits n ∧ (62 : UInt8) ∉ Lib.decDigits n := by
 refine ⟨fun h => ?_, fun h => ?_, fun h => ?_⟩ <;> (have := kJ n _ h; revert this; decide)
theorem vN (x : Tx) (c : UInt8) : Lib.trimSuffix (x ++ [c]) [c] = x := by simp [Lib.trimSuffix, Lib.hasSuffix]
theorem vB (x : Tx) (c : UInt8) : Lib.hasSuffix (x ++ [c]) [c] = true := by simp [Lib.hasSuffix]
def gE (p : Bool) : Tx := if p = true then [98, 111, 100, 121, 46, 80, 101, 101, 107, 91] else [66, 79, 68, 89, 91]
def bT (a n : Nat) : Tx := if 0 < n then [60] ++ Lib.decDigits a ++ [46] ++ Lib.decDigits n ++ [62] else []
def gM (a n : Nat) : Tx := if 0 < n then [60] ++ Lib.decDigits a ++ [62] else []
def cW (p : Bool) (v : Wnt) (a n : Nat) : Tx := gE p ++ qO v ++ [93] ++ bT a n
def mF (p : Bool) (v : Wnt) (a n : Nat) : ItM := ⟨6, [66, 79, 68, 89, 91] ++ qO v ++ [93] ++ gM a n, v, p, decide (0 < n), if 0 < n then ((a : Nat) : Int) else 0, if 0 < n then ((n : Nat) : Int) else 0⟩
theorem uE {a n : Nat} (ha : a < 65536) (hn : n < 65536) (h0 : 0 < n) : dD (bT a n) ∧ bB (bT a n) = ((a : Nat) : Int) ∧ dQ (bT a n) = ((n : Nat) : Int) := by
 have e : bT a n = 60 :: (Lib.decDigits a ++ 46 :: Lib.decDigits n ++ [62]) := by unfold bT; rw [if_pos h0]; simp
 have e1 : Lib.trimPrefix (bT a n) [60] = Lib.decDigits a ++ 46 :: Lib.decDigits n ++ [62] := by rw [e]; simp [Lib.trimPrefix, Lib.hasPrefix]
 have e2 : eX (bT a n) = Lib.decDigits a ++ 46 :: Lib.decDigits n := by unfold eX; rw [e1]; exact vN _ _
 have e3 : bB (bT a n) = ((a : Nat) : Int) := by unfold bB; rw [e2, (eL (sY a).1).1, mE a ha]
 have e4 : dQ (bT a n) = ((n : Nat) : Int) := by unfold dQ; rw [e2, (eL (sY a).1).2, mE n hn]
 refine ⟨⟨?_, ?_, ?_, ?_, ?_⟩, e3, e4⟩
 · rw [e]; simp [Lib.hasPrefix]
 · rw [e1]; exact vB _ _
 · rw [e2]; simp
 · rw [e3]; omega
 rw [e4]; omega
theorem tA (p : Bool) {v : Wnt} (hm : bS v) {a n : Nat} (ha : a < 65536) (hn : n < 65536) : bU (cW p v a n) = some (mF p v a n) := by
 obtain ⟨t1, t2⟩ := @uD v
 have hrd := sV hm
 obtain ⟨P, hP, hP1, hP2, hP3⟩ : ∃ P : Tx, gE p = P ++ [91] ∧ (91 : UInt8) ∉ P ∧ (93 : UInt8) ∉ P ∧ qH P = if p = true then [66, 79, 68, 89, 46, 80, 69, 69, 75] else [66, 79, 68, 89] := by
  cases p
  · exact ⟨[66, 79, 68, 89], rfl, jd, jd, jd⟩
  exact ⟨[98, 111, 100, 121, 46, 80, 101, 101, 107], rfl, jd, jd, jd⟩
 have hS1 : cW p v a n = P ++ 91 :: (qO v ++ 93 :: bT a n) := by unfold cW; rw [hP]; simp
 have hS2 : cW p v a n = (P ++ 91 :: qO v) ++ 93 :: bT a n := by unfold cW; rw [hP]; simp
 have i1 : Lib.indexByte (cW p v a n) 91 = ((P.length : Nat) : Int) := by rw [hS1]; exact mB hP1
 have i2 : Lib.indexByte (cW p v a n) 93 = (((P ++ 91 :: qO v).length : Nat) : Int) := by rw [hS2]; exact mB (by simp [hP2, t2])
 have g1 : eH (qH (cW p v a n)) = none := by
  have : qH (cW p v a n) = (if p = true then [66, 79, 68, 89, 46, 80, 69, 69, 75] else [66, 79, 68, 89]) ++ 91 :: qH (qO v ++ 93 :: bT a n) := by
   rw [hS1]; unfold qH; rw [zcw, zcq]; unfold qH at hP3; rw [hP3]; rfl
  rw [this]
  cases p <;> simp [eH]
 have h1 : hdI (cW p v a n) = if p = true then [66, 79, 68, 89, 46, 80, 69, 69, 75] else [66, 79, 68, 89] := by
  unfold hdI
  rw [i1, zbu, hS1, List.take_left, hP3]
 have hz : (P ++ 91 :: qO v).length - (P ++ [91]).length = (qO v).length := by simp; omega
 have h2 : inI (cW p v a n) = qO v := by
  unfold inI
  rw [i1, i2, zbu, zbu, hS1, show P.length + 1 = (P ++ [91]).length by simp, show P ++ 91 :: (qO v ++ 93 :: bT a n) = (P ++ [91]) ++ (qO v ++ 93 :: bT a n) by simp, List.drop_left, hz, List.take_left]
 have h3 : reI (cW p v a n) = bT a n := by
  unfold reI
  rw [i2, zbu, hS2, show (P ++ 91 :: qO v).length + 1 = ((P ++ 91 :: qO v) ++ [93]).length by simp; omega, show (P ++ 91 :: qO v) ++ 93 :: bT a n = ((P ++ 91 :: qO v) ++ [93]) ++ bT a n by simp, List.drop_left]
 have h4 : fN (cW p v a n) := ⟨⟨by rw [i1]; omega, by rw [i1, i2]; simp; omega⟩, by rw [h1]; cases p <;> simp⟩
 have h5 : decide (hdI (cW p v a n) = [66, 79, 68, 89, 46, 80, 69, 69, 75]) = p := by rw [h1]; cases p <;> simp
 unfold bU
 rw [g1]
 dsimp only
 rw [if_pos h4, h2, hrd, zap, h3, h5]
 unfold mF cD
 by_cases h0 : 0 < n
 ·
  obtain ⟨p1, p2, p3⟩ := uE ha hn h0
  rw [if_neg (show ¬ bT a n = [] by unfold bT; rw [if_pos h0]; simp), if_pos p1, p2, p3, if_pos h0, if_pos h0, Lib.itoa_nonneg]
  unfold gM
  rw [if_pos h0]
  simp [h0]
 rw [if_pos (show bT a n = [] by unfold bT; rw [if_neg h0]), if_neg h0, if_neg h0]
 unfold gM
 rw [if_neg h0]
 simp [h0]
def fZ (p : Bool) (v : Wnt) (a n : Nat) : List Tk := [(0, [116]), (0, [70, 69, 84, 67, 72]), (0, [55]), (0, cW p v a n)]
theorem sG (p : Bool) {v : Wnt} (hm : bS v) {a n : Nat} (ha : a < 65536) (hn : n < 65536) : cM (fZ p v a n) 2 = some ([(7, 7)], [mF p v a n], 4) := by
 have h1 : gZ (fZ p v a n) 2 = some [(7, 7)] := by
  have e1 : qL (fZ p v a n) 2 [0] = some [55] := rfl
  have e2 : gQ [55] = 0 ∧ dK [55] = [(7, 7)] := jd
  unfold gZ
  rw [e1, zap, if_pos e2.1, e2.2]
 have h2 : ¬ IsT (fZ p v a n) 3 2 := fun h => absurd (show (0 : Int) = 2 from h.2) jd
 have h3 : qL (fZ p v a n) 3 [0] = some (cW p v a n) := rfl
 have h4 : bD (qH (cW p v a n)) = [] := by
  have : ∃ r, qH (cW p v a n) = 66 :: r := by
   unfold cW gE
   cases p
   · exact ⟨_, rfl⟩
   exact ⟨_, rfl⟩
  obtain ⟨r, hr⟩ := this
  rw [hr]
  simp [bD]
 unfold cM
 rw [h1, zap, if_neg h2, h3, zap, if_pos h4, tA p hm ha hn]
 rfl
theorem vP {w : World} {A : Option Addr} {c : Nat} {l : List Int} (h : Rd w 1 A l.length (PI l)) (k : Nat) (hk : k ≤ l.length) (hc : l.length ≤ c) : Rd w 1 (hH A c 0 1) (l.take k).length (PI (l.take k)) := by
 have e := h.cut (l := 0) (r := k) (cap := c) jo hk hc
 have e1 : (l.take k).length = k - 0 := by simp; omega
 have e2 : PI (l.take k) = ((PI l).drop (0 * 1)).take ((k - 0) * 1) := by simp [PI, List.map_take]
 rw [e1, e2]
 exact e
theorem vR {w : World} {A : Option Addr} {c : Nat} {l : List Tx} (h : Rd w 1 A l.length (SB l)) (k : Nat) (hk : k ≤ l.length) (hc : l.length ≤ c) : Rd w 1 (hH A c 0 1) (l.take k).length (SB (l.take k)) := by
 have e := h.cut (l := 0) (r := k) (cap := c) jo hk hc
 have e1 : (l.take k).length = k - 0 := by simp; omega
 have e2 : SB (l.take k) = ((SB l).drop (0 * 1)).take ((k - 0) * 1) := by simp [SB, List.map_take]
 rw [e1, e2]
 exact e
theorem vS (v : Wnt) : bS v ∨ (qO v = [] ∧ ((v.what ≠ [] ∨ 0 < v.path.length) ∨ 0 < v.names.length)) := by
 by_cases h : bS v
 · exact .inl h
 refine .inr ⟨by unfold qO; rw [if_neg h], ?_⟩
 obtain ⟨p, t, ns⟩ := v
 by_cases h1 : t = []
 ·
  by_cases h2 : 0 < p.length
  · exact .inl (.inr h2)
  by_cases h3 : 0 < ns.length
  · exact .inr h3
  exfalso
  have e2 : p = [] := zad jo
  have e3 : ns = [] := zad jo
  subst h1 e2 e3
  exact h jd
 exact .inl (.inl h1)
theorem sH (A : Option Addr) (c : Nat) (p : Bool) {v : Wnt} (hm : bS v) {a n : Nat} (ha : a < 65536) (hn : n < 65536) (hl : (qO v).length ≤ 400) (w : World) (hR : RdT w A 4 (fZ p v a n)) (hv : cN w) (htb : Tab w) : Calls Tryz.prog 10 #[.slice A 4 c] w fun e w' => Frm [] w w' ∧ ∃ cs' I d r, e = .returned (.tuple #[.agg cs', .int .i64 0]) ∧ (∀ u ∈ cs'.toList, u.oneCell' = true) ∧ cs'.size = 20 ∧ cs'[9]? = some (.slice I 1 d) ∧ r.x = mF p v a n ∧ IsIt w' 0 I d [r] := by
 have hA : 0 < 4 → ∀ x ∈ ob A, x < w.heap.size := fun h0 x hx => hR.rd.lt h0 x hx
 have hf := sG p hm ha hn
 have hll : ∀ x ∈ fZ p v a n, x.2.length ≤ 50000 := by
  have d1 := eE 5 a jo
  have d2 := eE 5 n jo
  have d3 : (gE p).length ≤ 10 := by cases p <;> decide
  have d4 : (bT a n).length ≤ 20 := by unfold bT; split <;> simp <;> omega
  intro x hx
  simp only [fZ, zak, zax, or_false] at hx
  rcases hx with rfl | rfl | rfl | rfl
  · decide
  · decide
  · decide
  show (gE p ++ qO v ++ [93] ++ bT a n).length ≤ _
  simp
  omega
 refine (eV A 4 c _ (fun _ => some 4) (lK w.heap.size (fZ p v a n) 2 (gC [116] [70, 69, 84, 67, 72])) w hR jd (fun x hx => zq (hll x hx) jd) (fun W W' g t csx cs h hb ht k => h.frm hb ht k) (fun s hs fv hfv => ?_)).mono ?_
 ·
  have h1 : qL (fZ p v a n) 1 [0] = some [70, 69, 84, 67, 72] := rfl
  rw [h1] at hs
  injection hs with hs
  subst hs
  have h2 : eS (qH [70, 69, 84, 67, 72]) = some (.func (.func 35) #[] #[]) := by rfl
  rw [h2] at hfv
  injection hfv with hfv
  exact ⟨_, hfv.symm, Tryz.call35, kE _ rfl (eZ _ _) hA hll hv htb (by rw [hf]; rfl)⟩
 rintro e w' ⟨hf0, cs', code, rfl, he⟩
 have h3 : cF (fZ p v a n) (fun _ => some 4) = some () := rfl
 rw [h3] at he
 obtain ⟨rfl, hsz, sp, xs, q2, Bs, ds, I, d, rs, h4, h5, h6, _, rfl⟩ := he
 rw [hf] at h4
 simp only [Option.some.injEq, Prod.mk.injEq] at h4
 obtain ⟨rfl, rfl, rfl⟩ := h4
 obtain ⟨r, rfl⟩ : ∃ r, rs = [r] := List.length_eq_one_iff.1 (by have := congrArg List.length h5; simpa using this)
 simp only [zcq, List.map_nil, List.cons.injEq, and_true] at h5
 exact ⟨hf0, _, I, d, r, rfl, cX (cX (eZ _ _) rfl) rfl, hsz, rfl, h5, h6.row, h6.ok, fun _ _ => zau _⟩
theorem kI (v0 : Wnt) (A B : Option Addr) (pc nc fr n : Nat) (pk : Bool) (w : World) (hv : cN w) (htb : Tab w) (hp : Rd w 1 A v0.path.length (PI v0.path)) (hpc : v0.path.length ≤ pc) (hn : Rd w 1 B v0.names.length (SB v0.names)) (hnc : v0.names.length ≤ nc) (hns : ∀ s ∈ v0.names, s.length ≤ 1048576) (hfr : fr < 65536) (hnn : n < 65536) : Calls Tryz.prog 6 #[.agg #[.slice A v0.path.length pc, encStr v0.what, .slice B v0.names.length nc, .int .u16 ((fr : Nat) : Int), .int .u16 ((n : Nat) : Int), .bool pk]] w fun e w' => e = .returned (.bool true) ∧ Frm [] w w' := by
 refine jV Tryz.func6 Tryz.ntmps6 Tryz.results6 ?_
 refine jS (jR ?_)
 refine Ops.m (qV.box rfl) rfl ?_
 rintro _ w1 ⟨rfl, hF1⟩
 obtain ⟨g1, hg1⟩ : ∃ g, g = w.heap.size := ⟨_, rfl⟩
 have hb1 : Blk w1 g1 50 #[.slice A v0.path.length pc, encStr v0.what, .slice B v0.names.length nc, .int .u16 ((fr : Nat) : Int), .int .u16 ((n : Nat) : Int), .bool pk] := by rw [hg1]; exact hF1.blk
 have K := hF1.frm
 rw [← hg1]
 refine ja rfl (jO (jN (jv1 1 ?_)))
 refine jS ?_
 refine VC.held (fun V => Frm [] w1 V) jK ?_
 have hS : Frm [] w1 w1.drew := (Frm.refl [] w1).drew
 refine jH 0 rfl hS (fun w0 hw0 => Run.fieldAddr rfl zcm rfl zj jd) ?_
 refine jH 1 rfl hS (fun w0 hw0 => Run.loadA (cs := (WtC v0 A pc B nc).toList) rfl zae zj ((hb1.frm hw0 jp).sub 0 (WtC v0 A pc B nc).toList rfl) rfl) ?_
 refine jH 2 rfl hS (fun w0 hw0 => Run.fieldAddr rfl zcm rfl Tryz.sizeOf48 jd) ?_
 refine jH 3 rfl hS (fun w0 hw0 => Run.load rfl Tryz.isAgg48 ((hb1.frm hw0 jp).cells 3 _ rfl)) ?_
 refine jH 4 rfl hS (fun w0 hw0 => Run.fieldAddr rfl zcm rfl Tryz.sizeOf48 jd) ?_
 refine jH 5 rfl hS (fun w0 hw0 => Run.load rfl Tryz.isAgg48 ((hb1.frm hw0 jp).cells 4 _ rfl)) ?_
 refine jH 6 rfl hS (fun w0 hw0 => Run.fieldAddr rfl zcm rfl zm jd) ?_
 refine jH 7 rfl hS (fun w0 hw0 => Run.load rfl zal ((hb1.frm hw0 jp).cells 5 _ rfl)) ?_
 refine qJ.m 8 rfl jK (qV.alloc dC) trivial rfl rfl ?_
 rintro _ w2 ⟨rfl, hF2⟩
 obtain ⟨g3, hg3⟩ : ∃ g, g = w1.drew.heap.size := ⟨_, rfl⟩
 have hx := hF2.blk
 have q0 := (K.trans hS jp).size
 rw [← hg3] at hx ⊢
 have hS := hS.trans hF2.frm jp
 refine ⟨hS, ?_⟩
 refine qJ.st 9 rfl jK (qZ.storeA rfl rfl zj hx rfl (fun u hu => by simp only [WtC, zak, zax, or_false] at hu; rcases hu with rfl | rfl | rfl <;> rfl)) trivial rfl ?_
 rintro w3 ⟨hx, fx, sx⟩
 have hS := hS.own fx (by have := (qF.drew w1).frm.size; simp; omega)
 have K := K.trans hS jp
 refine ⟨hS, ?_⟩
 refine jH 10 rfl hS (fun w0 hw0 => Run.asg rfl) ?_
 refine jH 11 rfl hS (fun w0 hw0 => Run.asg rfl) ?_
 refine jH 12 rfl hS (fun w0 hw0 => Run.asg rfl) ?_
 refine qJ.done jK ?_
 refine jN (jv4 3 4 5 6 ?_)
 refine jS (jS (jR (jf rfl zf rfl zac (jl rfl zas (hx.cells 0 _ rfl) (jL rfl zi (jb rfl rfl (Bin.gtrN _ 9) (jO (jN (jv5 3 4 5 6 26 ?_)))))))))
 refine VC.meet (σ := Option Addr × Nat) (fun s => [(3, jI0 g3), (4, .int .u16 ((fr : Nat) : Int)), (5, .int .u16 ((n : Nat) : Int)), (6, .bool pk)]) (fun s wr => Blk wr g3 47 (WtC ⟨v0.path.take 9, v0.what, v0.names⟩ s.1 s.2 B nc) ∧ Rd w 1 s.1 (v0.path.take 9).length (PI (v0.path.take 9)) ∧ Frm [] w wr) ?_ ?_
 ·
  refine jD rfl (fun hc1 => ?_) fun hc1 => ?_
  ·
   refine jR (jf rfl zf rfl zac (jl rfl zas (hx.cells 0 _ rfl) (je (Run.sliceS 0 9 rfl zi zc evB.none_ (evB.some_ rfl) jo jo) (jf rfl zf rfl zac ?_))))
   refine Ops.st (qZ.store (i := 0) rfl rfl zac hx rfl rfl) ?_
   rintro w4 ⟨hx, fx, sx⟩
   have K4 := K.own fx (by simp; omega)
   refine jO ?_
   refine jN ⟨(hH A pc 0 1, pc - 0), (js4 rfl rfl rfl rfl), ?_⟩
   have h9 : (v0.path.take 9).length = 9 - 0 := by simp; omega
   refine ⟨?_, vP hp 9 jo hpc, K4⟩
   unfold WtC
   rw [h9]
   exact hx
  refine jQ ?_
  refine jN ⟨(A, pc), (js4 rfl rfl rfl rfl), ?_⟩
  exact ⟨by rw [zr (l := v0.path) (i := 9) jo]; exact hx, by rw [zr (l := v0.path) (i := 9) jo]; exact hp, K⟩
 rintro ⟨A1, pc1⟩ w4 ⟨hx, hp1, K⟩ Γ hΓ
 dsimp only at hx hp1
 refine jN (VC.sub _ hΓ (jS (jS (jR (jf rfl zf rfl zv (jl rfl zan (hx.cells 2 _ rfl) (jL rfl zk (jb rfl rfl (Bin.gtrN _ 17) (jO (jN (jv5 3 4 5 6 34 ?_)))))))))))
 refine VC.meet (σ := Option Addr × Nat) (fun s => [(3, jI0 g3), (4, .int .u16 ((fr : Nat) : Int)), (5, .int .u16 ((n : Nat) : Int)), (6, .bool pk)]) (fun s wr => Blk wr g3 47 (WtC (⟨v0.path.take 9, v0.what, v0.names.take 17⟩ : Wnt) A1 pc1 s.1 s.2) ∧ Rd w 1 s.1 (v0.names.take 17).length (SB (v0.names.take 17)) ∧ (v0.names.take 17).length ≤ s.2 ∧ Frm [] w wr) ?_ ?_
 ·
  refine jD rfl (fun hc2 => ?_) fun hc2 => ?_
  ·
   dsimp only at hc2
   refine jR (jf rfl zf rfl zv (jl rfl zan (hx.cells 2 _ rfl) (je (Run.sliceS 0 17 rfl zk zd evB.none_ (evB.some_ rfl) jo jo) (jf rfl zf rfl zv ?_))))
   refine Ops.st (qZ.store (i := 2) rfl rfl zv hx rfl rfl) ?_
   rintro w5 ⟨hx, fx, sx⟩
   have K5 := K.own fx (by simp; omega)
   refine jO ?_
   refine jN ⟨(hH B nc 0 1, nc - 0), (js4 rfl rfl rfl rfl), ?_⟩
   have h9 : (v0.names.take 17).length = 17 - 0 := by simp; omega
   refine ⟨?_, vR hn 17 jo hnc, by simp; omega, K5⟩
   unfold WtC
   rw [h9]
   exact hx
  dsimp only at hc2
  refine jQ ?_
  refine jN ⟨(B, nc), (js4 rfl rfl rfl rfl), ?_⟩
  exact ⟨by rw [zr (l := v0.names) (i := 17) jo]; exact hx, by rw [zr (l := v0.names) (i := 17) jo]; exact hn, by simp; omega, K⟩
 rintro ⟨B1, nc1⟩ w5 ⟨hx, hn1, hn2, K⟩ Γ hΓ
 dsimp only at hx hn1 hn2
 have hns : ∀ s ∈ v0.names.take 17, s.length ≤ 1048576 := fun s hs => hns s (List.mem_of_mem_take hs)
 have hpl : (v0.path.take 9).length ≤ 1000000 := by simp; omega
 have hnl : (v0.names.take 17).length ≤ 1000000 := by simp; omega
 obtain ⟨v, hve⟩ : ∃ v, v = (⟨v0.path.take 9, v0.what, v0.names.take 17⟩ : Wnt) := ⟨_, rfl⟩
 have ep : v0.path.take 9 = v.path := by rw [hve]
 have en : v0.names.take 17 = v.names := by rw [hve]
 rw [ep] at hp1 hpl
 rw [en] at hn1 hn2 hns hnl
 rw [← hve] at hx
 clear ep en hve
 refine jN (VC.sub _ hΓ (jS (jR (je (Run.loadA (cs := (WtC v A1 pc1 B1 nc1).toList) rfl zae zj hx.cells rfl) ?_))))
 refine jc (jE1 Tryz.call13) (kC v A1 B1 pc1 nc1 w5 (hp1.frm K jp) hpl (hn1.frm K jp) hnl hns hn2) ?_
 rintro _ w6 ⟨rfl, f6⟩
 have hx := hx.frm f6 jp
 have K := K.trans f6 jp
 refine ⟨_, rfl, ?_⟩
 refine ja rfl (jO (jN (jv5 3 4 5 6 7 ?_)))
 refine jS (jS ?_)
 refine VC.split1 [(3, _), (4, _), (5, _), (6, _), (7, _)] (js5 rfl rfl rfl rfl rfl) 64 (.bool (decide ((qO v = [] ∧ ((v.what ≠ [] ∨ 0 < v.path.length) ∨ 0 < v.names.length)) ∨ 400 < (qO v).length))) ?_ ?_
 ·
  refine jR ?_
  refine jm rfl (je (Run.eqlT rfl rfl) ?_)
  by_cases hs42 : qO v = []
  ·
   refine jM ?_
   refine jk (Run.fieldAddr rfl zf rfl zd jd) ?_
   refine jk (Run.load rfl zh (hx.cells 1 _ rfl)) ?_
   refine jk (Run.neqT rfl rfl) ?_
   by_cases hs46 : v.what ≠ []
   ·
    refine jG ?_
    refine jU ?_
    refine jU ?_
    refine jU ?_
    refine jU ?_
    refine jk (Run.pickT rfl rfl au) ?_
    refine jG ?_
    refine jU ?_
    refine jU ?_
    refine jU ?_
    refine jU ?_
    refine jk (Run.pickT rfl rfl au) ?_
    refine jW rfl rfl au (jM ?_)
    refine jU ?_
    refine jU ?_
    refine jU ?_
    refine jW rfl rfl au (jO ?_)
    refine jN ⟨(js6 (jC (by grind)) rfl rfl rfl rfl rfl), rfl⟩
   refine jG ?_
   refine jk (Run.fieldAddr rfl zf rfl zac jd) ?_
   refine jk (Run.load rfl zas (hx.cells 0 _ rfl)) ?_
   refine jk (Run.lenS rfl zi) ?_
   refine jk (Run.bin rfl rfl (Bin.gtrN _ 0)) ?_
   by_cases hs51 : 0 < v.path.length
   ·
    refine jk (Run.pickF rfl rfl au) ?_
    refine jG ?_
    refine jU ?_
    refine jU ?_
    refine jU ?_
    refine jU ?_
    refine jk (Run.pickT rfl rfl au) ?_
    refine jW rfl rfl au (jM ?_)
    refine jU ?_
    refine jU ?_
    refine jU ?_
    refine jW rfl rfl au (jO ?_)
    refine jN ⟨(js6 (jC (by grind)) rfl rfl rfl rfl rfl), rfl⟩
   refine jk (Run.pickF rfl rfl au) ?_
   refine jG ?_
   refine jk (Run.fieldAddr rfl zf rfl zv jd) ?_
   refine jk (Run.load rfl zan (hx.cells 2 _ rfl)) ?_
   refine jk (Run.lenS rfl zk) ?_
   refine jk (Run.bin rfl rfl (Bin.gtrN _ 0)) ?_
   by_cases hs57 : 0 < v.names.length
   ·
    refine jk (Run.pickF rfl rfl au) ?_
    refine jW rfl rfl au (jM ?_)
    refine jU ?_
    refine jU ?_
    refine jU ?_
    refine jW rfl rfl au (jO ?_)
    refine jN ⟨(js6 (jC (by grind)) rfl rfl rfl rfl rfl), rfl⟩
   refine jk (Run.pickF rfl rfl au) ?_
   refine jW rfl rfl au (jM ?_)
   refine jG ?_
   refine jk (Run.lenT rfl za) ?_
   refine jk (Run.bin rfl rfl (Bin.gtrN _ 400)) ?_
   by_cases hs63 : 400 < (qO v).length
   ·
    refine jF rfl rfl au (jO ?_)
    refine jN ⟨(js6 (jC (by grind)) rfl rfl rfl rfl rfl), rfl⟩
   refine jF rfl rfl au (jO ?_)
   refine jN ⟨(js6 (jC (by grind)) rfl rfl rfl rfl rfl), rfl⟩
  refine jM ?_
  refine jU ?_
  refine jU ?_
  refine jU ?_
  refine jU ?_
  refine Ops.skU rfl rfl ?_
  refine Ops.skU rfl rfl ?_
  refine Ops.skU rfl rfl ?_
  refine Ops.skU rfl rfl ?_
  refine jU ?_
  refine jU ?_
  refine Ops.skU rfl rfl ?_
  refine Ops.skU rfl rfl ?_
  refine Ops.skU rfl rfl ?_
  refine Ops.skU rfl rfl ?_
  refine jU ?_
  refine jF rfl rfl au (jM ?_)
  refine jG ?_
  refine jk (Run.lenT rfl za) ?_
  refine jk (Run.bin rfl rfl (Bin.gtrN _ 400)) ?_
  by_cases hs63 : 400 < (qO v).length
  ·
   refine jF rfl rfl au (jO ?_)
   refine jN ⟨(js6 (jC (by grind)) rfl rfl rfl rfl rfl), rfl⟩
  refine jF rfl rfl au (jO ?_)
  refine jN ⟨(js6 (jC (by grind)) rfl rfl rfl rfl rfl), rfl⟩
 intro Γ hΓ
 refine jN (VC.sub _ hΓ ?_)
 refine jD rfl (fun hc3 => ?_) fun hc3 => ?_
 ·
  refine jS (jR ?_)
  refine jc (jE0 Tryz.call8) (fQ w6 (hv.frm0 K) (htb.frm K)) ?_
  rintro _ w7 ⟨rfl, f7⟩
  refine ⟨_, rfl, ?_⟩
  refine ja rfl (jO (jN (jv1 2 ?_)))
  refine jT ?_
  refine qQ (qP rfl ?_)
  exact ⟨rfl, K.trans f7 jp⟩
 have hmay : bS v := (vS v).resolve_right fun h => hc3 (.inl h)
 have hl4 : (qO v).length ≤ 400 := by
  rcases Nat.lt_or_ge 400 (qO v).length with h | h
  · exact absurd (.inr h) hc3
  exact h
 have d1 := eE 5 fr jo
 have d2 := eE 5 n jo
 have d3 : (gE pk).length ≤ 10 := by cases pk <;> decide
 have d4 : (bT fr n).length ≤ 20 := by unfold bT; split <;> simp <;> omega
 have d5 : (gM fr n).length ≤ 10 := by unfold gM; split <;> simp <;> omega
 refine jQ (jN (jv5 3 4 5 6 7 ?_))
 refine jS (jR (ja rfl (jO (jN (jS (jS (jR (jm rfl (jO (jN ?_))))))))))
 refine VC.meet (σ := Unit) (fun s => [(3, jI0 g3), (4, .int .u16 ((fr : Nat) : Int)), (5, .int .u16 ((n : Nat) : Int)), (6, .bool pk), (7, encStr (qO v)), (8, encStr (gE pk))]) (fun s wr => w6 = wr) ?_ ?_
 ·
  refine VC.condB rfl (fun hc4 => ?_) (fun hc4 => ?_)
  ·
   refine jR (ja rfl (jO ?_))
   refine jN ⟨(), (js6 rfl rfl rfl rfl rfl (by rw [hc4]; rfl)), ?_⟩
   rfl
  refine jQ ?_
  refine jN ⟨(), (js6 rfl rfl rfl rfl rfl (by rw [hc4]; rfl)), ?_⟩
  rfl
 rintro _ _ rfl Γ hΓ
 refine jN (VC.sub _ hΓ (jS (jR (ja rfl (ja rfl (jO (jN (jS (jS (jR (jm rfl (jb rfl rfl (Bin.gtrN _ 0) (jO (jN (jv9 3 4 5 6 7 8 9 10 68 ?_)))))))))))))))
 refine VC.meet (σ := Unit) (fun s => [(3, jI0 g3), (4, .int .u16 ((fr : Nat) : Int)), (5, .int .u16 ((n : Nat) : Int)), (6, .bool pk), (7, encStr (qO v)), (8, encStr (gE pk)), (9, encStr (bT fr n)), (10, encStr (gM fr n))]) (fun s wr => w6 = wr) ?_ ?_
 ·
  refine jD rfl (fun hc5 => ?_) fun hc5 => ?_
  ·
   refine jS (jR (jm rfl (je (Run.convN _ rfl zbx zt (by simp only [bmax]; omega)) ?_)))
   refine jc (jE1 Tryz.call14) (fX fr jo _) ?_
   rintro _ _ ⟨rfl, rfl⟩
   refine ⟨_, rfl, ?_⟩
   refine je (Run.addT rfl rfl (by first | omega | (simp; omega))) (je (Run.addT rfl rfl (by first | omega | (simp; omega))) (jm rfl (je (Run.convN _ rfl zbx zt (by simp only [bmax]; omega)) ?_)))
   refine jc (jE1 Tryz.call14) (fX n jo _) ?_
   rintro _ _ ⟨rfl, rfl⟩
   refine ⟨_, rfl, ?_⟩
   refine je (Run.addT rfl rfl (by first | omega | (simp; omega))) (je (Run.addT rfl rfl (by first | omega | (simp; omega))) (ja rfl (jO (jN (jv7 3 4 5 6 7 8 9 ?_)))))
   refine jR (jm rfl (je (Run.convN _ rfl zbx zt (by simp only [bmax]; omega)) ?_))
   refine jc (jE1 Tryz.call14) (fX fr jo _) ?_
   rintro _ _ ⟨rfl, rfl⟩
   refine ⟨_, rfl, ?_⟩
   refine je (Run.addT rfl rfl (by first | omega | (simp; omega))) (je (Run.addT rfl rfl (by first | omega | (simp; omega))) (ja rfl (jO ?_)))
   refine jN ⟨(), (js8 rfl rfl rfl rfl rfl rfl (by unfold bT; rw [if_pos hc5]; rfl) (by unfold gM; rw [if_pos hc5]; rfl)), ?_⟩
   rfl
  refine jQ ?_
  refine jN ⟨(), (js8 rfl rfl rfl rfl rfl rfl (by unfold bT; rw [if_neg hc5]; rfl) (by unfold gM; rw [if_neg hc5]; rfl)), ?_⟩
  rfl
 rintro _ _ rfl Γ hΓ
 refine jN (VC.sub _ hΓ (jS (jR (je (Run.build (evs.cons rfl evs.nil) cH (bY).choose_spec.1 (bY).choose_spec.2 (cells := (tkC (0, [116])).toArray) rfl) (je (Run.build (evs.cons rfl evs.nil) cH (bY).choose_spec.1 (bY).choose_spec.2 (cells := (tkC (0, [70, 69, 84, 67, 72])).toArray) rfl) (je (Run.build (evs.cons rfl evs.nil) cH (bY).choose_spec.1 (bY).choose_spec.2 (cells := (tkC (0, [55])).toArray) rfl) (jm rfl (jm rfl (je (Run.addT rfl rfl (by first | omega | (simp; omega))) (je (Run.addT rfl rfl (by first | omega | (simp; omega))) (jm rfl (je (Run.addT rfl rfl (by first | omega | (simp; omega))) (je (Run.build (evs.cons rfl evs.nil) cH (bY).choose_spec.1 (bY).choose_spec.2 (cells := (tkC (0, cW pk v fr n)).toArray) rfl) ?_)))))))))))))
 refine Ops.m (qV.buildN (cells := #[.int .i64 0, encStr [116], .int .i64 0, encStr [70, 69, 84, 67, 72], .int .i64 0, encStr [55], .int .i64 0, encStr (cW pk v fr n)]) (evs.cons rfl (evs.cons rfl (evs.cons rfl (evs.cons rfl evs.nil)))) zab zw cH rfl rfl jK) rfl ?_
 rintro _ w7 ⟨rfl, hF7⟩
 have K := K.trans hF7.frm jp
 have hx := hx.frm hF7.frm jp
 refine ja rfl (jO (jN (jv7 3 4 5 6 7 10 11 ?_)))
 refine jS (jR (jM ?_))
 refine jc (jE1 Tryz.call10) (sH _ _ pk hmay hfr hnn hl4 w7 ⟨rfl, Rd.of_blk (n := 4) (size := 2) hF7.blk rfl⟩ (hv.frm0 K) (htb.frm K)) ?_
 rintro _ w8 ⟨f8, cs2, I, d, r, rfl, one2, sz2, it2, hr, hI⟩
 have K := K.trans f8 jp
 have hx := hx.frm f8 jp
 refine ⟨_, rfl, ?_⟩
 refine jm rfl (jY rfl rfl (jY rfl rfl ?_))
 refine Ops.m (qV.alloc eW) rfl ?_
 rintro _ w9 ⟨rfl, hF9⟩
 obtain ⟨gc, hgc⟩ : ∃ g, g = w8.heap.size := ⟨_, rfl⟩
 have hc := hF9.blk
 have q8 := K.size
 have qx := hx.lt
 rw [← hgc] at hc ⊢
 have K := K.trans hF9.frm jp
 have hx := hx.frm hF9.frm jp
 have hI := hI.frm hF9.frm
 refine Ops.st (qZ.storeA rfl rfl (fun w => (zay w).trans (by rw [sz2])) hc sz2 one2) ?_
 rintro wa ⟨hc, fa, sa⟩
 have K := K.own fa (by simp; omega)
 have hI := hI.blk hF9.blk (by rw [← hgc]; exact fa) jd jd jd
 have hx := hx.frm fa (by simp; omega)
 obtain ⟨ad, rfl, m1⟩ := vU (l := [r]) (k := 0) hI.row.rd Nat.one_pos
 have o1 := hI.ok r jp
 obtain ⟨x, PA, pc2, NA, nc2⟩ := r
 dsimp only at hr
 subst hr
 refine ja rfl (jO (jN (jv8 3 4 5 6 7 10 12 13 ?_)))
 refine jS (jS ?_)
 refine VC.split1 [(3, _), (4, _), (5, _), (6, _), (7, _), (10, _), (12, _)] (js7 rfl rfl rfl rfl rfl rfl rfl) 107 (.bool (decide (False))) ?_ ?_
 ·
  refine jR ?_
  refine jm rfl (jb rfl rfl (Bin.neqN _ 0) (jM ?_))
  refine jk (Run.fieldAddr rfl zp rfl zbq jd) ?_
  refine jk (Run.load rfl Tryz.isAgg27 (hc.cells 9 _ (by rw [zbj]; exact it2))) ?_
  refine jk (Run.lenS rfl zbv) ?_
  refine jk (Run.bin rfl rfl (Bin.neqN _ 1)) ?_
  refine jF rfl rfl au (jO ?_)
  refine jN ⟨(js8 (jC jp) rfl rfl rfl rfl rfl rfl rfl), rfl⟩
 intro Γ hΓ
 refine jN (VC.sub _ hΓ ?_)
 refine VC.condF rfl (rfl) ?_
 refine jQ (jN (jv7 3 4 5 6 7 10 12 ?_))
 refine jS (jR (jf rfl zp rfl zbq ?_))
 refine jl rfl Tryz.isAgg27 (hc.cells 9 _ (by rw [zbj]; exact it2)) ?_
 refine je (Run.indexS 0 rfl rfl zbv zz jo) (je (Run.loadA (cs := (itC (mF pk v fr n) PA pc2 NA nc2).toList) rfl zcb zz (m1 _ (Frm.refl _ _)) rfl) ?_)
 refine Ops.m (qV.alloc dJ) rfl ?_
 rintro _ wb ⟨rfl, hFb⟩
 obtain ⟨gi, hgi⟩ : ∃ g, g = wa.heap.size := ⟨_, rfl⟩
 have hy := hFb.blk
 have qa := K.size
 have qx := hx.lt
 rw [← hgi] at hy ⊢
 have K := K.trans hFb.frm jp
 have hx := hx.frm hFb.frm jp
 have o1 := o1.frm hFb.frm
 refine Ops.st (qZ.storeA rfl rfl zz hy rfl (cO _ _ _ _ _)) ?_
 rintro wc ⟨hy, fc, sc⟩
 have K := K.own fc (by simp; omega)
 have hx := hx.frm fc (by simp; omega)
 have o1 := o1.blk hFb.blk (by rw [← hgi]; exact fc) jd jd
 refine jO (jN (jv7 3 4 5 6 7 10 14 ?_))
 refine jS ?_
 refine VC.splitR [] (Frm [] wc) 2 (.bool (decide (True))) ?_ ?_
 ·
  refine jR (jf rfl zg rfl zc (jl rfl zl (hy.cells 0 _ rfl) (jb rfl rfl (Bin.eql _ 6) (jM ?_))))
  refine jk (Run.fieldAddr rfl zg rfl zd jd) ?_
  refine jk (Run.load rfl zh (show _ = some (encStr ([66, 79, 68, 89, 91] ++ qO v ++ [93] ++ gM fr n)) from hy.cells 1 _ rfl)) ?_
  refine jG ?_
  refine jk (Run.addT rfl rfl (by first | omega | (simp; omega))) ?_
  refine jk (Run.addT rfl rfl (by first | omega | (simp; omega))) ?_
  refine jG ?_
  refine jk (Run.addT rfl rfl (by first | omega | (simp; omega))) ?_
  refine jk (Run.eqlT rfl rfl) ?_
  refine jW rfl rfl au (jM ?_)
  refine jk (Run.fieldAddr rfl zg rfl zm jd) ?_
  refine jk (Run.load rfl zal (show _ = some (Value.bool pk) from hy.cells 5 _ rfl)) ?_
  refine jG ?_
  refine jk (Run.eqlB rfl rfl zaa) ?_
  refine jW rfl rfl au (jM ?_)
  refine jk (Run.fieldAddr rfl zg rfl zm jd) ?_
  refine jk (Run.load rfl zal (show _ = some (Value.bool (decide (0 < n))) from hy.cells 6 _ rfl)) ?_
  refine jG ?_
  refine jk (Run.bin rfl rfl (Bin.gtrN _ 0)) ?_
  refine jk (Run.eqlB rfl rfl zaa) ?_
  refine jW rfl rfl au (jM ?_)
  refine jG ?_
  refine jk (Run.bin rfl rfl (Bin.eqlN _ 0)) ?_
  by_cases hs140 : n = 0
  ·
   refine jG ?_
   refine jU ?_
   refine jU ?_
   refine jU ?_
   refine jU ?_
   refine jU ?_
   refine jU ?_
   refine Ops.skU rfl rfl ?_
   refine Ops.skU rfl rfl ?_
   refine Ops.skU rfl rfl ?_
   refine Ops.skU rfl rfl ?_
   refine Ops.skU rfl rfl ?_
   refine jU ?_
   refine jk (Run.pickT rfl rfl au) ?_
   refine jW rfl rfl au (jM ?_)
   refine jk (Run.fieldAddr rfl zg rfl zj jd) ?_
   refine jk (Run.loadA (cs := (WtC v PA pc2 NA nc2).toList) rfl zae zj (hy.sub 2 (WtC v PA pc2 NA nc2).toList rfl) rfl) ?_
   refine jk (Run.loadA (cs := (WtC v A1 pc1 B1 nc1).toList) rfl zae zj hx.cells rfl) ?_
   refine Ops.clg rfl au (jE2 Tryz.call15) (fU v v PA NA A1 B1 pc2 nc2 pc1 nc1 wc o1.p.rd o1.n.rd (hp1.frm K jp) (hn1.frm K jp) (zq hpl jd) (zq hnl jd)) rfl ?_
   rintro _ wd ⟨rfl, fd⟩
   rw [decide_eq_true (show eU v v from ⟨rfl, rfl, rfl⟩)]
   refine ⟨_, rfl, ?_⟩
   refine jW rfl rfl au (jM ?_)
   refine Ops.clg rfl au (jE0 Tryz.call8) (fQ wd (hv.frm0 (K.trans fd jp)) (htb.frm (K.trans fd jp))) rfl ?_
   rintro _ we ⟨rfl, fe⟩
   refine ⟨_, rfl, ?_⟩
   have fde := fd.trans fe jp
   refine jW rfl rfl au (ja rfl (jO ?_))
   refine jN ⟨(js1 (jC jp)), (fde)⟩
  have h0 : 0 < n := jo
  refine jG ?_
  refine jk (Run.fieldAddr rfl zg rfl zc jd) ?_
  refine jk (Run.load rfl zl ((hy.cells 7 _ rfl).trans (by show some (Value.int .i64 (if 0 < n then ((fr : Nat) : Int) else 0)) = _; rw [if_pos h0]))) ?_
  refine jG ?_
  refine jk (Run.convN _ rfl zbx zt (by simp only [bmax]; omega)) ?_
  refine jk (Run.bin rfl rfl (Bin.eqlN _ _)) ?_
  refine jG ?_
  refine jk (Run.fieldAddr rfl zg rfl zc jd) ?_
  refine jk (Run.load rfl zl ((hy.cells 8 _ rfl).trans (by show some (Value.int .i64 (if 0 < n then ((n : Nat) : Int) else 0)) = _; rw [if_pos h0]))) ?_
  refine jG ?_
  refine jk (Run.convN _ rfl zbx zt (by simp only [bmax]; omega)) ?_
  refine jk (Run.bin rfl rfl (Bin.eqlN _ _)) ?_
  refine jk (Run.pickT rfl rfl au) ?_
  refine jk (Run.pickF rfl rfl au) ?_
  refine jW rfl rfl au (jM ?_)
  refine jk (Run.fieldAddr rfl zg rfl zj jd) ?_
  refine jk (Run.loadA (cs := (WtC v PA pc2 NA nc2).toList) rfl zae zj (hy.sub 2 (WtC v PA pc2 NA nc2).toList rfl) rfl) ?_
  refine jk (Run.loadA (cs := (WtC v A1 pc1 B1 nc1).toList) rfl zae zj hx.cells rfl) ?_
  refine Ops.clg rfl au (jE2 Tryz.call15) (fU v v PA NA A1 B1 pc2 nc2 pc1 nc1 wc o1.p.rd o1.n.rd (hp1.frm K jp) (hn1.frm K jp) (zq hpl jd) (zq hnl jd)) rfl ?_
  rintro _ wd ⟨rfl, fd⟩
  rw [decide_eq_true (show eU v v from ⟨rfl, rfl, rfl⟩)]
  refine ⟨_, rfl, ?_⟩
  refine jW rfl rfl au (jM ?_)
  refine Ops.clg rfl au (jE0 Tryz.call8) (fQ wd (hv.frm0 (K.trans fd jp)) (htb.frm (K.trans fd jp))) rfl ?_
  rintro _ we ⟨rfl, fe⟩
  refine ⟨_, rfl, ?_⟩
  have fde := fd.trans fe jp
  refine jW rfl rfl au (ja rfl (jO ?_))
  refine jN ⟨(js1 (jC jp)), (fde)⟩
 intro Γ wR hΓ hR
 refine jN (VC.sub _ hΓ ?_)
 refine jT ?_
 refine qP rfl ?_
 exact ⟨rfl, K.trans hR jp⟩
end
section
open Go.RowKit Go.ChangeShapes Go.WideShapes Go.Deep
section
variable {H : Type} {enc : TypeId × Value → H} {w : World} {base : Nat} {spare : Nat → Bool} {held : Bool} {n : Nat} {cs : List Value} {x : DataW H × List MemPlace} {t e : TypeId}
theorem mA {d : DataW H} {l : List (DataW H)} (h : d ∈ l) : Rows.uptoBulk d ≤ Rows.uptoBulkAll l := by
 induction l with
 | nil => cases h
 | cons x r ih =>
  simp only [Rows.uptoBulkAll]
  rcases zak.1 h with h | h
  · subst h; omega
  have := ih h; omega
theorem mI {fs : Array Field} (ht : Tryz.prog.underlying t = some (.struct fs)) (h : DataW.trod enc Tryz.prog w base spare held n t cs = some x) :
  cs.length = Tryz.prog.cellsOf t ∧ ∃ n', ∀ (i : Nat) (f : Field), fs[i]? = some f → ∃ y, DataW.trod enc Tryz.prog w base spare held n' f.type ((cs.drop f.offset).take (Tryz.prog.cellsOf f.type)) = some y ∧ Rows.uptoBulk y.1 ≤ Rows.uptoBulk x.1 := by
 obtain ⟨xs, n', _, hx, hl, hxl, hf⟩ := DataW.trod_struct ht h
 refine ⟨hl, n', fun i f hif => ?_⟩
 have hi : i < xs.length := by rw [hxl]; exact (Array.getElem?_eq_some_iff.1 hif).1
 refine ⟨xs[i], (hf i f hif).trans (zb hi), ?_⟩
 rw [hx]
 simp only [Rows.uptoBulk]
 have := mA (d := xs[i].1) (l := xs.map (·.1)) (List.mem_map.2 ⟨xs[i], zaq _, rfl⟩)
 omega
theorem pM (ht : Tryz.prog.underlying t = some (.slice e)) (he : Tryz.prog.underlying e = some .string) (hc : Tryz.prog.cellsOf e = 1) (h : DataW.trod enc Tryz.prog w base spare held n t cs = some x) :
  ∃ A c, ∃ l : List Tx, cs = [.slice A l.length c] ∧ l.length ≤ c ∧ Rd w 1 A l.length (SB l) ∧ ∀ s ∈ l, s.length ≤ Rows.uptoBulk x.1 := by
 rcases open_slice1 ht hc h with ⟨hcs, _⟩ | ⟨ad, l, c, m, n', V, D, Pl, hcs, _, hl, hm, hmm, hx, hi⟩
 · exact ⟨none, 0, [], hcs, zai _, Rd.nil _ _ _, jp⟩
 have hml : l ≤ m := by rw [hmm]; split <;> omega
 obtain ⟨ls, hll, hq⟩ := gO (Q := fun i (s : Tx) => V i = encStr s ∧ D i = .lit (.string s)) l (fun i hil => by
  obtain ⟨s, h1, h2, _⟩ := DataW.trod_string he (hi i jo).2
  refine ⟨s.data.toList, by simpa using h1, ?_⟩
  have := congrArg Prod.fst h2
  exact this)
 have hcell : ∀ j u, (SB ls)[j]? = some u → w.cell? (ad.add j) = some u := by
  intro j u hu
  unfold SB at hu
  rw [zck] at hu
  obtain ⟨s, hs, rfl⟩ := Option.map_eq_some_iff.1 hu
  have hj : j < ls.length := (List.getElem?_eq_some_iff.1 hs).1
  rw [(hi j jo).1, (hq j s hs).1]
 subst hll
 refine ⟨some ad, c, ls, hcs, hl, ⟨by simp [SB], fun hn => ⟨ad, rfl, ?_, hcell⟩⟩, fun s hs => ?_⟩
 ·
  have := World.block_lt_of_cell? w _ (hcell 0 _ (zb (by simp [SB]; omega)))
  rwa [fK] at this
 obtain ⟨i, hi', hli⟩ := zcu hs
 have hd := (hq i s (by rw [zb hi', hli])).2
 have h1 : D i ∈ (List.range ls.length).map D := List.mem_map.2 ⟨i, List.mem_range.2 hi', rfl⟩
 have h2 := mA h1
 rw [hd] at h2
 rw [hx]
 simp only [Rows.uptoBulk] at h2 ⊢
 omega
theorem sM (h : DataW.trod enc Tryz.prog w base spare held n 4 cs = some x) : ∃ b : Bool, cs = [.bool b] := by
 obtain ⟨b, h1, _⟩ := DataW.trod_bool zaa h
 exact ⟨b, h1⟩
theorem mL (h : DataW.trod enc Tryz.prog w base spare held n 48 cs = some x) : ∃ k : Nat, cs = [.int .u16 ((k : Nat) : Int)] ∧ k < 65536 := by
 obtain ⟨z, h1, _, h2⟩ := DataW.trod_int zbx h
 have h3 : 0 ≤ z ∧ z < 65536 := by
  simp only [Lit.wf, zbn, decide_eq_true_eq] at h2
  have e1 : IntKind.u16.min = 0 := jd
  have e2 : IntKind.u16.max = 65535 := jd
  rw [e1, e2] at h2
  omega
 exact ⟨z.toNat, by rw [h1, Int.toNat_of_nonneg h3.1], jo⟩
theorem sN (h : DataW.trod enc Tryz.prog w base spare held n 47 cs = some x) :
  ∃ A pc B nc, ∃ v : Wnt, cs = [.slice A v.path.length pc, encStr v.what, .slice B v.names.length nc] ∧ v.path.length ≤ pc ∧ Rd w 1 A v.path.length (PI v.path) ∧ v.names.length ≤ nc ∧ Rd w 1 B v.names.length (SB v.names) ∧ ∀ s ∈ v.names, s.length ≤ Rows.uptoBulk x.1 := by
 obtain ⟨hlen, n', hf⟩ := mI zf h
 have hl : cs.length = 3 := hlen.trans jK
 obtain ⟨a0, a1, a2, rfl⟩ : ∃ a0 a1 a2, cs = [a0, a1, a2] := by
  match cs, hl with
  | [a0, a1, a2], _ => exact ⟨a0, a1, a2, rfl⟩
 obtain ⟨y0, h0, _⟩ := hf 0 _ rfl
 obtain ⟨y1, h1, _⟩ := hf 1 _ rfl
 obtain ⟨y2, h2, b2⟩ := hf 2 _ rfl
 have h0 : DataW.trod enc Tryz.prog w base spare held n' 45 ([a0, a1, a2].take (Tryz.prog.cellsOf 45)) = some y0 := h0
 have h1 : DataW.trod enc Tryz.prog w base spare held n' 9 ([a1, a2].take (Tryz.prog.cellsOf 9)) = some y1 := h1
 have h2 : DataW.trod enc Tryz.prog w base spare held n' 25 ([a2].take (Tryz.prog.cellsOf 25)) = some y2 := h2
 rw [show Tryz.prog.cellsOf 45 = 1 by kernel_rfl] at h0
 rw [show Tryz.prog.cellsOf 9 = 1 by kernel_rfl] at h1
 rw [show Tryz.prog.cellsOf 25 = 1 by kernel_rfl] at h2
 obtain ⟨A, pc, p, e0, l0, _, r0⟩ := pL zi zt jK h0
 obtain ⟨q, e1, _⟩ := sD za h1
 obtain ⟨B, nc, ns, e2, l2, r2, s2⟩ := pM zk za jK h2
 have e0 : [a0] = _ := e0
 have e1 : [a1] = _ := e1
 have e2 : [a2] = _ := e2
 injection e0 with e0
 injection e1 with e1
 injection e2 with e2
 subst e0 e1 e2
 exact ⟨A, pc, B, nc, ⟨p, q, ns⟩, rfl, l0, r0, l2, r2, fun s hs => zq (s2 s hs) b2⟩
theorem pN (h : DataW.trod enc Tryz.prog w base spare held n 50 cs = some x) :
  ∃ A pc B nc, ∃ (v : Wnt) (fr m : Nat) (pk : Bool), cs = [.slice A v.path.length pc, encStr v.what, .slice B v.names.length nc, .int .u16 ((fr : Nat) : Int), .int .u16 ((m : Nat) : Int), .bool pk] ∧ (v.path.length ≤ pc ∧ Rd w 1 A v.path.length (PI v.path) ∧ v.names.length ≤ nc ∧ Rd w 1 B v.names.length (SB v.names)) ∧ (∀ s ∈ v.names, s.length ≤ Rows.uptoBulk x.1) ∧ fr < 65536 ∧ m < 65536 := by
 obtain ⟨hlen, n', hf⟩ := mI zcm h
 have hl : cs.length = 6 := hlen.trans jK
 obtain ⟨a0, a1, a2, a3, a4, a5, rfl⟩ : ∃ a0 a1 a2 a3 a4 a5, cs = [a0, a1, a2, a3, a4, a5] := by
  match cs, hl with
  | [a0, a1, a2, a3, a4, a5], _ => exact ⟨a0, a1, a2, a3, a4, a5, rfl⟩
 obtain ⟨y0, h0, b0⟩ := hf 0 _ rfl
 obtain ⟨y1, h1, _⟩ := hf 1 _ rfl
 obtain ⟨y2, h2, _⟩ := hf 2 _ rfl
 obtain ⟨y3, h3, _⟩ := hf 3 _ rfl
 have h0 : DataW.trod enc Tryz.prog w base spare held n' 47 ([a0, a1, a2, a3, a4, a5].take (Tryz.prog.cellsOf 47)) = some y0 := h0
 have h1 : DataW.trod enc Tryz.prog w base spare held n' 48 ([a3, a4, a5].take (Tryz.prog.cellsOf 48)) = some y1 := h1
 have h2 : DataW.trod enc Tryz.prog w base spare held n' 48 ([a4, a5].take (Tryz.prog.cellsOf 48)) = some y2 := h2
 have h3 : DataW.trod enc Tryz.prog w base spare held n' 4 ([a5].take (Tryz.prog.cellsOf 4)) = some y3 := h3
 rw [show Tryz.prog.cellsOf 47 = 3 by kernel_rfl] at h0
 rw [show Tryz.prog.cellsOf 48 = 1 by kernel_rfl] at h1 h2
 rw [show Tryz.prog.cellsOf 4 = 1 by kernel_rfl] at h3
 obtain ⟨A, pc, B, nc, v, e0, l0, r0, l2, r2, s2⟩ := sN h0
 obtain ⟨fr, e1, q1⟩ := mL h1
 obtain ⟨m, e2, q2⟩ := mL h2
 obtain ⟨pk, e3⟩ := sM h3
 have e0 : [a0, a1, a2] = _ := e0
 have e1 : [a3] = _ := e1
 have e2 : [a4] = _ := e2
 have e3 : [a5] = _ := e3
 injection e0 with e0 e4
 injection e4 with e4 e5
 injection e5 with e5
 injection e1 with e1
 injection e2 with e2
 injection e3 with e3
 subst e0 e4 e5 e1 e2 e3
 exact ⟨A, pc, B, nc, v, fr, m, pk, rfl, ⟨l0, r0, l2, r2⟩, fun s hs => zq (s2 s hs) b0, q1, q2⟩
end
end
end Go.Proofs.YtjklfpccmaljjaaGreatDoor
