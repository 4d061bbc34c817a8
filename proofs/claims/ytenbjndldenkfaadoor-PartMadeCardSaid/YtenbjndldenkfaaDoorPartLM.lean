/-
  'PartMade': the parts of a letter that is made are those it was made of.
-/
import Derived.Test.YtenbjndldenkfaaDoorPartS
import Derived.Test.YtenbjndldenkfaaDoorEngB
namespace Go.Proofs.YtenbjndldenkfaaDoor
open Go.RowKit Go.Sort

theorem OwnF.ne_own {w : World} {e n c e' size' n' c' : Nat} {A A' : Option Addr} {xs xs' : List Value} (h : OwnF w e A n c xs) (h' : Own w e' size' A' n' c' xs') (hne : e ≠ e') : ∀ y ∈ ob A', y ∉ ob A := by
  rcases h with h | ⟨gb, cs, rfl, _, _, _, h4⟩
  · exact fun y hy => h'.ne_own h (Ne.symm hne) y hy
  · intro y hy hm
    simp only [ob, List.mem_singleton] at hm
    subst hm
    rcases h'.cases with ⟨rfl, _⟩ | ⟨g', cur, rfl, hb, _⟩
    · simp [ob] at hy
    · simp only [ob, List.mem_singleton] at hy
      subst hy
      unfold Fro at h4
      unfold Blk at hb
      rw [h4] at hb
      injection hb with hb
      injection hb with _ hb _
      exact hne hb
theorem at1 {w : World} {ad : Addr} {k : Nat} {v : Value} (h : w.cell? (ad.add k) = some v) : w.cell? (ad.add (k * 1)) = some v := by rw [Nat.mul_one]; exact h
abbrev Ys := List (Option Addr × Nat × Tx)
def xsO (ys : Ys) : List Tx := ys.map fun y => xOf y.2.2
theorem xsO_len (ys : Ys) : (xsO ys).length = ys.length := by simp [xsO]
theorem xsO_next {ys : Ys} {j : Nat} (h : j < ys.length) : xsO (ys.take (j + 1)) = xsO (ys.take j) ++ [xOf ys[j].2.2] := by
  rw [take_snoc h]
  simp only [xsO, List.map_append, List.map_cons, List.map_nil]
theorem U8_app (a b : Tx) : U8 (a ++ b) = U8 a ++ U8 b := by simp [U8]
theorem SLT_cut {w : World} {A : Option Addr} {c : Nat} {l : Ys} (h : Rd w 1 A l.length (l.map SLT)) (k : Nat) (hk : k ≤ l.length) (hc : l.length ≤ c) : Rd w 1 (cutA A c 0 1) (l.take k).length ((l.take k).map SLT) := by
  have e := h.cut (l := 0) (r := k) (cap := c) (by omega) hk hc
  have e1 : (l.take k).length = k - 0 := by simp; omega
  have e2 : (l.take k).map SLT = ((l.map SLT).drop (0 * 1)).take ((k - 0) * 1) := by simp [List.map_take]
  rw [e1, e2]
  exact e
theorem SLT_get {w : World} {ad : Addr} {ys : Ys} {k : Nat} (h : Rd w 1 (some ad) ys.length (ys.map SLT)) (hk : k < ys.length) : w.cell? (ad.add k) = some (.slice ys[k].1 ys[k].2.2.length ys[k].2.1) := by
  obtain ⟨ad', e, h⟩ := SLT_at h hk
  cases e
  exact h
theorem U8_get {w : World} {ad : Addr} {s : Tx} {k : Nat} (h : Rd w 1 (some ad) s.length (U8 s)) (hk : k < s.length) : w.cell? (ad.add k) = some (.int .u8 ((s[k].toNat : Nat) : Int)) := by
  obtain ⟨ad', e, h⟩ := U8_at h hk
  cases e
  exact h
theorem SB_get {w : World} {ad : Addr} {s : List Tx} {k : Nat} (h : Rd w 1 (some ad) s.length (SB s)) (hk : k < s.length) : w.cell? (ad.add k) = some (encStr s[k]) := by
  obtain ⟨ad', e, h⟩ := SB_at h hk
  cases e
  exact h
theorem PP_pick {w : World} {ad : Addr} {l : List Pc} (h : Rd w 9 (some ad) l.length (PP l)) (k : Nat) (p : Prt) (hp : (l.map (·.1))[k]? = some p) : ∃ y, ∀ j v, (PP1 (p, y))[j]? = some v → w.cell? ((ad.add (k * 9)).add j) = some v := by
  rw [List.getElem?_map, Option.map_eq_some_iff] at hp
  obtain ⟨⟨p', y⟩, hp, rfl⟩ := hp
  obtain ⟨hk, e⟩ := List.getElem?_eq_some_iff.1 hp
  have := PP_get h hk
  rw [e] at this
  exact ⟨y, this⟩

set_option maxRecDepth 100000 in
theorem made_walk (A B : Option Addr) (c d : Nat) (ys0 : Ys) (v : Tx) (w : World) (hc : ys0.length ≤ c) (hl : Rd w 1 A ys0.length (ys0.map SLT)) (hys : ∀ y ∈ ys0, y.2.2.length ≤ y.2.1 ∧ Rd w 1 y.1 y.2.2.length (U8 y.2.2)) (hd : v.length ≤ d) (hv : Rd w 1 B v.length (U8 v)) :
    Calls Tryd.prog 4 #[.slice A ys0.length c, .slice B v.length d] w fun e w' => e = .returned (.bool true) ∧ Frm [] w w' := by
  have K := Frm.refl [] w
  refine VC.calls (nt := 190) (res := #[.tmp 4]) Tryd.func4 rfl Tryd.ntmps4 Tryd.results4 rfl ?_
  refine VC.seq ?_
  refine VC.region ?_
  refine Ops.r (Run.asg rfl) rfl ?_
  refine Ops.nil ?_
  refine thenQ_n ?_
  refine VC.sub [(0, _), (1, _)] (.cons rfl (.cons rfl .nil)) ?_
  refine VC.seq ?_
  refine VC.seq ?_
  refine VC.region ?_
  refine Ops.r (Run.mv rfl) rfl ?_
  refine Ops.r (Run.lenS rfl Tryd.underlying23) rfl ?_
  refine Ops.r (Run.bin rfl rfl (Bin.gtrN _ 9)) rfl ?_
  refine Ops.nil ?_
  refine thenQ_n ?_
  refine VC.sub [(0, _), (1, _), (16, _)] (.cons rfl (.cons rfl (.cons rfl .nil))) ?_
  refine VC.meet (σ := Option Addr × Nat) (fun s => [(0, .slice s.1 (ys0.take 9).length s.2), (1, .slice B v.length d)]) (fun s wr => w = wr ∧ Rd wr 1 s.1 (ys0.take 9).length ((ys0.take 9).map SLT)) ?_ ?_
  · skip
    refine VC.condD rfl (fun hc1 => ?_) (fun hc1 => ?_)
    · skip
      refine VC.region ?_
      refine Ops.r (Run.mv rfl) rfl ?_
      refine Ops.r (Run.sliceS 0 9 rfl Tryd.underlying23 Tryd.sizeOf24 evB.none_ (evB.some_ rfl) (by omega) (by omega)) rfl ?_
      refine Ops.r (Run.asg rfl) rfl ?_
      refine Ops.nil ?_
      refine thenQ_n ⟨(cutA A c 0 1, c - 0), (.cons (by rw [show (ys0.take 9).length = 9 - 0 by simp; omega]; rfl) (.cons rfl .nil)), ?_⟩
      exact ⟨rfl, SLT_cut hl 9 (by omega) hc⟩
    · skip
      refine VC.skip ?_
      refine thenQ_n ⟨(A, c), (.cons (by rw [List.take_of_length_le (by omega)]; rfl) (.cons rfl .nil)), ?_⟩
      exact ⟨rfl, by rw [List.take_of_length_le (by omega)]; exact hl⟩
  · skip
    rintro ⟨A1, c1⟩ _ ⟨rfl, hl⟩ Γ hΓ
    dsimp only at hl
    have hn9 : (ys0.take 9).length ≤ 9 := by simp; omega
    have hys : ∀ y ∈ ys0.take 9, y.2.2.length ≤ y.2.1 ∧ Rd w 1 y.1 y.2.2.length (U8 y.2.2) := fun y hy => hys y (List.mem_of_mem_take hy)
    generalize ys0.take 9 = ys at *
    refine thenQ_n (VC.sub _ hΓ ?_)
    refine VC.seq ?_
    refine VC.region ?_
    refine Ops.m (Does.buildN (cells := (U8 headT).toArray) (evs.cons rfl (evs.cons rfl (evs.cons rfl (evs.cons rfl (evs.cons rfl (evs.cons rfl (evs.cons rfl (evs.cons rfl (evs.cons rfl (evs.cons rfl (evs.cons rfl (evs.cons rfl (evs.cons rfl (evs.cons rfl (evs.cons rfl (evs.cons rfl (evs.cons rfl (evs.cons rfl (evs.cons rfl (evs.cons rfl (evs.cons rfl (evs.cons rfl (evs.cons rfl (evs.cons rfl (evs.cons rfl (evs.cons rfl (evs.cons rfl (evs.cons rfl (evs.cons rfl (evs.cons rfl (evs.cons rfl (evs.cons rfl (evs.cons rfl (evs.cons rfl (evs.cons rfl (evs.cons rfl (evs.cons rfl (evs.cons rfl (evs.cons rfl (evs.cons rfl (evs.cons rfl (evs.cons rfl (evs.cons rfl (evs.cons rfl evs.nil)))))))))))))))))))))))))))))))))))))))))))) Tryd.underlying24 Tryd.sizeOf5 zero5 rfl rfl (by kernel_rfl)) rfl ?_
    rintro _ w1 ⟨rfl, hF1⟩
    have hb19 : Blk w1 w.heap.size 5 (U8 headT).toArray := hF1.blk
    have K := K.trans hF1.frm (by simp)
    refine Ops.m (Does.mark rfl Tryd.underlying24 Tryd.underlying5 hb19) rfl ?_
    rintro _ w2 ⟨rfl, hfro, hf2⟩
    have K := Frm.own K hf2 (fun y hy => by simp at hy; omega)
    have hO0 : OwnF w2 5 (some ⟨w.heap.size, 0, none⟩) (headT ++ fA v 0).length 44 (U8 (headT ++ fA v 0)) := by
      have e : headT ++ fA v 0 = headT := by simp [fA]
      rw [e]
      exact .inr ⟨w.heap.size, (U8 headT).toArray, rfl, rfl, by simp, by decide, hfro⟩
    refine Ops.r (Run.asg rfl) rfl ?_
    refine Ops.nil ?_
    refine thenQ_n ?_
    refine VC.sub [(0, _), (1, _), (5, _)] (.cons rfl (.cons rfl (.cons rfl .nil))) ?_
    refine VC.seq ?_
    refine VC.seq ?_
    refine VC.region ?_
    refine Ops.r (v := .int .i64 ((0 : Nat) : Int)) (Run.asg rfl) rfl ?_
    refine Ops.nil ?_
    refine thenQ_n ?_
    refine VC.block ?_
    refine VC.loop (σ := Nat × Option Addr × Nat) (fun s => [(0, .slice A1 ys.length c1), (1, .slice B v.length d), (5, .slice s.2.1 (headT ++ fA v s.1).length s.2.2), (6, .int .i64 ((s.1 : Nat) : Int))]) (fun s wr => s.1 ≤ v.length ∧ s.1 ≤ 40 ∧ OwnF wr 5 s.2.1 (headT ++ fA v s.1).length s.2.2 (U8 (headT ++ fA v s.1)) ∧ Frm [] w wr ∧ ∀ x ∈ ob s.2.1, w.heap.size ≤ x) (fun s => v.length - s.1) (0, some ⟨w.heap.size, 0, none⟩, 44) (.cons rfl (.cons rfl (.cons rfl (.cons rfl .nil)))) ⟨by omega, by show 0 ≤ 40; omega, hO0, K, by simp [ob]⟩ ?_
    rintro ⟨i, A2, c2⟩ V ⟨hi1, hi2, hO, K, hub⟩
    dsimp only at hi1 hi2 hO K hub ⊢
    have hv1 := hv.frm K (by simp)
    have hfl := fA_len v i
    have hhl : headT.length = 44 := by decide
    have hall : (headT ++ fA v i).length = 44 + (fA v i).length := by rw [List.length_append, hhl]
    refine VC.seq ?_
    refine VC.seq ?_
    refine VC.split1 [(0, _), (1, _), (5, _), (6, _)] (.cons rfl (.cons rfl (.cons rfl (.cons rfl .nil)))) 28 (.bool (decide (i < v.length ∧ i < 40))) ?_ ?_
    · refine VC.region ?_
      refine Ops.r (Run.mv rfl) rfl ?_
      refine Ops.r (Run.mv rfl) rfl ?_
      refine Ops.r (Run.lenS rfl Tryd.underlying24) rfl ?_
      refine Ops.r (Run.bin rfl rfl (Bin.lssN _ _)) rfl ?_
      by_cases hs24 : i < v.length
      · skip
        refine Ops.r (Run.mv rfl) rfl ?_
        refine Ops.rg rfl (by first | rfl | assumption | exact decide_eq_true (by assumption) | exact decide_eq_false (by assumption) | decide | (simp; done) | (simp; omega) | (simp [*]; done)) (Run.mv rfl) rfl ?_
        refine Ops.rg rfl (by first | rfl | assumption | exact decide_eq_true (by assumption) | exact decide_eq_false (by assumption) | decide | (simp; done) | (simp; omega) | (simp [*]; done)) (Run.bin rfl rfl (Bin.lssN _ 40)) rfl ?_
        by_cases hs27 : i < 40
        · skip
          refine Ops.r (Run.pickT rfl rfl (by first | rfl | assumption | exact decide_eq_true (by assumption) | exact decide_eq_false (by assumption) | decide | (simp; done) | (simp; omega) | (simp [*]; done))) rfl ?_
          refine Ops.nil ?_
          refine thenQ_n ⟨(.cons (congrArg (fun b => some (Value.bool b)) (by first | exact (decide_eq_true hs27).trans (decide_eq_true ⟨hs24, hs27⟩).symm | exact (decide_eq_false hs27).trans (decide_eq_false (fun h : i < v.length ∧ i < 40 => hs27 h.2)).symm | exact (decide_eq_false (fun h : i < v.length ∧ i < 40 => hs24 h.1)).symm | exact (decide_eq_false hs24).trans (decide_eq_false (fun h : i < v.length ∧ i < 40 => hs24 h.1)).symm)) (.cons rfl (.cons rfl (.cons rfl (.cons rfl .nil))))), rfl⟩
        · skip
          refine Ops.r (Run.pickT rfl rfl (by first | rfl | assumption | exact decide_eq_true (by assumption) | exact decide_eq_false (by assumption) | decide | (simp; done) | (simp; omega) | (simp [*]; done))) rfl ?_
          refine Ops.nil ?_
          refine thenQ_n ⟨(.cons (congrArg (fun b => some (Value.bool b)) (by first | exact (decide_eq_true hs27).trans (decide_eq_true ⟨hs24, hs27⟩).symm | exact (decide_eq_false hs27).trans (decide_eq_false (fun h : i < v.length ∧ i < 40 => hs27 h.2)).symm | exact (decide_eq_false (fun h : i < v.length ∧ i < 40 => hs24 h.1)).symm | exact (decide_eq_false hs24).trans (decide_eq_false (fun h : i < v.length ∧ i < 40 => hs24 h.1)).symm)) (.cons rfl (.cons rfl (.cons rfl (.cons rfl .nil))))), rfl⟩
      · skip
        refine Ops.r (Run.mv rfl) rfl ?_
        refine Ops.sk rfl (by first | rfl | assumption | exact decide_eq_true (by assumption) | exact decide_eq_false (by assumption) | decide | (simp; done) | (simp; omega) | (simp [*]; done)) rfl ?_
        refine Ops.sk rfl (by first | rfl | assumption | exact decide_eq_true (by assumption) | exact decide_eq_false (by assumption) | decide | (simp; done) | (simp; omega) | (simp [*]; done)) rfl ?_
        refine Ops.r (Run.pickF rfl rfl (by first | rfl | assumption | exact decide_eq_true (by assumption) | exact decide_eq_false (by assumption) | decide | (simp; done) | (simp; omega) | (simp [*]; done))) rfl ?_
        refine Ops.nil ?_
        refine thenQ_n ⟨(.cons (congrArg (fun b => some (Value.bool b)) (by first | exact (decide_eq_true hs27).trans (decide_eq_true ⟨hs24, hs27⟩).symm | exact (decide_eq_false hs27).trans (decide_eq_false (fun h : i < v.length ∧ i < 40 => hs27 h.2)).symm | exact (decide_eq_false (fun h : i < v.length ∧ i < 40 => hs24 h.1)).symm | exact (decide_eq_false hs24).trans (decide_eq_false (fun h : i < v.length ∧ i < 40 => hs24 h.1)).symm)) (.cons rfl (.cons rfl (.cons rfl (.cons rfl .nil))))), rfl⟩
    · intro Γ hΓ
      refine thenQ_n (VC.sub _ hΓ ?_)
      refine VC.condD rfl (fun hc2 => ?_) (fun hc2 => ?_)
      · skip
        obtain ⟨hiv, hi40⟩ := hc2
        obtain ⟨adB, rfl, hcB⟩ := U8_at hv1 hiv
        have hnx := fA_next hiv
        generalize hx : v[i] = x at *
        refine VC.skip ?_
        refine thenQ_n ?_
        refine VC.sub [(0, _), (1, _), (5, _), (6, _)] (.cons rfl (.cons rfl (.cons rfl (.cons rfl .nil)))) ?_
        refine VC.seq ?_
        refine VC.block ?_
        refine VC.seq ?_
        refine VC.region ?_
        refine Ops.r (Run.mv rfl) rfl ?_
        refine Ops.r (Run.mv rfl) rfl ?_
        refine Ops.r (Run.indexS i rfl rfl Tryd.underlying24 Tryd.sizeOf5 hiv) rfl ?_
        refine Ops.r (Run.load rfl Tryd.isAgg5 (at1 (hcB))) rfl ?_
        refine Ops.r (Run.bin rfl rfl (Bin.neqN _ 45)) rfl ?_
        refine Ops.nil ?_
        refine thenQ_n ?_
        refine VC.sub [(0, _), (1, _), (5, _), (6, _), (35, _)] (.cons rfl (.cons rfl (.cons rfl (.cons rfl (.cons rfl .nil))))) ?_
        refine VC.meet (σ := Option Addr × Nat) (fun s => [(0, .slice A1 ys.length c1), (1, .slice (some adB) v.length d), (5, .slice s.1 (headT ++ fA v (i + 1)).length s.2), (6, .int .i64 ((i : Nat) : Int))]) (fun s wr => OwnF wr 5 s.1 (headT ++ fA v (i + 1)).length s.2 (U8 (headT ++ fA v (i + 1))) ∧ Frm [] w wr ∧ ∀ x ∈ ob s.1, w.heap.size ≤ x) ?_ ?_
        · skip
          refine VC.condD rfl (fun hc3 => ?_) (fun hc3 => ?_)
          · skip
            refine VC.region ?_
            refine Ops.r (Run.mv rfl) rfl ?_
            refine Ops.r (Run.mv rfl) rfl ?_
            refine Ops.r (Run.mv rfl) rfl ?_
            refine Ops.r (Run.indexS i rfl rfl Tryd.underlying24 Tryd.sizeOf5 hiv) rfl ?_
            refine Ops.r (Run.load rfl Tryd.isAgg5 (at1 (hcB))) rfl ?_
            refine Ops.m (Does.buildS1 rfl Tryd.underlying24 Tryd.sizeOf5 zero5 (by decide) (by decide) rfl rfl) rfl ?_
            rintro _ V2 ⟨rfl, hF2⟩
            have hrd1 : Rd V2 1 (some ⟨_, 0, none⟩) 1 (U8 [x]) := Rd.of_blk (n := 1) (size := 1) hF2.blk rfl
            have hO2 := hO.frm hF2.frm (by simp)
            have K2 := K.trans hF2.frm (by simp)
            refine Ops.m (Does.appF rfl rfl Tryd.underlying24 (info5) rfl hO2 hrd1 (U8_one _) (by decide) (by omega) (by omega)) rfl ?_
            rintro _ V3 ⟨A3, c3, rfl, hO3, hf3, hub3⟩
            rw [← U8_app, List.append_assoc] at hO3
            have K3 := Frm.own K2 hf3 hub
            have hsV := K.size
            have hsV2 := K2.size
            rw [if_pos (show x.toNat ≠ 45 from hc3)] at hnx
            have hub4 : ∀ y ∈ ob A3, w.heap.size ≤ y := fun y hy => by rcases hub3 y hy with h | h; exact hub y h; omega
            have hnl : (headT ++ fA v (i + 1)).length = (headT ++ fA v i).length + 1 := by rw [hnx]; simp; omega
            refine Ops.r (Run.asg rfl) rfl ?_
            refine Ops.nil ?_
            refine thenQ_n ⟨(A3, c3), (.cons rfl (.cons rfl (.cons (by rw [hnl]; rfl) (.cons rfl .nil)))), ?_⟩
            exact ⟨by show OwnF _ _ _ (headT ++ fA v (i + 1)).length _ (U8 (headT ++ fA v (i + 1))); rw [hnl, hnx]; exact .inl hO3, K3, hub4⟩
          · skip
            refine VC.skip ?_
            refine thenQ_n ⟨(A2, c2), (.cons rfl (.cons rfl (.cons (by rw [hnx, if_neg (by simpa using hc3), List.append_nil]; rfl) (.cons rfl .nil)))), ?_⟩
            rw [if_neg (show ¬ x.toNat ≠ 45 by simpa using hc3), List.append_nil] at hnx
            exact ⟨by show OwnF _ _ _ (headT ++ fA v (i + 1)).length _ (U8 (headT ++ fA v (i + 1))); rw [hnx]; exact hO, K, hub⟩
        · skip
          rintro ⟨A4, c4⟩ V5 ⟨hO, K, hub⟩ Γ hΓ
          dsimp only at hO hub
          refine blockQ_n (thenQ_n (VC.sub _ hΓ ?_))
          refine VC.region ?_
          refine Ops.r (Run.mv rfl) rfl ?_
          refine Ops.r (Run.bin rfl rfl (Bin.add_i64 _ 1 (by omega))) rfl ?_
          refine Ops.r (Run.asg rfl) rfl ?_
          refine Ops.nil ?_
          refine thenQ_n ⟨(i + 1, A4, c4), (.cons rfl (.cons rfl (.cons rfl (.cons rfl .nil)))), ?_, ?_⟩
          · skip
            exact ⟨by show i + 1 ≤ v.length; omega, by show i + 1 ≤ 40; omega, hO, K, hub⟩
          · skip
            first | omega | (dsimp only; omega)
      · skip
        have hfe := fA_end hi2 hi1 hc2
        rw [hfe] at hO hfl hall ⊢
        have hah := fA_ok v 40
        have hahl := fA_len v 40
        generalize fA v 40 = ah at *
        have hb0 : headT ++ ah = bjT ah (xsO (ys.take 0)) := by simp [bjT, xsO]
        rw [hb0] at hO ⊢
        refine VC.exit ?_
        refine thenQ_x (thenQ_x (blockQ_x ?_))
        refine thenQ_n ?_
        refine VC.sub [(0, _), (5, _)] (.cons rfl (.cons rfl .nil)) ?_
        refine VC.seq ?_
        refine VC.region ?_
        refine Ops.r (Run.asg rfl) rfl ?_
        refine Ops.nil ?_
        refine thenQ_n ?_
        refine VC.seq ?_
        refine VC.seq ?_
        refine VC.region ?_
        refine Ops.r (v := .int .i64 ((0 : Nat) : Int)) (Run.asg rfl) rfl ?_
        refine Ops.nil ?_
        refine thenQ_n ?_
        refine VC.block ?_
        refine VC.loop (σ := Nat × (Option Addr × Nat) × (Option Addr × Nat)) (fun s => [(0, .slice A1 ys.length c1), (5, .slice s.2.1.1 (bjT ah (xsO (ys.take s.1))).length s.2.1.2), (7, .slice s.2.2.1 (xsO (ys.take s.1)).length s.2.2.2), (8, .int .i64 ((s.1 : Nat) : Int))]) (fun s wr => s.1 ≤ ys.length ∧ OwnF wr 5 s.2.1.1 (bjT ah (xsO (ys.take s.1))).length s.2.1.2 (U8 (bjT ah (xsO (ys.take s.1)))) ∧ Own wr 9 1 s.2.2.1 (xsO (ys.take s.1)).length s.2.2.2 (SB (xsO (ys.take s.1))) ∧ Frm [] w wr ∧ (∀ x ∈ ob s.2.1.1, w.heap.size ≤ x) ∧ (∀ x ∈ ob s.2.2.1, w.heap.size ≤ x)) (fun s => ys.length - s.1) (0, (A2, c2), (none, 0)) (.cons rfl (.cons rfl (.cons rfl (.cons rfl .nil)))) ⟨by omega, hO, Own.nil _ _ _, K, hub, by simp [ob]⟩ ?_
        rintro ⟨j, ⟨A3, c3⟩, ⟨WA, wc⟩⟩ V2 ⟨hj, hO, hW, K, hub, hubW⟩
        dsimp only at hj hO hW K hub hubW ⊢
        have hbl := bjT_len ah (xsO (ys.take j)) hahl (fun x hx => by obtain ⟨y, _, rfl⟩ := List.mem_map.1 hx; exact xOf_len _)
        have hxl : (xsO (ys.take j)).length = j := by rw [xsO_len, List.length_take]; omega
        refine VC.seq ?_
        refine VC.seq ?_
        refine VC.region ?_
        refine Ops.r (Run.mv rfl) rfl ?_
        refine Ops.r (Run.mv rfl) rfl ?_
        refine Ops.r (Run.lenS rfl Tryd.underlying23) rfl ?_
        refine Ops.r (Run.bin rfl rfl (Bin.lssN _ _)) rfl ?_
        refine Ops.nil ?_
        refine thenQ_n ?_
        refine VC.sub [(0, _), (5, _), (7, _), (8, _), (46, _)] (.cons rfl (.cons rfl (.cons rfl (.cons rfl (.cons rfl .nil))))) ?_
        refine VC.condD rfl (fun hc4 => ?_) (fun hc4 => ?_)
        · skip
          obtain ⟨adA, rfl, _⟩ := SLT_at hl hc4
          have hcA := fun {w' : World} (k : Frm [] w w') => SLT_get (hl.frm k (by simp)) hc4
          have hyr := (hys _ (List.getElem_mem hc4)).2
          have hnx := xsO_next hc4
          generalize hy : ys[j] = y at *
          obtain ⟨yA, yc, y⟩ := y
          dsimp only at hcA hyr hnx
          have hxol := xOf_len y
          refine VC.skip ?_
          refine thenQ_n ?_
          refine VC.sub [(0, _), (5, _), (7, _), (8, _)] (.cons rfl (.cons rfl (.cons rfl (.cons rfl .nil)))) ?_
          refine VC.seq ?_
          refine VC.block ?_
          refine VC.seq ?_
          refine VC.region ?_
          refine Ops.r (Run.asg rfl) rfl ?_
          refine Ops.nil ?_
          refine thenQ_n ?_
          refine VC.seq ?_
          refine VC.seq ?_
          refine VC.region ?_
          refine Ops.r (v := .int .i64 ((0 : Nat) : Int)) (Run.asg rfl) rfl ?_
          refine Ops.nil ?_
          refine thenQ_n ?_
          refine VC.block ?_
          refine VC.loop (σ := Nat) (fun s => [(0, .slice (some adA) ys.length c1), (5, .slice A3 (bjT ah (xsO (ys.take j))).length c3), (7, .slice WA (xsO (ys.take j)).length wc), (8, .int .i64 ((j : Nat) : Int)), (9, encStr (10 :: fX y s)), (10, .int .i64 ((s : Nat) : Int))]) (fun s wr => s ≤ y.length ∧ s ≤ 60 ∧ Frm [] V2 wr) (fun s => y.length - s) 0 (.cons rfl (.cons rfl (.cons rfl (.cons rfl (.cons rfl (.cons rfl .nil)))))) ⟨by omega, by omega, Frm.refl _ _⟩ ?_
          rintro k V3 ⟨hk1, hk2, hV3⟩
          have KV := K.trans hV3 (by simp)
          have hcA1 := hcA KV
          have hyr1 := hyr.frm KV (by simp)
          have hxk := fX_len y k
          refine VC.seq ?_
          refine VC.seq ?_
          refine VC.split1 [(0, _), (5, _), (7, _), (8, _), (9, _), (10, _)] (.cons rfl (.cons rfl (.cons rfl (.cons rfl (.cons rfl (.cons rfl .nil)))))) 59 (.bool (decide (k < y.length ∧ k < 60))) ?_ ?_
          · refine VC.region ?_
            refine Ops.r (Run.mv rfl) rfl ?_
            refine Ops.r (Run.mv rfl) rfl ?_
            refine Ops.r (Run.mv rfl) rfl ?_
            refine Ops.r (Run.indexS j rfl rfl Tryd.underlying23 Tryd.sizeOf24 hc4) rfl ?_
            refine Ops.r (Run.load rfl Tryd.isAgg24 (at1 (hcA1))) rfl ?_
            refine Ops.r (Run.lenS rfl Tryd.underlying24) rfl ?_
            refine Ops.r (Run.bin rfl rfl (Bin.lssN _ _)) rfl ?_
            by_cases hs55 : k < y.length
            · skip
              refine Ops.r (Run.mv rfl) rfl ?_
              refine Ops.rg rfl (by first | rfl | assumption | exact decide_eq_true (by assumption) | exact decide_eq_false (by assumption) | decide | (simp; done) | (simp; omega) | (simp [*]; done)) (Run.mv rfl) rfl ?_
              refine Ops.rg rfl (by first | rfl | assumption | exact decide_eq_true (by assumption) | exact decide_eq_false (by assumption) | decide | (simp; done) | (simp; omega) | (simp [*]; done)) (Run.bin rfl rfl (Bin.lssN _ 60)) rfl ?_
              by_cases hs58 : k < 60
              · skip
                refine Ops.r (Run.pickT rfl rfl (by first | rfl | assumption | exact decide_eq_true (by assumption) | exact decide_eq_false (by assumption) | decide | (simp; done) | (simp; omega) | (simp [*]; done))) rfl ?_
                refine Ops.nil ?_
                refine thenQ_n ⟨(.cons (congrArg (fun b => some (Value.bool b)) (by first | exact (decide_eq_true hs58).trans (decide_eq_true ⟨hs55, hs58⟩).symm | exact (decide_eq_false hs58).trans (decide_eq_false (fun h : k < y.length ∧ k < 60 => hs58 h.2)).symm | exact (decide_eq_false (fun h : k < y.length ∧ k < 60 => hs55 h.1)).symm | exact (decide_eq_false hs55).trans (decide_eq_false (fun h : k < y.length ∧ k < 60 => hs55 h.1)).symm)) (.cons rfl (.cons rfl (.cons rfl (.cons rfl (.cons rfl (.cons rfl .nil))))))), rfl⟩
              · skip
                refine Ops.r (Run.pickT rfl rfl (by first | rfl | assumption | exact decide_eq_true (by assumption) | exact decide_eq_false (by assumption) | decide | (simp; done) | (simp; omega) | (simp [*]; done))) rfl ?_
                refine Ops.nil ?_
                refine thenQ_n ⟨(.cons (congrArg (fun b => some (Value.bool b)) (by first | exact (decide_eq_true hs58).trans (decide_eq_true ⟨hs55, hs58⟩).symm | exact (decide_eq_false hs58).trans (decide_eq_false (fun h : k < y.length ∧ k < 60 => hs58 h.2)).symm | exact (decide_eq_false (fun h : k < y.length ∧ k < 60 => hs55 h.1)).symm | exact (decide_eq_false hs55).trans (decide_eq_false (fun h : k < y.length ∧ k < 60 => hs55 h.1)).symm)) (.cons rfl (.cons rfl (.cons rfl (.cons rfl (.cons rfl (.cons rfl .nil))))))), rfl⟩
            · skip
              refine Ops.r (Run.mv rfl) rfl ?_
              refine Ops.sk rfl (by first | rfl | assumption | exact decide_eq_true (by assumption) | exact decide_eq_false (by assumption) | decide | (simp; done) | (simp; omega) | (simp [*]; done)) rfl ?_
              refine Ops.sk rfl (by first | rfl | assumption | exact decide_eq_true (by assumption) | exact decide_eq_false (by assumption) | decide | (simp; done) | (simp; omega) | (simp [*]; done)) rfl ?_
              refine Ops.r (Run.pickF rfl rfl (by first | rfl | assumption | exact decide_eq_true (by assumption) | exact decide_eq_false (by assumption) | decide | (simp; done) | (simp; omega) | (simp [*]; done))) rfl ?_
              refine Ops.nil ?_
              refine thenQ_n ⟨(.cons (congrArg (fun b => some (Value.bool b)) (by first | exact (decide_eq_true hs58).trans (decide_eq_true ⟨hs55, hs58⟩).symm | exact (decide_eq_false hs58).trans (decide_eq_false (fun h : k < y.length ∧ k < 60 => hs58 h.2)).symm | exact (decide_eq_false (fun h : k < y.length ∧ k < 60 => hs55 h.1)).symm | exact (decide_eq_false hs55).trans (decide_eq_false (fun h : k < y.length ∧ k < 60 => hs55 h.1)).symm)) (.cons rfl (.cons rfl (.cons rfl (.cons rfl (.cons rfl (.cons rfl .nil))))))), rfl⟩
          · intro Γ hΓ
            refine thenQ_n (VC.sub _ hΓ ?_)
            refine VC.condD rfl (fun hc5 => ?_) (fun hc5 => ?_)
            · skip
              obtain ⟨hky, hk60⟩ := hc5
              obtain ⟨ady, rfl, hcy⟩ := U8_at hyr1 hky
              have hfnx := fX_next hky
              generalize hx : y[k] = x at *
              refine VC.skip ?_
              refine thenQ_n ?_
              refine VC.sub [(0, _), (5, _), (7, _), (8, _), (9, _), (10, _)] (.cons rfl (.cons rfl (.cons rfl (.cons rfl (.cons rfl (.cons rfl .nil)))))) ?_
              refine VC.seq ?_
              refine VC.block ?_
              refine VC.seq ?_
              refine VC.split1 [(0, _), (5, _), (7, _), (8, _), (9, _), (10, _)] (.cons rfl (.cons rfl (.cons rfl (.cons rfl (.cons rfl (.cons rfl .nil)))))) 79 (.bool (decide (x.toNat ≠ 45 ∧ x.toNat ≠ 13))) ?_ ?_
              · refine VC.region ?_
                refine Ops.r (Run.mv rfl) rfl ?_
                refine Ops.r (Run.mv rfl) rfl ?_
                refine Ops.r (Run.indexS j rfl rfl Tryd.underlying23 Tryd.sizeOf24 hc4) rfl ?_
                refine Ops.r (Run.load rfl Tryd.isAgg24 (at1 (hcA1))) rfl ?_
                refine Ops.r (Run.mv rfl) rfl ?_
                refine Ops.r (Run.indexS k rfl rfl Tryd.underlying24 Tryd.sizeOf5 hky) rfl ?_
                refine Ops.r (Run.load rfl Tryd.isAgg5 (at1 (hcy))) rfl ?_
                refine Ops.r (Run.bin rfl rfl (Bin.neqN _ 45)) rfl ?_
                by_cases hs69 : x.toNat ≠ 45
                · skip
                  refine Ops.r (Run.mv rfl) rfl ?_
                  refine Ops.rg rfl (by first | rfl | assumption | exact decide_eq_true (by assumption) | exact decide_eq_false (by assumption) | decide | (simp; done) | (simp; omega) | (simp [*]; done)) (Run.mv rfl) rfl ?_
                  refine Ops.rg rfl (by first | rfl | assumption | exact decide_eq_true (by assumption) | exact decide_eq_false (by assumption) | decide | (simp; done) | (simp; omega) | (simp [*]; done)) (Run.mv rfl) rfl ?_
                  refine Ops.rg rfl (by first | rfl | assumption | exact decide_eq_true (by assumption) | exact decide_eq_false (by assumption) | decide | (simp; done) | (simp; omega) | (simp [*]; done)) (Run.indexS j rfl rfl Tryd.underlying23 Tryd.sizeOf24 hc4) rfl ?_
                  refine Ops.rg rfl (by first | rfl | assumption | exact decide_eq_true (by assumption) | exact decide_eq_false (by assumption) | decide | (simp; done) | (simp; omega) | (simp [*]; done)) (Run.load rfl Tryd.isAgg24 (at1 (hcA1))) rfl ?_
                  refine Ops.rg rfl (by first | rfl | assumption | exact decide_eq_true (by assumption) | exact decide_eq_false (by assumption) | decide | (simp; done) | (simp; omega) | (simp [*]; done)) (Run.mv rfl) rfl ?_
                  refine Ops.rg rfl (by first | rfl | assumption | exact decide_eq_true (by assumption) | exact decide_eq_false (by assumption) | decide | (simp; done) | (simp; omega) | (simp [*]; done)) (Run.indexS k rfl rfl Tryd.underlying24 Tryd.sizeOf5 hky) rfl ?_
                  refine Ops.rg rfl (by first | rfl | assumption | exact decide_eq_true (by assumption) | exact decide_eq_false (by assumption) | decide | (simp; done) | (simp; omega) | (simp [*]; done)) (Run.load rfl Tryd.isAgg5 (at1 (hcy))) rfl ?_
                  refine Ops.rg rfl (by first | rfl | assumption | exact decide_eq_true (by assumption) | exact decide_eq_false (by assumption) | decide | (simp; done) | (simp; omega) | (simp [*]; done)) (Run.bin rfl rfl (Bin.neqN _ 13)) rfl ?_
                  by_cases hs78 : x.toNat ≠ 13
                  · skip
                    refine Ops.r (Run.pickT rfl rfl (by first | rfl | assumption | exact decide_eq_true (by assumption) | exact decide_eq_false (by assumption) | decide | (simp; done) | (simp; omega) | (simp [*]; done))) rfl ?_
                    refine Ops.nil ?_
                    refine thenQ_n ⟨(.cons (congrArg (fun b => some (Value.bool b)) (by first | (simp [hs69, hs78]; done) | (simp [hs69]; done))) (.cons rfl (.cons rfl (.cons rfl (.cons rfl (.cons rfl (.cons rfl .nil))))))), rfl⟩
                  · skip
                    refine Ops.r (Run.pickT rfl rfl (by first | rfl | assumption | exact decide_eq_true (by assumption) | exact decide_eq_false (by assumption) | decide | (simp; done) | (simp; omega) | (simp [*]; done))) rfl ?_
                    refine Ops.nil ?_
                    refine thenQ_n ⟨(.cons (congrArg (fun b => some (Value.bool b)) (by first | (simp [hs69, hs78]; done) | (simp [hs69]; done))) (.cons rfl (.cons rfl (.cons rfl (.cons rfl (.cons rfl (.cons rfl .nil))))))), rfl⟩
                · skip
                  refine Ops.r (Run.mv rfl) rfl ?_
                  refine Ops.sk rfl (by first | rfl | assumption | exact decide_eq_true (by assumption) | exact decide_eq_false (by assumption) | decide | (simp; done) | (simp; omega) | (simp [*]; done)) rfl ?_
                  refine Ops.sk rfl (by first | rfl | assumption | exact decide_eq_true (by assumption) | exact decide_eq_false (by assumption) | decide | (simp; done) | (simp; omega) | (simp [*]; done)) rfl ?_
                  refine Ops.sk rfl (by first | rfl | assumption | exact decide_eq_true (by assumption) | exact decide_eq_false (by assumption) | decide | (simp; done) | (simp; omega) | (simp [*]; done)) rfl ?_
                  refine Ops.sk rfl (by first | rfl | assumption | exact decide_eq_true (by assumption) | exact decide_eq_false (by assumption) | decide | (simp; done) | (simp; omega) | (simp [*]; done)) rfl ?_
                  refine Ops.sk rfl (by first | rfl | assumption | exact decide_eq_true (by assumption) | exact decide_eq_false (by assumption) | decide | (simp; done) | (simp; omega) | (simp [*]; done)) rfl ?_
                  refine Ops.sk rfl (by first | rfl | assumption | exact decide_eq_true (by assumption) | exact decide_eq_false (by assumption) | decide | (simp; done) | (simp; omega) | (simp [*]; done)) rfl ?_
                  refine Ops.sk rfl (by first | rfl | assumption | exact decide_eq_true (by assumption) | exact decide_eq_false (by assumption) | decide | (simp; done) | (simp; omega) | (simp [*]; done)) rfl ?_
                  refine Ops.sk rfl (by first | rfl | assumption | exact decide_eq_true (by assumption) | exact decide_eq_false (by assumption) | decide | (simp; done) | (simp; omega) | (simp [*]; done)) rfl ?_
                  refine Ops.r (Run.pickF rfl rfl (by first | rfl | assumption | exact decide_eq_true (by assumption) | exact decide_eq_false (by assumption) | decide | (simp; done) | (simp; omega) | (simp [*]; done))) rfl ?_
                  refine Ops.nil ?_
                  refine thenQ_n ⟨(.cons (congrArg (fun b => some (Value.bool b)) (by first | (simp [hs69, hs78]; done) | (simp [hs69]; done))) (.cons rfl (.cons rfl (.cons rfl (.cons rfl (.cons rfl (.cons rfl .nil))))))), rfl⟩
              · intro Γ hΓ
                refine thenQ_n (VC.sub _ hΓ ?_)
                refine VC.meet (σ := Unit) (fun s => [(0, .slice (some adA) ys.length c1), (5, .slice A3 (bjT ah (xsO (ys.take j))).length c3), (7, .slice WA (xsO (ys.take j)).length wc), (8, .int .i64 ((j : Nat) : Int)), (9, encStr (10 :: fX y (k + 1))), (10, .int .i64 ((k : Nat) : Int))]) (fun s wr => Frm [] V2 wr) ?_ ?_
                · skip
                  refine VC.condD rfl (fun hc6 => ?_) (fun hc6 => ?_)
                  · skip
                    refine VC.region ?_
                    refine Ops.r (Run.mv rfl) rfl ?_
                    refine Ops.r (Run.mv rfl) rfl ?_
                    refine Ops.r (Run.mv rfl) rfl ?_
                    refine Ops.r (Run.indexS j rfl rfl Tryd.underlying23 Tryd.sizeOf24 hc4) rfl ?_
                    refine Ops.r (Run.load rfl Tryd.isAgg24 (at1 (hcA1))) rfl ?_
                    refine Ops.r (Run.mv rfl) rfl ?_
                    refine Ops.r (Run.indexS k rfl rfl Tryd.underlying24 Tryd.sizeOf5 hky) rfl ?_
                    refine Ops.r (Run.load rfl Tryd.isAgg5 (at1 (hcy))) rfl ?_
                    refine Ops.m (Does.buildS1 rfl Tryd.underlying24 Tryd.sizeOf5 zero5 (by decide) (by decide) rfl rfl) rfl ?_
                    rintro _ V4 ⟨rfl, hF4⟩
                    have hrd1 : Rd V4 1 (some ⟨_, 0, none⟩) 1 (U8 [x]) := Rd.of_blk (n := 1) (size := 1) hF4.blk rfl
                    have hV4 := hV3.trans hF4.frm (by simp)
                    refine Ops.r (Run.strOfT rfl Tryd.underlying24 Tryd.underlying5 Tryd.underlying9 hrd1) rfl ?_
                    refine Ops.r (Run.addT (a := 10 :: fX y k) (b := [x]) rfl rfl (by simp; omega)) rfl ?_
                    refine Ops.r (Run.asg rfl) rfl ?_
                    refine Ops.nil ?_
                    refine thenQ_n ⟨(), (.cons rfl (.cons rfl (.cons rfl (.cons rfl (.cons (by rw [hfnx, if_pos hc6]; rfl) (.cons rfl .nil)))))), ?_⟩
                    exact hV4
                  · skip
                    refine VC.skip ?_
                    refine thenQ_n ⟨(), (.cons rfl (.cons rfl (.cons rfl (.cons rfl (.cons (by rw [hfnx, if_neg hc6, List.append_nil]; rfl) (.cons rfl .nil)))))), ?_⟩
                    exact hV3
                · skip
                  rintro _ V5 hV5 Γ hΓ
                  refine blockQ_n (thenQ_n (VC.sub _ hΓ ?_))
                  refine VC.region ?_
                  refine Ops.r (Run.mv rfl) rfl ?_
                  refine Ops.r (Run.bin rfl rfl (Bin.add_i64 _ 1 (by omega))) rfl ?_
                  refine Ops.r (Run.asg rfl) rfl ?_
                  refine Ops.nil ?_
                  refine thenQ_n ⟨(k + 1), (.cons rfl (.cons rfl (.cons rfl (.cons rfl (.cons rfl (.cons rfl .nil)))))), ?_, ?_⟩
                  · skip
                    exact ⟨by omega, by omega, hV5⟩
                  · skip
                    first | omega | (dsimp only; omega)
            · skip
              have hfe : (10 :: fX y k : Tx) = xOf y := by unfold xOf; rw [fX_end hk2 hk1 hc5]
              rw [hfe]
              have hO := hO.frm hV3 (by simp)
              have hW := hW.frm hV3 (by simp)
              have K := KV
              refine VC.exit ?_
              refine thenQ_x (thenQ_x (blockQ_x ?_))
              refine thenQ_n ?_
              refine VC.sub [(0, _), (5, _), (7, _), (8, _), (9, _)] (.cons rfl (.cons rfl (.cons rfl (.cons rfl (.cons rfl .nil))))) ?_
              refine VC.seq ?_
              refine VC.region ?_
              refine Ops.r (Run.mv rfl) rfl ?_
              refine Ops.r (Run.mv rfl) rfl ?_
              refine Ops.r (Run.addT (a := 10 :: sgnT) (b := xOf y) rfl rfl (by simp [sgnT]; omega)) rfl ?_
              refine Ops.m (Does.appFS (q := segN (xOf y)) w.heap.size rfl rfl Tryd.underlying24 Tryd.underlying9 (info5) hO (by simp [segN]) hub K.size (by simp [segN, sgnT]; omega)) rfl ?_
              rintro _ V5 ⟨A5, c5, rfl, hO5, hf5, hub5⟩
              rw [← U8_app, ← bjT_snoc, ← hnx] at hO5
              have hW := hW.frm hf5 (fun y hy => by exact hO.ne_own hW (by decide) y hy)
              have K := Frm.own K hf5 hub
              have hsn : (bjT ah (xsO (ys.take (j + 1)))).length = (bjT ah (xsO (ys.take j))).length + (segN (xOf y)).length := by rw [hnx, bjT_snoc, List.length_append]
              rw [← hsn] at hO5
              refine Ops.r (Run.asg rfl) rfl ?_
              refine Ops.nil ?_
              refine thenQ_n ?_
              refine VC.sub [(0, _), (5, _), (7, _), (8, _), (9, _)] (.cons rfl (.cons rfl (.cons rfl (.cons rfl (.cons rfl .nil))))) ?_
              refine VC.region ?_
              refine Ops.r (Run.mv rfl) rfl ?_
              refine Ops.r (Run.mv rfl) rfl ?_
              refine Ops.m (Does.buildS1 rfl Tryd.underlying25 Tryd.sizeOf9 zero9 (by decide) (by decide) rfl rfl) rfl ?_
              rintro _ V6 ⟨rfl, hF6⟩
              have hrd6 := hrdT (q := xOf y) hF6
              have hO5 := hO5.frm hF6.frm (by simp)
              have hW := hW.frm hF6.frm (by simp)
              have K6 := K
              have K := K.trans hF6.frm (by simp)
              refine Ops.m (Does.app rfl rfl Tryd.underlying25 (info9) rfl (by decide) hW hrd6 (SB_one _) (by omega) (by omega)) rfl ?_
              rintro _ V7 ⟨A7, c7, rfl, hW7, hf7, hub7⟩
              rw [← SB_append, ← hnx] at hW7
              have hO5 := hO5.own' hf7 hW (by decide)
              have hKs := K.size
              have K := Frm.own K hf7 hubW
              have hub8 : ∀ x ∈ ob A7, w.heap.size ≤ x := fun x hx => by
                rcases hub7 with h | h
                · rw [h] at hx; exact hubW x hx
                · rw [h] at hx; simp only [List.mem_singleton] at hx; omega
              have hwn : (xsO (ys.take (j + 1))).length = (xsO (ys.take j)).length + 1 := by rw [hnx]; simp
              rw [← hwn] at hW7
              refine Ops.r (Run.asg rfl) rfl ?_
              refine Ops.nil ?_
              refine blockQ_n (thenQ_n ?_)
              refine VC.sub [(0, _), (5, _), (7, _), (8, _)] (.cons rfl (.cons rfl (.cons rfl (.cons rfl .nil)))) ?_
              refine VC.region ?_
              refine Ops.r (Run.mv rfl) rfl ?_
              refine Ops.r (Run.bin rfl rfl (Bin.add_i64 _ 1 (by omega))) rfl ?_
              refine Ops.r (Run.asg rfl) rfl ?_
              refine Ops.nil ?_
              refine thenQ_n ⟨(j + 1, (A5, c5), (A7, c7)), (.cons rfl (.cons (by rw [hsn]; rfl) (.cons (by rw [hwn]; rfl) (.cons rfl .nil)))), ?_, ?_⟩
              · skip
                exact ⟨by show j + 1 ≤ ys.length; omega, .inl hO5, hW7, K, hub5, hub8⟩
              · skip
                first | omega | (dsimp only; omega)
        · skip
          have hje : j = ys.length := by omega
          subst hje
          rw [List.take_length] at hO hW hbl hxl ⊢
          refine VC.exit ?_
          refine thenQ_x (thenQ_x (blockQ_x ?_))
          refine thenQ_n ?_
          refine VC.sub [(0, _), (5, _), (7, _)] (.cons rfl (.cons rfl (.cons rfl .nil))) ?_
          refine VC.seq ?_
          refine VC.region ?_
          refine Ops.r (Run.mv rfl) rfl ?_
          refine Ops.m (Does.appFS (q := 10 :: finT) w.heap.size rfl rfl Tryd.underlying24 Tryd.underlying9 (info5) hO (by simp) hub K.size (by rw [show (10 :: finT : Tx).length = 21 from (by decide)]; omega)) rfl ?_
          rintro _ V3 ⟨A4, c4, rfl, hO4, hf4, hub4⟩
          have hl21 : (10 :: finT : Tx).length = 21 := by decide
          rw [← U8_app, made_eq, ← List.length_append, made_eq] at hO4
          have hml : (bjT ah (xsO ys)).length + (10 :: finT : Tx).length = (madeT ah (xsO ys)).length := by rw [← List.length_append, made_eq]
          rw [hml]
          have hW := hW.frm hf4 (fun y hy => by exact hO.ne_own hW (by decide) y hy)
          have K := Frm.own K hf4 hub
          have hxs : ∀ x ∈ xsO ys, ∃ t, x = 10 :: t ∧ ∀ c ∈ t, c ≠ 45 ∧ c ≠ 13 := fun x hx => by obtain ⟨y, _, rfl⟩ := List.mem_map.1 hx; exact xOf_ok _
          have hmp := made_parts ah (xsO ys) hah hxs (by omega)
          have hmi := fun (i : Nat) (hi : i < (xsO ys).length) => made_in ah (xsO ys) i hi hah
          have hxn : (xsO ys).length = ys.length := hxl
          have hxe : ∀ (i : Nat) (hi : i < (xsO ys).length), 1 ≤ (xsO ys)[i].length := fun i hi => by
            obtain ⟨t, ht, _⟩ := hxs _ (List.getElem_mem hi)
            rw [ht]
            simp
          have hnil : xsO ys = [] ↔ ys.length = 0 := by rw [← List.length_eq_zero_iff, hxn]
          generalize hS : madeT ah (xsO ys) = S at *
          generalize xsO ys = xs at *
          refine Ops.r (Run.asg rfl) rfl ?_
          refine Ops.nil ?_
          refine thenQ_n ?_
          refine VC.sub [(0, _), (5, _), (7, _)] (.cons rfl (.cons rfl (.cons rfl .nil))) ?_
          refine VC.seq ?_
          refine VC.region ?_
          refine Ops.r (Run.mv rfl) rfl ?_
          refine Ops.cl (Enters.fn (evs.cons rfl evs.nil) Tryd.call6) ((all_spec A4 c4 S _ hO4.rd (by omega) hO4.le)) rfl ?_
          rintro e V4 ⟨hf5, l, LA, lc, hm, rfl, hP, _, _⟩
          refine ⟨_, rfl, ?_⟩
          have hO4 := hO4.frm hf5 (by simp)
          have hW := hW.frm hf5 (by simp)
          have K := K.trans hf5 (by simp)
          rw [hmp] at hm
          have hll : l.length = ys.length + 1 := by
            have := congrArg List.length hm
            rw [List.length_map] at this
            rw [this, ← hxn]
            simp [madeP, mkS_len]
          obtain ⟨adP, rfl, _⟩ := PP_at hP.rd (k := 0) (by omega)
          have hp0 := fun {w' : World} (k : Frm [] V4 w') => PP_pick (hP.frm k (by simp)).rd 0 _ (by rw [hm]; rfl)
          refine Ops.r (Run.asg rfl) rfl ?_
          refine Ops.nil ?_
          refine thenQ_n ?_
          refine VC.sub [(0, _), (5, _), (7, _), (11, _)] (.cons rfl (.cons rfl (.cons rfl (.cons rfl .nil)))) ?_
          refine VC.seq ?_
          refine VC.seq ?_
          refine VC.region ?_
          refine Ops.r (Run.mv rfl) rfl ?_
          refine Ops.r (Run.lenS rfl Tryd.underlying23) rfl ?_
          refine Ops.r (Run.bin rfl rfl (Bin.eqlN _ 0)) rfl ?_
          refine Ops.nil ?_
          refine thenQ_n ?_
          refine VC.sub [(0, _), (5, _), (7, _), (11, _), (105, _)] (.cons rfl (.cons rfl (.cons rfl (.cons rfl (.cons rfl .nil))))) ?_
          refine VC.condD rfl (fun hc7 => ?_) (fun hc7 => ?_)
          · skip
            obtain ⟨y0, hp0⟩ := hp0 (Frm.refl _ _)
            rw [if_pos (hnil.2 (by omega))] at hp0
            refine VC.seq ?_
            refine VC.region ?_
            refine Ops.r (Run.mv rfl) rfl ?_
            refine Ops.r (Run.lenS rfl Tryd.underlying26) rfl ?_
            refine Ops.r (Run.bin rfl rfl (Bin.eqlN _ 1)) rfl ?_
            refine Ops.r (Run.mv rfl) rfl ?_
            refine Ops.rg rfl (by first | rfl | assumption | exact decide_eq_true (by assumption) | exact decide_eq_false (by assumption) | decide | (simp; done) | (simp; omega) | (simp [*]; done)) (Run.mv rfl) rfl ?_
            refine Ops.rg rfl (by first | rfl | assumption | exact decide_eq_true (by assumption) | exact decide_eq_false (by assumption) | decide | (simp; done) | (simp; omega) | (simp [*]; done)) (Run.indexS 0 rfl rfl Tryd.underlying26 Tryd.sizeOf32 (by omega)) rfl ?_
            refine Ops.rg rfl (by first | rfl | assumption | exact decide_eq_true (by assumption) | exact decide_eq_false (by assumption) | decide | (simp; done) | (simp; omega) | (simp [*]; done)) (Run.fieldAddr rfl Tryd.underlying32 rfl Tryd.sizeOf3 (by decide)) rfl ?_
            refine Ops.rg rfl (by first | rfl | assumption | exact decide_eq_true (by assumption) | exact decide_eq_false (by assumption) | decide | (simp; done) | (simp; omega) | (simp [*]; done)) (Run.load rfl Tryd.isAgg3 (hp0 0 (.int .i64 ((0 : Nat) : Int)) rfl)) rfl ?_
            refine Ops.rg rfl (by first | rfl | assumption | exact decide_eq_true (by assumption) | exact decide_eq_false (by assumption) | decide | (simp; done) | (simp; omega) | (simp [*]; done)) (Run.bin rfl rfl (Bin.eqlN _ 0)) rfl ?_
            refine Ops.r (Run.pickT rfl rfl (by first | rfl | assumption | exact decide_eq_true (by assumption) | exact decide_eq_false (by assumption) | decide | (simp; done) | (simp; omega) | (simp [*]; done))) rfl ?_
            refine Ops.r (Run.mv rfl) rfl ?_
            refine Ops.clg rfl (by first | rfl | assumption | exact decide_eq_true (by assumption) | exact decide_eq_false (by assumption) | decide | (simp; done) | (simp; omega) | (simp [*]; done)) (Enters.fn evs.nil Tryd.call5) ((awake20_spec _)) rfl ?_
            rintro e V5 ⟨rfl, hf6⟩
            refine ⟨_, rfl, ?_⟩
            have K := K.trans hf6 (by simp)
            refine Ops.r (Run.pickT rfl rfl (by first | rfl | assumption | exact decide_eq_true (by assumption) | exact decide_eq_false (by assumption) | decide | (simp; done) | (simp; omega) | (simp [*]; done))) rfl ?_
            refine Ops.r (Run.asg rfl) rfl ?_
            refine Ops.nil ?_
            refine thenQ_n ?_
            refine VC.sub [(4, _)] (.cons rfl .nil) ?_
            refine VC.ret ?_
            refine thenQ_r (end1 rfl ?_)
            exact ⟨rfl, K⟩
          · skip
            obtain ⟨y0, hp0⟩ := hp0 (Frm.refl _ _)
            rw [if_neg (fun h => hc7 (hnil.1 h))] at hp0
            refine VC.skip ?_
            refine thenQ_n ?_
            refine VC.sub [(0, _), (5, _), (7, _), (11, _)] (.cons rfl (.cons rfl (.cons rfl (.cons rfl .nil)))) ?_
            refine VC.seq ?_
            refine VC.seq ?_
            refine VC.region ?_
            refine Ops.r (Run.mv rfl) rfl ?_
            refine Ops.r (Run.lenS rfl Tryd.underlying26) rfl ?_
            refine Ops.r (Run.mv rfl) rfl ?_
            refine Ops.r (Run.lenS rfl Tryd.underlying23) rfl ?_
            refine Ops.r (Run.bin rfl rfl (Bin.add_i64 _ 1 (by omega))) rfl ?_
            refine Ops.r (Run.bin rfl rfl (Bin.neqN _ _)) rfl ?_
            refine Ops.r (Run.mv rfl) rfl ?_
            refine Ops.rg rfl (by first | rfl | assumption | exact decide_eq_true (by assumption) | exact decide_eq_false (by assumption) | decide | (simp; done) | (simp; omega) | (simp [*]; done)) (Run.mv rfl) rfl ?_
            refine Ops.rg rfl (by first | rfl | assumption | exact decide_eq_true (by assumption) | exact decide_eq_false (by assumption) | decide | (simp; done) | (simp; omega) | (simp [*]; done)) (Run.indexS 0 rfl rfl Tryd.underlying26 Tryd.sizeOf32 (by omega)) rfl ?_
            refine Ops.rg rfl (by first | rfl | assumption | exact decide_eq_true (by assumption) | exact decide_eq_false (by assumption) | decide | (simp; done) | (simp; omega) | (simp [*]; done)) (Run.fieldAddr rfl Tryd.underlying32 rfl Tryd.sizeOf3 (by decide)) rfl ?_
            refine Ops.rg rfl (by first | rfl | assumption | exact decide_eq_true (by assumption) | exact decide_eq_false (by assumption) | decide | (simp; done) | (simp; omega) | (simp [*]; done)) (Run.load rfl Tryd.isAgg3 (hp0 8 (.int .i64 ((xs.length : Nat) : Int)) rfl)) rfl ?_
            refine Ops.rg rfl (by first | rfl | assumption | exact decide_eq_true (by assumption) | exact decide_eq_false (by assumption) | decide | (simp; done) | (simp; omega) | (simp [*]; done)) (Run.mv rfl) rfl ?_
            refine Ops.rg rfl (by first | rfl | assumption | exact decide_eq_true (by assumption) | exact decide_eq_false (by assumption) | decide | (simp; done) | (simp; omega) | (simp [*]; done)) (Run.lenS rfl Tryd.underlying23) rfl ?_
            refine Ops.rg rfl (by first | rfl | assumption | exact decide_eq_true (by assumption) | exact decide_eq_false (by assumption) | decide | (simp; done) | (simp; omega) | (simp [*]; done)) (Run.bin rfl rfl (Bin.neqN _ _)) rfl ?_
            refine Ops.r (Run.pickF rfl rfl (by first | rfl | assumption | exact decide_eq_true (by assumption) | exact decide_eq_false (by assumption) | decide | (simp; done) | (simp; omega) | (simp [*]; done))) rfl ?_
            refine Ops.r (Run.mv rfl) rfl ?_
            refine Ops.rg rfl (by first | rfl | assumption | exact decide_eq_true (by assumption) | exact decide_eq_false (by assumption) | decide | (simp; done) | (simp; omega) | (simp [*]; done)) (Run.mv rfl) rfl ?_
            refine Ops.rg rfl (by first | rfl | assumption | exact decide_eq_true (by assumption) | exact decide_eq_false (by assumption) | decide | (simp; done) | (simp; omega) | (simp [*]; done)) (Run.indexS 0 rfl rfl Tryd.underlying26 Tryd.sizeOf32 (by omega)) rfl ?_
            refine Ops.rg rfl (by first | rfl | assumption | exact decide_eq_true (by assumption) | exact decide_eq_false (by assumption) | decide | (simp; done) | (simp; omega) | (simp [*]; done)) (Run.fieldAddr rfl Tryd.underlying32 rfl Tryd.sizeOf3 (by decide)) rfl ?_
            refine Ops.rg rfl (by first | rfl | assumption | exact decide_eq_true (by assumption) | exact decide_eq_false (by assumption) | decide | (simp; done) | (simp; omega) | (simp [*]; done)) (Run.load rfl Tryd.isAgg3 (hp0 0 (.int .i64 ((1 : Nat) : Int)) rfl)) rfl ?_
            refine Ops.rg rfl (by first | rfl | assumption | exact decide_eq_true (by assumption) | exact decide_eq_false (by assumption) | decide | (simp; done) | (simp; omega) | (simp [*]; done)) (Run.bin rfl rfl (Bin.neqN _ 1)) rfl ?_
            refine Ops.r (Run.pickF rfl rfl (by first | rfl | assumption | exact decide_eq_true (by assumption) | exact decide_eq_false (by assumption) | decide | (simp; done) | (simp; omega) | (simp [*]; done))) rfl ?_
            refine Ops.nil ?_
            refine thenQ_n ?_
            refine VC.sub [(0, _), (5, _), (7, _), (11, _), (140, _)] (.cons rfl (.cons rfl (.cons rfl (.cons rfl (.cons rfl .nil))))) ?_
            refine VC.condF rfl (decide_eq_false (by simp)) ?_
            refine VC.skip ?_
            refine thenQ_n ?_
            refine VC.sub [(0, _), (5, _), (7, _), (11, _)] (.cons rfl (.cons rfl (.cons rfl (.cons rfl .nil)))) ?_
            refine VC.seq ?_
            refine VC.seq ?_
            refine VC.region ?_
            refine Ops.r (v := .int .i64 ((0 : Nat) : Int)) (Run.asg rfl) rfl ?_
            refine Ops.nil ?_
            refine thenQ_n ?_
            refine VC.block ?_
            refine VC.loop (σ := Nat) (fun s => [(0, .slice A1 ys.length c1), (5, .slice A4 S.length c4), (7, .slice WA xs.length wc), (11, .slice (some adP) l.length lc), (12, .int .i64 ((s : Nat) : Int))]) (fun s wr => s ≤ ys.length ∧ Frm [] V4 wr) (fun s => ys.length - s) 0 (.cons rfl (.cons rfl (.cons rfl (.cons rfl (.cons rfl .nil))))) ⟨by omega, Frm.refl _ _⟩ ?_
            rintro i V5 ⟨hi, hV5⟩
            have K := K.trans hV5 (by simp)
            refine VC.seq ?_
            refine VC.seq ?_
            refine VC.region ?_
            refine Ops.r (Run.mv rfl) rfl ?_
            refine Ops.r (Run.mv rfl) rfl ?_
            refine Ops.r (Run.lenS rfl Tryd.underlying23) rfl ?_
            refine Ops.r (Run.bin rfl rfl (Bin.lssN _ _)) rfl ?_
            refine Ops.nil ?_
            refine thenQ_n ?_
            refine VC.sub [(0, _), (5, _), (7, _), (11, _), (12, _), (144, _)] (.cons rfl (.cons rfl (.cons rfl (.cons rfl (.cons rfl (.cons rfl .nil)))))) ?_
            refine VC.condD rfl (fun hc9 => ?_) (fun hc9 => ?_)
            · skip
              have hi9 : i < xs.length := by omega
              obtain ⟨pa, pb, hab, hsl, hb1, hb2⟩ := hmi i hi9
              have hxe1 := hxe i hi9
              obtain ⟨yi, hpi⟩ := PP_pick (hP.frm hV5 (by simp)).rd (i + 1) (leafP pa pb) (by rw [hm]; show (List.map _ _)[i]? = _; rw [List.getElem?_map, hab]; rfl)
              obtain ⟨adW, rfl, _⟩ := SB_at hW.rd hi9
              generalize hxi : xs[i] = xi at *
              refine VC.skip ?_
              refine thenQ_n ?_
              refine VC.sub [(0, _), (5, _), (7, _), (11, _), (12, _)] (.cons rfl (.cons rfl (.cons rfl (.cons rfl (.cons rfl .nil))))) ?_
              refine VC.seq ?_
              refine VC.block ?_
              refine VC.seq ?_
              refine VC.region ?_
              refine Ops.r (Run.mv rfl) rfl ?_
              refine Ops.r (Run.mv rfl) rfl ?_
              refine Ops.r (Run.bin rfl rfl (Bin.add_i64 _ 1 (by omega))) rfl ?_
              refine Ops.r (Run.indexS (i + 1) rfl rfl Tryd.underlying26 Tryd.sizeOf32 (by omega)) rfl ?_
              refine Ops.r (Run.loadA rfl Tryd.isAgg32 Tryd.sizeOf32 hpi (by first | rfl | (simp; done))) rfl ?_
              refine Ops.m (Does.alloc zero32) rfl ?_
              rintro _ V6 ⟨rfl, hF6⟩
              have hbq := hF6.blk
              have hV6 := hV5.trans hF6.frm (by simp)
              have hs6 := hV5.size
              generalize hgq : V5.heap.size = gq at hbq hs6 ⊢
              refine Ops.st (Acts.storeA rfl rfl Tryd.sizeOf32 hbq rfl (PP1_one (leafP pa pb, yi))) ?_
              rintro V7 ⟨hbqn, hf7, _⟩
              have hbq : Blk V7 gq 32 (PP1 (leafP pa pb, yi)).toArray := hbqn
              have hV7 := Frm.own hV6 hf7 (fun y hy => by simp at hy; omega)
              refine Ops.nil ?_
              refine thenQ_n ?_
              refine VC.sub [(0, _), (5, _), (7, _), (11, _), (12, _), (13, _)] (.cons rfl (.cons rfl (.cons rfl (.cons rfl (.cons rfl (.cons rfl .nil)))))) ?_
              refine VC.seq ?_
              refine VC.held (fun V => Frm [] V7 V) (by kernel_rfl) ?_
              have hS := (Frm.refl [] V7).drew
              have hV8 := hV7.drew
              have K := K
              have hOS : ∀ {w0 : World}, Frm [] V7 w0 → Rd w0 1 A4 S.length (U8 S) := fun k => (hO4.frm (hV7.trans k (by simp)) (by simp)).rd
              have hWS : ∀ {w0 : World}, Frm [] V7 w0 → w0.cell? (adW.add i) = some (encStr xi) := fun k => by rw [← hxi]; exact SB_get (hW.frm (hV7.trans k (by simp)) (by simp)).rd hi9
              refine HOps.take 0 rfl (by kernel_rfl) (by kernel_rfl) (by kernel_rfl) hS (fun w0 hw0 => Run.mv rfl) trivial rfl rfl ?_
              refine HOps.take 1 rfl (by kernel_rfl) (by kernel_rfl) (by kernel_rfl) hS (fun w0 hw0 => Run.fieldAddr rfl Tryd.underlying32 rfl Tryd.sizeOf3 (by decide)) trivial rfl rfl ?_
              refine HOps.take 2 rfl (by kernel_rfl) (by kernel_rfl) (by kernel_rfl) hS (fun w0 hw0 => Run.load rfl Tryd.isAgg3 ((hbq.frm hw0 (by simp)).cell 1)) trivial rfl rfl ?_
              refine HOps.take 3 rfl (by kernel_rfl) (by kernel_rfl) (by kernel_rfl) hS (fun w0 hw0 => Run.fieldAddr rfl Tryd.underlying32 rfl Tryd.sizeOf3 (by decide)) trivial rfl rfl ?_
              refine HOps.take 4 rfl (by kernel_rfl) (by kernel_rfl) (by kernel_rfl) hS (fun w0 hw0 => Run.load rfl Tryd.isAgg3 ((hbq.frm hw0 (by simp)).cell 3)) trivial rfl rfl ?_
              refine HOps.take 5 rfl (by kernel_rfl) (by kernel_rfl) (by kernel_rfl) hS (fun w0 hw0 => Run.sliceS pa pb rfl Tryd.underlying24 Tryd.sizeOf5 (evB.some_ rfl) (evB.some_ rfl) (by omega) (by have := hO4.le; omega)) trivial rfl rfl ?_
              refine HOps.take 6 rfl (by kernel_rfl) (by kernel_rfl) (by kernel_rfl) hS (fun w0 hw0 => Run.strOfT rfl Tryd.underlying24 Tryd.underlying5 Tryd.underlying9 (U8_cutN (hOS hw0) (a := pa) (b := pb) (by omega) hb2 hO4.le)) trivial rfl rfl ?_
              refine HOps.take 7 rfl (by kernel_rfl) (by kernel_rfl) (by kernel_rfl) hS (fun w0 hw0 => Run.mv rfl) trivial rfl rfl ?_
              refine HOps.take 8 rfl (by kernel_rfl) (by kernel_rfl) (by kernel_rfl) hS (fun w0 hw0 => Run.mv rfl) trivial rfl rfl ?_
              refine HOps.take 9 rfl (by kernel_rfl) (by kernel_rfl) (by kernel_rfl) hS (fun w0 hw0 => Run.indexS i rfl rfl Tryd.underlying25 Tryd.sizeOf9 hi9) trivial rfl rfl ?_
              refine HOps.take 10 rfl (by kernel_rfl) (by kernel_rfl) (by kernel_rfl) hS (fun w0 hw0 => Run.load rfl Tryd.isAgg9 (at1 (hWS hw0))) trivial rfl rfl ?_
              refine HOps.take 11 rfl (by kernel_rfl) (by kernel_rfl) (by kernel_rfl) hS (fun w0 hw0 => Run.neqT rfl rfl) trivial rfl rfl ?_
              refine HOps.take 12 rfl (by kernel_rfl) (by kernel_rfl) (by kernel_rfl) hS (fun w0 hw0 => Run.mv rfl) trivial rfl rfl ?_
              refine HOps.take 13 rfl (by kernel_rfl) (by kernel_rfl) (by kernel_rfl) hS (fun w0 hw0 => Run.fieldAddr rfl Tryd.underlying32 rfl Tryd.sizeOf3 (by decide)) (Up.g rfl (by first | rfl | assumption | exact decide_eq_true (by assumption) | exact decide_eq_false (by assumption) | decide | (simp; done) | (simp; omega) | (simp [*]; done))) rfl rfl ?_
              refine HOps.take 14 rfl (by kernel_rfl) (by kernel_rfl) (by kernel_rfl) hS (fun w0 hw0 => Run.load rfl Tryd.isAgg3 ((hbq.frm hw0 (by simp)).cell 7)) (Up.g rfl (by first | rfl | assumption | exact decide_eq_true (by assumption) | exact decide_eq_false (by assumption) | decide | (simp; done) | (simp; omega) | (simp [*]; done))) rfl rfl ?_
              refine HOps.take 15 rfl (by kernel_rfl) (by kernel_rfl) (by kernel_rfl) hS (fun w0 hw0 => Run.bin rfl rfl (Bin.neq _ 0)) (Up.g rfl (by first | rfl | assumption | exact decide_eq_true (by assumption) | exact decide_eq_false (by assumption) | decide | (simp; done) | (simp; omega) | (simp [*]; done))) rfl rfl ?_
              refine HOps.take 16 rfl (by kernel_rfl) (by kernel_rfl) (by kernel_rfl) hS (fun w0 hw0 => Run.pickF rfl rfl (by first | rfl | assumption | exact decide_eq_true (by assumption) | exact decide_eq_false (by assumption) | decide | (simp; done) | (simp; omega) | (simp [*]; done))) trivial rfl rfl ?_
              refine HOps.take 17 rfl (by kernel_rfl) (by kernel_rfl) (by kernel_rfl) hS (fun w0 hw0 => Run.mv rfl) trivial rfl rfl ?_
              refine HOps.take 18 rfl (by kernel_rfl) (by kernel_rfl) (by kernel_rfl) hS (fun w0 hw0 => Run.fieldAddr rfl Tryd.underlying32 rfl Tryd.sizeOf3 (by decide)) (Up.g rfl (by first | rfl | assumption | exact decide_eq_true (by assumption) | exact decide_eq_false (by assumption) | decide | (simp; done) | (simp; omega) | (simp [*]; done))) rfl rfl ?_
              refine HOps.take 19 rfl (by kernel_rfl) (by kernel_rfl) (by kernel_rfl) hS (fun w0 hw0 => Run.load rfl Tryd.isAgg3 ((hbq.frm hw0 (by simp)).cell 0)) (Up.g rfl (by first | rfl | assumption | exact decide_eq_true (by assumption) | exact decide_eq_false (by assumption) | decide | (simp; done) | (simp; omega) | (simp [*]; done))) rfl rfl ?_
              refine HOps.take 20 rfl (by kernel_rfl) (by kernel_rfl) (by kernel_rfl) hS (fun w0 hw0 => Run.bin rfl rfl (Bin.neqN _ 0)) (Up.g rfl (by first | rfl | assumption | exact decide_eq_true (by assumption) | exact decide_eq_false (by assumption) | decide | (simp; done) | (simp; omega) | (simp [*]; done))) rfl rfl ?_
              refine HOps.take 21 rfl (by kernel_rfl) (by kernel_rfl) (by kernel_rfl) hS (fun w0 hw0 => Run.pickF rfl rfl (by first | rfl | assumption | exact decide_eq_true (by assumption) | exact decide_eq_false (by assumption) | decide | (simp; done) | (simp; omega) | (simp [*]; done))) trivial rfl rfl ?_
              refine HOps.take 22 rfl (by kernel_rfl) (by kernel_rfl) (by kernel_rfl) hS (fun w0 hw0 => Run.mv rfl) trivial rfl rfl ?_
              refine HOps.take 23 rfl (by kernel_rfl) (by kernel_rfl) (by kernel_rfl) hS (fun w0 hw0 => Run.mv rfl) (Up.g rfl (by first | rfl | assumption | exact decide_eq_true (by assumption) | exact decide_eq_false (by assumption) | decide | (simp; done) | (simp; omega) | (simp [*]; done))) rfl rfl ?_
              refine HOps.take 24 rfl (by kernel_rfl) (by kernel_rfl) (by kernel_rfl) hS (fun w0 hw0 => Run.fieldAddr rfl Tryd.underlying32 rfl Tryd.sizeOf3 (by decide)) (Up.g rfl (by first | rfl | assumption | exact decide_eq_true (by assumption) | exact decide_eq_false (by assumption) | decide | (simp; done) | (simp; omega) | (simp [*]; done))) rfl rfl ?_
              refine HOps.take 25 rfl (by kernel_rfl) (by kernel_rfl) (by kernel_rfl) hS (fun w0 hw0 => Run.load rfl Tryd.isAgg3 ((hbq.frm hw0 (by simp)).cell 2)) (Up.g rfl (by first | rfl | assumption | exact decide_eq_true (by assumption) | exact decide_eq_false (by assumption) | decide | (simp; done) | (simp; omega) | (simp [*]; done))) rfl rfl ?_
              refine HOps.take 26 rfl (by kernel_rfl) (by kernel_rfl) (by kernel_rfl) hS (fun w0 hw0 => Run.fieldAddr rfl Tryd.underlying32 rfl Tryd.sizeOf3 (by decide)) (Up.g rfl (by first | rfl | assumption | exact decide_eq_true (by assumption) | exact decide_eq_false (by assumption) | decide | (simp; done) | (simp; omega) | (simp [*]; done))) rfl rfl ?_
              refine HOps.take 27 rfl (by kernel_rfl) (by kernel_rfl) (by kernel_rfl) hS (fun w0 hw0 => Run.load rfl Tryd.isAgg3 ((hbq.frm hw0 (by simp)).cell 3)) (Up.g rfl (by first | rfl | assumption | exact decide_eq_true (by assumption) | exact decide_eq_false (by assumption) | decide | (simp; done) | (simp; omega) | (simp [*]; done))) rfl rfl ?_
              refine HOps.take 28 rfl (by kernel_rfl) (by kernel_rfl) (by kernel_rfl) hS (fun w0 hw0 => Run.sliceS (pa + 1) pb rfl Tryd.underlying24 Tryd.sizeOf5 (evB.some_ rfl) (evB.some_ rfl) (by omega) (by have := hO4.le; omega)) (Up.g rfl (by first | rfl | assumption | exact decide_eq_true (by assumption) | exact decide_eq_false (by assumption) | decide | (simp; done) | (simp; omega) | (simp [*]; done))) rfl rfl ?_
              refine HOps.take 29 rfl (by kernel_rfl) (by kernel_rfl) (by kernel_rfl) hS (fun w0 hw0 => Run.strOfT rfl Tryd.underlying24 Tryd.underlying5 Tryd.underlying9 (U8_cutN (hOS hw0) (a := pa + 1) (b := pb) (by omega) hb2 hO4.le)) (Up.g rfl (by first | rfl | assumption | exact decide_eq_true (by assumption) | exact decide_eq_false (by assumption) | decide | (simp; done) | (simp; omega) | (simp [*]; done))) rfl rfl ?_
              refine HOps.take 30 rfl (by kernel_rfl) (by kernel_rfl) (by kernel_rfl) hS (fun w0 hw0 => Run.mv rfl) (Up.g rfl (by first | rfl | assumption | exact decide_eq_true (by assumption) | exact decide_eq_false (by assumption) | decide | (simp; done) | (simp; omega) | (simp [*]; done))) rfl rfl ?_
              refine HOps.take 31 rfl (by kernel_rfl) (by kernel_rfl) (by kernel_rfl) hS (fun w0 hw0 => Run.mv rfl) (Up.g rfl (by first | rfl | assumption | exact decide_eq_true (by assumption) | exact decide_eq_false (by assumption) | decide | (simp; done) | (simp; omega) | (simp [*]; done))) rfl rfl ?_
              refine HOps.take 32 rfl (by kernel_rfl) (by kernel_rfl) (by kernel_rfl) hS (fun w0 hw0 => Run.indexS i rfl rfl Tryd.underlying25 Tryd.sizeOf9 hi9) (Up.g rfl (by first | rfl | assumption | exact decide_eq_true (by assumption) | exact decide_eq_false (by assumption) | decide | (simp; done) | (simp; omega) | (simp [*]; done))) rfl rfl ?_
              refine HOps.take 33 rfl (by kernel_rfl) (by kernel_rfl) (by kernel_rfl) hS (fun w0 hw0 => Run.load rfl Tryd.isAgg9 (at1 (hWS hw0))) (Up.g rfl (by first | rfl | assumption | exact decide_eq_true (by assumption) | exact decide_eq_false (by assumption) | decide | (simp; done) | (simp; omega) | (simp [*]; done))) rfl rfl ?_
              refine HOps.take 34 rfl (by kernel_rfl) (by kernel_rfl) (by kernel_rfl) hS (fun w0 hw0 => Run.sliceT 1 xi.length rfl Tryd.underlying9 (evB.some_ rfl) evB.none_ (by omega) (by omega)) (Up.g rfl (by first | rfl | assumption | exact decide_eq_true (by assumption) | exact decide_eq_false (by assumption) | decide | (simp; done) | (simp; omega) | (simp [*]; done))) rfl rfl ?_
              refine HOps.take 35 rfl (by kernel_rfl) (by kernel_rfl) (by kernel_rfl) hS (fun w0 hw0 => Run.neqT rfl rfl) (Up.g rfl (by first | rfl | assumption | exact decide_eq_true (by assumption) | exact decide_eq_false (by assumption) | decide | (simp; done) | (simp; omega) | (simp [*]; done))) rfl rfl ?_
              refine HOps.take 36 rfl (by kernel_rfl) (by kernel_rfl) (by kernel_rfl) hS (fun w0 hw0 => Run.pickF rfl rfl (by first | rfl | assumption | exact decide_eq_true (by assumption) | exact decide_eq_false (by assumption) | decide | (simp; done) | (simp; omega) | (simp [*]; done))) trivial rfl rfl ?_
              refine HOps.done (by kernel_rfl) ?_
              refine thenQ_n ?_
              refine VC.sub [(0, _), (5, _), (7, _), (11, _), (12, _), (188, _)] (.cons rfl (.cons rfl (.cons rfl (.cons rfl (.cons rfl (.cons rfl .nil)))))) ?_
              refine VC.condF rfl (decide_eq_false (by rw [slice_tail hsl]; simp [List.take_of_length_le])) ?_
              refine VC.skip ?_
              refine blockQ_n (thenQ_n ?_)
              refine VC.sub [(0, _), (5, _), (7, _), (11, _), (12, _)] (.cons rfl (.cons rfl (.cons rfl (.cons rfl (.cons rfl .nil))))) ?_
              refine VC.region ?_
              refine Ops.r (Run.mv rfl) rfl ?_
              refine Ops.r (Run.bin rfl rfl (Bin.add_i64 _ 1 (by omega))) rfl ?_
              refine Ops.r (Run.asg rfl) rfl ?_
              refine Ops.nil ?_
              refine thenQ_n ⟨(i + 1), (.cons rfl (.cons rfl (.cons rfl (.cons rfl (.cons rfl .nil))))), ?_, ?_⟩
              · skip
                exact ⟨by omega, hV8⟩
              · skip
                first | omega | (dsimp only; omega)
            · skip
              refine VC.exit ?_
              refine thenQ_x (thenQ_x (blockQ_x ?_))
              refine thenQ_n ?_
              refine VC.sub [] .nil ?_
              refine VC.seq ?_
              refine VC.region ?_
              refine Ops.cl (Enters.fn evs.nil Tryd.call5) ((awake20_spec _)) rfl ?_
              rintro e V7 ⟨rfl, hf6⟩
              refine ⟨_, rfl, ?_⟩
              have K := K.trans hf6 (by simp)
              refine Ops.r (Run.asg rfl) rfl ?_
              refine Ops.nil ?_
              refine thenQ_n ?_
              refine VC.sub [(4, _)] (.cons rfl .nil) ?_
              refine VC.ret ?_
              refine end1 rfl ?_
              exact ⟨rfl, K⟩

theorem NB_U8 (xs : List Nat) (h : ∀ x ∈ xs, x < 256) : NB xs = U8 (xs.map UInt8.ofNat) := by
  simp only [NB, U8, List.map_map]
  apply List.map_congr_left
  intro x hx
  have := h x hx
  simp
  omega
def toY (y : Option Addr × Nat × List Nat) : Option Addr × Nat × Tx := (y.1, y.2.1, y.2.2.map UInt8.ofNat)
theorem toY_map (ls : List (Option Addr × Nat × List Nat)) : (ls.map toY).map SLT = ls.map SL := by
  rw [List.map_map]
  apply List.map_congr_left
  intro y _
  show Value.slice y.1 (y.2.2.map UInt8.ofNat).length y.2.1 = Value.slice y.1 y.2.2.length y.2.1
  rw [List.length_map]
theorem made_walk2 (A B : Option Addr) (c d : Nat) (ls : List (Option Addr × Nat × List Nat)) (bs : List Nat) (w : World) (hc : ls.length ≤ c) (hl : Rd w 1 A ls.length (ls.map SL)) (hel : ∀ y ∈ ls, y.2.2.length ≤ y.2.1 ∧ (∀ b ∈ y.2.2, b < 256) ∧ Rd w 1 y.1 y.2.2.length (NB y.2.2)) (hd : bs.length ≤ d) (hv : Rd w 1 B bs.length (NB bs)) (hb : ∀ b ∈ bs, b < 256) :
    Calls Tryd.prog 4 #[.slice A ls.length c, .slice B bs.length d] w fun e w' => e = .returned (.bool true) ∧ Frm [] w w' := by
  have h := made_walk A B c d (ls.map toY) (bs.map UInt8.ofNat) w (by rw [List.length_map]; exact hc) (by rw [List.length_map, toY_map]; exact hl) (fun y hy => by
    obtain ⟨z, hz, rfl⟩ := List.mem_map.1 hy
    obtain ⟨h1, h2, h3⟩ := hel z hz
    refine ⟨by show (z.2.2.map UInt8.ofNat).length ≤ z.2.1; rw [List.length_map]; exact h1, ?_⟩
    show Rd w 1 z.1 (z.2.2.map UInt8.ofNat).length (U8 (z.2.2.map UInt8.ofNat))
    rw [List.length_map, ← NB_U8 _ h2]
    exact h3) (by rw [List.length_map]; exact hd) (by rw [List.length_map, ← NB_U8 _ hb]; exact hv)
  rw [List.length_map, List.length_map] at h
  exact h

end Go.Proofs.YtenbjndldenkfaaDoor
