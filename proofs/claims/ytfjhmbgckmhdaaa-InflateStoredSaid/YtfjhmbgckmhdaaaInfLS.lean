/-
  The law 'InflateStored' of layer 12: octets as they are, in blocks cut anywhere. No condition.
-/
import Derived.Test.YtfjhmbgckmhdaaaInfLF
namespace Go.Proofs.Ytfjhmbgckmhdaaa
open Go.RowKit

/-- The blocks that the law makes, and their octets, behind i rounds. -/
def Bf (R : List (List Nat)) (z : List Nat) (i : Nat) : List Nat := if i ≤ R.length then encF (R.take i) else encAll R z
def Af (R : List (List Nat)) (z : List Nat) (i : Nat) : List Nat := if i ≤ R.length then (R.take i).flatten else R.flatten ++ z
def Xf (R : List (List Nat)) (z : List Nat) (i : Nat) : List Nat := if h : i < R.length then R[i] else z
def Hf (R : List (List Nat)) (i : Nat) : Nat := if i < R.length then 0 else 1
theorem Bf_step {R : List (List Nat)} {z : List Nat} {i : Nat} (hi : i ≤ R.length) : Bf R z (i + 1) = Bf R z i ++ encB (Hf R i) (Xf R z i) := by
  unfold Bf Xf Hf
  rw [if_pos hi]
  by_cases h : i < R.length
  · have e : R.take (i + 1) = R.take i ++ [R[i]] := by rw [List.take_add_one, List.getElem?_eq_getElem h]; rfl
    rw [if_pos (by omega), if_pos h, dif_pos h, e]
    simp only [encF, List.flatMap_append, List.flatMap_cons, List.flatMap_nil, List.append_nil]
  · have : i = R.length := by omega
    subst this
    rw [if_neg (by omega), if_neg h, dif_neg h, List.take_length, encAll_eq]
theorem Af_step {R : List (List Nat)} {z : List Nat} {i : Nat} (hi : i ≤ R.length) : Af R z (i + 1) = Af R z i ++ Xf R z i := by
  unfold Af Xf
  rw [if_pos hi]
  by_cases h : i < R.length
  · have e : R.take (i + 1) = R.take i ++ [R[i]] := by rw [List.take_add_one, List.getElem?_eq_getElem h]; rfl
    rw [if_pos (by omega), dif_pos h, e]
    simp only [List.flatten_append, List.flatten_cons, List.flatten_nil, List.append_nil]
  · have : i = R.length := by omega
    subst this
    rw [if_neg (by omega), dif_neg h, List.take_length]
theorem Xf_le {R : List (List Nat)} {z : List Nat} (hR : ∀ x ∈ R, x.length ≤ 400 ∧ ∀ b ∈ x, b < 256) (hz : z.length ≤ 400 ∧ ∀ b ∈ z, b < 256) (i : Nat) : (Xf R z i).length ≤ 400 ∧ ∀ b ∈ Xf R z i, b < 256 := by
  unfold Xf
  split
  · exact hR _ (List.getElem_mem _)
  · exact hz
theorem BA_le {R : List (List Nat)} {z : List Nat} (hR : ∀ x ∈ R, x.length ≤ 400 ∧ ∀ b ∈ x, b < 256) (hz : z.length ≤ 400 ∧ ∀ b ∈ z, b < 256) : ∀ i, i ≤ R.length + 1 →
    (Bf R z i).length ≤ 405 * i ∧ (Af R z i).length ≤ 400 * i ∧ (∀ b ∈ Bf R z i, b < 256) ∧ ∀ b ∈ Af R z i, b < 256
  | 0, _ => by simp [Bf, Af, encF]
  | i + 1, hi => by
    obtain ⟨h1, h2, h3, h4⟩ := BA_le hR hz i (by omega)
    obtain ⟨h5, h6⟩ := Xf_le hR hz i
    rw [Bf_step (by omega), Af_step (by omega)]
    have hH : Hf R i < 2 := by unfold Hf; split <;> omega
    refine ⟨by simp only [encB, List.length_append, List.length_cons, List.length_nil]; omega, by simp only [List.length_append]; omega, fun b hb => ?_, fun b hb => ?_⟩
    · rcases List.mem_append.1 hb with h | h
      · exact h3 b h
      · rcases List.mem_append.1 h with h | h
        · simp only [List.mem_cons, List.not_mem_nil, or_false] at h
          omega
        · exact h6 b h
    · rcases List.mem_append.1 hb with h | h
      · exact h4 b h
      · exact h6 b h

set_option maxRecDepth 100000 in
theorem few12_old (A : Option Addr) (c0 : Nat) (l : List Nat) (w0 w : World) (hc : l.length ≤ c0) (hr : Rd w0 1 A l.length (NB l)) :
    Calls Try.prog 8 #[.slice A l.length c0] w fun e w' => (∃ B c, e = .returned (.slice B (l.take 400).length c) ∧ (l.take 400).length ≤ c ∧ Rd w0 1 B (l.take 400).length (NB (l.take 400))) ∧ w = w' := by
  refine VC.calls (nt := 9) (res := #[.tmp 2]) Try.func8 rfl Try.ntmps8 Try.results8 rfl ?_
  refine VC.seq ?_
  refine VC.region ?_
  refine Ops.r (Run.asg rfl) rfl ?_
  refine Ops.nil ?_
  refine thenQ_n ?_
  refine VC.sub [(0, _)] (.cons rfl .nil) ?_
  refine VC.seq ?_
  refine VC.seq ?_
  refine VC.region ?_
  refine Ops.r (Run.mv rfl) rfl ?_
  refine Ops.r (Run.lenS rfl Try.underlying22) rfl ?_
  refine Ops.r (Run.bin rfl rfl (Bin.gtrN _ 400)) rfl ?_
  refine Ops.nil ?_
  refine thenQ_n ?_
  refine VC.sub [(0, _), (5, _)] (.cons rfl (.cons rfl .nil)) ?_
  refine VC.condD rfl (fun hc1 => ?_) (fun hc1 => ?_)
  · skip
    refine VC.seq ?_
    refine VC.region ?_
    refine Ops.r (Run.mv rfl) rfl ?_
    refine Ops.r (Run.sliceS 0 400 rfl Try.underlying22 Try.sizeOf5 evB.none_ (evB.some_ rfl) (by omega) (by omega)) rfl ?_
    refine Ops.r (Run.asg rfl) rfl ?_
    refine Ops.nil ?_
    refine thenQ_n ?_
    refine VC.sub [(2, _)] (.cons rfl .nil) ?_
    refine VC.ret ?_
    refine thenQ_r (end1 rfl ?_)
    refine ⟨⟨cutA A c0 0 1, c0 - 0, ?_, ?_, few_cut 400 hr hc (by omega)⟩, rfl⟩
    · rw [show (l.take 400).length = 400 - 0 from by simp; omega]
    · simp; omega
  · skip
    refine VC.skip ?_
    refine thenQ_n ?_
    refine VC.sub [(0, _)] (.cons rfl .nil) ?_
    refine VC.seq ?_
    refine VC.region ?_
    refine Ops.r (Run.mv rfl) rfl ?_
    refine Ops.r (Run.asg rfl) rfl ?_
    refine Ops.nil ?_
    refine thenQ_n ?_
    refine VC.sub [(2, _)] (.cons rfl .nil) ?_
    refine VC.ret ?_
    refine end1 rfl ?_
    rw [List.take_of_length_le (by omega)]
    exact ⟨⟨A, c0, rfl, hc, hr⟩, rfl⟩

set_option maxRecDepth 100000 in
theorem stored_walk (A : Option Addr) (nl cl : Nat) (ls : List (Option Addr × Nat × List Nat)) (C : Option Addr) (cn cc : Nat) (cs : List Nat) (w : World) (hnl : ls.length = nl) (hncl : nl ≤ 9223372036854775807) (hl : Rd w 1 A nl (ls.map SL))
    (hel : ∀ y ∈ ls, y.2.2.length ≤ y.2.1 ∧ (∀ b ∈ y.2.2, b < 256) ∧ Rd w 1 y.1 y.2.2.length (NB y.2.2)) (hcn : cs.length = cn) (hcc : cn ≤ cc) (hcb : ∀ b ∈ cs, b < 256) (hrc : Rd w 1 C cn (NB cs)) :
    Calls Try.prog 5 #[.slice A nl cl, .slice C cn cc] w fun e w' => e = .returned (.bool true) ∧ Frm [] w w' := by
  subst hnl
  subst hcn
  obtain ⟨R, hR⟩ : ∃ R, R = (ls.take 8).map fun y => y.2.2.take 400 := ⟨_, rfl⟩
  obtain ⟨z, hz⟩ : ∃ z, z = cs.take 400 := ⟨_, rfl⟩
  have hK : R.length = min 8 ls.length := by rw [hR]; simp
  have hR4 : ∀ x ∈ R, x.length ≤ 400 ∧ ∀ b ∈ x, b < 256 := by
    intro x hx
    rw [hR] at hx
    obtain ⟨y, hy, rfl⟩ := List.mem_map.1 hx
    exact ⟨by simp; omega, fun b hb => (hel y (List.mem_of_mem_take hy)).2.1 b (List.mem_of_mem_take hb)⟩
  have hz4 : z.length ≤ 400 ∧ ∀ b ∈ z, b < 256 := by
    rw [hz]
    exact ⟨by simp; omega, fun b hb => hcb b (List.mem_of_mem_take hb)⟩
  refine VC.calls (nt := 90) (res := #[.tmp 4]) Try.func5 rfl Try.ntmps5 Try.results5 rfl ?_
  refine VC.seq ?_
  refine VC.region ?_
  refine Ops.r (Run.asg rfl) rfl ?_
  refine Ops.nil ?_
  refine thenQ_n ?_
  refine VC.sub [(0, _), (1, _)] (.cons rfl (.cons rfl .nil)) ?_
  refine VC.seq ?_
  refine VC.region ?_
  refine Ops.r (Run.asg rfl) rfl ?_
  refine Ops.nil ?_
  refine thenQ_n ?_
  refine VC.seq ?_
  refine VC.region ?_
  refine Ops.r (Run.asg rfl) rfl ?_
  refine Ops.nil ?_
  refine thenQ_n ?_
  refine VC.seq ?_
  refine VC.seq ?_
  refine VC.region ?_
  refine Ops.r (v := .int .i64 ((0 : Nat) : Int)) (Run.asg rfl) rfl ?_
  refine Ops.nil ?_
  refine thenQ_n ?_
  refine VC.block ?_
  refine VC.loop (σ := Nat × Option Addr × Nat) (fun s => [(0, _), (1, _), (5, .slice s.2.1 (Bf R z s.1).length s.2.2), (6, .string (strB (Af R z s.1))), (7, .int .i64 ((s.1 : Nat) : Int))]) (fun s wr => s.1 ≤ R.length + 1 ∧ Own wr 5 1 s.2.1 (Bf R z s.1).length s.2.2 (NB (Bf R z s.1)) ∧ (∀ x ∈ ob s.2.1, w.heap.size ≤ x) ∧ Frm [] w wr) (fun s => R.length + 2 - s.1) (0, none, 0) (.cons rfl (.cons rfl (.cons (by simp [Bf, encF]; rfl) (.cons rfl (.cons rfl .nil))))) ⟨by omega, by simpa [Bf, encF, NB] using Own.nil w 5 1, by simp [ob], Frm.refl _ _⟩ ?_
  rintro ⟨i, A5, c5⟩ wr ⟨hi, hown, hge, hfr⟩
  dsimp only at hi hown hge ⊢
  obtain ⟨hbl, hal, hb256, ha256⟩ := BA_le hR4 hz4 i hi
  refine VC.seq ?_
  refine VC.seq ?_
  refine VC.split1 [(0, _), (1, _), (5, _), (6, _), (7, _)] (.cons rfl (.cons rfl (.cons rfl (.cons rfl (.cons rfl .nil))))) 21 (.bool (decide ((i ≤ ls.length) ∧ (i ≤ 8)))) ?_ ?_
  · by_cases hs0 : i ≤ ls.length
    · skip
      refine VC.region ?_
      refine Ops.r (Run.mv rfl) rfl ?_
      refine Ops.r (Run.mv rfl) rfl ?_
      refine Ops.r (Run.lenS rfl Try.underlying33) rfl ?_
      refine Ops.r (Run.bin rfl rfl (Bin.leqN _ _)) rfl ?_
      refine Ops.r (Run.mv rfl) rfl ?_
      refine Ops.rg rfl (by first | rfl | assumption | exact decide_eq_true (by assumption) | exact decide_eq_false (by assumption) | decide | (simp; done) | (simp; omega) | (simp [*]; done)) (Run.mv rfl) rfl ?_
      refine Ops.rg rfl (by first | rfl | assumption | exact decide_eq_true (by assumption) | exact decide_eq_false (by assumption) | decide | (simp; done) | (simp; omega) | (simp [*]; done)) (Run.bin rfl rfl (Bin.leqN _ 8)) rfl ?_
      refine Ops.r (Run.pickT rfl rfl (by first | rfl | assumption | exact decide_eq_true (by assumption) | exact decide_eq_false (by assumption) | decide | (simp; done) | (simp; omega) | (simp [*]; done))) rfl ?_
      refine Ops.nil ?_
      refine thenQ_n ⟨(.cons (by rw [dand1 hs0]; rfl) (.cons rfl (.cons rfl (.cons rfl (.cons rfl (.cons rfl .nil)))))), rfl⟩
    · skip
      refine VC.region ?_
      refine Ops.r (Run.mv rfl) rfl ?_
      refine Ops.r (Run.mv rfl) rfl ?_
      refine Ops.r (Run.lenS rfl Try.underlying33) rfl ?_
      refine Ops.r (Run.bin rfl rfl (Bin.leqN _ _)) rfl ?_
      refine Ops.r (Run.mv rfl) rfl ?_
      refine Ops.sk rfl (by first | rfl | assumption | exact decide_eq_true (by assumption) | exact decide_eq_false (by assumption) | decide | (simp; done) | (simp; omega) | (simp [*]; done)) rfl ?_
      refine Ops.sk rfl (by first | rfl | assumption | exact decide_eq_true (by assumption) | exact decide_eq_false (by assumption) | decide | (simp; done) | (simp; omega) | (simp [*]; done)) rfl ?_
      refine Ops.r (Run.pickF rfl rfl (by first | rfl | assumption | exact decide_eq_true (by assumption) | exact decide_eq_false (by assumption) | decide | (simp; done) | (simp; omega) | (simp [*]; done))) rfl ?_
      refine Ops.nil ?_
      refine thenQ_n ⟨(.cons (by rw [dand0 hs0]; rfl) (.cons rfl (.cons rfl (.cons rfl (.cons rfl (.cons rfl .nil)))))), rfl⟩
  · intro Γ hΓ
    refine thenQ_n (VC.sub _ hΓ ?_)
    refine VC.condD rfl (fun hc1 => ?_) (fun hc1 => ?_)
    · skip
      have hiK : i ≤ R.length := by omega
      have hXl := Xf_le hR4 hz4 i
      refine VC.skip ?_
      refine thenQ_n ?_
      refine VC.sub [(0, _), (1, _), (5, _), (6, _), (7, _)] (.cons rfl (.cons rfl (.cons rfl (.cons rfl (.cons rfl .nil))))) ?_
      refine VC.seq ?_
      refine VC.block ?_
      refine VC.seq ?_
      refine VC.region ?_
      refine Ops.r (Run.mv rfl) rfl ?_
      refine Ops.cl (Enters.fn (evs.cons rfl evs.nil) Try.call8) (few12_old C cc cs w _ hcc hrc) rfl ?_
      rintro e _ ⟨⟨C1, cc1, rfl, hcc1, hrc1⟩, rfl⟩
      rw [← hz] at hcc1 hrc1 ⊢
      refine ⟨_, rfl, ?_⟩
      refine Ops.r (Run.asg rfl) rfl ?_
      refine Ops.nil ?_
      refine thenQ_n ?_
      refine VC.sub [(0, _), (1, _), (5, _), (6, _), (7, _), (8, _)] (.cons rfl (.cons rfl (.cons rfl (.cons rfl (.cons rfl (.cons rfl .nil)))))) ?_
      refine VC.seq ?_
      refine VC.region ?_
      refine Ops.r (v := .int .u8 ((1 : Nat) : Int)) (Run.asg rfl) rfl ?_
      refine Ops.nil ?_
      refine thenQ_n ?_
      refine VC.seq ?_
      refine VC.seq ?_
      refine VC.split1 [(0, _), (1, _), (5, _), (6, _), (7, _), (8, _), (9, _)] (.cons rfl (.cons rfl (.cons rfl (.cons rfl (.cons rfl (.cons rfl (.cons rfl .nil))))))) 33 (.bool (decide ((i < ls.length) ∧ (i < 8)))) ?_ ?_
      · by_cases hs0 : i < ls.length
        · skip
          refine VC.region ?_
          refine Ops.r (Run.mv rfl) rfl ?_
          refine Ops.r (Run.mv rfl) rfl ?_
          refine Ops.r (Run.lenS rfl Try.underlying33) rfl ?_
          refine Ops.r (Run.bin rfl rfl (Bin.lssN _ _)) rfl ?_
          refine Ops.r (Run.mv rfl) rfl ?_
          refine Ops.rg rfl (by first | rfl | assumption | exact decide_eq_true (by assumption) | exact decide_eq_false (by assumption) | decide | (simp; done) | (simp; omega) | (simp [*]; done)) (Run.mv rfl) rfl ?_
          refine Ops.rg rfl (by first | rfl | assumption | exact decide_eq_true (by assumption) | exact decide_eq_false (by assumption) | decide | (simp; done) | (simp; omega) | (simp [*]; done)) (Run.bin rfl rfl (Bin.lssN _ 8)) rfl ?_
          refine Ops.r (Run.pickT rfl rfl (by first | rfl | assumption | exact decide_eq_true (by assumption) | exact decide_eq_false (by assumption) | decide | (simp; done) | (simp; omega) | (simp [*]; done))) rfl ?_
          refine Ops.nil ?_
          refine thenQ_n ⟨(.cons (by rw [dand1 hs0]; rfl) (.cons rfl (.cons rfl (.cons rfl (.cons rfl (.cons rfl (.cons rfl (.cons rfl .nil)))))))), rfl⟩
        · skip
          refine VC.region ?_
          refine Ops.r (Run.mv rfl) rfl ?_
          refine Ops.r (Run.mv rfl) rfl ?_
          refine Ops.r (Run.lenS rfl Try.underlying33) rfl ?_
          refine Ops.r (Run.bin rfl rfl (Bin.lssN _ _)) rfl ?_
          refine Ops.r (Run.mv rfl) rfl ?_
          refine Ops.sk rfl (by first | rfl | assumption | exact decide_eq_true (by assumption) | exact decide_eq_false (by assumption) | decide | (simp; done) | (simp; omega) | (simp [*]; done)) rfl ?_
          refine Ops.sk rfl (by first | rfl | assumption | exact decide_eq_true (by assumption) | exact decide_eq_false (by assumption) | decide | (simp; done) | (simp; omega) | (simp [*]; done)) rfl ?_
          refine Ops.r (Run.pickF rfl rfl (by first | rfl | assumption | exact decide_eq_true (by assumption) | exact decide_eq_false (by assumption) | decide | (simp; done) | (simp; omega) | (simp [*]; done))) rfl ?_
          refine Ops.nil ?_
          refine thenQ_n ⟨(.cons (by rw [dand0 hs0]; rfl) (.cons rfl (.cons rfl (.cons rfl (.cons rfl (.cons rfl (.cons rfl (.cons rfl .nil)))))))), rfl⟩
      · intro Γ hΓ
        refine thenQ_n (VC.sub _ hΓ ?_)
        refine VC.meet (σ := Option Addr × Nat) (fun s => [(0, .slice A ls.length cl), (1, .slice C cs.length cc), (5, .slice A5 (Bf R z i).length c5), (6, .string (strB (Af R z i))), (7, .int .i64 ((i : Nat) : Int)), (8, .slice s.1 (Xf R z i).length s.2), (9, .int .u8 ((Hf R i : Nat) : Int))]) (fun s wm => wr = wm ∧ (Xf R z i).length ≤ s.2 ∧ Rd w 1 s.1 (Xf R z i).length (NB (Xf R z i))) ?_ ?_
        · skip
          refine VC.condD rfl (fun hc2 => ?_) (fun hc2 => ?_)
          · skip
            have hi2 : i < R.length := by omega
            obtain ⟨ad, u, rfl, hu, hcu⟩ := (hl.frm hfr (by simp)).at1 hc2.1
            rw [List.getElem?_map, List.getElem?_eq_getElem hc2.1] at hu
            simp only [Option.map_some, Option.some.injEq] at hu
            subst hu
            obtain ⟨hy1, hy2, hy3⟩ := hel _ (List.getElem_mem hc2.1)
            have hXe : Xf R z i = (ls[i]).2.2.take 400 := by
              unfold Xf
              rw [dif_pos hi2]
              subst hR
              simp
            generalize ls[i] = y at *
            refine VC.seq ?_
            refine VC.region ?_
            refine Ops.r (Run.mv rfl) rfl ?_
            refine Ops.r (Run.mv rfl) rfl ?_
            refine Ops.r (Run.index1 _ rfl rfl Try.underlying33 Try.sizeOf22 (by omega)) rfl ?_
            refine Ops.r (Run.load rfl Try.isAgg22 hcu) rfl ?_
            refine Ops.cl (Enters.fn (evs.cons rfl evs.nil) Try.call8) (few12_old y.1 y.2.1 y.2.2 w _ hy1 hy3) rfl ?_
            rintro e _ ⟨⟨D1, dc1, rfl, hdc1, hrd1⟩, rfl⟩
            rw [← hXe] at hdc1 hrd1 ⊢
            refine ⟨_, rfl, ?_⟩
            refine Ops.r (Run.asg rfl) rfl ?_
            refine Ops.nil ?_
            refine thenQ_n ?_
            refine VC.sub [(0, _), (1, _), (5, _), (6, _), (7, _), (8, _)] (.cons rfl (.cons rfl (.cons rfl (.cons rfl (.cons rfl (.cons rfl .nil)))))) ?_
            refine VC.region ?_
            refine Ops.r (v := .int .u8 ((0 : Nat) : Int)) (Run.asg rfl) rfl ?_
            refine Ops.nil ?_
            refine thenQ_n ⟨(D1, dc1), (.cons rfl (.cons rfl (.cons rfl (.cons rfl (.cons rfl (.cons rfl (.cons (by simp [Hf, hi2]; rfl) .nil))))))), ?_⟩
            exact ⟨rfl, hdc1, hrd1⟩
          · skip
            have hi2 : ¬ i < R.length := by omega
            refine VC.skip ?_
            refine thenQ_n ⟨(C1, cc1), (.cons rfl (.cons rfl (.cons rfl (.cons rfl (.cons rfl (.cons (by simp [Xf, hi2]; rfl) (.cons (by simp [Hf, hi2]; rfl) .nil))))))), ?_⟩
            have hXz : Xf R z i = z := by simp [Xf, hi2]
            rw [hXz]
            exact ⟨rfl, hcc1, hrc1⟩
        · skip
          rintro ⟨D, dc⟩ _ ⟨rfl, hdc, hrd⟩ Γ hΓ
          dsimp only at hdc hrd hΓ
          refine thenQ_n (VC.sub _ hΓ ?_)
          refine VC.seq ?_
          refine VC.region ?_
          refine Ops.r (Run.mv rfl) rfl ?_
          refine Ops.r (Run.lenS rfl Try.underlying22) rfl ?_
          refine Ops.r (Run.asg rfl) rfl ?_
          refine Ops.nil ?_
          refine thenQ_n ?_
          refine VC.sub [(0, _), (1, _), (5, _), (6, _), (7, _), (8, _), (9, _), (10, _)] (.cons rfl (.cons rfl (.cons rfl (.cons rfl (.cons rfl (.cons rfl (.cons rfl (.cons rfl .nil)))))))) ?_
          refine VC.seq ?_
          refine VC.region ?_
          refine Ops.r (Run.mv rfl) rfl ?_
          refine Ops.r (Run.mv rfl) rfl ?_
          refine Ops.r (Run.mv rfl) rfl ?_
          refine Ops.r (Run.conv8 _ rfl Try.underlying3 Try.underlying5) rfl ?_
          generalize hx0 : Xf R z i = x at *
          refine Ops.r (Run.mv rfl) rfl ?_
          refine Ops.r (Run.bin rfl rfl (Bin.quo_i64 _ 256 (by omega) (by omega))) rfl ?_
          refine Ops.r (Run.conv8 _ rfl Try.underlying3 Try.underlying5) rfl ?_
          refine Ops.r (Run.mv rfl) rfl ?_
          refine Ops.r (Run.bin rfl rfl (Bin.remN _ 256 (by omega))) rfl ?_
          refine Ops.r (Run.bin rfl rfl (Bin.sub_i64 255 _ (by omega) (by omega))) rfl ?_
          refine Ops.r (Run.conv8 _ rfl Try.underlying3 Try.underlying5) rfl ?_
          refine Ops.r (Run.mv rfl) rfl ?_
          refine Ops.r (Run.bin rfl rfl (Bin.quo_i64 _ 256 (by omega) (by omega))) rfl ?_
          refine Ops.r (Run.bin rfl rfl (Bin.sub_i64 255 _ (by omega) (by omega))) rfl ?_
          refine Ops.r (Run.conv8 _ rfl Try.underlying3 Try.underlying5) rfl ?_
          refine Ops.m (Does.buildN (cells := (NB [Hf R i, x.length % 256, x.length / 256 % 256, (255 - x.length % 256) % 256, (255 - x.length / 256) % 256]).toArray) (evs.cons rfl (evs.cons rfl (evs.cons rfl (evs.cons rfl (evs.cons rfl evs.nil))))) Try.underlying22 Try.sizeOf5 zero5 rfl rfl (by kernel_rfl)) rfl ?_
          rintro _ w1 ⟨rfl, hF1⟩
          have hfr1 := hfr.trans hF1.frm (by simp)
          have hH : Hf R i < 2 := by unfold Hf; split <;> omega
          have hr1 : Rd w1 1 (some ⟨wr.heap.size, 0, none⟩) 5 (NB [Hf R i, x.length % 256, x.length / 256, 255 - x.length % 256, 255 - x.length / 256]) := by
            have e1 : x.length / 256 % 256 = x.length / 256 := by omega
            have e2 : (255 - x.length % 256) % 256 = 255 - x.length % 256 := by omega
            have e3 : (255 - x.length / 256) % 256 = 255 - x.length / 256 := by omega
            have h := Rd.of_blk (n := 5) (size := 1) hF1.blk rfl
            rw [e1, e2, e3] at h
            exact h
          have hown1 := hown.frm hF1.frm (by simp)
          refine Ops.m (Does.app rfl rfl Try.underlying22 (info5) rfl (by decide) hown1 hr1 (NB_one _) (by omega) (by omega)) rfl ?_
          rintro _ w2 ⟨A2, c2, rfl, hown2, hf2, hob2⟩
          have hge2 : ∀ q ∈ ob A2, w.heap.size ≤ q := by
            have := hfr1.size
            rcases hob2 with h | h <;> rw [h]
            · exact hge
            · simp; exact this
          have hfr2 : Frm [] w w2 := hfr1.trans hf2 (fun q hq => .inr (hge q hq))
          rw [← NB_append] at hown2
          have hrd2 := hrd.frm hfr2 (by simp)
          refine Ops.r (Run.asg rfl) rfl ?_
          refine Ops.nil ?_
          refine thenQ_n ?_
          refine VC.sub [(0, _), (1, _), (5, _), (6, _), (7, _), (8, _)] (.cons rfl (.cons rfl (.cons rfl (.cons rfl (.cons rfl (.cons rfl .nil)))))) ?_
          refine VC.seq ?_
          refine VC.region ?_
          refine Ops.r (Run.mv rfl) rfl ?_
          refine Ops.r (Run.mv rfl) rfl ?_
          refine Ops.m (Does.app rfl rfl Try.underlying22 (info5) rfl (by decide) hown2 hrd2 (NB_one _) (by omega) (by omega)) rfl ?_
          rintro _ w3 ⟨A3, c3, rfl, hown3, hf3, hob3⟩
          have hge3 : ∀ q ∈ ob A3, w.heap.size ≤ q := by
            have := hfr2.size
            rcases hob3 with h | h <;> rw [h]
            · exact hge2
            · simp; exact this
          have hfr3 : Frm [] w w3 := hfr2.trans hf3 (fun q hq => .inr (hge2 q hq))
          rw [← NB_append] at hown3
          have hrd3 := hrd.frm hfr3 (by simp)
          refine Ops.r (Run.asg rfl) rfl ?_
          refine Ops.nil ?_
          refine thenQ_n ?_
          refine VC.sub [(0, _), (1, _), (5, _), (6, _), (7, _), (8, _)] (.cons rfl (.cons rfl (.cons rfl (.cons rfl (.cons rfl (.cons rfl .nil)))))) ?_
          refine VC.region ?_
          refine Ops.r (Run.mv rfl) rfl ?_
          refine Ops.r (Run.mv rfl) rfl ?_
          refine Ops.r (Run.strOf rfl Try.underlying22 Try.underlying5 Try.underlying9 (str_rd hrd3 hXl.2)) rfl ?_
          refine Ops.r (Run.addStr rfl rfl (show (strB (Af R z i)).size + (strB x).size ≤ _ by rw [strB_size, strB_size]; omega)) rfl ?_
          have hcat : strB (Af R z i) ++ (⟨(x.map UInt8.ofNat).toArray⟩ : ByteArray) = strB (Af R z i ++ x) := strB_append _ _
          rw [hcat]
          refine Ops.r (Run.asg rfl) rfl ?_
          refine Ops.nil ?_
          refine blockQ_n (thenQ_n ?_)
          refine VC.sub [(0, _), (1, _), (5, _), (6, _), (7, _)] (.cons rfl (.cons rfl (.cons rfl (.cons rfl (.cons rfl .nil))))) ?_
          refine VC.region ?_
          refine Ops.r (Run.mv rfl) rfl ?_
          refine Ops.r (Run.bin rfl rfl (Bin.add_i64 _ 1 (by omega))) rfl ?_
          refine Ops.r (Run.asg rfl) rfl ?_
          refine Ops.nil ?_
          refine thenQ_n ⟨(i + 1, A3, c3), (.cons rfl (.cons rfl (.cons (by rw [Bf_step hiK, hx0, show (Bf R z i ++ encB (Hf R i) x).length = (Bf R z i).length + 5 + x.length by simp [encB]; omega]; rfl) (.cons (by rw [Af_step hiK, hx0]; rfl) (.cons rfl .nil))))), ?_, ?_⟩
          · skip
            rw [Bf_step hiK, hx0]
            refine ⟨by omega, ?_, hge3, hfr3⟩
            have e : (Bf R z i ++ encB (Hf R i) x).length = (Bf R z i).length + 5 + x.length := by simp [encB]; omega
            rw [e]
            simpa [encB, List.append_assoc] using hown3
          · skip
            first | omega | (dsimp only; omega)
    · skip
      obtain rfl : i = R.length + 1 := by omega
      refine VC.exit ?_
      refine thenQ_x (thenQ_x (blockQ_x ?_))
      refine thenQ_n ?_
      refine VC.sub [(5, _), (6, _)] (.cons rfl (.cons rfl .nil)) ?_
      refine VC.seq ?_
      refine VC.region ?_
      refine Ops.r (Run.mv rfl) rfl ?_
      refine Ops.r (Run.mv rfl) rfl ?_
      refine Ops.r (Run.lenStr rfl Try.underlying9) rfl ?_
      rw [strB_size]
      refine Ops.cl (Enters.fn (evs.cons rfl (evs.cons rfl evs.nil)) Try.call10) (infl_outn A5 c5 _ _ ((Af R z (R.length + 1)).length : Nat) _ rfl (by omega) (by omega) hb256 hown.rd) rfl ?_
      rintro e w7 ⟨hf7, A7, c7, o7, u7, k7, rfl, ho7, hlt7, hS7⟩
      refine ⟨_, rfl, ?_⟩
      have eB : Bf R z (R.length + 1) = encAll R z := by unfold Bf; rw [if_neg (by omega)]
      have eA : Af R z (R.length + 1) = R.flatten ++ z := by unfold Af; rw [if_neg (by omega)]
      obtain ⟨rfl, rfl, rfl⟩ : k7 = 0 ∧ o7 = Af R z (R.length + 1) ∧ u7 = (Bf R z (R.length + 1)).length := by
        have hE := infl_enc (r := R) (last := z) (fun x hx => by have := (hR4 x hx).1; omega) (by omega)
        rw [← eA, ← eB] at hE
        rcases hS7 with ⟨h1, h2, _⟩ | ⟨_, _, _, h2⟩
        · rw [hE] at h2
          injection h2 with h2
          injection h2 with h2 h3
          exact ⟨h1, h2.symm, h3.symm⟩
        · rw [hE] at h2; cases h2
      have hfr7 := hfr.trans hf7 (by simp)
      have hdS : decide ((⟨((Af R z (R.length + 1)).map UInt8.ofNat).toArray⟩ : ByteArray).data.toList = (strB (Af R z (R.length + 1))).data.toList) = true := decide_eq_true rfl
      refine Ops.r (Run.mv rfl) rfl ?_
      refine Ops.r (Run.extract rfl rfl) rfl ?_
      refine Ops.r (Run.extract rfl rfl) rfl ?_
      refine Ops.r (Run.extract rfl rfl) rfl ?_
      refine Ops.r (Run.asg rfl) rfl ?_
      refine Ops.r (Run.asg rfl) rfl ?_
      refine Ops.r (Run.asg rfl) rfl ?_
      refine Ops.nil ?_
      refine thenQ_n ?_
      refine VC.sub [(5, _), (6, _), (11, _), (12, _), (13, _)] (.cons rfl (.cons rfl (.cons rfl (.cons rfl (.cons rfl .nil))))) ?_
      refine VC.seq ?_
      refine VC.region ?_
      refine Ops.r (Run.mv rfl) rfl ?_
      refine Ops.r (Run.strOf rfl Try.underlying22 Try.underlying5 Try.underlying9 (str_rd ho7 hlt7)) rfl ?_
      refine Ops.r (Run.mv rfl) rfl ?_
      refine Ops.r (Run.eqlStr rfl rfl) rfl ?_
      refine Ops.r (Run.mv rfl) rfl ?_
      refine Ops.rg rfl (by first | exact hdS | rfl | assumption | (simp; done) | (simp [*]; done) | (simp; omega)) (Run.mv rfl) rfl ?_
      refine Ops.rg rfl (by first | exact hdS | rfl | assumption | (simp; done) | (simp [*]; done) | (simp; omega)) (Run.mv rfl) rfl ?_
      refine Ops.rg rfl (by first | exact hdS | rfl | assumption | (simp; done) | (simp [*]; done) | (simp; omega)) (Run.lenS rfl Try.underlying22) rfl ?_
      refine Ops.rg rfl (by first | exact hdS | rfl | assumption | (simp; done) | (simp [*]; done) | (simp; omega)) (Run.bin rfl rfl (Bin.eqlN _ _)) rfl ?_
      refine Ops.r (Run.pickT rfl rfl (by first | exact hdS | rfl | assumption | (simp; done) | (simp [*]; done) | (simp; omega))) rfl ?_
      refine Ops.r (Run.mv rfl) rfl ?_
      refine Ops.rg rfl (by first | exact hdS | rfl | assumption | (simp; done) | (simp [*]; done) | (simp; omega)) (Run.mv rfl) rfl ?_
      refine Ops.rg rfl (by first | exact hdS | rfl | assumption | (simp; done) | (simp [*]; done) | (simp; omega)) (Run.bin rfl rfl (Bin.eqlN _ 0)) rfl ?_
      refine Ops.r (Run.pickT rfl rfl (by first | exact hdS | rfl | assumption | (simp; done) | (simp [*]; done) | (simp; omega))) rfl ?_
      refine Ops.r (Run.mv rfl) rfl ?_
      refine Ops.clg rfl (by first | exact hdS | rfl | assumption | (simp; done) | (simp [*]; done) | (simp; omega)) (Enters.fn evs.nil Try.call12) (awake12_spec _) rfl ?_
      rintro e w8 ⟨rfl, hf8⟩
      refine ⟨_, rfl, ?_⟩
      refine Ops.r (Run.pickT rfl rfl (by first | exact hdS | rfl | assumption | (simp; done) | (simp [*]; done) | (simp; omega))) rfl ?_
      refine Ops.r (Run.asg rfl) rfl ?_
      refine Ops.nil ?_
      refine thenQ_n ?_
      refine VC.sub [(4, _)] (.cons rfl .nil) ?_
      refine VC.ret ?_
      refine end1 rfl ?_
      exact ⟨rfl, hfr7.trans hf8 (by simp)⟩

end Go.Proofs.Ytfjhmbgckmhdaaa
