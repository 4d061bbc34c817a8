/-
  'SectionWhole': header and text of a letter are all of it; of each part that there is, too.
-/
import Derived.Test.YtenbjndldenkfaaGreatDoorSecK
namespace Go.Proofs.YtenbjndldenkfaaGreatDoor
open Go.RowKit Go.Sort

set_option maxRecDepth 100000 in
theorem few20_spec (A : Option Addr) (c : Nat) (q : Tx) (w : World) (hrd : Rd w 1 A q.length (U8 q)) (hc : q.length ≤ c) :
    Calls Tryz.prog 9 #[.slice A q.length c] w fun e w' => w = w' ∧ ∃ (A2 : Option Addr) (c2 : Nat), e = .returned (.slice A2 (q.take 1200).length c2) ∧ Rd w' 1 A2 (q.take 1200).length (U8 (q.take 1200)) ∧ (q.take 1200).length ≤ c2 := by
  refine VC.calls (nt := 9) (res := #[.tmp 2]) Tryz.func9 rfl Tryz.ntmps9 Tryz.results9 rfl ?_
  refine VC.seq ?_
  refine VC.region ?_
  refine Ops.r (Run.asg rfl) rfl ?_
  refine Ops.nil ?_
  refine thenQ_n ?_
  refine VC.sub [(0, _)] (.cons rfl .nil) ?_
  refine VC.seq ?_
  refine VC.seq ?_
  refine VC.region ?_
  refine Ops.r (Run.mv rfl) rfl ?_
  refine Ops.r (Run.lenS rfl Tryz.underlying22) rfl ?_
  refine Ops.r (Run.bin rfl rfl (Bin.gtrN _ 1200)) rfl ?_
  refine Ops.nil ?_
  refine thenQ_n ?_
  refine VC.sub [(0, _), (5, _)] (.cons rfl (.cons rfl .nil)) ?_
  refine VC.condD rfl (fun hc1 => ?_) (fun hc1 => ?_)
  · skip
    refine VC.seq ?_
    refine VC.region ?_
    refine Ops.r (Run.mv rfl) rfl ?_
    refine Ops.r (Run.sliceS 0 1200 rfl Tryz.underlying22 Tryz.sizeOf5 evB.none_ (evB.some_ rfl) (by omega) (by omega)) rfl ?_
    refine Ops.r (Run.asg rfl) rfl ?_
    refine Ops.nil ?_
    refine thenQ_n ?_
    refine VC.sub [(2, _)] (.cons rfl .nil) ?_
    refine VC.ret ?_
    refine thenQ_r (end1 rfl ?_)
    have e1 : sliceQ q 0 1200 = q.take 1200 := by unfold sliceQ; simp
    have h := U8_cut hrd (show 0 ≤ 1200 by omega) (show 1200 ≤ q.length by omega) hc
    rw [e1] at h
    have e2 : (q.take 1200).length = 1200 := by simp; omega
    refine ⟨rfl, cutA A c 0 1, c, ?_, h, by omega⟩
    rw [e2]
    rfl
  · skip
    refine VC.skip ?_
    refine thenQ_n ?_
    refine VC.sub [(0, _)] (.cons rfl .nil) ?_
    refine VC.seq ?_
    refine VC.region ?_
    refine Ops.r (Run.mv rfl) rfl ?_
    refine Ops.r (Run.asg rfl) rfl ?_
    refine Ops.nil ?_
    refine thenQ_n ?_
    refine VC.sub [(2, _)] (.cons rfl .nil) ?_
    refine VC.ret ?_
    refine end1 rfl ?_
    have e1 : q.take 1200 = q := List.take_of_length_le (by omega)
    rw [e1]
    exact ⟨rfl, A, c, rfl, hrd, hc⟩

theorem PI_cut {w : World} {A : Option Addr} {c : Nat} {l : List Int} (h : Rd w 1 A l.length (PI l)) (k : Nat) (hk : k ≤ l.length) (hc : l.length ≤ c) : Rd w 1 (cutA A c 0 1) (l.take k).length (PI (l.take k)) := by
  have e := h.cut (l := 0) (r := k) (cap := c) (by omega) hk hc
  have e1 : (l.take k).length = k - 0 := by simp; omega
  have e2 : PI (l.take k) = ((PI l).drop (0 * 1)).take ((k - 0) * 1) := by simp [PI, List.map_take]
  rw [e1, e2]
  exact e
theorem slice_le (q : Tx) (a b : Nat) : (sliceQ q a b).length ≤ q.length := by unfold sliceQ; simp; omega
theorem getQ_len (q : Tx) (v : Wnt) : ((getQ q v).getD []).length ≤ q.length := by
  unfold getQ
  split
  · simp
  · split
    · simp
    · split
      · simp
      · split
        · exact slice_le _ _ _
        · split
          · exact slice_le _ _ _
          · unfold pickK
            split
            · simp
            · split
              · simp
              · rename_i pp _
                show (if v.what = txtT then sliceQ q pp.body pp.tu else sliceQ q pp.frm pp.body).length ≤ _
                split <;> exact slice_le _ _ _
theorem sectionNot (b : Bool) : (b != b) = false := by cases b <;> rfl

set_option maxRecDepth 100000 in
theorem swhole_walk (A B : Option Addr) (c d : Nat) (q0 : Tx) (p0 : List Int) (w : World) (hv : LibV w) (hrd : Rd w 1 A q0.length (U8 q0)) (hc : q0.length ≤ c) (hp : Rd w 1 B p0.length (PI p0)) (hd : p0.length ≤ d) (hpb0 : ∀ n ∈ p0, -9223372036854775808 ≤ n ∧ n ≤ 9223372036854775807) :
    Calls Tryz.prog 7 #[.slice A q0.length c, .slice B p0.length d] w fun e w' => e = .returned (.bool true) ∧ Frm [] w w' := by
  have K := Frm.refl [] w
  refine VC.calls (nt := 143) (res := #[.tmp 4]) Tryz.func7 rfl Tryz.ntmps7 Tryz.results7 rfl ?_
  refine VC.seq ?_
  refine VC.region ?_
  refine Ops.r (Run.asg rfl) rfl ?_
  refine Ops.nil ?_
  refine thenQ_n ?_
  refine VC.sub [(0, _), (1, _)] (.cons rfl (.cons rfl .nil)) ?_
  refine VC.seq ?_
  refine VC.region ?_
  refine Ops.r (Run.mv rfl) rfl ?_
  refine Ops.cl (Enters.fn (evs.cons rfl evs.nil) Tryz.call9) ((few20_spec A c q0 _ hrd hc)) rfl ?_
  rintro e _ ⟨rfl, A1, c1, rfl, hrq, hc1l⟩
  refine ⟨_, rfl, ?_⟩
  have hq1 : (q0.take 1200).length ≤ 1200 := by simp; omega
  generalize q0.take 1200 = q at *
  refine Ops.r (Run.asg rfl) rfl ?_
  refine Ops.nil ?_
  refine thenQ_n ?_
  refine VC.sub [(0, _), (1, _)] (.cons rfl (.cons rfl .nil)) ?_
  refine VC.seq ?_
  refine VC.seq ?_
  refine VC.region ?_
  refine Ops.r (Run.mv rfl) rfl ?_
  refine Ops.r (Run.lenS rfl Tryz.underlying33) rfl ?_
  refine Ops.r (Run.bin rfl rfl (Bin.gtrN _ 8)) rfl ?_
  refine Ops.nil ?_
  refine thenQ_n ?_
  refine VC.sub [(0, _), (1, _), (23, _)] (.cons rfl (.cons rfl (.cons rfl .nil))) ?_
  refine VC.meet (σ := Option Addr × Nat) (fun s => [(0, .slice A1 q.length c1), (1, .slice s.1 (p0.take 8).length s.2)]) (fun s wr => w = wr ∧ Rd wr 1 s.1 (p0.take 8).length (PI (p0.take 8))) ?_ ?_
  · skip
    refine VC.condD rfl (fun hc1 => ?_) (fun hc1 => ?_)
    · skip
      refine VC.region ?_
      refine Ops.r (Run.mv rfl) rfl ?_
      refine Ops.r (Run.sliceS 0 8 rfl Tryz.underlying33 Tryz.sizeOf3 evB.none_ (evB.some_ rfl) (by omega) (by omega)) rfl ?_
      refine Ops.r (Run.asg rfl) rfl ?_
      refine Ops.nil ?_
      refine thenQ_n ⟨(cutA B d 0 1, d - 0), (.cons rfl (.cons (by rw [show (p0.take 8).length = 8 - 0 by simp; omega]; rfl) .nil)), ?_⟩
      exact ⟨rfl, PI_cut hp 8 (by omega) hd⟩
    · skip
      refine VC.skip ?_
      refine thenQ_n ⟨(B, d), (.cons rfl (.cons (by rw [List.take_of_length_le (by omega)]; rfl) .nil)), ?_⟩
      exact ⟨rfl, by rw [List.take_of_length_le (by omega)]; exact hp⟩
  · skip
    rintro ⟨B1, d1⟩ _ ⟨rfl, hrp⟩ Γ hΓ
    dsimp only at hrp
    have hp8 : (p0.take 8).length ≤ 8 := by simp; omega
    have hpb : ∀ n ∈ p0.take 8, -9223372036854775808 ≤ n ∧ n ≤ 9223372036854775807 := fun n hn => hpb0 n (List.mem_of_mem_take hn)
    generalize p0.take 8 = p at *
    obtain ⟨xh, xt, ex1, ex2, ex3, ex4, ex5⟩ := whole_nil q
    have hwp := @whole_path q p
    have hl1 : xh.length + xt.length = q.length := by rw [← ex3, List.length_append]
    refine thenQ_n (VC.sub _ hΓ ?_)
    refine VC.seq ?_
    refine VC.region ?_
    refine Ops.r (Run.mv rfl) rfl ?_
    refine Ops.r (Run.build (evs.cons rfl evs.nil) zero38 (places38).choose_spec.1 (places38).choose_spec.2 (cells := WtC ⟨[], hdrT, []⟩ none 0 none 0) rfl) rfl ?_
    refine Ops.cl (Enters.fn (evs.cons rfl (evs.cons rfl evs.nil)) Tryz.call19) ((get_spec A1 c1 q ⟨[], hdrT, []⟩ none none 0 0 _ hrq (by omega) hc1l (show Rd _ 1 none 0 (PI []) from Rd.nil _ _ _) (by simp) (by simp) (Rd.nil _ _ _) (show 0 ≤ 1000000 by decide) (by simp) (show ¬ NamedW hdrT by decide))) rfl ?_
    rintro e w1 ⟨fw1, Ah, ch, rfl, hOh, _⟩
    rw [ex1] at hOh ⊢
    dsimp only [Option.getD_some, Option.isSome_some] at hOh ⊢
    refine ⟨_, rfl, ?_⟩
    have hrq := hrq.frm fw1 (by simp)
    have hrp := hrp.frm fw1 (by simp)
    have K := K.trans fw1 (by simp)
    refine Ops.r (Run.mv rfl) rfl ?_
    refine Ops.r (Run.extract rfl rfl) rfl ?_
    refine Ops.r (Run.extract rfl rfl) rfl ?_
    refine Ops.r (Run.asg rfl) rfl ?_
    refine Ops.r (Run.asg rfl) rfl ?_
    refine Ops.nil ?_
    refine thenQ_n ?_
    refine VC.sub [(0, _), (1, _), (5, _), (6, _)] (.cons rfl (.cons rfl (.cons rfl (.cons rfl .nil)))) ?_
    refine VC.seq ?_
    refine VC.region ?_
    refine Ops.r (Run.mv rfl) rfl ?_
    refine Ops.r (Run.build (evs.cons rfl evs.nil) zero38 (places38).choose_spec.1 (places38).choose_spec.2 (cells := WtC ⟨[], txtT, []⟩ none 0 none 0) rfl) rfl ?_
    refine Ops.cl (Enters.fn (evs.cons rfl (evs.cons rfl evs.nil)) Tryz.call19) ((get_spec A1 c1 q ⟨[], txtT, []⟩ none none 0 0 _ hrq (by omega) hc1l (show Rd _ 1 none 0 (PI []) from Rd.nil _ _ _) (by simp) (by simp) (Rd.nil _ _ _) (show 0 ≤ 1000000 by decide) (by simp) (show ¬ NamedW txtT by decide))) rfl ?_
    rintro e w2 ⟨fw2, At, ct, rfl, hOt, _⟩
    rw [ex2] at hOt ⊢
    dsimp only [Option.getD_some, Option.isSome_some] at hOt ⊢
    refine ⟨_, rfl, ?_⟩
    have hrq := hrq.frm fw2 (by simp)
    have hrp := hrp.frm fw2 (by simp)
    have hOh := hOh.frm fw2 (by simp)
    have K := K.trans fw2 (by simp)
    refine Ops.r (Run.mv rfl) rfl ?_
    refine Ops.r (Run.extract rfl rfl) rfl ?_
    refine Ops.r (Run.extract rfl rfl) rfl ?_
    refine Ops.r (Run.asg rfl) rfl ?_
    refine Ops.r (Run.asg rfl) rfl ?_
    refine Ops.nil ?_
    refine thenQ_n ?_
    refine VC.sub [(0, _), (1, _), (5, _), (6, _), (7, _), (8, _)] (.cons rfl (.cons rfl (.cons rfl (.cons rfl (.cons rfl (.cons rfl .nil)))))) ?_
    refine VC.seq ?_
    refine VC.region ?_
    refine Ops.r (Run.mv rfl) rfl ?_
    refine Ops.r (Run.build evs.nil zero38 (places38).choose_spec.1 (places38).choose_spec.2 (cells := WtC ⟨[], [], []⟩ none 0 none 0) rfl) rfl ?_
    refine Ops.cl (Enters.fn (evs.cons rfl (evs.cons rfl evs.nil)) Tryz.call19) ((get_spec A1 c1 q ⟨[], [], []⟩ none none 0 0 _ hrq (by omega) hc1l (show Rd _ 1 none 0 (PI []) from Rd.nil _ _ _) (by simp) (by simp) (Rd.nil _ _ _) (show 0 ≤ 1000000 by decide) (by simp) (show ¬ NamedW [] by decide))) rfl ?_
    rintro e w3 ⟨fw3, Aa, ca, rfl, hOa, _⟩
    rw [ex4] at hOa ⊢
    dsimp only [Option.getD_some, Option.isSome_some] at hOa ⊢
    refine ⟨_, rfl, ?_⟩
    have hrq := hrq.frm fw3 (by simp)
    have hrp := hrp.frm fw3 (by simp)
    have hOh := hOh.frm fw3 (by simp)
    have hOt := hOt.frm fw3 (by simp)
    have K := K.trans fw3 (by simp)
    refine Ops.r (Run.mv rfl) rfl ?_
    refine Ops.r (Run.extract rfl rfl) rfl ?_
    refine Ops.r (Run.extract rfl rfl) rfl ?_
    refine Ops.r (Run.asg rfl) rfl ?_
    refine Ops.r (Run.asg rfl) rfl ?_
    refine Ops.nil ?_
    refine thenQ_n ?_
    refine VC.sub [(0, _), (1, _), (5, _), (6, _), (7, _), (8, _), (9, _), (10, _)] (.cons rfl (.cons rfl (.cons rfl (.cons rfl (.cons rfl (.cons rfl (.cons rfl (.cons rfl .nil)))))))) ?_
    refine VC.seq ?_
    refine VC.seq ?_
    refine VC.region ?_
    refine Ops.r (Run.mv rfl) rfl ?_
    refine Ops.r (Run.not rfl) rfl ?_
    refine Ops.r (Run.mv rfl) rfl ?_
    refine Ops.rg rfl (by first | rfl | assumption | exact decide_eq_true (by assumption) | exact decide_eq_false (by assumption) | decide | (simp; done) | (simp; omega) | (simp [*]; done)) (Run.mv rfl) rfl ?_
    refine Ops.rg rfl (by first | rfl | assumption | exact decide_eq_true (by assumption) | exact decide_eq_false (by assumption) | decide | (simp; done) | (simp; omega) | (simp [*]; done)) (Run.not rfl) rfl ?_
    refine Ops.r (Run.pickF rfl rfl (by first | rfl | assumption | exact decide_eq_true (by assumption) | exact decide_eq_false (by assumption) | decide | (simp; done) | (simp; omega) | (simp [*]; done))) rfl ?_
    refine Ops.r (Run.mv rfl) rfl ?_
    refine Ops.rg rfl (by first | rfl | assumption | exact decide_eq_true (by assumption) | exact decide_eq_false (by assumption) | decide | (simp; done) | (simp; omega) | (simp [*]; done)) (Run.mv rfl) rfl ?_
    refine Ops.rg rfl (by first | rfl | assumption | exact decide_eq_true (by assumption) | exact decide_eq_false (by assumption) | decide | (simp; done) | (simp; omega) | (simp [*]; done)) (Run.not rfl) rfl ?_
    refine Ops.r (Run.pickF rfl rfl (by first | rfl | assumption | exact decide_eq_true (by assumption) | exact decide_eq_false (by assumption) | decide | (simp; done) | (simp; omega) | (simp [*]; done))) rfl ?_
    refine Ops.r (Run.mv rfl) rfl ?_
    refine Ops.rg rfl (by first | rfl | assumption | exact decide_eq_true (by assumption) | exact decide_eq_false (by assumption) | decide | (simp; done) | (simp; omega) | (simp [*]; done)) (Run.mv rfl) rfl ?_
    refine Ops.rg rfl (by first | rfl | assumption | exact decide_eq_true (by assumption) | exact decide_eq_false (by assumption) | decide | (simp; done) | (simp; omega) | (simp [*]; done)) (Run.strOfT rfl Tryz.underlying22 Tryz.underlying5 Tryz.underlying9 hOh.rd) rfl ?_
    refine Ops.rg rfl (by first | rfl | assumption | exact decide_eq_true (by assumption) | exact decide_eq_false (by assumption) | decide | (simp; done) | (simp; omega) | (simp [*]; done)) (Run.mv rfl) rfl ?_
    refine Ops.rg rfl (by first | rfl | assumption | exact decide_eq_true (by assumption) | exact decide_eq_false (by assumption) | decide | (simp; done) | (simp; omega) | (simp [*]; done)) (Run.strOfT rfl Tryz.underlying22 Tryz.underlying5 Tryz.underlying9 hOt.rd) rfl ?_
    refine Ops.rg rfl (by first | rfl | assumption | exact decide_eq_true (by assumption) | exact decide_eq_false (by assumption) | decide | (simp; done) | (simp; omega) | (simp [*]; done)) (Run.addT (a := xh) (b := xt) rfl rfl (by omega)) rfl ?_
    rw [ex3]
    refine Ops.rg rfl (by first | rfl | assumption | exact decide_eq_true (by assumption) | exact decide_eq_false (by assumption) | decide | (simp; done) | (simp; omega) | (simp [*]; done)) (Run.mv rfl) rfl ?_
    refine Ops.rg rfl (by first | rfl | assumption | exact decide_eq_true (by assumption) | exact decide_eq_false (by assumption) | decide | (simp; done) | (simp; omega) | (simp [*]; done)) (Run.strOfT rfl Tryz.underlying22 Tryz.underlying5 Tryz.underlying9 hrq) rfl ?_
    refine Ops.rg rfl (by first | rfl | assumption | exact decide_eq_true (by assumption) | exact decide_eq_false (by assumption) | decide | (simp; done) | (simp; omega) | (simp [*]; done)) (Run.neqT rfl rfl) rfl ?_
    refine Ops.r (Run.pickF rfl rfl (by first | rfl | assumption | exact decide_eq_true (by assumption) | exact decide_eq_false (by assumption) | decide | (simp; done) | (simp; omega) | (simp [*]; done))) rfl ?_
    refine Ops.r (Run.mv rfl) rfl ?_
    refine Ops.rg rfl (by first | rfl | assumption | exact decide_eq_true (by assumption) | exact decide_eq_false (by assumption) | decide | (simp; done) | (simp; omega) | (simp [*]; done)) (Run.mv rfl) rfl ?_
    refine Ops.rg rfl (by first | rfl | assumption | exact decide_eq_true (by assumption) | exact decide_eq_false (by assumption) | decide | (simp; done) | (simp; omega) | (simp [*]; done)) (Run.strOfT rfl Tryz.underlying22 Tryz.underlying5 Tryz.underlying9 hOa.rd) rfl ?_
    refine Ops.rg rfl (by first | rfl | assumption | exact decide_eq_true (by assumption) | exact decide_eq_false (by assumption) | decide | (simp; done) | (simp; omega) | (simp [*]; done)) (Run.mv rfl) rfl ?_
    refine Ops.rg rfl (by first | rfl | assumption | exact decide_eq_true (by assumption) | exact decide_eq_false (by assumption) | decide | (simp; done) | (simp; omega) | (simp [*]; done)) (Run.strOfT rfl Tryz.underlying22 Tryz.underlying5 Tryz.underlying9 hrq) rfl ?_
    refine Ops.rg rfl (by first | rfl | assumption | exact decide_eq_true (by assumption) | exact decide_eq_false (by assumption) | decide | (simp; done) | (simp; omega) | (simp [*]; done)) (Run.neqT rfl rfl) rfl ?_
    refine Ops.r (Run.pickF rfl rfl (by first | rfl | assumption | exact decide_eq_true (by assumption) | exact decide_eq_false (by assumption) | decide | (simp; done) | (simp; omega) | (simp [*]; done))) rfl ?_
    refine Ops.nil ?_
    refine thenQ_n ?_
    refine VC.sub [(0, _), (1, _), (70, _)] (.cons rfl (.cons rfl (.cons rfl .nil))) ?_
    refine VC.condF rfl (decide_eq_false (by simp)) ?_
    refine VC.skip ?_
    refine thenQ_n ?_
    refine VC.sub [(0, _), (1, _)] (.cons rfl (.cons rfl .nil)) ?_
    refine VC.seq ?_
    refine VC.region ?_
    refine Ops.r (Run.mv rfl) rfl ?_
    refine Ops.r (Run.mv rfl) rfl ?_
    refine Ops.r (Run.build (evs.cons rfl evs.nil) zero38 (places38).choose_spec.1 (places38).choose_spec.2 (cells := WtC ⟨p, [], []⟩ B1 d1 none 0) rfl) rfl ?_
    refine Ops.cl (Enters.fn (evs.cons rfl (evs.cons rfl evs.nil)) Tryz.call19) ((get_spec A1 c1 q ⟨p, [], []⟩ B1 none d1 0 _ hrq (by omega) hc1l hrp (by show p.length ≤ 1000000; omega) hpb (Rd.nil _ _ _) (show 0 ≤ 1000000 by decide) (by simp) (show ¬ NamedW [] by decide))) rfl ?_
    rintro e w4 ⟨fw4, Ab, cb, rfl, hOb, _⟩
    have hlnb := getQ_len q ⟨p, [], []⟩
    generalize hGb : getQ q ⟨p, [], []⟩ = Gb at *
    refine ⟨_, rfl, ?_⟩
    have hrq := hrq.frm fw4 (by simp)
    have hrp := hrp.frm fw4 (by simp)
    have hOh := hOh.frm fw4 (by simp)
    have hOt := hOt.frm fw4 (by simp)
    have hOa := hOa.frm fw4 (by simp)
    have K := K.trans fw4 (by simp)
    refine Ops.r (Run.mv rfl) rfl ?_
    refine Ops.r (Run.extract rfl rfl) rfl ?_
    refine Ops.r (Run.extract rfl rfl) rfl ?_
    refine Ops.r (Run.asg rfl) rfl ?_
    refine Ops.r (Run.asg rfl) rfl ?_
    refine Ops.nil ?_
    refine thenQ_n ?_
    refine VC.sub [(0, _), (1, _), (11, _), (12, _)] (.cons rfl (.cons rfl (.cons rfl (.cons rfl .nil)))) ?_
    refine VC.seq ?_
    refine VC.region ?_
    refine Ops.r (Run.mv rfl) rfl ?_
    refine Ops.r (Run.mv rfl) rfl ?_
    refine Ops.r (Run.build (evs.cons rfl (evs.cons rfl evs.nil)) zero38 (places38).choose_spec.1 (places38).choose_spec.2 (cells := WtC ⟨p, mimT, []⟩ B1 d1 none 0) rfl) rfl ?_
    refine Ops.cl (Enters.fn (evs.cons rfl (evs.cons rfl evs.nil)) Tryz.call19) ((get_spec A1 c1 q ⟨p, mimT, []⟩ B1 none d1 0 _ hrq (by omega) hc1l hrp (by show p.length ≤ 1000000; omega) hpb (Rd.nil _ _ _) (show 0 ≤ 1000000 by decide) (by simp) (show ¬ NamedW mimT by decide))) rfl ?_
    rintro e w5 ⟨fw5, Am, cm, rfl, hOm, _⟩
    have hlnm := getQ_len q ⟨p, mimT, []⟩
    generalize hGm : getQ q ⟨p, mimT, []⟩ = Gm at *
    refine ⟨_, rfl, ?_⟩
    have hrq := hrq.frm fw5 (by simp)
    have hrp := hrp.frm fw5 (by simp)
    have hOh := hOh.frm fw5 (by simp)
    have hOt := hOt.frm fw5 (by simp)
    have hOa := hOa.frm fw5 (by simp)
    have hOb := hOb.frm fw5 (by simp)
    have K := K.trans fw5 (by simp)
    refine Ops.r (Run.mv rfl) rfl ?_
    refine Ops.r (Run.extract rfl rfl) rfl ?_
    refine Ops.r (Run.extract rfl rfl) rfl ?_
    refine Ops.r (Run.asg rfl) rfl ?_
    refine Ops.r (Run.asg rfl) rfl ?_
    refine Ops.nil ?_
    refine thenQ_n ?_
    refine VC.sub [(0, _), (1, _), (11, _), (12, _), (13, _), (14, _)] (.cons rfl (.cons rfl (.cons rfl (.cons rfl (.cons rfl (.cons rfl .nil)))))) ?_
    refine VC.seq ?_
    refine VC.seq ?_
    refine VC.region ?_
    refine Ops.r (Run.mv rfl) rfl ?_
    refine Ops.r (Run.lenS rfl Tryz.underlying33) rfl ?_
    refine Ops.r (Run.bin rfl rfl (Bin.eqlN _ 0)) rfl ?_
    refine Ops.nil ?_
    refine thenQ_n ?_
    refine VC.sub [(0, _), (1, _), (11, _), (12, _), (13, _), (14, _), (87, _)] (.cons rfl (.cons rfl (.cons rfl (.cons rfl (.cons rfl (.cons rfl (.cons rfl .nil))))))) ?_
    refine VC.condD rfl (fun hc3 => ?_) (fun hc3 => ?_)
    · skip
      have hp0 : p = [] := List.length_eq_zero_iff.1 hc3
      subst hp0
      have e1 : Gb = some q := hGb.symm.trans ex4
      have e2 : Gm = none := hGm.symm.trans ex5
      subst e1 e2
      refine VC.seq ?_
      refine VC.region ?_
      refine Ops.r (Run.mv rfl) rfl ?_
      refine Ops.r (Run.mv rfl) rfl ?_
      refine Ops.rg rfl (by first | rfl | assumption | exact decide_eq_true (by assumption) | exact decide_eq_false (by assumption) | decide | (simp; done) | (simp; omega) | (simp [*]; done)) (Run.mv rfl) rfl ?_
      refine Ops.rg rfl (by first | rfl | assumption | exact decide_eq_true (by assumption) | exact decide_eq_false (by assumption) | decide | (simp; done) | (simp; omega) | (simp [*]; done)) (Run.not rfl) rfl ?_
      refine Ops.r (Run.pickT rfl rfl (by first | rfl | assumption | exact decide_eq_true (by assumption) | exact decide_eq_false (by assumption) | decide | (simp; done) | (simp; omega) | (simp [*]; done))) rfl ?_
      refine Ops.r (Run.mv rfl) rfl ?_
      refine Ops.rg rfl (by first | rfl | assumption | exact decide_eq_true (by assumption) | exact decide_eq_false (by assumption) | decide | (simp; done) | (simp; omega) | (simp [*]; done)) (Run.mv rfl) rfl ?_
      refine Ops.rg rfl (by first | rfl | assumption | exact decide_eq_true (by assumption) | exact decide_eq_false (by assumption) | decide | (simp; done) | (simp; omega) | (simp [*]; done)) (Run.lenS rfl Tryz.underlying22) rfl ?_
      refine Ops.rg rfl (by first | rfl | assumption | exact decide_eq_true (by assumption) | exact decide_eq_false (by assumption) | decide | (simp; done) | (simp; omega) | (simp [*]; done)) (Run.bin rfl rfl (Bin.eqlN _ 0)) rfl ?_
      refine Ops.r (Run.pickT rfl rfl (by first | rfl | assumption | exact decide_eq_true (by assumption) | exact decide_eq_false (by assumption) | decide | (simp; done) | (simp; omega) | (simp [*]; done))) rfl ?_
      refine Ops.r (Run.mv rfl) rfl ?_
      refine Ops.clg rfl (by first | rfl | assumption | exact decide_eq_true (by assumption) | exact decide_eq_false (by assumption) | decide | (simp; done) | (simp; omega) | (simp [*]; done)) (Enters.fn evs.nil Tryz.call20) ((awake21_spec _ (hv.frm0 K))) rfl ?_
      rintro e w6 ⟨rfl, fw6⟩
      refine ⟨_, rfl, ?_⟩
      have K := K.trans fw6 (by simp)
      refine Ops.r (Run.pickT rfl rfl (by first | rfl | assumption | exact decide_eq_true (by assumption) | exact decide_eq_false (by assumption) | decide | (simp; done) | (simp; omega) | (simp [*]; done))) rfl ?_
      refine Ops.r (Run.asg rfl) rfl ?_
      refine Ops.nil ?_
      refine thenQ_n ?_
      refine VC.sub [(4, _)] (.cons rfl .nil) ?_
      refine VC.ret ?_
      refine thenQ_r (end1 rfl ?_)
      exact ⟨rfl, K⟩
    · skip
      have hp0 : p ≠ [] := fun h => hc3 (by rw [h]; rfl)
      obtain ⟨hbm, hio, hib⟩ := hwp hp0
      rw [← hbm]
      refine VC.skip ?_
      refine thenQ_n ?_
      refine VC.sub [(0, _), (1, _), (11, _), (12, _), (14, _)] (.cons rfl (.cons rfl (.cons rfl (.cons rfl (.cons rfl .nil))))) ?_
      refine VC.seq ?_
      refine VC.seq ?_
      refine VC.region ?_
      refine Ops.r (Run.mv rfl) rfl ?_
      refine Ops.r (Run.mv rfl) rfl ?_
      refine Ops.r (Run.neqB rfl rfl Tryz.underlying4) rfl ?_
      refine Ops.nil ?_
      refine thenQ_n ?_
      refine VC.sub [(0, _), (1, _), (11, _), (12, _), (103, _)] (.cons rfl (.cons rfl (.cons rfl (.cons rfl (.cons rfl .nil))))) ?_
      refine VC.condF rfl ((sectionNot _)) ?_
      refine VC.skip ?_
      refine thenQ_n ?_
      refine VC.sub [(0, _), (1, _), (11, _), (12, _)] (.cons rfl (.cons rfl (.cons rfl (.cons rfl .nil)))) ?_
      refine VC.seq ?_
      refine VC.region ?_
      refine Ops.r (Run.mv rfl) rfl ?_
      refine Ops.r (Run.mv rfl) rfl ?_
      refine Ops.r (Run.build (evs.cons rfl (evs.cons rfl evs.nil)) zero38 (places38).choose_spec.1 (places38).choose_spec.2 (cells := WtC ⟨p, hdrT, []⟩ B1 d1 none 0) rfl) rfl ?_
      refine Ops.cl (Enters.fn (evs.cons rfl (evs.cons rfl evs.nil)) Tryz.call19) ((get_spec A1 c1 q ⟨p, hdrT, []⟩ B1 none d1 0 _ hrq (by omega) hc1l hrp (by show p.length ≤ 1000000; omega) hpb (Rd.nil _ _ _) (show 0 ≤ 1000000 by decide) (by simp) (show ¬ NamedW hdrT by decide))) rfl ?_
      rintro e w7 ⟨fw7, Ai, ci, rfl, hOi, _⟩
      have hlni := getQ_len q ⟨p, hdrT, []⟩
      generalize hGi : getQ q ⟨p, hdrT, []⟩ = Gi at *
      refine ⟨_, rfl, ?_⟩
      have hrq := hrq.frm fw7 (by simp)
      have hrp := hrp.frm fw7 (by simp)
      have hOh := hOh.frm fw7 (by simp)
      have hOt := hOt.frm fw7 (by simp)
      have hOa := hOa.frm fw7 (by simp)
      have hOb := hOb.frm fw7 (by simp)
      have hOm := hOm.frm fw7 (by simp)
      have K := K.trans fw7 (by simp)
      refine Ops.r (Run.mv rfl) rfl ?_
      refine Ops.r (Run.extract rfl rfl) rfl ?_
      refine Ops.r (Run.extract rfl rfl) rfl ?_
      refine Ops.r (Run.asg rfl) rfl ?_
      refine Ops.r (Run.asg rfl) rfl ?_
      refine Ops.nil ?_
      refine thenQ_n ?_
      refine VC.sub [(0, _), (1, _), (11, _), (12, _), (15, _), (16, _)] (.cons rfl (.cons rfl (.cons rfl (.cons rfl (.cons rfl (.cons rfl .nil)))))) ?_
      refine VC.seq ?_
      refine VC.region ?_
      refine Ops.r (Run.mv rfl) rfl ?_
      refine Ops.r (Run.mv rfl) rfl ?_
      refine Ops.r (Run.build (evs.cons rfl (evs.cons rfl evs.nil)) zero38 (places38).choose_spec.1 (places38).choose_spec.2 (cells := WtC ⟨p, txtT, []⟩ B1 d1 none 0) rfl) rfl ?_
      refine Ops.cl (Enters.fn (evs.cons rfl (evs.cons rfl evs.nil)) Tryz.call19) ((get_spec A1 c1 q ⟨p, txtT, []⟩ B1 none d1 0 _ hrq (by omega) hc1l hrp (by show p.length ≤ 1000000; omega) hpb (Rd.nil _ _ _) (show 0 ≤ 1000000 by decide) (by simp) (show ¬ NamedW txtT by decide))) rfl ?_
      rintro e w8 ⟨fw8, Ao, co, rfl, hOo, _⟩
      have hlno := getQ_len q ⟨p, txtT, []⟩
      generalize hGo : getQ q ⟨p, txtT, []⟩ = Go at *
      rw [← hio]
      obtain ⟨g, hg⟩ : ∃ g, Gi.isSome = g := ⟨_, rfl⟩
      obtain ⟨eb, heb⟩ : ∃ eb, Gb.isSome = eb := ⟨_, rfl⟩
      rw [hg, heb] at hib ⊢
      refine ⟨_, rfl, ?_⟩
      have hrq := hrq.frm fw8 (by simp)
      have hrp := hrp.frm fw8 (by simp)
      have hOh := hOh.frm fw8 (by simp)
      have hOt := hOt.frm fw8 (by simp)
      have hOa := hOa.frm fw8 (by simp)
      have hOb := hOb.frm fw8 (by simp)
      have hOm := hOm.frm fw8 (by simp)
      have hOi := hOi.frm fw8 (by simp)
      have K := K.trans fw8 (by simp)
      refine Ops.r (Run.mv rfl) rfl ?_
      refine Ops.r (Run.extract rfl rfl) rfl ?_
      refine Ops.r (Run.extract rfl rfl) rfl ?_
      refine Ops.r (Run.asg rfl) rfl ?_
      refine Ops.r (Run.asg rfl) rfl ?_
      refine Ops.nil ?_
      refine thenQ_n ?_
      refine VC.sub [(11, _), (12, _), (15, _), (16, _), (17, _), (18, _)] (.cons rfl (.cons rfl (.cons rfl (.cons rfl (.cons rfl (.cons rfl .nil)))))) ?_
      refine VC.seq ?_
      refine VC.seq ?_
      refine VC.split1 [(11, _), (15, _), (16, _), (17, _)] (.cons rfl (.cons rfl (.cons rfl (.cons rfl .nil)))) 127 (.bool (decide (False))) ?_ ?_
      · refine VC.region ?_
        refine Ops.r (Run.mv rfl) rfl ?_
        refine Ops.r (Run.mv rfl) rfl ?_
        refine Ops.r (Run.neqB rfl rfl Tryz.underlying4) rfl ?_
        refine Ops.r (Run.mv rfl) rfl ?_
        refine Ops.rg rfl (by first | rfl | assumption | exact decide_eq_true (by assumption) | exact decide_eq_false (by assumption) | decide | (simp; done) | (simp; omega) | (simp [*]; done)) (Run.mv rfl) rfl ?_
        refine Ops.rg rfl (by first | rfl | assumption | exact decide_eq_true (by assumption) | exact decide_eq_false (by assumption) | decide | (simp; done) | (simp; omega) | (simp [*]; done)) (Run.mv rfl) rfl ?_
        by_cases hs123 : g = true
        · skip
          refine Ops.rg rfl (by first | rfl | assumption | exact decide_eq_true (by assumption) | exact decide_eq_false (by assumption) | decide | (simp; done) | (simp; omega) | (simp [*]; done)) (Run.mv rfl) rfl ?_
          refine Ops.rg rfl (by first | rfl | assumption | exact decide_eq_true (by assumption) | exact decide_eq_false (by assumption) | decide | (simp; done) | (simp; omega) | (simp [*]; done)) (Run.not rfl) rfl ?_
          by_cases hs125 : (!eb) = true
          · skip
            refine Ops.rg rfl (by first | rfl | assumption | exact decide_eq_true (by assumption) | exact decide_eq_false (by assumption) | decide | (simp; done) | (simp; omega) | (simp [*]; done)) (Run.pickT rfl rfl (by first | rfl | assumption | exact decide_eq_true (by assumption) | exact decide_eq_false (by assumption) | decide | (simp; done) | (simp; omega) | (simp [*]; done))) rfl ?_
            refine Ops.r (Run.pickF rfl rfl (by first | rfl | assumption | exact decide_eq_true (by assumption) | exact decide_eq_false (by assumption) | decide | (simp; done) | (simp; omega) | (simp [*]; done))) rfl ?_
            refine Ops.nil ?_
            refine thenQ_n ⟨(.cons (congrArg (fun b => some (Value.bool b)) (by first | (simp_all; done) | rfl)) (.cons rfl (.cons rfl (.cons rfl (.cons rfl .nil))))), rfl⟩
          · skip
            refine Ops.rg rfl (by first | rfl | assumption | exact decide_eq_true (by assumption) | exact decide_eq_false (by assumption) | decide | (simp; done) | (simp; omega) | (simp [*]; done)) (Run.pickT rfl rfl (by first | rfl | assumption | exact decide_eq_true (by assumption) | exact decide_eq_false (by assumption) | decide | (simp; done) | (simp; omega) | (simp [*]; done))) rfl ?_
            refine Ops.r (Run.pickF rfl rfl (by first | rfl | assumption | exact decide_eq_true (by assumption) | exact decide_eq_false (by assumption) | decide | (simp; done) | (simp; omega) | (simp [*]; done))) rfl ?_
            refine Ops.nil ?_
            refine thenQ_n ⟨(.cons (congrArg (fun b => some (Value.bool b)) (by first | (simp_all; done) | rfl)) (.cons rfl (.cons rfl (.cons rfl (.cons rfl .nil))))), rfl⟩
        · skip
          refine Ops.sk rfl (by first | rfl | assumption | exact decide_eq_true (by assumption) | exact decide_eq_false (by assumption) | decide | (simp; done) | (simp; omega) | (simp [*]; done)) rfl ?_
          refine Ops.sk rfl (by first | rfl | assumption | exact decide_eq_true (by assumption) | exact decide_eq_false (by assumption) | decide | (simp; done) | (simp; omega) | (simp [*]; done)) rfl ?_
          refine Ops.rg rfl (by first | rfl | assumption | exact decide_eq_true (by assumption) | exact decide_eq_false (by assumption) | decide | (simp; done) | (simp; omega) | (simp [*]; done)) (Run.pickF rfl rfl (by first | rfl | assumption | exact decide_eq_true (by assumption) | exact decide_eq_false (by assumption) | decide | (simp; done) | (simp; omega) | (simp [*]; done))) rfl ?_
          refine Ops.r (Run.pickF rfl rfl (by first | rfl | assumption | exact decide_eq_true (by assumption) | exact decide_eq_false (by assumption) | decide | (simp; done) | (simp; omega) | (simp [*]; done))) rfl ?_
          refine Ops.nil ?_
          refine thenQ_n ⟨(.cons (congrArg (fun b => some (Value.bool b)) (by first | (simp_all; done) | rfl)) (.cons rfl (.cons rfl (.cons rfl (.cons rfl .nil))))), rfl⟩
      · intro Γ hΓ
        refine thenQ_n (VC.sub _ hΓ ?_)
        refine VC.condF rfl (decide_eq_false (by simp)) ?_
        refine VC.skip ?_
        refine thenQ_n ?_
        refine VC.sub [(11, _), (15, _), (16, _), (17, _)] (.cons rfl (.cons rfl (.cons rfl (.cons rfl .nil)))) ?_
        refine VC.seq ?_
        refine VC.splitR [] (Frm [] w8) 4 (.bool (decide (True))) ?_ ?_
        · refine VC.region ?_
          refine Ops.r (Run.mv rfl) rfl ?_
          refine Ops.r (Run.not rfl) rfl ?_
          by_cases hs129 : (!g) = true
          · skip
            refine Ops.r (Run.mv rfl) rfl ?_
            refine Ops.sk rfl (by first | rfl | assumption | exact decide_eq_true (by assumption) | exact decide_eq_false (by assumption) | decide | (simp; done) | (simp; omega) | (simp [*]; done)) rfl ?_
            refine Ops.sk rfl (by first | rfl | assumption | exact decide_eq_true (by assumption) | exact decide_eq_false (by assumption) | decide | (simp; done) | (simp; omega) | (simp [*]; done)) rfl ?_
            refine Ops.sk rfl (by first | rfl | assumption | exact decide_eq_true (by assumption) | exact decide_eq_false (by assumption) | decide | (simp; done) | (simp; omega) | (simp [*]; done)) rfl ?_
            refine Ops.sk rfl (by first | rfl | assumption | exact decide_eq_true (by assumption) | exact decide_eq_false (by assumption) | decide | (simp; done) | (simp; omega) | (simp [*]; done)) rfl ?_
            refine Ops.sk rfl (by first | rfl | assumption | exact decide_eq_true (by assumption) | exact decide_eq_false (by assumption) | decide | (simp; done) | (simp; omega) | (simp [*]; done)) rfl ?_
            refine Ops.sk rfl (by first | rfl | assumption | exact decide_eq_true (by assumption) | exact decide_eq_false (by assumption) | decide | (simp; done) | (simp; omega) | (simp [*]; done)) rfl ?_
            refine Ops.sk rfl (by first | rfl | assumption | exact decide_eq_true (by assumption) | exact decide_eq_false (by assumption) | decide | (simp; done) | (simp; omega) | (simp [*]; done)) rfl ?_
            refine Ops.sk rfl (by first | rfl | assumption | exact decide_eq_true (by assumption) | exact decide_eq_false (by assumption) | decide | (simp; done) | (simp; omega) | (simp [*]; done)) rfl ?_
            refine Ops.r (Run.pickT rfl rfl (by first | rfl | assumption | exact decide_eq_true (by assumption) | exact decide_eq_false (by assumption) | decide | (simp; done) | (simp; omega) | (simp [*]; done))) rfl ?_
            refine Ops.r (Run.mv rfl) rfl ?_
            refine Ops.clg rfl (by first | rfl | assumption | exact decide_eq_true (by assumption) | exact decide_eq_false (by assumption) | decide | (simp; done) | (simp; omega) | (simp [*]; done)) (Enters.fn evs.nil Tryz.call20) ((awake21_spec _ (hv.frm0 K))) rfl ?_
            rintro e w9 ⟨rfl, fw9⟩
            refine ⟨_, rfl, ?_⟩
            have K := K.trans fw9 (by simp)
            refine Ops.r (Run.pickT rfl rfl (by first | rfl | assumption | exact decide_eq_true (by assumption) | exact decide_eq_false (by assumption) | decide | (simp; done) | (simp; omega) | (simp [*]; done))) rfl ?_
            refine Ops.r (Run.asg rfl) rfl ?_
            refine Ops.nil ?_
            refine thenQ_n ⟨(.cons (congrArg (fun b => some (Value.bool b)) (by first | rfl | simp | simp [*])) .nil), ((by first | exact fw9 | exact Frm.refl _ _))⟩
          · skip
            refine Ops.r (Run.mv rfl) rfl ?_
            refine Ops.rg rfl (by first | rfl | assumption | exact decide_eq_true (by assumption) | exact decide_eq_false (by assumption) | decide | (simp; done) | (simp; omega) | (simp [*]; done)) (Run.mv rfl) rfl ?_
            refine Ops.rg rfl (by first | rfl | assumption | exact decide_eq_true (by assumption) | exact decide_eq_false (by assumption) | decide | (simp; done) | (simp; omega) | (simp [*]; done)) (Run.strOfT rfl Tryz.underlying22 Tryz.underlying5 Tryz.underlying9 hOi.rd) rfl ?_
            refine Ops.rg rfl (by first | rfl | assumption | exact decide_eq_true (by assumption) | exact decide_eq_false (by assumption) | decide | (simp; done) | (simp; omega) | (simp [*]; done)) (Run.mv rfl) rfl ?_
            refine Ops.rg rfl (by first | rfl | assumption | exact decide_eq_true (by assumption) | exact decide_eq_false (by assumption) | decide | (simp; done) | (simp; omega) | (simp [*]; done)) (Run.strOfT rfl Tryz.underlying22 Tryz.underlying5 Tryz.underlying9 hOo.rd) rfl ?_
            refine Ops.rg rfl (by first | rfl | assumption | exact decide_eq_true (by assumption) | exact decide_eq_false (by assumption) | decide | (simp; done) | (simp; omega) | (simp [*]; done)) (Run.addT rfl rfl (by omega)) rfl ?_
            refine Ops.rg rfl (by first | rfl | assumption | exact decide_eq_true (by assumption) | exact decide_eq_false (by assumption) | decide | (simp; done) | (simp; omega) | (simp [*]; done)) (Run.mv rfl) rfl ?_
            refine Ops.rg rfl (by first | rfl | assumption | exact decide_eq_true (by assumption) | exact decide_eq_false (by assumption) | decide | (simp; done) | (simp; omega) | (simp [*]; done)) (Run.strOfT rfl Tryz.underlying22 Tryz.underlying5 Tryz.underlying9 hOb.rd) rfl ?_
            refine Ops.rg rfl (by first | rfl | assumption | exact decide_eq_true (by assumption) | exact decide_eq_false (by assumption) | decide | (simp; done) | (simp; omega) | (simp [*]; done)) (Run.eqlT rfl rfl) rfl ?_
            rw [decide_eq_true (hib (by simpa using hs129)).2]
            refine Ops.r (Run.pickF rfl rfl (by first | rfl | assumption | exact decide_eq_true (by assumption) | exact decide_eq_false (by assumption) | decide | (simp; done) | (simp; omega) | (simp [*]; done))) rfl ?_
            refine Ops.r (Run.mv rfl) rfl ?_
            refine Ops.clg rfl (by first | rfl | assumption | exact decide_eq_true (by assumption) | exact decide_eq_false (by assumption) | decide | (simp; done) | (simp; omega) | (simp [*]; done)) (Enters.fn evs.nil Tryz.call20) ((awake21_spec _ (hv.frm0 K))) rfl ?_
            rintro e w9 ⟨rfl, fw9⟩
            refine ⟨_, rfl, ?_⟩
            have K := K.trans fw9 (by simp)
            refine Ops.r (Run.pickT rfl rfl (by first | rfl | assumption | exact decide_eq_true (by assumption) | exact decide_eq_false (by assumption) | decide | (simp; done) | (simp; omega) | (simp [*]; done))) rfl ?_
            refine Ops.r (Run.asg rfl) rfl ?_
            refine Ops.nil ?_
            refine thenQ_n ⟨(.cons (congrArg (fun b => some (Value.bool b)) (by first | rfl | simp | simp [*])) .nil), ((by first | exact fw9 | exact Frm.refl _ _))⟩
        · intro Γ wR hΓ hR
          refine thenQ_n (VC.sub _ hΓ ?_)
          refine VC.ret ?_
          refine end1 rfl ?_
          exact ⟨rfl, K.trans hR (by simp)⟩

end Go.Proofs.YtenbjndldenkfaaGreatDoor
