/-
  Lines of a letter, one behind the other; the header's end.
-/
import Derived.Test.YtenbjndldenkfaaGreatDoorSecP
import Derived.Test.YtenbjndldenkfaaGreatDoorShelf
namespace Go.Proofs.YtenbjndldenkfaaGreatDoor
open Go.RowKit Go.Sort

theorem bytes_of (l : Tx) : Lib.bytesOf (l.map fun u : UInt8 => ((u.toNat : Nat) : Int)) = l := by
  unfold Lib.bytesOf
  rw [List.map_map]
  conv => rhs; rw [← List.map_id l]
  exact List.map_congr_left fun c _ => by simp
theorem idxBytes_spec (A : Option Addr) (c : Nat) (l : Tx) (x : UInt8) (w : World) (h : Rd w 1 A l.length (U8 l)) (h0 : l ≠ []) :
    Calls Tryz.prog 87 #[.slice A l.length c, .int .u8 ((x.toNat : Nat) : Int)] w fun e w' => e = .returned (.int .i64 (Lib.indexByte l x)) ∧ w = w' := by
  obtain ⟨b, o, rfl, _, hc⟩ := h.plain (List.length_pos_iff.2 h0)
  have h := Tryz.bytes_IndexByte b o l.length c (l.map fun u : UInt8 => ((u.toNat : Nat) : Int)) ((x.toNat : Nat) : Int) w (by simp) (fun i hi => by
    have h1 : (U8 l)[i]? = some (.int .u8 ((l[i].toNat : Nat) : Int)) := by simp [U8, hi]
    rw [hc i _ h1]
    congr 2
    simp [List.getD_eq_getElem?_getD, hi])
  rw [bytes_of, show (((x.toNat : Nat) : Int)).toNat.toUInt8 = x by simp] at h
  exact h.mono fun e w' ⟨h, hw⟩ => ⟨h, hw.symm⟩
/-- The block of a slice that has something. -/
def obN (A : Option Addr) (n : Nat) : List Nat := if n = 0 then [] else ob A
theorem obN_mem {A : Option Addr} {n x : Nat} (h : x ∈ obN A n) : 0 < n ∧ x ∈ ob A := by
  unfold obN at h
  split at h
  · simp at h
  · exact ⟨by omega, h⟩
theorem obN_of {A : Option Addr} {n x : Nat} (hn : 0 < n) (h : x ∈ ob A) : x ∈ obN A n := by
  unfold obN
  rw [if_neg (by omega)]
  exact h
theorem U8_len (l : Tx) : (U8 l).length = l.length := by simp [U8]
theorem U8_cut {w : World} {A : Option Addr} {c : Nat} {s : Tx} (h : Rd w 1 A s.length (U8 s)) {a b : Nat} (h1 : a ≤ b) (h2 : b ≤ s.length) (hc : s.length ≤ c) : Rd w 1 (cutA A c a 1) (sliceQ s a b).length (U8 (sliceQ s a b)) := by
  have e := h.cut (l := a) (r := b) (cap := c) h1 h2 hc
  rw [sliceQ_len h2]
  have e2 : U8 (sliceQ s a b) = ((U8 s).drop (a * 1)).take ((b - a) * 1) := by simp [U8, sliceQ, List.map_take, List.map_drop]
  rw [e2]
  exact e
theorem U8_at {w : World} {A : Option Addr} {s : Tx} {k : Nat} (h : Rd w 1 A s.length (U8 s)) (hk : k < s.length) : ∃ ad, A = some ad ∧ w.cell? (ad.add k) = some (.int .u8 ((s[k].toNat : Nat) : Int)) := by
  obtain ⟨ad, u, h1, h2, h3⟩ := h.at1 hk
  refine ⟨ad, h1, ?_⟩
  rw [h3, ← h2]
  simp [U8, hk]
theorem slice_full (s : Tx) : sliceQ s 0 s.length = s := by unfold sliceQ; simp
theorem slice_end (s : Tx) (a : Nat) : sliceQ s a s.length = s.drop a := by unfold sliceQ; rw [List.take_of_length_le (by simp)]
theorem offs_app : ∀ (a b : List Tx) (o : Nat), offsF o (a ++ b) = offsF o a ++ offsF (o + a.flatten.length) b
  | [], b, o => rfl
  | l :: a, b, o => by
    show (o, o + l.length) :: offsF (o + l.length) (a ++ b) = _
    rw [offs_app a b]
    show _ = (o, o + l.length) :: (offsF (o + l.length) a ++ _)
    rw [List.flatten_cons, List.length_append, Nat.add_assoc]
/-- What stands ahead of a line, and the line. -/
theorem offs_pre : ∀ {ls : List Tx} {o : Nat} {pre : List (Nat × Nat)} {x : Nat × Nat}, (pre ++ [x]) <+: offsF o ls → ∃ a l b, ls = a ++ l :: b ∧ pre = offsF o a ∧ x = (o + a.flatten.length, o + a.flatten.length + l.length)
  | [], o, pre, x, h => by
    have := h.length_le
    simp [offsF] at this
  | l :: r, o, [], x, h => by
    obtain ⟨t, ht⟩ := h
    simp only [offsF, List.nil_append, List.singleton_append, List.cons.injEq] at ht
    exact ⟨[], l, r, rfl, rfl, by simpa using ht.1⟩
  | l :: r, o, y :: pre, x, h => by
    obtain ⟨t, ht⟩ := h
    simp only [offsF, List.cons_append, List.cons.injEq] at ht
    obtain ⟨a, l2, b, h1, h2, h3⟩ := offs_pre (ls := r) (o := o + l.length) (pre := pre) (x := x) ⟨t, by simpa using ht.2⟩
    refine ⟨l :: a, l2, b, by rw [h1]; rfl, by rw [h2, ht.1]; rfl, ?_⟩
    rw [h3, List.flatten_cons, List.length_append]
    simp [Nat.add_assoc]
theorem slice_at {s : Tx} {a b : List Tx} {l : Tx} (h : linesF s = a ++ l :: b) : sliceQ s a.flatten.length (a.flatten.length + l.length) = l ∧ a.flatten.length + l.length ≤ s.length := by
  have hs := linesF_flat s
  rw [h, List.flatten_append, List.flatten_cons] at hs
  refine ⟨?_, by rw [← hs]; simp⟩
  unfold sliceQ
  rw [← hs, List.drop_left' rfl, show a.flatten.length + l.length - a.flatten.length = l.length by omega, List.take_left' rfl]
theorem splitL_at {a b : List Tx} {l : Tx} (h : ∀ x ∈ a, ¬ EmptyL x) (hl : EmptyL l) : splitL (a ++ l :: b) = a.flatten.length + l.length := by
  induction a with
  | nil => show splitL (l :: b) = _; rw [splitL, if_pos hl]; simp
  | cons x r ih =>
    show splitL (x :: (r ++ l :: b)) = _
    rw [splitL, if_neg (h x (by simp)), ih fun y hy => h y (by simp [hy]), List.flatten_cons, List.length_append]
    omega
theorem splitL_none : ∀ {a : List Tx}, (∀ x ∈ a, ¬ EmptyL x) → splitL a = a.flatten.length
  | [], _ => rfl
  | x :: r, h => by
    rw [splitL, if_neg (h x (by simp)), splitL_none fun y hy => h y (by simp [hy]), List.flatten_cons, List.length_append]
theorem offs_none (l : List Tx) (o : Nat) : offsF o l = [] ↔ l = [] := by cases l <;> simp [offsF]
/-- What is told of lines up to some of them. -/
theorem offs_inj : ∀ {a b : List Tx} {o : Nat}, offsF o a = offsF o b → a.map List.length = b.map List.length
  | [], [], _, _ => rfl
  | [], _ :: _, _, h => by simp [offsF] at h
  | _ :: _, [], _, h => by simp [offsF] at h
  | x :: a, y :: b, o, h => by
    simp only [offsF, List.cons.injEq, Prod.mk.injEq] at h
    have e : x.length = y.length := by omega
    have h2 := h.2
    rw [e] at h2
    simp only [List.map_cons, e, offs_inj h2]

set_option maxRecDepth 100000 in
theorem empty_spec (A : Option Addr) (c : Nat) (l : Tx) (w : World) (h : Rd w 1 A l.length (U8 l)) : Calls Tryz.prog 52 #[.slice A l.length c] w fun e w' => e = .returned (.bool (decide (EmptyL l))) ∧ w = w' := by
  refine VC.calls (nt := 11) (res := #[.tmp 2]) Tryz.func52 rfl Tryz.ntmps52 Tryz.results52 rfl ?_
  refine VC.seq ?_
  refine VC.region ?_
  refine Ops.r (Run.asg rfl) rfl ?_
  refine Ops.nil ?_
  refine thenQ_n ?_
  refine VC.sub [(0, _)] (.cons rfl .nil) ?_
  refine VC.seq ?_
  refine VC.split1 [] .nil 2 (.bool (decide (EmptyL l))) ?_ ?_
  · refine VC.region ?_
    refine Ops.r (Run.mv rfl) rfl ?_
    refine Ops.r (Run.strOfT rfl Tryz.underlying22 Tryz.underlying5 Tryz.underlying9 h) rfl ?_
    refine Ops.r (Run.eqlT rfl rfl) rfl ?_
    by_cases hs5 : l = [10]
    · skip
      refine Ops.r (Run.mv rfl) rfl ?_
      refine Ops.sk rfl (by first | rfl | assumption | exact decide_eq_true (by assumption) | exact decide_eq_false (by assumption) | decide | (simp; done) | (simp; omega) | (simp [*]; done)) rfl ?_
      refine Ops.sk rfl (by first | rfl | assumption | exact decide_eq_true (by assumption) | exact decide_eq_false (by assumption) | decide | (simp; done) | (simp; omega) | (simp [*]; done)) rfl ?_
      refine Ops.sk rfl (by first | rfl | assumption | exact decide_eq_true (by assumption) | exact decide_eq_false (by assumption) | decide | (simp; done) | (simp; omega) | (simp [*]; done)) rfl ?_
      refine Ops.r (Run.pickT rfl rfl (by first | rfl | assumption | exact decide_eq_true (by assumption) | exact decide_eq_false (by assumption) | decide | (simp; done) | (simp; omega) | (simp [*]; done))) rfl ?_
      refine Ops.r (Run.asg rfl) rfl ?_
      refine Ops.nil ?_
      refine thenQ_n ⟨(.cons (congrArg (fun b => some (Value.bool b)) (by (rw [show decide (EmptyL l) = decide (l = [10] ∨ l = [13, 10]) from decide_eq_decide.2 Iff.rfl]; simp [*]))) .nil), rfl⟩
    · skip
      refine Ops.r (Run.mv rfl) rfl ?_
      refine Ops.rg rfl (by first | rfl | assumption | exact decide_eq_true (by assumption) | exact decide_eq_false (by assumption) | decide | (simp; done) | (simp; omega) | (simp [*]; done)) (Run.mv rfl) rfl ?_
      refine Ops.rg rfl (by first | rfl | assumption | exact decide_eq_true (by assumption) | exact decide_eq_false (by assumption) | decide | (simp; done) | (simp; omega) | (simp [*]; done)) (Run.strOfT rfl Tryz.underlying22 Tryz.underlying5 Tryz.underlying9 h) rfl ?_
      refine Ops.rg rfl (by first | rfl | assumption | exact decide_eq_true (by assumption) | exact decide_eq_false (by assumption) | decide | (simp; done) | (simp; omega) | (simp [*]; done)) (Run.eqlT rfl rfl) rfl ?_
      by_cases hs9 : l = [13, 10]
      · skip
        refine Ops.r (Run.pickF rfl rfl (by first | rfl | assumption | exact decide_eq_true (by assumption) | exact decide_eq_false (by assumption) | decide | (simp; done) | (simp; omega) | (simp [*]; done))) rfl ?_
        refine Ops.r (Run.asg rfl) rfl ?_
        refine Ops.nil ?_
        refine thenQ_n ⟨(.cons (congrArg (fun b => some (Value.bool b)) (by (rw [show decide (EmptyL l) = decide (l = [10] ∨ l = [13, 10]) from decide_eq_decide.2 Iff.rfl]; simp [*]))) .nil), rfl⟩
      · skip
        refine Ops.r (Run.pickF rfl rfl (by first | rfl | assumption | exact decide_eq_true (by assumption) | exact decide_eq_false (by assumption) | decide | (simp; done) | (simp; omega) | (simp [*]; done))) rfl ?_
        refine Ops.r (Run.asg rfl) rfl ?_
        refine Ops.nil ?_
        refine thenQ_n ⟨(.cons (congrArg (fun b => some (Value.bool b)) (by (rw [show decide (EmptyL l) = decide (l = [10] ∨ l = [13, 10]) from decide_eq_decide.2 Iff.rfl]; simp [*]))) .nil), rfl⟩
  · intro Γ hΓ
    refine thenQ_n (VC.sub _ hΓ ?_)
    refine VC.ret ?_
    refine end1 rfl ?_
    exact ⟨rfl, rfl⟩

set_option maxRecDepth 100000 in
theorem hblank_spec (x : UInt8) (w : World) : Calls Tryz.prog 53 #[.int .u8 ((x.toNat : Nat) : Int)] w fun e w' => e = .returned (.bool (decide (Bl x))) ∧ w = w' := by
  have hb := bl_nat x
  refine VC.calls (nt := 9) (res := #[.tmp 2]) Tryz.func53 rfl Tryz.ntmps53 Tryz.results53 rfl ?_
  refine VC.seq ?_
  refine VC.region ?_
  refine Ops.r (Run.asg rfl) rfl ?_
  refine Ops.nil ?_
  refine thenQ_n ?_
  refine VC.sub [(0, _)] (.cons rfl .nil) ?_
  refine VC.seq ?_
  refine VC.split1 [] .nil 2 (.bool (decide (Bl x))) ?_ ?_
  · refine VC.region ?_
    refine Ops.r (Run.mv rfl) rfl ?_
    refine Ops.r (Run.bin rfl rfl (Bin.eqlN _ 32)) rfl ?_
    by_cases hs4 : x.toNat = 32
    · skip
      refine Ops.r (Run.mv rfl) rfl ?_
      refine Ops.sk rfl (by first | rfl | assumption | exact decide_eq_true (by assumption) | exact decide_eq_false (by assumption) | decide | (simp; done) | (simp; omega) | (simp [*]; done)) rfl ?_
      refine Ops.sk rfl (by first | rfl | assumption | exact decide_eq_true (by assumption) | exact decide_eq_false (by assumption) | decide | (simp; done) | (simp; omega) | (simp [*]; done)) rfl ?_
      refine Ops.r (Run.pickT rfl rfl (by first | rfl | assumption | exact decide_eq_true (by assumption) | exact decide_eq_false (by assumption) | decide | (simp; done) | (simp; omega) | (simp [*]; done))) rfl ?_
      refine Ops.r (Run.asg rfl) rfl ?_
      refine Ops.nil ?_
      refine thenQ_n ⟨(.cons (congrArg (fun b => some (Value.bool b)) (by (rw [show decide (Bl x) = decide (x.toNat = 32 ∨ x.toNat = 9) from decide_eq_decide.2 hb]; simp [*]))) .nil), rfl⟩
    · skip
      refine Ops.r (Run.mv rfl) rfl ?_
      refine Ops.rg rfl (by first | rfl | assumption | exact decide_eq_true (by assumption) | exact decide_eq_false (by assumption) | decide | (simp; done) | (simp; omega) | (simp [*]; done)) (Run.mv rfl) rfl ?_
      refine Ops.rg rfl (by first | rfl | assumption | exact decide_eq_true (by assumption) | exact decide_eq_false (by assumption) | decide | (simp; done) | (simp; omega) | (simp [*]; done)) (Run.bin rfl rfl (Bin.eqlN _ 9)) rfl ?_
      by_cases hs7 : x.toNat = 9
      · skip
        refine Ops.r (Run.pickF rfl rfl (by first | rfl | assumption | exact decide_eq_true (by assumption) | exact decide_eq_false (by assumption) | decide | (simp; done) | (simp; omega) | (simp [*]; done))) rfl ?_
        refine Ops.r (Run.asg rfl) rfl ?_
        refine Ops.nil ?_
        refine thenQ_n ⟨(.cons (congrArg (fun b => some (Value.bool b)) (by (rw [show decide (Bl x) = decide (x.toNat = 32 ∨ x.toNat = 9) from decide_eq_decide.2 hb]; simp [*]))) .nil), rfl⟩
      · skip
        refine Ops.r (Run.pickF rfl rfl (by first | rfl | assumption | exact decide_eq_true (by assumption) | exact decide_eq_false (by assumption) | decide | (simp; done) | (simp; omega) | (simp [*]; done))) rfl ?_
        refine Ops.r (Run.asg rfl) rfl ?_
        refine Ops.nil ?_
        refine thenQ_n ⟨(.cons (congrArg (fun b => some (Value.bool b)) (by (rw [show decide (Bl x) = decide (x.toNat = 32 ∨ x.toNat = 9) from decide_eq_decide.2 hb]; simp [*]))) .nil), rfl⟩
  · intro Γ hΓ
    refine thenQ_n (VC.sub _ hΓ ?_)
    refine VC.ret ?_
    refine end1 rfl ?_
    exact ⟨rfl, rfl⟩

set_option maxRecDepth 100000 in
theorem hlines_iter (q : Tx) (A : Option Addr) (c g1 : Nat) (hs : q.length ≤ 1000000) (hc : q.length ≤ c) :
    Iter Tryz.prog 86 #[.pointer (some ⟨g1, 0, none⟩)] (fun x : Nat × Nat => #[.int .i64 ((x.1 : Nat) : Int), .int .i64 ((x.2 : Nat) : Int)]) [] (g1 :: obN A q.length) (fun w => Blk w g1 22 #[.slice A q.length c] ∧ Rd w 1 A q.length (U8 q)) (offsF 0 (linesF q)) := by
  intro l J Jx w hJ hJx hK hY h0
  obtain ⟨hb1, hrd⟩ := hK
  refine VC.calls (nt := 28) (res := #[]) Tryz.func86 rfl Tryz.ntmps86 Tryz.results86 rfl ?_
  refine VC.seq ?_
  refine VC.region ?_
  refine Ops.r (v := .int .i64 ((0 : Nat) : Int)) (Run.asg rfl) rfl ?_
  refine Ops.nil ?_
  refine thenQ_n ?_
  refine VC.block ?_
  refine VC.loop (σ := Nat × List (Nat × Nat)) (fun s1 => [(0, .func (.yield l) #[] #[]), (1, .pointer (some ⟨g1, 0, none⟩)), (3, .int .i64 ((s1.1 : Nat) : Int))]) (fun s1 wr => s1.1 ≤ q.length ∧ offsF 0 (linesF q) = s1.2 ++ offsF s1.1 (linesF (q.drop s1.1)) ∧ Blk wr g1 22 #[.slice A q.length c] ∧ Rd wr 1 A q.length (U8 q) ∧ J s1.2 wr) (fun s1 => q.length - s1.1) (0, []) (.cons rfl (.cons rfl (.cons rfl .nil))) ⟨by omega, rfl, hb1, hrd, h0⟩ ?_
  rintro ⟨i, pre⟩ wr ⟨hi, hsp, hb1, hrd, hj⟩
  dsimp only at hi hsp hj ⊢
  refine VC.seq ?_
  refine VC.seq ?_
  refine VC.region ?_
  refine Ops.r (Run.mv rfl) rfl ?_
  refine Ops.r (Run.load rfl Tryz.isAgg22 (hb1.cell 0)) rfl ?_
  refine Ops.r (Run.lenS rfl Tryz.underlying22) rfl ?_
  refine Ops.r (Run.bin rfl rfl (Bin.lssN _ _)) rfl ?_
  refine Ops.nil ?_
  refine thenQ_n ?_
  refine VC.sub [(0, _), (1, _), (3, _), (9, _)] (.cons rfl (.cons rfl (.cons rfl (.cons rfl .nil)))) ?_
  refine VC.condD rfl (fun hc1 => ?_) (fun hc1 => ?_)
  · skip
    have hr0 : q.drop i ≠ [] := fun h => by have := congrArg List.length h; simp at this; omega
    have hcut := U8_cut hrd (show i ≤ q.length by omega) (Nat.le_refl _) hc
    rw [slice_end] at hcut
    have hdl : (q.drop i).length = q.length - i := by simp
    refine VC.skip ?_
    refine thenQ_n ?_
    refine VC.sub [(0, _), (1, _), (3, _)] (.cons rfl (.cons rfl (.cons rfl .nil))) ?_
    refine VC.block ?_
    refine VC.seq ?_
    refine VC.region ?_
    refine Ops.r (Run.load rfl Tryz.isAgg22 (hb1.cell 0)) rfl ?_
    refine Ops.r (Run.lenS rfl Tryz.underlying22) rfl ?_
    refine Ops.r (Run.asg rfl) rfl ?_
    refine Ops.nil ?_
    refine thenQ_n ?_
    refine VC.sub [(0, _), (1, _), (3, _), (4, _)] (.cons rfl (.cons rfl (.cons rfl (.cons rfl .nil)))) ?_
    refine VC.seq ?_
    refine VC.seq ?_
    refine VC.region ?_
    refine Ops.r (Run.load rfl Tryz.isAgg22 (hb1.cell 0)) rfl ?_
    refine Ops.r (Run.mv rfl) rfl ?_
    refine Ops.r (Run.sliceS i q.length rfl Tryz.underlying22 Tryz.sizeOf5 (evB.some_ rfl) evB.none_ (by omega) hc) rfl ?_
    refine Ops.cl (Enters.fn (evs.cons rfl (evs.cons rfl evs.nil)) Tryz.call87) ((by rw [← hdl]; exact idxBytes_spec _ _ (q.drop i) 10 _ hcut hr0)) rfl ?_
    rintro e _ ⟨rfl, rfl⟩
    refine ⟨_, rfl, ?_⟩
    refine Ops.r (Run.asg rfl) rfl ?_
    refine Ops.nil ?_
    refine thenQ_n ?_
    refine VC.sub [(0, _), (1, _), (3, _), (4, _), (5, _)] (.cons rfl (.cons rfl (.cons rfl (.cons rfl (.cons rfl .nil))))) ?_
    refine VC.seq ?_
    refine VC.region ?_
    refine Ops.r (Run.mv rfl) rfl ?_
    refine Ops.r (Run.bin rfl rfl (Bin.geq _ 0)) rfl ?_
    refine Ops.nil ?_
    refine thenQ_n ?_
    refine VC.sub [(0, _), (1, _), (3, _), (4, _), (5, _), (17, _)] (.cons rfl (.cons rfl (.cons rfl (.cons rfl (.cons rfl (.cons rfl .nil)))))) ?_
    refine VC.meet (σ := Nat) (fun s1 => [(0, .func (.yield l) #[] #[]), (1, .pointer (some ⟨g1, 0, none⟩)), (3, .int .i64 ((i : Nat) : Int)), (4, .int .i64 ((s1 : Nat) : Int))]) (fun s1 wr2 => i < s1 ∧ s1 ≤ q.length ∧ offsF i (linesF (q.drop i)) = (i, s1) :: offsF s1 (linesF (q.drop s1)) ∧ wr = wr2) ?_ ?_
    · skip
      refine VC.condD rfl (fun hc2 => ?_) (fun hc2 => ?_)
      · skip
        obtain ⟨a, b, hab, hna, hix⟩ := (idxB_cases (q.drop i) 10).resolve_left (fun h => by rw [h.1] at hc2; omega)
        rw [hix]
        have hal : i + a.length + 1 ≤ q.length := by
          have := congrArg List.length hab
          simp at this
          omega
        have hcutl : offsF i (linesF (q.drop i)) = (i, i + a.length + 1) :: offsF (i + a.length + 1) (linesF (q.drop (i + a.length + 1))) := by
          have e : q.drop (i + a.length + 1) = b := by rw [show i + a.length + 1 = i + (a.length + 1) by omega, ← List.drop_drop, hab, List.drop_append, List.drop_eq_nil_of_le (by omega)]; simp
          rw [e, hab, linesF_cut b hna]
          show (i, i + (a ++ [10]).length) :: offsF (i + (a ++ [10]).length) _ = _
          rw [List.length_append]
          rfl
        refine VC.region ?_
        refine Ops.r (Run.mv rfl) rfl ?_
        refine Ops.r (Run.mv rfl) rfl ?_
        refine Ops.r (Run.bin rfl rfl (Bin.add_i64 i a.length (by omega))) rfl ?_
        refine Ops.r (Run.bin rfl rfl (Bin.add_i64 (i + a.length) 1 (by omega))) rfl ?_
        refine Ops.r (Run.asg rfl) rfl ?_
        refine Ops.nil ?_
        refine thenQ_n ⟨(i + a.length + 1), (.cons rfl (.cons rfl (.cons rfl (.cons rfl .nil)))), ?_⟩
        exact ⟨by omega, hal, hcutl, rfl⟩
      · skip
        have hna : (10 : UInt8) ∉ q.drop i := by
          rcases idxB_cases (q.drop i) 10 with ⟨_, h⟩ | ⟨a, b, _, _, hi⟩
          · exact h
          · rw [hi] at hc2; omega
        have hcutl : offsF i (linesF (q.drop i)) = (i, q.length) :: offsF q.length (linesF (q.drop q.length)) := by
          rw [linesF_last hr0 hna, List.drop_length]
          show [(i, i + (q.drop i).length)] = _
          rw [hdl, show i + (q.length - i) = q.length by omega]
          rfl
        refine VC.skip ?_
        refine thenQ_n ⟨q.length, (.cons rfl (.cons rfl (.cons rfl (.cons rfl .nil)))), ?_⟩
        exact ⟨hc1, Nat.le_refl _, hcutl, rfl⟩
    · skip
      rintro t _ ⟨hit, htl, hcutl, rfl⟩ Γ hΓ
      have hpre : (pre ++ [(i, t)]) <+: offsF 0 (linesF q) := ⟨offsF t (linesF (q.drop t)), by rw [hsp, hcutl]; simp⟩
      refine thenQ_n (VC.sub _ hΓ ?_)
      refine VC.seq ?_
      refine VC.seq ?_
      refine VC.region ?_
      refine Ops.r (Run.mv rfl) rfl ?_
      refine Ops.r (Run.mv rfl) rfl ?_
      refine Ops.r (Run.mv rfl) rfl ?_
      refine Ops.yield rfl rfl (evs.cons rfl (evs.cons rfl evs.nil)) ((by simpa using hY pre (i, t) wr hj hpre : YieldsTo Tryz.prog l #[_, _] wr _)) rfl rfl ?_
      rintro e w1 ⟨hoff, hR0⟩
      obtain ⟨yb, rfl, hR⟩ : ∃ yb : Bool, e = .returned (.bool yb) ∧ ((yb = true ∧ J (pre ++ [(i, t)]) w1) ∨ (yb = false ∧ Jx (pre ++ [(i, t)]) w1)) := by
        rcases hR0 with ⟨rfl, h⟩ | ⟨rfl, h⟩
        · exact ⟨true, rfl, .inl ⟨rfl, h⟩⟩
        · exact ⟨false, rfl, .inr ⟨rfl, h⟩⟩
      refine ⟨_, rfl, ?_⟩
      have hb1 := hoff.blk hb1 (by simp)
      have hrd := hoff.rd hrd (fun hn x hx => List.mem_cons_of_mem _ (obN_of hn hx))
      refine Ops.r (Run.not rfl) rfl ?_
      refine Ops.nil ?_
      refine thenQ_n ?_
      refine VC.sub [(0, _), (1, _), (4, _), (26, _)] (.cons rfl (.cons rfl (.cons rfl (.cons rfl .nil)))) ?_
      refine VC.condB rfl (fun hc3 => ?_) (fun hc3 => ?_)
      · skip
        refine VC.ret ?_
        refine thenQ_r (blockQ_r (thenQ_r (blockQ_r (end0 ?_))))
        exact ⟨⟨_, rfl⟩, .inr ⟨_, (hR.resolve_left (fun h => by rw [h.1] at hc3; simp at hc3)).2⟩⟩
      · skip
        refine VC.skip ?_
        refine thenQ_n ?_
        refine VC.sub [(0, _), (1, _), (4, _)] (.cons rfl (.cons rfl (.cons rfl .nil))) ?_
        refine VC.region ?_
        refine Ops.r (Run.mv rfl) rfl ?_
        refine Ops.r (Run.asg rfl) rfl ?_
        refine Ops.nil ?_
        refine blockQ_n (thenQ_n ⟨(t, pre ++ [(i, t)]), (.cons rfl (.cons rfl (.cons rfl .nil))), ?_, ?_⟩)
        · skip
          exact ⟨htl, by rw [hsp, hcutl]; simp, hb1, hrd, (hR.resolve_right (fun h => by rw [h.1] at hc3; simp at hc3)).2⟩
        · skip
          simp only; omega
  · skip
    have hil : i = q.length := by omega
    have hfin : offsF 0 (linesF q) = pre := by rw [hsp, hil, List.drop_length]; simp [linesF, offsF]
    refine VC.exit ?_
    refine thenQ_x (thenQ_x (blockQ_x ?_))
    refine end0n ?_
    exact ⟨⟨_, rfl⟩, .inl (by rw [hfin]; exact hj)⟩

set_option maxRecDepth 100000 in
theorem hlines_spec (A : Option Addr) (n c : Nat) (w : World) : Calls Tryz.prog 50 #[.slice A n c] w fun e w' => Frm [] w w' ∧ ∃ g1, e = .returned (.func (.func 86) #[] #[.pointer (some ⟨g1, 0, none⟩)]) ∧ Blk w' g1 22 #[.slice A n c] ∧ w.heap.size ≤ g1 ∧ g1 < w'.heap.size := by
  refine VC.calls (nt := 4) (res := #[.tmp 2]) Tryz.func50 rfl Tryz.ntmps50 Tryz.results50 rfl ?_
  refine VC.seq ?_
  refine VC.region ?_
  refine Ops.m (Does.box rfl) rfl ?_
  rintro _ w1 ⟨rfl, hF1⟩
  have hb1 := hF1.blk
  refine Ops.r (Run.asg rfl) rfl ?_
  refine Ops.nil ?_
  refine thenQ_n ?_
  refine VC.sub [(1, _)] (.cons rfl .nil) ?_
  refine VC.seq ?_
  refine VC.region ?_
  refine Ops.r (Run.mkFunc evs.nil (evs.cons rfl evs.nil)) rfl ?_
  refine Ops.r (Run.asg rfl) rfl ?_
  refine Ops.nil ?_
  refine thenQ_n ?_
  refine VC.sub [(2, _)] (.cons rfl .nil) ?_
  refine VC.ret ?_
  refine end1 rfl ?_
  exact ⟨hF1.frm, _, rfl, hb1, Nat.le_refl _, hb1.lt⟩

end Go.Proofs.YtenbjndldenkfaaGreatDoor
