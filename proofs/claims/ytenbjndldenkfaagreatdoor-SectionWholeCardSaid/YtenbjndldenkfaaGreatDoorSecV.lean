/-
  May a section be told?
-/
import Derived.Test.YtenbjndldenkfaaGreatDoorSecW
import Derived.Test.YtenbjndldenkfaaGreatDoorParV
namespace Go.Proofs.YtenbjndldenkfaaGreatDoor
open Go.RowKit Go.Sort


theorem SB_at1 {w : World} {A : Option Addr} {l : List Tx} {k : Nat} (h : Rd w 1 A l.length (SB l)) (hk : k < l.length) : ∃ ad, A = some ad ∧ w.cell? (ad.add (k * 1)) = some (encStr l[k]) := by
  rw [Nat.mul_one]
  exact SB_at h hk

def hdrT : Tx := [72, 69, 65, 68, 69, 82]
def txtT : Tx := [84, 69, 88, 84]
def mimT : Tx := [77, 73, 77, 69]
def fldT : Tx := [72, 69, 65, 68, 69, 82, 46, 70, 73, 69, 76, 68, 83]
def othT : Tx := [72, 69, 65, 68, 69, 82, 46, 70, 73, 69, 76, 68, 83, 46, 78, 79, 84]
/-- A section: its path, what of the part, the names. -/
structure Wnt where
  path : List Int
  what : Tx
  names : List Tx
def BadN (n : Int) : Prop := n < 1 ∨ 64 < n
instance (n : Int) : Decidable (BadN n) := by unfold BadN; infer_instance
def NamedW (s : Tx) : Prop := s = fldT ∨ s = othT
instance (s : Tx) : Decidable (NamedW s) := by unfold NamedW; infer_instance
def KindW (v : Wnt) : Prop := v.what = [] ∨ v.what = hdrT ∨ v.what = txtT ∨ v.what = fldT ∨ v.what = othT ∨ (v.what = mimT ∧ 0 < v.path.length)
instance (v : Wnt) : Decidable (KindW v) := by unfold KindW; infer_instance
def MayW (v : Wnt) : Prop := ¬ (8 < v.path.length ∨ ∃ n ∈ v.path, BadN n) ∧ ¬ ((16 < v.names.length ∨ ¬ (NamedW v.what ↔ 0 < v.names.length)) ∨ ∃ s ∈ v.names, ¬ TokQ s) ∧ KindW v
instance (v : Wnt) : Decidable (MayW v) := by unfold MayW; infer_instance
def WtC (v : Wnt) (A : Option Addr) (c : Nat) (B : Option Addr) (d : Nat) : Array Value := #[.slice A v.path.length c, encStr v.what, .slice B v.names.length d]

set_option maxRecDepth 100000 in
theorem mayN_spec (n : Int) (w : World) : Calls Tryz.prog 73 #[.int .i64 n] w fun e w' => e = .returned (.bool (decide (BadN n))) ∧ w = w' := by
  refine VC.calls (nt := 9) (res := #[.tmp 2]) Tryz.func73 rfl Tryz.ntmps73 Tryz.results73 rfl ?_
  refine VC.seq ?_
  refine VC.region ?_
  refine Ops.r (Run.asg rfl) rfl ?_
  refine Ops.nil ?_
  refine thenQ_n ?_
  refine VC.sub [(0, _)] (.cons rfl .nil) ?_
  refine VC.seq ?_
  refine VC.split1 [] .nil 2 (.bool (decide (BadN n))) ?_ ?_
  · refine VC.region ?_
    refine Ops.r (Run.mv rfl) rfl ?_
    refine Ops.r (Run.bin rfl rfl (Bin.lss _ 1)) rfl ?_
    by_cases hs4 : n < 1
    · skip
      refine Ops.r (Run.mv rfl) rfl ?_
      refine Ops.sk rfl (by first | rfl | assumption | exact decide_eq_true (by assumption) | exact decide_eq_false (by assumption) | decide | (simp; done) | (simp; omega) | (simp [*]; done)) rfl ?_
      refine Ops.sk rfl (by first | rfl | assumption | exact decide_eq_true (by assumption) | exact decide_eq_false (by assumption) | decide | (simp; done) | (simp; omega) | (simp [*]; done)) rfl ?_
      refine Ops.r (Run.pickT rfl rfl (by first | rfl | assumption | exact decide_eq_true (by assumption) | exact decide_eq_false (by assumption) | decide | (simp; done) | (simp; omega) | (simp [*]; done))) rfl ?_
      refine Ops.r (Run.asg rfl) rfl ?_
      refine Ops.nil ?_
      refine thenQ_n ⟨(.cons (congrArg (fun b => some (Value.bool b)) (by first | exact (decide_eq_true (show BadN n from .inl hs4)).symm | exact (decide_eq_true hs7).trans (decide_eq_true (show BadN n from .inr hs7)).symm | exact (decide_eq_false hs7).trans (decide_eq_false (show ¬ BadN n from fun h => h.elim hs4 hs7)).symm)) .nil), rfl⟩
    · skip
      refine Ops.r (Run.mv rfl) rfl ?_
      refine Ops.rg rfl (by first | rfl | assumption | exact decide_eq_true (by assumption) | exact decide_eq_false (by assumption) | decide | (simp; done) | (simp; omega) | (simp [*]; done)) (Run.mv rfl) rfl ?_
      refine Ops.rg rfl (by first | rfl | assumption | exact decide_eq_true (by assumption) | exact decide_eq_false (by assumption) | decide | (simp; done) | (simp; omega) | (simp [*]; done)) (Run.bin rfl rfl (Bin.gtr _ 64)) rfl ?_
      by_cases hs7 : 64 < n
      · skip
        refine Ops.r (Run.pickF rfl rfl (by first | rfl | assumption | exact decide_eq_true (by assumption) | exact decide_eq_false (by assumption) | decide | (simp; done) | (simp; omega) | (simp [*]; done))) rfl ?_
        refine Ops.r (Run.asg rfl) rfl ?_
        refine Ops.nil ?_
        refine thenQ_n ⟨(.cons (congrArg (fun b => some (Value.bool b)) (by first | exact (decide_eq_true (show BadN n from .inl hs4)).symm | exact (decide_eq_true hs7).trans (decide_eq_true (show BadN n from .inr hs7)).symm | exact (decide_eq_false hs7).trans (decide_eq_false (show ¬ BadN n from fun h => h.elim hs4 hs7)).symm)) .nil), rfl⟩
      · skip
        refine Ops.r (Run.pickF rfl rfl (by first | rfl | assumption | exact decide_eq_true (by assumption) | exact decide_eq_false (by assumption) | decide | (simp; done) | (simp; omega) | (simp [*]; done))) rfl ?_
        refine Ops.r (Run.asg rfl) rfl ?_
        refine Ops.nil ?_
        refine thenQ_n ⟨(.cons (congrArg (fun b => some (Value.bool b)) (by first | exact (decide_eq_true (show BadN n from .inl hs4)).symm | exact (decide_eq_true hs7).trans (decide_eq_true (show BadN n from .inr hs7)).symm | exact (decide_eq_false hs7).trans (decide_eq_false (show ¬ BadN n from fun h => h.elim hs4 hs7)).symm)) .nil), rfl⟩
  · intro Γ hΓ
    refine thenQ_n (VC.sub _ hΓ ?_)
    refine VC.ret ?_
    refine end1 rfl ?_
    exact ⟨rfl, rfl⟩

set_option maxRecDepth 100000 in
theorem idxI (A : Option Addr) (c : Nat) (l : List Int) (w : World) (hl : Rd w 1 A l.length (PI l)) (hn : l.length ≤ 1000000) :
    Calls Tryz.prog 111 #[.slice A l.length c, .func (.func 73) #[] #[]] w fun e w' => w = w' ∧ ∃ k : Int, e = .returned (.int .i64 k) ∧ (0 ≤ k ↔ ∃ n ∈ l, BadN n) := by
  refine VC.calls (nt := 19) (res := #[.tmp 4]) Tryz.func111 rfl Tryz.ntmps111 Tryz.results111 rfl ?_
  refine VC.seq ?_
  refine VC.region ?_
  refine Ops.r (v := .int .i64 ((0 : Nat) : Int)) (Run.asg rfl) rfl ?_
  refine Ops.nil ?_
  refine thenQ_n ?_
  refine VC.sub [(0, _), (1, _)] (.cons rfl (.cons rfl .nil)) ?_
  refine VC.seq ?_
  refine VC.seq ?_
  refine VC.region ?_
  refine Ops.r (Run.mv rfl) rfl ?_
  refine Ops.r (Run.lenS rfl Tryz.underlying33) rfl ?_
  refine Ops.r (v := .int .i64 ((0 : Nat) : Int)) (Run.mv rfl) rfl ?_
  refine Ops.nil ?_
  refine thenQ_n ?_
  refine VC.sub [(0, _), (1, _), (7, _), (8, _)] (.cons rfl (.cons rfl (.cons rfl (.cons rfl .nil)))) ?_
  refine VC.block ?_
  refine VC.loop (σ := Nat) (fun s => [(0, .slice A l.length c), (1, .func (.func 73) #[] #[]), (7, .int .i64 ((l.length : Nat) : Int)), (8, .int .i64 ((s : Nat) : Int))]) (fun s wr => s ≤ l.length ∧ w = wr ∧ ∀ x ∈ l.take s, ¬ (BadN x)) (fun s => l.length - s) 0 (.cons rfl (.cons rfl (.cons rfl (.cons rfl .nil)))) ⟨by omega, rfl, by simp⟩ ?_
  rintro i _ ⟨hi, rfl, hno⟩
  refine VC.seq ?_
  refine VC.region ?_
  refine Ops.r (Run.bin rfl rfl (Bin.lssN _ _)) rfl ?_
  refine Ops.nil ?_
  refine thenQ_n ?_
  refine VC.seq ?_
  refine VC.condD rfl (fun hc1 => ?_) (fun hc1 => ?_)
  · skip
    obtain ⟨ad, rfl, hcell⟩ := PI_at hl hc1
    have hts := take_snoc hc1
    have hmem := List.getElem_mem hc1
    generalize hx : l[i] = x at *
    refine VC.skip ?_
    refine thenQ_n ?_
    refine VC.sub [(0, _), (1, _), (7, _), (8, _)] (.cons rfl (.cons rfl (.cons rfl (.cons rfl .nil)))) ?_
    refine VC.seq ?_
    refine VC.block ?_
    refine VC.seq ?_
    refine VC.region ?_
    refine Ops.r (Run.mv rfl) rfl ?_
    refine Ops.r (Run.asg rfl) rfl ?_
    refine Ops.nil ?_
    refine thenQ_n ?_
    refine VC.sub [(0, _), (1, _), (5, _), (7, _), (8, _)] (.cons rfl (.cons rfl (.cons rfl (.cons rfl (.cons rfl .nil))))) ?_
    refine VC.seq ?_
    refine VC.region ?_
    refine Ops.r (Run.mv rfl) rfl ?_
    refine Ops.r (Run.mv rfl) rfl ?_
    refine Ops.r (Run.mv rfl) rfl ?_
    refine Ops.r (Run.indexS i rfl rfl Tryz.underlying33 Tryz.sizeOf3 hc1) rfl ?_
    refine Ops.r (Run.load rfl Tryz.isAgg3 hcell) rfl ?_
    refine Ops.cl (Enters.dyn rfl (evs.cons rfl evs.nil) Tryz.call73) ((mayN_spec x _)) rfl ?_
    rintro e _ ⟨rfl, rfl⟩
    refine ⟨_, rfl, ?_⟩
    refine Ops.nil ?_
    refine thenQ_n ?_
    refine VC.sub [(0, _), (1, _), (5, _), (7, _), (8, _), (16, _)] (.cons rfl (.cons rfl (.cons rfl (.cons rfl (.cons rfl (.cons rfl .nil)))))) ?_
    refine VC.condB rfl (fun hc2 => ?_) (fun hc2 => ?_)
    · skip
      refine VC.seq ?_
      refine VC.region ?_
      refine Ops.r (Run.mv rfl) rfl ?_
      refine Ops.r (Run.asg rfl) rfl ?_
      refine Ops.nil ?_
      refine thenQ_n ?_
      refine VC.sub [(4, _)] (.cons rfl .nil) ?_
      refine VC.ret ?_
      refine blockQ_r (thenQ_r (thenQ_r (blockQ_r (thenQ_r (end1 rfl ?_)))))
      exact ⟨rfl, _, rfl, ⟨fun _ => ⟨x, hmem, of_decide_eq_true hc2⟩, fun _ => by omega⟩⟩
    · skip
      refine VC.skip ?_
      refine blockQ_n (thenQ_n ?_)
      refine VC.sub [(0, _), (1, _), (7, _), (8, _)] (.cons rfl (.cons rfl (.cons rfl (.cons rfl .nil)))) ?_
      refine VC.region ?_
      refine Ops.r (Run.bin rfl rfl (Bin.add_i64 _ 1 (by omega))) rfl ?_
      refine Ops.r (Run.mv rfl) rfl ?_
      refine Ops.nil ?_
      refine thenQ_n ⟨(i + 1), (.cons rfl (.cons rfl (.cons rfl (.cons rfl .nil)))), ?_, ?_⟩
      · skip
        refine ⟨hc1, rfl, fun y hy => ?_⟩
        rw [hts] at hy
        rcases List.mem_append.1 hy with h | h
        · exact hno y h
        · simp only [List.mem_singleton] at h; subst h; exact of_decide_eq_false hc2
      · skip
        first | omega | (dsimp only; omega)
  · skip
    have hil : i = l.length := by omega
    rw [hil, List.take_length] at hno
    refine VC.exit ?_
    refine thenQ_x (thenQ_x (blockQ_x ?_))
    refine thenQ_n ?_
    refine VC.sub [] .nil ?_
    refine VC.seq ?_
    refine VC.region ?_
    refine Ops.r (v := .int .i64 (-1)) (Run.asg rfl) rfl ?_
    refine Ops.nil ?_
    refine thenQ_n ?_
    refine VC.ret ?_
    refine end1 rfl ?_
    exact ⟨rfl, _, rfl, ⟨fun h => by omega, fun ⟨y, hy, hb⟩ => absurd hb (hno y hy)⟩⟩

set_option maxRecDepth 100000 in
theorem idxI_has (A : Option Addr) (c : Nat) (l : List Int) (w : World) (hl : Rd w 1 A l.length (PI l)) (hn : l.length ≤ 1000000) :
    Calls Tryz.prog 72 #[.slice A l.length c, .func (.func 73) #[] #[]] w fun e w' => e = .returned (.bool (decide (∃ n ∈ l, BadN n))) ∧ w = w' := by
  refine VC.calls (nt := 9) (res := #[.tmp 4]) Tryz.func72 rfl Tryz.ntmps72 Tryz.results72 rfl ?_
  refine VC.seq ?_
  refine VC.region ?_
  refine Ops.r (Run.asg rfl) rfl ?_
  refine Ops.nil ?_
  refine thenQ_n ?_
  refine VC.sub [(0, _), (1, _)] (.cons rfl (.cons rfl .nil)) ?_
  refine VC.seq ?_
  refine VC.region ?_
  refine Ops.r (Run.mv rfl) rfl ?_
  refine Ops.r (Run.mv rfl) rfl ?_
  refine Ops.cl (Enters.fn (evs.cons rfl (evs.cons rfl evs.nil)) Tryz.call111) ((idxI A c l _ hl hn)) rfl ?_
  rintro e _ ⟨rfl, k, rfl, hk⟩
  refine ⟨_, rfl, ?_⟩
  refine Ops.r (Run.bin rfl rfl (Bin.geq _ 0)) rfl ?_
  refine Ops.r (Run.asg rfl) rfl ?_
  refine Ops.nil ?_
  refine thenQ_n ?_
  refine VC.sub [(4, _)] (.cons rfl .nil) ?_
  refine VC.ret ?_
  refine end1 rfl ?_
  exact ⟨by rw [decide_eq_decide.2 hk], rfl⟩

set_option maxRecDepth 100000 in
theorem mayS_spec (q : Tx) (w : World) (hq : q.length ≤ 1000000) : Calls Tryz.prog 75 #[encStr q] w fun e w' => e = .returned (.bool (decide (¬ TokQ q))) ∧ w = w' := by
  refine VC.calls (nt := 6) (res := #[.tmp 2]) Tryz.func75 rfl Tryz.ntmps75 Tryz.results75 rfl ?_
  refine VC.seq ?_
  refine VC.region ?_
  refine Ops.r (Run.asg rfl) rfl ?_
  refine Ops.nil ?_
  refine thenQ_n ?_
  refine VC.sub [(0, _)] (.cons rfl .nil) ?_
  refine VC.seq ?_
  refine VC.region ?_
  refine Ops.r (Run.mv rfl) rfl ?_
  refine Ops.cl (Enters.fn (evs.cons rfl evs.nil) Tryz.call76) ((token_spec q _ hq)) rfl ?_
  rintro e _ ⟨rfl, rfl⟩
  refine ⟨_, rfl, ?_⟩
  refine Ops.r (Run.not rfl) rfl ?_
  refine Ops.r (Run.asg rfl) rfl ?_
  refine Ops.nil ?_
  refine thenQ_n ?_
  refine VC.sub [(2, _)] (.cons rfl .nil) ?_
  refine VC.ret ?_
  refine end1 rfl ?_
  exact ⟨by by_cases h : TokQ q <;> simp [h], rfl⟩

set_option maxRecDepth 100000 in
theorem idxS (A : Option Addr) (c : Nat) (l : List Tx) (w : World) (hl : Rd w 1 A l.length (SB l)) (hn : l.length ≤ 1000000) (hs : ∀ s ∈ l, s.length ≤ 1000000) :
    Calls Tryz.prog 112 #[.slice A l.length c, .func (.func 75) #[] #[]] w fun e w' => w = w' ∧ ∃ k : Int, e = .returned (.int .i64 k) ∧ (0 ≤ k ↔ ∃ n ∈ l, ¬ TokQ n) := by
  refine VC.calls (nt := 19) (res := #[.tmp 4]) Tryz.func112 rfl Tryz.ntmps112 Tryz.results112 rfl ?_
  refine VC.seq ?_
  refine VC.region ?_
  refine Ops.r (v := .int .i64 ((0 : Nat) : Int)) (Run.asg rfl) rfl ?_
  refine Ops.nil ?_
  refine thenQ_n ?_
  refine VC.sub [(0, _), (1, _)] (.cons rfl (.cons rfl .nil)) ?_
  refine VC.seq ?_
  refine VC.seq ?_
  refine VC.region ?_
  refine Ops.r (Run.mv rfl) rfl ?_
  refine Ops.r (Run.lenS rfl Tryz.underlying36) rfl ?_
  refine Ops.r (v := .int .i64 ((0 : Nat) : Int)) (Run.mv rfl) rfl ?_
  refine Ops.nil ?_
  refine thenQ_n ?_
  refine VC.sub [(0, _), (1, _), (7, _), (8, _)] (.cons rfl (.cons rfl (.cons rfl (.cons rfl .nil)))) ?_
  refine VC.block ?_
  refine VC.loop (σ := Nat) (fun s => [(0, .slice A l.length c), (1, .func (.func 75) #[] #[]), (7, .int .i64 ((l.length : Nat) : Int)), (8, .int .i64 ((s : Nat) : Int))]) (fun s wr => s ≤ l.length ∧ w = wr ∧ ∀ x ∈ l.take s, ¬ (¬ TokQ x)) (fun s => l.length - s) 0 (.cons rfl (.cons rfl (.cons rfl (.cons rfl .nil)))) ⟨by omega, rfl, by simp⟩ ?_
  rintro i _ ⟨hi, rfl, hno⟩
  refine VC.seq ?_
  refine VC.region ?_
  refine Ops.r (Run.bin rfl rfl (Bin.lssN _ _)) rfl ?_
  refine Ops.nil ?_
  refine thenQ_n ?_
  refine VC.seq ?_
  refine VC.condD rfl (fun hc1 => ?_) (fun hc1 => ?_)
  · skip
    obtain ⟨ad, rfl, hcell⟩ := SB_at1 hl hc1
    have hts := take_snoc hc1
    have hmem := List.getElem_mem hc1
    generalize hx : l[i] = x at *
    refine VC.skip ?_
    refine thenQ_n ?_
    refine VC.sub [(0, _), (1, _), (7, _), (8, _)] (.cons rfl (.cons rfl (.cons rfl (.cons rfl .nil)))) ?_
    refine VC.seq ?_
    refine VC.block ?_
    refine VC.seq ?_
    refine VC.region ?_
    refine Ops.r (Run.mv rfl) rfl ?_
    refine Ops.r (Run.asg rfl) rfl ?_
    refine Ops.nil ?_
    refine thenQ_n ?_
    refine VC.sub [(0, _), (1, _), (5, _), (7, _), (8, _)] (.cons rfl (.cons rfl (.cons rfl (.cons rfl (.cons rfl .nil))))) ?_
    refine VC.seq ?_
    refine VC.region ?_
    refine Ops.r (Run.mv rfl) rfl ?_
    refine Ops.r (Run.mv rfl) rfl ?_
    refine Ops.r (Run.mv rfl) rfl ?_
    refine Ops.r (Run.indexS i rfl rfl Tryz.underlying36 Tryz.sizeOf9 hc1) rfl ?_
    refine Ops.r (Run.load rfl Tryz.isAgg9 hcell) rfl ?_
    refine Ops.cl (Enters.dyn rfl (evs.cons rfl evs.nil) Tryz.call75) ((mayS_spec x _ (hs x hmem))) rfl ?_
    rintro e _ ⟨rfl, rfl⟩
    refine ⟨_, rfl, ?_⟩
    refine Ops.nil ?_
    refine thenQ_n ?_
    refine VC.sub [(0, _), (1, _), (5, _), (7, _), (8, _), (16, _)] (.cons rfl (.cons rfl (.cons rfl (.cons rfl (.cons rfl (.cons rfl .nil)))))) ?_
    refine VC.condB rfl (fun hc2 => ?_) (fun hc2 => ?_)
    · skip
      refine VC.seq ?_
      refine VC.region ?_
      refine Ops.r (Run.mv rfl) rfl ?_
      refine Ops.r (Run.asg rfl) rfl ?_
      refine Ops.nil ?_
      refine thenQ_n ?_
      refine VC.sub [(4, _)] (.cons rfl .nil) ?_
      refine VC.ret ?_
      refine blockQ_r (thenQ_r (thenQ_r (blockQ_r (thenQ_r (end1 rfl ?_)))))
      exact ⟨rfl, _, rfl, ⟨fun _ => ⟨x, hmem, of_decide_eq_true hc2⟩, fun _ => by omega⟩⟩
    · skip
      refine VC.skip ?_
      refine blockQ_n (thenQ_n ?_)
      refine VC.sub [(0, _), (1, _), (7, _), (8, _)] (.cons rfl (.cons rfl (.cons rfl (.cons rfl .nil)))) ?_
      refine VC.region ?_
      refine Ops.r (Run.bin rfl rfl (Bin.add_i64 _ 1 (by omega))) rfl ?_
      refine Ops.r (Run.mv rfl) rfl ?_
      refine Ops.nil ?_
      refine thenQ_n ⟨(i + 1), (.cons rfl (.cons rfl (.cons rfl (.cons rfl .nil)))), ?_, ?_⟩
      · skip
        refine ⟨hc1, rfl, fun y hy => ?_⟩
        rw [hts] at hy
        rcases List.mem_append.1 hy with h | h
        · exact hno y h
        · simp only [List.mem_singleton] at h; subst h; exact of_decide_eq_false hc2
      · skip
        first | omega | (dsimp only; omega)
  · skip
    have hil : i = l.length := by omega
    rw [hil, List.take_length] at hno
    refine VC.exit ?_
    refine thenQ_x (thenQ_x (blockQ_x ?_))
    refine thenQ_n ?_
    refine VC.sub [] .nil ?_
    refine VC.seq ?_
    refine VC.region ?_
    refine Ops.r (v := .int .i64 (-1)) (Run.asg rfl) rfl ?_
    refine Ops.nil ?_
    refine thenQ_n ?_
    refine VC.ret ?_
    refine end1 rfl ?_
    exact ⟨rfl, _, rfl, ⟨fun h => by omega, fun ⟨y, hy, hb⟩ => absurd hb (hno y hy)⟩⟩

set_option maxRecDepth 100000 in
theorem idxS_has (A : Option Addr) (c : Nat) (l : List Tx) (w : World) (hl : Rd w 1 A l.length (SB l)) (hn : l.length ≤ 1000000) (hs : ∀ s ∈ l, s.length ≤ 1000000) :
    Calls Tryz.prog 74 #[.slice A l.length c, .func (.func 75) #[] #[]] w fun e w' => e = .returned (.bool (decide (∃ n ∈ l, ¬ TokQ n))) ∧ w = w' := by
  refine VC.calls (nt := 9) (res := #[.tmp 4]) Tryz.func74 rfl Tryz.ntmps74 Tryz.results74 rfl ?_
  refine VC.seq ?_
  refine VC.region ?_
  refine Ops.r (Run.asg rfl) rfl ?_
  refine Ops.nil ?_
  refine thenQ_n ?_
  refine VC.sub [(0, _), (1, _)] (.cons rfl (.cons rfl .nil)) ?_
  refine VC.seq ?_
  refine VC.region ?_
  refine Ops.r (Run.mv rfl) rfl ?_
  refine Ops.r (Run.mv rfl) rfl ?_
  refine Ops.cl (Enters.fn (evs.cons rfl (evs.cons rfl evs.nil)) Tryz.call112) ((idxS A c l _ hl hn hs)) rfl ?_
  rintro e _ ⟨rfl, k, rfl, hk⟩
  refine ⟨_, rfl, ?_⟩
  refine Ops.r (Run.bin rfl rfl (Bin.geq _ 0)) rfl ?_
  refine Ops.r (Run.asg rfl) rfl ?_
  refine Ops.nil ?_
  refine thenQ_n ?_
  refine VC.sub [(4, _)] (.cons rfl .nil) ?_
  refine VC.ret ?_
  refine end1 rfl ?_
  exact ⟨by rw [decide_eq_decide.2 hk], rfl⟩

end Go.Proofs.YtenbjndldenkfaaGreatDoor
