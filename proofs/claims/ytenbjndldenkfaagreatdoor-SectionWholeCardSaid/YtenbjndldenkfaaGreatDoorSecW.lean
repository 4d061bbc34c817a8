/-
  The part of a path.
-/
import Derived.Test.YtenbjndldenkfaaGreatDoorPartO
import Derived.Test.YtenbjndldenkfaaGreatDoorSecQ
namespace Go.Proofs.YtenbjndldenkfaaGreatDoor
open Go.RowKit Go.Sort

theorem Bin.subW (x y : Int) : Bin .sub .i64 x .i64 y (.int .i64 (IntKind.i64.wrap (x - y))) := fun P T w => by simp [binOp, Op.intArith]
theorem wrap_in {n : Int} (h1 : -9223372036854775808 ≤ n) (h2 : n ≤ 9223372036854775807) : IntKind.i64.wrap n = n := wrap_fit _ _ (by simp only [bmin]; omega) (by simp only [bmax]; omega)
def PI (l : List Int) : List Value := l.map (Value.int .i64)
theorem PI_at {w : World} {A : Option Addr} {l : List Int} {k : Nat} (h : Rd w 1 A l.length (PI l)) (hk : k < l.length) : ∃ ad, A = some ad ∧ w.cell? (ad.add (k * 1)) = some (.int .i64 l[k]) := by
  obtain ⟨ad, rfl, hlt, hc⟩ := h.2 (by omega)
  refine ⟨ad, rfl, ?_⟩
  rw [Nat.mul_one]
  exact hc k _ (by simp [PI, List.getElem?_eq_getElem hk])

set_option maxRecDepth 100000 in
theorem kid_spec (A : Option Addr) (c : Nat) (l : List Pc) (i n : Int) (w : World) (hrd : Rd w 9 A l.length (PP l)) (hl : l.length ≤ 1000) (hn1 : -9223372036854775808 ≤ n) (hn2 : n ≤ 9223372036854775807) :
    Calls Tryz.prog 65 #[.slice A l.length c, .int .i64 i, .int .i64 n] w fun e w' => e = .returned (.int .i64 (kidQ (l.map (·.1)) i n)) ∧ Frm [] w w' := by
  refine VC.calls (nt := 26) (res := #[.tmp 6]) Tryz.func65 rfl Tryz.ntmps65 Tryz.results65 rfl ?_
  refine VC.seq ?_
  refine VC.region ?_
  refine Ops.r (v := .int .i64 ((0 : Nat) : Int)) (Run.asg rfl) rfl ?_
  refine Ops.nil ?_
  refine thenQ_n ?_
  refine VC.sub [(0, _), (1, _), (2, _)] (.cons rfl (.cons rfl (.cons rfl .nil))) ?_
  refine VC.seq ?_
  refine VC.seq ?_
  refine VC.region ?_
  refine Ops.r (Run.mv rfl) rfl ?_
  refine Ops.r (Run.lenS rfl Tryz.underlying60) rfl ?_
  refine Ops.r (v := .int .i64 ((0 : Nat) : Int)) (Run.mv rfl) rfl ?_
  refine Ops.nil ?_
  refine thenQ_n ?_
  refine VC.sub [(1, _), (2, _), (9, _), (10, _), (11, _)] (.cons rfl (.cons rfl (.cons rfl (.cons rfl (.cons rfl .nil))))) ?_
  refine VC.block ?_
  refine VC.loop (σ := Nat × Int) (fun s => [(1, .int .i64 i), (2, .int .i64 (IntKind.i64.wrap s.2)), (9, .slice A l.length c), (10, .int .i64 ((l.length : Nat) : Int)), (11, .int .i64 ((s.1 : Nat) : Int))]) (fun s wr => s.1 ≤ l.length ∧ n - s.1 ≤ s.2 ∧ s.2 ≤ n ∧ kidL i ((l.map (·.1)).drop s.1) s.1 s.2 = kidQ (l.map (·.1)) i n ∧ Frm [] w wr) (fun s => l.length - s.1) (0, n) (.cons rfl (.cons (by rw [wrap_in hn1 hn2]; rfl) (.cons rfl (.cons rfl (.cons rfl .nil))))) ⟨by omega, by simp, by simp, rfl, Frm.refl _ _⟩ ?_
  rintro ⟨k, m⟩ wr ⟨hk, hm1, hm2, hq, K⟩
  dsimp only at hk hm1 hm2 hq K ⊢
  have hml : (l.map (·.1)).length = l.length := by simp
  refine VC.seq ?_
  refine VC.region ?_
  refine Ops.r (Run.bin rfl rfl (Bin.lssN _ _)) rfl ?_
  refine Ops.nil ?_
  refine thenQ_n ?_
  refine VC.seq ?_
  refine VC.condD rfl (fun hc1 => ?_) (fun hc1 => ?_)
  · skip
    obtain ⟨ad, rfl, hcell⟩ := PP_at (hrd.frm K (by simp)) hc1
    have hnx := kidL_next (i := i) (l := (l.map (·.1))) (k := k) (n := m) (by omega)
    rw [List.getElem_map, hq] at hnx
    refine VC.skip ?_
    refine thenQ_n ?_
    refine VC.sub [(1, _), (2, _), (9, _), (10, _), (11, _)] (.cons rfl (.cons rfl (.cons rfl (.cons rfl (.cons rfl .nil))))) ?_
    refine VC.seq ?_
    refine VC.block ?_
    refine VC.seq ?_
    refine VC.region ?_
    refine Ops.r (Run.mv rfl) rfl ?_
    refine Ops.r (Run.indexS k rfl rfl Tryz.underlying60 Tryz.sizeOf69 hc1) rfl ?_
    refine Ops.r (Run.loadA rfl Tryz.isAgg69 Tryz.sizeOf69 hcell (by first | rfl | (simp; done))) rfl ?_
    refine Ops.m (Does.alloc zero69) rfl ?_
    rintro _ w2 ⟨rfl, hF2⟩
    have hb8 := hF2.blk
    have sK := K.size
    have K := K.trans hF2.frm (by simp)
    generalize hg8 : wr.heap.size = g8 at hb8 sK ⊢
    refine Ops.r (Run.asg rfl) rfl ?_
    refine Ops.st (Acts.storeA rfl rfl Tryz.sizeOf69 hb8 rfl (PP1_one l[k])) ?_
    rintro w3 ⟨hb8n, hf3, _⟩
    have hb8 : Blk w3 g8 69 (PP1 l[k]).toArray := hb8n
    have K := Frm.own K hf3 (fun y hy => by simp at hy; omega)
    refine Ops.nil ?_
    refine thenQ_n ?_
    refine VC.sub [(1, _), (2, _), (7, _), (8, _), (9, _), (10, _), (11, _)] (.cons rfl (.cons rfl (.cons rfl (.cons rfl (.cons rfl (.cons rfl (.cons rfl .nil))))))) ?_
    refine VC.seq ?_
    refine VC.region ?_
    refine Ops.r (Run.fieldAddr rfl Tryz.underlying69 rfl Tryz.sizeOf3 (by decide)) rfl ?_
    refine Ops.r (Run.load rfl Tryz.isAgg3 (hb8.cell 7)) rfl ?_
    refine Ops.r (Run.mv rfl) rfl ?_
    refine Ops.r (Run.bin rfl rfl (Bin.eql _ _)) rfl ?_
    refine Ops.nil ?_
    refine thenQ_n ?_
    refine VC.sub [(1, _), (2, _), (7, _), (9, _), (10, _), (11, _), (19, _)] (.cons rfl (.cons rfl (.cons rfl (.cons rfl (.cons rfl (.cons rfl (.cons rfl .nil))))))) ?_
    refine VC.meet (σ := Int) (fun s => [(1, .int .i64 i), (2, .int .i64 (IntKind.i64.wrap s)), (9, .slice (some ad) l.length c), (10, .int .i64 ((l.length : Nat) : Int)), (11, .int .i64 ((k : Nat) : Int))]) (fun s wr => n - ((k + 1 : Nat) : Int) ≤ s ∧ s ≤ n ∧ kidL i ((l.map (·.1)).drop (k + 1)) (k + 1) s = kidQ (l.map (·.1)) i n ∧ Frm [] w wr) ?_ ?_
    · skip
      refine VC.condD rfl (fun hc2 => ?_) (fun hc2 => ?_)
      · skip
        rw [if_pos hc2] at hnx
        refine VC.seq ?_
        refine VC.region ?_
        refine Ops.r (Run.mv rfl) rfl ?_
        refine Ops.r (Run.bin rfl rfl (Bin.subW _ 1)) rfl ?_
        rw [wrap_dec]
        refine Ops.r (Run.asg rfl) rfl ?_
        refine Ops.nil ?_
        refine thenQ_n ?_
        refine VC.sub [(1, _), (2, _), (7, _), (9, _), (10, _), (11, _)] (.cons rfl (.cons rfl (.cons rfl (.cons rfl (.cons rfl (.cons rfl .nil)))))) ?_
        refine VC.seq ?_
        refine VC.region ?_
        refine Ops.r (Run.mv rfl) rfl ?_
        refine Ops.r (Run.bin rfl rfl (Bin.eql _ 0)) rfl ?_
        refine Ops.nil ?_
        refine thenQ_n ?_
        refine VC.sub [(1, _), (2, _), (7, _), (9, _), (10, _), (11, _), (23, _)] (.cons rfl (.cons rfl (.cons rfl (.cons rfl (.cons rfl (.cons rfl (.cons rfl .nil))))))) ?_
        refine VC.condD rfl (fun hc3 => ?_) (fun hc3 => ?_)
        · skip
          have hm : m = 1 := by have := (wrap_zero (m := m - 1) (by omega) (by omega)).1 hc3; omega
          rw [if_pos hm] at hnx
          refine VC.seq ?_
          refine VC.region ?_
          refine Ops.r (Run.mv rfl) rfl ?_
          refine Ops.r (Run.asg rfl) rfl ?_
          refine Ops.nil ?_
          refine thenQ_n ?_
          refine VC.sub [(6, _)] (.cons rfl .nil) ?_
          refine VC.ret ?_
          refine thenQ_r (blockQ_r (thenQ_r (thenQ_r (blockQ_r (thenQ_r (end1 rfl ?_))))))
          exact ⟨by rw [hnx], K⟩
        · skip
          have hm : m ≠ 1 := fun h => hc3 ((wrap_zero (m := m - 1) (by omega) (by omega)).2 (by omega))
          rw [if_neg hm] at hnx
          refine VC.skip ?_
          refine thenQ_n ⟨(m - 1), (.cons rfl (.cons rfl (.cons rfl (.cons rfl (.cons rfl .nil))))), ?_⟩
          exact ⟨by omega, by omega, hnx.symm, K⟩
      · skip
        rw [if_neg hc2] at hnx
        refine VC.skip ?_
        refine thenQ_n ⟨m, (.cons rfl (.cons rfl (.cons rfl (.cons rfl (.cons rfl .nil))))), ?_⟩
        exact ⟨by omega, by omega, hnx.symm, K⟩
    · skip
      rintro m2 w4 ⟨hm1, hm2, hq, K⟩ Γ hΓ
      refine blockQ_n (thenQ_n (VC.sub _ hΓ ?_))
      refine VC.region ?_
      refine Ops.r (Run.bin rfl rfl (Bin.add_i64 _ 1 (by omega))) rfl ?_
      refine Ops.r (Run.mv rfl) rfl ?_
      refine Ops.nil ?_
      refine thenQ_n ⟨(k + 1, m2), (.cons rfl (.cons rfl (.cons rfl (.cons rfl (.cons rfl .nil))))), ?_, ?_⟩
      · skip
        exact ⟨hc1, hm1, hm2, hq, K⟩
      · skip
        first | omega | (dsimp only; omega)
  · skip
    have hkl : k = l.length := by omega
    rw [List.drop_of_length_le (by omega)] at hq
    have hq : -1 = kidQ (l.map (·.1)) i n := hq
    refine VC.exit ?_
    refine thenQ_x (thenQ_x (blockQ_x ?_))
    refine thenQ_n ?_
    refine VC.sub [] .nil ?_
    refine VC.seq ?_
    refine VC.region ?_
    refine Ops.r (v := .int .i64 (-1)) (Run.asg rfl) rfl ?_
    refine Ops.nil ?_
    refine thenQ_n ?_
    refine VC.ret ?_
    refine end1 rfl ?_
    exact ⟨by rw [← hq], K⟩

set_option maxRecDepth 100000 in
theorem nextT_spec (A : Option Addr) (c : Nat) (l : List Pc) (i : Nat) (n : Int) (w : World) (hrd : Rd w 9 A l.length (PP l)) (hl : l.length ≤ 1000) (hn1 : -9223372036854775808 ≤ n) (hn2 : n ≤ 9223372036854775807) (hi : i < l.length) :
    Calls Tryz.prog 71 #[.slice A l.length c, .int .i64 ((i : Nat) : Int), .int .i64 n, .bool true] w fun e w' => e = .returned (.int .i64 (nextT (l.map (·.1)) i n)) ∧ Frm [] w w' := by
  have hml : (l.map (·.1))[i]? = some l[i].1 := by rw [List.getElem?_map, List.getElem?_eq_getElem hi]; rfl
  obtain ⟨ad, rfl, hcell⟩ := PP_at hrd hi
  have K := Frm.refl [] w
  have hnx := nextT_at (n := n) hml
  refine VC.calls (nt := 48) (res := #[.tmp 8]) Tryz.func71 rfl Tryz.ntmps71 Tryz.results71 rfl ?_
  refine VC.seq ?_
  refine VC.region ?_
  refine Ops.r (v := .int .i64 ((0 : Nat) : Int)) (Run.asg rfl) rfl ?_
  refine Ops.nil ?_
  refine thenQ_n ?_
  refine VC.sub [(0, _), (1, _), (2, _), (3, _)] (.cons rfl (.cons rfl (.cons rfl (.cons rfl .nil)))) ?_
  refine VC.seq ?_
  refine VC.block ?_
  refine VC.seq ?_
  refine VC.region ?_
  refine Ops.r (Run.mv rfl) rfl ?_
  refine Ops.r (Run.mv rfl) rfl ?_
  refine Ops.r (Run.indexS i rfl rfl Tryz.underlying60 Tryz.sizeOf69 hi) rfl ?_
  refine Ops.r (Run.fieldAddr rfl Tryz.underlying69 rfl Tryz.sizeOf3 (by decide)) rfl ?_
  refine Ops.r (Run.load rfl Tryz.isAgg3 (hcell 0 _ rfl)) rfl ?_
  refine Ops.r (Run.bin rfl rfl (Bin.eqlN _ 1)) rfl ?_
  refine Ops.r (Run.asg rfl) rfl ?_
  refine Ops.nil ?_
  refine thenQ_n ?_
  refine VC.sub [(0, _), (1, _), (2, _), (3, _), (10, _)] (.cons rfl (.cons rfl (.cons rfl (.cons rfl (.cons rfl .nil))))) ?_
  refine VC.condD rfl (fun hc1 => ?_) (fun hc1 => ?_)
  · skip
    rw [if_pos hc1] at hnx
    refine VC.seq ?_
    refine VC.region ?_
    refine Ops.r (Run.mv rfl) rfl ?_
    refine Ops.r (Run.mv rfl) rfl ?_
    refine Ops.r (Run.mv rfl) rfl ?_
    refine Ops.cl (Enters.fn (evs.cons rfl (evs.cons rfl (evs.cons rfl evs.nil))) Tryz.call65) ((kid_spec (some ad) c l ((i : Nat) : Int) n _ (hrd.frm K (by simp)) hl hn1 hn2)) rfl ?_
    rintro e w1 ⟨rfl, hfw1⟩
    refine ⟨_, rfl, ?_⟩
    have K := K.trans hfw1 (by simp)
    refine Ops.r (Run.asg rfl) rfl ?_
    refine Ops.nil ?_
    refine thenQ_n ?_
    refine VC.sub [(8, _)] (.cons rfl .nil) ?_
    refine VC.ret ?_
    refine blockQ_r (thenQ_r (end1 rfl ?_))
    exact ⟨by rw [hnx], K⟩
  · skip
    rw [if_neg hc1] at hnx
    refine VC.seq ?_
    refine VC.region ?_
    refine Ops.r (Run.mv rfl) rfl ?_
    refine Ops.r (Run.mv rfl) rfl ?_
    refine Ops.rg rfl (by first | rfl | assumption | exact decide_eq_true (by assumption) | exact decide_eq_false (by assumption) | decide | (simp; done) | (simp; omega) | (simp [*]; done)) (Run.mv rfl) rfl ?_
    refine Ops.rg rfl (by first | rfl | assumption | exact decide_eq_true (by assumption) | exact decide_eq_false (by assumption) | decide | (simp; done) | (simp; omega) | (simp [*]; done)) (Run.bin rfl rfl (Bin.eql _ 1)) rfl ?_
    refine Ops.r (Run.pickT rfl rfl (by first | rfl | assumption | exact decide_eq_true (by assumption) | exact decide_eq_false (by assumption) | decide | (simp; done) | (simp; omega) | (simp [*]; done))) rfl ?_
    refine Ops.r (Run.asg rfl) rfl ?_
    refine Ops.nil ?_
    refine thenQ_n ?_
    refine VC.sub [(0, _), (1, _), (2, _), (3, _), (21, _)] (.cons rfl (.cons rfl (.cons rfl (.cons rfl (.cons rfl .nil))))) ?_
    refine VC.condB rfl (fun hc2 => ?_) (fun hc2 => ?_)
    · skip
      rw [if_pos (of_decide_eq_true hc2)] at hnx
      refine VC.seq ?_
      refine VC.region ?_
      refine Ops.r (Run.mv rfl) rfl ?_
      refine Ops.r (Run.asg rfl) rfl ?_
      refine Ops.nil ?_
      refine thenQ_n ?_
      refine VC.sub [(8, _)] (.cons rfl .nil) ?_
      refine VC.ret ?_
      refine blockQ_r (thenQ_r (end1 rfl ?_))
      exact ⟨by rw [hnx], K⟩
    · skip
      rw [if_neg (of_decide_eq_false hc2)] at hnx
      refine VC.seq ?_
      refine VC.region ?_
      refine Ops.r (Run.mv rfl) rfl ?_
      refine Ops.r (Run.not rfl) rfl ?_
      refine Ops.r (Run.mv rfl) rfl ?_
      refine Ops.sk rfl (by simp) rfl ?_
      refine Ops.sk rfl (by simp) rfl ?_
      refine Ops.sk rfl (by simp) rfl ?_
      refine Ops.sk rfl (by simp) rfl ?_
      refine Ops.sk rfl (by simp) rfl ?_
      refine Ops.sk rfl (by simp) rfl ?_
      refine Ops.r (Run.pickF rfl rfl (by first | rfl | assumption | exact decide_eq_true (by assumption) | exact decide_eq_false (by assumption) | decide | (simp; done) | (simp; omega) | (simp [*]; done))) rfl ?_
      refine Ops.r (Run.asg rfl) rfl ?_
      refine Ops.nil ?_
      refine thenQ_n ?_
      refine VC.sub [(0, _), (1, _), (2, _), (28, _)] (.cons rfl (.cons rfl (.cons rfl (.cons rfl .nil)))) ?_
      refine VC.condF rfl (rfl) ?_
      refine VC.skip ?_
      refine blockQ_n (thenQ_n ?_)
      refine VC.sub [] .nil ?_
      refine VC.seq ?_
      refine VC.region ?_
      refine Ops.r (v := .int .i64 (-1)) (Run.asg rfl) rfl ?_
      refine Ops.nil ?_
      refine thenQ_n ?_
      refine VC.ret ?_
      refine end1 rfl ?_
      exact ⟨by rw [hnx], K⟩

set_option maxRecDepth 100000 in
theorem nextF_spec (A : Option Addr) (c : Nat) (l : List Pc) (i : Nat) (n : Int) (w : World) (hrd : Rd w 9 A l.length (PP l)) (hl : l.length ≤ 1000) (hn1 : -9223372036854775808 ≤ n) (hn2 : n ≤ 9223372036854775807) (hi : i < l.length) :
    Calls Tryz.prog 71 #[.slice A l.length c, .int .i64 ((i : Nat) : Int), .int .i64 n, .bool false] w fun e w' => e = .returned (.int .i64 (nextF (l.map (·.1)) i n)) ∧ Frm [] w w' := by
  have hml : (l.map (·.1))[i]? = some l[i].1 := by rw [List.getElem?_map, List.getElem?_eq_getElem hi]; rfl
  obtain ⟨ad, rfl, hcell⟩ := PP_at hrd hi
  have K := Frm.refl [] w
  have hnx := nextF_at (n := n) hml
  refine VC.calls (nt := 48) (res := #[.tmp 8]) Tryz.func71 rfl Tryz.ntmps71 Tryz.results71 rfl ?_
  refine VC.seq ?_
  refine VC.region ?_
  refine Ops.r (v := .int .i64 ((0 : Nat) : Int)) (Run.asg rfl) rfl ?_
  refine Ops.nil ?_
  refine thenQ_n ?_
  refine VC.sub [(0, _), (1, _), (2, _), (3, _)] (.cons rfl (.cons rfl (.cons rfl (.cons rfl .nil)))) ?_
  refine VC.seq ?_
  refine VC.block ?_
  refine VC.seq ?_
  refine VC.region ?_
  refine Ops.r (Run.mv rfl) rfl ?_
  refine Ops.r (Run.mv rfl) rfl ?_
  refine Ops.r (Run.indexS i rfl rfl Tryz.underlying60 Tryz.sizeOf69 hi) rfl ?_
  refine Ops.r (Run.fieldAddr rfl Tryz.underlying69 rfl Tryz.sizeOf3 (by decide)) rfl ?_
  refine Ops.r (Run.load rfl Tryz.isAgg3 (hcell 0 _ rfl)) rfl ?_
  refine Ops.r (Run.bin rfl rfl (Bin.eqlN _ 1)) rfl ?_
  refine Ops.r (Run.asg rfl) rfl ?_
  refine Ops.nil ?_
  refine thenQ_n ?_
  refine VC.sub [(0, _), (1, _), (2, _), (3, _), (10, _)] (.cons rfl (.cons rfl (.cons rfl (.cons rfl (.cons rfl .nil))))) ?_
  refine VC.condD rfl (fun hc1 => ?_) (fun hc1 => ?_)
  · skip
    rw [if_pos hc1] at hnx
    refine VC.seq ?_
    refine VC.region ?_
    refine Ops.r (Run.mv rfl) rfl ?_
    refine Ops.r (Run.mv rfl) rfl ?_
    refine Ops.r (Run.mv rfl) rfl ?_
    refine Ops.cl (Enters.fn (evs.cons rfl (evs.cons rfl (evs.cons rfl evs.nil))) Tryz.call65) ((kid_spec (some ad) c l ((i : Nat) : Int) n _ (hrd.frm K (by simp)) hl hn1 hn2)) rfl ?_
    rintro e w1 ⟨rfl, hfw1⟩
    refine ⟨_, rfl, ?_⟩
    have K := K.trans hfw1 (by simp)
    refine Ops.r (Run.asg rfl) rfl ?_
    refine Ops.nil ?_
    refine thenQ_n ?_
    refine VC.sub [(8, _)] (.cons rfl .nil) ?_
    refine VC.ret ?_
    refine blockQ_r (thenQ_r (end1 rfl ?_))
    exact ⟨by rw [hnx], K⟩
  · skip
    rw [if_neg hc1] at hnx
    refine VC.seq ?_
    refine VC.region ?_
    refine Ops.r (Run.mv rfl) rfl ?_
    refine Ops.r (Run.mv rfl) rfl ?_
    refine Ops.sk rfl (by simp) rfl ?_
    refine Ops.sk rfl (by simp) rfl ?_
    refine Ops.r (Run.pickF rfl rfl (by first | rfl | assumption | exact decide_eq_true (by assumption) | exact decide_eq_false (by assumption) | decide | (simp; done) | (simp; omega) | (simp [*]; done))) rfl ?_
    refine Ops.r (Run.asg rfl) rfl ?_
    refine Ops.nil ?_
    refine thenQ_n ?_
    refine VC.sub [(0, _), (1, _), (2, _), (3, _), (21, _)] (.cons rfl (.cons rfl (.cons rfl (.cons rfl (.cons rfl .nil))))) ?_
    refine VC.condF rfl (rfl) ?_
    refine VC.seq ?_
    refine VC.region ?_
    refine Ops.r (Run.mv rfl) rfl ?_
    refine Ops.r (Run.not rfl) rfl ?_
    refine Ops.r (Run.mv rfl) rfl ?_
    refine Ops.rg rfl (by first | rfl | assumption | exact decide_eq_true (by assumption) | exact decide_eq_false (by assumption) | decide | (simp; done) | (simp; omega) | (simp [*]; done)) (Run.mv rfl) rfl ?_
    refine Ops.rg rfl (by first | rfl | assumption | exact decide_eq_true (by assumption) | exact decide_eq_false (by assumption) | decide | (simp; done) | (simp; omega) | (simp [*]; done)) (Run.mv rfl) rfl ?_
    refine Ops.rg rfl (by first | rfl | assumption | exact decide_eq_true (by assumption) | exact decide_eq_false (by assumption) | decide | (simp; done) | (simp; omega) | (simp [*]; done)) (Run.indexS i rfl rfl Tryz.underlying60 Tryz.sizeOf69 hi) rfl ?_
    refine Ops.rg rfl (by first | rfl | assumption | exact decide_eq_true (by assumption) | exact decide_eq_false (by assumption) | decide | (simp; done) | (simp; omega) | (simp [*]; done)) (Run.fieldAddr rfl Tryz.underlying69 rfl Tryz.sizeOf3 (by decide)) rfl ?_
    refine Ops.rg rfl (by first | rfl | assumption | exact decide_eq_true (by assumption) | exact decide_eq_false (by assumption) | decide | (simp; done) | (simp; omega) | (simp [*]; done)) (Run.load rfl Tryz.isAgg3 (hcell 0 _ rfl)) rfl ?_
    refine Ops.rg rfl (by first | rfl | assumption | exact decide_eq_true (by assumption) | exact decide_eq_false (by assumption) | decide | (simp; done) | (simp; omega) | (simp [*]; done)) (Run.bin rfl rfl (Bin.eqlN _ 2)) rfl ?_
    refine Ops.r (Run.pickT rfl rfl (by first | rfl | assumption | exact decide_eq_true (by assumption) | exact decide_eq_false (by assumption) | decide | (simp; done) | (simp; omega) | (simp [*]; done))) rfl ?_
    refine Ops.r (Run.asg rfl) rfl ?_
    refine Ops.nil ?_
    refine thenQ_n ?_
    refine VC.sub [(0, _), (1, _), (2, _), (28, _)] (.cons rfl (.cons rfl (.cons rfl (.cons rfl .nil)))) ?_
    refine VC.meet (σ := Unit) (fun s => []) (fun s wr => Frm [] w wr ∧ nextF (l.map (·.1)) i n = -1) ?_ ?_
    · skip
      refine VC.condB rfl (fun hc3 => ?_) (fun hc3 => ?_)
      · skip
        have hc3 := of_decide_eq_true hc3
        refine VC.seq ?_
        refine VC.region ?_
        refine Ops.r (Run.mv rfl) rfl ?_
        refine Ops.r (Run.mv rfl) rfl ?_
        refine Ops.cl (Enters.fn (evs.cons rfl (evs.cons rfl (evs.cons rfl evs.nil))) Tryz.call65) ((kid_spec (some ad) c l ((i : Nat) : Int) 1 _ (hrd.frm K (by simp)) hl (by omega) (by omega))) rfl ?_
        rintro e w1 ⟨rfl, hfw1⟩
        refine ⟨_, rfl, ?_⟩
        have K := K.trans hfw1 (by simp)
        refine Ops.r (Run.asg rfl) rfl ?_
        refine Ops.nil ?_
        refine thenQ_n ?_
        refine VC.sub [(0, _), (2, _), (9, _)] (.cons rfl (.cons rfl (.cons rfl .nil))) ?_
        refine VC.seq ?_
        refine VC.region ?_
        refine Ops.r (Run.mv rfl) rfl ?_
        refine Ops.r (Run.bin rfl rfl (Bin.geq _ 0)) rfl ?_
        refine Ops.nil ?_
        refine thenQ_n ?_
        refine VC.sub [(0, _), (2, _), (9, _), (43, _)] (.cons rfl (.cons rfl (.cons rfl (.cons rfl .nil)))) ?_
        refine VC.condD rfl (fun hc4 => ?_) (fun hc4 => ?_)
        · skip
          rw [if_pos ⟨hc3, hc4⟩] at hnx
          obtain ⟨j, pj, hj, hje⟩ : ∃ (j : Nat) (p : Prt), (l.map (·.1))[j]? = some p ∧ kidQ (l.map (·.1)) ((i : Nat) : Int) 1 = (j : Int) := by
            rcases kidQ_res (l.map (·.1)) ((i : Nat) : Int) 1 with h | ⟨j, p, h1, h2, _⟩
            · omega
            · exact ⟨j, p, h1, h2⟩
          have hjl : j < l.length := by have := (List.getElem?_eq_some_iff.1 hj).1; simpa using this
          rw [hje, Int.toNat_natCast] at hnx
          rw [hje]
          refine VC.seq ?_
          refine VC.region ?_
          refine Ops.r (Run.mv rfl) rfl ?_
          refine Ops.r (Run.mv rfl) rfl ?_
          refine Ops.r (Run.mv rfl) rfl ?_
          refine Ops.cl (Enters.fn (evs.cons rfl (evs.cons rfl (evs.cons rfl (evs.cons rfl evs.nil)))) Tryz.call71) ((nextT_spec (some ad) c l j n _ (hrd.frm K (by simp)) hl hn1 hn2 hjl)) rfl ?_
          rintro e w2 ⟨rfl, hf2⟩
          refine ⟨_, rfl, ?_⟩
          have K := K.trans hf2 (by simp)
          refine Ops.r (Run.asg rfl) rfl ?_
          refine Ops.nil ?_
          refine thenQ_n ?_
          refine VC.sub [(8, _)] (.cons rfl .nil) ?_
          refine VC.ret ?_
          refine thenQ_r (blockQ_r (thenQ_r (end1 rfl ?_)))
          exact ⟨by rw [hnx], K⟩
        · skip
          rw [if_neg (fun h => hc4 h.2)] at hnx
          refine VC.skip ?_
          refine thenQ_n ⟨(), .nil, ?_⟩
          exact ⟨K, hnx⟩
      · skip
        have hc3 := of_decide_eq_false hc3
        rw [if_neg (fun h => hc3 h.1)] at hnx
        refine VC.skip ?_
        refine thenQ_n ⟨(), .nil, ?_⟩
        exact ⟨K, hnx⟩
    · skip
      rintro _ w5 ⟨K, hnx⟩ Γ hΓ
      refine blockQ_n (thenQ_n (VC.sub _ hΓ ?_))
      refine VC.seq ?_
      refine VC.region ?_
      refine Ops.r (v := .int .i64 (-1)) (Run.asg rfl) rfl ?_
      refine Ops.nil ?_
      refine thenQ_n ?_
      refine VC.ret ?_
      refine end1 rfl ?_
      exact ⟨by rw [hnx], K⟩

theorem next_spec (A : Option Addr) (c : Nat) (l : List Pc) (i : Nat) (n : Int) (own : Bool) (w : World) (hrd : Rd w 9 A l.length (PP l)) (hl : l.length ≤ 1000) (hn1 : -9223372036854775808 ≤ n) (hn2 : n ≤ 9223372036854775807) (hi : i < l.length) :
    Calls Tryz.prog 71 #[.slice A l.length c, .int .i64 ((i : Nat) : Int), .int .i64 n, .bool own] w fun e w' => e = .returned (.int .i64 (nextQ (l.map (·.1)) i n own)) ∧ Frm [] w w' := by
  cases own with
  | true => exact nextT_spec A c l i n w hrd hl hn1 hn2 hi
  | false => exact nextF_spec A c l i n w hrd hl hn1 hn2 hi

set_option maxRecDepth 100000 in
theorem find_path_spec (A B : Option Addr) (c d : Nat) (l : List Pc) (path : List Int) (w : World) (hrd : Rd w 9 A l.length (PP l)) (hl : l.length ≤ 1000) (hl0 : 0 < l.length) (hp : Rd w 1 B path.length (PI path)) (hpl : path.length ≤ 9223372036854775807) (hpb : ∀ n ∈ path, -9223372036854775808 ≤ n ∧ n ≤ 9223372036854775807) :
    Calls Tryz.prog 41 #[.slice A l.length c, .slice B path.length d] w fun e w' => e = .returned (.int .i64 (findPQ (l.map (·.1)) path)) ∧ Frm [] w w' := by
  refine VC.calls (nt := 24) (res := #[.tmp 4]) Tryz.func41 rfl Tryz.ntmps41 Tryz.results41 rfl ?_
  refine VC.seq ?_
  refine VC.region ?_
  refine Ops.r (v := .int .i64 ((0 : Nat) : Int)) (Run.asg rfl) rfl ?_
  refine Ops.nil ?_
  refine thenQ_n ?_
  refine VC.sub [(0, _), (1, _)] (.cons rfl (.cons rfl .nil)) ?_
  refine VC.seq ?_
  refine VC.region ?_
  refine Ops.r (v := .int .i64 ((0 : Nat) : Int)) (Run.asg rfl) rfl ?_
  refine Ops.r (Run.asg rfl) rfl ?_
  refine Ops.nil ?_
  refine thenQ_n ?_
  refine VC.seq ?_
  refine VC.seq ?_
  refine VC.region ?_
  refine Ops.r (Run.mv rfl) rfl ?_
  refine Ops.r (Run.lenS rfl Tryz.underlying33) rfl ?_
  refine Ops.r (v := .int .i64 ((0 : Nat) : Int)) (Run.mv rfl) rfl ?_
  refine Ops.nil ?_
  refine thenQ_n ?_
  refine VC.sub [(0, _), (5, _), (6, _), (9, _), (10, _), (11, _)] (.cons rfl (.cons rfl (.cons rfl (.cons rfl (.cons rfl (.cons rfl .nil)))))) ?_
  refine VC.block ?_
  refine VC.loop (σ := Nat × Nat) (fun s => [(0, .slice A l.length c), (5, .int .i64 ((s.2 : Nat) : Int)), (6, .bool (decide (s.1 = 0))), (9, .slice B path.length d), (10, .int .i64 ((path.length : Nat) : Int)), (11, .int .i64 ((s.1 : Nat) : Int))]) (fun s wr => s.1 ≤ path.length ∧ s.2 < l.length ∧ findL (l.map (·.1)) s.2 (decide (s.1 = 0)) (path.drop s.1) = findPQ (l.map (·.1)) path ∧ Frm [] w wr) (fun s => path.length - s.1) (0, 0) (.cons rfl (.cons rfl (.cons rfl (.cons rfl (.cons rfl (.cons rfl .nil)))))) ⟨by omega, hl0, rfl, Frm.refl _ _⟩ ?_
  rintro ⟨k, i⟩ wr ⟨hk, hi, hq, K⟩
  dsimp only at hk hi hq K ⊢
  refine VC.seq ?_
  refine VC.region ?_
  refine Ops.r (Run.bin rfl rfl (Bin.lssN _ _)) rfl ?_
  refine Ops.nil ?_
  refine thenQ_n ?_
  refine VC.seq ?_
  refine VC.condD rfl (fun hc1 => ?_) (fun hc1 => ?_)
  · skip
    obtain ⟨adB, rfl, hcB⟩ := PI_at (hp.frm K (by simp)) hc1
    have hb := hpb path[k] (List.getElem_mem hc1)
    rw [List.drop_eq_getElem_cons hc1, findL] at hq
    generalize hn : path[k] = n at *
    refine VC.skip ?_
    refine thenQ_n ?_
    refine VC.sub [(0, _), (5, _), (6, _), (9, _), (10, _), (11, _)] (.cons rfl (.cons rfl (.cons rfl (.cons rfl (.cons rfl (.cons rfl .nil)))))) ?_
    refine VC.seq ?_
    refine VC.block ?_
    refine VC.seq ?_
    refine VC.region ?_
    refine Ops.r (Run.indexS k rfl rfl Tryz.underlying33 Tryz.sizeOf3 hc1) rfl ?_
    refine Ops.r (Run.load rfl Tryz.isAgg3 hcB) rfl ?_
    refine Ops.r (Run.asg rfl) rfl ?_
    refine Ops.nil ?_
    refine thenQ_n ?_
    refine VC.sub [(0, _), (5, _), (6, _), (8, _), (9, _), (10, _), (11, _)] (.cons rfl (.cons rfl (.cons rfl (.cons rfl (.cons rfl (.cons rfl (.cons rfl .nil))))))) ?_
    refine VC.seq ?_
    refine VC.seq ?_
    refine VC.region ?_
    refine Ops.r (Run.mv rfl) rfl ?_
    refine Ops.r (Run.mv rfl) rfl ?_
    refine Ops.r (Run.mv rfl) rfl ?_
    refine Ops.r (Run.mv rfl) rfl ?_
    refine Ops.cl (Enters.fn (evs.cons rfl (evs.cons rfl (evs.cons rfl (evs.cons rfl evs.nil)))) Tryz.call71) ((next_spec A c l i n (decide (k = 0)) _ (hrd.frm K (by simp)) hl hb.1 hb.2 hi)) rfl ?_
    rintro e w2 ⟨rfl, hf2⟩
    refine ⟨_, rfl, ?_⟩
    have K := K.trans hf2 (by simp)
    refine Ops.r (Run.asg rfl) rfl ?_
    refine Ops.nil ?_
    refine thenQ_n ?_
    refine VC.sub [(0, _), (5, _), (9, _), (10, _), (11, _)] (.cons rfl (.cons rfl (.cons rfl (.cons rfl (.cons rfl .nil))))) ?_
    refine VC.seq ?_
    refine VC.region ?_
    refine Ops.r (Run.mv rfl) rfl ?_
    refine Ops.r (Run.bin rfl rfl (Bin.lss _ 0)) rfl ?_
    refine Ops.nil ?_
    refine thenQ_n ?_
    refine VC.sub [(0, _), (5, _), (9, _), (10, _), (11, _), (21, _)] (.cons rfl (.cons rfl (.cons rfl (.cons rfl (.cons rfl (.cons rfl .nil)))))) ?_
    refine VC.condD rfl (fun hc2 => ?_) (fun hc2 => ?_)
    · skip
      rw [if_pos hc2] at hq
      refine VC.seq ?_
      refine VC.region ?_
      refine Ops.r (v := .int .i64 (-1)) (Run.asg rfl) rfl ?_
      refine Ops.nil ?_
      refine thenQ_n ?_
      refine VC.sub [(4, _)] (.cons rfl .nil) ?_
      refine VC.ret ?_
      refine thenQ_r (blockQ_r (thenQ_r (thenQ_r (blockQ_r (thenQ_r (end1 rfl ?_))))))
      exact ⟨by rw [← hq], K⟩
    · skip
      rw [if_neg hc2] at hq
      obtain ⟨j, hjl, hje⟩ : ∃ j : Nat, j < (l.map (·.1)).length ∧ nextQ (l.map (·.1)) i n (decide (k = 0)) = (j : Int) := by
        rcases nextQ_res (l.map (·.1)) i n (decide (k = 0)) with h | h
        · omega
        · exact h
      rw [List.length_map] at hjl
      rw [hje, Int.toNat_natCast] at hq
      rw [hje]
      refine VC.skip ?_
      refine thenQ_n ?_
      refine VC.sub [(0, _), (5, _), (9, _), (10, _), (11, _)] (.cons rfl (.cons rfl (.cons rfl (.cons rfl (.cons rfl .nil))))) ?_
      refine VC.region ?_
      refine Ops.r (Run.asg rfl) rfl ?_
      refine Ops.nil ?_
      refine blockQ_n (thenQ_n ?_)
      refine VC.region ?_
      refine Ops.r (Run.bin rfl rfl (Bin.add_i64 _ 1 (by omega))) rfl ?_
      refine Ops.r (Run.mv rfl) rfl ?_
      refine Ops.nil ?_
      refine thenQ_n ⟨(k + 1, j), (.cons rfl (.cons rfl (.cons (by rw [show decide (k + 1 = 0) = false by simp]; rfl) (.cons rfl (.cons rfl (.cons rfl .nil)))))), ?_, ?_⟩
      · skip
        exact ⟨hc1, hjl, by rw [← hq]; simp, K⟩
      · skip
        first | omega | (dsimp only; omega)
  · skip
    have hkl : k = path.length := by omega
    rw [List.drop_of_length_le (by omega)] at hq
    have hq : ((i : Nat) : Int) = findPQ (l.map (·.1)) path := hq
    refine VC.exit ?_
    refine thenQ_x (thenQ_x (blockQ_x ?_))
    refine thenQ_n ?_
    refine VC.sub [(5, _)] (.cons rfl .nil) ?_
    refine VC.seq ?_
    refine VC.region ?_
    refine Ops.r (Run.mv rfl) rfl ?_
    refine Ops.r (Run.asg rfl) rfl ?_
    refine Ops.nil ?_
    refine thenQ_n ?_
    refine VC.sub [(4, _)] (.cons rfl .nil) ?_
    refine VC.ret ?_
    refine end1 rfl ?_
    exact ⟨by rw [← hq], K⟩

set_option maxRecDepth 100000 in
theorem whole_path_spec (A B : Option Addr) (c d : Nat) (l : List Pc) (i : Nat) (path : List Int) (w : World) (hrd : Rd w 9 A l.length (PP l)) (hl : l.length ≤ 1000) (hi : i < l.length) :
    Calls Tryz.prog 44 #[.slice A l.length c, .int .i64 ((i : Nat) : Int), .slice B path.length d] w fun e w' => e = .returned (.int .i64 (wholeQ (l.map (·.1)) i path)) ∧ Frm [] w w' := by
  have hml : (l.map (·.1))[i]? = some l[i].1 := by rw [List.getElem?_map, List.getElem?_eq_getElem hi]; rfl
  obtain ⟨ad, rfl, hcell⟩ := PP_at hrd hi
  have K := Frm.refl [] w
  have hnx := wholeQ_at (path := path) hml
  refine VC.calls (nt := 19) (res := #[.tmp 6]) Tryz.func44 rfl Tryz.ntmps44 Tryz.results44 rfl ?_
  refine VC.seq ?_
  refine VC.region ?_
  refine Ops.r (v := .int .i64 ((0 : Nat) : Int)) (Run.asg rfl) rfl ?_
  refine Ops.nil ?_
  refine thenQ_n ?_
  refine VC.sub [(0, _), (1, _), (2, _)] (.cons rfl (.cons rfl (.cons rfl .nil))) ?_
  refine VC.seq ?_
  refine VC.seq ?_
  refine VC.region ?_
  refine Ops.r (Run.mv rfl) rfl ?_
  refine Ops.r (Run.lenS rfl Tryz.underlying33) rfl ?_
  refine Ops.r (Run.bin rfl rfl (Bin.eqlN _ 0)) rfl ?_
  refine Ops.nil ?_
  refine thenQ_n ?_
  refine VC.sub [(0, _), (1, _), (9, _)] (.cons rfl (.cons rfl (.cons rfl .nil))) ?_
  refine VC.condD rfl (fun hc1 => ?_) (fun hc1 => ?_)
  · skip
    rw [if_pos (List.length_eq_zero_iff.1 hc1)] at hnx
    refine VC.seq ?_
    refine VC.region ?_
    refine Ops.r (v := .int .i64 ((0 : Nat) : Int)) (Run.asg rfl) rfl ?_
    refine Ops.nil ?_
    refine thenQ_n ?_
    refine VC.sub [(6, _)] (.cons rfl .nil) ?_
    refine VC.ret ?_
    refine thenQ_r (end1 rfl ?_)
    exact ⟨by rw [hnx]; rfl, K⟩
  · skip
    rw [if_neg (fun h => hc1 (by rw [h]; rfl))] at hnx
    refine VC.skip ?_
    refine thenQ_n ?_
    refine VC.sub [(0, _), (1, _)] (.cons rfl (.cons rfl .nil)) ?_
    refine VC.seq ?_
    refine VC.seq ?_
    refine VC.region ?_
    refine Ops.r (Run.mv rfl) rfl ?_
    refine Ops.r (Run.mv rfl) rfl ?_
    refine Ops.r (Run.indexS i rfl rfl Tryz.underlying60 Tryz.sizeOf69 hi) rfl ?_
    refine Ops.r (Run.fieldAddr rfl Tryz.underlying69 rfl Tryz.sizeOf3 (by decide)) rfl ?_
    refine Ops.r (Run.load rfl Tryz.isAgg3 (hcell 0 _ rfl)) rfl ?_
    refine Ops.r (Run.bin rfl rfl (Bin.neqN _ 2)) rfl ?_
    refine Ops.nil ?_
    refine thenQ_n ?_
    refine VC.sub [(0, _), (1, _), (15, _)] (.cons rfl (.cons rfl (.cons rfl .nil))) ?_
    refine VC.condD rfl (fun hc2 => ?_) (fun hc2 => ?_)
    · skip
      rw [if_pos hc2] at hnx
      refine VC.seq ?_
      refine VC.region ?_
      refine Ops.r (v := .int .i64 (-1)) (Run.asg rfl) rfl ?_
      refine Ops.nil ?_
      refine thenQ_n ?_
      refine VC.sub [(6, _)] (.cons rfl .nil) ?_
      refine VC.ret ?_
      refine thenQ_r (end1 rfl ?_)
      exact ⟨by rw [hnx], K⟩
    · skip
      rw [if_neg hc2] at hnx
      refine VC.skip ?_
      refine thenQ_n ?_
      refine VC.sub [(0, _), (1, _)] (.cons rfl (.cons rfl .nil)) ?_
      refine VC.seq ?_
      refine VC.region ?_
      refine Ops.r (Run.mv rfl) rfl ?_
      refine Ops.r (Run.mv rfl) rfl ?_
      refine Ops.cl (Enters.fn (evs.cons rfl (evs.cons rfl (evs.cons rfl evs.nil))) Tryz.call65) ((kid_spec (some ad) c l ((i : Nat) : Int) 1 _ (hrd.frm K (by simp)) hl (by omega) (by omega))) rfl ?_
      rintro e w1 ⟨rfl, hfw1⟩
      refine ⟨_, rfl, ?_⟩
      have K := K.trans hfw1 (by simp)
      refine Ops.r (Run.asg rfl) rfl ?_
      refine Ops.nil ?_
      refine thenQ_n ?_
      refine VC.sub [(6, _)] (.cons rfl .nil) ?_
      refine VC.ret ?_
      refine end1 rfl ?_
      exact ⟨by rw [hnx], K⟩

end Go.Proofs.YtenbjndldenkfaaGreatDoor
