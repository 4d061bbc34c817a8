/-
  'ParamOrder': what is read of a text with one parameter more behind is what is read of it, and that parameter last.
-/
import Derived.Test.YtnllhddbgkeboaaDoorParLW
namespace Go.Proofs.YtnllhddbgkeboaaDoor
open Go.RowKit Go.Sort

def cx (c : UInt8) : UInt8 := UInt8.ofNat (97 + c.toNat % 26)
def cy (c : UInt8) : UInt8 := UInt8.ofNat (65 + c.toNat % 26)
theorem cx_nat (c : UInt8) : (cx c).toNat = 97 + c.toNat % 26 := by unfold cx; rw [UInt8.toNat_ofNat', Nat.mod_eq_of_lt (by omega)]
theorem cy_nat (c : UInt8) : (cy c).toNat = 65 + c.toNat % 26 := by unfold cy; rw [UInt8.toNat_ofNat', Nat.mod_eq_of_lt (by omega)]
theorem map_cx {s : Tx} {c : UInt8} (h : c ∈ s.map cx) : 97 ≤ c.toNat ∧ c.toNat ≤ 122 := by
  obtain ⟨d, _, rfl⟩ := List.mem_map.1 h
  rw [cx_nat]; omega
theorem map_cy {s : Tx} {c : UInt8} (h : c ∈ s.map cy) : 65 ≤ c.toNat ∧ c.toNat ≤ 90 := by
  obtain ⟨d, _, rfl⟩ := List.mem_map.1 h
  rw [cy_nat]; omega
theorem ord1_txt (x : Tx) : (([120, 47, 121, 59, 32, 110] : Tx) ++ x) ++ [61, 49] = ord1 x := by simp [ord1, oX, oN]
theorem ord2_txt (x y : Tx) : (((((([120, 47, 121, 59, 32, 110] : Tx) ++ x) ++ [61, 49, 32, 59, 32, 32, 78]) ++ y) ++ [32, 61, 32]) ++ y) ++ [50] = ord2 x y := by simp [ord2, oX, oN, oM]
def ordM (x : Tx) : Med := ⟨[120], [121], [(110 :: x, [49])]⟩
def ordN (x y : Tx) : Med := ⟨[120], [121], [(110 :: x, [49]), (110 :: smallS y, y ++ [50])]⟩
theorem ord_other (x y : Tx) : sameQ (ordM x) (ordN x y) = false := decide_eq_false (fun h => by have := congrArg List.length h.2.2; simp [ordM, ordN] at this)

set_option maxRecDepth 100000 in
theorem order_walk (a b : Tx) (w : World) (ha : a.length ≤ 9223372036854775807) (hb : b.length ≤ 9223372036854775807) :
    Calls Tryd.prog 6 #[encStr a, encStr b] w fun e w' => e = .returned (.bool true) ∧ Frm [] w w' := by
  refine VC.calls (nt := 150) (res := #[.tmp 4]) Tryd.func6 rfl Tryd.ntmps6 Tryd.results6 rfl ?_
  refine VC.seq ?_
  refine VC.region ?_
  refine Ops.r (Run.asg rfl) rfl ?_
  refine Ops.nil ?_
  refine thenQ_n ?_
  refine VC.sub [(0, _), (1, _)] (.cons rfl (.cons rfl .nil)) ?_
  refine VC.seq ?_
  refine VC.region ?_
  refine Ops.r (Run.asg rfl) rfl ?_
  refine Ops.nil ?_
  refine thenQ_n ?_
  refine VC.seq ?_
  refine VC.seq ?_
  refine VC.region ?_
  refine Ops.r (v := .int .i64 ((0 : Nat) : Int)) (Run.asg rfl) rfl ?_
  refine Ops.nil ?_
  refine thenQ_n ?_
  refine VC.block ?_
  refine VC.loop (σ := Nat) (fun s => [(0, encStr a), (1, encStr b), (5, encStr ((a.take s).map cx)), (6, .int .i64 ((s : Nat) : Int))]) (fun s wr => s ≤ a.length ∧ s ≤ 20 ∧ Frm [] w wr) (fun s => 20 - s) 0 (.cons rfl (.cons rfl (.cons rfl (.cons rfl .nil)))) ⟨by omega, by omega, Frm.refl _ _⟩ ?_
  rintro i wr ⟨hi, hi2, K⟩
  refine VC.seq ?_
  refine VC.seq ?_
  refine VC.split1 [(0, _), (1, _), (5, _), (6, _)] (.cons rfl (.cons rfl (.cons rfl (.cons rfl .nil)))) 23 (.bool (decide ((i < a.length) ∧ (i < 20)))) ?_ ?_
  · by_cases hs0 : i < a.length
    · skip
      refine VC.region ?_
      refine Ops.r (Run.mv rfl) rfl ?_
      refine Ops.r (Run.mv rfl) rfl ?_
      refine Ops.r (Run.lenT rfl Tryd.underlying9) rfl ?_
      refine Ops.r (Run.bin rfl rfl (Bin.lssN _ _)) rfl ?_
      refine Ops.r (Run.mv rfl) rfl ?_
      refine Ops.rg rfl (by first | rfl | assumption | exact decide_eq_true (by assumption) | exact decide_eq_false (by assumption) | decide | (simp; done) | (simp; omega) | (simp [*]; done)) (Run.mv rfl) rfl ?_
      refine Ops.rg rfl (by first | rfl | assumption | exact decide_eq_true (by assumption) | exact decide_eq_false (by assumption) | decide | (simp; done) | (simp; omega) | (simp [*]; done)) (Run.bin rfl rfl (Bin.lssN _ 20)) rfl ?_
      refine Ops.r (Run.pickT rfl rfl (by first | rfl | assumption | exact decide_eq_true (by assumption) | exact decide_eq_false (by assumption) | decide | (simp; done) | (simp; omega) | (simp [*]; done))) rfl ?_
      refine Ops.nil ?_
      refine thenQ_n ⟨(.cons (by rw [dand1 hs0]; rfl) (.cons rfl (.cons rfl (.cons rfl (.cons rfl .nil))))), rfl⟩
    · skip
      refine VC.region ?_
      refine Ops.r (Run.mv rfl) rfl ?_
      refine Ops.r (Run.mv rfl) rfl ?_
      refine Ops.r (Run.lenT rfl Tryd.underlying9) rfl ?_
      refine Ops.r (Run.bin rfl rfl (Bin.lssN _ _)) rfl ?_
      refine Ops.r (Run.mv rfl) rfl ?_
      refine Ops.sk rfl (by first | rfl | assumption | exact decide_eq_true (by assumption) | exact decide_eq_false (by assumption) | decide | (simp; done) | (simp; omega) | (simp [*]; done)) rfl ?_
      refine Ops.sk rfl (by first | rfl | assumption | exact decide_eq_true (by assumption) | exact decide_eq_false (by assumption) | decide | (simp; done) | (simp; omega) | (simp [*]; done)) rfl ?_
      refine Ops.r (Run.pickF rfl rfl (by first | rfl | assumption | exact decide_eq_true (by assumption) | exact decide_eq_false (by assumption) | decide | (simp; done) | (simp; omega) | (simp [*]; done))) rfl ?_
      refine Ops.nil ?_
      refine thenQ_n ⟨(.cons (by rw [dand0 hs0]; rfl) (.cons rfl (.cons rfl (.cons rfl (.cons rfl .nil))))), rfl⟩
  · intro Γ hΓ
    refine thenQ_n (VC.sub _ hΓ ?_)
    refine VC.condD rfl (fun hc1 => ?_) (fun hc1 => ?_)
    · skip
      have hts := take_snoc hc1.1
      have hgx : a[i]? = some a[i] := List.getElem?_eq_getElem hc1.1
      have hll : ((a.take i).map cx).length = i := by rw [List.length_map, List.length_take]; omega
      generalize hx : a[i] = z at *
      have hcx := cx_nat z
      refine VC.skip ?_
      refine thenQ_n ?_
      refine VC.sub [(0, _), (1, _), (5, _), (6, _)] (.cons rfl (.cons rfl (.cons rfl (.cons rfl .nil)))) ?_
      refine VC.seq ?_
      refine VC.block ?_
      refine VC.region ?_
      refine Ops.r (Run.mv rfl) rfl ?_
      refine Ops.r (Run.mv rfl) rfl ?_
      refine Ops.r (Run.mv rfl) rfl ?_
      refine Ops.r (Run.indexT _ rfl rfl Tryd.underlying9 hgx) rfl ?_
      refine Ops.r (Run.bin rfl rfl (Bin.remN z.toNat 26 (by omega))) rfl ?_
      refine Ops.r (Run.bin rfl rfl (Bin.add_u8 97 (z.toNat % 26) (by omega))) rfl ?_
      rw [← hcx]
      refine Ops.m (Does.buildS1 rfl Tryd.underlying34 Tryd.sizeOf5 zero5 (by decide) (by decide) rfl rfl) rfl ?_
      rintro _ w2 ⟨rfl, hF2⟩
      have K2 := K.trans hF2.frm (by simp)
      have hr2 : Rd w2 1 (some ⟨wr.heap.size, 0, none⟩) 1 (U8 [cx z]) := Rd.of_blk (n := 1) (size := 1) hF2.blk rfl
      refine Ops.r (Run.strOfT rfl Tryd.underlying34 Tryd.underlying5 Tryd.underlying9 hr2) rfl ?_
      refine Ops.r (Run.addT rfl rfl (by simp only [List.length_cons, List.length_nil]; omega)) rfl ?_
      refine Ops.r (Run.asg rfl) rfl ?_
      refine Ops.nil ?_
      refine blockQ_n (thenQ_n ?_)
      refine VC.sub [(0, _), (1, _), (5, _), (6, _)] (.cons rfl (.cons rfl (.cons rfl (.cons rfl .nil)))) ?_
      refine VC.region ?_
      refine Ops.r (Run.mv rfl) rfl ?_
      refine Ops.r (Run.bin rfl rfl (Bin.add_i64 _ 1 (by omega))) rfl ?_
      refine Ops.r (Run.asg rfl) rfl ?_
      refine Ops.nil ?_
      refine thenQ_n ⟨(i + 1), (.cons rfl (.cons rfl (.cons (by rw [hts]; simp only [List.map_append, List.map_cons, List.map_nil]; rfl) (.cons rfl .nil)))), ?_, ?_⟩
      · skip
        exact ⟨hc1.1, hc1.2, K2⟩
      · skip
        omega
    · skip
      have hX : ∀ c ∈ (a.take i).map cx, 97 ≤ c.toNat ∧ c.toNat ≤ 122 := fun c hc => map_cx hc
      have hXl : ((a.take i).map cx).length ≤ 20 := by rw [List.length_map, List.length_take]; omega
      generalize (a.take i).map cx = X at *
      clear hi hi2 hc1
      refine VC.exit ?_
      refine thenQ_x (thenQ_x (blockQ_x ?_))
      refine thenQ_n ?_
      refine VC.sub [(1, _), (5, _)] (.cons rfl (.cons rfl .nil)) ?_
      refine VC.seq ?_
      refine VC.region ?_
      refine Ops.r (Run.asg rfl) rfl ?_
      refine Ops.nil ?_
      refine thenQ_n ?_
      refine VC.seq ?_
      refine VC.seq ?_
      refine VC.region ?_
      refine Ops.r (v := .int .i64 ((0 : Nat) : Int)) (Run.asg rfl) rfl ?_
      refine Ops.nil ?_
      refine thenQ_n ?_
      refine VC.block ?_
      refine VC.loop (σ := Nat) (fun s => [(1, encStr b), (5, encStr X), (7, encStr ((b.take s).map cy)), (8, .int .i64 ((s : Nat) : Int))]) (fun s wr => s ≤ b.length ∧ s ≤ 20 ∧ Frm [] w wr) (fun s => 20 - s) 0 (.cons rfl (.cons rfl (.cons rfl (.cons rfl .nil)))) ⟨by omega, by omega, K⟩ ?_
      rintro i wr ⟨hi, hi2, K⟩
      refine VC.seq ?_
      refine VC.seq ?_
      refine VC.split1 [(1, _), (5, _), (7, _), (8, _)] (.cons rfl (.cons rfl (.cons rfl (.cons rfl .nil)))) 42 (.bool (decide ((i < b.length) ∧ (i < 20)))) ?_ ?_
      · by_cases hs0 : i < b.length
        · skip
          refine VC.region ?_
          refine Ops.r (Run.mv rfl) rfl ?_
          refine Ops.r (Run.mv rfl) rfl ?_
          refine Ops.r (Run.lenT rfl Tryd.underlying9) rfl ?_
          refine Ops.r (Run.bin rfl rfl (Bin.lssN _ _)) rfl ?_
          refine Ops.r (Run.mv rfl) rfl ?_
          refine Ops.rg rfl (by first | rfl | assumption | exact decide_eq_true (by assumption) | exact decide_eq_false (by assumption) | decide | (simp; done) | (simp; omega) | (simp [*]; done)) (Run.mv rfl) rfl ?_
          refine Ops.rg rfl (by first | rfl | assumption | exact decide_eq_true (by assumption) | exact decide_eq_false (by assumption) | decide | (simp; done) | (simp; omega) | (simp [*]; done)) (Run.bin rfl rfl (Bin.lssN _ 20)) rfl ?_
          refine Ops.r (Run.pickT rfl rfl (by first | rfl | assumption | exact decide_eq_true (by assumption) | exact decide_eq_false (by assumption) | decide | (simp; done) | (simp; omega) | (simp [*]; done))) rfl ?_
          refine Ops.nil ?_
          refine thenQ_n ⟨(.cons (by rw [dand1 hs0]; rfl) (.cons rfl (.cons rfl (.cons rfl (.cons rfl .nil))))), rfl⟩
        · skip
          refine VC.region ?_
          refine Ops.r (Run.mv rfl) rfl ?_
          refine Ops.r (Run.mv rfl) rfl ?_
          refine Ops.r (Run.lenT rfl Tryd.underlying9) rfl ?_
          refine Ops.r (Run.bin rfl rfl (Bin.lssN _ _)) rfl ?_
          refine Ops.r (Run.mv rfl) rfl ?_
          refine Ops.sk rfl (by first | rfl | assumption | exact decide_eq_true (by assumption) | exact decide_eq_false (by assumption) | decide | (simp; done) | (simp; omega) | (simp [*]; done)) rfl ?_
          refine Ops.sk rfl (by first | rfl | assumption | exact decide_eq_true (by assumption) | exact decide_eq_false (by assumption) | decide | (simp; done) | (simp; omega) | (simp [*]; done)) rfl ?_
          refine Ops.r (Run.pickF rfl rfl (by first | rfl | assumption | exact decide_eq_true (by assumption) | exact decide_eq_false (by assumption) | decide | (simp; done) | (simp; omega) | (simp [*]; done))) rfl ?_
          refine Ops.nil ?_
          refine thenQ_n ⟨(.cons (by rw [dand0 hs0]; rfl) (.cons rfl (.cons rfl (.cons rfl (.cons rfl .nil))))), rfl⟩
      · intro Γ hΓ
        refine thenQ_n (VC.sub _ hΓ ?_)
        refine VC.condD rfl (fun hc2 => ?_) (fun hc2 => ?_)
        · skip
          have hts := take_snoc hc2.1
          have hgx : b[i]? = some b[i] := List.getElem?_eq_getElem hc2.1
          have hll : ((b.take i).map cy).length = i := by rw [List.length_map, List.length_take]; omega
          generalize hx : b[i] = z at *
          have hcx := cy_nat z
          refine VC.skip ?_
          refine thenQ_n ?_
          refine VC.sub [(1, _), (5, _), (7, _), (8, _)] (.cons rfl (.cons rfl (.cons rfl (.cons rfl .nil)))) ?_
          refine VC.seq ?_
          refine VC.block ?_
          refine VC.region ?_
          refine Ops.r (Run.mv rfl) rfl ?_
          refine Ops.r (Run.mv rfl) rfl ?_
          refine Ops.r (Run.mv rfl) rfl ?_
          refine Ops.r (Run.indexT _ rfl rfl Tryd.underlying9 hgx) rfl ?_
          refine Ops.r (Run.bin rfl rfl (Bin.remN z.toNat 26 (by omega))) rfl ?_
          refine Ops.r (Run.bin rfl rfl (Bin.add_u8 65 (z.toNat % 26) (by omega))) rfl ?_
          rw [← hcx]
          refine Ops.m (Does.buildS1 rfl Tryd.underlying34 Tryd.sizeOf5 zero5 (by decide) (by decide) rfl rfl) rfl ?_
          rintro _ w2 ⟨rfl, hF2⟩
          have K2 := K.trans hF2.frm (by simp)
          have hr2 : Rd w2 1 (some ⟨wr.heap.size, 0, none⟩) 1 (U8 [cy z]) := Rd.of_blk (n := 1) (size := 1) hF2.blk rfl
          refine Ops.r (Run.strOfT rfl Tryd.underlying34 Tryd.underlying5 Tryd.underlying9 hr2) rfl ?_
          refine Ops.r (Run.addT rfl rfl (by simp only [List.length_cons, List.length_nil]; omega)) rfl ?_
          refine Ops.r (Run.asg rfl) rfl ?_
          refine Ops.nil ?_
          refine blockQ_n (thenQ_n ?_)
          refine VC.sub [(1, _), (5, _), (7, _), (8, _)] (.cons rfl (.cons rfl (.cons rfl (.cons rfl .nil)))) ?_
          refine VC.region ?_
          refine Ops.r (Run.mv rfl) rfl ?_
          refine Ops.r (Run.bin rfl rfl (Bin.add_i64 _ 1 (by omega))) rfl ?_
          refine Ops.r (Run.asg rfl) rfl ?_
          refine Ops.nil ?_
          refine thenQ_n ⟨(i + 1), (.cons rfl (.cons rfl (.cons (by rw [hts]; simp only [List.map_append, List.map_cons, List.map_nil]; rfl) (.cons rfl .nil)))), ?_, ?_⟩
          · skip
            exact ⟨hc2.1, hc2.2, K2⟩
          · skip
            omega
        · skip
          have hY : ∀ c ∈ (b.take i).map cy, 65 ≤ c.toNat ∧ c.toNat ≤ 90 := fun c hc => map_cy hc
          have hYl : ((b.take i).map cy).length ≤ 20 := by rw [List.length_map, List.length_take]; omega
          generalize (b.take i).map cy = Y at *
          clear hi hi2 hc2
          refine VC.exit ?_
          refine thenQ_x (thenQ_x (blockQ_x ?_))
          refine thenQ_n ?_
          refine VC.sub [(5, _), (7, _)] (.cons rfl (.cons rfl .nil)) ?_
          refine VC.seq ?_
          refine VC.region ?_
          refine Ops.r (Run.mv rfl) rfl ?_
          refine Ops.r (Run.addT rfl rfl (by simp only [List.length_append, List.length_cons, List.length_nil]; omega)) rfl ?_
          refine Ops.r (Run.addT rfl rfl (by simp only [List.length_append, List.length_cons, List.length_nil]; omega)) rfl ?_
          rw [ord1_txt]
          refine Ops.cl (Enters.fn (evs.cons rfl evs.nil) Tryd.call13) (read_spec (ord1 X) _ (by rw [← ord1_txt]; simp only [List.length_append, List.length_cons, List.length_nil]; omega)) rfl ?_
          rintro e v1 ⟨hf_v1, A1, c1, rfl, hO1, _⟩
          rw [show medQ (ord1 X) = ordM X from ord1_med hX] at hO1 ⊢
          refine ⟨_, rfl, ?_⟩
          have K := Frm.trans K hf_v1 (by simp)
          refine Ops.m (Does.alloc zero26) rfl ?_
          rintro _ v2 ⟨rfl, hF_v2⟩
          have hb9 := hF_v2.blk
          have hs9_K := K.size
          have hO1 := hO1.frm hF_v2.frm (by simp)
          have K := Frm.trans K hF_v2.frm (by simp)
          generalize hg9 : v1.heap.size = g9 at hb9 hs9_K ⊢
          refine Ops.st (Acts.storeA rfl rfl Tryd.sizeOf26 hb9 rfl (MdC_one (ordM X) A1 c1)) ?_
          rintro v3 ⟨hbn_v3, hf_v3, hsz_v3⟩
          have hO1 := hO1.frm hf_v3 (fun y hy => by have := hO1.ne_blk hb9 (by decide); simp; rintro rfl; exact this hy)
          have hb9 : Blk v3 g9 26 (MdC (ordM X) A1 c1) := hbn_v3
          have K := Frm.own K hf_v3 (fun y hy => by simp at hy; omega)
          refine Ops.nil ?_
          refine thenQ_n ?_
          refine VC.sub [(5, _), (7, _), (9, _)] (.cons rfl (.cons rfl (.cons rfl .nil))) ?_
          refine VC.seq ?_
          refine VC.region ?_
          refine Ops.r (Run.mv rfl) rfl ?_
          refine Ops.r (Run.addT rfl rfl (by simp only [List.length_append, List.length_cons, List.length_nil]; omega)) rfl ?_
          refine Ops.r (Run.addT rfl rfl (by simp only [List.length_append, List.length_cons, List.length_nil]; omega)) rfl ?_
          refine Ops.r (Run.mv rfl) rfl ?_
          refine Ops.r (Run.addT rfl rfl (by simp only [List.length_append, List.length_cons, List.length_nil]; omega)) rfl ?_
          refine Ops.r (Run.addT rfl rfl (by simp only [List.length_append, List.length_cons, List.length_nil]; omega)) rfl ?_
          refine Ops.r (Run.mv rfl) rfl ?_
          refine Ops.r (Run.addT rfl rfl (by simp only [List.length_append, List.length_cons, List.length_nil]; omega)) rfl ?_
          refine Ops.r (Run.addT rfl rfl (by simp only [List.length_append, List.length_cons, List.length_nil]; omega)) rfl ?_
          rw [ord2_txt]
          refine Ops.cl (Enters.fn (evs.cons rfl evs.nil) Tryd.call13) (read_spec (ord2 X Y) _ (by rw [← ord2_txt]; simp only [List.length_append, List.length_cons, List.length_nil]; omega)) rfl ?_
          rintro e v4 ⟨hf_v4, A2, c2, rfl, hO2, _⟩
          rw [show medQ (ord2 X Y) = ordN X Y from ord2_med hX hY] at hO2 ⊢
          refine ⟨_, rfl, ?_⟩
          have hO1 := hO1.frm hf_v4 (by simp)
          have hb9 := hb9.frm hf_v4 (by simp)
          have K := Frm.trans K hf_v4 (by simp)
          refine Ops.m (Does.alloc zero26) rfl ?_
          rintro _ v5 ⟨rfl, hF_v5⟩
          have hb10 := hF_v5.blk
          have hs10_K := K.size
          have lt_hb9_10 := hb9.lt
          have hO1 := hO1.frm hF_v5.frm (by simp)
          have hb9 := hb9.frm hF_v5.frm (by simp)
          have hO2 := hO2.frm hF_v5.frm (by simp)
          have K := Frm.trans K hF_v5.frm (by simp)
          generalize hg10 : v4.heap.size = g10 at hb10 hs10_K lt_hb9_10 ⊢
          refine Ops.st (Acts.storeA rfl rfl Tryd.sizeOf26 hb10 rfl (MdC_one (ordN X Y) A2 c2)) ?_
          rintro v6 ⟨hbn_v6, hf_v6, hsz_v6⟩
          have hO1 := hO1.frm hf_v6 (fun y hy => by have := hO1.ne_blk hb10 (by decide); simp; rintro rfl; exact this hy)
          have hb9 := hb9.frm hf_v6 (by simp; omega)
          have hO2 := hO2.frm hf_v6 (fun y hy => by have := hO2.ne_blk hb10 (by decide); simp; rintro rfl; exact this hy)
          have hb10 : Blk v6 g10 26 (MdC (ordN X Y) A2 c2) := hbn_v6
          have K := Frm.own K hf_v6 (fun y hy => by simp at hy; omega)
          refine Ops.nil ?_
          refine thenQ_n ?_
          refine VC.sub [(5, _), (7, _), (9, _), (10, _)] (.cons rfl (.cons rfl (.cons rfl (.cons rfl .nil)))) ?_
          refine VC.seq ?_
          refine VC.region ?_
          refine Ops.r (Run.asg rfl) rfl ?_
          refine Ops.nil ?_
          refine thenQ_n ?_
          refine VC.seq ?_
          refine VC.seq ?_
          refine VC.region ?_
          refine Ops.r (v := .int .i64 ((0 : Nat) : Int)) (Run.asg rfl) rfl ?_
          refine Ops.nil ?_
          refine thenQ_n ?_
          refine VC.block ?_
          refine VC.loop (σ := Nat) (fun s => [(5, encStr X), (7, encStr Y), (9, .pointer (some ⟨g9, 0, none⟩)), (10, .pointer (some ⟨g10, 0, none⟩)), (11, encStr (smallS (Y.take s))), (12, .int .i64 ((s : Nat) : Int))]) (fun s wr => s ≤ Y.length ∧ Frm [] v6 wr) (fun s => Y.length - s) 0 (.cons rfl (.cons rfl (.cons rfl (.cons rfl (.cons rfl (.cons rfl .nil)))))) ⟨by omega, Frm.refl _ _⟩ ?_
          rintro i wr ⟨hi, K6⟩
          refine VC.seq ?_
          refine VC.seq ?_
          refine VC.region ?_
          refine Ops.r (Run.mv rfl) rfl ?_
          refine Ops.r (Run.mv rfl) rfl ?_
          refine Ops.r (Run.lenT rfl Tryd.underlying9) rfl ?_
          refine Ops.r (Run.bin rfl rfl (Bin.lssN _ _)) rfl ?_
          refine Ops.nil ?_
          refine thenQ_n ?_
          refine VC.sub [(5, _), (7, _), (9, _), (10, _), (11, _), (12, _), (71, _)] (.cons rfl (.cons rfl (.cons rfl (.cons rfl (.cons rfl (.cons rfl (.cons rfl .nil))))))) ?_
          refine VC.condD rfl (fun hc3 => ?_) (fun hc3 => ?_)
          · skip
            have hts := take_snoc hc3
            have hgx : Y[i]? = some Y[i] := List.getElem?_eq_getElem hc3
            have hzz := hY _ (List.getElem_mem hc3)
            have hll := smallS_len (Y.take i)
            rw [List.length_take] at hll
            generalize hx : Y[i] = z at *
            have hlz := low_nat z
            rw [if_pos hzz] at hlz
            refine VC.skip ?_
            refine thenQ_n ?_
            refine VC.sub [(5, _), (7, _), (9, _), (10, _), (11, _), (12, _)] (.cons rfl (.cons rfl (.cons rfl (.cons rfl (.cons rfl (.cons rfl .nil)))))) ?_
            refine VC.seq ?_
            refine VC.block ?_
            refine VC.region ?_
            refine Ops.r (Run.mv rfl) rfl ?_
            refine Ops.r (Run.mv rfl) rfl ?_
            refine Ops.r (Run.mv rfl) rfl ?_
            refine Ops.r (Run.indexT _ rfl rfl Tryd.underlying9 hgx) rfl ?_
            refine Ops.r (Run.bin rfl rfl (Bin.add_u8 z.toNat 32 (by omega))) rfl ?_
            rw [← hlz]
            refine Ops.m (Does.buildS1 rfl Tryd.underlying34 Tryd.sizeOf5 zero5 (by decide) (by decide) rfl rfl) rfl ?_
            rintro _ w2 ⟨rfl, hF2⟩
            have K2 := K6.trans hF2.frm (by simp)
            have hr2 : Rd w2 1 (some ⟨wr.heap.size, 0, none⟩) 1 (U8 [low z]) := Rd.of_blk (n := 1) (size := 1) hF2.blk rfl
            refine Ops.r (Run.strOfT rfl Tryd.underlying34 Tryd.underlying5 Tryd.underlying9 hr2) rfl ?_
            refine Ops.r (Run.addT rfl rfl (by simp only [List.length_cons, List.length_nil]; omega)) rfl ?_
            refine Ops.r (Run.asg rfl) rfl ?_
            refine Ops.nil ?_
            refine blockQ_n (thenQ_n ?_)
            refine VC.sub [(5, _), (7, _), (9, _), (10, _), (11, _), (12, _)] (.cons rfl (.cons rfl (.cons rfl (.cons rfl (.cons rfl (.cons rfl .nil)))))) ?_
            refine VC.region ?_
            refine Ops.r (Run.mv rfl) rfl ?_
            refine Ops.r (Run.bin rfl rfl (Bin.add_i64 _ 1 (by omega))) rfl ?_
            refine Ops.r (Run.asg rfl) rfl ?_
            refine Ops.nil ?_
            refine thenQ_n ⟨(i + 1), (.cons rfl (.cons rfl (.cons rfl (.cons rfl (.cons (by rw [hts]; simp only [smallS, List.map_append, List.map_cons, List.map_nil]; rfl) (.cons rfl .nil)))))), ?_, ?_⟩
            · skip
              exact ⟨hc3, K2⟩
            · skip
              first | omega | (dsimp only; omega)
          · skip
            have hil : i = Y.length := by omega
            rw [hil, List.take_length]
            have hSl := smallS_len Y
            have hK := K.trans K6 (by simp)
            have hD := Drawn.drew wr
            have hb9 := hb9.frm K6 (by simp)
            have hb10 := hb10.frm K6 (by simp)
            have hO1 := hO1.frm K6 (by simp)
            have hO2 := hO2.frm K6 (by simp)
            have hr1 := hO1.rd.drawn hD
            have hr2 := hO2.rd.drawn hD
            have hd9 := hb9.drawn hD
            have hd10 := hb10.drawn hD
            obtain ⟨ad1, rfl, hc10⟩ := PC_at (l := (ordM X).ps) hr1 (k := 0) (by simp [ordM])
            obtain ⟨ad2, rfl, hc20⟩ := PC_at (l := (ordN X Y).ps) hr2 (k := 0) (by simp [ordN])
            obtain ⟨ad3, h23, hc21⟩ := PC_at (l := (ordN X Y).ps) hr2 (k := 1) (by simp [ordN])
            cases h23
            refine VC.exit ?_
            refine thenQ_x (thenQ_x (blockQ_x ?_))
            refine thenQ_n ?_
            refine VC.sub [(5, _), (7, _), (9, _), (10, _), (11, _)] (.cons rfl (.cons rfl (.cons rfl (.cons rfl (.cons rfl .nil))))) ?_
            refine VC.seq ?_
            refine VC.seq ?_
            refine VC.splitR [(5, encStr X), (7, encStr Y), (9, .pointer (some ⟨g9, 0, none⟩)), (10, .pointer (some ⟨g10, 0, none⟩)), (11, encStr (smallS Y))] (fun W => W = wr.drew) 122 (.bool (decide (False))) ?_ ?_
            · refine VC.still (by kernel_rfl) (by kernel_rfl) ?_
              refine SOps.r (Run.fieldAddr rfl Tryd.underlying26 rfl Tryd.sizeOf24 (by decide)) rfl ?_
              refine SOps.r (Run.load rfl Tryd.isAgg24 (hd9.cell 2)) rfl ?_
              refine SOps.r (Run.lenS rfl Tryd.underlying24) rfl ?_
              refine SOps.r (Run.bin rfl rfl (Bin.neqN _ 1)) rfl ?_
              refine SOps.r (Run.mv rfl) rfl ?_
              refine SOps.rg rfl (by first | rfl | assumption | exact decide_eq_true (by assumption) | exact decide_eq_false (by assumption) | decide | (simp; done) | (simp; omega) | (simp [*]; done)) (Run.fieldAddr rfl Tryd.underlying26 rfl Tryd.sizeOf24 (by decide)) rfl ?_
              refine SOps.rg rfl (by first | rfl | assumption | exact decide_eq_true (by assumption) | exact decide_eq_false (by assumption) | decide | (simp; done) | (simp; omega) | (simp [*]; done)) (Run.load rfl Tryd.isAgg24 (hd10.cell 2)) rfl ?_
              refine SOps.rg rfl (by first | rfl | assumption | exact decide_eq_true (by assumption) | exact decide_eq_false (by assumption) | decide | (simp; done) | (simp; omega) | (simp [*]; done)) (Run.lenS rfl Tryd.underlying24) rfl ?_
              refine SOps.rg rfl (by first | rfl | assumption | exact decide_eq_true (by assumption) | exact decide_eq_false (by assumption) | decide | (simp; done) | (simp; omega) | (simp [*]; done)) (Run.bin rfl rfl (Bin.neqN _ 2)) rfl ?_
              refine SOps.r (Run.pickF rfl rfl (by first | rfl | assumption | exact decide_eq_true (by assumption) | exact decide_eq_false (by assumption) | decide | (simp; done) | (simp; omega) | (simp [*]; done))) rfl ?_
              refine SOps.r (Run.mv rfl) rfl ?_
              refine SOps.rg rfl (by first | rfl | assumption | exact decide_eq_true (by assumption) | exact decide_eq_false (by assumption) | decide | (simp; done) | (simp; omega) | (simp [*]; done)) (Run.fieldAddr rfl Tryd.underlying26 rfl Tryd.sizeOf24 (by decide)) rfl ?_
              refine SOps.rg rfl (by first | rfl | assumption | exact decide_eq_true (by assumption) | exact decide_eq_false (by assumption) | decide | (simp; done) | (simp; omega) | (simp [*]; done)) (Run.load rfl Tryd.isAgg24 (hd10.cell 2)) rfl ?_
              refine SOps.rg rfl (by first | rfl | assumption | exact decide_eq_true (by assumption) | exact decide_eq_false (by assumption) | decide | (simp; done) | (simp; omega) | (simp [*]; done)) (Run.indexS 0 rfl rfl Tryd.underlying24 Tryd.sizeOf36 (by simp [ordM, ordN])) rfl ?_
              refine SOps.rg rfl (by first | rfl | assumption | exact decide_eq_true (by assumption) | exact decide_eq_false (by assumption) | decide | (simp; done) | (simp; omega) | (simp [*]; done)) (Run.loadA rfl Tryd.isAgg36 Tryd.sizeOf36 hc20 (by first | rfl | (simp; done))) rfl ?_
              refine SOps.rg rfl (by first | rfl | assumption | exact decide_eq_true (by assumption) | exact decide_eq_false (by assumption) | decide | (simp; done) | (simp; omega) | (simp [*]; done)) (Run.fieldAddr rfl Tryd.underlying26 rfl Tryd.sizeOf24 (by decide)) rfl ?_
              refine SOps.rg rfl (by first | rfl | assumption | exact decide_eq_true (by assumption) | exact decide_eq_false (by assumption) | decide | (simp; done) | (simp; omega) | (simp [*]; done)) (Run.load rfl Tryd.isAgg24 (hd9.cell 2)) rfl ?_
              refine SOps.rg rfl (by first | rfl | assumption | exact decide_eq_true (by assumption) | exact decide_eq_false (by assumption) | decide | (simp; done) | (simp; omega) | (simp [*]; done)) (Run.indexS 0 rfl rfl Tryd.underlying24 Tryd.sizeOf36 (by simp [ordM, ordN])) rfl ?_
              refine SOps.rg rfl (by first | rfl | assumption | exact decide_eq_true (by assumption) | exact decide_eq_false (by assumption) | decide | (simp; done) | (simp; omega) | (simp [*]; done)) (Run.loadA rfl Tryd.isAgg36 Tryd.sizeOf36 hc10 (by first | rfl | (simp; done))) rfl ?_
              refine SOps.rg rfl (by first | rfl | assumption | exact decide_eq_true (by assumption) | exact decide_eq_false (by assumption) | decide | (simp; done) | (simp; omega) | (simp [*]; done)) (Run.neqAgg rfl rfl (by kernel_rfl) (by kernel_rfl) (by kernel_rfl) ((par_eq (110 :: X, [49]) (110 :: X, [49]) _))) rfl ?_
              refine SOps.r (Run.pickF rfl rfl (by first | rfl | assumption | exact decide_eq_true (by assumption) | exact decide_eq_false (by assumption) | decide | (simp; done) | (simp; omega) | (simp [*]; done))) rfl ?_
              refine SOps.r (Run.mv rfl) rfl ?_
              refine SOps.rg rfl (by first | rfl | assumption | exact decide_eq_true (by assumption) | exact decide_eq_false (by assumption) | decide | (simp; done) | (simp; omega) | (simp [*]; done)) (Run.fieldAddr rfl Tryd.underlying26 rfl Tryd.sizeOf24 (by decide)) rfl ?_
              refine SOps.rg rfl (by first | rfl | assumption | exact decide_eq_true (by assumption) | exact decide_eq_false (by assumption) | decide | (simp; done) | (simp; omega) | (simp [*]; done)) (Run.load rfl Tryd.isAgg24 (hd10.cell 2)) rfl ?_
              refine SOps.rg rfl (by first | rfl | assumption | exact decide_eq_true (by assumption) | exact decide_eq_false (by assumption) | decide | (simp; done) | (simp; omega) | (simp [*]; done)) (Run.indexS 1 rfl rfl Tryd.underlying24 Tryd.sizeOf36 (by simp [ordM, ordN])) rfl ?_
              refine SOps.rg rfl (by first | rfl | assumption | exact decide_eq_true (by assumption) | exact decide_eq_false (by assumption) | decide | (simp; done) | (simp; omega) | (simp [*]; done)) (Run.fieldAddr rfl Tryd.underlying36 rfl Tryd.sizeOf9 (by decide)) rfl ?_
              refine SOps.rg rfl (by first | rfl | assumption | exact decide_eq_true (by assumption) | exact decide_eq_false (by assumption) | decide | (simp; done) | (simp; omega) | (simp [*]; done)) (Run.load rfl Tryd.isAgg9 (by have := hc21 0 (encStr (110 :: smallS Y)) rfl; simpa using this)) rfl ?_
              refine SOps.rg rfl (by first | rfl | assumption | exact decide_eq_true (by assumption) | exact decide_eq_false (by assumption) | decide | (simp; done) | (simp; omega) | (simp [*]; done)) (Run.mv rfl) rfl ?_
              refine SOps.rg rfl (by first | rfl | assumption | exact decide_eq_true (by assumption) | exact decide_eq_false (by assumption) | decide | (simp; done) | (simp; omega) | (simp [*]; done)) (Run.addT rfl rfl (by simp only [List.length_append, List.length_cons, List.length_nil]; omega)) rfl ?_
              refine SOps.rg rfl (by first | rfl | assumption | exact decide_eq_true (by assumption) | exact decide_eq_false (by assumption) | decide | (simp; done) | (simp; omega) | (simp [*]; done)) (Run.neqT rfl rfl) rfl ?_
              refine SOps.r (Run.pickF rfl rfl (by first | rfl | assumption | exact decide_eq_true (by assumption) | exact decide_eq_false (by assumption) | decide | (simp; done) | (simp; omega) | (simp [*]; done))) rfl ?_
              refine SOps.r (Run.mv rfl) rfl ?_
              refine SOps.rg rfl (by first | rfl | assumption | exact decide_eq_true (by assumption) | exact decide_eq_false (by assumption) | decide | (simp; done) | (simp; omega) | (simp [*]; done)) (Run.fieldAddr rfl Tryd.underlying26 rfl Tryd.sizeOf24 (by decide)) rfl ?_
              refine SOps.rg rfl (by first | rfl | assumption | exact decide_eq_true (by assumption) | exact decide_eq_false (by assumption) | decide | (simp; done) | (simp; omega) | (simp [*]; done)) (Run.load rfl Tryd.isAgg24 (hd10.cell 2)) rfl ?_
              refine SOps.rg rfl (by first | rfl | assumption | exact decide_eq_true (by assumption) | exact decide_eq_false (by assumption) | decide | (simp; done) | (simp; omega) | (simp [*]; done)) (Run.indexS 1 rfl rfl Tryd.underlying24 Tryd.sizeOf36 (by simp [ordM, ordN])) rfl ?_
              refine SOps.rg rfl (by first | rfl | assumption | exact decide_eq_true (by assumption) | exact decide_eq_false (by assumption) | decide | (simp; done) | (simp; omega) | (simp [*]; done)) (Run.fieldAddr rfl Tryd.underlying36 rfl Tryd.sizeOf9 (by decide)) rfl ?_
              refine SOps.rg rfl (by first | rfl | assumption | exact decide_eq_true (by assumption) | exact decide_eq_false (by assumption) | decide | (simp; done) | (simp; omega) | (simp [*]; done)) (Run.load rfl Tryd.isAgg9 (by have := hc21 1 (encStr (Y ++ [50])) rfl; simpa using this)) rfl ?_
              refine SOps.rg rfl (by first | rfl | assumption | exact decide_eq_true (by assumption) | exact decide_eq_false (by assumption) | decide | (simp; done) | (simp; omega) | (simp [*]; done)) (Run.mv rfl) rfl ?_
              refine SOps.rg rfl (by first | rfl | assumption | exact decide_eq_true (by assumption) | exact decide_eq_false (by assumption) | decide | (simp; done) | (simp; omega) | (simp [*]; done)) (Run.addT rfl rfl (by simp only [List.length_append, List.length_cons, List.length_nil]; omega)) rfl ?_
              refine SOps.rg rfl (by first | rfl | assumption | exact decide_eq_true (by assumption) | exact decide_eq_false (by assumption) | decide | (simp; done) | (simp; omega) | (simp [*]; done)) (Run.neqT rfl rfl) rfl ?_
              refine SOps.r (Run.pickF rfl rfl (by first | rfl | assumption | exact decide_eq_true (by assumption) | exact decide_eq_false (by assumption) | decide | (simp; done) | (simp; omega) | (simp [*]; done))) rfl ?_
              refine SOps.nil ?_
              refine thenQ_n ⟨(.cons (congrArg (fun b => some (Value.bool b)) (by first | rfl | (simp; done))) (.cons rfl (.cons rfl (.cons rfl (.cons rfl (.cons rfl .nil)))))), (rfl)⟩
            · intro Γ wR hΓ hR
              refine thenQ_n (VC.sub _ hΓ ?_)
              refine VC.condF rfl (decide_eq_false (by simp)) ?_
              refine VC.skip ?_
              refine thenQ_n ?_
              refine VC.sub [(5, _), (7, _), (9, _), (10, _), (11, _)] (.cons rfl (.cons rfl (.cons rfl (.cons rfl (.cons rfl .nil))))) ?_
              refine VC.seq ?_
              refine VC.region ?_
              subst hR
              refine Ops.r (Run.loadA rfl Tryd.isAgg26 Tryd.sizeOf26 (fun j v hj => hd10.cells j v hj) (by first | rfl | (simp; done))) rfl ?_
              refine Ops.r (Run.mv rfl) rfl ?_
              refine Ops.r (Run.addT rfl rfl (by simp only [List.length_append, List.length_cons, List.length_nil]; omega)) rfl ?_
              refine Ops.cl (Enters.fn (evs.cons rfl (evs.cons rfl evs.nil)) Tryd.call18) (find_spec (ordN X Y) (some ad2) c2 ([110] ++ smallS Y) _ hr2 (by simp [ordN])) rfl ?_
              rintro e v7 ⟨hf7, rfl⟩
              rw [show findQ (ordN X Y).ps ([110] ++ smallS Y) = _ from find_ord X Y (smallS Y)]
              refine ⟨_, rfl, ?_⟩
              have hK := (hK.drawn hD).trans hf7 (by simp)
              have hd9 := hd9.frm hf7 (by simp)
              have hd10 := hd10.frm hf7 (by simp)
              have hr1 := hr1.frm hf7 (by simp)
              have hr2 := hr2.frm hf7 (by simp)
              refine Ops.r (Run.mv rfl) rfl ?_
              refine Ops.r (Run.extract rfl rfl) rfl ?_
              refine Ops.r (Run.extract rfl rfl) rfl ?_
              refine Ops.r (Run.asg rfl) rfl ?_
              refine Ops.r (Run.asg rfl) rfl ?_
              refine Ops.nil ?_
              refine thenQ_n ?_
              refine VC.sub [(5, _), (7, _), (9, _), (10, _), (11, _), (13, _), (14, _)] (.cons rfl (.cons rfl (.cons rfl (.cons rfl (.cons rfl (.cons rfl (.cons rfl .nil))))))) ?_
              refine VC.seq ?_
              refine VC.region ?_
              refine Ops.r (Run.mv rfl) rfl ?_
              refine Ops.r (Run.addT rfl rfl (by simp only [List.length_append, List.length_cons, List.length_nil]; omega)) rfl ?_
              refine Ops.r (Run.asg rfl) rfl ?_
              refine Ops.nil ?_
              refine thenQ_n ?_
              refine VC.sub [(5, _), (9, _), (10, _), (11, _), (13, _), (14, _), (15, _)] (.cons rfl (.cons rfl (.cons rfl (.cons rfl (.cons rfl (.cons rfl (.cons rfl .nil))))))) ?_
              refine VC.seq ?_
              refine VC.seq ?_
              refine VC.region ?_
              refine Ops.r (Run.mv rfl) rfl ?_
              refine Ops.r (Run.mv rfl) rfl ?_
              refine Ops.r (Run.eqlT rfl rfl) rfl ?_
              refine Ops.nil ?_
              refine thenQ_n ?_
              refine VC.sub [(9, _), (10, _), (13, _), (14, _), (15, _), (134, _)] (.cons rfl (.cons rfl (.cons rfl (.cons rfl (.cons rfl (.cons rfl .nil)))))) ?_
              refine VC.meet (σ := Unit) (fun s => [(9, .pointer (some ⟨g9, 0, none⟩)), (10, .pointer (some ⟨g10, 0, none⟩)), (13, encStr (if smallS Y = X then [49] else Y ++ [50])), (14, .bool true), (15, encStr (if smallS Y = X then [49] else Y ++ [50]))]) (fun s wr => v7 = wr) ?_ ?_
              · skip
                refine VC.condD rfl (fun hc5 => ?_) (fun hc5 => ?_)
                · skip
                  refine VC.region ?_
                  refine Ops.r (Run.asg rfl) rfl ?_
                  refine Ops.nil ?_
                  refine thenQ_n ⟨(), (.cons rfl (.cons rfl (.cons rfl (.cons rfl (.cons (by rw [if_pos hc5]; rfl) .nil))))), ?_⟩
                  rfl
                · skip
                  refine VC.skip ?_
                  refine thenQ_n ⟨(), (.cons rfl (.cons rfl (.cons rfl (.cons rfl (.cons (by rw [if_neg hc5]; rfl) .nil))))), ?_⟩
                  rfl
              · skip
                rintro _ _ rfl Γ hΓ
                refine thenQ_n (VC.sub _ hΓ ?_)
                refine VC.seq ?_
                refine VC.region ?_
                refine Ops.r (Run.mv rfl) rfl ?_
                refine Ops.r (Run.mv rfl) rfl ?_
                refine Ops.r (Run.eqlT rfl rfl) rfl ?_
                refine Ops.r (Run.mv rfl) rfl ?_
                refine Ops.rg rfl (by first | rfl | assumption | exact decide_eq_true (by assumption) | exact decide_eq_false (by assumption) | decide | (simp; done) | (simp; omega) | (simp [*]; done)) (Run.mv rfl) rfl ?_
                refine Ops.r (Run.pickT rfl rfl (by first | rfl | assumption | exact decide_eq_true (by assumption) | exact decide_eq_false (by assumption) | decide | (simp; done) | (simp; omega) | (simp [*]; done))) rfl ?_
                refine Ops.r (Run.mv rfl) rfl ?_
                refine Ops.rg rfl (by first | rfl | assumption | exact decide_eq_true (by assumption) | exact decide_eq_false (by assumption) | decide | (simp; done) | (simp; omega) | (simp [*]; done)) (Run.loadA rfl Tryd.isAgg26 Tryd.sizeOf26 (fun j v hj => hd9.cells j v hj) (by first | rfl | (simp; done))) rfl ?_
                refine Ops.rg rfl (by first | rfl | assumption | exact decide_eq_true (by assumption) | exact decide_eq_false (by assumption) | decide | (simp; done) | (simp; omega) | (simp [*]; done)) (Run.loadA rfl Tryd.isAgg26 Tryd.sizeOf26 (fun j v hj => hd10.cells j v hj) (by first | rfl | (simp; done))) rfl ?_
                refine Ops.clg rfl (by first | rfl | assumption | exact decide_eq_true (by assumption) | exact decide_eq_false (by assumption) | decide | (simp; done) | (simp; omega) | (simp [*]; done)) (Enters.fn (evs.cons rfl (evs.cons rfl evs.nil)) Tryd.call20) (same_spec (ordM X) (ordN X Y) (some ad1) (some ad2) c1 c2 _ hr1 hr2 (by simp [ordM]) (by simp [ordN])) rfl ?_
                rintro e v8 ⟨rfl, hf8⟩
                rw [ord_other]
                refine ⟨_, rfl, ?_⟩
                have hK := hK.trans hf8 (by simp)
                refine Ops.rg rfl (by first | rfl | assumption | exact decide_eq_true (by assumption) | exact decide_eq_false (by assumption) | decide | (simp; done) | (simp; omega) | (simp [*]; done)) (Run.not rfl) rfl ?_
                refine Ops.r (Run.pickT rfl rfl (by first | rfl | assumption | exact decide_eq_true (by assumption) | exact decide_eq_false (by assumption) | decide | (simp; done) | (simp; omega) | (simp [*]; done))) rfl ?_
                refine Ops.r (Run.mv rfl) rfl ?_
                refine Ops.clg rfl (by first | rfl | assumption | exact decide_eq_true (by assumption) | exact decide_eq_false (by assumption) | decide | (simp; done) | (simp; omega) | (simp [*]; done)) (Enters.fn evs.nil Tryd.call17) (awake19_spec _) rfl ?_
                rintro e v9 ⟨rfl, hf9⟩
                refine ⟨_, rfl, ?_⟩
                have hK := hK.trans hf9 (by simp)
                refine Ops.r (Run.pickT rfl rfl (by first | rfl | assumption | exact decide_eq_true (by assumption) | exact decide_eq_false (by assumption) | decide | (simp; done) | (simp; omega) | (simp [*]; done))) rfl ?_
                refine Ops.r (Run.asg rfl) rfl ?_
                refine Ops.nil ?_
                refine thenQ_n ?_
                refine VC.sub [(4, _)] (.cons rfl .nil) ?_
                refine VC.ret ?_
                refine end1 rfl ?_
                exact ⟨rfl, hK⟩

end Go.Proofs.YtnllhddbgkeboaaDoor
