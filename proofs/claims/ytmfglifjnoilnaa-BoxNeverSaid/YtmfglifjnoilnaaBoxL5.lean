/-
  The law 'BoxNever' of layer 26: no two messages ever have one number, and numbers that are given rise. No condition.
-/
import Derived.Test.YtmfglifjnoilnaaBoxLP
import Derived.Test.YtmfglifjnoilnaaBoxXD
import Derived.Test.YtmfglifjnoilnaaEngB
namespace Go.Proofs.Ytmfglifjnoilnaa
open Go.RowKit Go.Sort

theorem filter_split {α : Type} (q : α → Bool) : ∀ l : List α, (l.filter fun x => !q x).length + (l.filter q).length = l.length
  | [] => rfl
  | a :: r => by
    have := filter_split q r
    cases h : q a <;> simp [h] <;> omega
theorem IsBx.err_of {w : World} {F : Except Nat BoxV} {v n : Int} {B : Option Addr} {d : Nat} {l : List Mc} {k : Nat} (h : IsBx w F v n B d l k) (hk : k ≠ 0) : F = .error k := by
  rcases h with ⟨_, ⟨h1, _⟩ | ⟨_, h2, _⟩⟩
  · exact absurd h1 hk
  · exact h2
theorem IsBx.ok_of {w : World} {F : Except Nat BoxV} {v n : Int} {B : Option Addr} {d : Nat} {l : List Mc} (h : IsBx w F v n B d l 0) : F = .ok ⟨v, n, Ms l⟩ := by
  rcases h with ⟨_, ⟨_, h1⟩ | ⟨h2, _⟩⟩
  · exact h1
  · exact absurd rfl h2
theorem ok9 : MsgOk (m0 9) := ok0 9 (by decide)

set_option maxRecDepth 100000 in
theorem never_walk (va na : Int) (A : Option Addr) (c : Nat) (l : List Mc) (T : Option Addr) (tc : Nat) (bs : List Nat) (w : World) (hl : RawM w A l) (hc : l.length ≤ c) (ht : Rd w 1 T bs.length (NB bs)) (hb8 : ∀ b ∈ bs, b < 256) (hbm : bs.length ≤ 9223372036854775807) :
    Calls Try.prog 4 #[.agg #[.int .i64 va, .int .i64 na, .slice A l.length c], .slice T bs.length tc] w fun e w' => e = .returned (.bool true) ∧ Frm [] w w' := by
  refine VC.calls (nt := 149) (res := #[.tmp 4]) Try.func4 rfl Try.ntmps4 Try.results4 rfl ?_
  refine VC.seq ?_
  refine VC.region ?_
  refine Ops.m (Does.box rfl) rfl ?_
  rintro _ w1 ⟨rfl, hF1⟩
  have hb2 : Blk w1 w.heap.size 24 (BVc va na A l.length c).toArray := hF1.blk
  have K := hF1.frm
  have hs3 : w.heap.size ≤ w.heap.size := Nat.le_refl _
  generalize hg2 : w.heap.size = g2 at hb2 hs3 ⊢
  refine Ops.r (Run.asg rfl) rfl ?_
  refine Ops.nil ?_
  refine thenQ_n ?_
  refine VC.sub [(1, _), (2, _)] (.cons rfl (.cons rfl .nil)) ?_
  refine VC.seq ?_
  refine VC.region ?_
  refine Ops.r (Run.loadA rfl Try.isAgg24 Try.sizeOf24 (fun j v hj => hb2.cells j v hj) (by first | rfl | (simp; done))) rfl ?_
  refine Ops.cl (Enters.fn (evs.cons rfl evs.nil) Try.call8) (few26_spec va na A c l _ (hl.frm K) hc) rfl ?_
  rintro e w2 ⟨hf_w2, B3, d3, l3, rfl, hO3, hM3, hl3, _⟩
  refine ⟨_, rfl, ?_⟩
  have hb2 := hb2.frm hf_w2 (by simp)
  have K := Frm.trans K hf_w2 (by simp)
  refine Ops.st (Acts.storeA rfl rfl Try.sizeOf24 hb2 rfl (BVc_one va na B3 l3.length d3)) ?_
  rintro w3 ⟨hbn_w3, hf_w3, hsz_w3⟩
  have hO3 := hO3.blk hf_w3 hb2 (by decide) (by decide)
  have hb2 := hbn_w3
  have K := Frm.own K hf_w3 (fun y hy => by simp at hy; omega)
  refine Ops.nil ?_
  refine thenQ_n ?_
  refine VC.sub [(1, _), (2, _)] (.cons rfl (.cons rfl .nil)) ?_
  refine VC.seq ?_
  refine VC.seq ?_
  refine VC.region ?_
  refine Ops.r (Run.loadA rfl Try.isAgg24 Try.sizeOf24 (fun j v hj => hb2.cells j v hj) (by first | rfl | (simp; done))) rfl ?_
  refine Ops.cl (Enters.fn (evs.cons rfl evs.nil) Try.call17) (may_spec va na B3 d3 l3 _ hO3.rdm) rfl ?_
  rintro e w4 ⟨rfl, hf_w4⟩
  refine ⟨_, rfl, ?_⟩
  have hb2 := hb2.frm hf_w4 (by simp)
  have hO3 := hO3.frm hf_w4
  have K := Frm.trans K hf_w4 (by simp)
  refine Ops.r (Run.not rfl) rfl ?_
  refine Ops.nil ?_
  refine thenQ_n ?_
  refine VC.sub [(1, _), (2, _), (21, _)] (.cons rfl (.cons rfl (.cons rfl .nil))) ?_
  refine VC.condB rfl (fun hc1 => ?_) (fun hc1 => ?_)
  · skip
    refine VC.seq ?_
    refine VC.region ?_
    refine Ops.cl (Enters.fn evs.nil Try.call13) (awake26_spec _) rfl ?_
    rintro e w5 ⟨rfl, hf_w5⟩
    refine ⟨_, rfl, ?_⟩
    have hb2 := hb2.frm hf_w5 (by simp)
    have hO3 := hO3.frm hf_w5
    have K := Frm.trans K hf_w5 (by simp)
    refine Ops.r (Run.asg rfl) rfl ?_
    refine Ops.nil ?_
    refine thenQ_n ?_
    refine VC.sub [(4, _)] (.cons rfl .nil) ?_
    refine VC.ret ?_
    refine thenQ_r (end1 rfl ?_)
    exact ⟨rfl, K⟩
  · skip
    have hmay : mayB ⟨va, na, Ms l3⟩ := by simpa using hc1
    have hmi := mayB_iff.1 hmay
    refine VC.skip ?_
    refine thenQ_n ?_
    refine VC.sub [(1, _), (2, _)] (.cons rfl (.cons rfl .nil)) ?_
    refine VC.seq ?_
    refine VC.region ?_
    refine Ops.r (v := .int .i64 ((0 : Nat) : Int)) (Run.asg rfl) rfl ?_
    refine Ops.nil ?_
    refine thenQ_n ?_
    refine VC.seq ?_
    refine VC.seq ?_
    refine VC.region ?_
    refine Ops.r (v := .int .i64 ((0 : Nat) : Int)) (Run.asg rfl) rfl ?_
    refine Ops.nil ?_
    refine thenQ_n ?_
    refine VC.block ?_
    refine VC.loop (σ := Nat × Int) (fun s => [(1, .slice T bs.length tc), (2, .pointer (some ⟨g2, 0, none⟩)), (5, .int .i64 s.2), (6, .int .i64 ((s.1 : Nat) : Int))]) (fun s wr => s.1 ≤ l3.length ∧ 0 ≤ s.2 ∧ s.2 < na ∧ w4 = wr) (fun s => l3.length - s.1) (0, 0) (.cons rfl (.cons rfl (.cons rfl (.cons rfl .nil)))) ⟨by omega, by omega, by show (0 : Int) < na; omega, rfl⟩ ?_
    rintro ⟨i, last⟩ _ ⟨hi, hl0, hln, rfl⟩
    dsimp only at hi hl0 hln ⊢
    refine VC.seq ?_
    refine VC.seq ?_
    refine VC.region ?_
    refine Ops.r (Run.mv rfl) rfl ?_
    refine Ops.r (Run.fieldAddr rfl Try.underlying24 rfl Try.sizeOf22 (by decide)) rfl ?_
    refine Ops.r (Run.load rfl Try.isAgg22 (hb2.cell 2)) rfl ?_
    refine Ops.r (Run.lenS rfl Try.underlying22) rfl ?_
    refine Ops.r (Run.bin rfl rfl (Bin.lssN _ _)) rfl ?_
    refine Ops.nil ?_
    refine thenQ_n ?_
    refine VC.sub [(1, _), (2, _), (5, _), (6, _), (27, _)] (.cons rfl (.cons rfl (.cons rfl (.cons rfl (.cons rfl .nil))))) ?_
    refine VC.condD rfl (fun hc2 => ?_) (fun hc2 => ?_)
    · skip
      obtain ⟨ad, rfl, hcell⟩ := hO3.rdm.elem hc2
      have hxm := hmi.2.2 (l3[i]).m (List.mem_map.2 ⟨_, List.getElem_mem hc2, rfl⟩)
      generalize hx : l3[i] = x at *
      refine VC.skip ?_
      refine thenQ_n ?_
      refine VC.sub [(1, _), (2, _), (5, _), (6, _)] (.cons rfl (.cons rfl (.cons rfl (.cons rfl .nil)))) ?_
      refine VC.seq ?_
      refine VC.block ?_
      refine VC.seq ?_
      refine VC.region ?_
      refine Ops.r (Run.fieldAddr rfl Try.underlying24 rfl Try.sizeOf22 (by decide)) rfl ?_
      refine Ops.r (Run.load rfl Try.isAgg22 (hb2.cell 2)) rfl ?_
      refine Ops.r (Run.mv rfl) rfl ?_
      refine Ops.r (Run.indexS i rfl rfl Try.underlying22 Try.sizeOf45 hc2) rfl ?_
      refine Ops.r (Run.fieldAddr rfl Try.underlying45 rfl Try.sizeOf3 (by decide)) rfl ?_
      refine Ops.r (Run.load rfl Try.isAgg3 (hcell 0 _ rfl)) rfl ?_
      refine Ops.r (Run.mv rfl) rfl ?_
      refine Ops.r (Run.bin rfl rfl (Bin.gtr _ _)) rfl ?_
      refine Ops.nil ?_
      refine thenQ_n ?_
      refine VC.sub [(1, _), (2, _), (5, _), (6, _), (37, _)] (.cons rfl (.cons rfl (.cons rfl (.cons rfl (.cons rfl .nil))))) ?_
      refine VC.meet (σ := Int) (fun s => [(1, .slice T bs.length tc), (2, .pointer (some ⟨g2, 0, none⟩)), (5, .int .i64 s), (6, .int .i64 ((i : Nat) : Int))]) (fun s wm => 0 ≤ s ∧ s < na ∧ w4 = wm) ?_ ?_
      · skip
        refine VC.condD rfl (fun hc3 => ?_) (fun hc3 => ?_)
        · skip
          refine VC.region ?_
          refine Ops.r (Run.fieldAddr rfl Try.underlying24 rfl Try.sizeOf22 (by decide)) rfl ?_
          refine Ops.r (Run.load rfl Try.isAgg22 (hb2.cell 2)) rfl ?_
          refine Ops.r (Run.mv rfl) rfl ?_
          refine Ops.r (Run.indexS i rfl rfl Try.underlying22 Try.sizeOf45 hc2) rfl ?_
          refine Ops.r (Run.fieldAddr rfl Try.underlying45 rfl Try.sizeOf3 (by decide)) rfl ?_
          refine Ops.r (Run.load rfl Try.isAgg3 (hcell 0 _ rfl)) rfl ?_
          refine Ops.r (Run.asg rfl) rfl ?_
          refine Ops.nil ?_
          refine thenQ_n ⟨x.m.uid, (.cons rfl (.cons rfl (.cons rfl (.cons rfl .nil)))), ?_⟩
          exact ⟨by omega, by omega, rfl⟩
        · skip
          refine VC.skip ?_
          refine thenQ_n ⟨last, (.cons rfl (.cons rfl (.cons rfl (.cons rfl .nil)))), ?_⟩
          exact ⟨hl0, hln, rfl⟩
      · skip
        rintro last2 _ ⟨hl20, hl2n, rfl⟩ Γ hΓ
        refine blockQ_n (thenQ_n (VC.sub _ hΓ ?_))
        refine VC.region ?_
        refine Ops.r (Run.mv rfl) rfl ?_
        refine Ops.r (Run.bin rfl rfl (Bin.add_i64 _ 1 (by omega))) rfl ?_
        refine Ops.r (Run.asg rfl) rfl ?_
        refine Ops.nil ?_
        refine thenQ_n ⟨(i + 1, last2), (.cons rfl (.cons rfl (.cons rfl (.cons rfl .nil)))), ?_, ?_⟩
        · skip
          exact ⟨hc2, hl20, hl2n, rfl⟩
        · skip
          first | omega | (dsimp only; omega)
    · skip
      refine VC.exit ?_
      refine thenQ_x (thenQ_x (blockQ_x ?_))
      refine thenQ_n ?_
      refine VC.sub [(1, _), (2, _), (5, _)] (.cons rfl (.cons rfl (.cons rfl .nil))) ?_
      refine VC.seq ?_
      refine VC.seq ?_
      refine VC.region ?_
      refine Ops.r (v := .int .i64 ((0 : Nat) : Int)) (Run.asg rfl) rfl ?_
      refine Ops.nil ?_
      refine thenQ_n ?_
      refine VC.block ?_
      refine VC.loop (σ := Nat × Int × Int × Option Addr × Nat × List Mc) (fun s => [(1, .slice T bs.length tc), (2, .pointer (some ⟨g2, 0, none⟩)), (5, .int .i64 s.2.1), (7, .int .i64 ((s.1 : Nat) : Int))]) (fun s wr => s.1 ≤ bs.length ∧ s.1 ≤ 80 ∧ Blk wr g2 24 (BVc va s.2.2.1 s.2.2.2.1 s.2.2.2.2.2.length s.2.2.2.2.1).toArray ∧ OwM wr s.2.2.2.1 s.2.2.2.2.1 s.2.2.2.2.2 ∧ mayB ⟨va, s.2.2.1, Ms s.2.2.2.2.2⟩ ∧ 0 ≤ s.2.1 ∧ s.2.1 < s.2.2.1 ∧ Frm [] w wr) (fun s => bs.length - s.1) (0, last, na, B3, d3, l3) (.cons rfl (.cons rfl (.cons rfl (.cons rfl .nil)))) ⟨by omega, by show 0 ≤ 80; omega, hb2, hO3, hmay, hl0, hln, K⟩ ?_
      rintro ⟨i, la, n, B, d, lm⟩ wr ⟨hi, hi80, hb2, hO3, hmay, hl0, hln, K⟩
      dsimp only at hi hi80 hb2 hO3 hmay hl0 hln ⊢
      have hmi := mayB_iff.1 hmay
      have hmlen : lm.length ≤ 128 := by have := hmi.1; simp only [Ms, List.length_map] at this; omega
      refine VC.seq ?_
      refine VC.seq ?_
      refine VC.split1 [(1, _), (2, _), (5, _), (7, _)] (.cons rfl (.cons rfl (.cons rfl (.cons rfl .nil)))) 51 (.bool (decide (i < bs.length ∧ i < 80))) ?_ ?_
      · refine VC.region ?_
        refine Ops.r (Run.mv rfl) rfl ?_
        refine Ops.r (Run.mv rfl) rfl ?_
        refine Ops.r (Run.lenS rfl Try.underlying40) rfl ?_
        refine Ops.r (Run.bin rfl rfl (Bin.lssN _ _)) rfl ?_
        by_cases hs47 : i < bs.length
        · skip
          refine Ops.r (Run.mv rfl) rfl ?_
          refine Ops.rg rfl (by first | rfl | assumption | exact decide_eq_true (by assumption) | exact decide_eq_false (by assumption) | decide | (simp; done) | (simp; omega) | (simp [*]; done)) (Run.mv rfl) rfl ?_
          refine Ops.rg rfl (by first | rfl | assumption | exact decide_eq_true (by assumption) | exact decide_eq_false (by assumption) | decide | (simp; done) | (simp; omega) | (simp [*]; done)) (Run.bin rfl rfl (Bin.lssN _ 80)) rfl ?_
          by_cases hs50 : i < 80
          · skip
            refine Ops.r (Run.pickT rfl rfl (by first | rfl | assumption | exact decide_eq_true (by assumption) | exact decide_eq_false (by assumption) | decide | (simp; done) | (simp; omega) | (simp [*]; done))) rfl ?_
            refine Ops.nil ?_
            refine thenQ_n ⟨(.cons (congrArg (fun b => some (Value.bool b)) (Eq.symm (by simp [*]))) (.cons rfl (.cons rfl (.cons rfl (.cons rfl .nil))))), rfl⟩
          · skip
            refine Ops.r (Run.pickT rfl rfl (by first | rfl | assumption | exact decide_eq_true (by assumption) | exact decide_eq_false (by assumption) | decide | (simp; done) | (simp; omega) | (simp [*]; done))) rfl ?_
            refine Ops.nil ?_
            refine thenQ_n ⟨(.cons (congrArg (fun b => some (Value.bool b)) (Eq.symm (by simp [*]))) (.cons rfl (.cons rfl (.cons rfl (.cons rfl .nil))))), rfl⟩
        · skip
          refine Ops.r (Run.mv rfl) rfl ?_
          refine Ops.sk rfl (by first | rfl | assumption | exact decide_eq_true (by assumption) | exact decide_eq_false (by assumption) | decide | (simp; done) | (simp; omega) | (simp [*]; done)) rfl ?_
          refine Ops.sk rfl (by first | rfl | assumption | exact decide_eq_true (by assumption) | exact decide_eq_false (by assumption) | decide | (simp; done) | (simp; omega) | (simp [*]; done)) rfl ?_
          refine Ops.r (Run.pickF rfl rfl (by first | rfl | assumption | exact decide_eq_true (by assumption) | exact decide_eq_false (by assumption) | decide | (simp; done) | (simp; omega) | (simp [*]; done))) rfl ?_
          refine Ops.nil ?_
          refine thenQ_n ⟨(.cons (congrArg (fun b => some (Value.bool b)) (Eq.symm (by simp [*]))) (.cons rfl (.cons rfl (.cons rfl (.cons rfl .nil))))), rfl⟩
      · intro Γ hΓ
        refine thenQ_n (VC.sub _ hΓ ?_)
        refine VC.condD rfl (fun hc4 => ?_) (fun hc4 => ?_)
        · skip
          obtain ⟨hib, hi8⟩ := hc4
          obtain ⟨ad, u, rfl, q1, c1⟩ := (ht.frm K (by simp)).at1 hib
          have hu : u = .int .u8 ((bs[i] : Nat) : Int) := by simpa [NB, List.getElem?_eq_getElem hib] using q1.symm
          subst hu
          have hbb := hb8 _ (List.getElem_mem hib)
          have c0 : ∀ W, Frm [] wr W → W.cell? (ad.add i) = some (.int .u8 ((bs[i] : Nat) : Int)) := fun W hW => hW.cell c1 (by simp)
          generalize hbi : bs[i] = b at *
          refine VC.skip ?_
          refine thenQ_n ?_
          refine VC.sub [(1, _), (2, _), (5, _), (7, _)] (.cons rfl (.cons rfl (.cons rfl (.cons rfl .nil)))) ?_
          refine VC.seq ?_
          refine VC.block ?_
          refine VC.seq ?_
          refine VC.seq ?_
          refine VC.region ?_
          refine Ops.r (Run.mv rfl) rfl ?_
          refine Ops.r (Run.mv rfl) rfl ?_
          refine Ops.r (Run.index1 i rfl rfl Try.underlying40 Try.sizeOf5 hib) rfl ?_
          refine Ops.r (Run.load rfl Try.isAgg5 c1) rfl ?_
          refine Ops.r (Run.bin rfl rfl (Bin.remN _ 3 (by omega))) rfl ?_
          refine Ops.nil ?_
          refine thenQ_n ?_
          refine VC.sub [(1, _), (2, _), (5, _), (7, _), (58, _)] (.cons rfl (.cons rfl (.cons rfl (.cons rfl (.cons rfl .nil))))) ?_
          refine VC.meet (σ := Int × Int × Option Addr × Nat × List Mc) (fun s => [(1, .slice (some ad) bs.length tc), (2, .pointer (some ⟨g2, 0, none⟩)), (5, .int .i64 s.1), (7, .int .i64 ((i : Nat) : Int))]) (fun s wm => Blk wm g2 24 (BVc va s.2.1 s.2.2.1 s.2.2.2.2.length s.2.2.2.1).toArray ∧ OwM wm s.2.2.1 s.2.2.2.1 s.2.2.2.2 ∧ mayB ⟨va, s.2.1, Ms s.2.2.2.2⟩ ∧ 0 ≤ s.1 ∧ s.1 < s.2.1 ∧ Frm [] w wm) ?_ ?_
          · skip
            refine VC.block ?_
            refine VC.seq ?_
            refine VC.region ?_
            refine Ops.r (Run.bin rfl rfl (Bin.eqlN _ 0)) rfl ?_
            refine Ops.r (Run.asg rfl) rfl ?_
            refine Ops.nil ?_
            refine thenQ_n ?_
            refine VC.sub [(1, _), (2, _), (5, _), (7, _), (58, _), (88, _)] (.cons rfl (.cons rfl (.cons rfl (.cons rfl (.cons rfl (.cons rfl .nil)))))) ?_
            refine VC.condD rfl (fun hc5 => ?_) (fun hc5 => ?_)
            · skip
              refine VC.seq ?_
              refine VC.region ?_
              refine Ops.r (Run.loadA rfl Try.isAgg24 Try.sizeOf24 (fun j v hj => hb2.cells j v hj) (by first | rfl | (simp; done))) rfl ?_
              refine Ops.r (Run.build (evs.cons rfl evs.nil) zero45 (places45).choose_spec.1 (places45).choose_spec.2 rfl) rfl ?_
              refine Ops.cl (Enters.fn (evs.cons rfl (evs.cons rfl evs.nil)) Try.call18) (append_spec va n B d lm ⟨m0 9, none, 0⟩ _ hO3.rdm (by have := hmi.1; simp only [Ms, List.length_map] at this; omega) ⟨Rd.nil _ _ _, by decide, by simp [m0]⟩) rfl ?_
              rintro e w6 ⟨hf_w6, v8, n8, B8, d8, l8, k8, rfl, hI8, hO8⟩
              refine ⟨_, rfl, ?_⟩
              have hb2 := hb2.frm hf_w6 (by simp)
              have hO3 := hO3.frm hf_w6
              have K := Frm.trans K hf_w6 (by simp)
              refine Ops.r (Run.mv rfl) rfl ?_
              refine Ops.r (Run.extract rfl rfl) rfl ?_
              refine Ops.r (Run.extract rfl rfl) rfl ?_
              refine Ops.r (Run.extract rfl rfl) rfl ?_
              refine Ops.m (Does.alloc zero24) rfl ?_
              rintro _ w7 ⟨rfl, hF_w7⟩
              have hb8 := hF_w7.blk
              have hs8_K := K.size
              have lt_hb2_8 := hb2.lt
              have hb2 := hb2.frm hF_w7.frm (by simp)
              have hO3 := hO3.frm hF_w7.frm
              have hO8 := hO8.frm hF_w7.frm
              have K := Frm.trans K hF_w7.frm (by simp)
              generalize hg8 : w6.heap.size = g8 at hb8 hs8_K lt_hb2_8 ⊢
              refine Ops.st (Acts.storeA rfl rfl Try.sizeOf24 hb8 rfl (BVc_one v8 n8 B8 l8.length d8)) ?_
              rintro w8 ⟨hbn_w8, hf_w8, hsz_w8⟩
              have hb2 := hb2.frm hf_w8 (by simp; omega)
              have hO3 := hO3.blk hf_w8 hb8 (by decide) (by decide)
              have hO8 := hO8.blk hf_w8 hb8 (by decide) (by decide)
              have hb8 := hbn_w8
              have K := Frm.own K hf_w8 (fun y hy => by simp at hy; omega)
              refine Ops.r (Run.asg rfl) rfl ?_
              refine Ops.r (Run.asg rfl) rfl ?_
              refine Ops.nil ?_
              refine thenQ_n ?_
              refine VC.sub [(1, _), (2, _), (5, _), (7, _), (8, _), (9, _), (10, _)] (.cons rfl (.cons rfl (.cons rfl (.cons rfl (.cons rfl (.cons rfl (.cons rfl .nil))))))) ?_
              refine VC.seq ?_
              refine VC.region ?_
              refine Ops.r (Run.mv rfl) rfl ?_
              refine Ops.r (Run.bin rfl rfl (Bin.eqlN _ 0)) rfl ?_
              refine Ops.nil ?_
              refine thenQ_n ?_
              refine VC.sub [(1, _), (2, _), (5, _), (7, _), (8, _), (9, _), (10, _), (98, _)] (.cons rfl (.cons rfl (.cons rfl (.cons rfl (.cons rfl (.cons rfl (.cons rfl (.cons rfl .nil)))))))) ?_
              refine VC.condD rfl (fun hc6 => ?_) (fun hc6 => ?_)
              · skip
                subst hc6
                have hF := hI8.ok_of
                obtain ⟨_, hm8, hn8, hl8, hv8⟩ := appendB_may hF
                dsimp only at hm8 hn8 hl8 hv8
                simp only [Ms, List.length_map] at hl8
                subst hv8
                rw [if_pos rfl]
                have h101 : ¬ n ≤ la := by omega
                have h106 : ¬ n ≥ n8 := by omega
                have h116 : ¬ (l8.length ≠ lm.length + 1) := fun h => h hl8
                refine VC.seq ?_
                refine VC.seq ?_
                refine VC.region ?_
                refine Ops.r (Run.mv rfl) rfl ?_
                refine Ops.r (Run.mv rfl) rfl ?_
                refine Ops.r (Run.bin rfl rfl (Bin.leq _ _)) rfl ?_
                refine Ops.r (Run.mv rfl) rfl ?_
                refine Ops.rg rfl (by first | rfl | assumption | exact decide_eq_true (by assumption) | exact decide_eq_false (by assumption) | decide | (simp; done) | (simp; omega) | (simp [*]; done)) (Run.mv rfl) rfl ?_
                refine Ops.rg rfl (by first | rfl | assumption | exact decide_eq_true (by assumption) | exact decide_eq_false (by assumption) | decide | (simp; done) | (simp; omega) | (simp [*]; done)) (Run.fieldAddr rfl Try.underlying24 rfl Try.sizeOf3 (by decide)) rfl ?_
                refine Ops.rg rfl (by first | rfl | assumption | exact decide_eq_true (by assumption) | exact decide_eq_false (by assumption) | decide | (simp; done) | (simp; omega) | (simp [*]; done)) (Run.load rfl Try.isAgg3 (hb8.cell 1)) rfl ?_
                refine Ops.rg rfl (by first | rfl | assumption | exact decide_eq_true (by assumption) | exact decide_eq_false (by assumption) | decide | (simp; done) | (simp; omega) | (simp [*]; done)) (Run.bin rfl rfl (Bin.geq _ _)) rfl ?_
                refine Ops.r (Run.pickF rfl rfl (by first | rfl | assumption | exact decide_eq_true (by assumption) | exact decide_eq_false (by assumption) | decide | (simp; done) | (simp; omega) | (simp [*]; done))) rfl ?_
                refine Ops.r (Run.mv rfl) rfl ?_
                refine Ops.rg rfl (by first | rfl | assumption | exact decide_eq_true (by assumption) | exact decide_eq_false (by assumption) | decide | (simp; done) | (simp; omega) | (simp [*]; done)) (Run.fieldAddr rfl Try.underlying24 rfl Try.sizeOf22 (by decide)) rfl ?_
                refine Ops.rg rfl (by first | rfl | assumption | exact decide_eq_true (by assumption) | exact decide_eq_false (by assumption) | decide | (simp; done) | (simp; omega) | (simp [*]; done)) (Run.load rfl Try.isAgg22 (hb8.cell 2)) rfl ?_
                refine Ops.rg rfl (by first | rfl | assumption | exact decide_eq_true (by assumption) | exact decide_eq_false (by assumption) | decide | (simp; done) | (simp; omega) | (simp [*]; done)) (Run.lenS rfl Try.underlying22) rfl ?_
                refine Ops.rg rfl (by first | rfl | assumption | exact decide_eq_true (by assumption) | exact decide_eq_false (by assumption) | decide | (simp; done) | (simp; omega) | (simp [*]; done)) (Run.fieldAddr rfl Try.underlying24 rfl Try.sizeOf22 (by decide)) rfl ?_
                refine Ops.rg rfl (by first | rfl | assumption | exact decide_eq_true (by assumption) | exact decide_eq_false (by assumption) | decide | (simp; done) | (simp; omega) | (simp [*]; done)) (Run.load rfl Try.isAgg22 (hb2.cell 2)) rfl ?_
                refine Ops.rg rfl (by first | rfl | assumption | exact decide_eq_true (by assumption) | exact decide_eq_false (by assumption) | decide | (simp; done) | (simp; omega) | (simp [*]; done)) (Run.lenS rfl Try.underlying22) rfl ?_
                refine Ops.rg rfl (by first | rfl | assumption | exact decide_eq_true (by assumption) | exact decide_eq_false (by assumption) | decide | (simp; done) | (simp; omega) | (simp [*]; done)) (Run.bin rfl rfl (Bin.add_i64 _ 1 (by omega))) rfl ?_
                refine Ops.rg rfl (by first | rfl | assumption | exact decide_eq_true (by assumption) | exact decide_eq_false (by assumption) | decide | (simp; done) | (simp; omega) | (simp [*]; done)) (Run.bin rfl rfl (Bin.neqN _ _)) rfl ?_
                refine Ops.r (Run.pickF rfl rfl (by first | rfl | assumption | exact decide_eq_true (by assumption) | exact decide_eq_false (by assumption) | decide | (simp; done) | (simp; omega) | (simp [*]; done))) rfl ?_
                refine Ops.nil ?_
                refine thenQ_n ?_
                refine VC.sub [(1, _), (2, _), (7, _), (8, _), (9, _), (117, _)] (.cons rfl (.cons rfl (.cons rfl (.cons rfl (.cons rfl (.cons rfl .nil)))))) ?_
                refine VC.condF rfl (by first | rfl | exact decide_eq_false (by assumption)) ?_
                refine VC.skip ?_
                refine thenQ_n ?_
                refine VC.sub [(1, _), (2, _), (7, _), (8, _), (9, _)] (.cons rfl (.cons rfl (.cons rfl (.cons rfl (.cons rfl .nil))))) ?_
                refine VC.seq ?_
                refine VC.region ?_
                refine Ops.r (Run.mv rfl) rfl ?_
                refine Ops.r (Run.asg rfl) rfl ?_
                refine Ops.nil ?_
                refine thenQ_n ?_
                refine VC.sub [(1, _), (2, _), (5, _), (7, _), (8, _)] (.cons rfl (.cons rfl (.cons rfl (.cons rfl (.cons rfl .nil))))) ?_
                refine VC.region ?_
                refine Ops.r (Run.loadA rfl Try.isAgg24 Try.sizeOf24 (fun j v hj => hb8.cells j v hj) (by first | rfl | (simp; done))) rfl ?_
                have hmlen : lm.length ≤ 128 := by have := hmi.1; simp only [Ms, List.length_map] at this; omega
                refine Ops.st (Acts.storeA rfl rfl Try.sizeOf24 hb2 rfl (BVc_one v8 n8 B8 l8.length d8)) ?_
                rintro w9 ⟨hbn_w9, hf_w9, hsz_w9⟩
                have hO3 := hO3.blk hf_w9 hb2 (by decide) (by decide)
                have hO8 := hO8.blk hf_w9 hb2 (by decide) (by decide)
                have hb8 := hb8.frm hf_w9 (by simp; omega)
                have hb2 := hbn_w9
                have K := Frm.own K hf_w9 (fun y hy => by simp at hy; omega)
                refine Ops.nil ?_
                refine blockQ_n (thenQ_n ⟨(n, n8, B8, d8, l8), (.cons rfl (.cons rfl (.cons rfl (.cons rfl .nil)))), ?_⟩)
                exact ⟨hb2, hO8, hm8, by show 0 ≤ n; omega, by show n < n8; omega, K⟩
              · skip
                have hke := appendB_err (hI8.err_of hc6) hmay ok9
                refine VC.seq ?_
                refine VC.split1 [(1, _), (2, _), (5, _), (7, _)] (.cons rfl (.cons rfl (.cons rfl (.cons rfl .nil)))) 125 (.bool (decide ((k8 ≠ 5) ∧ (k8 ≠ 19)))) ?_ ?_
                · by_cases hs0 : k8 ≠ 5
                  · skip
                    refine VC.region ?_
                    refine Ops.r (Run.mv rfl) rfl ?_
                    refine Ops.r (Run.bin rfl rfl (Bin.neqN _ 5)) rfl ?_
                    refine Ops.r (Run.mv rfl) rfl ?_
                    refine Ops.rg rfl (by first | rfl | assumption | exact decide_eq_true (by assumption) | exact decide_eq_false (by assumption) | decide | (simp; done) | (simp; omega) | (simp [*]; done)) (Run.mv rfl) rfl ?_
                    refine Ops.rg rfl (by first | rfl | assumption | exact decide_eq_true (by assumption) | exact decide_eq_false (by assumption) | decide | (simp; done) | (simp; omega) | (simp [*]; done)) (Run.bin rfl rfl (Bin.neqN _ 19)) rfl ?_
                    refine Ops.r (Run.pickT rfl rfl (by first | rfl | assumption | exact decide_eq_true (by assumption) | exact decide_eq_false (by assumption) | decide | (simp; done) | (simp; omega) | (simp [*]; done))) rfl ?_
                    refine Ops.nil ?_
                    refine thenQ_n ⟨(.cons (by rw [dand1 hs0]; rfl) (.cons rfl (.cons rfl (.cons rfl (.cons rfl .nil))))), rfl⟩
                  · skip
                    refine VC.region ?_
                    refine Ops.r (Run.mv rfl) rfl ?_
                    refine Ops.r (Run.bin rfl rfl (Bin.neqN _ 5)) rfl ?_
                    refine Ops.r (Run.mv rfl) rfl ?_
                    refine Ops.sk rfl (by first | rfl | assumption | exact decide_eq_true (by assumption) | exact decide_eq_false (by assumption) | decide | (simp; done) | (simp; omega) | (simp [*]; done)) rfl ?_
                    refine Ops.sk rfl (by first | rfl | assumption | exact decide_eq_true (by assumption) | exact decide_eq_false (by assumption) | decide | (simp; done) | (simp; omega) | (simp [*]; done)) rfl ?_
                    refine Ops.r (Run.pickF rfl rfl (by first | rfl | assumption | exact decide_eq_true (by assumption) | exact decide_eq_false (by assumption) | decide | (simp; done) | (simp; omega) | (simp [*]; done))) rfl ?_
                    refine Ops.nil ?_
                    refine thenQ_n ⟨(.cons (by rw [dand0 hs0]; rfl) (.cons rfl (.cons rfl (.cons rfl (.cons rfl .nil))))), rfl⟩
                · intro Γ hΓ
                  refine thenQ_n (VC.sub _ hΓ ?_)
                  refine VC.condF rfl (decide_eq_false (fun h => by omega)) ?_
                  refine VC.skip ?_
                  refine blockQ_n (thenQ_n ⟨(la, n, B, d, lm), (.cons rfl (.cons rfl (.cons rfl (.cons rfl .nil)))), ?_⟩)
                  exact ⟨hb2, hO3, hmay, hl0, hln, K⟩
            · skip
              refine VC.seq ?_
              refine VC.region ?_
              refine Ops.r (Run.bin rfl rfl (Bin.eqlN _ 1)) rfl ?_
              refine Ops.r (Run.asg rfl) rfl ?_
              refine Ops.nil ?_
              refine thenQ_n ?_
              refine VC.sub [(1, _), (2, _), (5, _), (7, _), (126, _)] (.cons rfl (.cons rfl (.cons rfl (.cons rfl (.cons rfl .nil))))) ?_
              refine VC.condD rfl (fun hc9 => ?_) (fun hc9 => ?_)
              · skip
                refine VC.seq ?_
                refine VC.held (fun W => Frm [] wr W) (by kernel_rfl) ?_
                have hS : Frm [] wr wr.drew := (Frm.refl _ _).drew
                refine HOps.take 0 rfl (by kernel_rfl) (by kernel_rfl) (by kernel_rfl) hS (fun w0 hw0 => Run.loadA rfl Try.isAgg24 Try.sizeOf24 (fun j v hj => (hb2.frm hw0 (by simp)).cells j v hj) (by first | rfl | (simp; done))) trivial rfl rfl ?_
                refine HOps.take 1 rfl (by kernel_rfl) (by kernel_rfl) (by kernel_rfl) hS (fun w0 hw0 => Run.mv rfl) trivial rfl rfl ?_
                refine HOps.take 2 rfl (by kernel_rfl) (by kernel_rfl) (by kernel_rfl) hS (fun w0 hw0 => Run.mv rfl) trivial rfl rfl ?_
                refine HOps.take 3 rfl (by kernel_rfl) (by kernel_rfl) (by kernel_rfl) hS (fun w0 hw0 => Run.index1 i rfl rfl Try.underlying40 Try.sizeOf5 hib) trivial rfl rfl ?_
                refine HOps.take 4 rfl (by kernel_rfl) (by kernel_rfl) (by kernel_rfl) hS (fun w0 hw0 => Run.load rfl Try.isAgg5 (c0 _ hw0)) trivial rfl rfl ?_
                refine HOps.take 5 rfl (by kernel_rfl) (by kernel_rfl) (by kernel_rfl) hS (fun w0 hw0 => Run.bin rfl rfl (Bin.quoN b 3 (by decide) (by simp only [bmax]; omega))) trivial rfl rfl ?_
                refine HOps.take 6 rfl (by kernel_rfl) (by kernel_rfl) (by kernel_rfl) hS (fun w0 hw0 => Run.convN _ rfl Try.underlying5 Try.underlying3 (by simp only [bmax]; omega)) trivial rfl rfl ?_
                refine HOps.take 7 rfl (by kernel_rfl) (by kernel_rfl) (by kernel_rfl) hS (fun w0 hw0 => Run.bin rfl rfl (Bin.remN _ 9 (by omega))) trivial rfl rfl ?_
                refine HOps.take 8 rfl (by kernel_rfl) (by kernel_rfl) (by kernel_rfl) hS (fun w0 hw0 => Run.bin rfl rfl (Bin.add_i64 1 _ (by omega))) trivial rfl rfl ?_
                refine HOps.par (target := #[true, true, true, true, true, true, true, true, true, true, true, true, true, true, true, false, false]) [⟨9, 138, [], false, fun _ u lo hi W => (u = .slice (some ⟨lo, 0, none⟩) 1 1 ∧ lo < hi) ∧ Blk W lo 9 #[encStr deletedF]⟩, ⟨10, 139, [138], false, fun _ u lo hi W => ∃ v' n' B' d' l' k, u = .tuple #[.agg #[.int .i64 v', .int .i64 n', .slice B' l'.length d'], .int .i64 ((k : Nat) : Int)] ∧ IsBx W (changeB ⟨va, n, Ms lm⟩ ((1 + b / 3 % 9 : Nat) : Int) 1 [deletedF]) v' n' B' d' l' k ∧ OwM W B' d' l' ∧ lo ≤ hi⟩, PT.mv 11 128 139 [], PT.part 12 140 128 0 [139], PT.part 13 141 128 1 [139], PT.made 14 11 24 #[.int .i64 0, .int .i64 0, .slice none 0 0]] 6 rfl (by kernel_rfl) (show List.Nodup ([138, 139, 128, 140, 141, 11] : List Nat) by decide) (show List.Nodup ([9, 10, 11, 12, 13, 14] : List Nat) by decide) (fun t ht => ?_) (fun t ht => ?_) (fun W hW => ?_) (fun t ht => ?_) (fun t ht => ?_) (fun t ht W g hW hD hE => ?_) (fun g W hW hA => ?_)
                · skip
                  simp only [List.mem_cons, List.not_mem_nil, or_false] at ht
                  rcases ht with rfl | rfl | rfl | rfl | rfl | rfl
                  · skip
                    rfl
                  · skip
                    rfl
                  · skip
                    rfl
                  · skip
                    rfl
                  · skip
                    rfl
                  · skip
                    rfl
                · skip
                  simp only [List.mem_cons, List.not_mem_nil, or_false] at ht
                  rcases ht with rfl | rfl | rfl | rfl | rfl | rfl
                  · skip
                    exact fun x hx => absurd hx (by simp)
                  · skip
                    intro x hx
                    simp only [List.mem_cons, List.not_mem_nil, or_false] at hx
                    rcases hx with rfl
                    · exact ⟨_, (.head _), rfl⟩
                  · skip
                    intro x hx
                    simp only [List.mem_cons, List.not_mem_nil, or_false] at hx
                    rcases hx with rfl
                    · exact ⟨_, (.tail _ (.head _)), rfl⟩
                  · skip
                    intro x hx
                    simp only [List.mem_cons, List.not_mem_nil, or_false] at hx
                    rcases hx with rfl | rfl
                    · exact ⟨_, (.tail _ (.tail _ (.head _))), rfl⟩
                    · exact ⟨_, (.tail _ (.head _)), rfl⟩
                  · skip
                    intro x hx
                    simp only [List.mem_cons, List.not_mem_nil, or_false] at hx
                    rcases hx with rfl | rfl
                    · exact ⟨_, (.tail _ (.tail _ (.head _))), rfl⟩
                    · exact ⟨_, (.tail _ (.head _)), rfl⟩
                  · skip
                    exact fun x hx => absurd hx (by simp)
                · exact hS.trans hW (by simp)
                · skip
                  simp only [List.mem_cons, List.not_mem_nil, or_false] at ht
                  rcases ht with rfl | rfl | rfl | rfl | rfl | rfl
                  · skip
                    exact fun _ v lo hi W W' hf h => ⟨h.1, h.2.frm hf (by simp)⟩
                  · skip
                    exact fun _ v lo hi W W' hf ⟨v', n', B', d', l', k, h1, h2, h3, h4⟩ => ⟨v', n', B', d', l', k, h1, h2.frm hf, h3.frm hf, h4⟩
                  · skip
                    exact fun _ _ _ _ _ _ _ h => h
                  · skip
                    exact fun _ _ _ _ _ _ _ h => h
                  · skip
                    exact fun _ _ _ _ _ _ _ h => h
                  · skip
                    exact PT.made_st
                · skip
                  simp only [List.mem_cons, List.not_mem_nil, or_false] at ht
                  rcases ht with rfl | rfl | rfl | rfl | rfl | rfl
                  · skip
                    exact fun _ _ _ _ _ _ _ h => h
                  · skip
                    exact fun _ _ _ _ _ _ _ h => h
                  · skip
                    exact fun ρ ρ' v lo hi W h e => e.trans (h _ (.head _))
                  · skip
                    exact fun ρ ρ' v lo hi W h ⟨xs, h1, h2⟩ => ⟨xs, (h _ (.head _)).symm.trans h1, h2⟩
                  · skip
                    exact fun ρ ρ' v lo hi W h ⟨xs, h1, h2⟩ => ⟨xs, (h _ (.head _)).symm.trans h1, h2⟩
                  · skip
                    exact fun _ _ _ _ _ _ _ h => h
                · skip
                  simp only [List.mem_cons, List.not_mem_nil, or_false] at ht
                  rcases ht with rfl | rfl | rfl | rfl | rfl | rfl
                  · skip
                    refine PStep.m rfl rfl rfl rfl rfl (Does.buildS1 rfl Try.underlying43 Try.sizeOf9 zero9 (by decide) (by decide) rfl rfl) ?_
                    rintro _ W' ⟨rfl, hF⟩
                    exact ⟨hF.frm, ⟨rfl, by rw [hF.size]; omega⟩, hF.blk⟩
                  · skip
                    obtain ⟨⟨hu138, _⟩, hb138⟩ := hD _ (.head _) (by simp)
                    dsimp only at hu138 hb138
                    simp only [List.map_cons, List.map_nil, List.cons_append, List.nil_append, hu138]
                    refine PStep.cl rfl rfl rfl rfl rfl (Enters.fn (evs.cons rfl (evs.cons rfl (evs.cons rfl (evs.cons rfl evs.nil)))) Try.call19) (change_spec va n B d lm ((1 + b / 3 % 9 : Nat) : Int) 1 _ 1 [deletedF] W (hO3.frm ((Frm.refl [] wr).drew.trans hW (by simp))).rdm (by decide) (by decide) (Rd.of_blk (n := 1) (size := 1) hb138 rfl)) ?_
                    rintro e W' ⟨hf, v', n', B', d', l', k, rfl, hI, hO⟩
                    exact ⟨_, rfl, hf, v', n', B', d', l', k, rfl, hI, hO, hf.size⟩
                  · skip
                    exact PStep.r rfl rfl rfl rfl (fun _ => Run.mv rfl) rfl
                  · skip
                    have h1 := hD _ (.tail _ (.tail _ (.head _))) (by simp)
                    have h2 := hD _ (.tail _ (.head _)) (by simp)
                    obtain ⟨v', n', B', d', l', k, h2e, _⟩ := h2
                    exact PStep.r rfl rfl rfl rfl (fun _ => Run.extract (congrArg some (h1.trans h2e)) rfl) ⟨_, h1.trans h2e, rfl⟩
                  · skip
                    have h1 := hD _ (.tail _ (.tail _ (.head _))) (by simp)
                    have h2 := hD _ (.tail _ (.head _)) (by simp)
                    obtain ⟨v', n', B', d', l', k, h2e, _⟩ := h2
                    exact PStep.r rfl rfl rfl rfl (fun _ => Run.extract (congrArg some (h1.trans h2e)) rfl) ⟨_, h1.trans h2e, rfl⟩
                  · skip
                    exact PT.made_ok rfl rfl zero24
                have hA138 := hA.1 _ (.head _)
                have hA139 := hA.1 _ (.tail _ (.head _))
                have hA128 := hA.1 _ (.tail _ (.tail _ (.head _)))
                have hA140 := hA.1 _ (.tail _ (.tail _ (.tail _ (.head _))))
                have hA141 := hA.1 _ (.tail _ (.tail _ (.tail _ (.tail _ (.head _)))))
                have hA11 := hA.1 _ (.tail _ (.tail _ (.tail _ (.tail _ (.tail _ (.head _))))))
                have hA138_139 := hA.2 _ (.head _) _ (.tail _ (.head _)) (show (138 : Nat) ≠ 139 by decide)
                have hA138_11 := hA.2 _ (.head _) _ (.tail _ (.tail _ (.tail _ (.tail _ (.tail _ (.head _)))))) (show (138 : Nat) ≠ 11 by decide)
                have hA139_11 := hA.2 _ (.tail _ (.head _)) _ (.tail _ (.tail _ (.tail _ (.tail _ (.tail _ (.head _)))))) (show (139 : Nat) ≠ 11 by decide)
                clear hA
                simp only [List.map_cons, List.map_nil, List.cons_append, List.nil_append]
                dsimp only at hA138 hA139 hA128 hA140 hA141 hA11 hA138_139 hA138_11 hA139_11
                generalize g 138 = q138 at *
                obtain ⟨u138, lo138, hi138⟩ := q138
                generalize g 139 = q139 at *
                obtain ⟨u139, lo139, hi139⟩ := q139
                generalize g 128 = q128 at *
                obtain ⟨u128, lo128, hi128⟩ := q128
                generalize g 140 = q140 at *
                obtain ⟨u140, lo140, hi140⟩ := q140
                generalize g 141 = q141 at *
                obtain ⟨u141, lo141, hi141⟩ := q141
                generalize g 11 = q11 at *
                obtain ⟨u11, lo11, hi11⟩ := q11
                dsimp only at hA138 hA139 hA128 hA140 hA141 hA11 hA138_139 hA138_11 hA139_11 ⊢
                obtain ⟨⟨⟨rfl, hlt11⟩, hb11⟩, hA11⟩ := hA11
                obtain ⟨v11, n11, B11, d11, l11, k11, rfl, hI11, hO11, _⟩ := hA139.1
                have hS := hS.trans hW (by simp)
                have hK1 := K.size
                change wr.heap.size ≤ _ ∧ _ at hA11
                have lt_211 : g2 < lo11 := by have := hb2.lt; omega
                have hb2 := hb2.frm hS (by simp)
                have hO3 := hO3.frm hS
                have K := K.trans hS (by simp)
                obtain rfl := hA128.1
                obtain ⟨xs140, e1_140, e2_140⟩ := hA140.1
                injection e1_140 with e1_140
                subst e1_140
                have e2_140 := Option.some.inj e2_140
                subst e2_140
                obtain ⟨xs141, e1_141, e2_141⟩ := hA141.1
                injection e1_141 with e1_141
                subst e1_141
                have e2_141 := Option.some.inj e2_141
                subst e2_141
                refine HOps.st 15 rfl (by kernel_rfl) (Acts.storeA rfl rfl Try.sizeOf24 hb11 rfl (BVc_one v11 n11 B11 l11.length d11)) trivial rfl ?_
                rintro w12 ⟨hbn_w12, hf_w12, hsz_w12⟩
                have hb2 := hb2.frm hf_w12 (by simp; omega)
                have hO3 := hO3.blk hf_w12 hb11 (by decide) (by decide)
                have hO11 := hO11.blk hf_w12 hb11 (by decide) (by decide)
                have hb11 := hbn_w12
                have K := Frm.own K hf_w12 (fun y hy => by simp at hy; omega)
                have hS := Frm.own hS hf_w12 (fun y hy => by simp at hy; omega)
                refine ⟨hS, ?_⟩
                refine HOps.take 16 rfl (by kernel_rfl) (by kernel_rfl) (by kernel_rfl) hS (fun w0 hw0 => Run.asg rfl) trivial rfl rfl ?_
                refine HOps.done (by kernel_rfl) ?_
                refine thenQ_n ?_
                refine VC.sub [(1, _), (2, _), (5, _), (7, _), (11, _), (12, _)] (.cons rfl (.cons rfl (.cons rfl (.cons rfl (.cons rfl (.cons rfl .nil)))))) ?_
                refine VC.seq ?_
                refine VC.region ?_
                refine Ops.r (Run.mv rfl) rfl ?_
                refine Ops.r (Run.bin rfl rfl (Bin.eqlN _ 0)) rfl ?_
                refine Ops.nil ?_
                refine thenQ_n ?_
                refine VC.sub [(1, _), (2, _), (5, _), (7, _), (11, _), (143, _)] (.cons rfl (.cons rfl (.cons rfl (.cons rfl (.cons rfl (.cons rfl .nil)))))) ?_
                refine VC.condD rfl (fun hc10 => ?_) (fun hc10 => ?_)
                · skip
                  subst hc10
                  obtain ⟨hm11, hn11, hl11, hv11⟩ := changeB_may hI11.ok_of
                  dsimp only at hm11 hn11 hl11 hv11
                  subst hv11
                  subst hn11
                  refine VC.region ?_
                  refine Ops.r (Run.loadA rfl Try.isAgg24 Try.sizeOf24 (fun j v hj => hb11.cells j v hj) (by first | rfl | (simp; done))) rfl ?_
                  refine Ops.st (Acts.storeA rfl rfl Try.sizeOf24 hb2 rfl (BVc_one v11 n11 B11 l11.length d11)) ?_
                  rintro w13 ⟨hbn_w13, hf_w13, hsz_w13⟩
                  have hO3 := hO3.blk hf_w13 hb2 (by decide) (by decide)
                  have hO11 := hO11.blk hf_w13 hb2 (by decide) (by decide)
                  have hb11 := hb11.frm hf_w13 (by simp; omega)
                  have hb2 := hbn_w13
                  have K := Frm.own K hf_w13 (fun y hy => by simp at hy; omega)
                  refine Ops.nil ?_
                  refine blockQ_n (thenQ_n ⟨(la, n11, B11, d11, l11), (.cons rfl (.cons rfl (.cons rfl (.cons rfl .nil)))), ?_⟩)
                  exact ⟨hb2, hO11, hm11, hl0, hln, K⟩
                · skip
                  refine VC.skip ?_
                  refine blockQ_n (thenQ_n ⟨(la, n, B, d, lm), (.cons rfl (.cons rfl (.cons rfl (.cons rfl .nil)))), ?_⟩)
                  exact ⟨hb2, hO3, hmay, hl0, hln, K⟩
              · skip
                refine VC.seq ?_
                refine VC.region ?_
                refine Ops.r (Run.loadA rfl Try.isAgg24 Try.sizeOf24 (fun j v hj => hb2.cells j v hj) (by first | rfl | (simp; done))) rfl ?_
                refine Ops.cl (Enters.fn (evs.cons rfl (evs.cons rfl (evs.cons rfl evs.nil))) Try.call9) (expunge_spec va n B d lm true none 0 [] _ hO3.rdm (Rd.nil _ _ _) (by decide)) rfl ?_
                rintro e w14 ⟨hf_w14, v13, n13, B13, d13, l13, P13, dP13, ps, D13, dD13, bl, k13, rfl, hO13, hP13, hD13, hE⟩
                refine ⟨_, rfl, ?_⟩
                have hb2 := hb2.frm hf_w14 (by simp)
                have hO3 := hO3.frm hf_w14
                have K := Frm.trans K hf_w14 (by simp)
                refine Ops.r (Run.mv rfl) rfl ?_
                refine Ops.r (Run.extract rfl rfl) rfl ?_
                refine Ops.r (Run.extract rfl rfl) rfl ?_
                refine Ops.r (Run.extract rfl rfl) rfl ?_
                refine Ops.r (Run.extract rfl rfl) rfl ?_
                refine Ops.m (Does.alloc zero24) rfl ?_
                rintro _ w15 ⟨rfl, hF_w15⟩
                have hb13 := hF_w15.blk
                have hs13_K := K.size
                have lt_hb2_13 := hb2.lt
                have hb2 := hb2.frm hF_w15.frm (by simp)
                have hO3 := hO3.frm hF_w15.frm
                have hO13 := hO13.frm hF_w15.frm
                have K := Frm.trans K hF_w15.frm (by simp)
                generalize hg13 : w14.heap.size = g13 at hb13 hs13_K lt_hb2_13 ⊢
                refine Ops.st (Acts.storeA rfl rfl Try.sizeOf24 hb13 rfl (BVc_one v13 n13 B13 l13.length d13)) ?_
                rintro w16 ⟨hbn_w16, hf_w16, hsz_w16⟩
                have hb2 := hb2.frm hf_w16 (by simp; omega)
                have hO3 := hO3.blk hf_w16 hb13 (by decide) (by decide)
                have hO13 := hO13.blk hf_w16 hb13 (by decide) (by decide)
                have hb13 := hbn_w16
                have K := Frm.own K hf_w16 (fun y hy => by simp at hy; omega)
                obtain ⟨_, rfl, rfl, rfl, hl13, hps, _⟩ := hE.resolve_left (fun h => h.1 hmay)
                have hsum : l13.length + ps.length = lm.length := by
                  have h1 := congrArg List.length hl13
                  have h2 := filter_split (goesQ true []) (Ms lm)
                  rw [shift_marks (goesQ true []) (Ms lm) 0 0 (Nat.le_refl _)] at hps
                  have h3 := placesQ_len (goesQ true []) (Ms lm) (0 - 0)
                  rw [← hps] at h3
                  simp only [Ms, List.length_map] at h1 h2 h3
                  omega
                have hmlen : lm.length ≤ 128 := by have := hmi.1; simp only [Ms, List.length_map] at this; omega
                have hm13 : mayB ⟨v13, n13, Ms l13⟩ := mayB_sub hmay (by rw [hl13]; exact List.filter_sublist)
                have h67 : ¬ (0 ≠ 0) := fun h => h rfl
                have h78 : ¬ (l13.length + ps.length ≠ lm.length) := fun h => h hsum
                have h85 : ¬ (n13 ≠ n13) := fun h => h rfl
                refine Ops.r (Run.asg rfl) rfl ?_
                refine Ops.r (Run.asg rfl) rfl ?_
                refine Ops.r (Run.asg rfl) rfl ?_
                refine Ops.nil ?_
                refine thenQ_n ?_
                refine VC.sub [(1, _), (2, _), (5, _), (7, _), (13, _), (14, _), (16, _)] (.cons rfl (.cons rfl (.cons rfl (.cons rfl (.cons rfl (.cons rfl (.cons rfl .nil))))))) ?_
                refine VC.seq ?_
                refine VC.seq ?_
                refine VC.region ?_
                refine Ops.r (Run.mv rfl) rfl ?_
                refine Ops.r (Run.bin rfl rfl (Bin.neqN _ 0)) rfl ?_
                refine Ops.r (Run.mv rfl) rfl ?_
                refine Ops.rg rfl (by first | rfl | assumption | exact decide_eq_true (by assumption) | exact decide_eq_false (by assumption) | decide | (simp; done) | (simp; omega) | (simp [*]; done)) (Run.fieldAddr rfl Try.underlying24 rfl Try.sizeOf22 (by decide)) rfl ?_
                refine Ops.rg rfl (by first | rfl | assumption | exact decide_eq_true (by assumption) | exact decide_eq_false (by assumption) | decide | (simp; done) | (simp; omega) | (simp [*]; done)) (Run.load rfl Try.isAgg22 (hb13.cell 2)) rfl ?_
                refine Ops.rg rfl (by first | rfl | assumption | exact decide_eq_true (by assumption) | exact decide_eq_false (by assumption) | decide | (simp; done) | (simp; omega) | (simp [*]; done)) (Run.lenS rfl Try.underlying22) rfl ?_
                refine Ops.rg rfl (by first | rfl | assumption | exact decide_eq_true (by assumption) | exact decide_eq_false (by assumption) | decide | (simp; done) | (simp; omega) | (simp [*]; done)) (Run.mv rfl) rfl ?_
                refine Ops.rg rfl (by first | rfl | assumption | exact decide_eq_true (by assumption) | exact decide_eq_false (by assumption) | decide | (simp; done) | (simp; omega) | (simp [*]; done)) (Run.lenS rfl Try.underlying25) rfl ?_
                refine Ops.rg rfl (by first | rfl | assumption | exact decide_eq_true (by assumption) | exact decide_eq_false (by assumption) | decide | (simp; done) | (simp; omega) | (simp [*]; done)) (Run.bin rfl rfl (Bin.add_i64 _ _ (by omega))) rfl ?_
                refine Ops.rg rfl (by first | rfl | assumption | exact decide_eq_true (by assumption) | exact decide_eq_false (by assumption) | decide | (simp; done) | (simp; omega) | (simp [*]; done)) (Run.fieldAddr rfl Try.underlying24 rfl Try.sizeOf22 (by decide)) rfl ?_
                refine Ops.rg rfl (by first | rfl | assumption | exact decide_eq_true (by assumption) | exact decide_eq_false (by assumption) | decide | (simp; done) | (simp; omega) | (simp [*]; done)) (Run.load rfl Try.isAgg22 (hb2.cell 2)) rfl ?_
                refine Ops.rg rfl (by first | rfl | assumption | exact decide_eq_true (by assumption) | exact decide_eq_false (by assumption) | decide | (simp; done) | (simp; omega) | (simp [*]; done)) (Run.lenS rfl Try.underlying22) rfl ?_
                refine Ops.rg rfl (by first | rfl | assumption | exact decide_eq_true (by assumption) | exact decide_eq_false (by assumption) | decide | (simp; done) | (simp; omega) | (simp [*]; done)) (Run.bin rfl rfl (Bin.neqN _ _)) rfl ?_
                refine Ops.r (Run.pickF rfl rfl (by first | rfl | assumption | exact decide_eq_true (by assumption) | exact decide_eq_false (by assumption) | decide | (simp; done) | (simp; omega) | (simp [*]; done))) rfl ?_
                refine Ops.r (Run.mv rfl) rfl ?_
                refine Ops.rg rfl (by first | rfl | assumption | exact decide_eq_true (by assumption) | exact decide_eq_false (by assumption) | decide | (simp; done) | (simp; omega) | (simp [*]; done)) (Run.fieldAddr rfl Try.underlying24 rfl Try.sizeOf3 (by decide)) rfl ?_
                refine Ops.rg rfl (by first | rfl | assumption | exact decide_eq_true (by assumption) | exact decide_eq_false (by assumption) | decide | (simp; done) | (simp; omega) | (simp [*]; done)) (Run.load rfl Try.isAgg3 (hb13.cell 1)) rfl ?_
                refine Ops.rg rfl (by first | rfl | assumption | exact decide_eq_true (by assumption) | exact decide_eq_false (by assumption) | decide | (simp; done) | (simp; omega) | (simp [*]; done)) (Run.fieldAddr rfl Try.underlying24 rfl Try.sizeOf3 (by decide)) rfl ?_
                refine Ops.rg rfl (by first | rfl | assumption | exact decide_eq_true (by assumption) | exact decide_eq_false (by assumption) | decide | (simp; done) | (simp; omega) | (simp [*]; done)) (Run.load rfl Try.isAgg3 (hb2.cell 1)) rfl ?_
                refine Ops.rg rfl (by first | rfl | assumption | exact decide_eq_true (by assumption) | exact decide_eq_false (by assumption) | decide | (simp; done) | (simp; omega) | (simp [*]; done)) (Run.bin rfl rfl (Bin.neq _ _)) rfl ?_
                refine Ops.r (Run.pickF rfl rfl (by first | rfl | assumption | exact decide_eq_true (by assumption) | exact decide_eq_false (by assumption) | decide | (simp; done) | (simp; omega) | (simp [*]; done))) rfl ?_
                refine Ops.nil ?_
                refine thenQ_n ?_
                refine VC.sub [(1, _), (2, _), (5, _), (7, _), (13, _), (86, _)] (.cons rfl (.cons rfl (.cons rfl (.cons rfl (.cons rfl (.cons rfl .nil)))))) ?_
                refine VC.condF rfl (by first | rfl | exact decide_eq_false (by assumption)) ?_
                refine VC.skip ?_
                refine thenQ_n ?_
                refine VC.sub [(1, _), (2, _), (5, _), (7, _), (13, _)] (.cons rfl (.cons rfl (.cons rfl (.cons rfl (.cons rfl .nil))))) ?_
                refine VC.region ?_
                refine Ops.r (Run.loadA rfl Try.isAgg24 Try.sizeOf24 (fun j v hj => hb13.cells j v hj) (by first | rfl | (simp; done))) rfl ?_
                refine Ops.st (Acts.storeA rfl rfl Try.sizeOf24 hb2 rfl (BVc_one v13 n13 B13 l13.length d13)) ?_
                rintro w17 ⟨hbn_w17, hf_w17, hsz_w17⟩
                have hO3 := hO3.blk hf_w17 hb2 (by decide) (by decide)
                have hO13 := hO13.blk hf_w17 hb2 (by decide) (by decide)
                have hb13 := hb13.frm hf_w17 (by simp; omega)
                have hb2 := hbn_w17
                have K := Frm.own K hf_w17 (fun y hy => by simp at hy; omega)
                refine Ops.nil ?_
                refine blockQ_n (thenQ_n ⟨(la, n13, B13, d13, l13), (.cons rfl (.cons rfl (.cons rfl (.cons rfl .nil)))), ?_⟩)
                exact ⟨hb2, hO13, hm13, hl0, hln, K⟩
          · skip
            rintro ⟨la, n, B, d, lm⟩ wm ⟨hb2, hO3, hmay, hl0, hln, K⟩ Γ hΓ
            dsimp only at hb2 hO3 hmay hl0 hln
            refine thenQ_n (VC.sub _ hΓ ?_)
            refine VC.seq ?_
            refine VC.region ?_
            refine Ops.r (Run.loadA rfl Try.isAgg24 Try.sizeOf24 (fun j v hj => hb2.cells j v hj) (by first | rfl | (simp; done))) rfl ?_
            refine Ops.cl (Enters.fn (evs.cons rfl evs.nil) Try.call17) (may_spec _ _ B d lm _ hO3.rdm) rfl ?_
            rintro e w18 ⟨rfl, hf18⟩
            rw [decide_eq_true hmay]
            refine ⟨_, rfl, ?_⟩
            refine Ops.r (Run.not rfl) rfl ?_
            refine Ops.nil ?_
            refine thenQ_n ?_
            refine VC.sub [(1, _), (2, _), (5, _), (7, _), (147, _)] (.cons rfl (.cons rfl (.cons rfl (.cons rfl (.cons rfl .nil))))) ?_
            refine VC.condF rfl (rfl) ?_
            refine VC.skip ?_
            refine blockQ_n (thenQ_n ?_)
            refine VC.sub [(1, _), (2, _), (5, _), (7, _)] (.cons rfl (.cons rfl (.cons rfl (.cons rfl .nil)))) ?_
            refine VC.region ?_
            refine Ops.r (Run.mv rfl) rfl ?_
            refine Ops.r (Run.bin rfl rfl (Bin.add_i64 _ 1 (by omega))) rfl ?_
            refine Ops.r (Run.asg rfl) rfl ?_
            refine Ops.nil ?_
            refine thenQ_n ⟨(i + 1, la, n, B, d, lm), (.cons rfl (.cons rfl (.cons rfl (.cons rfl .nil)))), ?_, ?_⟩
            · skip
              exact ⟨hib, hi8, hb2.frm hf18 (by simp), hO3.frm hf18, hmay, hl0, hln, K.trans hf18 (by simp)⟩
            · skip
              first | omega | (dsimp only; omega)
        · skip
          refine VC.exit ?_
          refine thenQ_x (thenQ_x (blockQ_x ?_))
          refine thenQ_n ?_
          refine VC.sub [] .nil ?_
          refine VC.seq ?_
          refine VC.region ?_
          refine Ops.cl (Enters.fn evs.nil Try.call13) (awake26_spec _) rfl ?_
          rintro e w19 ⟨rfl, hf19⟩
          refine ⟨_, rfl, ?_⟩
          refine Ops.r (Run.asg rfl) rfl ?_
          refine Ops.nil ?_
          refine thenQ_n ?_
          refine VC.sub [(4, _)] (.cons rfl .nil) ?_
          refine VC.ret ?_
          refine end1 rfl ?_
          exact ⟨rfl, K.trans hf19 (by simp)⟩

end Go.Proofs.Ytmfglifjnoilnaa
