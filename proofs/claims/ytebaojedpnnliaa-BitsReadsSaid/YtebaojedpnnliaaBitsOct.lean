/-
  'BitsOctets': octets that come stand whole, from a whole octet on, whatever came ahead, and are read so: the law returns true, whatever steps and octets there are. No condition.
-/
import Derived.Test.YtebaojedpnnliaaBitsBack
namespace Go.Proofs.Ytebaojedpnnliaa
open Go.RowKit

theorem cut_rd {w : World} {B : Option Addr} {bc : Nat} {bs : List Nat} (m : Nat) (h : Rd w 1 B bs.length (NB bs)) (hc : bs.length ≤ bc) (hm : m < bs.length) :
    Rd w 1 (cutA B bc 0 1) (bs.take m).length (NB (bs.take m)) := by
  have e := h.cut (l := 0) (r := m) (cap := bc) (by omega) (by omega) hc
  have e1 : (bs.take m).length = m := by simp; omega
  have e2 : NB (bs.take m) = ((NB bs).drop (0 * 1)).take ((m - 0) * 1) := by simp [NB, List.map_take]
  rw [e1, e2]
  exact e
theorem oct_pack (l : List Bool) (bs : List Nat) (hb : ∀ b ∈ bs, b < 256) : pack (whole l ++ ofB bs) = pack l ++ bs := by
  rw [pack_append_whole _ _ (by rw [whole_len]; omega), pack_whole, pack_ofB bs hb]

set_option maxRecDepth 100000 in
theorem octets_walk (A : Option Addr) (n c : Nat) (ss : List StepC) (B : Option Addr) (bl bc : Nat) (bs : List Nat) (w : World) (hn : n ≤ 9223372036854775807) (hS : Steps w A n ss)
    (hbl : bs.length = bl) (hbc : bl ≤ bc) (hb : ∀ b ∈ bs, b < 256) (hr : Rd w 1 B bl (NB bs)) :
    Calls Try.prog 6 #[.slice A n c, .slice B bl bc] w fun e w' => e = .returned (.bool true) ∧ Frm [] w w' := by
  obtain ⟨hsl, hSr, hSs⟩ := hS
  subst hbl
  refine VC.calls (nt := 100) (res := #[.tmp 4]) Try.func6 rfl Try.ntmps6 Try.results6 rfl ?_
  refine VC.seq ?_
  refine VC.region ?_
  refine Ops.r (Run.asg rfl) rfl ?_
  refine Ops.nil ?_
  refine thenQ_n ?_
  refine VC.sub [(0, _), (1, _)] (.cons rfl (.cons rfl .nil)) ?_
  refine VC.seq ?_
  refine VC.seq ?_
  refine VC.region ?_
  refine Ops.r (Run.mv rfl) rfl ?_
  refine Ops.r (Run.lenS rfl Try.underlying26) rfl ?_
  refine Ops.r (Run.bin rfl rfl (Bin.gtrN _ 100)) rfl ?_
  refine Ops.nil ?_
  refine thenQ_n ?_
  refine VC.sub [(0, _), (1, _), (17, _)] (.cons rfl (.cons rfl (.cons rfl .nil))) ?_
  refine VC.meet (σ := Option Addr × Nat) (fun s => [(0, .slice A n c), (1, .slice s.1 (bs.take 100).length s.2)]) (fun s w9 => w = w9 ∧ Rd w 1 s.1 (bs.take 100).length (NB (bs.take 100))) ?_ ?_
  · skip
    refine VC.condD rfl (fun hc1 => ?_) (fun hc1 => ?_)
    · skip
      refine VC.region ?_
      refine Ops.r (Run.mv rfl) rfl ?_
      refine Ops.r (Run.sliceS 0 100 rfl Try.underlying26 Try.sizeOf5 evB.none_ (evB.some_ rfl) (by omega) (by omega)) rfl ?_
      refine Ops.r (Run.asg rfl) rfl ?_
      refine Ops.nil ?_
      refine thenQ_n ⟨(cutA B bc 0 1, bc - 0), (.cons rfl (.cons (by rw [show (bs.take 100).length = 100 - 0 from by simp; omega]; rfl) .nil)), ?_⟩
      exact ⟨rfl, cut_rd 100 hr hbc (by omega)⟩
    · skip
      refine VC.skip ?_
      refine thenQ_n ⟨(B, bc), (.cons rfl (.cons (by rw [List.take_of_length_le (by omega)]; rfl) .nil)), ?_⟩
      rw [List.take_of_length_le (by omega)]
      exact ⟨rfl, hr⟩
  · skip
    rintro ⟨B1, c1⟩ _ ⟨rfl, hr1⟩ Γ hΓ
    dsimp only at hr1
    have hb1 : ∀ b ∈ bs.take 100, b < 256 := fun b hb' => hb b (List.mem_of_mem_take hb')
    have hl1 : (bs.take 100).length ≤ 100 := by simp; omega
    generalize bs.take 100 = b1 at *
    refine thenQ_n (VC.sub _ hΓ ?_)
    refine VC.seq ?_
    refine VC.region ?_
    refine Ops.cl (Enters.fn evs.nil Try.call13) (new_spec _) rfl ?_
    rintro e w1 ⟨rfl, hW1, hf1, hs1⟩
    refine ⟨_, rfl, ?_⟩
    have hg0 : w.heap.size ≤ w.heap.size := Nat.le_refl _
    generalize hg : w.heap.size = g at hW1 hg0 ⊢
    refine Ops.r (Run.asg rfl) rfl ?_
    refine Ops.nil ?_
    refine thenQ_n ?_
    refine VC.sub [(0, _), (1, _), (5, _)] (.cons rfl (.cons rfl (.cons rfl .nil))) ?_
    refine VC.seq ?_
    refine VC.seq ?_
    refine VC.region ?_
    refine Ops.r (Run.mv rfl) rfl ?_
    refine Ops.r (Run.eqlNilP rfl rfl Try.underlying23) rfl ?_
    refine Ops.nil ?_
    refine thenQ_n ?_
    refine VC.sub [(0, _), (1, _), (5, _), (22, _)] (.cons rfl (.cons rfl (.cons rfl (.cons rfl .nil)))) ?_
    refine VC.condF rfl (rfl) ?_
    refine VC.skip ?_
    refine thenQ_n ?_
    refine VC.sub [(0, _), (1, _), (5, _)] (.cons rfl (.cons rfl (.cons rfl .nil))) ?_
    refine VC.seq ?_
    refine VC.seq ?_
    refine VC.region ?_
    refine Ops.r (v := .int .i64 ((0 : Nat) : Int)) (Run.asg rfl) rfl ?_
    refine Ops.nil ?_
    refine thenQ_n ?_
    refine VC.block ?_
    refine VC.loop (σ := Nat × List Bool × Option Addr) (fun s => [(0, .slice A n c), (1, .slice B1 b1.length c1), (5, .pointer (some ⟨g, 0, none⟩)), (6, .int .i64 s.1)]) (fun s wr => s.1 ≤ n ∧ s.1 ≤ 20 ∧ s.2.1.length ≤ 32 * s.1 ∧ IsW wr g s.2.2 s.2.1 ∧ Frm [] w wr ∧ ∀ x ∈ ob s.2.2, w.heap.size ≤ x) (fun s => 20 - s.1) (0, [], none) (.cons rfl (.cons rfl (.cons rfl (.cons rfl .nil)))) ⟨by omega, by omega, by simp, hW1, hf1, up_nil⟩ ?_
    rintro ⟨k, l, Aw⟩ wr ⟨hkn, hk60, hll, hW, hfr, huw⟩
    dsimp only at hkn hk60 hll hW hfr huw ⊢
    refine VC.seq ?_
    refine VC.seq ?_
    refine VC.split1 [(0, _), (1, _), (5, _), (6, _)] (.cons rfl (.cons rfl (.cons rfl (.cons rfl .nil)))) 30 (.bool (decide (k < n ∧ k < 20))) ?_ ?_
    · by_cases hs0 : k < n
      · skip
        refine VC.region ?_
        refine Ops.r (Run.mv rfl) rfl ?_
        refine Ops.r (Run.mv rfl) rfl ?_
        refine Ops.r (Run.lenS rfl Try.underlying22) rfl ?_
        refine Ops.r (Run.bin rfl rfl (Bin.lssN _ _)) rfl ?_
        refine Ops.r (Run.mv rfl) rfl ?_
        refine Ops.rg rfl (by first | rfl | assumption | decide | (simp; done) | (simp; omega) | (simp [*]; done)) (Run.mv rfl) rfl ?_
        refine Ops.rg rfl (by first | rfl | assumption | decide | (simp; done) | (simp; omega) | (simp [*]; done)) (Run.bin rfl rfl (Bin.lssN _ 20)) rfl ?_
        refine Ops.r (Run.pickT rfl rfl (by first | rfl | assumption | decide | (simp; done) | (simp; omega) | (simp [*]; done))) rfl ?_
        refine Ops.nil ?_
        refine thenQ_n ⟨(.cons (by rw [dand1 hs0]; rfl) (.cons rfl (.cons rfl (.cons rfl (.cons rfl .nil))))), rfl⟩
      · skip
        refine VC.region ?_
        refine Ops.r (Run.mv rfl) rfl ?_
        refine Ops.r (Run.mv rfl) rfl ?_
        refine Ops.r (Run.lenS rfl Try.underlying22) rfl ?_
        refine Ops.r (Run.bin rfl rfl (Bin.lssN _ _)) rfl ?_
        refine Ops.r (Run.mv rfl) rfl ?_
        refine Ops.sk rfl (by first | rfl | assumption | decide | (simp; done) | (simp; omega) | (simp [*]; done)) rfl ?_
        refine Ops.sk rfl (by first | rfl | assumption | decide | (simp; done) | (simp; omega) | (simp [*]; done)) rfl ?_
        refine Ops.r (Run.pickF rfl rfl (by first | rfl | assumption | decide | (simp; done) | (simp; omega) | (simp [*]; done))) rfl ?_
        refine Ops.nil ?_
        refine thenQ_n ⟨(.cons (by rw [dand0 hs0]; rfl) (.cons rfl (.cons rfl (.cons rfl (.cons rfl .nil))))), rfl⟩
    · intro Γ hΓ
      refine thenQ_n (VC.sub _ hΓ ?_)
      refine VC.condD rfl (fun hc3 => ?_) (fun hc3 => ?_)
      · skip
        obtain ⟨hkn', hk60'⟩ := hc3
        obtain ⟨ad, rfl, hel⟩ := (hSr.belowW hfr.below).elem hkn'
        have hks : k < ss.length := by omega
        rw [flat_get StepC.cells 4 (fun _ => rfl) ss k hks] at hel
        obtain ⟨hV, _⟩ := hSs _ (List.getElem_mem hks)
        generalize ss[k] = st at *
        refine VC.skip ?_
        refine thenQ_n ?_
        refine VC.sub [(0, _), (1, _), (5, _), (6, _)] (.cons rfl (.cons rfl (.cons rfl (.cons rfl .nil)))) ?_
        refine VC.seq ?_
        refine VC.block ?_
        refine VC.tail 11 (by kernel_rfl) (by kernel_rfl) ?_
        simp only [List.take_succ_cons, List.take_zero, List.drop_succ_cons, List.drop_zero]
        refine SOps.r (Run.mv rfl) rfl ?_
        refine SOps.r (Run.mv rfl) rfl ?_
        refine SOps.r (Run.mv rfl) rfl ?_
        refine SOps.r (Run.indexS _ rfl rfl Try.underlying22 Try.sizeOf28 (by omega)) rfl ?_
        refine SOps.r (Run.fieldAddr rfl Try.underlying28 rfl Try.sizeOf25 (by decide)) rfl ?_
        refine SOps.r (Run.load rfl Try.isAgg25 (hel 2 _ rfl)) rfl ?_
        refine SOps.r (Run.mv rfl) rfl ?_
        refine SOps.r (Run.mv rfl) rfl ?_
        refine SOps.r (Run.indexS _ rfl rfl Try.underlying22 Try.sizeOf28 (by omega)) rfl ?_
        refine SOps.r (Run.fieldAddr rfl Try.underlying28 rfl Try.sizeOf3 (by decide)) rfl ?_
        refine SOps.r (Run.load rfl Try.isAgg3 (hel 1 _ rfl)) rfl ?_
        refine SOps.nil ?_
        refine Ops.cl (Enters.fn (evs.cons rfl (evs.cons rfl (evs.cons rfl evs.nil))) Try.call14) (put_any g st.V st.N Aw _ _ hV (by omega) (hW.frm (Drawn.drew _).frm (by simp))) rfl ?_
        rintro e w4 ⟨rfl, A4, hW4, hf4, hA4⟩
        refine ⟨_, rfl, ?_⟩
        refine Ops.nil ?_
        refine blockQ_n (thenQ_n ?_)
        refine VC.sub [(0, _), (1, _), (5, _), (6, _)] (.cons rfl (.cons rfl (.cons rfl (.cons rfl .nil)))) ?_
        refine VC.region ?_
        refine Ops.r (Run.mv rfl) rfl ?_
        refine Ops.r (Run.bin rfl rfl (Bin.add_i64 _ 1 (by omega))) rfl ?_
        refine Ops.r (Run.asg rfl) rfl ?_
        refine Ops.nil ?_
        refine thenQ_n ⟨(k + 1, if rightE st.V st.N = 0 then l ++ bitsL st.V st.N.toNat else l, A4), (.cons rfl (.cons rfl (.cons rfl (.cons rfl .nil)))), ?_, ?_⟩
        · skip
          have hfrd := hfr.drawn (Drawn.drew wr)
          refine ⟨hkn', hk60', ?_, hW4, hfrd.own hf4 (up_cons (by omega) huw), up_step huw hA4 hfrd.size⟩
          dsimp only
          split
          · rename_i he
            obtain ⟨m, hm, hm32, _⟩ := rightE_zero he
            rw [List.length_append, bitsL_len, hm, Int.toNat_natCast]
            omega
          · omega
        · skip
          first | omega | (dsimp only; omega)
      · skip
        refine VC.exit ?_
        refine thenQ_x (thenQ_x (blockQ_x ?_))
        refine thenQ_n ?_
        refine VC.sub [(1, _), (5, _)] (.cons rfl (.cons rfl .nil)) ?_
        refine VC.seq ?_
        refine VC.region ?_
        refine Ops.r (Run.mv rfl) rfl ?_
        refine Ops.cl (Enters.fn (evs.cons rfl evs.nil) Try.call27) (count_spec g Aw l _ hW) rfl ?_
        rintro e _ ⟨rfl, rfl⟩
        refine ⟨_, rfl, ?_⟩
        refine Ops.r (Run.asg rfl) rfl ?_
        refine Ops.nil ?_
        refine thenQ_n ?_
        refine VC.sub [(1, _), (5, _), (7, _)] (.cons rfl (.cons rfl (.cons rfl .nil))) ?_
        refine VC.seq ?_
        refine VC.region ?_
        refine Ops.r (Run.mv rfl) rfl ?_
        refine Ops.r (Run.mv rfl) rfl ?_
        refine Ops.cl (Enters.fn (evs.cons rfl (evs.cons rfl evs.nil)) Try.call24) (woctets_spec g c1 Aw B1 l b1 _ (by omega) (by omega) hb1 hW (hr1.belowW hfr.below)) rfl ?_
        rintro e w2 ⟨rfl, A2, hW2, hf2, hA2⟩
        refine ⟨_, rfl, ?_⟩
        have hfr2 := hfr.own hf2 (up_cons (by omega) huw)
        have hu2 := up_step huw hA2 hfr.size
        have hwl := whole_len l
        have hpk := oct_pack l b1 hb1
        have hpl := pack_len l
        have hlt := pack_lt (whole l ++ ofB b1)
        have hlen : (whole l ++ ofB b1).length = 8 * ((l.length + 7) / 8) + 8 * b1.length := by rw [List.length_append, hwl, ofB_len]
        have hplen : (pack (whole l ++ ofB b1)).length = (l.length + 7) / 8 + b1.length := by rw [hpk, List.length_append, hpl]
        refine Ops.nil ?_
        refine thenQ_n ?_
        refine VC.sub [(1, _), (5, _), (7, _)] (.cons rfl (.cons rfl (.cons rfl .nil))) ?_
        refine VC.seq ?_
        refine VC.region ?_
        refine Ops.r (Run.mv rfl) rfl ?_
        refine Ops.cl (Enters.fn (evs.cons rfl evs.nil) Try.call17) (bytes_spec g A2 _ _ (by rw [hlen]; omega) hW2) rfl ?_
        rintro e w4 ⟨B4, c4, rfl, ho4, hf4, hB4⟩
        refine ⟨_, rfl, ?_⟩
        have hW4 := hW2.frm hf4 (by simp)
        have hfr4 := hfr2.own hf4 (by simp)
        refine Ops.r (Run.asg rfl) rfl ?_
        refine Ops.nil ?_
        refine thenQ_n ?_
        refine VC.sub [(1, _), (5, _), (7, _), (8, _)] (.cons rfl (.cons rfl (.cons rfl (.cons rfl .nil)))) ?_
        refine VC.seq ?_
        refine VC.region ?_
        refine Ops.r (Run.mv rfl) rfl ?_
        refine Ops.cl (Enters.fn (evs.cons rfl evs.nil) Try.call16) (read_spec B4 c4 _ _ (by omega) ho4.rd) rfl ?_
        rintro e w5 ⟨gr, Ar, rfl, hR5, hf5, hA5⟩
        refine ⟨_, rfl, ?_⟩
        have hW5 := hW4.frm hf5 (by simp)
        have hfr5 := hfr4.own hf5 (by simp)
        have hgr : w.heap.size ≤ gr := Nat.le_trans hfr4.size (hA5 gr (by simp))
        have hne : ∀ x ∈ g :: ob A2, x ∉ [gr] := by
          intro x hx hx2
          have h1 := hW4.lt x hx
          have h2 := hA5 gr (by simp)
          simp at hx2
          omega
        generalize hP : pack (whole l ++ ofB b1) = pp at *
        refine Ops.r (Run.asg rfl) rfl ?_
        refine Ops.nil ?_
        refine thenQ_n ?_
        refine VC.sub [(1, _), (5, _), (7, _), (8, _), (9, _)] (.cons rfl (.cons rfl (.cons rfl (.cons rfl (.cons rfl .nil))))) ?_
        refine VC.seq ?_
        refine VC.seq ?_
        refine VC.region ?_
        refine Ops.r (Run.mv rfl) rfl ?_
        refine Ops.r (Run.eqlNilP rfl rfl Try.underlying31) rfl ?_
        refine Ops.nil ?_
        refine thenQ_n ?_
        refine VC.sub [(1, _), (5, _), (7, _), (8, _), (9, _), (55, _)] (.cons rfl (.cons rfl (.cons rfl (.cons rfl (.cons rfl (.cons rfl .nil)))))) ?_
        refine VC.condF rfl (rfl) ?_
        refine VC.skip ?_
        refine thenQ_n ?_
        refine VC.sub [(1, _), (5, _), (7, _), (8, _), (9, _)] (.cons rfl (.cons rfl (.cons rfl (.cons rfl (.cons rfl .nil))))) ?_
        refine VC.seq ?_
        refine VC.seq ?_
        refine VC.region ?_
        refine Ops.r (v := .int .i64 ((0 : Nat) : Int)) (Run.asg rfl) rfl ?_
        refine Ops.nil ?_
        refine thenQ_n ?_
        refine VC.block ?_
        refine VC.loop (σ := Nat) (fun s => [(1, .slice B1 b1.length c1), (5, .pointer (some ⟨g, 0, none⟩)), (7, .int .i64 ((l.length : Nat) : Int)), (8, .slice B4 pp.length c4), (9, .pointer (some ⟨gr, 0, none⟩)), (10, .int .i64 s)]) (fun s wr => s ≤ l.length ∧ IsR wr gr Ar pp s ∧ IsW wr g A2 (whole l ++ ofB b1) ∧ Frm [] w wr) (fun s => l.length - s) 0 (.cons rfl (.cons rfl (.cons rfl (.cons rfl (.cons rfl (.cons rfl .nil)))))) ⟨by omega, hR5, hW5, hfr5⟩ ?_
        rintro j wj ⟨hj, hRj, hWj, hfrj⟩
        refine VC.seq ?_
        refine VC.seq ?_
        refine VC.region ?_
        refine Ops.r (Run.mv rfl) rfl ?_
        refine Ops.r (Run.mv rfl) rfl ?_
        refine Ops.r (Run.bin rfl rfl (Bin.lssN _ _)) rfl ?_
        refine Ops.nil ?_
        refine thenQ_n ?_
        refine VC.sub [(1, _), (5, _), (7, _), (8, _), (9, _), (10, _), (58, _)] (.cons rfl (.cons rfl (.cons rfl (.cons rfl (.cons rfl (.cons rfl (.cons rfl .nil))))))) ?_
        refine VC.condD rfl (fun hc5 => ?_) (fun hc5 => ?_)
        · skip
          refine VC.skip ?_
          refine thenQ_n ?_
          refine VC.sub [(1, _), (5, _), (7, _), (8, _), (9, _), (10, _)] (.cons rfl (.cons rfl (.cons rfl (.cons rfl (.cons rfl (.cons rfl .nil)))))) ?_
          refine VC.seq ?_
          refine VC.block ?_
          refine VC.seq ?_
          refine VC.region ?_
          refine Ops.r (Run.mv rfl) rfl ?_
          refine Ops.cl (Enters.fn (evs.cons rfl (evs.cons rfl evs.nil)) Try.call18) (take_ok gr 1 j Ar pp _ (by omega) (by omega) hlt hRj (by omega) (by omega)) rfl ?_
          rintro e w6 ⟨rfl, hR6, hf6⟩
          refine ⟨_, rfl, ?_⟩
          refine Ops.r (Run.mv rfl) rfl ?_
          refine Ops.r (Run.extract rfl rfl) rfl ?_
          refine Ops.r (Run.extract rfl rfl) rfl ?_
          refine Ops.r (Run.asg rfl) rfl ?_
          refine Ops.r (Run.asg rfl) rfl ?_
          refine Ops.nil ?_
          refine thenQ_n ?_
          refine VC.sub [(1, _), (5, _), (7, _), (8, _), (9, _), (10, _), (12, _)] (.cons rfl (.cons rfl (.cons rfl (.cons rfl (.cons rfl (.cons rfl (.cons rfl .nil))))))) ?_
          refine VC.seq ?_
          refine VC.region ?_
          refine Ops.r (Run.mv rfl) rfl ?_
          refine Ops.r (Run.bin rfl rfl (Bin.neqN _ 0)) rfl ?_
          refine Ops.nil ?_
          refine thenQ_n ?_
          refine VC.sub [(1, _), (5, _), (7, _), (8, _), (9, _), (10, _), (67, _)] (.cons rfl (.cons rfl (.cons rfl (.cons rfl (.cons rfl (.cons rfl (.cons rfl .nil))))))) ?_
          refine VC.condF rfl (rfl) ?_
          refine VC.skip ?_
          refine blockQ_n (thenQ_n ?_)
          refine VC.sub [(1, _), (5, _), (7, _), (8, _), (9, _), (10, _)] (.cons rfl (.cons rfl (.cons rfl (.cons rfl (.cons rfl (.cons rfl .nil)))))) ?_
          refine VC.region ?_
          refine Ops.r (Run.mv rfl) rfl ?_
          refine Ops.r (Run.bin rfl rfl (Bin.add_i64 _ 1 (by omega))) rfl ?_
          refine Ops.r (Run.asg rfl) rfl ?_
          refine Ops.nil ?_
          refine thenQ_n ⟨(j + 1), (.cons rfl (.cons rfl (.cons rfl (.cons rfl (.cons rfl (.cons rfl .nil)))))), ?_, ?_⟩
          · skip
            exact ⟨hc5, hR6, hWj.frm hf6 hne, hfrj.own hf6 (up_one hgr)⟩
          · skip
            first | omega | (dsimp only; omega)
        · skip
          have hjk : j = l.length := by omega
          subst hjk
          refine VC.exit ?_
          refine thenQ_x (thenQ_x (blockQ_x ?_))
          refine thenQ_n ?_
          refine VC.sub [(1, _), (5, _), (8, _), (9, _)] (.cons rfl (.cons rfl (.cons rfl (.cons rfl .nil)))) ?_
          refine VC.seq ?_
          refine VC.region ?_
          refine Ops.r (Run.mv rfl) rfl ?_
          refine Ops.r (Run.mv rfl) rfl ?_
          refine Ops.r (Run.lenS rfl Try.underlying26) rfl ?_
          refine Ops.cl (Enters.fn (evs.cons rfl (evs.cons rfl evs.nil)) Try.call31) (octets_ok gr b1.length l.length Ar pp _ (by omega) (by omega) hRj (by omega)) rfl ?_
          rintro e w6 ⟨B6, c6, rfl, ho6, hR6, hf6, hB6⟩
          refine ⟨_, rfl, ?_⟩
          have hW6 := hWj.frm hf6 hne
          have hfr6 := hfrj.own hf6 (up_one hgr)
          have hd6 : (pp.drop ((l.length + 7) / 8)).take b1.length = b1 := by rw [hpk, ← hpl, List.drop_left, List.take_length]
          rw [hd6] at ho6
          refine Ops.r (Run.mv rfl) rfl ?_
          refine Ops.r (Run.extract rfl rfl) rfl ?_
          refine Ops.r (Run.extract rfl rfl) rfl ?_
          refine Ops.r (Run.asg rfl) rfl ?_
          refine Ops.r (Run.asg rfl) rfl ?_
          refine Ops.nil ?_
          refine thenQ_n ?_
          refine VC.sub [(1, _), (5, _), (8, _), (9, _), (13, _), (14, _)] (.cons rfl (.cons rfl (.cons rfl (.cons rfl (.cons rfl (.cons rfl .nil)))))) ?_
          refine VC.seq ?_
          refine VC.region ?_
          refine Ops.r (Run.mv rfl) rfl ?_
          refine Ops.r (Run.strOf rfl Try.underlying26 Try.underlying5 Try.underlying9 (ho6.str hb1)) rfl ?_
          refine Ops.r (Run.mv rfl) rfl ?_
          refine Ops.r (Run.strOf rfl Try.underlying26 Try.underlying5 Try.underlying9 (by rw [← NB_U8 b1 hb1]; exact hr1.belowW hfr6.below)) rfl ?_
          refine Ops.r (Run.eqlStr rfl rfl) rfl ?_
          refine Ops.r (Run.mv rfl) rfl ?_
          refine Ops.rg rfl (by first | (simp; done) | (simp; omega) | (simp [hwl, ofB_len]; done) | (simp [hwl, ofB_len]; omega)) (Run.mv rfl) rfl ?_
          refine Ops.rg rfl (by first | (simp; done) | (simp; omega) | (simp [hwl, ofB_len]; done) | (simp [hwl, ofB_len]; omega)) (Run.bin rfl rfl (Bin.eqlN _ 0)) rfl ?_
          refine Ops.r (Run.pickT rfl rfl (by first | rfl | assumption | decide | (simp; done) | (simp; omega) | (simp [*]; done))) rfl ?_
          refine Ops.r (Run.mv rfl) rfl ?_
          refine Ops.rg rfl (by first | (simp; done) | (simp; omega) | (simp [hwl, ofB_len]; done) | (simp [hwl, ofB_len]; omega)) (Run.mv rfl) rfl ?_
          refine Ops.clg rfl (by first | (simp; done) | (simp; omega) | (simp [hwl, ofB_len]; done) | (simp [hwl, ofB_len]; omega)) (Enters.fn (evs.cons rfl evs.nil) Try.call19) (left_spec gr _ Ar pp _ (by omega) (by omega) hR6) rfl ?_
          rintro e w7 ⟨rfl, hd7⟩
          refine ⟨_, rfl, ?_⟩
          refine Ops.rg rfl (by first | (simp; done) | (simp; omega) | (simp [hwl, ofB_len]; done) | (simp [hwl, ofB_len]; omega)) (Run.bin rfl rfl (Bin.eqlN _ 0)) rfl ?_
          refine Ops.r (Run.pickT rfl rfl (by first | rfl | assumption | decide | (simp; done) | (simp; omega) | (simp [*]; done))) rfl ?_
          refine Ops.r (Run.mv rfl) rfl ?_
          refine Ops.rg rfl (by first | (simp; done) | (simp; omega) | (simp [hwl, ofB_len]; done) | (simp [hwl, ofB_len]; omega)) (Run.mv rfl) rfl ?_
          refine Ops.clg rfl (by first | (simp; done) | (simp; omega) | (simp [hwl, ofB_len]; done) | (simp [hwl, ofB_len]; omega)) (Enters.fn (evs.cons rfl evs.nil) Try.call27) (count_spec g A2 _ _ (hW6.frm hd7.frm (by simp))) rfl ?_
          rintro e _ ⟨rfl, rfl⟩
          refine ⟨_, rfl, ?_⟩
          refine Ops.rg rfl (by first | (simp; done) | (simp; omega) | (simp [hwl, ofB_len]; done) | (simp [hwl, ofB_len]; omega)) (Run.mv rfl) rfl ?_
          refine Ops.rg rfl (by first | (simp; done) | (simp; omega) | (simp [hwl, ofB_len]; done) | (simp [hwl, ofB_len]; omega)) (Run.lenS rfl Try.underlying26) rfl ?_
          refine Ops.rg rfl (by first | (simp; done) | (simp; omega) | (simp [hwl, ofB_len]; done) | (simp [hwl, ofB_len]; omega)) (Run.bin rfl rfl (Bin.mul_i64 8 _ (by omega))) rfl ?_
          refine Ops.rg rfl (by first | (simp; done) | (simp; omega) | (simp [hwl, ofB_len]; done) | (simp [hwl, ofB_len]; omega)) (Run.bin rfl rfl (Bin.eqlN _ _)) rfl ?_
          refine Ops.r (Run.pickT rfl rfl (by first | (simp; done) | (simp; omega))) rfl ?_
          refine Ops.r (Run.mv rfl) rfl ?_
          refine Ops.clg rfl (by first | (simp; done) | (simp; omega) | (simp [hwl, ofB_len]; done) | (simp [hwl, ofB_len]; omega)) (Enters.fn evs.nil Try.call20) (awake08_spec _) rfl ?_
          rintro e w8 ⟨rfl, hf8⟩
          refine ⟨_, rfl, ?_⟩
          refine Ops.r (Run.pickT rfl rfl (by simp [hwl, ofB_len]; omega)) rfl ?_
          refine Ops.r (Run.asg rfl) rfl ?_
          refine Ops.nil ?_
          refine thenQ_n ?_
          refine VC.sub [(4, _)] (.cons rfl .nil) ?_
          refine VC.ret ?_
          refine end1 rfl ?_
          exact ⟨rfl, (hfr6.drawn hd7).own hf8 (by simp)⟩

end Go.Proofs.Ytebaojedpnnliaa
