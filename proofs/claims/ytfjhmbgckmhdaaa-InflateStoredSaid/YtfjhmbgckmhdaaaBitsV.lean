/-
  The walks of the document's answer for layer 8: each function of hamperref08, as plain functions on lists of bits.
-/
import Derived.Test.YtfjhmbgckmhdaaaTy
import Derived.Test.YtfjhmbgckmhdaaaBitsP
import Derived.Test.YtfjhmbgckmhdaaaBitsW
namespace Go.Proofs.Ytfjhmbgckmhdaaa
open Go.RowKit

/-- Bits in cells. -/
def BL (l : List Bool) : List Value := l.map Value.bool
theorem BL_one (l : List Bool) : ∀ u ∈ BL l, u.oneCell' = true := by
  intro u hu
  obtain ⟨b, _, rfl⟩ := List.mem_map.1 hu
  rfl
theorem BL_append (a b : List Bool) : BL (a ++ b) = BL a ++ BL b := by simp [BL]
theorem BL_get (l : List Bool) (i : Nat) (b : Bool) (h : l[i]? = some b) : (BL l)[i]? = some (.bool b) := by simp [BL, h]
theorem NB_U8 (xs : List Nat) (h : ∀ x ∈ xs, x < 256) : NB xs = U8 (xs.map UInt8.ofNat) := by
  simp only [NB, U8, List.map_map]
  apply List.map_congr_left
  intro x hx
  have := h x hx
  simp
  omega
/-- Octets as a string. -/
def strB (xs : List Nat) : ByteArray := ⟨(xs.map UInt8.ofNat).toArray⟩
theorem strB_size (xs : List Nat) : (strB xs).size = xs.length := by simp [strB, ByteArray.size]
theorem strB_append (a b : List Nat) : strB a ++ strB b = strB (a ++ b) := by
  unfold strB
  rw [ByteArray.mk_append_mk, List.map_append]
theorem strB_inj {a b : List Nat} (ha : ∀ x ∈ a, x < 256) (hb : ∀ x ∈ b, x < 256) (h : (strB a).data.toList = (strB b).data.toList) : a = b := by
  have h1 : a.map UInt8.ofNat = b.map UInt8.ofNat := by simpa [strB] using h
  have key : ∀ l : List Nat, (∀ x ∈ l, x < 256) → (l.map UInt8.ofNat).map UInt8.toNat = l := by
    intro l hl
    rw [List.map_map]
    have : ∀ x ∈ l, (UInt8.toNat ∘ UInt8.ofNat) x = id x := fun x hx => by have := hl x hx; simp; omega
    rw [List.map_congr_left this, List.map_id]
  rw [← key a ha, ← key b hb, h1]

set_option maxRecDepth 100000 in
theorem refBits_spec (v n : Nat) (w : World) (hv : v ≤ 18446744073709551615) (hn : n ≤ 1000) :
    Calls Try.prog 40 #[.int .u64 v, .int .i64 n] w fun e w' => ∃ A c, e = .returned (.slice A n c) ∧ Own w' 4 1 A n c (BL (bitsL v n)) ∧ Frm [] w w' ∧ ∀ x ∈ ob A, w.heap.size ≤ x := by
  refine VC.calls (nt := 21) (res := #[.tmp 4]) Try.func40 rfl Try.ntmps40 Try.results40 rfl ?_
  refine VC.seq ?_
  refine VC.region ?_
  refine Ops.r (Run.asg rfl) rfl ?_
  refine Ops.nil ?_
  refine thenQ_n ?_
  refine VC.sub [(0, _), (1, _)] (.cons rfl (.cons rfl .nil)) ?_
  refine VC.seq ?_
  refine VC.region ?_
  refine Ops.r (Run.asg rfl) rfl ?_
  refine Ops.nil ?_
  refine thenQ_n ?_
  refine VC.seq ?_
  refine VC.seq ?_
  refine VC.region ?_
  refine Ops.r (v := .int .i64 ((0 : Nat) : Int)) (Run.asg rfl) rfl ?_
  refine Ops.nil ?_
  refine thenQ_n ?_
  refine VC.block ?_
  refine VC.loop (σ := Nat × Option Addr × Nat) (fun s => [(0, .int .u64 ((v / 2 ^ s.1 : Nat) : Int)), (1, .int .i64 n), (5, .slice s.2.1 s.1 s.2.2), (6, .int .i64 s.1)]) (fun s wr => s.1 ≤ n ∧ Own wr 4 1 s.2.1 s.1 s.2.2 (BL (bitsL v s.1)) ∧ Frm [] w wr ∧ ∀ x ∈ ob s.2.1, w.heap.size ≤ x) (fun s => n - s.1) (0, none, 0) (.cons (by rw [show v / 2 ^ 0 = v by simp]; rfl) (.cons rfl (.cons rfl (.cons rfl .nil)))) ⟨by omega, Own.nil _ _ _, Frm.refl _ _, by simp [ob]⟩ ?_
  rintro ⟨k, A, c⟩ wr ⟨hk, hown, hfr, hA⟩
  dsimp only at hk hown hfr hA ⊢
  refine VC.seq ?_
  refine VC.seq ?_
  refine VC.region ?_
  refine Ops.r (Run.mv rfl) rfl ?_
  refine Ops.r (Run.mv rfl) rfl ?_
  refine Ops.r (Run.bin rfl rfl (Bin.lssN _ _)) rfl ?_
  refine Ops.nil ?_
  refine thenQ_n ?_
  refine VC.sub [(0, _), (1, _), (5, _), (6, _), (9, _)] (.cons rfl (.cons rfl (.cons rfl (.cons rfl (.cons rfl .nil))))) ?_
  refine VC.condD rfl (fun hc1 => ?_) (fun hc1 => ?_)
  · skip
    refine VC.skip ?_
    refine thenQ_n ?_
    refine VC.sub [(0, _), (1, _), (5, _), (6, _)] (.cons rfl (.cons rfl (.cons rfl (.cons rfl .nil)))) ?_
    refine VC.seq ?_
    refine VC.block ?_
    refine VC.seq ?_
    refine VC.region ?_
    refine Ops.r (Run.mv rfl) rfl ?_
    refine Ops.r (Run.mv rfl) rfl ?_
    refine Ops.r (Run.bin rfl rfl (Bin.remN _ 2 (by omega))) rfl ?_
    refine Ops.r (Run.bin rfl rfl (Bin.eqlN _ 1)) rfl ?_
    refine Ops.m (Does.buildS1 rfl Try.underlying53 Try.sizeOf4 zero4 (by decide) (by decide) rfl rfl) rfl ?_
    rintro _ w1 ⟨rfl, hF⟩
    have hown1 := hown.frm hF.frm (by simp)
    have hrd1 : Rd w1 1 (some ⟨wr.heap.size, 0, none⟩) 1 (BL [decide (v / 2 ^ k % 2 = 1)]) := Rd.of_blk hF.blk rfl
    refine Ops.m (Does.app rfl rfl Try.underlying53 (info4) rfl (by decide) hown1 hrd1 (BL_one _) (by omega) (by omega)) rfl ?_
    rintro _ w2 ⟨A2, c2, rfl, hown2, hfr2, hob2⟩
    refine Ops.r (Run.asg rfl) rfl ?_
    refine Ops.nil ?_
    refine thenQ_n ?_
    refine VC.sub [(0, _), (1, _), (5, _), (6, _)] (.cons rfl (.cons rfl (.cons rfl (.cons rfl .nil)))) ?_
    refine VC.region ?_
    refine Ops.r (Run.mv rfl) rfl ?_
    refine Ops.r (Run.bin rfl rfl (Bin.quo_u64 _ 2 (by omega) (Nat.le_trans (Nat.div_le_self _ _) hv))) rfl ?_
    refine Ops.r (Run.asg rfl) rfl ?_
    refine Ops.nil ?_
    refine blockQ_n (thenQ_n ?_)
    refine VC.sub [(0, _), (1, _), (5, _), (6, _)] (.cons rfl (.cons rfl (.cons rfl (.cons rfl .nil)))) ?_
    refine VC.region ?_
    refine Ops.r (Run.mv rfl) rfl ?_
    refine Ops.r (Run.bin rfl rfl (Bin.add_i64 _ 1 (by omega))) rfl ?_
    refine Ops.r (Run.asg rfl) rfl ?_
    refine Ops.nil ?_
    refine thenQ_n ⟨(k + 1, A2, c2), (.cons (by rw [show v / 2 ^ (k + 1) = v / 2 ^ k / 2 by rw [Nat.pow_succ, Nat.div_div_eq_div_mul]]; rfl) (.cons rfl (.cons rfl (.cons rfl .nil)))), ?_, ?_⟩
    · skip
      refine ⟨hc1, ?_, ?_, ?_⟩
      · rw [bitsL_succ, BL_append]; exact hown2
      · exact (hfr.trans hF.frm (by simp)).trans hfr2 (fun x hx => .inr (hA x hx))
      · intro x hx
        have := hfr.size
        have := hF.size
        rcases hob2 with h | h <;> rw [h] at hx
        · exact hA x hx
        · simp at hx; omega
    · skip
      first | omega | (dsimp only; omega)
  · skip
    refine VC.exit ?_
    refine thenQ_x (thenQ_x (blockQ_x ?_))
    refine thenQ_n ?_
    refine VC.sub [(5, _)] (.cons rfl .nil) ?_
    refine VC.seq ?_
    refine VC.region ?_
    refine Ops.r (Run.mv rfl) rfl ?_
    refine Ops.r (Run.asg rfl) rfl ?_
    refine Ops.nil ?_
    refine thenQ_n ?_
    refine VC.sub [(4, _)] (.cons rfl .nil) ?_
    refine VC.ret ?_
    refine end1 rfl ?_
    have : k = n := by omega
    subst this
    exact ⟨A, c, rfl, hown, hfr, hA⟩

set_option maxRecDepth 100000 in
theorem of_spec (B : Option Addr) (c0 : Nat) (bs : List Nat) (w : World) (hl : bs.length ≤ 1000000) (hb : ∀ b ∈ bs, b < 256) (hr : Rd w 1 B bs.length (NB bs)) :
    Calls Try.prog 26 #[.slice B bs.length c0] w fun e w' => ∃ A c, e = .returned (.slice A (8 * bs.length) c) ∧ Own w' 4 1 A (8 * bs.length) c (BL (ofB bs)) ∧ Frm [] w w' ∧ ∀ x ∈ ob A, w.heap.size ≤ x := by
  refine VC.calls (nt := 20) (res := #[.tmp 2]) Try.func26 rfl Try.ntmps26 Try.results26 rfl ?_
  refine VC.seq ?_
  refine VC.region ?_
  refine Ops.r (Run.asg rfl) rfl ?_
  refine Ops.nil ?_
  refine thenQ_n ?_
  refine VC.sub [(0, _)] (.cons rfl .nil) ?_
  refine VC.seq ?_
  refine VC.region ?_
  refine Ops.r (Run.asg rfl) rfl ?_
  refine Ops.nil ?_
  refine thenQ_n ?_
  refine VC.seq ?_
  refine VC.seq ?_
  refine VC.region ?_
  refine Ops.r (v := .int .i64 ((0 : Nat) : Int)) (Run.asg rfl) rfl ?_
  refine Ops.nil ?_
  refine thenQ_n ?_
  refine VC.block ?_
  refine VC.loop (σ := Nat × Option Addr × Nat) (fun s => [(0, .slice B bs.length c0), (3, .slice s.2.1 (8 * s.1) s.2.2), (4, .int .i64 s.1)]) (fun s wr => s.1 ≤ bs.length ∧ Own wr 4 1 s.2.1 (8 * s.1) s.2.2 (BL (ofB (bs.take s.1))) ∧ Frm [] w wr ∧ ∀ x ∈ ob s.2.1, w.heap.size ≤ x) (fun s => bs.length - s.1) (0, none, 0) (.cons rfl (.cons rfl (.cons rfl .nil))) ⟨by omega, Own.nil _ _ _, Frm.refl _ _, by simp [ob]⟩ ?_
  rintro ⟨k, A, c⟩ wr ⟨hk, hown, hfr, hA⟩
  dsimp only at hk hown hfr hA ⊢
  refine VC.seq ?_
  refine VC.seq ?_
  refine VC.region ?_
  refine Ops.r (Run.mv rfl) rfl ?_
  refine Ops.r (Run.mv rfl) rfl ?_
  refine Ops.r (Run.lenS rfl Try.underlying22) rfl ?_
  refine Ops.r (Run.bin rfl rfl (Bin.lssN _ _)) rfl ?_
  refine Ops.nil ?_
  refine thenQ_n ?_
  refine VC.sub [(0, _), (3, _), (4, _), (8, _)] (.cons rfl (.cons rfl (.cons rfl (.cons rfl .nil)))) ?_
  refine VC.condD rfl (fun hc1 => ?_) (fun hc1 => ?_)
  · skip
    have hrw := hr.belowW hfr.below
    obtain ⟨ad, hB, _, hcell⟩ := hrw.2 (by omega)
    subst hB
    have hcm := hcell k _ (NB_get bs k hc1)
    have hbk : bs.getD k 0 < 256 := by
      rw [List.getD_eq_getElem?_getD, List.getElem?_eq_getElem hc1]
      exact hb _ (List.getElem_mem _)
    refine VC.skip ?_
    refine thenQ_n ?_
    refine VC.sub [(0, _), (3, _), (4, _)] (.cons rfl (.cons rfl (.cons rfl .nil))) ?_
    refine VC.seq ?_
    refine VC.block ?_
    refine VC.region ?_
    refine Ops.r (Run.mv rfl) rfl ?_
    refine Ops.r (Run.mv rfl) rfl ?_
    refine Ops.r (Run.mv rfl) rfl ?_
    refine Ops.r (Run.index1 _ rfl rfl Try.underlying22 Try.sizeOf5 (by omega)) rfl ?_
    refine Ops.r (Run.load rfl Try.isAgg5 hcm) rfl ?_
    refine Ops.r (Run.convN _ rfl Try.underlying5 Try.underlying74 (by simp only [bmax]; omega)) rfl ?_
    refine Ops.cl (Enters.fn (evs.cons rfl (evs.cons rfl evs.nil)) Try.call40) (refBits_spec (bs.getD k 0) 8 _ (by omega) (by omega)) rfl ?_
    rintro e w1 ⟨A1, c1, rfl, ho1, hf1, hA1⟩
    refine ⟨_, rfl, ?_⟩
    have hown1 := hown.frm hf1 (by simp)
    refine Ops.m (Does.app rfl rfl Try.underlying53 (info4) rfl (by decide) hown1 ho1.rd (BL_one _) (by omega) (by omega)) rfl ?_
    rintro _ w2 ⟨A2, c2, rfl, hown2, hfr2, hob2⟩
    refine Ops.r (Run.asg rfl) rfl ?_
    refine Ops.nil ?_
    refine blockQ_n (thenQ_n ?_)
    refine VC.sub [(0, _), (3, _), (4, _)] (.cons rfl (.cons rfl (.cons rfl .nil))) ?_
    refine VC.region ?_
    refine Ops.r (Run.mv rfl) rfl ?_
    refine Ops.r (Run.bin rfl rfl (Bin.add_i64 _ 1 (by omega))) rfl ?_
    refine Ops.r (Run.asg rfl) rfl ?_
    refine Ops.nil ?_
    refine thenQ_n ⟨(k + 1, A2, c2), (.cons rfl (.cons (by rw [show 8 * (k + 1) = 8 * k + 8 by omega]; rfl) (.cons rfl .nil))), ?_, ?_⟩
    · skip
      have e2 : ofB (bs.take (k + 1)) = ofB (bs.take k) ++ bitsL (bs.getD k 0) 8 := by
        have e : bs.take (k + 1) = bs.take k ++ [bs.getD k 0] := by
          rw [List.take_add_one, List.getElem?_eq_getElem hc1, List.getD_eq_getElem?_getD, List.getElem?_eq_getElem hc1]; rfl
        rw [e, ofB_append]
        simp [ofB]
      refine ⟨hc1, ?_, ?_, ?_⟩
      · rw [e2, BL_append, show 8 * (k + 1) = 8 * k + 8 by omega]; exact hown2
      · exact (hfr.trans hf1 (by simp)).trans hfr2 (fun x hx => .inr (hA x hx))
      · intro x hx
        have := hfr.size
        have := hf1.size
        rcases hob2 with h | h <;> rw [h] at hx
        · exact hA x hx
        · simp at hx; omega
    · skip
      first | omega | (dsimp only; omega)
  · skip
    refine VC.exit ?_
    refine thenQ_x (thenQ_x (blockQ_x ?_))
    refine thenQ_n ?_
    refine VC.sub [(3, _)] (.cons rfl .nil) ?_
    refine VC.seq ?_
    refine VC.region ?_
    refine Ops.r (Run.mv rfl) rfl ?_
    refine Ops.r (Run.asg rfl) rfl ?_
    refine Ops.nil ?_
    refine thenQ_n ?_
    refine VC.sub [(2, _)] (.cons rfl .nil) ?_
    refine VC.ret ?_
    refine end1 rfl ?_
    have : k = bs.length := by omega
    subst this
    rw [List.take_length] at hown
    exact ⟨A, c, rfl, hown, hfr, hA⟩

set_option maxRecDepth 100000 in
theorem number_spec (B : Option Addr) (c0 : Nat) (l : List Bool) (w : World) (hl : l.length ≤ 63) (hr : Rd w 1 B l.length (BL l)) :
    Calls Try.prog 41 #[.slice B l.length c0] w fun e w' => e = .returned (.int .u64 ((num l : Nat) : Int)) ∧ w = w' := by
  refine VC.calls (nt := 22) (res := #[.tmp 2]) Try.func41 rfl Try.ntmps41 Try.results41 rfl ?_
  refine VC.seq ?_
  refine VC.region ?_
  refine Ops.r (v := .int .u64 ((0 : Nat) : Int)) (Run.asg rfl) rfl ?_
  refine Ops.nil ?_
  refine thenQ_n ?_
  refine VC.sub [(0, _)] (.cons rfl .nil) ?_
  refine VC.seq ?_
  refine VC.region ?_
  refine Ops.r (v := .int .u64 ((0 : Nat) : Int)) (Run.asg rfl) rfl ?_
  refine Ops.nil ?_
  refine thenQ_n ?_
  refine VC.seq ?_
  refine VC.seq ?_
  refine VC.region ?_
  refine Ops.r (Run.mv rfl) rfl ?_
  refine Ops.r (Run.lenS rfl Try.underlying53) rfl ?_
  refine Ops.r (Run.bin rfl rfl (Bin.subZ _ 1 (by omega) (by omega))) rfl ?_
  refine Ops.r (Run.asg rfl) rfl ?_
  refine Ops.nil ?_
  refine thenQ_n ?_
  refine VC.sub [(0, _), (3, _), (4, _)] (.cons rfl (.cons rfl (.cons rfl .nil))) ?_
  refine VC.block ?_
  refine VC.loop (σ := Nat) (fun s => [(0, .slice B l.length c0), (3, .int .u64 ((num (l.drop s) : Nat) : Int)), (4, .int .i64 ((s : Int) - 1))]) (fun s wr => s ≤ l.length ∧ wr = w) (fun s => s) l.length (.cons rfl (.cons (by rw [List.drop_length]; rfl) (.cons rfl .nil))) ⟨by omega, rfl⟩ ?_
  rintro k wr ⟨hk, rfl⟩
  refine VC.seq ?_
  refine VC.seq ?_
  refine VC.region ?_
  refine Ops.r (Run.mv rfl) rfl ?_
  refine Ops.r (Run.bin rfl rfl (Bin.geq _ 0)) rfl ?_
  refine Ops.nil ?_
  refine thenQ_n ?_
  refine VC.sub [(0, _), (3, _), (4, _), (9, _)] (.cons rfl (.cons rfl (.cons rfl (.cons rfl .nil)))) ?_
  refine VC.condD rfl (fun hc1 => ?_) (fun hc1 => ?_)
  · skip
    obtain ⟨m, rfl⟩ : ∃ m, k = m + 1 := ⟨k - 1, by omega⟩
    rw [show (((m + 1 : Nat) : Int) - 1) = ((m : Nat) : Int) from by omega]
    obtain ⟨ad, hB, _, hcell⟩ := hr.2 (by omega)
    subst hB
    have hm : l[m]? = some l[m] := List.getElem?_eq_getElem (by omega)
    have hcm := hcell m _ (BL_get l m _ hm)
    have hnl := num_lt (l.drop (m + 1))
    have hpw : 2 ^ (l.drop (m + 1)).length ≤ 2 ^ 62 := Nat.pow_le_pow_right (by omega) (by rw [List.length_drop]; omega)
    have hstep : num (l.drop m) = l[m].toNat + 2 * num (l.drop (m + 1)) := by rw [List.drop_eq_getElem_cons (by omega)]; rfl
    refine VC.skip ?_
    refine thenQ_n ?_
    refine VC.sub [(0, _), (3, _), (4, _)] (.cons rfl (.cons rfl (.cons rfl .nil))) ?_
    refine VC.seq ?_
    refine VC.block ?_
    refine VC.seq ?_
    refine VC.region ?_
    refine Ops.r (Run.mv rfl) rfl ?_
    refine Ops.r (Run.mv rfl) rfl ?_
    refine Ops.r (Run.bin rfl rfl (Bin.add_u64 _ _ (by omega))) rfl ?_
    refine Ops.r (Run.asg rfl) rfl ?_
    refine Ops.nil ?_
    refine thenQ_n ?_
    refine VC.sub [(0, _), (3, _), (4, _)] (.cons rfl (.cons rfl (.cons rfl .nil))) ?_
    refine VC.seq ?_
    refine VC.region ?_
    refine Ops.r (Run.mv rfl) rfl ?_
    refine Ops.r (Run.mv rfl) rfl ?_
    refine Ops.r (Run.index1 _ rfl rfl Try.underlying53 Try.sizeOf4 (by omega)) rfl ?_
    refine Ops.r (Run.load rfl Try.isAgg4 hcm) rfl ?_
    refine Ops.nil ?_
    refine thenQ_n ?_
    refine VC.sub [(0, _), (3, _), (4, _), (18, _)] (.cons rfl (.cons rfl (.cons rfl (.cons rfl .nil)))) ?_
    refine VC.condB rfl (fun hc2 => ?_) (fun hc2 => ?_)
    · skip
      rw [hc2, Bool.toNat_true] at hstep
      refine VC.region ?_
      refine Ops.r (Run.mv rfl) rfl ?_
      refine Ops.r (Run.bin rfl rfl (Bin.add_u64 _ 1 (by omega))) rfl ?_
      refine Ops.r (Run.asg rfl) rfl ?_
      refine Ops.nil ?_
      refine blockQ_n (thenQ_n ?_)
      refine VC.sub [(0, _), (3, _), (4, _)] (.cons rfl (.cons rfl (.cons rfl .nil))) ?_
      refine VC.region ?_
      refine Ops.r (Run.mv rfl) rfl ?_
      refine Ops.r (Run.bin rfl rfl (Bin.subZ _ 1 (by omega) (by omega))) rfl ?_
      refine Ops.r (Run.asg rfl) rfl ?_
      refine Ops.nil ?_
      refine thenQ_n ⟨m, (.cons rfl (.cons (by rw [show num (l.drop m) = num (l.drop (m + 1)) + num (l.drop (m + 1)) + 1 by omega]; rfl) (.cons rfl .nil))), ?_, ?_⟩
      · skip
        exact ⟨by omega, rfl⟩
      · skip
        first | omega | (dsimp only; omega)
    · skip
      rw [hc2, Bool.toNat_false] at hstep
      refine VC.skip ?_
      refine blockQ_n (thenQ_n ?_)
      refine VC.sub [(0, _), (3, _), (4, _)] (.cons rfl (.cons rfl (.cons rfl .nil))) ?_
      refine VC.region ?_
      refine Ops.r (Run.mv rfl) rfl ?_
      refine Ops.r (Run.bin rfl rfl (Bin.subZ _ 1 (by omega) (by omega))) rfl ?_
      refine Ops.r (Run.asg rfl) rfl ?_
      refine Ops.nil ?_
      refine thenQ_n ⟨m, (.cons rfl (.cons (by rw [show num (l.drop m) = num (l.drop (m + 1)) + num (l.drop (m + 1)) by omega]; rfl) (.cons rfl .nil))), ?_, ?_⟩
      · skip
        exact ⟨by omega, rfl⟩
      · skip
        first | omega | (dsimp only; omega)
  · skip
    refine VC.exit ?_
    refine thenQ_x (thenQ_x (blockQ_x ?_))
    refine thenQ_n ?_
    refine VC.sub [(3, _)] (.cons rfl .nil) ?_
    refine VC.seq ?_
    refine VC.region ?_
    refine Ops.r (Run.mv rfl) rfl ?_
    refine Ops.r (Run.asg rfl) rfl ?_
    refine Ops.nil ?_
    refine thenQ_n ?_
    refine VC.sub [(2, _)] (.cons rfl .nil) ?_
    refine VC.ret ?_
    refine end1 rfl ?_
    have : k = 0 := by omega
    subst this
    exact ⟨rfl, rfl⟩

theorem strB_append_one (l : List Bool) (k : Nat) {x : Nat} (h : (pack l)[k]? = some x) : strB ((pack l).take k) ++ ⟨#[UInt8.ofNat x]⟩ = strB ((pack l).take (k + 1)) := by
  rw [List.take_add_one, h, ← strB_append]
  rfl
end Go.Proofs.Ytfjhmbgckmhdaaa
