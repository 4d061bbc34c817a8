/-
  What the laws of flag share: arguments, no more than are looked at, the examples.
-/
import Derived.Test.YtmfglifjnoilnaaFlagY
namespace Go.Proofs.Ytmfglifjnoilnaa
open Go.RowKit Go.Sort

theorem rd_txs {H : Type} {enc : TypeId × Value → H} {P : Program} {w : World} {base : Nat} {spare : Nat → Bool} {held : Bool} {t e : TypeId} {fuel len cap : Nat} {a : Option Addr} {x : DataW H × List MemPlace} (ht : P.underlying t = some (.slice e)) (he : P.underlying e = some .string) (hc : P.cellsOf e = 1)
    (h : DataW.trod enc P w base spare held fuel t [.slice a len cap] = some x) : ∃ l : List Tx, l.length = len ∧ len ≤ cap ∧ cap ≤ 9223372036854775807 ∧ Rd w 1 a len (SB l) := by
  obtain ⟨ls, h1, h2, h3, h4, _⟩ := rd_strs ht he hc h
  refine ⟨ls.map (·.data.toList), by simpa using h1, h2, h3, ?_⟩
  have : SB (ls.map (·.data.toList)) = ls.map Value.string := by simp only [SB, List.map_map]; rfl
  rw [this]
  exact h4
theorem SB_cut {w : World} {A : Option Addr} {c : Nat} {l : List Tx} (m : Nat) (h : Rd w 1 A l.length (SB l)) (hc : l.length ≤ c) (hm : m ≤ l.length) : Rd w 1 (cutA A c 0 1) (l.take m).length (SB (l.take m)) := by
  have e := h.cut (l := 0) (r := m) (cap := c) (by omega) (by omega) hc
  have e1 : (l.take m).length = m := by simp; omega
  have e2 : SB (l.take m) = ((SB l).drop (0 * 1)).take ((m - 0) * 1) := by simp [SB, List.map_take]
  rw [e1, e2]
  exact e
/-- Of flags no more than are looked at. -/
def fewF (l : List Tx) : List Tx := (l.take 24).map fun x => x.take 30
theorem fewF_facts (l : List Tx) : (fewF l).length ≤ 24 ∧ ∀ q ∈ fewF l, q.length ≤ 30 := by
  unfold fewF
  refine ⟨by simp; omega, fun q hq => ?_⟩
  obtain ⟨x, _, rfl⟩ := List.mem_map.1 hq
  simp
  omega

set_option maxRecDepth 100000 in
theorem few24_spec (A : Option Addr) (c0 : Nat) (l : List Tx) (w : World) (hc : l.length ≤ c0) (hr : Rd w 1 A l.length (SB l)) :
    Calls Try.prog 20 #[.slice A l.length c0] w fun e w' => Frm [] w w' ∧ ∃ B d, e = .returned (.slice B (fewF l).length d) ∧ Own w' 9 1 B (fewF l).length d (SB (fewF l)) ∧ (∀ x ∈ ob B, w.heap.size ≤ x) := by
  refine VC.calls (nt := 31) (res := #[.tmp 2]) Try.func20 rfl Try.ntmps20 Try.results20 rfl ?_
  refine VC.seq ?_
  refine VC.region ?_
  refine Ops.r (Run.asg rfl) rfl ?_
  refine Ops.nil ?_
  refine thenQ_n ?_
  refine VC.sub [(0, _)] (.cons rfl .nil) ?_
  refine VC.seq ?_
  refine VC.seq ?_
  refine VC.region ?_
  refine Ops.r (Run.mv rfl) rfl ?_
  refine Ops.r (Run.lenS rfl Try.underlying43) rfl ?_
  refine Ops.r (Run.bin rfl rfl (Bin.gtrN _ 24)) rfl ?_
  refine Ops.nil ?_
  refine thenQ_n ?_
  refine VC.sub [(0, _), (8, _)] (.cons rfl (.cons rfl .nil)) ?_
  refine VC.meet (σ := Option Addr × Nat) (fun s => [(0, .slice s.1 (l.take 24).length s.2)]) (fun s wm => w = wm ∧ Rd w 1 s.1 (l.take 24).length (SB (l.take 24))) ?_ ?_
  · skip
    refine VC.condD rfl (fun hc1 => ?_) (fun hc1 => ?_)
    · skip
      refine VC.region ?_
      refine Ops.r (Run.mv rfl) rfl ?_
      refine Ops.r (Run.sliceS 0 24 rfl Try.underlying43 Try.sizeOf9 evB.none_ (evB.some_ rfl) (by omega) (by omega)) rfl ?_
      refine Ops.r (Run.asg rfl) rfl ?_
      refine Ops.nil ?_
      refine thenQ_n ⟨(cutA A c0 0 1, c0 - 0), (.cons (by rw [show (l.take 24).length = 24 - 0 by simp; omega]; rfl) .nil), ?_⟩
      exact ⟨rfl, SB_cut 24 hr hc (by omega)⟩
    · skip
      refine VC.skip ?_
      refine thenQ_n ⟨(A, c0), (.cons (by rw [List.take_of_length_le (by omega)]; rfl) .nil), ?_⟩
      rw [List.take_of_length_le (by omega)]
      exact ⟨rfl, hr⟩
  · skip
    rintro ⟨A2, c2⟩ _ ⟨rfl, hr2⟩ Γ hΓ
    have hl24 : (l.take 24).length ≤ 24 := by simp; omega
    generalize hm : l.take 24 = m at *
    refine thenQ_n (VC.sub _ hΓ ?_)
    refine VC.seq ?_
    refine VC.region ?_
    refine Ops.r (Run.asg rfl) rfl ?_
    refine Ops.nil ?_
    refine thenQ_n ?_
    refine VC.seq ?_
    refine VC.seq ?_
    refine VC.region ?_
    refine Ops.r (v := .int .i64 ((0 : Nat) : Int)) (Run.asg rfl) rfl ?_
    refine Ops.nil ?_
    refine thenQ_n ?_
    refine VC.block ?_
    refine VC.loop (σ := Nat × Option Addr × Nat) (fun s => [(0, .slice A2 m.length c2), (3, .slice s.2.1 ((m.take s.1).map fun x => x.take 30).length s.2.2), (4, .int .i64 ((s.1 : Nat) : Int))]) (fun s wr => s.1 ≤ m.length ∧ Own wr 9 1 s.2.1 ((m.take s.1).map fun x => x.take 30).length s.2.2 (SB ((m.take s.1).map fun x => x.take 30)) ∧ (∀ x ∈ ob s.2.1, w.heap.size ≤ x) ∧ Frm [] w wr) (fun s => m.length - s.1) (0, none, 0) (.cons rfl (.cons rfl (.cons rfl .nil))) ⟨by omega, Own.nil _ _ _, by simp [ob], Frm.refl _ _⟩ ?_
    rintro ⟨i, B, d⟩ wr ⟨hi, hown, hge, hfr⟩
    dsimp only at hi hown hge ⊢
    have hil : ((m.take i).map fun x : Tx => x.take 30).length = i := by simp; omega
    refine VC.seq ?_
    refine VC.seq ?_
    refine VC.region ?_
    refine Ops.r (Run.mv rfl) rfl ?_
    refine Ops.r (Run.mv rfl) rfl ?_
    refine Ops.r (Run.lenS rfl Try.underlying43) rfl ?_
    refine Ops.r (Run.bin rfl rfl (Bin.lssN _ _)) rfl ?_
    refine Ops.nil ?_
    refine thenQ_n ?_
    refine VC.sub [(0, _), (3, _), (4, _), (14, _)] (.cons rfl (.cons rfl (.cons rfl (.cons rfl .nil)))) ?_
    refine VC.condD rfl (fun hc2 => ?_) (fun hc2 => ?_)
    · skip
      obtain ⟨ad, rfl, hcell⟩ := SB_at (hr2.frm hfr (by simp)) hc2
      have hts : ((m.take (i + 1)).map fun x : Tx => x.take 30) = ((m.take i).map fun x : Tx => x.take 30) ++ [m[i].take 30] := by rw [take_snoc hc2]; simp only [List.map_append, List.map_cons, List.map_nil]
      generalize m[i] = x at *
      refine VC.skip ?_
      refine thenQ_n ?_
      refine VC.sub [(0, _), (3, _), (4, _)] (.cons rfl (.cons rfl (.cons rfl .nil))) ?_
      refine VC.seq ?_
      refine VC.block ?_
      refine VC.seq ?_
      refine VC.region ?_
      refine Ops.r (Run.mv rfl) rfl ?_
      refine Ops.r (Run.mv rfl) rfl ?_
      refine Ops.r (Run.index1 i rfl rfl Try.underlying43 Try.sizeOf9 hc2) rfl ?_
      refine Ops.r (Run.load rfl Try.isAgg9 hcell) rfl ?_
      refine Ops.r (Run.asg rfl) rfl ?_
      refine Ops.nil ?_
      refine thenQ_n ?_
      refine VC.sub [(0, _), (3, _), (4, _), (5, _)] (.cons rfl (.cons rfl (.cons rfl (.cons rfl .nil)))) ?_
      refine VC.seq ?_
      refine VC.seq ?_
      refine VC.region ?_
      refine Ops.r (Run.mv rfl) rfl ?_
      refine Ops.r (Run.lenT rfl Try.underlying9) rfl ?_
      refine Ops.r (Run.bin rfl rfl (Bin.gtrN _ 30)) rfl ?_
      refine Ops.nil ?_
      refine thenQ_n ?_
      refine VC.sub [(0, _), (3, _), (4, _), (5, _), (23, _)] (.cons rfl (.cons rfl (.cons rfl (.cons rfl (.cons rfl .nil))))) ?_
      refine VC.meet (σ := Unit) (fun s => [(0, .slice (some ad) m.length c2), (3, .slice B ((m.take i).map fun x => x.take 30).length d), (4, .int .i64 ((i : Nat) : Int)), (5, encStr (x.take 30))]) (fun s wm => wr = wm) ?_ ?_
      · skip
        refine VC.condD rfl (fun hc3 => ?_) (fun hc3 => ?_)
        · skip
          refine VC.region ?_
          refine Ops.r (Run.mv rfl) rfl ?_
          refine Ops.r (Run.sliceT 0 30 rfl Try.underlying9 evB.none_ (evB.some_ rfl) (by omega) (by omega)) rfl ?_
          refine Ops.r (Run.asg rfl) rfl ?_
          refine Ops.nil ?_
          refine thenQ_n ⟨(), (.cons rfl (.cons rfl (.cons rfl (.cons rfl .nil)))), ?_⟩
          rfl
        · skip
          refine VC.skip ?_
          refine thenQ_n ⟨(), (.cons rfl (.cons rfl (.cons rfl (.cons (by rw [List.take_of_length_le (l := x) (i := 30) (by omega)]; rfl) .nil)))), ?_⟩
          rfl
      · skip
        rintro _ _ rfl Γ hΓ
        refine thenQ_n (VC.sub _ hΓ ?_)
        refine VC.region ?_
        refine Ops.r (Run.mv rfl) rfl ?_
        refine Ops.r (Run.mv rfl) rfl ?_
        refine Ops.m (Does.buildS1 rfl Try.underlying43 Try.sizeOf9 zero9 (by decide) (by decide) rfl rfl) rfl ?_
        rintro _ w4 ⟨rfl, hF4⟩
        have hfr4 := hfr.trans hF4.frm (by simp)
        refine Ops.m (Does.app rfl rfl Try.underlying43 (info9) rfl (by decide) (hown.frm hF4.frm (by simp)) (hrd1 hF4) (SB_one _) (by omega) (by omega)) rfl ?_
        rintro _ w5 ⟨A5, c5, rfl, hown5, hfr5, hob5⟩
        rw [← SB_append] at hown5
        have hge5 := up_app hge hob5 hfr4.size
        have hfr5' := hfr4.own hfr5 hge
        refine Ops.r (Run.asg rfl) rfl ?_
        refine Ops.nil ?_
        refine blockQ_n (thenQ_n ?_)
        refine VC.sub [(0, _), (3, _), (4, _)] (.cons rfl (.cons rfl (.cons rfl .nil))) ?_
        refine VC.region ?_
        refine Ops.r (Run.mv rfl) rfl ?_
        refine Ops.r (Run.bin rfl rfl (Bin.add_i64 _ 1 (by omega))) rfl ?_
        refine Ops.r (Run.asg rfl) rfl ?_
        refine Ops.nil ?_
        refine thenQ_n ⟨(i + 1, A5, c5), (.cons rfl (.cons (by rw [hts, List.length_append]; rfl) (.cons rfl .nil))), ?_, ?_⟩
        · skip
          rw [hts]
          exact ⟨hc2, by rw [List.length_append]; exact hown5, hge5, hfr5'⟩
        · skip
          first | omega | (dsimp only; omega)
    · skip
      refine VC.exit ?_
      refine thenQ_x (thenQ_x (blockQ_x ?_))
      refine thenQ_n ?_
      refine VC.sub [(3, _)] (.cons rfl .nil) ?_
      refine VC.seq ?_
      refine VC.region ?_
      refine Ops.r (Run.mv rfl) rfl ?_
      refine Ops.r (Run.asg rfl) rfl ?_
      refine Ops.nil ?_
      refine thenQ_n ?_
      refine VC.sub [(2, _)] (.cons rfl .nil) ?_
      refine VC.ret ?_
      refine end1 rfl ?_
      have him : i = m.length := by omega
      subst him
      rw [List.take_length] at hown ⊢
      have e : (m.map fun x : Tx => x.take 30) = fewF l := by rw [← hm]; rfl
      rw [e] at hown ⊢
      exact ⟨hfr, B, d, rfl, hown, hge⟩

theorem normF_is {l ts r : List Tx} (h : toldL l = some ts) (hr : laysF [] ts = r) (hl : r.length ≤ 16) : normF l = .ok r := by
  unfold normF
  rw [h]
  dsimp only
  rw [← laysF_nub, hr, if_neg (by omega)]
theorem IsN.ok {w0 w' : World} {e : Ending} {F : Except Nat (List Tx)} {B : Option Addr} {d : Nat} {r x : List Tx} {k : Nat} (h : IsN w0 w' e F B d r k) (hF : F = .ok x) : k = 0 ∧ r = x := by
  rcases h.2.2.2 with ⟨h1, h2⟩ | ⟨_, _, h2⟩
  · rw [hF] at h2; injection h2 with h2; exact ⟨h1, h2.symm⟩
  · rw [hF] at h2; cases h2

end Go.Proofs.Ytmfglifjnoilnaa
