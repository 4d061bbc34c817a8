/-
  'BitsBack': what is put is taken as it was; what is put turned comes the highest bit first: the law returns true, whatever steps there are. No condition.
-/
import Derived.Test.YtebaojedpnnliaaBitsA
namespace Go.Proofs.Ytebaojedpnnliaa
open Go.RowKit

/-- A step of the law. -/
structure StepC where
  Do : Int
  N : Int
  V : Nat
  B : Option Addr
  bl : Nat
  bc : Nat
  bs : List Nat
def StepC.cells (s : StepC) : List Value := [.int .i64 s.Do, .int .i64 s.N, .int .u64 (s.V : Int), .slice s.B s.bl s.bc]
theorem flat_get {α : Type} (f : α → List Value) (sz : Nat) (hf : ∀ a, (f a).length = sz) (l : List α) (k : Nat) (h : k < l.length) : ((l.flatMap f).drop (k * sz)).take sz = f l[k] := by
  induction l generalizing k with
  | nil => simp at h
  | cons a r ih =>
    rw [List.flatMap_cons]
    cases k with
    | zero => rw [Nat.zero_mul, List.drop_zero, List.take_append_of_le_length (by rw [hf]; exact Nat.le_refl _), List.take_of_length_le (by rw [hf]; exact Nat.le_refl _)]; rfl
    | succ k =>
      have e : (k + 1) * sz = (f a).length + k * sz := by rw [hf, Nat.succ_mul]; omega
      rw [e, List.drop_append, List.drop_eq_nil_of_le (by omega), List.nil_append, Nat.add_sub_cancel_left, ih k (by simpa using h)]
      rfl
theorem flat_one {α : Type} (f : α → List Value) (hf : ∀ a, ∀ u ∈ f a, u.oneCell' = true) (l : List α) : ∀ u ∈ l.flatMap f, u.oneCell' = true := by
  intro u hu
  obtain ⟨a, _, h⟩ := List.mem_flatMap.1 hu
  exact hf a u h
theorem cells_one (s : StepC) : ∀ u ∈ s.cells, u.oneCell' = true := by
  intro u hu
  simp only [StepC.cells, List.mem_cons, List.not_mem_nil, or_false] at hu
  rcases hu with rfl | rfl | rfl | rfl <;> rfl
/-- Steps that came in. -/
def Steps (w : World) (A : Option Addr) (n : Nat) (ss : List StepC) : Prop :=
  ss.length = n ∧ Rd w 4 A n (ss.flatMap StepC.cells) ∧ ∀ s ∈ ss, s.V ≤ 18446744073709551615 ∧ s.bs.length = s.bl ∧ s.bl ≤ s.bc ∧ (∀ b ∈ s.bs, b < 256) ∧ Rd w 1 s.B s.bl (NB s.bs)
/-- The bits of a step that was let in. -/
def StepC.bits (s : StepC) : List Bool := if s.Do = 0 then bitsL s.V s.N.toNat else (bitsL s.V s.N.toNat).reverse
def StepC.good (s : StepC) : Prop := rightE s.V s.N = 0
theorem StepC.bits_len (s : StepC) : s.bits.length = s.N.toNat := by
  unfold StepC.bits; split <;> simp [bitsL_len]
theorem good_len (l : List StepC) (h : ∀ s ∈ l, s.good) : (l.flatMap StepC.bits).length ≤ 32 * l.length := by
  induction l with
  | nil => simp
  | cons a r ih =>
    have h1 := ih (fun s hs => h s (by simp [hs]))
    obtain ⟨m, hm, hm32, _⟩ := rightE_zero (h a (by simp))
    rw [List.flatMap_cons, List.length_append, a.bits_len, hm, List.length_cons, Int.toNat_natCast]
    omega
theorem flat_take_succ {α : Type} (f : α → List Bool) (l : List α) (k : Nat) (h : k < l.length) : (l.take (k + 1)).flatMap f = (l.take k).flatMap f ++ f l[k] := by
  rw [List.take_add_one, List.getElem?_eq_getElem h, List.flatMap_append]
  simp
/-- What stands at the k-th place of the bits of all. -/
theorem flat_part {α : Type} (f : α → List Bool) (l : List α) (k : Nat) (h : k < l.length) (z : List Bool) :
    ∃ rest, l.flatMap f ++ z = (l.take k).flatMap f ++ (f l[k] ++ rest) := by
  refine ⟨(l.drop (k + 1)).flatMap f ++ z, ?_⟩
  rw [← List.append_assoc, ← List.append_assoc, ← flat_take_succ f l k h, ← List.flatMap_append, List.take_append_drop]
theorem turned_step (V m j : Nat) (hj : j < m) : V / 2 ^ (m - (j + 1)) = 2 * (V / 2 ^ (m - j)) + (decide (V / 2 ^ (m - 1 - j) % 2 = 1)).toNat := by
  have e1 : m - (j + 1) = m - 1 - j := by omega
  have e2 : m - j = (m - 1 - j) + 1 := by omega
  rw [e1, e2, Nat.pow_succ, ← Nat.div_div_eq_div_mul]
  rcases Nat.mod_two_eq_zero_or_one (V / 2 ^ (m - 1 - j)) with h | h <;> simp [h] <;> omega

set_option maxRecDepth 100000 in
theorem back_walk (A : Option Addr) (n c : Nat) (ss : List StepC) (w : World) (hn : n ≤ 9223372036854775807) (hS : Steps w A n ss) :
    Calls Try.prog 3 #[.slice A n c] w fun e w' => e = .returned (.bool true) ∧ Frm [] w w' := by
  obtain ⟨hsl, hSr, hSs⟩ := hS
  refine VC.calls (nt := 119) (res := #[.tmp 2]) Try.func3 rfl Try.ntmps3 Try.results3 rfl ?_
  refine VC.seq ?_
  refine VC.region ?_
  refine Ops.r (Run.asg rfl) rfl ?_
  refine Ops.nil ?_
  refine thenQ_n ?_
  refine VC.sub [(0, _)] (.cons rfl .nil) ?_
  refine VC.seq ?_
  refine VC.region ?_
  refine Ops.cl (Enters.fn evs.nil Try.call13) (new_spec _) rfl ?_
  rintro e w1 ⟨rfl, hW1, hf1, hs1⟩
  refine ⟨_, rfl, ?_⟩
  have hg0 : w.heap.size ≤ w.heap.size := Nat.le_refl _
  generalize hg : w.heap.size = g at hW1 hg0 ⊢
  refine Ops.r (Run.asg rfl) rfl ?_
  refine Ops.nil ?_
  refine thenQ_n ?_
  refine VC.sub [(0, _), (3, _)] (.cons rfl (.cons rfl .nil)) ?_
  refine VC.seq ?_
  refine VC.seq ?_
  refine VC.region ?_
  refine Ops.r (Run.mv rfl) rfl ?_
  refine Ops.r (Run.eqlNilP rfl rfl Try.underlying23) rfl ?_
  refine Ops.nil ?_
  refine thenQ_n ?_
  refine VC.sub [(0, _), (3, _), (19, _)] (.cons rfl (.cons rfl (.cons rfl .nil))) ?_
  refine VC.condF rfl (rfl) ?_
  refine VC.skip ?_
  refine thenQ_n ?_
  refine VC.sub [(0, _), (3, _)] (.cons rfl (.cons rfl .nil)) ?_
  refine VC.seq ?_
  refine VC.region ?_
  refine Ops.r (Run.asg rfl) rfl ?_
  refine Ops.nil ?_
  refine thenQ_n ?_
  refine VC.seq ?_
  refine VC.seq ?_
  refine VC.region ?_
  refine Ops.r (v := .int .i64 ((0 : Nat) : Int)) (Run.asg rfl) rfl ?_
  refine Ops.nil ?_
  refine thenQ_n ?_
  refine VC.block ?_
  refine VC.loop (σ := Nat × List StepC × Option Addr × Nat × Option Addr) (fun s => [(0, .slice A n c), (3, .pointer (some ⟨g, 0, none⟩)), (4, .slice s.2.2.1 s.2.1.length s.2.2.2.1), (5, .int .i64 s.1)]) (fun s wr => s.1 ≤ n ∧ s.1 ≤ 60 ∧ s.2.1.length ≤ s.1 ∧ (∀ x ∈ s.2.1, x.good) ∧ IsW wr g s.2.2.2.2 (s.2.1.flatMap StepC.bits) ∧ Own wr 28 4 s.2.2.1 s.2.1.length s.2.2.2.1 (s.2.1.flatMap StepC.cells) ∧ Frm [] w wr ∧ (∀ x ∈ ob s.2.2.1, w.heap.size ≤ x) ∧ ∀ x ∈ ob s.2.2.2.2, w.heap.size ≤ x) (fun s => 60 - s.1) (0, [], none, 0, none) (.cons rfl (.cons rfl (.cons rfl (.cons rfl .nil)))) ⟨by omega, by omega, by simp, by simp, hW1, Own.nil _ _ _, hf1, up_nil, up_nil⟩ ?_
  rintro ⟨k, kept, Ak, ck, Aw⟩ wr ⟨hkn, hk60, hkl, hkg, hW, hok, hfr, huk, huw⟩
  dsimp only at hkn hk60 hkl hkg hW hok hfr huk huw ⊢
  have hll := good_len kept hkg
  refine VC.seq ?_
  refine VC.seq ?_
  refine VC.split1 [(0, _), (3, _), (4, _), (5, _)] (.cons rfl (.cons rfl (.cons rfl (.cons rfl .nil)))) 27 (.bool (decide (k < n ∧ k < 60))) ?_ ?_
  · by_cases hs0 : k < n
    · skip
      refine VC.region ?_
      refine Ops.r (Run.mv rfl) rfl ?_
      refine Ops.r (Run.mv rfl) rfl ?_
      refine Ops.r (Run.lenS rfl Try.underlying22) rfl ?_
      refine Ops.r (Run.bin rfl rfl (Bin.lssN _ _)) rfl ?_
      refine Ops.r (Run.mv rfl) rfl ?_
      refine Ops.rg rfl (by first | rfl | assumption | decide | (simp; done) | (simp; omega) | (simp [*]; done)) (Run.mv rfl) rfl ?_
      refine Ops.rg rfl (by first | rfl | assumption | decide | (simp; done) | (simp; omega) | (simp [*]; done)) (Run.bin rfl rfl (Bin.lssN _ 60)) rfl ?_
      refine Ops.r (Run.pickT rfl rfl (by first | rfl | assumption | decide | (simp; done) | (simp; omega) | (simp [*]; done))) rfl ?_
      refine Ops.nil ?_
      refine thenQ_n ⟨(.cons (by rw [dand1 hs0]; rfl) (.cons rfl (.cons rfl (.cons rfl (.cons rfl .nil))))), rfl⟩
    · skip
      refine VC.region ?_
      refine Ops.r (Run.mv rfl) rfl ?_
      refine Ops.r (Run.mv rfl) rfl ?_
      refine Ops.r (Run.lenS rfl Try.underlying22) rfl ?_
      refine Ops.r (Run.bin rfl rfl (Bin.lssN _ _)) rfl ?_
      refine Ops.r (Run.mv rfl) rfl ?_
      refine Ops.sk rfl (by first | rfl | assumption | decide | (simp; done) | (simp; omega) | (simp [*]; done)) rfl ?_
      refine Ops.sk rfl (by first | rfl | assumption | decide | (simp; done) | (simp; omega) | (simp [*]; done)) rfl ?_
      refine Ops.r (Run.pickF rfl rfl (by first | rfl | assumption | decide | (simp; done) | (simp; omega) | (simp [*]; done))) rfl ?_
      refine Ops.nil ?_
      refine thenQ_n ⟨(.cons (by rw [dand0 hs0]; rfl) (.cons rfl (.cons rfl (.cons rfl (.cons rfl .nil))))), rfl⟩
  · intro Γ hΓ
    refine thenQ_n (VC.sub _ hΓ ?_)
    refine VC.condD rfl (fun hc2 => ?_) (fun hc2 => ?_)
    · skip
      obtain ⟨hkn', hk60'⟩ := hc2
      obtain ⟨ad, rfl, hel⟩ := (hSr.belowW hfr.below).elem hkn'
      have hks : k < ss.length := by omega
      rw [flat_get StepC.cells 4 (fun _ => rfl) ss k hks] at hel
      obtain ⟨hV, hbl, hbc, hbs, hrB⟩ := hSs _ (List.getElem_mem hks)
      generalize ss[k] = st at *
      refine VC.skip ?_
      refine thenQ_n ?_
      refine VC.sub [(0, _), (3, _), (4, _), (5, _)] (.cons rfl (.cons rfl (.cons rfl (.cons rfl .nil)))) ?_
      refine VC.seq ?_
      refine VC.block ?_
      refine VC.seq ?_
      refine VC.region ?_
      refine Ops.r (Run.mv rfl) rfl ?_
      refine Ops.r (Run.mv rfl) rfl ?_
      refine Ops.r (Run.indexS _ rfl rfl Try.underlying22 Try.sizeOf28 (by omega)) rfl ?_
      refine Ops.r (Run.loadA rfl Try.isAgg28 Try.sizeOf28 hel rfl) rfl ?_
      refine Ops.m (Does.alloc zero28) rfl ?_
      rintro _ w2 ⟨rfl, hF2⟩
      have hb2 := hF2.blk
      refine Ops.st (Acts.storeA rfl rfl Try.sizeOf28 hb2 rfl (by simpa [StepC.cells] using cells_one st)) ?_
      rintro w3 ⟨hb3, hf3, hs3⟩
      have hW3 := (hW.frm hF2.frm (by simp)).frm hf3 (fun x hx hx2 => by simp at hx2; have := hW.lt x hx; omega)
      have hok3 := (hok.frm hF2.frm (by simp)).frm hf3 (fun x hx hx2 => by simp at hx2; have := hok.lt x hx; omega)
      have hfr3 := (hfr.own hF2.frm (by simp)).own hf3 (up_one hfr.size)
      refine Ops.nil ?_
      refine thenQ_n ?_
      refine VC.sub [(0, _), (3, _), (4, _), (5, _), (6, _)] (.cons rfl (.cons rfl (.cons rfl (.cons rfl (.cons rfl .nil))))) ?_
      refine VC.seq ?_
      refine VC.region ?_
      refine Ops.r (v := .int .i64 ((0 : Nat) : Int)) (Run.asg rfl) rfl ?_
      refine Ops.nil ?_
      refine thenQ_n ?_
      refine VC.sub [(0, _), (3, _), (4, _), (5, _), (6, _)] (.cons rfl (.cons rfl (.cons rfl (.cons rfl (.cons rfl .nil))))) ?_
      refine VC.seq ?_
      refine VC.seq ?_
      refine VC.region ?_
      refine Ops.r (Run.fieldAddr rfl Try.underlying28 rfl Try.sizeOf3 (by decide)) rfl ?_
      refine Ops.r (Run.load rfl Try.isAgg3 (hb3.cell 0)) rfl ?_
      refine Ops.r (Run.bin rfl rfl (Bin.eql _ 0)) rfl ?_
      refine Ops.nil ?_
      refine thenQ_n ?_
      refine VC.sub [(0, _), (3, _), (4, _), (5, _), (6, _), (36, _)] (.cons rfl (.cons rfl (.cons rfl (.cons rfl (.cons rfl (.cons rfl .nil)))))) ?_
      refine VC.meet (σ := Option Addr) (fun s => [(0, .slice (some ad) n c), (3, .pointer (some ⟨g, 0, none⟩)), (4, .slice Ak kept.length ck), (5, .int .i64 k), (6, .pointer (some ⟨wr.heap.size, 0, none⟩)), (7, .int .i64 ((rightE st.V st.N : Nat) : Int))]) (fun s w9 => IsW w9 g s (if rightE st.V st.N = 0 then kept.flatMap StepC.bits ++ st.bits else kept.flatMap StepC.bits) ∧ Own w9 28 4 Ak kept.length ck (kept.flatMap StepC.cells) ∧ Blk w9 wr.heap.size 28 st.cells.toArray ∧ Frm [] w w9 ∧ ∀ x ∈ ob s, w.heap.size ≤ x) ?_ ?_
      · skip
        refine VC.condD rfl (fun hc3 => ?_) (fun hc3 => ?_)
        · skip
          refine VC.region ?_
          refine Ops.r (Run.mv rfl) rfl ?_
          refine Ops.r (Run.fieldAddr rfl Try.underlying28 rfl Try.sizeOf25 (by decide)) rfl ?_
          refine Ops.r (Run.load rfl Try.isAgg25 (hb3.cell 2)) rfl ?_
          refine Ops.r (Run.fieldAddr rfl Try.underlying28 rfl Try.sizeOf3 (by decide)) rfl ?_
          refine Ops.r (Run.load rfl Try.isAgg3 (hb3.cell 1)) rfl ?_
          refine Ops.cl (Enters.fn (evs.cons rfl (evs.cons rfl (evs.cons rfl evs.nil))) Try.call14) (put_any g st.V st.N Aw _ _ hV (by omega) hW3) rfl ?_
          rintro e w4 ⟨rfl, A4, hW4, hf4, hA4⟩
          refine ⟨_, rfl, ?_⟩
          refine Ops.r (Run.asg rfl) rfl ?_
          refine Ops.nil ?_
          refine thenQ_n ⟨A4, (.cons rfl (.cons rfl (.cons rfl (.cons rfl (.cons rfl (.cons rfl .nil)))))), ?_⟩
          have hbits : st.bits = bitsL st.V st.N.toNat := by unfold StepC.bits; rw [if_pos hc3]
          rw [hbits]
          refine ⟨hW4, hok3.frm hf4 (hok3.ne_w hW3 (by decide) (by decide)), hb3.frm hf4 ?_, hfr3.own hf4 (up_cons (by omega) huw), up_step huw hA4 hfr3.size⟩
          intro hx
          have := hW.lt _ hx
          omega
        · skip
          refine VC.region ?_
          refine Ops.r (Run.mv rfl) rfl ?_
          refine Ops.r (Run.fieldAddr rfl Try.underlying28 rfl Try.sizeOf25 (by decide)) rfl ?_
          refine Ops.r (Run.load rfl Try.isAgg25 (hb3.cell 2)) rfl ?_
          refine Ops.r (Run.fieldAddr rfl Try.underlying28 rfl Try.sizeOf3 (by decide)) rfl ?_
          refine Ops.r (Run.load rfl Try.isAgg3 (hb3.cell 1)) rfl ?_
          refine Ops.cl (Enters.fn (evs.cons rfl (evs.cons rfl (evs.cons rfl evs.nil))) Try.call15) (turned_any g st.V st.N Aw _ _ hV (by omega) hW3) rfl ?_
          rintro e w4 ⟨rfl, A4, hW4, hf4, hA4⟩
          refine ⟨_, rfl, ?_⟩
          refine Ops.r (Run.asg rfl) rfl ?_
          refine Ops.nil ?_
          refine thenQ_n ⟨A4, (.cons rfl (.cons rfl (.cons rfl (.cons rfl (.cons rfl (.cons rfl .nil)))))), ?_⟩
          have hbits : st.bits = (bitsL st.V st.N.toNat).reverse := by unfold StepC.bits; rw [if_neg hc3]
          rw [hbits]
          refine ⟨hW4, hok3.frm hf4 (hok3.ne_w hW3 (by decide) (by decide)), hb3.frm hf4 ?_, hfr3.own hf4 (up_cons (by omega) huw), up_step huw hA4 hfr3.size⟩
          intro hx
          have := hW.lt _ hx
          omega
      · skip
        rintro A5 w5 ⟨hW5, hok5, hb5, hfr5, hu5⟩ Γ hΓ
        refine thenQ_n (VC.sub _ hΓ ?_)
        refine VC.seq ?_
        refine VC.region ?_
        refine Ops.r (Run.mv rfl) rfl ?_
        refine Ops.r (Run.bin rfl rfl (Bin.eqlN _ 0)) rfl ?_
        refine Ops.nil ?_
        refine thenQ_n ?_
        refine VC.sub [(0, _), (3, _), (4, _), (5, _), (6, _), (50, _)] (.cons rfl (.cons rfl (.cons rfl (.cons rfl (.cons rfl (.cons rfl .nil)))))) ?_
        refine VC.condD rfl (fun hc4 => ?_) (fun hc4 => ?_)
        · skip
          refine VC.region ?_
          refine Ops.r (Run.mv rfl) rfl ?_
          refine Ops.r (Run.loadA rfl Try.isAgg28 Try.sizeOf28 hb5.cells rfl) rfl ?_
          refine Ops.m (Does.buildS1 rfl Try.underlying22 Try.sizeOf28 zero28 (by decide) (by decide) rfl rfl) rfl ?_
          rintro _ w6 ⟨rfl, hF6⟩
          have hok6 := hok5.frm hF6.frm (by simp)
          have hrd6 : Rd w6 4 (some ⟨w5.heap.size, 0, none⟩) 1 st.cells := by
            have := Rd.of_blk (n := 1) (size := 4) hF6.blk rfl
            simpa [Value.cells] using this
          refine Ops.m (Does.app rfl rfl Try.underlying22 (info28) rfl (by decide) hok6 hrd6 (cells_one st) (by omega) (by omega)) rfl ?_
          rintro _ w7 ⟨A7, c7, rfl, hok7, hf7, hob7⟩
          refine Ops.r (Run.asg rfl) rfl ?_
          refine Ops.nil ?_
          refine blockQ_n (thenQ_n ?_)
          refine VC.sub [(0, _), (3, _), (4, _), (5, _)] (.cons rfl (.cons rfl (.cons rfl (.cons rfl .nil)))) ?_
          refine VC.region ?_
          refine Ops.r (Run.mv rfl) rfl ?_
          refine Ops.r (Run.bin rfl rfl (Bin.add_i64 _ 1 (by omega))) rfl ?_
          refine Ops.r (Run.asg rfl) rfl ?_
          refine Ops.nil ?_
          refine thenQ_n ⟨(k + 1, kept ++ [st], A7, c7, A5), (.cons rfl (.cons rfl (.cons (by rw [List.length_append]; rfl) (.cons rfl .nil)))), ?_, ?_⟩
          · skip
            have hgd : st.good := hc4
            have hkg' : ∀ x ∈ kept ++ [st], x.good := by
              intro x hx
              rcases List.mem_append.1 hx with h | h
              · exact hkg x h
              · simp at h; subst h; exact hgd
            rw [if_pos hc4] at hW5
            refine ⟨hkn', by dsimp only; omega, by dsimp only; simp; omega, hkg', ?_, ?_, ?_, ?_, hu5⟩
            · rw [List.flatMap_append]
              have hW6 := hW5.frm hF6.frm (by simp)
              simpa using hW6.frm hf7 (mem_swap (hok6.ne_w hW6 (by decide) (by decide)))
            · rw [List.flatMap_append, List.length_append]
              simpa using hok7
            · exact (hfr5.own hF6.frm (by simp)).own hf7 huk
            · exact up_app huk hob7 (Nat.le_trans hfr5.size hF6.frm.size)
          · skip
            first | omega | (dsimp only; omega)
        · skip
          refine VC.skip ?_
          refine blockQ_n (thenQ_n ?_)
          refine VC.sub [(0, _), (3, _), (4, _), (5, _)] (.cons rfl (.cons rfl (.cons rfl (.cons rfl .nil)))) ?_
          refine VC.region ?_
          refine Ops.r (Run.mv rfl) rfl ?_
          refine Ops.r (Run.bin rfl rfl (Bin.add_i64 _ 1 (by omega))) rfl ?_
          refine Ops.r (Run.asg rfl) rfl ?_
          refine Ops.nil ?_
          refine thenQ_n ⟨(k + 1, kept, Ak, ck, A5), (.cons rfl (.cons rfl (.cons rfl (.cons rfl .nil)))), ?_, ?_⟩
          · skip
            rw [if_neg hc4] at hW5
            exact ⟨hkn', by dsimp only; omega, by dsimp only; omega, hkg, hW5, hok5, hfr5, huk, hu5⟩
          · skip
            first | omega | (dsimp only; omega)
    · skip
      refine VC.exit ?_
      refine thenQ_x (thenQ_x (blockQ_x ?_))
      refine thenQ_n ?_
      refine VC.sub [(3, _), (4, _)] (.cons rfl (.cons rfl .nil)) ?_
      refine VC.seq ?_
      refine VC.region ?_
      refine Ops.r (Run.mv rfl) rfl ?_
      refine Ops.cl (Enters.fn (evs.cons rfl evs.nil) Try.call17) (bytes_spec g Aw _ _ (by omega) hW) rfl ?_
      rintro e w4 ⟨B4, c4, rfl, ho4, hf4, hB4⟩
      refine ⟨_, rfl, ?_⟩
      have hpl := pack_len (kept.flatMap StepC.bits)
      refine Ops.cl (Enters.fn (evs.cons rfl evs.nil) Try.call16) (read_spec B4 c4 _ _ (by omega) ho4.rd) rfl ?_
      rintro e w5 ⟨gr, Ar, rfl, hR5, hf5, hA5⟩
      refine ⟨_, rfl, ?_⟩
      have hok5 := (hok.frm hf4 (by simp)).frm hf5 (by simp)
      have hfr5 := (hfr.own hf4 (by simp)).own hf5 (by simp)
      have hgr : w.heap.size ≤ gr := Nat.le_trans (hfr.own hf4 (by simp)).size (hA5 gr (by simp))
      have hofb := ofB_pack (kept.flatMap StepC.bits)
      have hwl := whole_len (kept.flatMap StepC.bits)
      have hpb := pack_lt (kept.flatMap StepC.bits)
      generalize hbs : pack (kept.flatMap StepC.bits) = bs at *
      refine Ops.r (Run.asg rfl) rfl ?_
      refine Ops.nil ?_
      refine thenQ_n ?_
      refine VC.sub [(4, _), (8, _)] (.cons rfl (.cons rfl .nil)) ?_
      refine VC.seq ?_
      refine VC.seq ?_
      refine VC.region ?_
      refine Ops.r (Run.mv rfl) rfl ?_
      refine Ops.r (Run.eqlNilP rfl rfl Try.underlying31) rfl ?_
      refine Ops.nil ?_
      refine thenQ_n ?_
      refine VC.sub [(4, _), (8, _), (59, _)] (.cons rfl (.cons rfl (.cons rfl .nil))) ?_
      refine VC.condF rfl (rfl) ?_
      refine VC.skip ?_
      refine thenQ_n ?_
      refine VC.sub [(4, _), (8, _)] (.cons rfl (.cons rfl .nil)) ?_
      refine VC.seq ?_
      refine VC.seq ?_
      refine VC.region ?_
      refine Ops.r (v := .int .i64 ((0 : Nat) : Int)) (Run.asg rfl) rfl ?_
      refine Ops.nil ?_
      refine thenQ_n ?_
      refine VC.block ?_
      refine VC.loop (σ := Nat) (fun s => [(4, .slice Ak kept.length ck), (8, .pointer (some ⟨gr, 0, none⟩)), (9, .int .i64 s)]) (fun s wr => s ≤ kept.length ∧ IsR wr gr Ar bs ((kept.take s).flatMap StepC.bits).length ∧ Own wr 28 4 Ak kept.length ck (kept.flatMap StepC.cells) ∧ Frm [] w wr) (fun s => kept.length - s) 0 (.cons rfl (.cons rfl (.cons rfl .nil))) ⟨by omega, by simpa using hR5, hok5, hfr5⟩ ?_
      rintro j wj ⟨hj, hRj, hokj, hfrj⟩
      refine VC.seq ?_
      refine VC.seq ?_
      refine VC.region ?_
      refine Ops.r (Run.mv rfl) rfl ?_
      refine Ops.r (Run.mv rfl) rfl ?_
      refine Ops.r (Run.lenS rfl Try.underlying22) rfl ?_
      refine Ops.r (Run.bin rfl rfl (Bin.lssN _ _)) rfl ?_
      refine Ops.nil ?_
      refine thenQ_n ?_
      refine VC.sub [(4, _), (8, _), (9, _), (63, _)] (.cons rfl (.cons rfl (.cons rfl (.cons rfl .nil)))) ?_
      refine VC.condD rfl (fun hc6 => ?_) (fun hc6 => ?_)
      · skip
        obtain ⟨ad, rfl, hel⟩ := hokj.rd.elem hc6
        rw [flat_get StepC.cells 4 (fun _ => rfl) kept j hc6] at hel
        obtain ⟨rest, hpart⟩ := flat_part StepC.bits kept j hc6 (List.replicate ((8 - (kept.flatMap StepC.bits).length % 8) % 8) false)
        have hsucc := flat_take_succ StepC.bits kept j hc6
        obtain ⟨m, hm, hm32, hVm⟩ := rightE_zero (hkg _ (List.getElem_mem hc6))
        have hpow : 2 ^ m ≤ 2 ^ 32 := Nat.pow_le_pow_right (by omega) hm32
        have hbl := StepC.bits_len kept[j]
        rw [hm, Int.toNat_natCast] at hbl
        have hofb' : ofB bs = (kept.take j).flatMap StepC.bits ++ (kept[j].bits ++ rest) := by rw [hofb, whole, hpart]
        have hlenb := ofB_len bs
        rw [hofb', List.length_append, List.length_append, hbl] at hlenb
        have hpl2 : bs.length ≤ 1000 := by omega
        generalize hp : ((kept.take j).flatMap StepC.bits).length = p at *
        have hdrop : (ofB bs).drop p = kept[j].bits ++ rest := by rw [hofb', List.drop_append, List.drop_eq_nil_of_le (by omega), List.nil_append, hp, Nat.sub_self, List.drop_zero]
        have hbitsd : kept[j].bits = if kept[j].Do = 0 then bitsL kept[j].V m else (bitsL kept[j].V m).reverse := by unfold StepC.bits; rw [hm, Int.toNat_natCast]
        generalize kept[j] = st at *
        refine VC.skip ?_
        refine thenQ_n ?_
        refine VC.sub [(4, _), (8, _), (9, _)] (.cons rfl (.cons rfl (.cons rfl .nil))) ?_
        refine VC.seq ?_
        refine VC.block ?_
        refine VC.seq ?_
        refine VC.region ?_
        refine Ops.r (Run.mv rfl) rfl ?_
        refine Ops.r (Run.mv rfl) rfl ?_
        refine Ops.r (Run.indexS _ rfl rfl Try.underlying22 Try.sizeOf28 (by omega)) rfl ?_
        refine Ops.r (Run.loadA rfl Try.isAgg28 Try.sizeOf28 hel rfl) rfl ?_
        refine Ops.m (Does.alloc zero28) rfl ?_
        rintro _ w2 ⟨rfl, hF2⟩
        have hb2 := hF2.blk
        refine Ops.st (Acts.storeA rfl rfl Try.sizeOf28 hb2 rfl (by simpa [StepC.cells] using cells_one st)) ?_
        rintro w3 ⟨hb3, hf3, hs3⟩
        have hR3 := (hRj.frm hF2.frm (by simp)).frm hf3 (fun x hx hx2 => by simp at hx2; have := hRj.lt x hx; omega)
        have hok3 := (hokj.frm hF2.frm (by simp)).frm hf3 (fun x hx hx2 => by simp at hx2; have := hokj.lt x hx; omega)
        have hfr3 := (hfrj.own hF2.frm (by simp)).own hf3 (up_one hfrj.size)
        have hgrlt : gr < wj.heap.size := hRj.lt gr (by simp)
        refine Ops.nil ?_
        refine thenQ_n ?_
        refine VC.sub [(4, _), (8, _), (9, _), (10, _)] (.cons rfl (.cons rfl (.cons rfl (.cons rfl .nil)))) ?_
        refine VC.seq ?_
        refine VC.seq ?_
        refine VC.region ?_
        refine Ops.r (Run.fieldAddr rfl Try.underlying28 rfl Try.sizeOf3 (by decide)) rfl ?_
        refine Ops.r (Run.load rfl Try.isAgg3 (hb3.cell 0)) rfl ?_
        refine Ops.r (Run.bin rfl rfl (Bin.eql _ 0)) rfl ?_
        refine Ops.nil ?_
        refine thenQ_n ?_
        refine VC.sub [(4, _), (8, _), (9, _), (10, _), (72, _)] (.cons rfl (.cons rfl (.cons rfl (.cons rfl (.cons rfl .nil))))) ?_
        refine VC.condD rfl (fun hc7 => ?_) (fun hc7 => ?_)
        · skip
          have hN : (StepC.cells st)[1]? = some (.int .i64 ((m : Nat) : Int)) := by simp [StepC.cells, hm]
          rw [if_pos hc7] at hbitsd
          have htk : ((ofB bs).drop p).take m = bitsL st.V m := by rw [hdrop, List.take_append_of_le_length (by omega), List.take_of_length_le (by omega), hbitsd]
          refine VC.seq ?_
          refine VC.seq ?_
          refine VC.region ?_
          refine Ops.r (Run.mv rfl) rfl ?_
          refine Ops.r (Run.fieldAddr rfl Try.underlying28 rfl Try.sizeOf3 (by decide)) rfl ?_
          refine Ops.r (Run.load rfl Try.isAgg3 ((hb3.cell 1).trans (by simpa using hN))) rfl ?_
          refine Ops.cl (Enters.fn (evs.cons rfl (evs.cons rfl evs.nil)) Try.call18) (take_ok gr m p Ar bs _ (by omega) (by omega) hpb hR3 hm32 (by omega)) rfl ?_
          rintro e w4 ⟨rfl, hR4, hf4⟩
          refine ⟨_, rfl, ?_⟩
          rw [htk, num_bitsL m _ hVm]
          refine Ops.r (Run.mv rfl) rfl ?_
          refine Ops.r (Run.extract rfl rfl) rfl ?_
          refine Ops.r (Run.extract rfl rfl) rfl ?_
          refine Ops.r (Run.asg rfl) rfl ?_
          refine Ops.r (Run.asg rfl) rfl ?_
          refine Ops.nil ?_
          refine thenQ_n ?_
          refine VC.sub [(4, _), (8, _), (9, _), (10, _), (11, _), (12, _)] (.cons rfl (.cons rfl (.cons rfl (.cons rfl (.cons rfl (.cons rfl .nil)))))) ?_
          refine VC.seq ?_
          refine VC.region ?_
          refine Ops.r (Run.mv rfl) rfl ?_
          refine Ops.r (Run.fieldAddr rfl Try.underlying28 rfl Try.sizeOf25 (by decide)) rfl ?_
          refine Ops.r (Run.load rfl Try.isAgg25 ((hb3.frm hf4 (by simp; omega)).cell 2)) rfl ?_
          refine Ops.r (Run.bin rfl rfl (Bin.neqN _ _)) rfl ?_
          refine Ops.r (Run.mv rfl) rfl ?_
          refine Ops.rg rfl (by simp) (Run.mv rfl) rfl ?_
          refine Ops.rg rfl (by simp) (Run.bin rfl rfl (Bin.neqN _ 0)) rfl ?_
          refine Ops.r (Run.pickF rfl rfl (by simp)) rfl ?_
          refine Ops.nil ?_
          refine thenQ_n ?_
          refine VC.sub [(4, _), (8, _), (9, _), (87, _)] (.cons rfl (.cons rfl (.cons rfl (.cons rfl .nil)))) ?_
          refine VC.condF rfl (by simp) ?_
          refine VC.skip ?_
          refine thenQ_n ?_
          refine VC.sub [(4, _), (8, _), (9, _)] (.cons rfl (.cons rfl (.cons rfl .nil))) ?_
          refine VC.exit ?_
          refine thenQ_x (blockQ_x ?_)
          refine thenQ_n ?_
          refine VC.region ?_
          refine Ops.r (Run.mv rfl) rfl ?_
          refine Ops.r (Run.bin rfl rfl (Bin.add_i64 _ 1 (by omega))) rfl ?_
          refine Ops.r (Run.asg rfl) rfl ?_
          refine Ops.nil ?_
          refine thenQ_n ⟨(j + 1), (.cons rfl (.cons rfl (.cons rfl .nil))), ?_, ?_⟩
          · skip
            refine ⟨hc6, ?_, hok3.frm hf4 (hok3.ne_r hR3 (by decide)), hfr3.own hf4 (up_one hgr)⟩
            rw [hsucc, List.length_append, hp, hbl]
            exact hR4
          · skip
            first | omega | (dsimp only; omega)
        · skip
          refine VC.skip ?_
          refine thenQ_n ?_
          refine VC.sub [(4, _), (8, _), (9, _), (10, _)] (.cons rfl (.cons rfl (.cons rfl (.cons rfl .nil)))) ?_
          refine VC.seq ?_
          refine VC.region ?_
          refine Ops.r (v := .int .u64 ((0 : Nat) : Int)) (Run.asg rfl) rfl ?_
          refine Ops.nil ?_
          refine thenQ_n ?_
          refine VC.seq ?_
          refine VC.seq ?_
          refine VC.region ?_
          refine Ops.r (v := .int .i64 ((0 : Nat) : Int)) (Run.asg rfl) rfl ?_
          refine Ops.nil ?_
          refine thenQ_n ?_
          refine VC.block ?_
          have hN : (StepC.cells st)[1]? = some (.int .i64 ((m : Nat) : Int)) := by simp [StepC.cells, hm]
          rw [if_neg hc7] at hbitsd
          refine VC.loop (σ := Nat) (fun s => [(4, .slice (some ad) kept.length ck), (8, .pointer (some ⟨gr, 0, none⟩)), (9, .int .i64 j), (10, .pointer (some ⟨wj.heap.size, 0, none⟩)), (13, .int .u64 ((st.V / 2 ^ (m - s) : Nat) : Int)), (14, .int .i64 s)]) (fun s wr => s ≤ m ∧ IsR wr gr Ar bs (p + s) ∧ Own wr 28 4 (some ad) kept.length ck (kept.flatMap StepC.cells) ∧ Blk wr wj.heap.size 28 st.cells.toArray ∧ Frm [] w wr) (fun s => m - s) 0 (.cons rfl (.cons rfl (.cons rfl (.cons rfl (.cons (by rw [show st.V / 2 ^ (m - 0) = 0 from Nat.div_eq_of_lt hVm]; rfl) (.cons rfl .nil)))))) ⟨by omega, hR3, hok3, hb3, hfr3⟩ ?_
          rintro q w4 ⟨hq, hR4, hok4, hb4, hfr4⟩
          refine VC.seq ?_
          refine VC.seq ?_
          refine VC.region ?_
          refine Ops.r (Run.mv rfl) rfl ?_
          refine Ops.r (Run.fieldAddr rfl Try.underlying28 rfl Try.sizeOf3 (by decide)) rfl ?_
          refine Ops.r (Run.load rfl Try.isAgg3 ((hb4.cell 1).trans (by simpa using hN))) rfl ?_
          refine Ops.r (Run.bin rfl rfl (Bin.lssN _ _)) rfl ?_
          refine Ops.nil ?_
          refine thenQ_n ?_
          refine VC.sub [(4, _), (8, _), (9, _), (10, _), (13, _), (14, _), (91, _)] (.cons rfl (.cons rfl (.cons rfl (.cons rfl (.cons rfl (.cons rfl (.cons rfl .nil))))))) ?_
          refine VC.condD rfl (fun hc9 => ?_) (fun hc9 => ?_)
          · skip
            have hbq : (st.bits ++ rest)[q]? = some (decide (st.V / 2 ^ (m - 1 - q) % 2 = 1)) := by
              rw [List.getElem?_append_left (by omega), hbitsd, List.getElem?_reverse (by rw [bitsL_len]; omega), bitsL_len, bitsL_get _ _ _ (by omega)]
            have hone : num (((ofB bs).drop (p + q)).take 1) = (decide (st.V / 2 ^ (m - 1 - q) % 2 = 1)).toNat := by
              have e : (ofB bs).drop (p + q) = (st.bits ++ rest).drop q := by rw [← List.drop_drop, hdrop]
              have e2 := take1 _ _ _ hbq
              rw [e, e2]
              simp [num]
            have hts := turned_step st.V m q hc9
            have hVq : st.V / 2 ^ (m - q) ≤ st.V := Nat.div_le_self _ _
            have hbt : (decide (st.V / 2 ^ (m - 1 - q) % 2 = 1)).toNat ≤ 1 := Bool.toNat_le _
            refine VC.skip ?_
            refine thenQ_n ?_
            refine VC.sub [(4, _), (8, _), (9, _), (10, _), (13, _), (14, _)] (.cons rfl (.cons rfl (.cons rfl (.cons rfl (.cons rfl (.cons rfl .nil)))))) ?_
            refine VC.seq ?_
            refine VC.block ?_
            refine VC.seq ?_
            refine VC.region ?_
            refine Ops.r (Run.mv rfl) rfl ?_
            refine Ops.cl (Enters.fn (evs.cons rfl (evs.cons rfl evs.nil)) Try.call18) (take_ok gr 1 (p + q) Ar bs _ (by omega) (by omega) hpb hR4 (by omega) (by omega)) rfl ?_
            rintro e w5 ⟨rfl, hR5', hf5'⟩
            refine ⟨_, rfl, ?_⟩
            rw [hone]
            refine Ops.r (Run.mv rfl) rfl ?_
            refine Ops.r (Run.extract rfl rfl) rfl ?_
            refine Ops.r (Run.extract rfl rfl) rfl ?_
            refine Ops.r (Run.asg rfl) rfl ?_
            refine Ops.r (Run.asg rfl) rfl ?_
            refine Ops.nil ?_
            refine thenQ_n ?_
            refine VC.sub [(4, _), (8, _), (9, _), (10, _), (13, _), (14, _), (15, _), (16, _)] (.cons rfl (.cons rfl (.cons rfl (.cons rfl (.cons rfl (.cons rfl (.cons rfl (.cons rfl .nil)))))))) ?_
            refine VC.seq ?_
            refine VC.seq ?_
            refine VC.region ?_
            refine Ops.r (Run.mv rfl) rfl ?_
            refine Ops.r (Run.bin rfl rfl (Bin.gtrN _ 1)) rfl ?_
            refine Ops.r (Run.mv rfl) rfl ?_
            refine Ops.rg rfl (by simp; omega) (Run.mv rfl) rfl ?_
            refine Ops.rg rfl (by simp; omega) (Run.bin rfl rfl (Bin.neqN _ 0)) rfl ?_
            refine Ops.r (Run.pickF rfl rfl (by simp; omega)) rfl ?_
            refine Ops.nil ?_
            refine thenQ_n ?_
            refine VC.sub [(4, _), (8, _), (9, _), (10, _), (13, _), (14, _), (15, _), (104, _)] (.cons rfl (.cons rfl (.cons rfl (.cons rfl (.cons rfl (.cons rfl (.cons rfl (.cons rfl .nil)))))))) ?_
            refine VC.condF rfl (by simp) ?_
            refine VC.skip ?_
            refine thenQ_n ?_
            refine VC.sub [(4, _), (8, _), (9, _), (10, _), (13, _), (14, _), (15, _)] (.cons rfl (.cons rfl (.cons rfl (.cons rfl (.cons rfl (.cons rfl (.cons rfl .nil))))))) ?_
            refine VC.region ?_
            refine Ops.r (Run.mv rfl) rfl ?_
            refine Ops.r (Run.bin rfl rfl (Bin.mul_u64 2 _ (by omega))) rfl ?_
            refine Ops.r (Run.mv rfl) rfl ?_
            refine Ops.r (Run.bin rfl rfl (Bin.add_u64 _ _ (by omega))) rfl ?_
            refine Ops.r (Run.asg rfl) rfl ?_
            refine Ops.nil ?_
            refine blockQ_n (thenQ_n ?_)
            refine VC.sub [(4, _), (8, _), (9, _), (10, _), (13, _), (14, _)] (.cons rfl (.cons rfl (.cons rfl (.cons rfl (.cons rfl (.cons rfl .nil)))))) ?_
            refine VC.region ?_
            refine Ops.r (Run.mv rfl) rfl ?_
            refine Ops.r (Run.bin rfl rfl (Bin.add_i64 _ 1 (by omega))) rfl ?_
            refine Ops.r (Run.asg rfl) rfl ?_
            refine Ops.nil ?_
            refine thenQ_n ⟨(q + 1), (.cons rfl (.cons rfl (.cons rfl (.cons rfl (.cons (by rw [hts]; rfl) (.cons rfl .nil)))))), ?_, ?_⟩
            · skip
              refine ⟨hc9, hR5', hok4.frm hf5' (hok4.ne_r hR4 (by decide)), hb4.frm hf5' (by simp; omega), hfr4.own hf5' (up_one hgr)⟩
            · skip
              first | omega | (dsimp only; omega)
          · skip
            have hqm : q = m := by omega
            subst hqm
            rw [show st.V / 2 ^ (q - q) = st.V by simp]
            refine VC.exit ?_
            refine thenQ_x (thenQ_x (blockQ_x ?_))
            refine thenQ_n ?_
            refine VC.sub [(4, _), (8, _), (9, _), (10, _), (13, _)] (.cons rfl (.cons rfl (.cons rfl (.cons rfl (.cons rfl .nil))))) ?_
            refine VC.seq ?_
            refine VC.region ?_
            refine Ops.r (Run.mv rfl) rfl ?_
            refine Ops.r (Run.fieldAddr rfl Try.underlying28 rfl Try.sizeOf25 (by decide)) rfl ?_
            refine Ops.r (Run.load rfl Try.isAgg25 (hb4.cell 2)) rfl ?_
            refine Ops.r (Run.bin rfl rfl (Bin.neqN _ _)) rfl ?_
            refine Ops.nil ?_
            refine thenQ_n ?_
            refine VC.sub [(4, _), (8, _), (9, _), (112, _)] (.cons rfl (.cons rfl (.cons rfl (.cons rfl .nil)))) ?_
            refine VC.condF rfl (by simp) ?_
            refine VC.skip ?_
            refine blockQ_n (thenQ_n ?_)
            refine VC.sub [(4, _), (8, _), (9, _)] (.cons rfl (.cons rfl (.cons rfl .nil))) ?_
            refine VC.region ?_
            refine Ops.r (Run.mv rfl) rfl ?_
            refine Ops.r (Run.bin rfl rfl (Bin.add_i64 _ 1 (by omega))) rfl ?_
            refine Ops.r (Run.asg rfl) rfl ?_
            refine Ops.nil ?_
            refine thenQ_n ⟨(j + 1), (.cons rfl (.cons rfl (.cons rfl .nil))), ?_, ?_⟩
            · skip
              refine ⟨hc6, ?_, hok4, hfr4⟩
              rw [hsucc, List.length_append, hp, hbl]
              exact hR4
            · skip
              first | omega | (dsimp only; omega)
      · skip
        have hjk : j = kept.length := by omega
        subst hjk
        rw [List.take_length] at hRj
        refine VC.exit ?_
        refine thenQ_x (thenQ_x (blockQ_x ?_))
        refine thenQ_n ?_
        refine VC.sub [(8, _)] (.cons rfl .nil) ?_
        refine VC.seq ?_
        refine VC.region ?_
        refine Ops.r (Run.mv rfl) rfl ?_
        refine Ops.cl (Enters.fn (evs.cons rfl evs.nil) Try.call19) (left_spec gr _ Ar bs _ (by omega) (by omega) hRj) rfl ?_
        rintro e w6 ⟨rfl, hd6⟩
        refine ⟨_, rfl, ?_⟩
        refine Ops.r (Run.bin rfl rfl (Bin.lssN _ 8)) rfl ?_
        refine Ops.r (Run.mv rfl) rfl ?_
        refine Ops.clg rfl (decide_eq_true (by omega)) (Enters.fn evs.nil Try.call20) (awake08_spec _) rfl ?_
        rintro e w7 ⟨rfl, hf7⟩
        refine ⟨_, rfl, ?_⟩
        refine Ops.r (Run.pickT rfl rfl (decide_eq_true (by omega))) rfl ?_
        refine Ops.r (Run.asg rfl) rfl ?_
        refine Ops.nil ?_
        refine thenQ_n ?_
        refine VC.sub [(2, _)] (.cons rfl .nil) ?_
        refine VC.ret ?_
        refine end1 rfl ?_
        exact ⟨rfl, (hfrj.drawn hd6).own hf7 (by simp)⟩

section
open Go.ChangeShapes Go.WideShapes Go.Deep
theorem open_steps {H : Type} {enc : TypeId × Value → H} {w : World} {base : Nat} {spare : Nat → Bool} {held : Bool} {fuel len cap : Nat} {a : Option Addr} {x : DataW H × List MemPlace}
    (h : DataW.trod enc Try.prog w base spare held fuel 22 [.slice a len cap] = some x) : ∃ ss, Steps w a len ss ∧ len ≤ 9223372036854775807 := by
  obtain ⟨ls, hll, hlc, hcm, hrd, hels⟩ := rd_structs Try.underlying22 Try.underlying28 (by kernel_rfl) (by kernel_rfl) (by decide) h
  have key : ∀ i, i < len → ∃ s : StepC, ls[i]? = some s.cells ∧ s.V ≤ 18446744073709551615 ∧ s.bs.length = s.bl ∧ s.bl ≤ s.bc ∧ (∀ b ∈ s.bs, b < 256) ∧ Rd w 1 s.B s.bl (NB s.bs) := by
    intro i hi
    obtain ⟨hl4, hf⟩ := hels _ (List.getElem_mem (show i < ls.length by omega))
    have hli : ls[i]? = some ls[i] := List.getElem?_eq_getElem (by omega)
    generalize ls[i] = l at *
    match l, hl4 with
    | [c0, c1, c2, c3], _ =>
      obtain ⟨v0, y0, m0, e0, t0⟩ := hf 0 _ rfl
      obtain ⟨v1, y1, m1, e1, t1⟩ := hf 1 _ rfl
      obtain ⟨v2, y2, m2, e2, t2⟩ := hf 2 _ rfl
      obtain ⟨v3, y3, m3, e3, t3⟩ := hf 3 _ rfl
      simp only [List.getElem?_cons_zero, List.getElem?_cons_succ, Option.some.injEq] at e0 e1 e2 e3
      subst e0 e1 e2 e3
      obtain ⟨n0, h0, _, _⟩ := DataW.trod_int Try.underlying3 t0
      obtain ⟨n1, h1, _, _⟩ := DataW.trod_int Try.underlying3 t1
      obtain ⟨n2, h2, _, w2⟩ := DataW.trod_int Try.underlying25 t2
      simp only [List.cons.injEq, and_true] at h0 h1 h2
      subst h0 h1 h2
      have b2 := bounds_u64 w2
      obtain ⟨B, bl, bc, hB⟩ : ∃ B bl bc, c3 = .slice B bl bc := by
        rcases DataW.trod_slice Try.underlying26 t3 with ⟨h, _⟩ | ⟨a', l', c', _, _, _, _, h, _⟩ <;> (simp only [List.cons.injEq, and_true] at h; exact ⟨_, _, _, h⟩)
      subst hB
      obtain ⟨bs, hbl, hbc, _, hb, hrb⟩ := rd_bytes Try.underlying26 Try.underlying5 (by kernel_rfl) t3
      refine ⟨⟨n0, n1, n2.toNat, B, bl, bc, bs⟩, ?_, ?_, hbl, hbc, hb, hrb⟩
      · rw [hli]
        simp only [StepC.cells]
        rw [Int.toNat_of_nonneg b2.1]
      · show n2.toNat ≤ _
        omega
  obtain ⟨ss, hsl, hq⟩ := list_choose len key
  refine ⟨ss, ⟨hsl, ?_, fun s hs => ?_⟩, by omega⟩
  · have e : ls.flatMap id = ss.flatMap StepC.cells := by
      have : ls = ss.map StepC.cells := by
        apply List.ext_getElem?
        intro i
        rw [List.getElem?_map]
        by_cases hi : i < len
        · have := (hq i _ (List.getElem?_eq_getElem (show i < ss.length by omega))).1
          rw [this, List.getElem?_eq_getElem (show i < ss.length by omega)]
          rfl
        · rw [List.getElem?_eq_none (by omega), List.getElem?_eq_none (by omega)]
          rfl
      rw [this, List.flatMap_map]
      rfl
    rw [← e]
    exact hrd
  · obtain ⟨i, hi, hsi⟩ := List.getElem_of_mem hs
    exact (hq i s (by rw [List.getElem?_eq_getElem hi, hsi])).2
end

end Go.Proofs.Ytebaojedpnnliaa
