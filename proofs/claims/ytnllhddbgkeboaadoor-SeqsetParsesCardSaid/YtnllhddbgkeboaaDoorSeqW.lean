/-
  Spans told: by the code, and by the answers.
-/
import Derived.Test.YtnllhddbgkeboaaDoorSeqV
namespace Go.Proofs.YtnllhddbgkeboaaDoor
open Go.RowKit Go.Sort

def wordQ (x : Sp) : Tx := signQ x.1 ++ (if x.1 = x.2 then [] else 58 :: signQ x.2)
def BadT (x : Sp) : Prop := x.1 < 0 ∨ x.2 < 0 ∨ 2147483647 < x.1 ∨ 2147483647 < x.2
instance (x : Sp) : Decidable (BadT x) := by unfold BadT; infer_instance
def jnQ (l : List Sp) : Tx := Lib.join (l.map wordQ) [44]
def tellQ (l : List Sp) : Tx := if 64 < l.length ∨ ∃ x ∈ l, BadT x then [] else jnQ l
theorem tellQ_bad {l : List Sp} (h : 64 < l.length ∨ ∃ x ∈ l, BadT x) : tellQ l = [] := by unfold tellQ; rw [if_pos h]
theorem tellQ_good {l : List Sp} (h : l.length ≤ 64) (hg : ∀ x ∈ l, ¬ BadT x) : tellQ l = jnQ l := by
  unfold tellQ
  rw [if_neg]
  rintro (h1 | ⟨x, hx, hb⟩)
  · omega
  · exact hg x hx hb
theorem dec_len_pow : ∀ (k n : Nat), n < 10 ^ (k + 1) → (Lib.decDigits n).length ≤ k + 1
  | 0, n, h => by rw [dec_lt (by simpa using h)]; simp
  | k + 1, n, h => by
    by_cases hn : n < 10
    · rw [dec_lt hn]; simp
    · rw [dec_ge hn, dec_lt (Nat.mod_lt _ (by decide)), List.length_append]
      have := dec_len_pow k (n / 10) (by rw [Nat.pow_succ] at h; omega)
      simp
      omega
theorem sign_len {n : Int} (h0 : 0 ≤ n) (h : n ≤ 2147483647) : (signQ n).length ≤ 10 := by
  unfold signQ
  split
  · simp
  · unfold Lib.itoa
    rw [if_neg (by omega)]
    exact dec_len_pow 9 n.toNat (by omega)
theorem word_len {x : Sp} (h : ¬ BadT x) : (wordQ x).length ≤ 21 := by
  unfold BadT at h
  unfold wordQ
  have h1 := sign_len (n := x.1) (by omega) (by omega)
  have h2 := sign_len (n := x.2) (by omega) (by omega)
  rw [List.length_append]
  split <;> simp <;> omega
theorem join_snoc (a : List Tx) (x : Tx) : Lib.join (a ++ [x]) [44] = (if a = [] then [] else Lib.join a [44] ++ [44]) ++ x := by
  induction a with
  | nil => simp [Lib.join]
  | cons y r ih =>
    cases r with
    | nil => simp [Lib.join]
    | cons z r =>
      have e : Lib.join (y :: z :: r) [44] = y ++ [44] ++ Lib.join (z :: r) [44] := by simp [Lib.join]
      have e2 : Lib.join (y :: z :: r ++ [x]) [44] = y ++ [44] ++ Lib.join (z :: r ++ [x]) [44] := by simp [Lib.join]
      rw [e2, ih, if_neg (by simp), if_neg (by simp), e]
      simp
theorem jn_snoc (l : List Sp) (x : Sp) : jnQ (l ++ [x]) = (if l = [] then [] else jnQ l ++ [44]) ++ wordQ x := by
  unfold jnQ
  rw [List.map_append, List.map_singleton, join_snoc]
  congr 1
  cases l <;> simp
theorem jn_len (l : List Sp) (h : ∀ x ∈ l, ¬ BadT x) : ∀ i, i ≤ l.length → (jnQ (l.take i)).length ≤ i * 22
  | 0, _ => by simp [jnQ, Lib.join]
  | i + 1, hi => by
    have h1 := jn_len l h i (by omega)
    have h2 := word_len (h _ (List.getElem_mem (show i < l.length by omega)))
    rw [take_snoc (by omega), jn_snoc, List.length_append]
    split
    · simp; omega
    · rw [List.length_append]; simp; omega
theorem joinT_spec (A : Option Addr) (c : Nat) (ws : List Tx) (w : World) (h : Own w 9 1 A ws.length c (SB ws)) (hn : ws.length ≤ 1000000) (hl : (Lib.join ws [44]).length ≤ 1000000) :
    Calls Tryd.prog 58 #[.slice A ws.length c, encStr [44]] w fun e w' => e = .returned (encStr (Lib.join ws [44])) ∧ Frm [] w w' := by
  have hmm : (ws.map fun t : Tx => (⟨t.toArray⟩ : ByteArray)).map (·.data.toList) = ws := by simp [List.map_map, Function.comp_def]
  cases A with
  | none =>
    have h0 : ws = [] := by
      rcases h.cases with ⟨_, h1, _⟩ | ⟨g, cur, h1, _⟩
      · exact List.eq_nil_of_length_eq_zero h1
      · cases h1
    subst h0
    refine (Tryd.strings_Join_none none c ⟨#[44]⟩ w).mono fun e w' ⟨he, hw⟩ => ?_
    subst hw
    exact ⟨he, Frm.refl _ _⟩
  | some ad =>
    obtain ⟨g, rfl⟩ : ∃ g, ad = ⟨g, 0, none⟩ := by
      rcases h.cases with ⟨h1, _⟩ | ⟨g, cur, h1, _⟩
      · cases h1
      · cases h1; exact ⟨g, rfl⟩
    have hc : Calls Tryd.prog 58 #[.slice (some ⟨g, 0, none⟩) (ws.map fun t : Tx => (⟨t.toArray⟩ : ByteArray)).length c, .string ⟨#[44]⟩] w _ := Tryd.strings_Join g 0 c (ws.map fun t : Tx => (⟨t.toArray⟩ : ByteArray)) ⟨#[44]⟩ w (fun j x hx => by
      rw [List.getElem?_map, Option.map_eq_some_iff] at hx
      obtain ⟨t, ht, rfl⟩ := hx
      obtain ⟨hj, rfl⟩ := List.getElem?_eq_some_iff.1 ht
      have := SB_cell h.rd hj
      by_cases hj0 : j = 0
      · subst hj0; simpa [Addr.add, encStr] using this
      · simpa [Addr.add, encStr, hj0] using this) h.holds.2 (by simp; omega) (by simpa using h.le) (by rw [hmm]; exact Nat.le_trans hl (by decide))
    rw [List.length_map] at hc
    refine hc.mono fun e w' ⟨he, hw⟩ => ?_
    rw [hmm] at he
    exact ⟨he, Frm.of_below hw⟩

set_option maxRecDepth 100000 in
theorem tell_spec (A : Option Addr) (c : Nat) (l : List Sp) (w : World) (ht : Tab w) (hl : Rd w 2 A l.length (SC l)) :
    Calls Tryd.prog 30 #[.slice A l.length c] w fun e w' => e = .returned (encStr (tellQ l)) ∧ Frm [] w w' := by
  refine VC.calls (nt := 55) (res := #[.tmp 2]) Tryd.func30 rfl Tryd.ntmps30 Tryd.results30 rfl ?_
  refine VC.seq ?_
  refine VC.region ?_
  refine Ops.r (Run.asg rfl) rfl ?_
  refine Ops.nil ?_
  refine thenQ_n ?_
  refine VC.sub [(0, _)] (.cons rfl .nil) ?_
  refine VC.seq ?_
  refine VC.seq ?_
  refine VC.region ?_
  refine Ops.r (Run.mv rfl) rfl ?_
  refine Ops.r (Run.lenS rfl Tryd.underlying37) rfl ?_
  refine Ops.r (Run.bin rfl rfl (Bin.gtrN _ 64)) rfl ?_
  refine Ops.nil ?_
  refine thenQ_n ?_
  refine VC.sub [(0, _), (9, _)] (.cons rfl (.cons rfl .nil)) ?_
  refine VC.condD rfl (fun hc1 => ?_) (fun hc1 => ?_)
  · skip
    refine VC.seq ?_
    refine VC.region ?_
    refine Ops.r (Run.asg rfl) rfl ?_
    refine Ops.nil ?_
    refine thenQ_n ?_
    refine VC.sub [(2, _)] (.cons rfl .nil) ?_
    refine VC.ret ?_
    refine thenQ_r (end1 rfl ?_)
    exact ⟨by rw [tellQ_bad (.inl (by omega))], Frm.refl _ _⟩
  · skip
    have hn : l.length ≤ 64 := by omega
    refine VC.skip ?_
    refine thenQ_n ?_
    refine VC.sub [(0, _)] (.cons rfl .nil) ?_
    refine VC.seq ?_
    refine VC.region ?_
    refine Ops.r (Run.asg rfl) rfl ?_
    refine Ops.nil ?_
    refine thenQ_n ?_
    refine VC.seq ?_
    refine VC.seq ?_
    refine VC.region ?_
    refine Ops.r (Run.mv rfl) rfl ?_
    refine Ops.r (Run.lenS rfl Tryd.underlying37) rfl ?_
    refine Ops.r (v := .int .i64 ((0 : Nat) : Int)) (Run.mv rfl) rfl ?_
    refine Ops.nil ?_
    refine thenQ_n ?_
    refine VC.sub [(3, _), (10, _), (11, _), (12, _)] (.cons rfl (.cons rfl (.cons rfl (.cons rfl .nil)))) ?_
    refine VC.block ?_
    refine VC.loop (σ := Nat × Option Addr × Nat) (fun s => [(3, .slice s.2.1 ((l.take s.1).map wordQ).length s.2.2), (10, .slice A l.length c), (11, .int .i64 ((l.length : Nat) : Int)), (12, .int .i64 ((s.1 : Nat) : Int))]) (fun s wr => s.1 ≤ l.length ∧ (∀ x ∈ l.take s.1, ¬ BadT x) ∧ Own wr 9 1 s.2.1 ((l.take s.1).map wordQ).length s.2.2 (SB ((l.take s.1).map wordQ)) ∧ (∀ x ∈ ob s.2.1, w.heap.size ≤ x) ∧ Frm [] w wr) (fun s => l.length - s.1) (0, none, 0) (.cons rfl (.cons rfl (.cons rfl (.cons rfl .nil)))) ⟨by omega, by simp, Own.nil _ _ _, by simp [ob], Frm.refl _ _⟩ ?_
    rintro ⟨i, B, d⟩ wr ⟨hi, hgd, hB, hub, hfr⟩
    dsimp only at hi hgd hB hub ⊢
    have hml : ((l.take i).map wordQ).length = i := by simp; omega
    refine VC.seq ?_
    refine VC.region ?_
    refine Ops.r (Run.bin rfl rfl (Bin.lssN _ _)) rfl ?_
    refine Ops.nil ?_
    refine thenQ_n ?_
    refine VC.seq ?_
    refine VC.condD rfl (fun hc2 => ?_) (fun hc2 => ?_)
    · skip
      obtain ⟨ad, rfl, hcell⟩ := SC_at (hl.frm hfr (by simp)) hc2
      have hxm := List.getElem_mem hc2
      have htk := take_snoc hc2
      generalize hx : l[i] = x at *
      obtain ⟨xa, xb⟩ := x
      have hbt : BadT (xa, xb) ↔ (xa < 0 ∨ xb < 0 ∨ 2147483647 < xa ∨ 2147483647 < xb) := Iff.rfl
      refine VC.skip ?_
      refine thenQ_n ?_
      refine VC.sub [(3, _), (10, _), (11, _), (12, _)] (.cons rfl (.cons rfl (.cons rfl (.cons rfl .nil)))) ?_
      refine VC.seq ?_
      refine VC.block ?_
      refine VC.seq ?_
      refine VC.region ?_
      refine Ops.r (Run.indexS i rfl rfl Tryd.underlying37 Tryd.sizeOf46 hc2) rfl ?_
      refine Ops.r (Run.loadA rfl Tryd.isAgg46 Tryd.sizeOf46 hcell (by first | rfl | (simp; done))) rfl ?_
      refine Ops.m (Does.alloc zero46) rfl ?_
      rintro _ w2 ⟨rfl, hF2⟩
      have hb5 := hF2.blk
      have K := hfr.trans hF2.frm (by simp)
      have hBl0 := hB.lt
      have hB := hB.frm hF2.frm (by simp)
      have hs5 := hfr.size
      have hlt5 : ∀ x ∈ ob B, x ≠ wr.heap.size := fun x hx h => by have := hBl0 x hx; omega
      generalize hg5 : wr.heap.size = g5 at hb5 hs5 hlt5 ⊢
      refine Ops.st (Acts.storeA rfl rfl Tryd.sizeOf46 hb5 rfl (SC1_one (xa, xb))) ?_
      rintro w3 ⟨hb5n, hf3, _⟩
      have hb5 : Blk w3 g5 46 #[.int .i64 xa, .int .i64 xb] := hb5n
      have K := Frm.own K hf3 (fun y hy => by simp at hy; omega)
      have hB := hB.frm hf3 (fun y hy => by have := hlt5 y hy; simpa using this)
      refine Ops.nil ?_
      refine thenQ_n ?_
      refine VC.sub [(3, _), (5, _), (10, _), (11, _), (12, _)] (.cons rfl (.cons rfl (.cons rfl (.cons rfl (.cons rfl .nil))))) ?_
      refine VC.seq ?_
      refine VC.seq ?_
      refine VC.split1 [(3, _), (5, _), (10, _), (11, _), (12, _)] (.cons rfl (.cons rfl (.cons rfl (.cons rfl (.cons rfl .nil))))) 33 (.bool (decide (BadT (xa, xb)))) ?_ ?_
      · refine VC.region ?_
        refine Ops.r (Run.fieldAddr rfl Tryd.underlying46 rfl Tryd.sizeOf3 (by decide)) rfl ?_
        refine Ops.r (Run.load rfl Tryd.isAgg3 (hb5.cell 0)) rfl ?_
        refine Ops.r (Run.bin rfl rfl (Bin.lss _ 0)) rfl ?_
        by_cases hs18 : xa < 0
        · skip
          refine Ops.r (Run.mv rfl) rfl ?_
          refine Ops.sk rfl (by first | rfl | assumption | exact decide_eq_true (by assumption) | exact decide_eq_false (by assumption) | decide | (simp; done) | (simp; omega) | (simp [*]; done)) rfl ?_
          refine Ops.sk rfl (by first | rfl | assumption | exact decide_eq_true (by assumption) | exact decide_eq_false (by assumption) | decide | (simp; done) | (simp; omega) | (simp [*]; done)) rfl ?_
          refine Ops.sk rfl (by first | rfl | assumption | exact decide_eq_true (by assumption) | exact decide_eq_false (by assumption) | decide | (simp; done) | (simp; omega) | (simp [*]; done)) rfl ?_
          refine Ops.r (Run.pickT rfl rfl (by first | rfl | assumption | exact decide_eq_true (by assumption) | exact decide_eq_false (by assumption) | decide | (simp; done) | (simp; omega) | (simp [*]; done))) rfl ?_
          refine Ops.r (Run.mv rfl) rfl ?_
          refine Ops.sk rfl (by first | rfl | assumption | exact decide_eq_true (by assumption) | exact decide_eq_false (by assumption) | decide | (simp; done) | (simp; omega) | (simp [*]; done)) rfl ?_
          refine Ops.sk rfl (by first | rfl | assumption | exact decide_eq_true (by assumption) | exact decide_eq_false (by assumption) | decide | (simp; done) | (simp; omega) | (simp [*]; done)) rfl ?_
          refine Ops.sk rfl (by first | rfl | assumption | exact decide_eq_true (by assumption) | exact decide_eq_false (by assumption) | decide | (simp; done) | (simp; omega) | (simp [*]; done)) rfl ?_
          refine Ops.r (Run.pickT rfl rfl (by first | rfl | assumption | exact decide_eq_true (by assumption) | exact decide_eq_false (by assumption) | decide | (simp; done) | (simp; omega) | (simp [*]; done))) rfl ?_
          refine Ops.r (Run.mv rfl) rfl ?_
          refine Ops.sk rfl (by first | rfl | assumption | exact decide_eq_true (by assumption) | exact decide_eq_false (by assumption) | decide | (simp; done) | (simp; omega) | (simp [*]; done)) rfl ?_
          refine Ops.sk rfl (by first | rfl | assumption | exact decide_eq_true (by assumption) | exact decide_eq_false (by assumption) | decide | (simp; done) | (simp; omega) | (simp [*]; done)) rfl ?_
          refine Ops.sk rfl (by first | rfl | assumption | exact decide_eq_true (by assumption) | exact decide_eq_false (by assumption) | decide | (simp; done) | (simp; omega) | (simp [*]; done)) rfl ?_
          refine Ops.r (Run.pickT rfl rfl (by first | rfl | assumption | exact decide_eq_true (by assumption) | exact decide_eq_false (by assumption) | decide | (simp; done) | (simp; omega) | (simp [*]; done))) rfl ?_
          refine Ops.nil ?_
          refine thenQ_n ⟨(.cons (congrArg (fun b => some (Value.bool b)) (Eq.symm (by first | exact decide_eq_true (hbt.2 (by omega)) | exact decide_eq_decide.2 (hbt.trans (by omega))))) (.cons rfl (.cons rfl (.cons rfl (.cons rfl (.cons rfl .nil)))))), rfl⟩
        · skip
          refine Ops.r (Run.mv rfl) rfl ?_
          refine Ops.rg rfl (by first | rfl | assumption | exact decide_eq_true (by assumption) | exact decide_eq_false (by assumption) | decide | (simp; done) | (simp; omega) | (simp [*]; done)) (Run.fieldAddr rfl Tryd.underlying46 rfl Tryd.sizeOf3 (by decide)) rfl ?_
          refine Ops.rg rfl (by first | rfl | assumption | exact decide_eq_true (by assumption) | exact decide_eq_false (by assumption) | decide | (simp; done) | (simp; omega) | (simp [*]; done)) (Run.load rfl Tryd.isAgg3 (hb5.cell 1)) rfl ?_
          refine Ops.rg rfl (by first | rfl | assumption | exact decide_eq_true (by assumption) | exact decide_eq_false (by assumption) | decide | (simp; done) | (simp; omega) | (simp [*]; done)) (Run.bin rfl rfl (Bin.lss _ 0)) rfl ?_
          by_cases hs22 : xb < 0
          · skip
            refine Ops.r (Run.pickF rfl rfl (by first | rfl | assumption | exact decide_eq_true (by assumption) | exact decide_eq_false (by assumption) | decide | (simp; done) | (simp; omega) | (simp [*]; done))) rfl ?_
            refine Ops.r (Run.mv rfl) rfl ?_
            refine Ops.sk rfl (by first | rfl | assumption | exact decide_eq_true (by assumption) | exact decide_eq_false (by assumption) | decide | (simp; done) | (simp; omega) | (simp [*]; done)) rfl ?_
            refine Ops.sk rfl (by first | rfl | assumption | exact decide_eq_true (by assumption) | exact decide_eq_false (by assumption) | decide | (simp; done) | (simp; omega) | (simp [*]; done)) rfl ?_
            refine Ops.sk rfl (by first | rfl | assumption | exact decide_eq_true (by assumption) | exact decide_eq_false (by assumption) | decide | (simp; done) | (simp; omega) | (simp [*]; done)) rfl ?_
            refine Ops.r (Run.pickT rfl rfl (by first | rfl | assumption | exact decide_eq_true (by assumption) | exact decide_eq_false (by assumption) | decide | (simp; done) | (simp; omega) | (simp [*]; done))) rfl ?_
            refine Ops.r (Run.mv rfl) rfl ?_
            refine Ops.sk rfl (by first | rfl | assumption | exact decide_eq_true (by assumption) | exact decide_eq_false (by assumption) | decide | (simp; done) | (simp; omega) | (simp [*]; done)) rfl ?_
            refine Ops.sk rfl (by first | rfl | assumption | exact decide_eq_true (by assumption) | exact decide_eq_false (by assumption) | decide | (simp; done) | (simp; omega) | (simp [*]; done)) rfl ?_
            refine Ops.sk rfl (by first | rfl | assumption | exact decide_eq_true (by assumption) | exact decide_eq_false (by assumption) | decide | (simp; done) | (simp; omega) | (simp [*]; done)) rfl ?_
            refine Ops.r (Run.pickT rfl rfl (by first | rfl | assumption | exact decide_eq_true (by assumption) | exact decide_eq_false (by assumption) | decide | (simp; done) | (simp; omega) | (simp [*]; done))) rfl ?_
            refine Ops.nil ?_
            refine thenQ_n ⟨(.cons (congrArg (fun b => some (Value.bool b)) (Eq.symm (by first | exact decide_eq_true (hbt.2 (by omega)) | exact decide_eq_decide.2 (hbt.trans (by omega))))) (.cons rfl (.cons rfl (.cons rfl (.cons rfl (.cons rfl .nil)))))), rfl⟩
          · skip
            refine Ops.r (Run.pickF rfl rfl (by first | rfl | assumption | exact decide_eq_true (by assumption) | exact decide_eq_false (by assumption) | decide | (simp; done) | (simp; omega) | (simp [*]; done))) rfl ?_
            refine Ops.r (Run.mv rfl) rfl ?_
            refine Ops.rg rfl (by first | rfl | assumption | exact decide_eq_true (by assumption) | exact decide_eq_false (by assumption) | decide | (simp; done) | (simp; omega) | (simp [*]; done)) (Run.fieldAddr rfl Tryd.underlying46 rfl Tryd.sizeOf3 (by decide)) rfl ?_
            refine Ops.rg rfl (by first | rfl | assumption | exact decide_eq_true (by assumption) | exact decide_eq_false (by assumption) | decide | (simp; done) | (simp; omega) | (simp [*]; done)) (Run.load rfl Tryd.isAgg3 (hb5.cell 0)) rfl ?_
            refine Ops.rg rfl (by first | rfl | assumption | exact decide_eq_true (by assumption) | exact decide_eq_false (by assumption) | decide | (simp; done) | (simp; omega) | (simp [*]; done)) (Run.bin rfl rfl (Bin.gtr _ 2147483647)) rfl ?_
            by_cases hs27 : 2147483647 < xa
            · skip
              refine Ops.r (Run.pickF rfl rfl (by first | rfl | assumption | exact decide_eq_true (by assumption) | exact decide_eq_false (by assumption) | decide | (simp; done) | (simp; omega) | (simp [*]; done))) rfl ?_
              refine Ops.r (Run.mv rfl) rfl ?_
              refine Ops.sk rfl (by first | rfl | assumption | exact decide_eq_true (by assumption) | exact decide_eq_false (by assumption) | decide | (simp; done) | (simp; omega) | (simp [*]; done)) rfl ?_
              refine Ops.sk rfl (by first | rfl | assumption | exact decide_eq_true (by assumption) | exact decide_eq_false (by assumption) | decide | (simp; done) | (simp; omega) | (simp [*]; done)) rfl ?_
              refine Ops.sk rfl (by first | rfl | assumption | exact decide_eq_true (by assumption) | exact decide_eq_false (by assumption) | decide | (simp; done) | (simp; omega) | (simp [*]; done)) rfl ?_
              refine Ops.r (Run.pickT rfl rfl (by first | rfl | assumption | exact decide_eq_true (by assumption) | exact decide_eq_false (by assumption) | decide | (simp; done) | (simp; omega) | (simp [*]; done))) rfl ?_
              refine Ops.nil ?_
              refine thenQ_n ⟨(.cons (congrArg (fun b => some (Value.bool b)) (Eq.symm (by first | exact decide_eq_true (hbt.2 (by omega)) | exact decide_eq_decide.2 (hbt.trans (by omega))))) (.cons rfl (.cons rfl (.cons rfl (.cons rfl (.cons rfl .nil)))))), rfl⟩
            · skip
              refine Ops.r (Run.pickF rfl rfl (by first | rfl | assumption | exact decide_eq_true (by assumption) | exact decide_eq_false (by assumption) | decide | (simp; done) | (simp; omega) | (simp [*]; done))) rfl ?_
              refine Ops.r (Run.mv rfl) rfl ?_
              refine Ops.rg rfl (by first | rfl | assumption | exact decide_eq_true (by assumption) | exact decide_eq_false (by assumption) | decide | (simp; done) | (simp; omega) | (simp [*]; done)) (Run.fieldAddr rfl Tryd.underlying46 rfl Tryd.sizeOf3 (by decide)) rfl ?_
              refine Ops.rg rfl (by first | rfl | assumption | exact decide_eq_true (by assumption) | exact decide_eq_false (by assumption) | decide | (simp; done) | (simp; omega) | (simp [*]; done)) (Run.load rfl Tryd.isAgg3 (hb5.cell 1)) rfl ?_
              refine Ops.rg rfl (by first | rfl | assumption | exact decide_eq_true (by assumption) | exact decide_eq_false (by assumption) | decide | (simp; done) | (simp; omega) | (simp [*]; done)) (Run.bin rfl rfl (Bin.gtr _ 2147483647)) rfl ?_
              by_cases hs32 : 2147483647 < xb
              · skip
                refine Ops.r (Run.pickF rfl rfl (by first | rfl | assumption | exact decide_eq_true (by assumption) | exact decide_eq_false (by assumption) | decide | (simp; done) | (simp; omega) | (simp [*]; done))) rfl ?_
                refine Ops.nil ?_
                refine thenQ_n ⟨(.cons (congrArg (fun b => some (Value.bool b)) (Eq.symm (by first | exact decide_eq_true (hbt.2 (by omega)) | exact decide_eq_decide.2 (hbt.trans (by omega))))) (.cons rfl (.cons rfl (.cons rfl (.cons rfl (.cons rfl .nil)))))), rfl⟩
              · skip
                refine Ops.r (Run.pickF rfl rfl (by first | rfl | assumption | exact decide_eq_true (by assumption) | exact decide_eq_false (by assumption) | decide | (simp; done) | (simp; omega) | (simp [*]; done))) rfl ?_
                refine Ops.nil ?_
                refine thenQ_n ⟨(.cons (congrArg (fun b => some (Value.bool b)) (Eq.symm (by first | exact decide_eq_true (hbt.2 (by omega)) | exact decide_eq_decide.2 (hbt.trans (by omega))))) (.cons rfl (.cons rfl (.cons rfl (.cons rfl (.cons rfl .nil)))))), rfl⟩
      · intro Γ hΓ
        refine thenQ_n (VC.sub _ hΓ ?_)
        refine VC.condD rfl (fun hc3 => ?_) (fun hc3 => ?_)
        · skip
          refine VC.seq ?_
          refine VC.region ?_
          refine Ops.r (Run.asg rfl) rfl ?_
          refine Ops.nil ?_
          refine thenQ_n ?_
          refine VC.sub [(2, _)] (.cons rfl .nil) ?_
          refine VC.ret ?_
          refine thenQ_r (blockQ_r (thenQ_r (thenQ_r (blockQ_r (thenQ_r (end1 rfl ?_))))))
          exact ⟨by rw [tellQ_bad (.inr ⟨_, hxm, hc3⟩)], K⟩
        · skip
          have hgx : ¬ (xa < 0 ∨ xb < 0 ∨ 2147483647 < xa ∨ 2147483647 < xb) := fun h => hc3 (hbt.2 h)
          have hsa := sign_len (n := xa) (by omega) (by omega)
          have hsb := sign_len (n := xb) (by omega) (by omega)
          have h581 : ([58] : Tx).length = 1 := rfl
          have h582 : ([58] ++ signQ xb).length = (signQ xb).length + 1 := by simp
          refine VC.skip ?_
          refine thenQ_n ?_
          refine VC.sub [(3, _), (5, _), (10, _), (11, _), (12, _)] (.cons rfl (.cons rfl (.cons rfl (.cons rfl (.cons rfl .nil))))) ?_
          refine VC.seq ?_
          refine VC.region ?_
          refine Ops.r (Run.fieldAddr rfl Tryd.underlying46 rfl Tryd.sizeOf3 (by decide)) rfl ?_
          refine Ops.r (Run.load rfl Tryd.isAgg3 (hb5.cell 0)) rfl ?_
          refine Ops.cl (Enters.fn (evs.cons rfl evs.nil) Tryd.call57) (sign_spec xa _ (ht.frm K) (by omega) (by omega)) rfl ?_
          rintro e w4 ⟨rfl, hf4⟩
          refine ⟨_, rfl, ?_⟩
          have K := K.trans hf4 (by simp)
          have hB := hB.frm hf4 (by simp)
          have hb5 := hb5.frm hf4 (by simp)
          refine Ops.r (Run.asg rfl) rfl ?_
          refine Ops.nil ?_
          refine thenQ_n ?_
          refine VC.sub [(3, _), (5, _), (6, _), (10, _), (11, _), (12, _)] (.cons rfl (.cons rfl (.cons rfl (.cons rfl (.cons rfl (.cons rfl .nil)))))) ?_
          refine VC.seq ?_
          refine VC.seq ?_
          refine VC.region ?_
          refine Ops.r (Run.fieldAddr rfl Tryd.underlying46 rfl Tryd.sizeOf3 (by decide)) rfl ?_
          refine Ops.r (Run.load rfl Tryd.isAgg3 (hb5.cell 1)) rfl ?_
          refine Ops.r (Run.fieldAddr rfl Tryd.underlying46 rfl Tryd.sizeOf3 (by decide)) rfl ?_
          refine Ops.r (Run.load rfl Tryd.isAgg3 (hb5.cell 0)) rfl ?_
          refine Ops.r (Run.bin rfl rfl (Bin.neq _ _)) rfl ?_
          refine Ops.nil ?_
          refine thenQ_n ?_
          refine VC.sub [(3, _), (5, _), (6, _), (10, _), (11, _), (12, _), (41, _)] (.cons rfl (.cons rfl (.cons rfl (.cons rfl (.cons rfl (.cons rfl (.cons rfl .nil))))))) ?_
          refine VC.meet (σ := Unit) (fun s => [(3, .slice B ((l.take i).map wordQ).length d), (6, encStr (wordQ (xa, xb))), (10, .slice (some ad) l.length c), (11, .int .i64 ((l.length : Nat) : Int)), (12, .int .i64 ((i : Nat) : Int))]) (fun s wr => Own wr 9 1 B ((l.take i).map wordQ).length d (SB ((l.take i).map wordQ)) ∧ Frm [] w wr) ?_ ?_
          · skip
            refine VC.condD rfl (fun hc4 => ?_) (fun hc4 => ?_)
            · skip
              refine VC.region ?_
              refine Ops.r (Run.mv rfl) rfl ?_
              refine Ops.r (Run.fieldAddr rfl Tryd.underlying46 rfl Tryd.sizeOf3 (by decide)) rfl ?_
              refine Ops.r (Run.load rfl Tryd.isAgg3 (hb5.cell 1)) rfl ?_
              refine Ops.cl (Enters.fn (evs.cons rfl evs.nil) Tryd.call57) (sign_spec xb _ (ht.frm K) (by omega) (by omega)) rfl ?_
              rintro e w5 ⟨rfl, hf5⟩
              refine ⟨_, rfl, ?_⟩
              have K := K.trans hf5 (by simp)
              have hB := hB.frm hf5 (by simp)
              refine Ops.r (Run.addT rfl rfl (by omega)) rfl ?_
              refine Ops.r (Run.addT rfl rfl (by omega)) rfl ?_
              refine Ops.r (Run.asg rfl) rfl ?_
              refine Ops.nil ?_
              refine thenQ_n ⟨(), (.cons rfl (.cons (by rw [show wordQ (xa, xb) = signQ xa ++ 58 :: signQ xb by unfold wordQ; rw [if_neg (fun h => hc4 h.symm)]]; rfl) (.cons rfl (.cons rfl (.cons rfl .nil))))), ?_⟩
              exact ⟨hB, K⟩
            · skip
              refine VC.skip ?_
              refine thenQ_n ⟨(), (.cons rfl (.cons (by rw [show wordQ (xa, xb) = signQ xa by unfold wordQ; rw [if_pos (show xa = xb by omega)]; simp]; rfl) (.cons rfl (.cons rfl (.cons rfl .nil))))), ?_⟩
              exact ⟨hB, K⟩
          · skip
            rintro _ w6 ⟨hB, K⟩ Γ hΓ
            refine thenQ_n (VC.sub _ hΓ ?_)
            refine VC.region ?_
            refine Ops.r (Run.mv rfl) rfl ?_
            refine Ops.r (Run.mv rfl) rfl ?_
            refine Ops.m (Does.buildS1 rfl Tryd.underlying65 Tryd.sizeOf9 zero9 (by decide) (by decide) rfl rfl) rfl ?_
            rintro _ w7 ⟨rfl, hF7⟩
            have K := K.trans hF7.frm (by simp)
            refine Ops.m (Does.app rfl rfl Tryd.underlying65 (info9) rfl (by decide) (hB.frm hF7.frm (by simp)) (hrdT hF7) (SB_one _) (by omega) (by omega)) rfl ?_
            rintro _ w8 ⟨B8, d8, rfl, hB8, hf8, hob8⟩
            have e9 : (l.take i).map wordQ ++ [wordQ (xa, xb)] = (l.take (i + 1)).map wordQ := by rw [htk]; simp
            have e8 : ((l.take i).map wordQ).length + 1 = ((l.take (i + 1)).map wordQ).length := by rw [htk]; simp
            rw [← SB_append, e8, e9] at hB8
            have hub8 := up_app hub hob8 K.size
            have K := Frm.own K hf8 hub
            refine Ops.r (Run.asg rfl) rfl ?_
            refine Ops.nil ?_
            refine blockQ_n (thenQ_n ?_)
            refine VC.sub [(3, _), (10, _), (11, _), (12, _)] (.cons rfl (.cons rfl (.cons rfl (.cons rfl .nil)))) ?_
            refine VC.region ?_
            refine Ops.r (Run.bin rfl rfl (Bin.add_i64 _ 1 (by omega))) rfl ?_
            refine Ops.r (Run.mv rfl) rfl ?_
            refine Ops.nil ?_
            refine thenQ_n ⟨(i + 1, B8, d8), (.cons (by rw [← e8]; rfl) (.cons rfl (.cons rfl (.cons rfl .nil)))), ?_, ?_⟩
            · skip
              refine ⟨hc2, fun y hy => ?_, hB8, hub8, K⟩
              rw [htk] at hy
              rcases List.mem_append.1 hy with h | h
              · exact hgd y h
              · simp only [List.mem_singleton] at h; subst h; exact hc3
            · skip
              first | omega | (dsimp only; omega)
    · skip
      have him : i = l.length := by omega
      subst him
      rw [List.take_length] at *
      refine VC.exit ?_
      refine thenQ_x (thenQ_x (blockQ_x ?_))
      refine thenQ_n ?_
      refine VC.sub [(3, _)] (.cons rfl .nil) ?_
      refine VC.seq ?_
      refine VC.region ?_
      refine Ops.r (Run.mv rfl) rfl ?_
      refine Ops.cl (Enters.fn (evs.cons rfl (evs.cons rfl evs.nil)) Tryd.call58) (joinT_spec B d (l.map wordQ) _ hB (by simp; omega) (by have := jn_len l hgd l.length (Nat.le_refl _); rw [List.take_length] at this; unfold jnQ at this; omega)) rfl ?_
      rintro e w9 ⟨rfl, hf9⟩
      refine ⟨_, rfl, ?_⟩
      refine Ops.r (Run.asg rfl) rfl ?_
      refine Ops.nil ?_
      refine thenQ_n ?_
      refine VC.sub [(2, _)] (.cons rfl .nil) ?_
      refine VC.ret ?_
      refine end1 rfl ?_
      exact ⟨by rw [tellQ_good hn hgd]; rfl, hfr.trans hf9 (by simp)⟩

end Go.Proofs.YtnllhddbgkeboaaDoor
