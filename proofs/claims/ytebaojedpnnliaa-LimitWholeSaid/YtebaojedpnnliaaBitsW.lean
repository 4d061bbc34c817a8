/-
  The walks of package bits: what each function of the program does to a writer or a reader, as lists of bits and octets.
-/
import Derived.Test.YtebaojedpnnliaaTy
import Derived.Test.YtebaojedpnnliaaOpen
import Derived.Test.YtebaojedpnnliaaBitsP
namespace Go.Proofs.Ytebaojedpnnliaa
open Go.RowKit

theorem NB_one (l : List Nat) : ∀ u ∈ NB l, u.oneCell' = true := by
  intro u hu
  obtain ⟨b, _, rfl⟩ := List.mem_map.1 hu
  rfl
theorem NB_len (l : List Nat) : (NB l).length = l.length := by simp [NB]
theorem NB_append (a b : List Nat) : NB (a ++ b) = NB a ++ NB b := by simp [NB]
theorem NB_set (a : List Nat) (i x : Nat) : NB (a.set i x) = (NB a).set i (.int .u8 (x : Int)) := by simp [NB, List.map_set]
theorem NB_get (a : List Nat) (i : Nat) (h : i < a.length) : (NB a)[i]? = some (.int .u8 ((a.getD i 0 : Nat) : Int)) := by
  simp [NB, h]

/-- A writer at block g, its octets in A: the bits l came. -/
def IsW (w : World) (g : Nat) (A : Option Addr) (l : List Bool) : Prop :=
  ∃ c, Blk w g 82 #[.slice A (pack l).length c, .int .i64 ((l.length : Nat) : Int)] ∧ Own w 5 1 A (pack l).length c (NB (pack l))
theorem IsW.frm {w w' : World} {g : Nat} {A : Option Addr} {l : List Bool} {S : List Nat} (h : IsW w g A l) (k : Frm S w w') (hS : ∀ x ∈ g :: ob A, x ∉ S) : IsW w' g A l := by
  obtain ⟨c, h1, h2⟩ := h
  exact ⟨c, h1.frm k (hS g (by simp)), h2.frm k (fun x hx => hS x (by simp [hx]))⟩
theorem IsW.lt {w : World} {g : Nat} {A : Option Addr} {l : List Bool} (h : IsW w g A l) : ∀ x ∈ g :: ob A, x < w.heap.size := by
  obtain ⟨c, h1, h2⟩ := h
  intro x hx
  rcases List.mem_cons.1 hx with rfl | hx
  · exact h1.lt
  · exact h2.lt x hx
/-- A reader at block g, its octets in A: the octets are bs, and so many bits are read. -/
def IsR (w : World) (g : Nat) (A : Option Addr) (bs : List Nat) (p : Nat) : Prop :=
  ∃ c, Blk w g 86 #[.slice A bs.length c, .int .i64 ((p : Nat) : Int)] ∧ Own w 5 1 A bs.length c (NB bs)
theorem IsR.frm {w w' : World} {g : Nat} {A : Option Addr} {bs : List Nat} {p : Nat} {S : List Nat} (h : IsR w g A bs p) (k : Frm S w w') (hS : ∀ x ∈ g :: ob A, x ∉ S) : IsR w' g A bs p := by
  obtain ⟨c, h1, h2⟩ := h
  exact ⟨c, h1.frm k (hS g (by simp)), h2.frm k (fun x hx => hS x (by simp [hx]))⟩
theorem IsR.lt {w : World} {g : Nat} {A : Option Addr} {bs : List Nat} {p : Nat} (h : IsR w g A bs p) : ∀ x ∈ g :: ob A, x < w.heap.size := by
  obtain ⟨c, h1, h2⟩ := h
  intro x hx
  rcases List.mem_cons.1 hx with rfl | hx
  · exact h1.lt
  · exact h2.lt x hx

/-- What is wrong with a number of bits. -/
def rightE (v : Nat) (n : Int) : Nat := if n < 0 ∨ 32 < n then 1 else if v / 2 ^ n.toNat = 0 then 0 else 8

set_option maxRecDepth 100000 in
theorem new_spec (w : World) : Calls Try.prog 13 #[] w fun e w' => e = .returned (.pointer (some ⟨w.heap.size, 0, none⟩)) ∧ IsW w' w.heap.size none [] ∧ Frm [] w w' ∧ w'.heap.size = w.heap.size + 1 := by
  refine VC.calls (nt := 3) (res := #[.tmp 0]) Try.func13 rfl Try.ntmps13 Try.results13 rfl ?_
  refine VC.seq ?_
  refine VC.region ?_
  refine Ops.r (Run.asg rfl) rfl ?_
  refine Ops.nil ?_
  refine thenQ_n ?_
  refine VC.sub [] .nil ?_
  refine VC.seq ?_
  refine VC.region ?_
  refine Ops.r (Run.build evs.nil zero82 (places82).choose_spec.1 (places82).choose_spec.2 rfl) rfl ?_
  refine Ops.m (Does.box rfl) rfl ?_
  rintro _ w1 ⟨rfl, hFw1⟩
  refine Ops.r (Run.asg rfl) rfl ?_
  refine Ops.nil ?_
  refine thenQ_n ?_
  refine VC.sub [(0, _)] (.cons rfl .nil) ?_
  refine VC.ret ?_
  refine end1 rfl ?_
  exact ⟨rfl, ⟨0, hFw1.blk, Own.nil _ _ _⟩, hFw1.frm, hFw1.size⟩

set_option maxRecDepth 100000 in
theorem right_in (v n : Nat) (w : World) (hn : n ≤ 32) (hv : v ≤ 18446744073709551615) : Calls Try.prog 50 #[.int .u64 v, .int .i64 n] w fun e w' => e = .returned (.int .i64 ((if v / 2 ^ n = 0 then 0 else 8 : Nat) : Int)) ∧ w = w' := by
  refine VC.calls (nt := 17) (res := #[.tmp 4]) Try.func50 rfl Try.ntmps50 Try.results50 rfl ?_
  refine VC.seq ?_
  refine VC.region ?_
  refine Ops.r (v := .int .i64 ((0 : Nat) : Int)) (Run.asg rfl) rfl ?_
  refine Ops.nil ?_
  refine thenQ_n ?_
  refine VC.sub [(0, _), (1, _)] (.cons rfl (.cons rfl .nil)) ?_
  refine VC.seq ?_
  refine VC.block ?_
  refine VC.seq ?_
  refine VC.region ?_
  refine Ops.r (Run.mv rfl) rfl ?_
  refine Ops.r (Run.bin rfl rfl (Bin.lssN _ 0)) rfl ?_
  refine Ops.r (Run.mv rfl) rfl ?_
  refine Ops.rg rfl (decide_eq_false (by omega)) (Run.mv rfl) rfl ?_
  refine Ops.rg rfl (decide_eq_false (by omega)) (Run.bin rfl rfl (Bin.gtrN _ 32)) rfl ?_
  refine Ops.r (Run.pickF rfl rfl (decide_eq_false (by omega))) rfl ?_
  refine Ops.r (Run.asg rfl) rfl ?_
  refine Ops.nil ?_
  refine thenQ_n ?_
  refine VC.sub [(0, _), (1, _), (5, _)] (.cons rfl (.cons rfl (.cons rfl .nil))) ?_
  refine VC.condF rfl (decide_eq_false (by omega)) ?_
  refine VC.seq ?_
  refine VC.region ?_
  refine Ops.r (Run.mv rfl) rfl ?_
  refine Ops.r (Run.mv rfl) rfl ?_
  refine Ops.r (Run.bin rfl rfl (Bin.shr_u64 _ _ hv)) rfl ?_
  refine Ops.r (Run.bin rfl rfl (Bin.neqN _ 0)) rfl ?_
  refine Ops.r (Run.asg rfl) rfl ?_
  refine Ops.nil ?_
  refine thenQ_n ?_
  refine VC.sub [(12, _)] (.cons rfl .nil) ?_
  refine VC.condD rfl (fun hc2 => ?_) (fun hc2 => ?_)
  · skip
    refine VC.seq ?_
    refine VC.region ?_
    refine Ops.r (v := .int .i64 ((8 : Nat) : Int)) (Run.asg rfl) rfl ?_
    refine Ops.nil ?_
    refine thenQ_n ?_
    refine VC.sub [(4, _)] (.cons rfl .nil) ?_
    refine VC.ret ?_
    refine blockQ_r (thenQ_r (end1 rfl ?_))
    exact ⟨by rw [if_neg hc2], rfl⟩
  · skip
    refine VC.skip ?_
    refine blockQ_n (thenQ_n ?_)
    refine VC.sub [] .nil ?_
    refine VC.seq ?_
    refine VC.region ?_
    refine Ops.r (v := .int .i64 ((0 : Nat) : Int)) (Run.asg rfl) rfl ?_
    refine Ops.nil ?_
    refine thenQ_n ?_
    refine VC.ret ?_
    refine end1 rfl ?_
    exact ⟨by rw [if_pos (by simpa using hc2)], rfl⟩

set_option maxRecDepth 100000 in
theorem right_neg (v : Nat) (n : Int) (w : World) (hn : n < 0) : Calls Try.prog 50 #[.int .u64 v, .int .i64 n] w fun e w' => e = .returned (.int .i64 ((1 : Nat) : Int)) ∧ w = w' := by
  refine VC.calls (nt := 17) (res := #[.tmp 4]) Try.func50 rfl Try.ntmps50 Try.results50 rfl ?_
  refine VC.seq ?_
  refine VC.region ?_
  refine Ops.r (v := .int .i64 ((0 : Nat) : Int)) (Run.asg rfl) rfl ?_
  refine Ops.nil ?_
  refine thenQ_n ?_
  refine VC.sub [(0, _), (1, _)] (.cons rfl (.cons rfl .nil)) ?_
  refine VC.seq ?_
  refine VC.block ?_
  refine VC.seq ?_
  refine VC.region ?_
  refine Ops.r (Run.mv rfl) rfl ?_
  refine Ops.r (Run.bin rfl rfl (Bin.lss _ 0)) rfl ?_
  refine Ops.r (Run.mv rfl) rfl ?_
  refine Ops.sk rfl (by simpa using hn) rfl ?_
  refine Ops.sk rfl (by simpa using hn) rfl ?_
  refine Ops.r (Run.pickT rfl rfl (decide_eq_true hn)) rfl ?_
  refine Ops.r (Run.asg rfl) rfl ?_
  refine Ops.nil ?_
  refine thenQ_n ?_
  refine VC.sub [(0, _), (1, _), (5, _)] (.cons rfl (.cons rfl (.cons rfl .nil))) ?_
  refine VC.condT rfl (rfl) ?_
  refine VC.seq ?_
  refine VC.region ?_
  refine Ops.r (v := .int .i64 ((1 : Nat) : Int)) (Run.asg rfl) rfl ?_
  refine Ops.nil ?_
  refine thenQ_n ?_
  refine VC.sub [(4, _)] (.cons rfl .nil) ?_
  refine VC.ret ?_
  refine blockQ_r (thenQ_r (end1 rfl ?_))
  exact ⟨rfl, rfl⟩

set_option maxRecDepth 100000 in
theorem right_big (v : Nat) (n : Int) (w : World) (hn : 32 < n) : Calls Try.prog 50 #[.int .u64 v, .int .i64 n] w fun e w' => e = .returned (.int .i64 ((1 : Nat) : Int)) ∧ w = w' := by
  refine VC.calls (nt := 17) (res := #[.tmp 4]) Try.func50 rfl Try.ntmps50 Try.results50 rfl ?_
  refine VC.seq ?_
  refine VC.region ?_
  refine Ops.r (v := .int .i64 ((0 : Nat) : Int)) (Run.asg rfl) rfl ?_
  refine Ops.nil ?_
  refine thenQ_n ?_
  refine VC.sub [(0, _), (1, _)] (.cons rfl (.cons rfl .nil)) ?_
  refine VC.seq ?_
  refine VC.block ?_
  refine VC.seq ?_
  refine VC.region ?_
  refine Ops.r (Run.mv rfl) rfl ?_
  refine Ops.r (Run.bin rfl rfl (Bin.lss _ 0)) rfl ?_
  refine Ops.r (Run.mv rfl) rfl ?_
  refine Ops.rg rfl (decide_eq_false (by omega)) (Run.mv rfl) rfl ?_
  refine Ops.rg rfl (decide_eq_false (by omega)) (Run.bin rfl rfl (Bin.gtr _ 32)) rfl ?_
  refine Ops.r (Run.pickF rfl rfl (decide_eq_false (by omega))) rfl ?_
  refine Ops.r (Run.asg rfl) rfl ?_
  refine Ops.nil ?_
  refine thenQ_n ?_
  refine VC.sub [(0, _), (1, _), (5, _)] (.cons rfl (.cons rfl (.cons rfl .nil))) ?_
  refine VC.condT rfl (decide_eq_true hn) ?_
  refine VC.seq ?_
  refine VC.region ?_
  refine Ops.r (v := .int .i64 ((1 : Nat) : Int)) (Run.asg rfl) rfl ?_
  refine Ops.nil ?_
  refine thenQ_n ?_
  refine VC.sub [(4, _)] (.cons rfl .nil) ?_
  refine VC.ret ?_
  refine blockQ_r (thenQ_r (end1 rfl ?_))
  exact ⟨rfl, rfl⟩

theorem right_spec (v : Nat) (n : Int) (w : World) (hv : v ≤ 18446744073709551615) : Calls Try.prog 50 #[.int .u64 v, .int .i64 n] w fun e w' => e = .returned (.int .i64 ((rightE v n : Nat) : Int)) ∧ w = w' := by
  unfold rightE
  by_cases h1 : n < 0
  · rw [if_pos (.inl h1)]; exact right_neg v n w h1
  · by_cases h2 : 32 < n
    · rw [if_pos (.inr h2)]; exact right_big v n w h2
    · rw [if_neg (by omega)]
      obtain ⟨m, rfl⟩ := Int.eq_ofNat_of_zero_le (show 0 ≤ n by omega)
      exact right_in v m w (by omega) hv
theorem rightE_zero {v : Nat} {n : Int} (h : rightE v n = 0) : ∃ m : Nat, n = m ∧ m ≤ 32 ∧ v < 2 ^ m := by
  unfold rightE at h
  split at h
  · cases h
  · split at h
    · rename_i h1 h2
      obtain ⟨m, rfl⟩ := Int.eq_ofNat_of_zero_le (show 0 ≤ n by omega)
      refine ⟨m, rfl, by omega, ?_⟩
      simp only [Int.toNat_natCast] at h2
      exact (Nat.div_eq_zero_iff_lt (Nat.two_pow_pos m)).1 h2
    · cases h
theorem rightE_ok (v m : Nat) (h1 : m ≤ 32) (h2 : v < 2 ^ m) : rightE v (m : Int) = 0 := by
  unfold rightE
  rw [if_neg (by omega), if_pos (by simp only [Int.toNat_natCast]; exact Nat.div_eq_of_lt h2)]

/-- The octets with room for one bit more. -/
def padW (l : List Bool) : List Nat := if l.length % 8 = 0 then pack l ++ [0] else pack l
theorem padW_len (l : List Bool) : (padW l).length = l.length / 8 + 1 := by
  unfold padW; split <;> simp [pack_len] <;> omega
theorem padW_lt (l : List Bool) : (padW l).getD (l.length / 8) 0 < 256 := by
  have hl : ∀ x ∈ padW l, x < 256 := by
    intro x hx
    unfold padW at hx
    split at hx
    · rcases List.mem_append.1 hx with h | h
      · exact pack_lt l x h
      · simp at h; omega
    · exact pack_lt l x hx
  have := padW_len l
  rw [List.getD_eq_getElem?_getD, List.getElem?_eq_getElem (by omega)]
  exact hl _ (List.getElem_mem _)
theorem pack_snoc (l : List Bool) (b : Bool) : pack (l ++ [b]) = (padW l).set (l.length / 8) ((padW l).getD (l.length / 8) 0 ||| (b.toNat * 2 ^ (l.length % 8) % 256)) := by
  have hb : b.toNat * 2 ^ (l.length % 8) % 256 = b.toNat * 2 ^ (l.length % 8) := by
    apply Nat.mod_eq_of_lt
    have h1 : 2 ^ (l.length % 8) ≤ 2 ^ 7 := Nat.pow_le_pow_right (by omega) (by omega)
    cases b <;> simp <;> omega
  rw [hb]
  by_cases h : l.length % 8 = 0
  · have h8 : (pack l).length = l.length / 8 := by rw [pack_len]; omega
    rw [pack_snoc_new l b h]
    unfold padW
    rw [if_pos h, h, List.set_append_right _ _ (by omega), List.getD_eq_getElem?_getD, List.getElem?_append_right (by omega), h8]
    simp
  · rw [pack_snoc_old l b h]
    unfold padW
    rw [if_neg h]
    congr 1
    rw [List.getD_eq_getElem?_getD, pack_get _ _ (by omega)]
    simp only [Option.getD_some]
    rw [List.take_of_length_le (by simp; omega)]
    have := num_lt (l.drop (8 * (l.length / 8)))
    rw [show (l.drop (8 * (l.length / 8))).length = l.length % 8 by simp; omega] at this
    rw [or_top _ _ _ this]

set_option maxRecDepth 100000 in
theorem one_spec (g v : Nat) (A : Option Addr) (l : List Bool) (w : World) (hv : v ≤ 18446744073709551615) (hl : l.length ≤ 1000000000000) (hW : IsW w g A l) :
    Calls Try.prog 51 #[.pointer (some ⟨g, 0, none⟩), .int .u64 v] w fun e w' => e = .returned (.tuple #[]) ∧ ∃ A', IsW w' g A' (l ++ [decide (v % 2 = 1)]) ∧ Frm (g :: ob A) w w' ∧ ∀ x ∈ ob A', x ∈ ob A ∨ w.heap.size ≤ x := by
  obtain ⟨c, hb, ho⟩ := hW
  have hpl := pack_len l
  have hgA := ho.ne_blk hb (by decide)
  have hlt := hb.lt
  refine VC.calls (nt := 48) (res := #[]) Try.func51 rfl Try.ntmps51 Try.results51 rfl ?_
  refine VC.seq ?_
  refine VC.seq ?_
  refine VC.region ?_
  refine Ops.r (Run.mv rfl) rfl ?_
  refine Ops.r (Run.nilck rfl) rfl ?_
  refine Ops.r (Run.fieldAddr rfl Try.underlying82 rfl Try.sizeOf3 (by decide)) rfl ?_
  refine Ops.r (Run.load rfl Try.isAgg3 (hb.cell 1)) rfl ?_
  refine Ops.r (Run.bin rfl rfl (Bin.remN _ 8 (by omega))) rfl ?_
  refine Ops.r (Run.bin rfl rfl (Bin.eqlN _ 0)) rfl ?_
  refine Ops.nil ?_
  refine thenQ_n ?_
  refine VC.sub [(0, _), (1, _), (9, _)] (.cons rfl (.cons rfl (.cons rfl .nil))) ?_
  refine VC.meet (σ := Option Addr × Nat) (fun s => [(0, .pointer (some ⟨g, 0, none⟩)), (1, .int .u64 v)]) (fun s wr => Blk wr g 82 #[.slice s.1 (l.length / 8 + 1) s.2, .int .i64 ((l.length : Nat) : Int)] ∧ Own wr 5 1 s.1 (l.length / 8 + 1) s.2 (NB (padW l)) ∧ Frm (g :: ob A) w wr ∧ ∀ x ∈ ob s.1, x ∈ ob A ∨ w.heap.size ≤ x) ?_ ?_
  · skip
    refine VC.condD rfl (fun hc1 => ?_) (fun hc1 => ?_)
    · skip
      refine VC.region ?_
      refine Ops.r (Run.mv rfl) rfl ?_
      refine Ops.r (Run.mv rfl) rfl ?_
      refine Ops.r (Run.nilck rfl) rfl ?_
      refine Ops.r (Run.fieldAddr rfl Try.underlying82 rfl Try.sizeOf26 (by decide)) rfl ?_
      refine Ops.r (Run.load rfl Try.isAgg26 (hb.cell 0)) rfl ?_
      refine Ops.m (Does.buildS1 rfl Try.underlying26 Try.sizeOf5 zero5 (by decide) (by decide) rfl rfl) rfl ?_
      rintro _ w1 ⟨rfl, hF⟩
      have ho1 := ho.frm hF.frm (by simp)
      have hrd1 : Rd w1 1 (some ⟨w.heap.size, 0, none⟩) 1 (NB [0]) := Rd.of_blk hF.blk rfl
      refine Ops.m (Does.app rfl rfl Try.underlying26 (info5) rfl (by decide) ho1 hrd1 (NB_one [0]) (by omega) (by omega)) rfl ?_
      rintro _ w2 ⟨A2, c2, rfl, ho2, hfr2, hob2⟩
      have hb2 := (hb.frm hF.frm (by simp)).frm hfr2 hgA
      refine Ops.r (Run.nilck rfl) rfl ?_
      refine Ops.r (Run.fieldAddr rfl Try.underlying82 rfl Try.sizeOf26 (by decide)) rfl ?_
      refine Ops.st (Acts.store rfl rfl Try.sizeOf26 hb2 rfl rfl) ?_
      rintro w3 ⟨hb3, hfr3, hsz3⟩
      refine Ops.nil ?_
      refine thenQ_n ⟨(A2, c2), (.cons rfl (.cons rfl .nil)), ?_⟩
      have h8 : l.length % 8 = 0 := hc1
      have hn : (pack l).length + 1 = l.length / 8 + 1 := by omega
      have ho3 := ho2.frm hfr3 (by
        have hne := ho2.ne_blk hb2 (by decide)
        intro x hx hx2
        simp at hx2
        subst hx2
        exact hne hx)
      have hp : NB (pack l) ++ NB [0] = NB (padW l) := by rw [← NB_append]; unfold padW; rw [if_pos h8]
      rw [hp, hn] at ho3
      rw [hn] at hb3
      refine ⟨hb3, ho3, ?_, ?_⟩
      · refine ((hF.frm.mono (T := g :: ob A) (by simp)).trans hfr2 (fun x hx => .inl (by simp [hx]))).trans hfr3 (fun x hx => .inl (by simp at hx; simp [hx]))
      · intro x hx
        rcases hob2 with h | h <;> rw [h] at hx
        · exact .inl hx
        · right; have := hF.size; simp at hx; omega
    · skip
      refine VC.skip ?_
      refine thenQ_n ⟨(A, c), (.cons rfl (.cons rfl .nil)), ?_⟩
      have h8 : ¬ l.length % 8 = 0 := hc1
      have hn : (pack l).length = l.length / 8 + 1 := by omega
      have hp : pack l = padW l := by unfold padW; rw [if_neg h8]
      rw [hp] at ho hb
      rw [← hp, hn] at hb
      rw [← hp, hn, hp] at ho
      exact ⟨hb, ho, Frm.refl _ _, fun x hx => .inl hx⟩
  · skip
    rintro ⟨A1, c1⟩ wr ⟨hb1, ho1, hfr1, hA1⟩ Γ hΓ
    dsimp only at hb1 ho1 hfr1 hA1 hΓ
    have hpw := padW_len l
    obtain ⟨ad, rfl, hadlt, hadc⟩ := ho1.rd.2 (by omega)
    have hcell := hadc _ _ (NB_get (padW l) (l.length / 8) (by omega))
    have holt := padW_lt l
    have h2 : v &&& 1 = v % 2 := Nat.and_one_is_mod v
    refine thenQ_n (VC.sub _ hΓ ?_)
    refine VC.seq ?_
    refine VC.tail 22 (by kernel_rfl) (by kernel_rfl) ?_
    simp only [List.take_succ_cons, List.take_zero, List.drop_succ_cons, List.drop_zero]
    refine SOps.r (Run.mv rfl) rfl ?_
    refine SOps.r (Run.nilck rfl) rfl ?_
    refine SOps.r (Run.fieldAddr rfl Try.underlying82 rfl Try.sizeOf26 (by decide)) rfl ?_
    refine SOps.r (Run.load rfl Try.isAgg26 (hb1.cell 0)) rfl ?_
    refine SOps.r (Run.mv rfl) rfl ?_
    refine SOps.r (Run.nilck rfl) rfl ?_
    refine SOps.r (Run.fieldAddr rfl Try.underlying82 rfl Try.sizeOf3 (by decide)) rfl ?_
    refine SOps.r (Run.load rfl Try.isAgg3 (hb1.cell 1)) rfl ?_
    refine SOps.r (Run.bin rfl rfl (Bin.quo_i64 _ 8 (by omega) (by omega))) rfl ?_
    refine SOps.r (Run.index1 _ rfl rfl Try.underlying26 Try.sizeOf5 (by omega)) rfl ?_
    refine SOps.r (Run.load rfl Try.isAgg5 hcell) rfl ?_
    refine SOps.r (Run.mv rfl) rfl ?_
    refine SOps.r (Run.bin rfl rfl (Bin.and_u64 _ 1 hv (by omega))) rfl ?_
    refine SOps.r (Run.conv8 _ rfl Try.underlying25 Try.underlying5) rfl ?_
    refine SOps.r (Run.mv rfl) rfl ?_
    refine SOps.r (Run.nilck rfl) rfl ?_
    refine SOps.r (Run.fieldAddr rfl Try.underlying82 rfl Try.sizeOf3 (by decide)) rfl ?_
    refine SOps.r (Run.load rfl Try.isAgg3 (hb1.cell 1)) rfl ?_
    refine SOps.r (Run.bin rfl rfl (Bin.remN _ 8 (by omega))) rfl ?_
    refine SOps.r (Run.bin rfl rfl (Bin.shl8 _ _ (by omega))) rfl ?_
    refine SOps.r (Run.bin rfl rfl (Bin.or_u8 _ _ (by omega) (by omega))) rfl ?_
    refine SOps.r (Run.index1 _ rfl rfl Try.underlying26 Try.sizeOf5 (by omega)) rfl ?_
    refine SOps.nil ?_
    refine Ops.st (Acts.storeOwn _ rfl rfl Try.sizeOf5 (ho1.drawn (Drawn.drew _)) rfl (by omega) rfl) ?_
    rintro w4 ⟨ho4, hfr4, hsz4⟩
    have hb4 := (hb1.drawn (Drawn.drew _)).frm hfr4 (ho1.ne_blk hb1 (by decide))
    refine Ops.nil ?_
    refine thenQ_n ?_
    refine VC.sub [(0, _)] (.cons rfl .nil) ?_
    refine VC.region ?_
    refine Ops.r (Run.mv rfl) rfl ?_
    refine Ops.r (Run.nilck rfl) rfl ?_
    refine Ops.r (Run.fieldAddr rfl Try.underlying82 rfl Try.sizeOf3 (by decide)) rfl ?_
    refine Ops.r (Run.load rfl Try.isAgg3 (hb4.cell 1)) rfl ?_
    refine Ops.r (Run.bin rfl rfl (Bin.add_i64 _ 1 (by omega))) rfl ?_
    refine Ops.r (Run.nilck rfl) rfl ?_
    refine Ops.r (Run.fieldAddr rfl Try.underlying82 rfl Try.sizeOf3 (by decide)) rfl ?_
    refine Ops.st (Acts.store rfl rfl Try.sizeOf3 hb4 rfl rfl) ?_
    rintro w5 ⟨hb5, hfr5, hsz5⟩
    refine Ops.nil ?_
    refine end0n ?_
    refine ⟨rfl, some ad, ⟨c1, ?_, ?_⟩, ?_, hA1⟩
    · have hp := pack_len (l ++ [decide (v % 2 = 1)])
      simp only [List.length_append, List.length_singleton] at hp
      rw [show (pack (l ++ [decide (v % 2 = 1)])).length = l.length / 8 + 1 by omega]
      rw [List.length_append]
      exact hb5
    · have hbit : (v &&& 1) % 256 = (decide (v % 2 = 1)).toNat := by
        rw [h2]
        rcases Nat.mod_two_eq_zero_or_one v with h | h <;> simp [h]
      rw [hbit] at ho4
      have e : (NB (padW l)).set (l.length / 8) (.int .u8 (((padW l).getD (l.length / 8) 0 ||| (decide (v % 2 = 1)).toNat * 2 ^ (l.length % 8) % 256 : Nat) : Int)) = NB (pack (l ++ [decide (v % 2 = 1)])) := by
        rw [pack_snoc, NB_set]
      rw [e] at ho4
      have hp := pack_len (l ++ [decide (v % 2 = 1)])
      simp only [List.length_append, List.length_singleton] at hp
      rw [show (pack (l ++ [decide (v % 2 = 1)])).length = l.length / 8 + 1 by omega]
      exact ho4.frm hfr5 (by
        have hne := ho4.ne_blk hb4 (by decide)
        intro x hx hx2
        simp at hx2
        subst hx2
        exact hne hx)
    · refine ((hfr1.drawn (Drawn.drew _)).trans hfr4 (fun x hx => ?_)).trans hfr5 (fun x hx => .inl (by simp at hx; simp [hx]))
      rcases hA1 x hx with h | h
      · exact .inl (by simp [h])
      · exact .inr h

set_option maxRecDepth 100000 in
theorem put_bad (A' : Value) (v : Nat) (n : Int) (w : World) (hv : v ≤ 18446744073709551615) (he : rightE v n ≠ 0) :
    Calls Try.prog 14 #[A' , .int .u64 v, .int .i64 n] w fun e w' => e = .returned (.int .i64 ((rightE v n : Nat) : Int)) ∧ w = w' := by
  refine VC.calls (nt := 25) (res := #[.tmp 6]) Try.func14 rfl Try.ntmps14 Try.results14 rfl ?_
  refine VC.seq ?_
  refine VC.region ?_
  refine Ops.r (v := .int .i64 ((0 : Nat) : Int)) (Run.asg rfl) rfl ?_
  refine Ops.nil ?_
  refine thenQ_n ?_
  refine VC.sub [(0, _), (1, _), (2, _)] (.cons rfl (.cons rfl (.cons rfl .nil))) ?_
  refine VC.seq ?_
  refine VC.seq ?_
  refine VC.region ?_
  refine Ops.r (Run.mv rfl) rfl ?_
  refine Ops.r (Run.mv rfl) rfl ?_
  refine Ops.cl (Enters.fn (evs.cons rfl (evs.cons rfl evs.nil)) Try.call50) (right_spec v n _ hv) rfl ?_
  rintro e w1 ⟨rfl, rfl⟩
  refine ⟨_, rfl, ?_⟩
  refine Ops.r (Run.asg rfl) rfl ?_
  refine Ops.nil ?_
  refine thenQ_n ?_
  refine VC.sub [(0, _), (1, _), (2, _), (7, _)] (.cons rfl (.cons rfl (.cons rfl (.cons rfl .nil)))) ?_
  refine VC.seq ?_
  refine VC.region ?_
  refine Ops.r (Run.mv rfl) rfl ?_
  refine Ops.r (Run.bin rfl rfl (Bin.neqN _ 0)) rfl ?_
  refine Ops.nil ?_
  refine thenQ_n ?_
  refine VC.sub [(0, _), (1, _), (2, _), (7, _), (13, _)] (.cons rfl (.cons rfl (.cons rfl (.cons rfl (.cons rfl .nil))))) ?_
  refine VC.condT rfl (decide_eq_true he) ?_
  refine VC.seq ?_
  refine VC.region ?_
  refine Ops.r (Run.mv rfl) rfl ?_
  refine Ops.r (Run.asg rfl) rfl ?_
  refine Ops.nil ?_
  refine thenQ_n ?_
  refine VC.sub [(6, _)] (.cons rfl .nil) ?_
  refine VC.ret ?_
  refine thenQ_r (end1 rfl ?_)
  exact ⟨rfl, rfl⟩

set_option maxRecDepth 100000 in
theorem put_ok (g v n : Nat) (A : Option Addr) (l : List Bool) (w : World) (hv : v < 2 ^ n) (hn : n ≤ 32) (hl : l.length ≤ 1000000000) (hW : IsW w g A l) :
    Calls Try.prog 14 #[.pointer (some ⟨g, 0, none⟩), .int .u64 v, .int .i64 n] w fun e w' => e = .returned (.int .i64 ((0 : Nat) : Int)) ∧ ∃ A', IsW w' g A' (l ++ bitsL v n) ∧ Frm (g :: ob A) w w' ∧ ∀ x ∈ ob A', x ∈ ob A ∨ w.heap.size ≤ x := by
  have hpow : 2 ^ n ≤ 2 ^ 32 := Nat.pow_le_pow_right (by omega) hn
  have hv64 : v ≤ 18446744073709551615 := by omega
  have he := rightE_ok v n hn hv
  refine VC.calls (nt := 25) (res := #[.tmp 6]) Try.func14 rfl Try.ntmps14 Try.results14 rfl ?_
  refine VC.seq ?_
  refine VC.region ?_
  refine Ops.r (v := .int .i64 ((0 : Nat) : Int)) (Run.asg rfl) rfl ?_
  refine Ops.nil ?_
  refine thenQ_n ?_
  refine VC.sub [(0, _), (1, _), (2, _)] (.cons rfl (.cons rfl (.cons rfl .nil))) ?_
  refine VC.seq ?_
  refine VC.seq ?_
  refine VC.region ?_
  refine Ops.r (Run.mv rfl) rfl ?_
  refine Ops.r (Run.mv rfl) rfl ?_
  refine Ops.cl (Enters.fn (evs.cons rfl (evs.cons rfl evs.nil)) Try.call50) (right_spec v n _ hv64) rfl ?_
  rintro e w1 ⟨rfl, rfl⟩
  refine ⟨_, rfl, ?_⟩
  rw [he]
  refine Ops.r (Run.asg rfl) rfl ?_
  refine Ops.nil ?_
  refine thenQ_n ?_
  refine VC.sub [(0, _), (1, _), (2, _), (7, _)] (.cons rfl (.cons rfl (.cons rfl (.cons rfl .nil)))) ?_
  refine VC.seq ?_
  refine VC.region ?_
  refine Ops.r (Run.mv rfl) rfl ?_
  refine Ops.r (Run.bin rfl rfl (Bin.neqN _ 0)) rfl ?_
  refine Ops.nil ?_
  refine thenQ_n ?_
  refine VC.sub [(0, _), (1, _), (2, _), (7, _), (13, _)] (.cons rfl (.cons rfl (.cons rfl (.cons rfl (.cons rfl .nil))))) ?_
  refine VC.condF rfl (rfl) ?_
  refine VC.skip ?_
  refine thenQ_n ?_
  refine VC.sub [(0, _), (1, _), (2, _)] (.cons rfl (.cons rfl (.cons rfl .nil))) ?_
  refine VC.seq ?_
  refine VC.seq ?_
  refine VC.region ?_
  refine Ops.r (Run.mv rfl) rfl ?_
  refine Ops.r (v := .int .i64 ((0 : Nat) : Int)) (Run.mv rfl) rfl ?_
  refine Ops.nil ?_
  refine thenQ_n ?_
  refine VC.sub [(0, _), (1, _), (15, _), (16, _)] (.cons rfl (.cons rfl (.cons rfl (.cons rfl .nil)))) ?_
  refine VC.block ?_
  refine VC.loop (σ := Nat × Option Addr) (fun s => [(0, .pointer (some ⟨g, 0, none⟩)), (1, .int .u64 v), (15, .int .i64 n), (16, .int .i64 s.1)]) (fun s wr => s.1 ≤ n ∧ IsW wr g s.2 (l ++ bitsL v s.1) ∧ Frm (g :: ob A) w wr ∧ ∀ x ∈ ob s.2, x ∈ ob A ∨ w.heap.size ≤ x) (fun s => n - s.1) (0, A) (.cons rfl (.cons rfl (.cons rfl (.cons rfl .nil)))) ⟨by omega, by simpa [bitsL] using hW, Frm.refl _ _, fun x hx => .inl hx⟩ ?_
  rintro ⟨k, A1⟩ wr ⟨hk, hW1, hfr1, hA1⟩
  dsimp only at hk hW1 hfr1 hA1 ⊢
  refine VC.seq ?_
  refine VC.region ?_
  refine Ops.r (Run.bin rfl rfl (Bin.lssN _ _)) rfl ?_
  refine Ops.nil ?_
  refine thenQ_n ?_
  refine VC.seq ?_
  refine VC.condD rfl (fun hc2 => ?_) (fun hc2 => ?_)
  · skip
    refine VC.skip ?_
    refine thenQ_n ?_
    refine VC.sub [(0, _), (1, _), (15, _), (16, _)] (.cons rfl (.cons rfl (.cons rfl (.cons rfl .nil)))) ?_
    refine VC.seq ?_
    refine VC.block ?_
    refine VC.seq ?_
    refine VC.region ?_
    refine Ops.r (Run.mv rfl) rfl ?_
    refine Ops.r (Run.asg rfl) rfl ?_
    refine Ops.nil ?_
    refine thenQ_n ?_
    refine VC.sub [(0, _), (1, _), (8, _), (15, _), (16, _)] (.cons rfl (.cons rfl (.cons rfl (.cons rfl (.cons rfl .nil))))) ?_
    refine VC.region ?_
    refine Ops.r (Run.mv rfl) rfl ?_
    refine Ops.r (Run.mv rfl) rfl ?_
    refine Ops.r (Run.mv rfl) rfl ?_
    refine Ops.r (Run.bin rfl rfl (Bin.shr_u64 _ _ hv64)) rfl ?_
    refine Ops.cl (Enters.fn (evs.cons rfl (evs.cons rfl evs.nil)) Try.call51) (one_spec g (v / 2 ^ k) A1 (l ++ bitsL v k) _ (Nat.le_trans (Nat.div_le_self _ _) hv64) (by rw [List.length_append, bitsL_len]; omega) hW1) rfl ?_
    rintro e w2 ⟨rfl, A2, hW2, hfr2, hA2⟩
    refine ⟨_, rfl, ?_⟩
    refine Ops.nil ?_
    refine blockQ_n (thenQ_n ?_)
    refine VC.sub [(0, _), (1, _), (15, _), (16, _)] (.cons rfl (.cons rfl (.cons rfl (.cons rfl .nil)))) ?_
    refine VC.region ?_
    refine Ops.r (Run.bin rfl rfl (Bin.add_i64 _ 1 (by omega))) rfl ?_
    refine Ops.r (Run.mv rfl) rfl ?_
    refine Ops.nil ?_
    refine thenQ_n ⟨(k + 1, A2), (.cons rfl (.cons rfl (.cons rfl (.cons rfl .nil)))), ?_, ?_⟩
    · skip
      refine ⟨hc2, ?_, ?_, ?_⟩
      · rw [List.append_assoc, ← bitsL_succ] at hW2; exact hW2
      · refine hfr1.trans hfr2 (fun x hx => ?_)
        rcases List.mem_cons.1 hx with rfl | hx
        · exact .inl (by simp)
        · rcases hA1 x hx with h | h
          · exact .inl (by simp [h])
          · exact .inr h
      · intro x hx
        rcases hA2 x hx with h | h
        · exact hA1 x h
        · have := hfr1.size; right; omega
    · skip
      first | omega | (dsimp only; omega)
  · skip
    refine VC.exit ?_
    refine thenQ_x (thenQ_x (blockQ_x ?_))
    refine thenQ_n ?_
    refine VC.sub [] .nil ?_
    refine VC.seq ?_
    refine VC.region ?_
    refine Ops.r (v := .int .i64 ((0 : Nat) : Int)) (Run.asg rfl) rfl ?_
    refine Ops.nil ?_
    refine thenQ_n ?_
    refine VC.ret ?_
    refine end1 rfl ?_
    have : k = n := by omega
    subst this
    exact ⟨rfl, A1, hW1, hfr1, hA1⟩

set_option maxRecDepth 100000 in
theorem revB_spec (x : Nat) (w : World) (hx : x ≤ 18446744073709551615) :
    Calls Try.prog 62 #[.int .u64 x] w fun e w' => e = .returned (.int .u64 ((((swapK 16 281470681808895 (swapK 8 71777214294589695 x)) / 2 ^ 32) ||| ((swapK 16 281470681808895 (swapK 8 71777214294589695 x)) * 2 ^ 32 % 18446744073709551616) : Nat) : Int)) ∧ w = w' := by
  refine VC.calls (nt := 22) (res := #[.tmp 2]) Try.func62 rfl Try.ntmps62 Try.results62 rfl ?_
  refine VC.seq ?_
  refine VC.region ?_
  refine Ops.r (v := .int .u64 ((0 : Nat) : Int)) (Run.asg rfl) rfl ?_
  refine Ops.nil ?_
  refine thenQ_n ?_
  refine VC.sub [(0, _)] (.cons rfl .nil) ?_
  refine VC.seq ?_
  refine VC.region ?_
  refine Ops.r (Run.mv rfl) rfl ?_
  refine Ops.r (Run.bin rfl rfl (Bin.shr_u64 _ 8 hx)) rfl ?_
  refine Ops.r (Run.bin rfl rfl (Bin.and_u64 _ 71777214294589695 (Nat.le_trans (Nat.div_le_self _ _) hx) (by omega))) rfl ?_
  refine Ops.r (Run.mv rfl) rfl ?_
  refine Ops.r (Run.bin rfl rfl (Bin.and_u64 _ 71777214294589695 hx (by omega))) rfl ?_
  refine Ops.r (Run.bin rfl rfl (Bin.shlU _ 8)) rfl ?_
  refine Ops.r (Run.bin rfl rfl (Bin.or_u64 _ _ (Nat.le_trans Nat.and_le_right (by omega)) (by omega))) rfl ?_
  have hx := swap_lt 8 71777214294589695 (x) (by omega)
  refine Ops.r (Run.asg rfl) rfl ?_
  refine Ops.nil ?_
  refine thenQ_n ?_
  refine VC.sub [(0, _)] (.cons rfl .nil) ?_
  refine VC.seq ?_
  refine VC.region ?_
  refine Ops.r (Run.mv rfl) rfl ?_
  refine Ops.r (Run.bin rfl rfl (Bin.shr_u64 _ 16 hx)) rfl ?_
  refine Ops.r (Run.bin rfl rfl (Bin.and_u64 _ 281470681808895 (Nat.le_trans (Nat.div_le_self _ _) hx) (by omega))) rfl ?_
  refine Ops.r (Run.mv rfl) rfl ?_
  refine Ops.r (Run.bin rfl rfl (Bin.and_u64 _ 281470681808895 hx (by omega))) rfl ?_
  refine Ops.r (Run.bin rfl rfl (Bin.shlU _ 16)) rfl ?_
  refine Ops.r (Run.bin rfl rfl (Bin.or_u64 _ _ (Nat.le_trans Nat.and_le_right (by omega)) (by omega))) rfl ?_
  have hx := swap_lt 16 281470681808895 (swapK 8 71777214294589695 x) (by omega)
  refine Ops.r (Run.asg rfl) rfl ?_
  refine Ops.nil ?_
  refine thenQ_n ?_
  refine VC.sub [(0, _)] (.cons rfl .nil) ?_
  refine VC.seq ?_
  refine VC.region ?_
  refine Ops.r (Run.mv rfl) rfl ?_
  refine Ops.r (Run.bin rfl rfl (Bin.shr_u64 _ 32 hx)) rfl ?_
  refine Ops.r (Run.mv rfl) rfl ?_
  refine Ops.r (Run.bin rfl rfl (Bin.shlU _ 32)) rfl ?_
  refine Ops.r (Run.bin rfl rfl (Bin.or_u64 _ _ (Nat.le_trans (Nat.div_le_self _ _) hx) (by omega))) rfl ?_
  refine Ops.r (Run.asg rfl) rfl ?_
  refine Ops.nil ?_
  refine thenQ_n ?_
  refine VC.sub [(2, _)] (.cons rfl .nil) ?_
  refine VC.ret ?_
  refine end1 rfl ?_
  exact ⟨rfl, rfl⟩

set_option maxRecDepth 100000 in
theorem rev_spec (x : Nat) (w : World) (hx : x ≤ 18446744073709551615) :
    Calls Try.prog 52 #[.int .u64 x] w fun e w' => e = .returned (.int .u64 ((rev64 x : Nat) : Int)) ∧ w = w' := by
  refine VC.calls (nt := 26) (res := #[.tmp 2]) Try.func52 rfl Try.ntmps52 Try.results52 rfl ?_
  refine VC.seq ?_
  refine VC.region ?_
  refine Ops.r (v := .int .u64 ((0 : Nat) : Int)) (Run.asg rfl) rfl ?_
  refine Ops.nil ?_
  refine thenQ_n ?_
  refine VC.sub [(0, _)] (.cons rfl .nil) ?_
  refine VC.seq ?_
  refine VC.region ?_
  refine Ops.r (Run.mv rfl) rfl ?_
  refine Ops.r (Run.bin rfl rfl (Bin.shr_u64 _ 1 hx)) rfl ?_
  refine Ops.r (Run.bin rfl rfl (Bin.and_u64 _ 6148914691236517205 (Nat.le_trans (Nat.div_le_self _ _) hx) (by omega))) rfl ?_
  refine Ops.r (Run.mv rfl) rfl ?_
  refine Ops.r (Run.bin rfl rfl (Bin.and_u64 _ 6148914691236517205 hx (by omega))) rfl ?_
  refine Ops.r (Run.bin rfl rfl (Bin.shlU _ 1)) rfl ?_
  refine Ops.r (Run.bin rfl rfl (Bin.or_u64 _ _ (Nat.le_trans Nat.and_le_right (by omega)) (by omega))) rfl ?_
  have hx := swap_lt 1 6148914691236517205 (x) (by omega)
  refine Ops.r (Run.asg rfl) rfl ?_
  refine Ops.nil ?_
  refine thenQ_n ?_
  refine VC.sub [(0, _)] (.cons rfl .nil) ?_
  refine VC.seq ?_
  refine VC.region ?_
  refine Ops.r (Run.mv rfl) rfl ?_
  refine Ops.r (Run.bin rfl rfl (Bin.shr_u64 _ 2 hx)) rfl ?_
  refine Ops.r (Run.bin rfl rfl (Bin.and_u64 _ 3689348814741910323 (Nat.le_trans (Nat.div_le_self _ _) hx) (by omega))) rfl ?_
  refine Ops.r (Run.mv rfl) rfl ?_
  refine Ops.r (Run.bin rfl rfl (Bin.and_u64 _ 3689348814741910323 hx (by omega))) rfl ?_
  refine Ops.r (Run.bin rfl rfl (Bin.shlU _ 2)) rfl ?_
  refine Ops.r (Run.bin rfl rfl (Bin.or_u64 _ _ (Nat.le_trans Nat.and_le_right (by omega)) (by omega))) rfl ?_
  have hx := swap_lt 2 3689348814741910323 (swapK 1 6148914691236517205 x) (by omega)
  refine Ops.r (Run.asg rfl) rfl ?_
  refine Ops.nil ?_
  refine thenQ_n ?_
  refine VC.sub [(0, _)] (.cons rfl .nil) ?_
  refine VC.seq ?_
  refine VC.region ?_
  refine Ops.r (Run.mv rfl) rfl ?_
  refine Ops.r (Run.bin rfl rfl (Bin.shr_u64 _ 4 hx)) rfl ?_
  refine Ops.r (Run.bin rfl rfl (Bin.and_u64 _ 1085102592571150095 (Nat.le_trans (Nat.div_le_self _ _) hx) (by omega))) rfl ?_
  refine Ops.r (Run.mv rfl) rfl ?_
  refine Ops.r (Run.bin rfl rfl (Bin.and_u64 _ 1085102592571150095 hx (by omega))) rfl ?_
  refine Ops.r (Run.bin rfl rfl (Bin.shlU _ 4)) rfl ?_
  refine Ops.r (Run.bin rfl rfl (Bin.or_u64 _ _ (Nat.le_trans Nat.and_le_right (by omega)) (by omega))) rfl ?_
  have hx := swap_lt 4 1085102592571150095 (swapK 2 3689348814741910323 (swapK 1 6148914691236517205 x)) (by omega)
  refine Ops.r (Run.asg rfl) rfl ?_
  refine Ops.nil ?_
  refine thenQ_n ?_
  refine VC.sub [(0, _)] (.cons rfl .nil) ?_
  refine VC.seq ?_
  refine VC.region ?_
  refine Ops.r (Run.mv rfl) rfl ?_
  refine Ops.cl (Enters.fn (evs.cons rfl evs.nil) Try.call62) (revB_spec (swapK 4 1085102592571150095 (swapK 2 3689348814741910323 (swapK 1 6148914691236517205 x))) _ hx) rfl ?_
  rintro e w1 ⟨rfl, rfl⟩
  refine ⟨_, rfl, ?_⟩
  refine Ops.r (Run.asg rfl) rfl ?_
  refine Ops.nil ?_
  refine thenQ_n ?_
  refine VC.sub [(2, _)] (.cons rfl .nil) ?_
  refine VC.ret ?_
  refine end1 rfl ?_
  exact ⟨rfl, rfl⟩

set_option maxRecDepth 100000 in
theorem turned_bad (A' : Value) (v : Nat) (n : Int) (w : World) (hv : v ≤ 18446744073709551615) (he : rightE v n ≠ 0) :
    Calls Try.prog 15 #[A' , .int .u64 v, .int .i64 n] w fun e w' => e = .returned (.int .i64 ((rightE v n : Nat) : Int)) ∧ w = w' := by
  refine VC.calls (nt := 26) (res := #[.tmp 6]) Try.func15 rfl Try.ntmps15 Try.results15 rfl ?_
  refine VC.seq ?_
  refine VC.region ?_
  refine Ops.r (v := .int .i64 ((0 : Nat) : Int)) (Run.asg rfl) rfl ?_
  refine Ops.nil ?_
  refine thenQ_n ?_
  refine VC.sub [(0, _), (1, _), (2, _)] (.cons rfl (.cons rfl (.cons rfl .nil))) ?_
  refine VC.seq ?_
  refine VC.seq ?_
  refine VC.region ?_
  refine Ops.r (Run.mv rfl) rfl ?_
  refine Ops.r (Run.mv rfl) rfl ?_
  refine Ops.cl (Enters.fn (evs.cons rfl (evs.cons rfl evs.nil)) Try.call50) (right_spec v n _ hv) rfl ?_
  rintro e w1 ⟨rfl, rfl⟩
  refine ⟨_, rfl, ?_⟩
  refine Ops.r (Run.asg rfl) rfl ?_
  refine Ops.nil ?_
  refine thenQ_n ?_
  refine VC.sub [(0, _), (1, _), (2, _), (7, _)] (.cons rfl (.cons rfl (.cons rfl (.cons rfl .nil)))) ?_
  refine VC.seq ?_
  refine VC.region ?_
  refine Ops.r (Run.mv rfl) rfl ?_
  refine Ops.r (Run.bin rfl rfl (Bin.neqN _ 0)) rfl ?_
  refine Ops.nil ?_
  refine thenQ_n ?_
  refine VC.sub [(0, _), (1, _), (2, _), (7, _), (12, _)] (.cons rfl (.cons rfl (.cons rfl (.cons rfl (.cons rfl .nil))))) ?_
  refine VC.condT rfl (decide_eq_true he) ?_
  refine VC.seq ?_
  refine VC.region ?_
  refine Ops.r (Run.mv rfl) rfl ?_
  refine Ops.r (Run.asg rfl) rfl ?_
  refine Ops.nil ?_
  refine thenQ_n ?_
  refine VC.sub [(6, _)] (.cons rfl .nil) ?_
  refine VC.ret ?_
  refine thenQ_r (end1 rfl ?_)
  exact ⟨rfl, rfl⟩

set_option maxRecDepth 100000 in
theorem turned_ok (g v n : Nat) (A : Option Addr) (l : List Bool) (w : World) (hv : v < 2 ^ n) (hn : n ≤ 32) (hl : l.length ≤ 1000000000) (hW : IsW w g A l) :
    Calls Try.prog 15 #[.pointer (some ⟨g, 0, none⟩), .int .u64 v, .int .i64 n] w fun e w' => e = .returned (.int .i64 ((0 : Nat) : Int)) ∧ ∃ A', IsW w' g A' (l ++ (bitsL v n).reverse) ∧ Frm (g :: ob A) w w' ∧ ∀ x ∈ ob A', x ∈ ob A ∨ w.heap.size ≤ x := by
  have hpow : 2 ^ n ≤ 2 ^ 32 := Nat.pow_le_pow_right (by omega) hn
  have hpos := Nat.two_pow_pos n
  have hv64 : v ≤ 18446744073709551615 := by omega
  have he := rightE_ok v n hn hv
  have hrl := rev64_le v
  have hrd : rev64 v / 2 ^ (64 - n) ≤ 18446744073709551615 := Nat.le_trans (Nat.div_le_self _ _) hrl
  refine VC.calls (nt := 26) (res := #[.tmp 6]) Try.func15 rfl Try.ntmps15 Try.results15 rfl ?_
  refine VC.seq ?_
  refine VC.region ?_
  refine Ops.r (v := .int .i64 ((0 : Nat) : Int)) (Run.asg rfl) rfl ?_
  refine Ops.nil ?_
  refine thenQ_n ?_
  refine VC.sub [(0, _), (1, _), (2, _)] (.cons rfl (.cons rfl (.cons rfl .nil))) ?_
  refine VC.seq ?_
  refine VC.seq ?_
  refine VC.region ?_
  refine Ops.r (Run.mv rfl) rfl ?_
  refine Ops.r (Run.mv rfl) rfl ?_
  refine Ops.cl (Enters.fn (evs.cons rfl (evs.cons rfl evs.nil)) Try.call50) (right_spec v n _ hv64) rfl ?_
  rintro e w1 ⟨rfl, rfl⟩
  refine ⟨_, rfl, ?_⟩
  rw [he]
  refine Ops.r (Run.asg rfl) rfl ?_
  refine Ops.nil ?_
  refine thenQ_n ?_
  refine VC.sub [(0, _), (1, _), (2, _), (7, _)] (.cons rfl (.cons rfl (.cons rfl (.cons rfl .nil)))) ?_
  refine VC.seq ?_
  refine VC.region ?_
  refine Ops.r (Run.mv rfl) rfl ?_
  refine Ops.r (Run.bin rfl rfl (Bin.neqN _ 0)) rfl ?_
  refine Ops.nil ?_
  refine thenQ_n ?_
  refine VC.sub [(0, _), (1, _), (2, _), (7, _), (12, _)] (.cons rfl (.cons rfl (.cons rfl (.cons rfl (.cons rfl .nil))))) ?_
  refine VC.condF rfl (rfl) ?_
  refine VC.skip ?_
  refine thenQ_n ?_
  refine VC.sub [(0, _), (1, _), (2, _)] (.cons rfl (.cons rfl (.cons rfl .nil))) ?_
  refine VC.seq ?_
  refine VC.tail 11 (by kernel_rfl) (by kernel_rfl) ?_
  simp only [List.take_succ_cons, List.take_zero, List.drop_succ_cons, List.drop_zero]
  refine SOps.r (Run.mv rfl) rfl ?_
  refine SOps.r (Run.mv rfl) rfl ?_
  refine SOps.call (Enters.fn (evs.cons rfl evs.nil) Try.call52) (rev_spec v _ hv64) trivial rfl rfl ?_
  refine SOps.r (Run.mv rfl) rfl ?_
  refine SOps.r (Run.bin rfl rfl (Bin.sub_i64 64 _ (by omega) (by omega))) rfl ?_
  refine SOps.r (Run.bin rfl rfl (Bin.shr_u64 _ _ hrl)) rfl ?_
  refine SOps.r (Run.mv rfl) rfl ?_
  refine SOps.r (v := .int .u64 ((2 ^ n : Nat) : Int)) (Run.bin rfl rfl (by have := Bin.shl_u64 (k' := .i64) 1 n (by omega) (by omega); rwa [Nat.one_mul] at this)) rfl ?_
  refine SOps.r (Run.bin rfl rfl (Bin.sub_u64 _ 1 (by omega) (by omega))) rfl ?_
  refine SOps.r (Run.bin rfl rfl (Bin.and_u64 _ _ hrd (by omega))) rfl ?_
  refine SOps.r (Run.mv rfl) rfl ?_
  refine SOps.nil ?_
  refine Ops.cl (Enters.fn (evs.cons rfl (evs.cons rfl (evs.cons rfl evs.nil))) Try.call14) (put_ok g (turn v n) n A l _ (turn_lt v n) hn hl (hW.frm (Drawn.drew _).frm (by simp))) rfl ?_
  rintro e w2 ⟨rfl, A2, hW2, hfr2, hA2⟩
  refine ⟨_, rfl, ?_⟩
  refine Ops.r (Run.asg rfl) rfl ?_
  refine Ops.nil ?_
  refine thenQ_n ?_
  refine VC.sub [(6, _)] (.cons rfl .nil) ?_
  refine VC.ret ?_
  refine end1 rfl ?_
  rw [turn_bits v n (by omega)] at hW2
  exact ⟨rfl, A2, hW2, ((Drawn.drew _).frm.mono (by simp)).trans hfr2 (fun x hx => .inl hx), hA2⟩

set_option maxRecDepth 100000 in
theorem woctets_spec (g c0 : Nat) (A B : Option Addr) (l : List Bool) (bs : List Nat) (w : World) (hl : l.length ≤ 1000000000) (hbs : bs.length ≤ 1000000000) (hB : ∀ b ∈ bs, b < 256) (hW : IsW w g A l) (hr : Rd w 1 B bs.length (NB bs)) :
    Calls Try.prog 24 #[.pointer (some ⟨g, 0, none⟩), .slice B bs.length c0] w fun e w' => e = .returned (.tuple #[]) ∧ ∃ A', IsW w' g A' (whole l ++ ofB bs) ∧ Frm (g :: ob A) w w' ∧ ∀ x ∈ ob A', x ∈ ob A ∨ w.heap.size ≤ x := by
  obtain ⟨c, hb, ho⟩ := hW
  have hpl := pack_len l
  have hgA := ho.ne_blk hb (by decide)
  have hp : pack (whole l ++ ofB bs) = pack l ++ bs := by rw [pack_append_whole _ _ (by rw [whole_len]; omega), pack_whole, pack_ofB bs hB]
  have hlen : (whole l ++ ofB bs).length = 8 * ((pack l).length + bs.length) := by rw [List.length_append, whole_len, ofB_len, hpl]; omega
  refine VC.calls (nt := 22) (res := #[]) Try.func24 rfl Try.ntmps24 Try.results24 rfl ?_
  refine VC.seq ?_
  refine VC.region ?_
  refine Ops.r (Run.mv rfl) rfl ?_
  refine Ops.r (Run.mv rfl) rfl ?_
  refine Ops.r (Run.nilck rfl) rfl ?_
  refine Ops.r (Run.fieldAddr rfl Try.underlying82 rfl Try.sizeOf26 (by decide)) rfl ?_
  refine Ops.r (Run.load rfl Try.isAgg26 (hb.cell 0)) rfl ?_
  refine Ops.r (Run.mv rfl) rfl ?_
  refine Ops.m (Does.app rfl rfl Try.underlying26 (info5) rfl (by decide) ho hr (NB_one bs) (by omega) (by omega)) rfl ?_
  rintro _ w1 ⟨A1, c1, rfl, ho1, hfr1, hob1⟩
  have hb1 := hb.frm hfr1 hgA
  refine Ops.r (Run.nilck rfl) rfl ?_
  refine Ops.r (Run.fieldAddr rfl Try.underlying82 rfl Try.sizeOf26 (by decide)) rfl ?_
  refine Ops.st (Acts.store rfl rfl Try.sizeOf26 hb1 rfl rfl) ?_
  rintro w2 ⟨hb2, hfr2, hsz2⟩
  refine Ops.nil ?_
  refine thenQ_n ?_
  refine VC.sub [(0, _)] (.cons rfl .nil) ?_
  refine VC.region ?_
  refine Ops.r (Run.mv rfl) rfl ?_
  refine Ops.r (Run.mv rfl) rfl ?_
  refine Ops.r (Run.nilck rfl) rfl ?_
  refine Ops.r (Run.fieldAddr rfl Try.underlying82 rfl Try.sizeOf26 (by decide)) rfl ?_
  refine Ops.r (Run.load rfl Try.isAgg26 (hb2.cell 0)) rfl ?_
  refine Ops.r (Run.lenS rfl Try.underlying26) rfl ?_
  refine Ops.r (Run.bin rfl rfl (Bin.mul_i64 8 _ (by omega))) rfl ?_
  refine Ops.r (Run.nilck rfl) rfl ?_
  refine Ops.r (Run.fieldAddr rfl Try.underlying82 rfl Try.sizeOf3 (by decide)) rfl ?_
  refine Ops.st (Acts.store rfl rfl Try.sizeOf3 hb2 rfl rfl) ?_
  rintro w3 ⟨hb3, hfr3, hsz3⟩
  refine Ops.nil ?_
  refine end0n ?_
  have hne : ∀ x ∈ ob A1, x ∉ [g] := by
    intro x hx hx2
    simp at hx2
    subst hx2
    exact ho1.ne_blk hb1 (by decide) hx
  refine ⟨rfl, A1, ⟨c1, ?_, ?_⟩, ?_, ?_⟩
  · rw [hp, hlen, List.length_append]; exact hb3
  · rw [hp, List.length_append, NB_append]; exact (ho1.frm hfr2 hne).frm hfr3 hne
  · exact ((hfr1.mono (T := g :: ob A) (fun x hx => .inl (by simp [hx]))).trans hfr2 (fun x hx => .inl (by simp at hx; simp [hx]))).trans hfr3 (fun x hx => .inl (by simp at hx; simp [hx]))
  · intro x hx
    rcases hob1 with h | h <;> rw [h] at hx
    · exact .inl hx
    · right; simp at hx; omega

set_option maxRecDepth 100000 in
theorem count_spec (g : Nat) (A : Option Addr) (l : List Bool) (w : World) (hW : IsW w g A l) :
    Calls Try.prog 27 #[.pointer (some ⟨g, 0, none⟩)] w fun e w' => e = .returned (.int .i64 ((l.length : Nat) : Int)) ∧ w = w' := by
  obtain ⟨c, hb, ho⟩ := hW
  refine VC.calls (nt := 7) (res := #[.tmp 2]) Try.func27 rfl Try.ntmps27 Try.results27 rfl ?_
  refine VC.seq ?_
  refine VC.region ?_
  refine Ops.r (v := .int .i64 ((0 : Nat) : Int)) (Run.asg rfl) rfl ?_
  refine Ops.nil ?_
  refine thenQ_n ?_
  refine VC.sub [(0, _)] (.cons rfl .nil) ?_
  refine VC.seq ?_
  refine VC.region ?_
  refine Ops.r (Run.mv rfl) rfl ?_
  refine Ops.r (Run.nilck rfl) rfl ?_
  refine Ops.r (Run.fieldAddr rfl Try.underlying82 rfl Try.sizeOf3 (by decide)) rfl ?_
  refine Ops.r (Run.load rfl Try.isAgg3 (hb.cell 1)) rfl ?_
  refine Ops.r (Run.asg rfl) rfl ?_
  refine Ops.nil ?_
  refine thenQ_n ?_
  refine VC.sub [(2, _)] (.cons rfl .nil) ?_
  refine VC.ret ?_
  refine end1 rfl ?_
  exact ⟨rfl, rfl⟩

set_option maxRecDepth 100000 in
theorem bytes_spec (g : Nat) (A : Option Addr) (l : List Bool) (w : World) (hl : l.length ≤ 1000000000000) (hW : IsW w g A l) :
    Calls Try.prog 17 #[.pointer (some ⟨g, 0, none⟩)] w fun e w' => ∃ B c, e = .returned (.slice B (pack l).length c) ∧ Own w' 5 1 B (pack l).length c (NB (pack l)) ∧ Frm [] w w' ∧ ∀ x ∈ ob B, w.heap.size ≤ x := by
  obtain ⟨c, hb, ho⟩ := hW
  have hpl := pack_len l
  refine VC.calls (nt := 8) (res := #[.tmp 2]) Try.func17 rfl Try.ntmps17 Try.results17 rfl ?_
  refine VC.seq ?_
  refine VC.region ?_
  refine Ops.r (Run.asg rfl) rfl ?_
  refine Ops.nil ?_
  refine thenQ_n ?_
  refine VC.sub [(0, _)] (.cons rfl .nil) ?_
  refine VC.seq ?_
  refine VC.region ?_
  refine Ops.r (Run.mv rfl) rfl ?_
  refine Ops.r (Run.nilck rfl) rfl ?_
  refine Ops.r (Run.fieldAddr rfl Try.underlying82 rfl Try.sizeOf26 (by decide)) rfl ?_
  refine Ops.r (Run.load rfl Try.isAgg26 (hb.cell 0)) rfl ?_
  refine Ops.m (Does.app rfl rfl Try.underlying26 (info5) rfl (by decide) (Own.nil _ _ _) ho.rd (NB_one _) (by omega) (by omega)) rfl ?_
  rintro _ w1 ⟨A1, c1, rfl, ho1, hfr1, hob1⟩
  refine Ops.r (Run.asg rfl) rfl ?_
  refine Ops.nil ?_
  refine thenQ_n ?_
  refine VC.sub [(2, _)] (.cons rfl .nil) ?_
  refine VC.ret ?_
  refine end1 rfl ?_
  rw [Nat.zero_add, List.nil_append] at ho1
  refine ⟨A1, c1, by rw [Nat.zero_add], ho1, hfr1, ?_⟩
  intro x hx
  rcases hob1 with h | h <;> rw [h] at hx <;> simp [ob] at hx
  omega

set_option maxRecDepth 100000 in
theorem read_spec (B : Option Addr) (c0 : Nat) (bs : List Nat) (w : World) (hbs : bs.length ≤ 1000000000) (hr : Rd w 1 B bs.length (NB bs)) :
    Calls Try.prog 16 #[.slice B bs.length c0] w fun e w' => ∃ g A, e = .returned (.pointer (some ⟨g, 0, none⟩)) ∧ IsR w' g A bs 0 ∧ Frm [] w w' ∧ ∀ x ∈ g :: ob A, w.heap.size ≤ x := by
  refine VC.calls (nt := 7) (res := #[.tmp 2]) Try.func16 rfl Try.ntmps16 Try.results16 rfl ?_
  refine VC.seq ?_
  refine VC.region ?_
  refine Ops.r (Run.asg rfl) rfl ?_
  refine Ops.nil ?_
  refine thenQ_n ?_
  refine VC.sub [(0, _)] (.cons rfl .nil) ?_
  refine VC.seq ?_
  refine VC.region ?_
  refine Ops.r (Run.mv rfl) rfl ?_
  refine Ops.m (Does.app rfl rfl Try.underlying26 (info5) rfl (by decide) (Own.nil _ _ _) hr (NB_one _) (by omega) (by omega)) rfl ?_
  rintro _ w1 ⟨A1, c1, rfl, ho1, hfr1, hob1⟩
  rw [Nat.zero_add, List.nil_append] at ho1
  rw [Nat.zero_add]
  refine Ops.r (Run.build (evs.cons rfl evs.nil) zero86 (places86).choose_spec.1 (places86).choose_spec.2 rfl) rfl ?_
  refine Ops.m (Does.box rfl) rfl ?_
  rintro _ w2 ⟨rfl, hF⟩
  refine Ops.r (Run.asg rfl) rfl ?_
  refine Ops.nil ?_
  refine thenQ_n ?_
  refine VC.sub [(2, _)] (.cons rfl .nil) ?_
  refine VC.ret ?_
  refine end1 rfl ?_
  refine ⟨w1.heap.size, A1, rfl, ⟨c1, hF.blk, ho1.frm hF.frm (by simp)⟩, hfr1.trans hF.frm (by simp), ?_⟩
  intro x hx
  rcases List.mem_cons.1 hx with rfl | hx
  · exact hfr1.size
  · rcases hob1 with h | h <;> rw [h] at hx <;> simp [ob] at hx
    omega

set_option maxRecDepth 100000 in
theorem at_spec (g p : Nat) (A : Option Addr) (bs : List Nat) (w : World) (hR : IsR w g A bs p) :
    Calls Try.prog 32 #[.pointer (some ⟨g, 0, none⟩)] w fun e w' => e = .returned (.int .i64 ((p : Nat) : Int)) ∧ w = w' := by
  obtain ⟨c, hb, ho⟩ := hR
  refine VC.calls (nt := 7) (res := #[.tmp 2]) Try.func32 rfl Try.ntmps32 Try.results32 rfl ?_
  refine VC.seq ?_
  refine VC.region ?_
  refine Ops.r (v := .int .i64 ((0 : Nat) : Int)) (Run.asg rfl) rfl ?_
  refine Ops.nil ?_
  refine thenQ_n ?_
  refine VC.sub [(0, _)] (.cons rfl .nil) ?_
  refine VC.seq ?_
  refine VC.region ?_
  refine Ops.r (Run.mv rfl) rfl ?_
  refine Ops.r (Run.nilck rfl) rfl ?_
  refine Ops.r (Run.fieldAddr rfl Try.underlying86 rfl Try.sizeOf3 (by decide)) rfl ?_
  refine Ops.r (Run.load rfl Try.isAgg3 (hb.cell 1)) rfl ?_
  refine Ops.r (Run.asg rfl) rfl ?_
  refine Ops.nil ?_
  refine thenQ_n ?_
  refine VC.sub [(2, _)] (.cons rfl .nil) ?_
  refine VC.ret ?_
  refine end1 rfl ?_
  exact ⟨rfl, rfl⟩

set_option maxRecDepth 100000 in
theorem left_spec (g p : Nat) (A : Option Addr) (bs : List Nat) (w : World) (hp : p ≤ 8 * bs.length) (hbs : bs.length ≤ 1000000000) (hR : IsR w g A bs p) :
    Calls Try.prog 19 #[.pointer (some ⟨g, 0, none⟩)] w fun e w' => e = .returned (.int .i64 ((8 * bs.length - p : Nat) : Int)) ∧ Drawn w w' := by
  obtain ⟨c, hb, ho⟩ := hR
  refine VC.calls (nt := 14) (res := #[.tmp 2]) Try.func19 rfl Try.ntmps19 Try.results19 rfl ?_
  refine VC.seq ?_
  refine VC.region ?_
  refine Ops.r (v := .int .i64 ((0 : Nat) : Int)) (Run.asg rfl) rfl ?_
  refine Ops.nil ?_
  refine thenQ_n ?_
  refine VC.sub [(0, _)] (.cons rfl .nil) ?_
  refine VC.seq ?_
  refine VC.still (by kernel_rfl) (by kernel_rfl) ?_
  refine SOps.r (Run.mv rfl) rfl ?_
  refine SOps.r (Run.nilck rfl) rfl ?_
  refine SOps.r (Run.fieldAddr rfl Try.underlying86 rfl Try.sizeOf26 (by decide)) rfl ?_
  refine SOps.r (Run.load rfl Try.isAgg26 (hb.cell 0)) rfl ?_
  refine SOps.r (Run.lenS rfl Try.underlying26) rfl ?_
  refine SOps.r (Run.bin rfl rfl (Bin.mul_i64 8 _ (by omega))) rfl ?_
  refine SOps.r (Run.mv rfl) rfl ?_
  refine SOps.r (Run.nilck rfl) rfl ?_
  refine SOps.r (Run.fieldAddr rfl Try.underlying86 rfl Try.sizeOf3 (by decide)) rfl ?_
  refine SOps.r (Run.load rfl Try.isAgg3 (hb.cell 1)) rfl ?_
  refine SOps.r (Run.bin rfl rfl (Bin.sub_i64 _ _ (by omega) (by omega))) rfl ?_
  refine SOps.r (Run.asg rfl) rfl ?_
  refine SOps.nil ?_
  refine thenQ_n ?_
  refine VC.sub [(2, _)] (.cons rfl .nil) ?_
  refine VC.ret ?_
  refine end1 rfl ?_
  exact ⟨rfl, Drawn.drew _⟩

set_option maxRecDepth 100000 in
theorem align_spec (g p : Nat) (A : Option Addr) (bs : List Nat) (w : World) (hp : p ≤ 8 * bs.length) (hbs : bs.length ≤ 1000000000) (hR : IsR w g A bs p) :
    Calls Try.prog 30 #[.pointer (some ⟨g, 0, none⟩)] w fun e w' => e = .returned (.tuple #[]) ∧ IsR w' g A bs ((p + 7) / 8 * 8) ∧ Frm [g] w w' := by
  obtain ⟨c, hb, ho⟩ := hR
  refine VC.calls (nt := 12) (res := #[]) Try.func30 rfl Try.ntmps30 Try.results30 rfl ?_
  refine VC.region ?_
  refine Ops.r (Run.mv rfl) rfl ?_
  refine Ops.r (Run.mv rfl) rfl ?_
  refine Ops.r (Run.nilck rfl) rfl ?_
  refine Ops.r (Run.fieldAddr rfl Try.underlying86 rfl Try.sizeOf3 (by decide)) rfl ?_
  refine Ops.r (Run.load rfl Try.isAgg3 (hb.cell 1)) rfl ?_
  refine Ops.r (Run.bin rfl rfl (Bin.add_i64 _ 7 (by omega))) rfl ?_
  refine Ops.r (Run.bin rfl rfl (Bin.quo_i64 _ 8 (by omega) (by omega))) rfl ?_
  refine Ops.r (Run.bin rfl rfl (Bin.mul_i64 _ 8 (by omega))) rfl ?_
  refine Ops.r (Run.nilck rfl) rfl ?_
  refine Ops.r (Run.fieldAddr rfl Try.underlying86 rfl Try.sizeOf3 (by decide)) rfl ?_
  refine Ops.st (Acts.store rfl rfl Try.sizeOf3 hb rfl rfl) ?_
  rintro w1 ⟨hb1, hfr1, hsz1⟩
  refine Ops.nil ?_
  refine end0n ?_
  refine ⟨rfl, ⟨c, hb1, ho.frm hfr1 ?_⟩, hfr1⟩
  intro x hx hx2
  simp at hx2
  subst hx2
  exact ho.ne_blk hb (by decide) hx

set_option maxRecDepth 100000 in
theorem take_neg (g : Nat) (n : Int) (w : World) (hn : n < 0) :
    Calls Try.prog 18 #[.pointer (some ⟨g, 0, none⟩), .int .i64 n] w fun e w' => e = .returned (.tuple #[.int .u64 ((0 : Nat) : Int), .int .i64 ((1 : Nat) : Int)]) ∧ w = w' := by
  refine VC.calls (nt := 56) (res := #[.tmp 4, .tmp 5]) Try.func18 rfl Try.ntmps18 Try.results18 rfl ?_
  refine VC.seq ?_
  refine VC.region ?_
  refine Ops.r (v := .int .u64 ((0 : Nat) : Int)) (Run.asg rfl) rfl ?_
  refine Ops.r (v := .int .i64 ((0 : Nat) : Int)) (Run.asg rfl) rfl ?_
  refine Ops.nil ?_
  refine thenQ_n ?_
  refine VC.sub [(0, _), (1, _)] (.cons rfl (.cons rfl .nil)) ?_
  refine VC.seq ?_
  refine VC.block ?_
  refine VC.seq ?_
  refine VC.region ?_
  refine Ops.r (Run.mv rfl) rfl ?_
  refine Ops.r (Run.bin rfl rfl (Bin.lss _ 0)) rfl ?_
  refine Ops.r (Run.mv rfl) rfl ?_
  refine Ops.sk rfl (by simpa using hn) rfl ?_
  refine Ops.sk rfl (by simpa using hn) rfl ?_
  refine Ops.r (Run.pickT rfl rfl (decide_eq_true hn)) rfl ?_
  refine Ops.r (Run.asg rfl) rfl ?_
  refine Ops.nil ?_
  refine thenQ_n ?_
  refine VC.sub [(0, _), (1, _), (8, _)] (.cons rfl (.cons rfl (.cons rfl .nil))) ?_
  refine VC.condT rfl (rfl) ?_
  refine VC.seq ?_
  refine VC.region ?_
  refine Ops.r (v := .int .u64 ((0 : Nat) : Int)) (Run.asg rfl) rfl ?_
  refine Ops.r (v := .int .i64 ((1 : Nat) : Int)) (Run.asg rfl) rfl ?_
  refine Ops.nil ?_
  refine thenQ_n ?_
  refine VC.sub [(4, _), (5, _)] (.cons rfl (.cons rfl .nil)) ?_
  refine VC.ret ?_
  refine blockQ_r (thenQ_r (end2 rfl rfl ?_))
  exact ⟨rfl, rfl⟩

set_option maxRecDepth 100000 in
theorem take_big (g : Nat) (n : Int) (w : World) (hn : 32 < n) :
    Calls Try.prog 18 #[.pointer (some ⟨g, 0, none⟩), .int .i64 n] w fun e w' => e = .returned (.tuple #[.int .u64 ((0 : Nat) : Int), .int .i64 ((1 : Nat) : Int)]) ∧ w = w' := by
  refine VC.calls (nt := 56) (res := #[.tmp 4, .tmp 5]) Try.func18 rfl Try.ntmps18 Try.results18 rfl ?_
  refine VC.seq ?_
  refine VC.region ?_
  refine Ops.r (v := .int .u64 ((0 : Nat) : Int)) (Run.asg rfl) rfl ?_
  refine Ops.r (v := .int .i64 ((0 : Nat) : Int)) (Run.asg rfl) rfl ?_
  refine Ops.nil ?_
  refine thenQ_n ?_
  refine VC.sub [(0, _), (1, _)] (.cons rfl (.cons rfl .nil)) ?_
  refine VC.seq ?_
  refine VC.block ?_
  refine VC.seq ?_
  refine VC.region ?_
  refine Ops.r (Run.mv rfl) rfl ?_
  refine Ops.r (Run.bin rfl rfl (Bin.lss _ 0)) rfl ?_
  refine Ops.r (Run.mv rfl) rfl ?_
  refine Ops.rg rfl (decide_eq_false (by omega)) (Run.mv rfl) rfl ?_
  refine Ops.rg rfl (decide_eq_false (by omega)) (Run.bin rfl rfl (Bin.gtr _ 32)) rfl ?_
  refine Ops.r (Run.pickF rfl rfl (decide_eq_false (by omega))) rfl ?_
  refine Ops.r (Run.asg rfl) rfl ?_
  refine Ops.nil ?_
  refine thenQ_n ?_
  refine VC.sub [(0, _), (1, _), (8, _)] (.cons rfl (.cons rfl (.cons rfl .nil))) ?_
  refine VC.condT rfl (decide_eq_true hn) ?_
  refine VC.seq ?_
  refine VC.region ?_
  refine Ops.r (v := .int .u64 ((0 : Nat) : Int)) (Run.asg rfl) rfl ?_
  refine Ops.r (v := .int .i64 ((1 : Nat) : Int)) (Run.asg rfl) rfl ?_
  refine Ops.nil ?_
  refine thenQ_n ?_
  refine VC.sub [(4, _), (5, _)] (.cons rfl (.cons rfl .nil)) ?_
  refine VC.ret ?_
  refine blockQ_r (thenQ_r (end2 rfl rfl ?_))
  exact ⟨rfl, rfl⟩

set_option maxRecDepth 100000 in
theorem take_short (g n p : Nat) (A : Option Addr) (bs : List Nat) (w : World) (hp : p ≤ 8 * bs.length) (hbs : bs.length ≤ 1000000000) (hR : IsR w g A bs p) (hn : n ≤ 32) (hs : 8 * bs.length - p < n) :
    Calls Try.prog 18 #[.pointer (some ⟨g, 0, none⟩), .int .i64 n] w fun e w' => e = .returned (.tuple #[.int .u64 ((0 : Nat) : Int), .int .i64 ((2 : Nat) : Int)]) ∧ Drawn w w' := by
  refine VC.calls (nt := 56) (res := #[.tmp 4, .tmp 5]) Try.func18 rfl Try.ntmps18 Try.results18 rfl ?_
  refine VC.seq ?_
  refine VC.region ?_
  refine Ops.r (v := .int .u64 ((0 : Nat) : Int)) (Run.asg rfl) rfl ?_
  refine Ops.r (v := .int .i64 ((0 : Nat) : Int)) (Run.asg rfl) rfl ?_
  refine Ops.nil ?_
  refine thenQ_n ?_
  refine VC.sub [(0, _), (1, _)] (.cons rfl (.cons rfl .nil)) ?_
  refine VC.seq ?_
  refine VC.block ?_
  refine VC.seq ?_
  refine VC.region ?_
  refine Ops.r (Run.mv rfl) rfl ?_
  refine Ops.r (Run.bin rfl rfl (Bin.lssN _ 0)) rfl ?_
  refine Ops.r (Run.mv rfl) rfl ?_
  refine Ops.rg rfl (decide_eq_false (by omega)) (Run.mv rfl) rfl ?_
  refine Ops.rg rfl (decide_eq_false (by omega)) (Run.bin rfl rfl (Bin.gtrN _ 32)) rfl ?_
  refine Ops.r (Run.pickF rfl rfl (decide_eq_false (by omega))) rfl ?_
  refine Ops.r (Run.asg rfl) rfl ?_
  refine Ops.nil ?_
  refine thenQ_n ?_
  refine VC.sub [(0, _), (1, _), (8, _)] (.cons rfl (.cons rfl (.cons rfl .nil))) ?_
  refine VC.condF rfl (decide_eq_false (by omega)) ?_
  refine VC.seq ?_
  refine VC.region ?_
  refine Ops.r (Run.mv rfl) rfl ?_
  refine Ops.r (Run.mv rfl) rfl ?_
  refine Ops.cl (Enters.fn (evs.cons rfl evs.nil) Try.call19) (left_spec g p A bs _ hp hbs hR) rfl ?_
  rintro e w1 ⟨rfl, hd1⟩
  refine ⟨_, rfl, ?_⟩
  refine Ops.r (Run.bin rfl rfl (Bin.gtrN _ _)) rfl ?_
  refine Ops.r (Run.asg rfl) rfl ?_
  refine Ops.nil ?_
  refine thenQ_n ?_
  refine VC.sub [(0, _), (1, _), (15, _)] (.cons rfl (.cons rfl (.cons rfl .nil))) ?_
  refine VC.condT rfl (decide_eq_true hs) ?_
  refine VC.seq ?_
  refine VC.region ?_
  refine Ops.r (v := .int .u64 ((0 : Nat) : Int)) (Run.asg rfl) rfl ?_
  refine Ops.r (v := .int .i64 ((2 : Nat) : Int)) (Run.asg rfl) rfl ?_
  refine Ops.nil ?_
  refine thenQ_n ?_
  refine VC.sub [(4, _), (5, _)] (.cons rfl (.cons rfl .nil)) ?_
  refine VC.ret ?_
  refine blockQ_r (thenQ_r (end2 rfl rfl ?_))
  exact ⟨rfl, hd1⟩

set_option maxRecDepth 100000 in
theorem take_ok (g n p : Nat) (A : Option Addr) (bs : List Nat) (w : World) (hp : p ≤ 8 * bs.length) (hbs : bs.length ≤ 1000000000) (hB : ∀ b ∈ bs, b < 256) (hR : IsR w g A bs p) (hn : n ≤ 32) (hs : n ≤ 8 * bs.length - p) :
    Calls Try.prog 18 #[.pointer (some ⟨g, 0, none⟩), .int .i64 n] w fun e w' => e = .returned (.tuple #[.int .u64 ((num (((ofB bs).drop p).take n) : Nat) : Int), .int .i64 ((0 : Nat) : Int)]) ∧ IsR w' g A bs (p + n) ∧ Frm [g] w w' := by
  refine VC.calls (nt := 56) (res := #[.tmp 4, .tmp 5]) Try.func18 rfl Try.ntmps18 Try.results18 rfl ?_
  refine VC.seq ?_
  refine VC.region ?_
  refine Ops.r (v := .int .u64 ((0 : Nat) : Int)) (Run.asg rfl) rfl ?_
  refine Ops.r (v := .int .i64 ((0 : Nat) : Int)) (Run.asg rfl) rfl ?_
  refine Ops.nil ?_
  refine thenQ_n ?_
  refine VC.sub [(0, _), (1, _)] (.cons rfl (.cons rfl .nil)) ?_
  refine VC.seq ?_
  refine VC.block ?_
  refine VC.seq ?_
  refine VC.region ?_
  refine Ops.r (Run.mv rfl) rfl ?_
  refine Ops.r (Run.bin rfl rfl (Bin.lssN _ 0)) rfl ?_
  refine Ops.r (Run.mv rfl) rfl ?_
  refine Ops.rg rfl (decide_eq_false (by omega)) (Run.mv rfl) rfl ?_
  refine Ops.rg rfl (decide_eq_false (by omega)) (Run.bin rfl rfl (Bin.gtrN _ 32)) rfl ?_
  refine Ops.r (Run.pickF rfl rfl (decide_eq_false (by omega))) rfl ?_
  refine Ops.r (Run.asg rfl) rfl ?_
  refine Ops.nil ?_
  refine thenQ_n ?_
  refine VC.sub [(0, _), (1, _), (8, _)] (.cons rfl (.cons rfl (.cons rfl .nil))) ?_
  refine VC.condF rfl (decide_eq_false (by omega)) ?_
  refine VC.seq ?_
  refine VC.region ?_
  refine Ops.r (Run.mv rfl) rfl ?_
  refine Ops.r (Run.mv rfl) rfl ?_
  refine Ops.cl (Enters.fn (evs.cons rfl evs.nil) Try.call19) (left_spec g p A bs _ hp hbs hR) rfl ?_
  rintro e w1 ⟨rfl, hd1⟩
  refine ⟨_, rfl, ?_⟩
  refine Ops.r (Run.bin rfl rfl (Bin.gtrN _ _)) rfl ?_
  refine Ops.r (Run.asg rfl) rfl ?_
  refine Ops.nil ?_
  refine thenQ_n ?_
  refine VC.sub [(0, _), (1, _), (15, _)] (.cons rfl (.cons rfl (.cons rfl .nil))) ?_
  refine VC.condF rfl (decide_eq_false (by omega)) ?_
  refine VC.skip ?_
  refine blockQ_n (thenQ_n ?_)
  refine VC.sub [(0, _), (1, _)] (.cons rfl (.cons rfl .nil)) ?_
  refine VC.seq ?_
  refine VC.region ?_
  refine Ops.r (v := .int .u64 ((0 : Nat) : Int)) (Run.asg rfl) rfl ?_
  refine Ops.nil ?_
  refine thenQ_n ?_
  refine VC.seq ?_
  refine VC.seq ?_
  refine VC.region ?_
  refine Ops.r (Run.mv rfl) rfl ?_
  refine Ops.r (v := .int .i64 ((0 : Nat) : Int)) (Run.mv rfl) rfl ?_
  refine Ops.nil ?_
  refine thenQ_n ?_
  refine VC.sub [(0, _), (6, _), (20, _), (21, _)] (.cons rfl (.cons rfl (.cons rfl (.cons rfl .nil)))) ?_
  refine VC.block ?_
  refine VC.loop (σ := Nat) (fun s => [(0, .pointer (some ⟨g, 0, none⟩)), (6, .int .u64 ((num (((ofB bs).drop p).take s) : Nat) : Int)), (20, .int .i64 n), (21, .int .i64 s)]) (fun s wr => s ≤ n ∧ IsR wr g A bs (p + s) ∧ Frm [g] w wr) (fun s => n - s) 0 (.cons rfl (.cons rfl (.cons rfl (.cons rfl .nil)))) ⟨by omega, hR.frm hd1.frm (by simp), hd1.frm.mono (by simp)⟩ ?_
  rintro k wr ⟨hk, hR1, hfr1⟩
  obtain ⟨c, hb, ho⟩ := hR1
  refine VC.seq ?_
  refine VC.region ?_
  refine Ops.r (Run.bin rfl rfl (Bin.lssN _ _)) rfl ?_
  refine Ops.nil ?_
  refine thenQ_n ?_
  refine VC.seq ?_
  refine VC.condD rfl (fun hc3 => ?_) (fun hc3 => ?_)
  · skip
    obtain ⟨ad, rfl, hadlt, hadc⟩ := ho.rd.2 (by omega)
    have hcell := hadc _ _ (NB_get bs ((p + k) / 8) (by omega))
    have hbl : bs.getD ((p + k) / 8) 0 < 256 := by
      rw [List.getD_eq_getElem?_getD, List.getElem?_eq_getElem (by omega)]
      exact hB _ (List.getElem_mem _)
    have hpk : 2 ^ k ≤ 2 ^ 32 := Nat.pow_le_pow_right (by omega) (by omega)
    have hbit := ofB_get bs (p + k) (by omega)
    have hnk := num_lt (((ofB bs).drop p).take k)
    have hnl : (((ofB bs).drop p).take k).length = k := by rw [List.length_take, List.length_drop, ofB_len]; omega
    rw [hnl] at hnk
    have hsn := take_succ_num (ofB bs) p k _ hbit
    rw [← or_top _ _ _ hnk] at hsn
    have h1m := and1 (bs.getD ((p + k) / 8) 0 / 2 ^ ((p + k) % 8))
    have hdl : bs.getD ((p + k) / 8) 0 / 2 ^ ((p + k) % 8) ≤ 255 := Nat.le_trans (Nat.div_le_self _ _) (by omega)
    have h1l : bs.getD ((p + k) / 8) 0 / 2 ^ ((p + k) % 8) &&& 1 ≤ 1 := Nat.and_le_right
    have h2l : (bs.getD ((p + k) / 8) 0 / 2 ^ ((p + k) % 8) &&& 1) * 2 ^ k ≤ 1 * 2 ^ k := Nat.mul_le_mul_right _ h1l
    refine VC.skip ?_
    refine thenQ_n ?_
    refine VC.sub [(0, _), (6, _), (20, _), (21, _)] (.cons rfl (.cons rfl (.cons rfl (.cons rfl .nil)))) ?_
    refine VC.seq ?_
    refine VC.block ?_
    refine VC.seq ?_
    refine VC.region ?_
    refine Ops.r (Run.mv rfl) rfl ?_
    refine Ops.r (Run.asg rfl) rfl ?_
    refine Ops.nil ?_
    refine thenQ_n ?_
    refine VC.sub [(0, _), (6, _), (7, _), (20, _), (21, _)] (.cons rfl (.cons rfl (.cons rfl (.cons rfl (.cons rfl .nil))))) ?_
    refine VC.seq ?_
    refine VC.still (by kernel_rfl) (by kernel_rfl) ?_
    refine SOps.r (Run.mv rfl) rfl ?_
    refine SOps.r (Run.mv rfl) rfl ?_
    refine SOps.r (Run.nilck rfl) rfl ?_
    refine SOps.r (Run.fieldAddr rfl Try.underlying86 rfl Try.sizeOf26 (by decide)) rfl ?_
    refine SOps.r (Run.load rfl Try.isAgg26 (hb.cell 0)) rfl ?_
    refine SOps.r (Run.mv rfl) rfl ?_
    refine SOps.r (Run.nilck rfl) rfl ?_
    refine SOps.r (Run.fieldAddr rfl Try.underlying86 rfl Try.sizeOf3 (by decide)) rfl ?_
    refine SOps.r (Run.load rfl Try.isAgg3 (hb.cell 1)) rfl ?_
    refine SOps.r (Run.bin rfl rfl (Bin.quo_i64 _ 8 (by omega) (by omega))) rfl ?_
    refine SOps.r (Run.index1 _ rfl rfl Try.underlying26 Try.sizeOf5 (by omega)) rfl ?_
    refine SOps.r (Run.load rfl Try.isAgg5 hcell) rfl ?_
    refine SOps.r (Run.mv rfl) rfl ?_
    refine SOps.r (Run.nilck rfl) rfl ?_
    refine SOps.r (Run.fieldAddr rfl Try.underlying86 rfl Try.sizeOf3 (by decide)) rfl ?_
    refine SOps.r (Run.load rfl Try.isAgg3 (hb.cell 1)) rfl ?_
    refine SOps.r (Run.bin rfl rfl (Bin.remN _ 8 (by omega))) rfl ?_
    refine SOps.r (Run.bin rfl rfl (Bin.shr_u8 _ _ (by omega))) rfl ?_
    refine SOps.r (Run.bin rfl rfl (Bin.and_u8 _ 1 hdl (by omega))) rfl ?_
    refine SOps.r (Run.convN _ rfl Try.underlying5 Try.underlying25 (by simp only [bmax]; omega)) rfl ?_
    refine SOps.r (Run.mv rfl) rfl ?_
    refine SOps.r (Run.bin rfl rfl (Bin.shl_u64 _ _ (by omega) (by omega))) rfl ?_
    refine SOps.r (Run.bin rfl rfl (Bin.or_u64 _ _ (by omega) (by omega))) rfl ?_
    refine SOps.r (Run.asg rfl) rfl ?_
    refine SOps.nil ?_
    refine thenQ_n ?_
    refine VC.sub [(0, _), (6, _), (20, _), (21, _)] (.cons rfl (.cons rfl (.cons rfl (.cons rfl .nil)))) ?_
    refine VC.region ?_
    refine Ops.r (Run.mv rfl) rfl ?_
    refine Ops.r (Run.nilck rfl) rfl ?_
    refine Ops.r (Run.fieldAddr rfl Try.underlying86 rfl Try.sizeOf3 (by decide)) rfl ?_
    refine Ops.r (Run.load rfl Try.isAgg3 ((hb.drawn (Drawn.drew _)).cell 1)) rfl ?_
    refine Ops.r (Run.bin rfl rfl (Bin.add_i64 _ 1 (by omega))) rfl ?_
    refine Ops.r (Run.nilck rfl) rfl ?_
    refine Ops.r (Run.fieldAddr rfl Try.underlying86 rfl Try.sizeOf3 (by decide)) rfl ?_
    refine Ops.st (Acts.store rfl rfl Try.sizeOf3 (hb.drawn (Drawn.drew _)) rfl rfl) ?_
    rintro w2 ⟨hb2, hfr2, hsz2⟩
    refine Ops.nil ?_
    refine blockQ_n (thenQ_n ?_)
    refine VC.sub [(0, _), (6, _), (20, _), (21, _)] (.cons rfl (.cons rfl (.cons rfl (.cons rfl .nil)))) ?_
    refine VC.region ?_
    refine Ops.r (Run.bin rfl rfl (Bin.add_i64 _ 1 (by omega))) rfl ?_
    refine Ops.r (Run.mv rfl) rfl ?_
    refine Ops.nil ?_
    refine thenQ_n ⟨(k + 1), (.cons rfl (.cons (by rw [hsn, ← h1m]; rfl) (.cons rfl (.cons rfl .nil)))), ?_, ?_⟩
    · skip
      refine ⟨hc3, ⟨c, hb2, (ho.drawn (Drawn.drew _)).frm hfr2 ?_⟩, (hfr1.drawn (Drawn.drew _)).trans hfr2 (fun x hx => .inl hx)⟩
      intro x hx hx2
      simp at hx2
      subst hx2
      exact ho.ne_blk hb (by decide) hx
    · skip
      first | omega | (dsimp only; omega)
  · skip
    refine VC.exit ?_
    refine thenQ_x (thenQ_x (blockQ_x ?_))
    refine thenQ_n ?_
    refine VC.sub [(6, _)] (.cons rfl .nil) ?_
    refine VC.seq ?_
    refine VC.region ?_
    refine Ops.r (Run.mv rfl) rfl ?_
    refine Ops.r (Run.asg rfl) rfl ?_
    refine Ops.r (v := .int .i64 ((0 : Nat) : Int)) (Run.asg rfl) rfl ?_
    refine Ops.nil ?_
    refine thenQ_n ?_
    refine VC.sub [(4, _), (5, _)] (.cons rfl (.cons rfl .nil)) ?_
    refine VC.ret ?_
    refine end2 rfl rfl ?_
    have : k = n := by omega
    subst this
    exact ⟨rfl, ⟨c, hb, ho⟩, hfr1⟩

set_option maxRecDepth 100000 in
theorem octets_neg (g : Nat) (n : Int) (p : Nat) (A : Option Addr) (bs : List Nat) (w : World) (hp : p ≤ 8 * bs.length) (hbs : bs.length ≤ 1000000000) (hR : IsR w g A bs p) (hn : n < 0) :
    Calls Try.prog 31 #[.pointer (some ⟨g, 0, none⟩), .int .i64 n] w fun e w' => e = .returned (.tuple #[.slice none 0 0, .int .i64 ((1 : Nat) : Int)]) ∧ IsR w' g A bs ((p + 7) / 8 * 8) ∧ Frm [g] w w' := by
  refine VC.calls (nt := 42) (res := #[.tmp 4, .tmp 5]) Try.func31 rfl Try.ntmps31 Try.results31 rfl ?_
  refine VC.seq ?_
  refine VC.region ?_
  refine Ops.r (Run.asg rfl) rfl ?_
  refine Ops.r (v := .int .i64 ((0 : Nat) : Int)) (Run.asg rfl) rfl ?_
  refine Ops.nil ?_
  refine thenQ_n ?_
  refine VC.sub [(0, _), (1, _)] (.cons rfl (.cons rfl .nil)) ?_
  refine VC.seq ?_
  refine VC.region ?_
  refine Ops.r (Run.mv rfl) rfl ?_
  refine Ops.cl (Enters.fn (evs.cons rfl evs.nil) Try.call30) (align_spec g p A bs _ hp hbs hR) rfl ?_
  rintro e w1 ⟨rfl, hR1, hfr1⟩
  refine ⟨_, rfl, ?_⟩
  have hq : (p + 7) / 8 * 8 ≤ 8 * bs.length := by omega
  refine Ops.nil ?_
  refine thenQ_n ?_
  refine VC.sub [(0, _), (1, _)] (.cons rfl (.cons rfl .nil)) ?_
  refine VC.seq ?_
  refine VC.block ?_
  refine VC.seq ?_
  refine VC.region ?_
  refine Ops.r (Run.mv rfl) rfl ?_
  refine Ops.r (Run.bin rfl rfl (Bin.lss _ 0)) rfl ?_
  refine Ops.r (Run.asg rfl) rfl ?_
  refine Ops.nil ?_
  refine thenQ_n ?_
  refine VC.sub [(0, _), (1, _), (9, _)] (.cons rfl (.cons rfl (.cons rfl .nil))) ?_
  refine VC.condT rfl (decide_eq_true hn) ?_
  refine VC.seq ?_
  refine VC.region ?_
  refine Ops.r (Run.asg rfl) rfl ?_
  refine Ops.r (v := .int .i64 ((1 : Nat) : Int)) (Run.asg rfl) rfl ?_
  refine Ops.nil ?_
  refine thenQ_n ?_
  refine VC.sub [(4, _), (5, _)] (.cons rfl (.cons rfl .nil)) ?_
  refine VC.ret ?_
  refine blockQ_r (thenQ_r (end2 rfl rfl ?_))
  exact ⟨rfl, hR1, hfr1⟩

set_option maxRecDepth 100000 in
theorem octets_short (g n : Nat) (p : Nat) (A : Option Addr) (bs : List Nat) (w : World) (hp : p ≤ 8 * bs.length) (hbs : bs.length ≤ 1000000000) (hR : IsR w g A bs p) (hn : (8 * bs.length - (p + 7) / 8 * 8) / 8 < n) :
    Calls Try.prog 31 #[.pointer (some ⟨g, 0, none⟩), .int .i64 n] w fun e w' => e = .returned (.tuple #[.slice none 0 0, .int .i64 ((2 : Nat) : Int)]) ∧ IsR w' g A bs ((p + 7) / 8 * 8) ∧ Frm [g] w w' := by
  refine VC.calls (nt := 42) (res := #[.tmp 4, .tmp 5]) Try.func31 rfl Try.ntmps31 Try.results31 rfl ?_
  refine VC.seq ?_
  refine VC.region ?_
  refine Ops.r (Run.asg rfl) rfl ?_
  refine Ops.r (v := .int .i64 ((0 : Nat) : Int)) (Run.asg rfl) rfl ?_
  refine Ops.nil ?_
  refine thenQ_n ?_
  refine VC.sub [(0, _), (1, _)] (.cons rfl (.cons rfl .nil)) ?_
  refine VC.seq ?_
  refine VC.region ?_
  refine Ops.r (Run.mv rfl) rfl ?_
  refine Ops.cl (Enters.fn (evs.cons rfl evs.nil) Try.call30) (align_spec g p A bs _ hp hbs hR) rfl ?_
  rintro e w1 ⟨rfl, hR1, hfr1⟩
  refine ⟨_, rfl, ?_⟩
  have hq : (p + 7) / 8 * 8 ≤ 8 * bs.length := by omega
  refine Ops.nil ?_
  refine thenQ_n ?_
  refine VC.sub [(0, _), (1, _)] (.cons rfl (.cons rfl .nil)) ?_
  refine VC.seq ?_
  refine VC.block ?_
  refine VC.seq ?_
  refine VC.region ?_
  refine Ops.r (Run.mv rfl) rfl ?_
  refine Ops.r (Run.bin rfl rfl (Bin.lssN _ 0)) rfl ?_
  refine Ops.r (Run.asg rfl) rfl ?_
  refine Ops.nil ?_
  refine thenQ_n ?_
  refine VC.sub [(0, _), (1, _), (9, _)] (.cons rfl (.cons rfl (.cons rfl .nil))) ?_
  refine VC.condF rfl (decide_eq_false (by omega)) ?_
  refine VC.seq ?_
  refine VC.region ?_
  refine Ops.r (Run.mv rfl) rfl ?_
  refine Ops.r (Run.mv rfl) rfl ?_
  refine Ops.cl (Enters.fn (evs.cons rfl evs.nil) Try.call19) (left_spec g ((p + 7) / 8 * 8) A bs _ hq hbs hR1) rfl ?_
  rintro e w2 ⟨rfl, hd2⟩
  refine ⟨_, rfl, ?_⟩
  refine Ops.r (Run.bin rfl rfl (Bin.quo_i64 _ 8 (by omega) (by omega))) rfl ?_
  refine Ops.r (Run.bin rfl rfl (Bin.gtrN _ _)) rfl ?_
  refine Ops.r (Run.asg rfl) rfl ?_
  refine Ops.nil ?_
  refine thenQ_n ?_
  refine VC.sub [(0, _), (1, _), (12, _)] (.cons rfl (.cons rfl (.cons rfl .nil))) ?_
  refine VC.condT rfl (decide_eq_true hn) ?_
  refine VC.seq ?_
  refine VC.region ?_
  refine Ops.r (Run.asg rfl) rfl ?_
  refine Ops.r (v := .int .i64 ((2 : Nat) : Int)) (Run.asg rfl) rfl ?_
  refine Ops.nil ?_
  refine thenQ_n ?_
  refine VC.sub [(4, _), (5, _)] (.cons rfl (.cons rfl .nil)) ?_
  refine VC.ret ?_
  refine blockQ_r (thenQ_r (end2 rfl rfl ?_))
  exact ⟨rfl, hR1.frm hd2.frm (by simp), hfr1.drawn hd2⟩

set_option maxRecDepth 100000 in
theorem octets_ok (g n : Nat) (p : Nat) (A : Option Addr) (bs : List Nat) (w : World) (hp : p ≤ 8 * bs.length) (hbs : bs.length ≤ 1000000000) (hR : IsR w g A bs p) (hn : n ≤ (8 * bs.length - (p + 7) / 8 * 8) / 8) :
    Calls Try.prog 31 #[.pointer (some ⟨g, 0, none⟩), .int .i64 n] w fun e w' => ∃ B c, e = .returned (.tuple #[.slice B n c, .int .i64 ((0 : Nat) : Int)]) ∧ Own w' 5 1 B n c (NB ((bs.drop ((p + 7) / 8)).take n)) ∧ IsR w' g A bs ((p + 7) / 8 * 8 + 8 * n) ∧ Frm [g] w w' ∧ ∀ x ∈ ob B, w.heap.size ≤ x := by
  refine VC.calls (nt := 42) (res := #[.tmp 4, .tmp 5]) Try.func31 rfl Try.ntmps31 Try.results31 rfl ?_
  refine VC.seq ?_
  refine VC.region ?_
  refine Ops.r (Run.asg rfl) rfl ?_
  refine Ops.r (v := .int .i64 ((0 : Nat) : Int)) (Run.asg rfl) rfl ?_
  refine Ops.nil ?_
  refine thenQ_n ?_
  refine VC.sub [(0, _), (1, _)] (.cons rfl (.cons rfl .nil)) ?_
  refine VC.seq ?_
  refine VC.region ?_
  refine Ops.r (Run.mv rfl) rfl ?_
  refine Ops.cl (Enters.fn (evs.cons rfl evs.nil) Try.call30) (align_spec g p A bs _ hp hbs hR) rfl ?_
  rintro e w1 ⟨rfl, hR1, hfr1⟩
  refine ⟨_, rfl, ?_⟩
  have hq : (p + 7) / 8 * 8 ≤ 8 * bs.length := by omega
  refine Ops.nil ?_
  refine thenQ_n ?_
  refine VC.sub [(0, _), (1, _)] (.cons rfl (.cons rfl .nil)) ?_
  refine VC.seq ?_
  refine VC.block ?_
  refine VC.seq ?_
  refine VC.region ?_
  refine Ops.r (Run.mv rfl) rfl ?_
  refine Ops.r (Run.bin rfl rfl (Bin.lssN _ 0)) rfl ?_
  refine Ops.r (Run.asg rfl) rfl ?_
  refine Ops.nil ?_
  refine thenQ_n ?_
  refine VC.sub [(0, _), (1, _), (9, _)] (.cons rfl (.cons rfl (.cons rfl .nil))) ?_
  refine VC.condF rfl (decide_eq_false (by omega)) ?_
  refine VC.seq ?_
  refine VC.region ?_
  refine Ops.r (Run.mv rfl) rfl ?_
  refine Ops.r (Run.mv rfl) rfl ?_
  refine Ops.cl (Enters.fn (evs.cons rfl evs.nil) Try.call19) (left_spec g ((p + 7) / 8 * 8) A bs _ hq hbs hR1) rfl ?_
  rintro e w2 ⟨rfl, hd2⟩
  refine ⟨_, rfl, ?_⟩
  obtain ⟨c, hb, ho⟩ := hR1.frm hd2.frm (by simp)
  refine Ops.r (Run.bin rfl rfl (Bin.quo_i64 _ 8 (by omega) (by omega))) rfl ?_
  refine Ops.r (Run.bin rfl rfl (Bin.gtrN _ _)) rfl ?_
  refine Ops.r (Run.asg rfl) rfl ?_
  refine Ops.nil ?_
  refine thenQ_n ?_
  refine VC.sub [(0, _), (1, _), (12, _)] (.cons rfl (.cons rfl (.cons rfl .nil))) ?_
  refine VC.condF rfl (decide_eq_false (by omega)) ?_
  refine VC.skip ?_
  refine blockQ_n (thenQ_n ?_)
  refine VC.sub [(0, _), (1, _)] (.cons rfl (.cons rfl .nil)) ?_
  refine VC.seq ?_
  refine VC.region ?_
  refine Ops.r (Run.mv rfl) rfl ?_
  refine Ops.r (Run.nilck rfl) rfl ?_
  refine Ops.r (Run.fieldAddr rfl Try.underlying86 rfl Try.sizeOf3 (by decide)) rfl ?_
  refine Ops.r (Run.load rfl Try.isAgg3 (hb.cell 1)) rfl ?_
  refine Ops.r (Run.bin rfl rfl (Bin.quo_i64 _ 8 (by omega) (by omega))) rfl ?_
  refine Ops.r (Run.asg rfl) rfl ?_
  refine Ops.nil ?_
  refine thenQ_n ?_
  refine VC.sub [(0, _), (1, _), (6, _)] (.cons rfl (.cons rfl (.cons rfl .nil))) ?_
  refine VC.seq ?_
  refine VC.region ?_
  refine Ops.r (Run.mv rfl) rfl ?_
  refine Ops.r (Run.nilck rfl) rfl ?_
  refine Ops.r (Run.fieldAddr rfl Try.underlying86 rfl Try.sizeOf3 (by decide)) rfl ?_
  refine Ops.r (Run.load rfl Try.isAgg3 (hb.cell 1)) rfl ?_
  refine Ops.r (Run.mv rfl) rfl ?_
  refine Ops.r (Run.bin rfl rfl (Bin.mul_i64 8 _ (by omega))) rfl ?_
  refine Ops.r (Run.bin rfl rfl (Bin.add_i64 _ _ (by omega))) rfl ?_
  refine Ops.r (Run.nilck rfl) rfl ?_
  refine Ops.r (Run.fieldAddr rfl Try.underlying86 rfl Try.sizeOf3 (by decide)) rfl ?_
  refine Ops.st (Acts.store rfl rfl Try.sizeOf3 hb rfl rfl) ?_
  rintro w3 ⟨hb3, hfr3, hsz3⟩
  have hne : ∀ x ∈ ob A, x ∉ [g] := by
    intro x hx hx2
    simp at hx2
    subst hx2
    exact ho.ne_blk hb (by decide) hx
  have ho3 := ho.frm hfr3 hne
  have hcap := ho3.le
  refine Ops.nil ?_
  refine thenQ_n ?_
  refine VC.sub [(0, _), (1, _), (6, _)] (.cons rfl (.cons rfl (.cons rfl .nil))) ?_
  refine VC.seq ?_
  refine VC.region ?_
  refine Ops.r (Run.mv rfl) rfl ?_
  refine Ops.r (Run.nilck rfl) rfl ?_
  refine Ops.r (Run.fieldAddr rfl Try.underlying86 rfl Try.sizeOf26 (by decide)) rfl ?_
  refine Ops.r (Run.load rfl Try.isAgg26 (hb3.cell 0)) rfl ?_
  refine Ops.r (Run.mv rfl) rfl ?_
  refine Ops.r (Run.mv rfl) rfl ?_
  refine Ops.r (Run.mv rfl) rfl ?_
  refine Ops.r (Run.bin rfl rfl (Bin.add_i64 _ _ (by omega))) rfl ?_
  refine Ops.r (Run.sliceS _ _ rfl Try.underlying26 Try.sizeOf5 (evB.some_ rfl) (evB.some_ rfl) (by omega) (by omega)) rfl ?_
  refine Ops.m (Does.app rfl rfl Try.underlying26 (info5) rfl (by decide) (Own.nil _ _ _) (ho3.rd.cut (cap := c) (l := (p + 7) / 8 * 8 / 8) (r := (p + 7) / 8 * 8 / 8 + n) (by omega) (by omega) hcap) (fun u hu => NB_one bs u (List.mem_of_mem_drop (List.mem_of_mem_take hu))) (by omega) (by omega)) rfl ?_
  rintro _ w4 ⟨A4, c4, rfl, ho4, hfr4, hob4⟩
  refine Ops.r (Run.asg rfl) rfl ?_
  refine Ops.r (v := .int .i64 ((0 : Nat) : Int)) (Run.asg rfl) rfl ?_
  refine Ops.nil ?_
  refine thenQ_n ?_
  refine VC.sub [(4, _), (5, _)] (.cons rfl (.cons rfl .nil)) ?_
  refine VC.ret ?_
  refine end2 rfl rfl ?_
  have e1 : (p + 7) / 8 * 8 / 8 = (p + 7) / 8 := by omega
  have e2 : 0 + ((p + 7) / 8 * 8 / 8 + n - (p + 7) / 8 * 8 / 8) = n := by omega
  have e3 : [] ++ List.take (((p + 7) / 8 * 8 / 8 + n - (p + 7) / 8 * 8 / 8) * 1) (List.drop ((p + 7) / 8 * 8 / 8 * 1) (NB bs)) = NB ((bs.drop ((p + 7) / 8)).take n) := by
    rw [List.nil_append, Nat.mul_one, Nat.mul_one, e1, Nat.add_sub_cancel_left]
    simp [NB, List.map_take, List.map_drop]
  rw [e2, e3] at ho4
  rw [e2]
  refine ⟨A4, c4, rfl, ho4, ⟨c, hb3.frm hfr4 (by simp [ob]), ho3.frm hfr4 (by simp [ob])⟩, ?_, ?_⟩
  · exact ((hfr1.drawn hd2).trans hfr3 (fun x hx => .inl hx)).trans hfr4 (by simp [ob])
  · intro x hx
    have := hfr1.size
    have := hd2.frm.size
    have := hfr3.size
    rcases hob4 with h | h <;> rw [h] at hx <;> simp [ob] at hx
    omega

theorem put_any (g v : Nat) (n : Int) (A : Option Addr) (l : List Bool) (w : World) (hv : v ≤ 18446744073709551615) (hl : l.length ≤ 1000000000) (hW : IsW w g A l) :
    Calls Try.prog 14 #[.pointer (some ⟨g, 0, none⟩), .int .u64 v, .int .i64 n] w fun e w' => e = .returned (.int .i64 ((rightE v n : Nat) : Int)) ∧ ∃ A', IsW w' g A' (if rightE v n = 0 then l ++ bitsL v n.toNat else l) ∧ Frm (g :: ob A) w w' ∧ ∀ x ∈ ob A', x ∈ ob A ∨ w.heap.size ≤ x := by
  by_cases he : rightE v n = 0
  · obtain ⟨m, rfl, hm, hvm⟩ := rightE_zero he
    refine (put_ok g v m A l w hvm hm hl hW).mono ?_
    rintro e w' ⟨rfl, A', h1, h2, h3⟩
    rw [he, if_pos rfl, Int.toNat_natCast]
    exact ⟨rfl, A', h1, h2, h3⟩
  · refine (put_bad _ v n w hv he).mono ?_
    rintro e w' ⟨rfl, rfl⟩
    rw [if_neg he]
    exact ⟨rfl, A, hW, Frm.refl _ _, fun x hx => .inl hx⟩
theorem turned_any (g v : Nat) (n : Int) (A : Option Addr) (l : List Bool) (w : World) (hv : v ≤ 18446744073709551615) (hl : l.length ≤ 1000000000) (hW : IsW w g A l) :
    Calls Try.prog 15 #[.pointer (some ⟨g, 0, none⟩), .int .u64 v, .int .i64 n] w fun e w' => e = .returned (.int .i64 ((rightE v n : Nat) : Int)) ∧ ∃ A', IsW w' g A' (if rightE v n = 0 then l ++ (bitsL v n.toNat).reverse else l) ∧ Frm (g :: ob A) w w' ∧ ∀ x ∈ ob A', x ∈ ob A ∨ w.heap.size ≤ x := by
  by_cases he : rightE v n = 0
  · obtain ⟨m, rfl, hm, hvm⟩ := rightE_zero he
    refine (turned_ok g v m A l w hvm hm hl hW).mono ?_
    rintro e w' ⟨rfl, A', h1, h2, h3⟩
    rw [he, if_pos rfl, Int.toNat_natCast]
    exact ⟨rfl, A', h1, h2, h3⟩
  · refine (turned_bad _ v n w hv he).mono ?_
    rintro e w' ⟨rfl, rfl⟩
    rw [if_neg he]
    exact ⟨rfl, A, hW, Frm.refl _ _, fun x hx => .inl hx⟩
theorem Own.ne_w {w : World} {e size n c g : Nat} {A Aw : Option Addr} {xs : List Value} {l : List Bool} (h : Own w e size A n c xs) (hW : IsW w g Aw l) (h1 : e ≠ 82) (h2 : e ≠ 5) : ∀ x ∈ ob A, x ∉ g :: ob Aw := by
  obtain ⟨c', hb, ho⟩ := hW
  intro x hx hx2
  rcases List.mem_cons.1 hx2 with rfl | hx2
  · exact h.ne_blk hb h1 hx
  · exact h.ne_own ho h2 x hx hx2
theorem Own.ne_r {w : World} {e size n c g p : Nat} {A Aw : Option Addr} {xs : List Value} {bs : List Nat} (h : Own w e size A n c xs) (hR : IsR w g Aw bs p) (h1 : e ≠ 86) : ∀ x ∈ ob A, x ∉ [g] := by
  obtain ⟨c', hb, ho⟩ := hR
  intro x hx hx2
  simp at hx2
  subst hx2
  exact h.ne_blk hb h1 hx
theorem mem_swap {S T : List Nat} (h : ∀ x ∈ S, x ∉ T) : ∀ x ∈ T, x ∉ S := fun x hx hx2 => h x hx2 hx

end Go.Proofs.Ytebaojedpnnliaa
