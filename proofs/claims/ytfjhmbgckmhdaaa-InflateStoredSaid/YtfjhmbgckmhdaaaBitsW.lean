/-
  The walks of package bits: what each function of the program does to a writer or a reader, as lists of bits and octets.
-/
import Derived.Test.YtfjhmbgckmhdaaaTy
import Derived.Test.YtfjhmbgckmhdaaaOpen
import Derived.Test.YtfjhmbgckmhdaaaBitsP
namespace Go.Proofs.Ytfjhmbgckmhdaaa
open Go.RowKit

theorem NB_one (l : List Nat) : ∀ u ∈ NB l, u.oneCell' = true := by
  intro u hu
  obtain ⟨b, _, rfl⟩ := List.mem_map.1 hu
  rfl
theorem NB_len (l : List Nat) : (NB l).length = l.length := by simp [NB]
theorem NB_append (a b : List Nat) : NB (a ++ b) = NB a ++ NB b := by simp [NB]
theorem NB_set (a : List Nat) (i x : Nat) : NB (a.set i x) = (NB a).set i (.int .u8 (x : Int)) := by simp [NB, List.map_set]
theorem NB_get (a : List Nat) (i : Nat) (h : i < a.length) : (NB a)[i]? = some (.int .u8 ((a.getD i 0 : Nat) : Int)) := by
  simp [NB, h]

/-- A reader at block g, its octets in A: the octets are bs, and so many bits are read. -/
def IsR (w : World) (g : Nat) (A : Option Addr) (bs : List Nat) (p : Nat) : Prop :=
  ∃ c, Blk w g 66 #[.slice A bs.length c, .int .i64 ((p : Nat) : Int)] ∧ Own w 5 1 A bs.length c (NB bs)
theorem IsR.frm {w w' : World} {g : Nat} {A : Option Addr} {bs : List Nat} {p : Nat} {S : List Nat} (h : IsR w g A bs p) (k : Frm S w w') (hS : ∀ x ∈ g :: ob A, x ∉ S) : IsR w' g A bs p := by
  obtain ⟨c, h1, h2⟩ := h
  exact ⟨c, h1.frm k (hS g (by simp)), h2.frm k (fun x hx => hS x (by simp [hx]))⟩
theorem IsR.lt {w : World} {g : Nat} {A : Option Addr} {bs : List Nat} {p : Nat} (h : IsR w g A bs p) : ∀ x ∈ g :: ob A, x < w.heap.size := by
  obtain ⟨c, h1, h2⟩ := h
  intro x hx
  rcases List.mem_cons.1 hx with rfl | hx
  · exact h1.lt
  · exact h2.lt x hx

/-- What is wrong with a number of bits. -/
def rightE (v : Nat) (n : Int) : Nat := if n < 0 ∨ 32 < n then 1 else if v / 2 ^ n.toNat = 0 then 0 else 8

theorem rightE_zero {v : Nat} {n : Int} (h : rightE v n = 0) : ∃ m : Nat, n = m ∧ m ≤ 32 ∧ v < 2 ^ m := by
  unfold rightE at h
  split at h
  · cases h
  · split at h
    · rename_i h1 h2
      obtain ⟨m, rfl⟩ := Int.eq_ofNat_of_zero_le (show 0 ≤ n by omega)
      refine ⟨m, rfl, by omega, ?_⟩
      simp only [Int.toNat_natCast] at h2
      exact (Nat.div_eq_zero_iff_lt (Nat.two_pow_pos m)).1 h2
    · cases h
theorem rightE_ok (v m : Nat) (h1 : m ≤ 32) (h2 : v < 2 ^ m) : rightE v (m : Int) = 0 := by
  unfold rightE
  rw [if_neg (by omega), if_pos (by simp only [Int.toNat_natCast]; exact Nat.div_eq_of_lt h2)]

/-- The octets with room for one bit more. -/
def padW (l : List Bool) : List Nat := if l.length % 8 = 0 then pack l ++ [0] else pack l
theorem padW_len (l : List Bool) : (padW l).length = l.length / 8 + 1 := by
  unfold padW; split <;> simp [pack_len] <;> omega
theorem padW_lt (l : List Bool) : (padW l).getD (l.length / 8) 0 < 256 := by
  have hl : ∀ x ∈ padW l, x < 256 := by
    intro x hx
    unfold padW at hx
    split at hx
    · rcases List.mem_append.1 hx with h | h
      · exact pack_lt l x h
      · simp at h; omega
    · exact pack_lt l x hx
  have := padW_len l
  rw [List.getD_eq_getElem?_getD, List.getElem?_eq_getElem (by omega)]
  exact hl _ (List.getElem_mem _)
theorem pack_snoc (l : List Bool) (b : Bool) : pack (l ++ [b]) = (padW l).set (l.length / 8) ((padW l).getD (l.length / 8) 0 ||| (b.toNat * 2 ^ (l.length % 8) % 256)) := by
  have hb : b.toNat * 2 ^ (l.length % 8) % 256 = b.toNat * 2 ^ (l.length % 8) := by
    apply Nat.mod_eq_of_lt
    have h1 : 2 ^ (l.length % 8) ≤ 2 ^ 7 := Nat.pow_le_pow_right (by omega) (by omega)
    cases b <;> simp <;> omega
  rw [hb]
  by_cases h : l.length % 8 = 0
  · have h8 : (pack l).length = l.length / 8 := by rw [pack_len]; omega
    rw [pack_snoc_new l b h]
    unfold padW
    rw [if_pos h, h, List.set_append_right _ _ (by omega), List.getD_eq_getElem?_getD, List.getElem?_append_right (by omega), h8]
    simp
  · rw [pack_snoc_old l b h]
    unfold padW
    rw [if_neg h]
    congr 1
    rw [List.getD_eq_getElem?_getD, pack_get _ _ (by omega)]
    simp only [Option.getD_some]
    rw [List.take_of_length_le (by simp; omega)]
    have := num_lt (l.drop (8 * (l.length / 8)))
    rw [show (l.drop (8 * (l.length / 8))).length = l.length % 8 by simp; omega] at this
    rw [or_top _ _ _ this]

set_option maxRecDepth 100000 in
theorem read_spec (B : Option Addr) (c0 : Nat) (bs : List Nat) (w : World) (hbs : bs.length ≤ 1000000000) (hr : Rd w 1 B bs.length (NB bs)) :
    Calls Try.prog 23 #[.slice B bs.length c0] w fun e w' => ∃ g A, e = .returned (.pointer (some ⟨g, 0, none⟩)) ∧ IsR w' g A bs 0 ∧ Frm [] w w' ∧ ∀ x ∈ g :: ob A, w.heap.size ≤ x := by
  refine VC.calls (nt := 7) (res := #[.tmp 2]) Try.func23 rfl Try.ntmps23 Try.results23 rfl ?_
  refine VC.seq ?_
  refine VC.region ?_
  refine Ops.r (Run.asg rfl) rfl ?_
  refine Ops.nil ?_
  refine thenQ_n ?_
  refine VC.sub [(0, _)] (.cons rfl .nil) ?_
  refine VC.seq ?_
  refine VC.region ?_
  refine Ops.r (Run.mv rfl) rfl ?_
  refine Ops.m (Does.app rfl rfl Try.underlying22 (info5) rfl (by decide) (Own.nil _ _ _) hr (NB_one _) (by omega) (by omega)) rfl ?_
  rintro _ w1 ⟨A1, c1, rfl, ho1, hfr1, hob1⟩
  rw [Nat.zero_add, List.nil_append] at ho1
  rw [Nat.zero_add]
  refine Ops.r (Run.build (evs.cons rfl evs.nil) zero66 (places66).choose_spec.1 (places66).choose_spec.2 rfl) rfl ?_
  refine Ops.m (Does.box rfl) rfl ?_
  rintro _ w2 ⟨rfl, hF⟩
  refine Ops.r (Run.asg rfl) rfl ?_
  refine Ops.nil ?_
  refine thenQ_n ?_
  refine VC.sub [(2, _)] (.cons rfl .nil) ?_
  refine VC.ret ?_
  refine end1 rfl ?_
  refine ⟨w1.heap.size, A1, rfl, ⟨c1, hF.blk, ho1.frm hF.frm (by simp)⟩, hfr1.trans hF.frm (by simp), ?_⟩
  intro x hx
  rcases List.mem_cons.1 hx with rfl | hx
  · exact hfr1.size
  · rcases hob1 with h | h <;> rw [h] at hx <;> simp [ob] at hx
    omega

set_option maxRecDepth 100000 in
theorem at_spec (g p : Nat) (A : Option Addr) (bs : List Nat) (w : World) (hR : IsR w g A bs p) :
    Calls Try.prog 25 #[.pointer (some ⟨g, 0, none⟩)] w fun e w' => e = .returned (.int .i64 ((p : Nat) : Int)) ∧ w = w' := by
  obtain ⟨c, hb, ho⟩ := hR
  refine VC.calls (nt := 7) (res := #[.tmp 2]) Try.func25 rfl Try.ntmps25 Try.results25 rfl ?_
  refine VC.seq ?_
  refine VC.region ?_
  refine Ops.r (v := .int .i64 ((0 : Nat) : Int)) (Run.asg rfl) rfl ?_
  refine Ops.nil ?_
  refine thenQ_n ?_
  refine VC.sub [(0, _)] (.cons rfl .nil) ?_
  refine VC.seq ?_
  refine VC.region ?_
  refine Ops.r (Run.mv rfl) rfl ?_
  refine Ops.r (Run.nilck rfl) rfl ?_
  refine Ops.r (Run.fieldAddr rfl Try.underlying66 rfl Try.sizeOf3 (by decide)) rfl ?_
  refine Ops.r (Run.load rfl Try.isAgg3 (hb.cell 1)) rfl ?_
  refine Ops.r (Run.asg rfl) rfl ?_
  refine Ops.nil ?_
  refine thenQ_n ?_
  refine VC.sub [(2, _)] (.cons rfl .nil) ?_
  refine VC.ret ?_
  refine end1 rfl ?_
  exact ⟨rfl, rfl⟩

set_option maxRecDepth 100000 in
theorem left_spec (g p : Nat) (A : Option Addr) (bs : List Nat) (w : World) (hp : p ≤ 8 * bs.length) (hbs : bs.length ≤ 1000000000) (hR : IsR w g A bs p) :
    Calls Try.prog 56 #[.pointer (some ⟨g, 0, none⟩)] w fun e w' => e = .returned (.int .i64 ((8 * bs.length - p : Nat) : Int)) ∧ Drawn w w' := by
  obtain ⟨c, hb, ho⟩ := hR
  refine VC.calls (nt := 14) (res := #[.tmp 2]) Try.func56 rfl Try.ntmps56 Try.results56 rfl ?_
  refine VC.seq ?_
  refine VC.region ?_
  refine Ops.r (v := .int .i64 ((0 : Nat) : Int)) (Run.asg rfl) rfl ?_
  refine Ops.nil ?_
  refine thenQ_n ?_
  refine VC.sub [(0, _)] (.cons rfl .nil) ?_
  refine VC.seq ?_
  refine VC.still (by kernel_rfl) (by kernel_rfl) ?_
  refine SOps.r (Run.mv rfl) rfl ?_
  refine SOps.r (Run.nilck rfl) rfl ?_
  refine SOps.r (Run.fieldAddr rfl Try.underlying66 rfl Try.sizeOf22 (by decide)) rfl ?_
  refine SOps.r (Run.load rfl Try.isAgg22 (hb.cell 0)) rfl ?_
  refine SOps.r (Run.lenS rfl Try.underlying22) rfl ?_
  refine SOps.r (Run.bin rfl rfl (Bin.mul_i64 8 _ (by omega))) rfl ?_
  refine SOps.r (Run.mv rfl) rfl ?_
  refine SOps.r (Run.nilck rfl) rfl ?_
  refine SOps.r (Run.fieldAddr rfl Try.underlying66 rfl Try.sizeOf3 (by decide)) rfl ?_
  refine SOps.r (Run.load rfl Try.isAgg3 (hb.cell 1)) rfl ?_
  refine SOps.r (Run.bin rfl rfl (Bin.sub_i64 _ _ (by omega) (by omega))) rfl ?_
  refine SOps.r (Run.asg rfl) rfl ?_
  refine SOps.nil ?_
  refine thenQ_n ?_
  refine VC.sub [(2, _)] (.cons rfl .nil) ?_
  refine VC.ret ?_
  refine end1 rfl ?_
  exact ⟨rfl, Drawn.drew _⟩

set_option maxRecDepth 100000 in
theorem align_spec (g p : Nat) (A : Option Addr) (bs : List Nat) (w : World) (hp : p ≤ 8 * bs.length) (hbs : bs.length ≤ 1000000000) (hR : IsR w g A bs p) :
    Calls Try.prog 47 #[.pointer (some ⟨g, 0, none⟩)] w fun e w' => e = .returned (.tuple #[]) ∧ IsR w' g A bs ((p + 7) / 8 * 8) ∧ Frm [g] w w' := by
  obtain ⟨c, hb, ho⟩ := hR
  refine VC.calls (nt := 12) (res := #[]) Try.func47 rfl Try.ntmps47 Try.results47 rfl ?_
  refine VC.region ?_
  refine Ops.r (Run.mv rfl) rfl ?_
  refine Ops.r (Run.mv rfl) rfl ?_
  refine Ops.r (Run.nilck rfl) rfl ?_
  refine Ops.r (Run.fieldAddr rfl Try.underlying66 rfl Try.sizeOf3 (by decide)) rfl ?_
  refine Ops.r (Run.load rfl Try.isAgg3 (hb.cell 1)) rfl ?_
  refine Ops.r (Run.bin rfl rfl (Bin.add_i64 _ 7 (by omega))) rfl ?_
  refine Ops.r (Run.bin rfl rfl (Bin.quo_i64 _ 8 (by omega) (by omega))) rfl ?_
  refine Ops.r (Run.bin rfl rfl (Bin.mul_i64 _ 8 (by omega))) rfl ?_
  refine Ops.r (Run.nilck rfl) rfl ?_
  refine Ops.r (Run.fieldAddr rfl Try.underlying66 rfl Try.sizeOf3 (by decide)) rfl ?_
  refine Ops.st (Acts.store rfl rfl Try.sizeOf3 hb rfl rfl) ?_
  rintro w1 ⟨hb1, hfr1, hsz1⟩
  refine Ops.nil ?_
  refine end0n ?_
  refine ⟨rfl, ⟨c, hb1, ho.frm hfr1 ?_⟩, hfr1⟩
  intro x hx hx2
  simp at hx2
  subst hx2
  exact ho.ne_blk hb (by decide) hx

set_option maxRecDepth 100000 in
theorem take_neg (g : Nat) (n : Int) (w : World) (hn : n < 0) :
    Calls Try.prog 45 #[.pointer (some ⟨g, 0, none⟩), .int .i64 n] w fun e w' => e = .returned (.tuple #[.int .u64 ((0 : Nat) : Int), .int .i64 ((1 : Nat) : Int)]) ∧ w = w' := by
  refine VC.calls (nt := 56) (res := #[.tmp 4, .tmp 5]) Try.func45 rfl Try.ntmps45 Try.results45 rfl ?_
  refine VC.seq ?_
  refine VC.region ?_
  refine Ops.r (v := .int .u64 ((0 : Nat) : Int)) (Run.asg rfl) rfl ?_
  refine Ops.r (v := .int .i64 ((0 : Nat) : Int)) (Run.asg rfl) rfl ?_
  refine Ops.nil ?_
  refine thenQ_n ?_
  refine VC.sub [(0, _), (1, _)] (.cons rfl (.cons rfl .nil)) ?_
  refine VC.seq ?_
  refine VC.block ?_
  refine VC.seq ?_
  refine VC.region ?_
  refine Ops.r (Run.mv rfl) rfl ?_
  refine Ops.r (Run.bin rfl rfl (Bin.lss _ 0)) rfl ?_
  refine Ops.r (Run.mv rfl) rfl ?_
  refine Ops.sk rfl (by simpa using hn) rfl ?_
  refine Ops.sk rfl (by simpa using hn) rfl ?_
  refine Ops.r (Run.pickT rfl rfl (decide_eq_true hn)) rfl ?_
  refine Ops.r (Run.asg rfl) rfl ?_
  refine Ops.nil ?_
  refine thenQ_n ?_
  refine VC.sub [(0, _), (1, _), (8, _)] (.cons rfl (.cons rfl (.cons rfl .nil))) ?_
  refine VC.condT rfl (rfl) ?_
  refine VC.seq ?_
  refine VC.region ?_
  refine Ops.r (v := .int .u64 ((0 : Nat) : Int)) (Run.asg rfl) rfl ?_
  refine Ops.r (v := .int .i64 ((1 : Nat) : Int)) (Run.asg rfl) rfl ?_
  refine Ops.nil ?_
  refine thenQ_n ?_
  refine VC.sub [(4, _), (5, _)] (.cons rfl (.cons rfl .nil)) ?_
  refine VC.ret ?_
  refine blockQ_r (thenQ_r (end2 rfl rfl ?_))
  exact ⟨rfl, rfl⟩

set_option maxRecDepth 100000 in
theorem take_big (g : Nat) (n : Int) (w : World) (hn : 32 < n) :
    Calls Try.prog 45 #[.pointer (some ⟨g, 0, none⟩), .int .i64 n] w fun e w' => e = .returned (.tuple #[.int .u64 ((0 : Nat) : Int), .int .i64 ((1 : Nat) : Int)]) ∧ w = w' := by
  refine VC.calls (nt := 56) (res := #[.tmp 4, .tmp 5]) Try.func45 rfl Try.ntmps45 Try.results45 rfl ?_
  refine VC.seq ?_
  refine VC.region ?_
  refine Ops.r (v := .int .u64 ((0 : Nat) : Int)) (Run.asg rfl) rfl ?_
  refine Ops.r (v := .int .i64 ((0 : Nat) : Int)) (Run.asg rfl) rfl ?_
  refine Ops.nil ?_
  refine thenQ_n ?_
  refine VC.sub [(0, _), (1, _)] (.cons rfl (.cons rfl .nil)) ?_
  refine VC.seq ?_
  refine VC.block ?_
  refine VC.seq ?_
  refine VC.region ?_
  refine Ops.r (Run.mv rfl) rfl ?_
  refine Ops.r (Run.bin rfl rfl (Bin.lss _ 0)) rfl ?_
  refine Ops.r (Run.mv rfl) rfl ?_
  refine Ops.rg rfl (decide_eq_false (by omega)) (Run.mv rfl) rfl ?_
  refine Ops.rg rfl (decide_eq_false (by omega)) (Run.bin rfl rfl (Bin.gtr _ 32)) rfl ?_
  refine Ops.r (Run.pickF rfl rfl (decide_eq_false (by omega))) rfl ?_
  refine Ops.r (Run.asg rfl) rfl ?_
  refine Ops.nil ?_
  refine thenQ_n ?_
  refine VC.sub [(0, _), (1, _), (8, _)] (.cons rfl (.cons rfl (.cons rfl .nil))) ?_
  refine VC.condT rfl (decide_eq_true hn) ?_
  refine VC.seq ?_
  refine VC.region ?_
  refine Ops.r (v := .int .u64 ((0 : Nat) : Int)) (Run.asg rfl) rfl ?_
  refine Ops.r (v := .int .i64 ((1 : Nat) : Int)) (Run.asg rfl) rfl ?_
  refine Ops.nil ?_
  refine thenQ_n ?_
  refine VC.sub [(4, _), (5, _)] (.cons rfl (.cons rfl .nil)) ?_
  refine VC.ret ?_
  refine blockQ_r (thenQ_r (end2 rfl rfl ?_))
  exact ⟨rfl, rfl⟩

set_option maxRecDepth 100000 in
theorem take_short (g n p : Nat) (A : Option Addr) (bs : List Nat) (w : World) (hp : p ≤ 8 * bs.length) (hbs : bs.length ≤ 1000000000) (hR : IsR w g A bs p) (hn : n ≤ 32) (hs : 8 * bs.length - p < n) :
    Calls Try.prog 45 #[.pointer (some ⟨g, 0, none⟩), .int .i64 n] w fun e w' => e = .returned (.tuple #[.int .u64 ((0 : Nat) : Int), .int .i64 ((2 : Nat) : Int)]) ∧ Drawn w w' := by
  refine VC.calls (nt := 56) (res := #[.tmp 4, .tmp 5]) Try.func45 rfl Try.ntmps45 Try.results45 rfl ?_
  refine VC.seq ?_
  refine VC.region ?_
  refine Ops.r (v := .int .u64 ((0 : Nat) : Int)) (Run.asg rfl) rfl ?_
  refine Ops.r (v := .int .i64 ((0 : Nat) : Int)) (Run.asg rfl) rfl ?_
  refine Ops.nil ?_
  refine thenQ_n ?_
  refine VC.sub [(0, _), (1, _)] (.cons rfl (.cons rfl .nil)) ?_
  refine VC.seq ?_
  refine VC.block ?_
  refine VC.seq ?_
  refine VC.region ?_
  refine Ops.r (Run.mv rfl) rfl ?_
  refine Ops.r (Run.bin rfl rfl (Bin.lssN _ 0)) rfl ?_
  refine Ops.r (Run.mv rfl) rfl ?_
  refine Ops.rg rfl (decide_eq_false (by omega)) (Run.mv rfl) rfl ?_
  refine Ops.rg rfl (decide_eq_false (by omega)) (Run.bin rfl rfl (Bin.gtrN _ 32)) rfl ?_
  refine Ops.r (Run.pickF rfl rfl (decide_eq_false (by omega))) rfl ?_
  refine Ops.r (Run.asg rfl) rfl ?_
  refine Ops.nil ?_
  refine thenQ_n ?_
  refine VC.sub [(0, _), (1, _), (8, _)] (.cons rfl (.cons rfl (.cons rfl .nil))) ?_
  refine VC.condF rfl (decide_eq_false (by omega)) ?_
  refine VC.seq ?_
  refine VC.region ?_
  refine Ops.r (Run.mv rfl) rfl ?_
  refine Ops.r (Run.mv rfl) rfl ?_
  refine Ops.cl (Enters.fn (evs.cons rfl evs.nil) Try.call56) (left_spec g p A bs _ hp hbs hR) rfl ?_
  rintro e w1 ⟨rfl, hd1⟩
  refine ⟨_, rfl, ?_⟩
  refine Ops.r (Run.bin rfl rfl (Bin.gtrN _ _)) rfl ?_
  refine Ops.r (Run.asg rfl) rfl ?_
  refine Ops.nil ?_
  refine thenQ_n ?_
  refine VC.sub [(0, _), (1, _), (15, _)] (.cons rfl (.cons rfl (.cons rfl .nil))) ?_
  refine VC.condT rfl (decide_eq_true hs) ?_
  refine VC.seq ?_
  refine VC.region ?_
  refine Ops.r (v := .int .u64 ((0 : Nat) : Int)) (Run.asg rfl) rfl ?_
  refine Ops.r (v := .int .i64 ((2 : Nat) : Int)) (Run.asg rfl) rfl ?_
  refine Ops.nil ?_
  refine thenQ_n ?_
  refine VC.sub [(4, _), (5, _)] (.cons rfl (.cons rfl .nil)) ?_
  refine VC.ret ?_
  refine blockQ_r (thenQ_r (end2 rfl rfl ?_))
  exact ⟨rfl, hd1⟩

set_option maxRecDepth 100000 in
theorem take_ok (g n p : Nat) (A : Option Addr) (bs : List Nat) (w : World) (hp : p ≤ 8 * bs.length) (hbs : bs.length ≤ 1000000000) (hB : ∀ b ∈ bs, b < 256) (hR : IsR w g A bs p) (hn : n ≤ 32) (hs : n ≤ 8 * bs.length - p) :
    Calls Try.prog 45 #[.pointer (some ⟨g, 0, none⟩), .int .i64 n] w fun e w' => e = .returned (.tuple #[.int .u64 ((num (((ofB bs).drop p).take n) : Nat) : Int), .int .i64 ((0 : Nat) : Int)]) ∧ IsR w' g A bs (p + n) ∧ Frm [g] w w' := by
  refine VC.calls (nt := 56) (res := #[.tmp 4, .tmp 5]) Try.func45 rfl Try.ntmps45 Try.results45 rfl ?_
  refine VC.seq ?_
  refine VC.region ?_
  refine Ops.r (v := .int .u64 ((0 : Nat) : Int)) (Run.asg rfl) rfl ?_
  refine Ops.r (v := .int .i64 ((0 : Nat) : Int)) (Run.asg rfl) rfl ?_
  refine Ops.nil ?_
  refine thenQ_n ?_
  refine VC.sub [(0, _), (1, _)] (.cons rfl (.cons rfl .nil)) ?_
  refine VC.seq ?_
  refine VC.block ?_
  refine VC.seq ?_
  refine VC.region ?_
  refine Ops.r (Run.mv rfl) rfl ?_
  refine Ops.r (Run.bin rfl rfl (Bin.lssN _ 0)) rfl ?_
  refine Ops.r (Run.mv rfl) rfl ?_
  refine Ops.rg rfl (decide_eq_false (by omega)) (Run.mv rfl) rfl ?_
  refine Ops.rg rfl (decide_eq_false (by omega)) (Run.bin rfl rfl (Bin.gtrN _ 32)) rfl ?_
  refine Ops.r (Run.pickF rfl rfl (decide_eq_false (by omega))) rfl ?_
  refine Ops.r (Run.asg rfl) rfl ?_
  refine Ops.nil ?_
  refine thenQ_n ?_
  refine VC.sub [(0, _), (1, _), (8, _)] (.cons rfl (.cons rfl (.cons rfl .nil))) ?_
  refine VC.condF rfl (decide_eq_false (by omega)) ?_
  refine VC.seq ?_
  refine VC.region ?_
  refine Ops.r (Run.mv rfl) rfl ?_
  refine Ops.r (Run.mv rfl) rfl ?_
  refine Ops.cl (Enters.fn (evs.cons rfl evs.nil) Try.call56) (left_spec g p A bs _ hp hbs hR) rfl ?_
  rintro e w1 ⟨rfl, hd1⟩
  refine ⟨_, rfl, ?_⟩
  refine Ops.r (Run.bin rfl rfl (Bin.gtrN _ _)) rfl ?_
  refine Ops.r (Run.asg rfl) rfl ?_
  refine Ops.nil ?_
  refine thenQ_n ?_
  refine VC.sub [(0, _), (1, _), (15, _)] (.cons rfl (.cons rfl (.cons rfl .nil))) ?_
  refine VC.condF rfl (decide_eq_false (by omega)) ?_
  refine VC.skip ?_
  refine blockQ_n (thenQ_n ?_)
  refine VC.sub [(0, _), (1, _)] (.cons rfl (.cons rfl .nil)) ?_
  refine VC.seq ?_
  refine VC.region ?_
  refine Ops.r (v := .int .u64 ((0 : Nat) : Int)) (Run.asg rfl) rfl ?_
  refine Ops.nil ?_
  refine thenQ_n ?_
  refine VC.seq ?_
  refine VC.seq ?_
  refine VC.region ?_
  refine Ops.r (Run.mv rfl) rfl ?_
  refine Ops.r (v := .int .i64 ((0 : Nat) : Int)) (Run.mv rfl) rfl ?_
  refine Ops.nil ?_
  refine thenQ_n ?_
  refine VC.sub [(0, _), (6, _), (20, _), (21, _)] (.cons rfl (.cons rfl (.cons rfl (.cons rfl .nil)))) ?_
  refine VC.block ?_
  refine VC.loop (σ := Nat) (fun s => [(0, .pointer (some ⟨g, 0, none⟩)), (6, .int .u64 ((num (((ofB bs).drop p).take s) : Nat) : Int)), (20, .int .i64 n), (21, .int .i64 s)]) (fun s wr => s ≤ n ∧ IsR wr g A bs (p + s) ∧ Frm [g] w wr) (fun s => n - s) 0 (.cons rfl (.cons rfl (.cons rfl (.cons rfl .nil)))) ⟨by omega, hR.frm hd1.frm (by simp), hd1.frm.mono (by simp)⟩ ?_
  rintro k wr ⟨hk, hR1, hfr1⟩
  obtain ⟨c, hb, ho⟩ := hR1
  refine VC.seq ?_
  refine VC.region ?_
  refine Ops.r (Run.bin rfl rfl (Bin.lssN _ _)) rfl ?_
  refine Ops.nil ?_
  refine thenQ_n ?_
  refine VC.seq ?_
  refine VC.condD rfl (fun hc3 => ?_) (fun hc3 => ?_)
  · skip
    obtain ⟨ad, rfl, hadlt, hadc⟩ := ho.rd.2 (by omega)
    have hcell := hadc _ _ (NB_get bs ((p + k) / 8) (by omega))
    have hbl : bs.getD ((p + k) / 8) 0 < 256 := by
      rw [List.getD_eq_getElem?_getD, List.getElem?_eq_getElem (by omega)]
      exact hB _ (List.getElem_mem _)
    have hpk : 2 ^ k ≤ 2 ^ 32 := Nat.pow_le_pow_right (by omega) (by omega)
    have hbit := ofB_get bs (p + k) (by omega)
    have hnk := num_lt (((ofB bs).drop p).take k)
    have hnl : (((ofB bs).drop p).take k).length = k := by rw [List.length_take, List.length_drop, ofB_len]; omega
    rw [hnl] at hnk
    have hsn := take_succ_num (ofB bs) p k _ hbit
    rw [← or_top _ _ _ hnk] at hsn
    have h1m := and1 (bs.getD ((p + k) / 8) 0 / 2 ^ ((p + k) % 8))
    have hdl : bs.getD ((p + k) / 8) 0 / 2 ^ ((p + k) % 8) ≤ 255 := Nat.le_trans (Nat.div_le_self _ _) (by omega)
    have h1l : bs.getD ((p + k) / 8) 0 / 2 ^ ((p + k) % 8) &&& 1 ≤ 1 := Nat.and_le_right
    have h2l : (bs.getD ((p + k) / 8) 0 / 2 ^ ((p + k) % 8) &&& 1) * 2 ^ k ≤ 1 * 2 ^ k := Nat.mul_le_mul_right _ h1l
    refine VC.skip ?_
    refine thenQ_n ?_
    refine VC.sub [(0, _), (6, _), (20, _), (21, _)] (.cons rfl (.cons rfl (.cons rfl (.cons rfl .nil)))) ?_
    refine VC.seq ?_
    refine VC.block ?_
    refine VC.seq ?_
    refine VC.region ?_
    refine Ops.r (Run.mv rfl) rfl ?_
    refine Ops.r (Run.asg rfl) rfl ?_
    refine Ops.nil ?_
    refine thenQ_n ?_
    refine VC.sub [(0, _), (6, _), (7, _), (20, _), (21, _)] (.cons rfl (.cons rfl (.cons rfl (.cons rfl (.cons rfl .nil))))) ?_
    refine VC.seq ?_
    refine VC.still (by kernel_rfl) (by kernel_rfl) ?_
    refine SOps.r (Run.mv rfl) rfl ?_
    refine SOps.r (Run.mv rfl) rfl ?_
    refine SOps.r (Run.nilck rfl) rfl ?_
    refine SOps.r (Run.fieldAddr rfl Try.underlying66 rfl Try.sizeOf22 (by decide)) rfl ?_
    refine SOps.r (Run.load rfl Try.isAgg22 (hb.cell 0)) rfl ?_
    refine SOps.r (Run.mv rfl) rfl ?_
    refine SOps.r (Run.nilck rfl) rfl ?_
    refine SOps.r (Run.fieldAddr rfl Try.underlying66 rfl Try.sizeOf3 (by decide)) rfl ?_
    refine SOps.r (Run.load rfl Try.isAgg3 (hb.cell 1)) rfl ?_
    refine SOps.r (Run.bin rfl rfl (Bin.quo_i64 _ 8 (by omega) (by omega))) rfl ?_
    refine SOps.r (Run.index1 _ rfl rfl Try.underlying22 Try.sizeOf5 (by omega)) rfl ?_
    refine SOps.r (Run.load rfl Try.isAgg5 hcell) rfl ?_
    refine SOps.r (Run.mv rfl) rfl ?_
    refine SOps.r (Run.nilck rfl) rfl ?_
    refine SOps.r (Run.fieldAddr rfl Try.underlying66 rfl Try.sizeOf3 (by decide)) rfl ?_
    refine SOps.r (Run.load rfl Try.isAgg3 (hb.cell 1)) rfl ?_
    refine SOps.r (Run.bin rfl rfl (Bin.remN _ 8 (by omega))) rfl ?_
    refine SOps.r (Run.bin rfl rfl (Bin.shr_u8 _ _ (by omega))) rfl ?_
    refine SOps.r (Run.bin rfl rfl (Bin.and_u8 _ 1 hdl (by omega))) rfl ?_
    refine SOps.r (Run.convN _ rfl Try.underlying5 Try.underlying74 (by simp only [bmax]; omega)) rfl ?_
    refine SOps.r (Run.mv rfl) rfl ?_
    refine SOps.r (Run.bin rfl rfl (Bin.shl_u64 _ _ (by omega) (by omega))) rfl ?_
    refine SOps.r (Run.bin rfl rfl (Bin.or_u64 _ _ (by omega) (by omega))) rfl ?_
    refine SOps.r (Run.asg rfl) rfl ?_
    refine SOps.nil ?_
    refine thenQ_n ?_
    refine VC.sub [(0, _), (6, _), (20, _), (21, _)] (.cons rfl (.cons rfl (.cons rfl (.cons rfl .nil)))) ?_
    refine VC.region ?_
    refine Ops.r (Run.mv rfl) rfl ?_
    refine Ops.r (Run.nilck rfl) rfl ?_
    refine Ops.r (Run.fieldAddr rfl Try.underlying66 rfl Try.sizeOf3 (by decide)) rfl ?_
    refine Ops.r (Run.load rfl Try.isAgg3 ((hb.drawn (Drawn.drew _)).cell 1)) rfl ?_
    refine Ops.r (Run.bin rfl rfl (Bin.add_i64 _ 1 (by omega))) rfl ?_
    refine Ops.r (Run.nilck rfl) rfl ?_
    refine Ops.r (Run.fieldAddr rfl Try.underlying66 rfl Try.sizeOf3 (by decide)) rfl ?_
    refine Ops.st (Acts.store rfl rfl Try.sizeOf3 (hb.drawn (Drawn.drew _)) rfl rfl) ?_
    rintro w2 ⟨hb2, hfr2, hsz2⟩
    refine Ops.nil ?_
    refine blockQ_n (thenQ_n ?_)
    refine VC.sub [(0, _), (6, _), (20, _), (21, _)] (.cons rfl (.cons rfl (.cons rfl (.cons rfl .nil)))) ?_
    refine VC.region ?_
    refine Ops.r (Run.bin rfl rfl (Bin.add_i64 _ 1 (by omega))) rfl ?_
    refine Ops.r (Run.mv rfl) rfl ?_
    refine Ops.nil ?_
    refine thenQ_n ⟨(k + 1), (.cons rfl (.cons (by rw [hsn, ← h1m]; rfl) (.cons rfl (.cons rfl .nil)))), ?_, ?_⟩
    · skip
      refine ⟨hc3, ⟨c, hb2, (ho.drawn (Drawn.drew _)).frm hfr2 ?_⟩, (hfr1.drawn (Drawn.drew _)).trans hfr2 (fun x hx => .inl hx)⟩
      intro x hx hx2
      simp at hx2
      subst hx2
      exact ho.ne_blk hb (by decide) hx
    · skip
      first | omega | (dsimp only; omega)
  · skip
    refine VC.exit ?_
    refine thenQ_x (thenQ_x (blockQ_x ?_))
    refine thenQ_n ?_
    refine VC.sub [(6, _)] (.cons rfl .nil) ?_
    refine VC.seq ?_
    refine VC.region ?_
    refine Ops.r (Run.mv rfl) rfl ?_
    refine Ops.r (Run.asg rfl) rfl ?_
    refine Ops.r (v := .int .i64 ((0 : Nat) : Int)) (Run.asg rfl) rfl ?_
    refine Ops.nil ?_
    refine thenQ_n ?_
    refine VC.sub [(4, _), (5, _)] (.cons rfl (.cons rfl .nil)) ?_
    refine VC.ret ?_
    refine end2 rfl rfl ?_
    have : k = n := by omega
    subst this
    exact ⟨rfl, ⟨c, hb, ho⟩, hfr1⟩

set_option maxRecDepth 100000 in
theorem octets_neg (g : Nat) (n : Int) (p : Nat) (A : Option Addr) (bs : List Nat) (w : World) (hp : p ≤ 8 * bs.length) (hbs : bs.length ≤ 1000000000) (hR : IsR w g A bs p) (hn : n < 0) :
    Calls Try.prog 48 #[.pointer (some ⟨g, 0, none⟩), .int .i64 n] w fun e w' => e = .returned (.tuple #[.slice none 0 0, .int .i64 ((1 : Nat) : Int)]) ∧ IsR w' g A bs ((p + 7) / 8 * 8) ∧ Frm [g] w w' := by
  refine VC.calls (nt := 42) (res := #[.tmp 4, .tmp 5]) Try.func48 rfl Try.ntmps48 Try.results48 rfl ?_
  refine VC.seq ?_
  refine VC.region ?_
  refine Ops.r (Run.asg rfl) rfl ?_
  refine Ops.r (v := .int .i64 ((0 : Nat) : Int)) (Run.asg rfl) rfl ?_
  refine Ops.nil ?_
  refine thenQ_n ?_
  refine VC.sub [(0, _), (1, _)] (.cons rfl (.cons rfl .nil)) ?_
  refine VC.seq ?_
  refine VC.region ?_
  refine Ops.r (Run.mv rfl) rfl ?_
  refine Ops.cl (Enters.fn (evs.cons rfl evs.nil) Try.call47) (align_spec g p A bs _ hp hbs hR) rfl ?_
  rintro e w1 ⟨rfl, hR1, hfr1⟩
  refine ⟨_, rfl, ?_⟩
  have hq : (p + 7) / 8 * 8 ≤ 8 * bs.length := by omega
  refine Ops.nil ?_
  refine thenQ_n ?_
  refine VC.sub [(0, _), (1, _)] (.cons rfl (.cons rfl .nil)) ?_
  refine VC.seq ?_
  refine VC.block ?_
  refine VC.seq ?_
  refine VC.region ?_
  refine Ops.r (Run.mv rfl) rfl ?_
  refine Ops.r (Run.bin rfl rfl (Bin.lss _ 0)) rfl ?_
  refine Ops.r (Run.asg rfl) rfl ?_
  refine Ops.nil ?_
  refine thenQ_n ?_
  refine VC.sub [(0, _), (1, _), (9, _)] (.cons rfl (.cons rfl (.cons rfl .nil))) ?_
  refine VC.condT rfl (decide_eq_true hn) ?_
  refine VC.seq ?_
  refine VC.region ?_
  refine Ops.r (Run.asg rfl) rfl ?_
  refine Ops.r (v := .int .i64 ((1 : Nat) : Int)) (Run.asg rfl) rfl ?_
  refine Ops.nil ?_
  refine thenQ_n ?_
  refine VC.sub [(4, _), (5, _)] (.cons rfl (.cons rfl .nil)) ?_
  refine VC.ret ?_
  refine blockQ_r (thenQ_r (end2 rfl rfl ?_))
  exact ⟨rfl, hR1, hfr1⟩

set_option maxRecDepth 100000 in
theorem octets_short (g n : Nat) (p : Nat) (A : Option Addr) (bs : List Nat) (w : World) (hp : p ≤ 8 * bs.length) (hbs : bs.length ≤ 1000000000) (hR : IsR w g A bs p) (hn : (8 * bs.length - (p + 7) / 8 * 8) / 8 < n) :
    Calls Try.prog 48 #[.pointer (some ⟨g, 0, none⟩), .int .i64 n] w fun e w' => e = .returned (.tuple #[.slice none 0 0, .int .i64 ((2 : Nat) : Int)]) ∧ IsR w' g A bs ((p + 7) / 8 * 8) ∧ Frm [g] w w' := by
  refine VC.calls (nt := 42) (res := #[.tmp 4, .tmp 5]) Try.func48 rfl Try.ntmps48 Try.results48 rfl ?_
  refine VC.seq ?_
  refine VC.region ?_
  refine Ops.r (Run.asg rfl) rfl ?_
  refine Ops.r (v := .int .i64 ((0 : Nat) : Int)) (Run.asg rfl) rfl ?_
  refine Ops.nil ?_
  refine thenQ_n ?_
  refine VC.sub [(0, _), (1, _)] (.cons rfl (.cons rfl .nil)) ?_
  refine VC.seq ?_
  refine VC.region ?_
  refine Ops.r (Run.mv rfl) rfl ?_
  refine Ops.cl (Enters.fn (evs.cons rfl evs.nil) Try.call47) (align_spec g p A bs _ hp hbs hR) rfl ?_
  rintro e w1 ⟨rfl, hR1, hfr1⟩
  refine ⟨_, rfl, ?_⟩
  have hq : (p + 7) / 8 * 8 ≤ 8 * bs.length := by omega
  refine Ops.nil ?_
  refine thenQ_n ?_
  refine VC.sub [(0, _), (1, _)] (.cons rfl (.cons rfl .nil)) ?_
  refine VC.seq ?_
  refine VC.block ?_
  refine VC.seq ?_
  refine VC.region ?_
  refine Ops.r (Run.mv rfl) rfl ?_
  refine Ops.r (Run.bin rfl rfl (Bin.lssN _ 0)) rfl ?_
  refine Ops.r (Run.asg rfl) rfl ?_
  refine Ops.nil ?_
  refine thenQ_n ?_
  refine VC.sub [(0, _), (1, _), (9, _)] (.cons rfl (.cons rfl (.cons rfl .nil))) ?_
  refine VC.condF rfl (decide_eq_false (by omega)) ?_
  refine VC.seq ?_
  refine VC.region ?_
  refine Ops.r (Run.mv rfl) rfl ?_
  refine Ops.r (Run.mv rfl) rfl ?_
  refine Ops.cl (Enters.fn (evs.cons rfl evs.nil) Try.call56) (left_spec g ((p + 7) / 8 * 8) A bs _ hq hbs hR1) rfl ?_
  rintro e w2 ⟨rfl, hd2⟩
  refine ⟨_, rfl, ?_⟩
  refine Ops.r (Run.bin rfl rfl (Bin.quo_i64 _ 8 (by omega) (by omega))) rfl ?_
  refine Ops.r (Run.bin rfl rfl (Bin.gtrN _ _)) rfl ?_
  refine Ops.r (Run.asg rfl) rfl ?_
  refine Ops.nil ?_
  refine thenQ_n ?_
  refine VC.sub [(0, _), (1, _), (12, _)] (.cons rfl (.cons rfl (.cons rfl .nil))) ?_
  refine VC.condT rfl (decide_eq_true hn) ?_
  refine VC.seq ?_
  refine VC.region ?_
  refine Ops.r (Run.asg rfl) rfl ?_
  refine Ops.r (v := .int .i64 ((2 : Nat) : Int)) (Run.asg rfl) rfl ?_
  refine Ops.nil ?_
  refine thenQ_n ?_
  refine VC.sub [(4, _), (5, _)] (.cons rfl (.cons rfl .nil)) ?_
  refine VC.ret ?_
  refine blockQ_r (thenQ_r (end2 rfl rfl ?_))
  exact ⟨rfl, hR1.frm hd2.frm (by simp), hfr1.drawn hd2⟩

set_option maxRecDepth 100000 in
theorem octets_ok (g n : Nat) (p : Nat) (A : Option Addr) (bs : List Nat) (w : World) (hp : p ≤ 8 * bs.length) (hbs : bs.length ≤ 1000000000) (hR : IsR w g A bs p) (hn : n ≤ (8 * bs.length - (p + 7) / 8 * 8) / 8) :
    Calls Try.prog 48 #[.pointer (some ⟨g, 0, none⟩), .int .i64 n] w fun e w' => ∃ B c, e = .returned (.tuple #[.slice B n c, .int .i64 ((0 : Nat) : Int)]) ∧ Own w' 5 1 B n c (NB ((bs.drop ((p + 7) / 8)).take n)) ∧ IsR w' g A bs ((p + 7) / 8 * 8 + 8 * n) ∧ Frm [g] w w' ∧ ∀ x ∈ ob B, w.heap.size ≤ x := by
  refine VC.calls (nt := 42) (res := #[.tmp 4, .tmp 5]) Try.func48 rfl Try.ntmps48 Try.results48 rfl ?_
  refine VC.seq ?_
  refine VC.region ?_
  refine Ops.r (Run.asg rfl) rfl ?_
  refine Ops.r (v := .int .i64 ((0 : Nat) : Int)) (Run.asg rfl) rfl ?_
  refine Ops.nil ?_
  refine thenQ_n ?_
  refine VC.sub [(0, _), (1, _)] (.cons rfl (.cons rfl .nil)) ?_
  refine VC.seq ?_
  refine VC.region ?_
  refine Ops.r (Run.mv rfl) rfl ?_
  refine Ops.cl (Enters.fn (evs.cons rfl evs.nil) Try.call47) (align_spec g p A bs _ hp hbs hR) rfl ?_
  rintro e w1 ⟨rfl, hR1, hfr1⟩
  refine ⟨_, rfl, ?_⟩
  have hq : (p + 7) / 8 * 8 ≤ 8 * bs.length := by omega
  refine Ops.nil ?_
  refine thenQ_n ?_
  refine VC.sub [(0, _), (1, _)] (.cons rfl (.cons rfl .nil)) ?_
  refine VC.seq ?_
  refine VC.block ?_
  refine VC.seq ?_
  refine VC.region ?_
  refine Ops.r (Run.mv rfl) rfl ?_
  refine Ops.r (Run.bin rfl rfl (Bin.lssN _ 0)) rfl ?_
  refine Ops.r (Run.asg rfl) rfl ?_
  refine Ops.nil ?_
  refine thenQ_n ?_
  refine VC.sub [(0, _), (1, _), (9, _)] (.cons rfl (.cons rfl (.cons rfl .nil))) ?_
  refine VC.condF rfl (decide_eq_false (by omega)) ?_
  refine VC.seq ?_
  refine VC.region ?_
  refine Ops.r (Run.mv rfl) rfl ?_
  refine Ops.r (Run.mv rfl) rfl ?_
  refine Ops.cl (Enters.fn (evs.cons rfl evs.nil) Try.call56) (left_spec g ((p + 7) / 8 * 8) A bs _ hq hbs hR1) rfl ?_
  rintro e w2 ⟨rfl, hd2⟩
  refine ⟨_, rfl, ?_⟩
  obtain ⟨c, hb, ho⟩ := hR1.frm hd2.frm (by simp)
  refine Ops.r (Run.bin rfl rfl (Bin.quo_i64 _ 8 (by omega) (by omega))) rfl ?_
  refine Ops.r (Run.bin rfl rfl (Bin.gtrN _ _)) rfl ?_
  refine Ops.r (Run.asg rfl) rfl ?_
  refine Ops.nil ?_
  refine thenQ_n ?_
  refine VC.sub [(0, _), (1, _), (12, _)] (.cons rfl (.cons rfl (.cons rfl .nil))) ?_
  refine VC.condF rfl (decide_eq_false (by omega)) ?_
  refine VC.skip ?_
  refine blockQ_n (thenQ_n ?_)
  refine VC.sub [(0, _), (1, _)] (.cons rfl (.cons rfl .nil)) ?_
  refine VC.seq ?_
  refine VC.region ?_
  refine Ops.r (Run.mv rfl) rfl ?_
  refine Ops.r (Run.nilck rfl) rfl ?_
  refine Ops.r (Run.fieldAddr rfl Try.underlying66 rfl Try.sizeOf3 (by decide)) rfl ?_
  refine Ops.r (Run.load rfl Try.isAgg3 (hb.cell 1)) rfl ?_
  refine Ops.r (Run.bin rfl rfl (Bin.quo_i64 _ 8 (by omega) (by omega))) rfl ?_
  refine Ops.r (Run.asg rfl) rfl ?_
  refine Ops.nil ?_
  refine thenQ_n ?_
  refine VC.sub [(0, _), (1, _), (6, _)] (.cons rfl (.cons rfl (.cons rfl .nil))) ?_
  refine VC.seq ?_
  refine VC.region ?_
  refine Ops.r (Run.mv rfl) rfl ?_
  refine Ops.r (Run.nilck rfl) rfl ?_
  refine Ops.r (Run.fieldAddr rfl Try.underlying66 rfl Try.sizeOf3 (by decide)) rfl ?_
  refine Ops.r (Run.load rfl Try.isAgg3 (hb.cell 1)) rfl ?_
  refine Ops.r (Run.mv rfl) rfl ?_
  refine Ops.r (Run.bin rfl rfl (Bin.mul_i64 8 _ (by omega))) rfl ?_
  refine Ops.r (Run.bin rfl rfl (Bin.add_i64 _ _ (by omega))) rfl ?_
  refine Ops.r (Run.nilck rfl) rfl ?_
  refine Ops.r (Run.fieldAddr rfl Try.underlying66 rfl Try.sizeOf3 (by decide)) rfl ?_
  refine Ops.st (Acts.store rfl rfl Try.sizeOf3 hb rfl rfl) ?_
  rintro w3 ⟨hb3, hfr3, hsz3⟩
  have hne : ∀ x ∈ ob A, x ∉ [g] := by
    intro x hx hx2
    simp at hx2
    subst hx2
    exact ho.ne_blk hb (by decide) hx
  have ho3 := ho.frm hfr3 hne
  have hcap := ho3.le
  refine Ops.nil ?_
  refine thenQ_n ?_
  refine VC.sub [(0, _), (1, _), (6, _)] (.cons rfl (.cons rfl (.cons rfl .nil))) ?_
  refine VC.seq ?_
  refine VC.region ?_
  refine Ops.r (Run.mv rfl) rfl ?_
  refine Ops.r (Run.nilck rfl) rfl ?_
  refine Ops.r (Run.fieldAddr rfl Try.underlying66 rfl Try.sizeOf22 (by decide)) rfl ?_
  refine Ops.r (Run.load rfl Try.isAgg22 (hb3.cell 0)) rfl ?_
  refine Ops.r (Run.mv rfl) rfl ?_
  refine Ops.r (Run.mv rfl) rfl ?_
  refine Ops.r (Run.mv rfl) rfl ?_
  refine Ops.r (Run.bin rfl rfl (Bin.add_i64 _ _ (by omega))) rfl ?_
  refine Ops.r (Run.sliceS _ _ rfl Try.underlying22 Try.sizeOf5 (evB.some_ rfl) (evB.some_ rfl) (by omega) (by omega)) rfl ?_
  refine Ops.m (Does.app rfl rfl Try.underlying22 (info5) rfl (by decide) (Own.nil _ _ _) (ho3.rd.cut (cap := c) (l := (p + 7) / 8 * 8 / 8) (r := (p + 7) / 8 * 8 / 8 + n) (by omega) (by omega) hcap) (fun u hu => NB_one bs u (List.mem_of_mem_drop (List.mem_of_mem_take hu))) (by omega) (by omega)) rfl ?_
  rintro _ w4 ⟨A4, c4, rfl, ho4, hfr4, hob4⟩
  refine Ops.r (Run.asg rfl) rfl ?_
  refine Ops.r (v := .int .i64 ((0 : Nat) : Int)) (Run.asg rfl) rfl ?_
  refine Ops.nil ?_
  refine thenQ_n ?_
  refine VC.sub [(4, _), (5, _)] (.cons rfl (.cons rfl .nil)) ?_
  refine VC.ret ?_
  refine end2 rfl rfl ?_
  have e1 : (p + 7) / 8 * 8 / 8 = (p + 7) / 8 := by omega
  have e2 : 0 + ((p + 7) / 8 * 8 / 8 + n - (p + 7) / 8 * 8 / 8) = n := by omega
  have e3 : [] ++ List.take (((p + 7) / 8 * 8 / 8 + n - (p + 7) / 8 * 8 / 8) * 1) (List.drop ((p + 7) / 8 * 8 / 8 * 1) (NB bs)) = NB ((bs.drop ((p + 7) / 8)).take n) := by
    rw [List.nil_append, Nat.mul_one, Nat.mul_one, e1, Nat.add_sub_cancel_left]
    simp [NB, List.map_take, List.map_drop]
  rw [e2, e3] at ho4
  rw [e2]
  refine ⟨A4, c4, rfl, ho4, ⟨c, hb3.frm hfr4 (by simp [ob]), ho3.frm hfr4 (by simp [ob])⟩, ?_, ?_⟩
  · exact ((hfr1.drawn hd2).trans hfr3 (fun x hx => .inl hx)).trans hfr4 (by simp [ob])
  · intro x hx
    have := hfr1.size
    have := hd2.frm.size
    have := hfr3.size
    rcases hob4 with h | h <;> rw [h] at hx <;> simp [ob] at hx
    omega

theorem Own.ne_r {w : World} {e size n c g p : Nat} {A Aw : Option Addr} {xs : List Value} {bs : List Nat} (h : Own w e size A n c xs) (hR : IsR w g Aw bs p) (h1 : e ≠ 66) : ∀ x ∈ ob A, x ∉ [g] := by
  obtain ⟨c', hb, ho⟩ := hR
  intro x hx hx2
  simp at hx2
  subst hx2
  exact h.ne_blk hb h1 hx
theorem mem_swap {S T : List Nat} (h : ∀ x ∈ S, x ∉ T) : ∀ x ∈ T, x ∉ S := fun x hx hx2 => h x hx2 hx

end Go.Proofs.Ytfjhmbgckmhdaaa
