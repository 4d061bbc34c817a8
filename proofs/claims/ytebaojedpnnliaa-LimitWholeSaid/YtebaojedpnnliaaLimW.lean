/-
  Coins in a row: what a package is in cells, and the methods that container/heap asks for.
-/
import Derived.Test.YtebaojedpnnliaaTy
import Derived.Test.YtebaojedpnnliaaLimH
import Derived.Test.YtebaojedpnnliaaCanC
namespace Go.Proofs.Ytebaojedpnnliaa
open Go.RowKit

/-- A package as it stands in cells. -/
structure PkC where
  count : Nat
  A : Option Addr
  c : Nat
  sy : List Nat
def PkC.cells (p : PkC) : List Value := [.int .i64 ((p.count : Nat) : Int), .slice p.A p.sy.length p.c]
theorem PkC.cells_len (p : PkC) : p.cells.length = 2 := rfl
theorem PkC.one (p : PkC) : ∀ v ∈ p.cells, v.oneCell' = true := by
  intro v hv
  simp only [PkC.cells, List.mem_cons, List.not_mem_nil, or_false] at hv
  rcases hv with rfl | rfl <;> rfl
def PkC.zero : PkC := ⟨0, none, 0, []⟩
/-- By this packages are in order. -/
def PkC.key (p : PkC) : Nat := p.count * 1024 + p.sy.headD 0
def PkOk (w : World) (p : PkC) : Prop := Own w 3 1 p.A p.sy.length p.c (NI p.sy)
theorem PkOk.frm {w w' : World} {p : PkC} {S : List Nat} (h : PkOk w p) (k : Frm S w w') (hS : ∀ x ∈ ob p.A, x ∉ S) : PkOk w' p := Own.frm h k hS
/-- Packages in a row. -/
def Pks (w : World) (A : Option Addr) (c : Nat) (ps : List PkC) : Prop := Own w 100 2 A ps.length c (ps.flatMap PkC.cells) ∧ ∀ p ∈ ps, PkOk w p
theorem Pks.frm {w w' : World} {A : Option Addr} {c : Nat} {ps : List PkC} {S : List Nat} (h : Pks w A c ps) (k : Frm S w w') (hA : ∀ x ∈ ob A, x ∉ S) (hS : ∀ p ∈ ps, ∀ x ∈ ob p.A, x ∉ S) : Pks w' A c ps :=
  ⟨h.1.frm k hA, fun p hp => (h.2 p hp).frm k (hS p hp)⟩
def kk (ps : List PkC) (x : Nat) : Nat := (ps.getD x PkC.zero).key
theorem kk_at (ps : List PkC) (x : Nat) (h : x < ps.length) : kk ps x = ps[x].key := by simp [kk, List.getD, List.getElem?_eq_getElem h]
/-- Two places of a list change. -/
def swapL (ps : List PkC) (i j : Nat) : List PkC := (ps.set i (ps.getD j PkC.zero)).set j (ps.getD i PkC.zero)
theorem swapL_len (ps : List PkC) (i j : Nat) : (swapL ps i j).length = ps.length := by simp [swapL]
theorem swapL_kk (ps : List PkC) (i j : Nat) (hi : i < ps.length) (hj : j < ps.length) : kk (swapL ps i j) = sw (kk ps) i j := by
  funext x
  unfold kk swapL sw
  simp only [List.getD, List.getElem?_set, List.length_set]
  by_cases h1 : j = x
  · subst h1
    by_cases h2 : j = i
    · subst h2; simp [hj, kk]
    · simp [hj, h2, kk]
  · have h1' : ¬ x = j := fun e => h1 e.symm
    by_cases h2 : i = x
    · subst h2; simp [hi, h1, kk]
    · have h2' : ¬ x = i := fun e => h2 e.symm
      simp [h1, h2, h1', h2', kk]
open Classical in
theorem swapL_perm (ps : List PkC) (i j : Nat) (hi : i < ps.length) (hj : j < ps.length) : (swapL ps i j).Perm ps := by
  rw [List.perm_iff_count]
  intro a
  unfold swapL
  have e1 : ps.getD i PkC.zero = ps[i] := by simp [List.getD, List.getElem?_eq_getElem hi]
  have e2 : ps.getD j PkC.zero = ps[j] := by simp [List.getD, List.getElem?_eq_getElem hj]
  rw [e1, e2, List.count_set (by simpa using hj), List.count_set hi]
  have h1 : (if ps[i] == a then 1 else 0) ≤ ps.count a := by
    split
    · rename_i h
      have := beq_iff_eq.1 h
      subst this
      exact List.count_pos_iff.2 (List.getElem_mem hi)
    · exact Nat.zero_le _
  have h2 : ((ps.set i ps[j])[j]'(by simpa using hj)) = if i = j then ps[j] else ps[j] := by
    rw [List.getElem_set]
  rw [h2]
  simp only [ite_self]
  all_goals omega
theorem m_Push (v : Value) (w : World) (args : Array Value) : (callMethod (.iface 107 v) "Push" args).run Try.prog w = .ok (.enter 88 (#[v] ++ args)) w := by kernel_rfl
theorem m_Len (v : Value) (w : World) (args : Array Value) : (callMethod (.iface 107 v) "Len" args).run Try.prog w = .ok (.enter 64 (#[v] ++ args)) w := by kernel_rfl
theorem m_Pop (v : Value) (w : World) (args : Array Value) : (callMethod (.iface 107 v) "Pop" args).run Try.prog w = .ok (.enter 87 (#[v] ++ args)) w := by kernel_rfl
theorem m_Less {a : Addr} {v : Value} {w : World} (hc : w.cell? a = some v) (args : Array Value) : (callMethod (.iface 107 (.pointer (some a))) "Less" args).run Try.prog w = .ok (.enter 86 (#[v] ++ args)) w :=
  hm_deref (m := ((Try.prog.info? 107).bind fun i => i.methods.find? (·.name == "Less")).get (by kernel_rfl)) (i := (Try.prog.info? 107).get (by kernel_rfl)) (by kernel_rfl) (by kernel_rfl) (by kernel_rfl) (by kernel_rfl) Try.underlying107 (loadVar_cell Try.isAgg108 hc) Try.call86 args
theorem m_Swap {a : Addr} {v : Value} {w : World} (hc : w.cell? a = some v) (args : Array Value) : (callMethod (.iface 107 (.pointer (some a))) "Swap" args).run Try.prog w = .ok (.enter 89 (#[v] ++ args)) w :=
  hm_deref (m := ((Try.prog.info? 107).bind fun i => i.methods.find? (·.name == "Swap")).get (by kernel_rfl)) (i := (Try.prog.info? 107).get (by kernel_rfl)) (by kernel_rfl) (by kernel_rfl) (by kernel_rfl) (by kernel_rfl) Try.underlying107 (loadVar_cell Try.isAgg108 hc) Try.call89 args
/-- The coins of a heap, at a block. -/
def IsC (w : World) (g : Nat) (A : Option Addr) (c : Nat) (ps : List PkC) : Prop := Blk w g 108 #[.slice A ps.length c] ∧ Pks w A c ps

set_option maxRecDepth 100000 in
theorem cLen_spec (g c : Nat) (A : Option Addr) (ps : List PkC) (w : World) (h : IsC w g A c ps) :
    Calls Try.prog 64 #[.pointer (some ⟨g, 0, none⟩)] w fun e w' => e = .returned (.int .i64 ((ps.length : Nat) : Int)) ∧ w = w' := by
  refine VC.calls (nt := 7) (res := #[.tmp 2]) Try.func64 rfl Try.ntmps64 Try.results64 rfl ?_
  refine VC.seq ?_
  refine VC.region ?_
  refine Ops.r (v := .int .i64 ((0 : Nat) : Int)) (Run.asg rfl) rfl ?_
  refine Ops.nil ?_
  refine thenQ_n ?_
  refine VC.sub [(0, _)] (.cons rfl .nil) ?_
  refine VC.seq ?_
  refine VC.region ?_
  refine Ops.r (Run.mv rfl) rfl ?_
  refine Ops.r (Run.nilck rfl) rfl ?_
  refine Ops.r (Run.load rfl Try.isAgg108 (h.1.cell 0)) rfl ?_
  refine Ops.r (Run.lenS rfl Try.underlying108) rfl ?_
  refine Ops.r (Run.asg rfl) rfl ?_
  refine Ops.nil ?_
  refine thenQ_n ?_
  refine VC.sub [(2, _)] (.cons rfl .nil) ?_
  refine VC.ret ?_
  refine end1 rfl ?_
  exact ⟨rfl, rfl⟩

set_option maxRecDepth 100000 in
theorem cLess_spec (A : Option Addr) (c i j : Nat) (ps : List PkC) (w : World) (h : Pks w A c ps) (hi : i < ps.length) (hj : j < ps.length) (hs : ∀ p ∈ ps, ∃ s, p.sy = [s] ∧ s < 1024) :
    Calls Try.prog 86 #[.slice A ps.length c, .int .i64 ((i : Nat) : Int), .int .i64 ((j : Nat) : Int)] w fun e w' => e = .returned (.bool (decide (kk ps i < kk ps j))) ∧ Drawn w w' := by
  rw [kk_at ps i hi, kk_at ps j hj]
  obtain ⟨ad, rfl, heli⟩ := h.1.rd.elem hi
  obtain ⟨ad2, had, helj⟩ := h.1.rd.elem hj
  obtain rfl : ad = ad2 := by injection had
  rw [flat_get PkC.cells 2 PkC.cells_len ps i hi] at heli
  rw [flat_get PkC.cells 2 PkC.cells_len ps j hj] at helj
  have hoi := h.2 _ (List.getElem_mem hi)
  have hoj := h.2 _ (List.getElem_mem hj)
  obtain ⟨si, hsi, hsil⟩ := hs _ (List.getElem_mem hi)
  obtain ⟨sj, hsj, hsjl⟩ := hs _ (List.getElem_mem hj)
  generalize ps[i] = pi at *
  generalize ps[j] = pj at *
  have hki : pi.key = pi.count * 1024 + si := by unfold PkC.key; rw [hsi]; rfl
  have hkj : pj.key = pj.count * 1024 + sj := by unfold PkC.key; rw [hsj]; rfl
  unfold PkOk at hoi hoj
  obtain ⟨ai, hai, hci⟩ := NI_at hoi.rd (k := 0) (by rw [hsi]; simp)
  obtain ⟨aj, haj, hcj⟩ := NI_at hoj.rd (k := 0) (by rw [hsj]; simp)
  have hci' : w.cell? (ai.add 0) = some (.int .i64 ((si : Nat) : Int)) := by rw [hci]; simp [hsi]
  have hcj' : w.cell? (aj.add 0) = some (.int .i64 ((sj : Nat) : Int)) := by rw [hcj]; simp [hsj]
  have hli : pi.sy.length = 1 := by rw [hsi]; rfl
  have hlj : pj.sy.length = 1 := by rw [hsj]; rfl
  have h1i : (PkC.cells pi)[1]? = some (.slice (some ai) 1 pi.c) := by simp [PkC.cells, hai, hli]
  have h1j : (PkC.cells pj)[1]? = some (.slice (some aj) 1 pj.c) := by simp [PkC.cells, haj, hlj]
  refine VC.calls (nt := 44) (res := #[.tmp 6]) Try.func86 rfl Try.ntmps86 Try.results86 rfl ?_
  refine VC.seq ?_
  refine VC.region ?_
  refine Ops.r (Run.asg rfl) rfl ?_
  refine Ops.nil ?_
  refine thenQ_n ?_
  refine VC.sub [(0, _), (1, _), (2, _)] (.cons rfl (.cons rfl (.cons rfl .nil))) ?_
  refine VC.seq ?_
  refine VC.seq ?_
  refine VC.still (by kernel_rfl) (by kernel_rfl) ?_
  refine SOps.r (Run.mv rfl) rfl ?_
  refine SOps.r (Run.mv rfl) rfl ?_
  refine SOps.r (Run.indexS _ rfl rfl Try.underlying108 Try.sizeOf100 (by omega)) rfl ?_
  refine SOps.r (Run.fieldAddr rfl Try.underlying100 rfl Try.sizeOf3 (by decide)) rfl ?_
  refine SOps.r (Run.load rfl Try.isAgg3 (heli 0 _ rfl)) rfl ?_
  refine SOps.r (Run.mv rfl) rfl ?_
  refine SOps.r (Run.mv rfl) rfl ?_
  refine SOps.r (Run.indexS _ rfl rfl Try.underlying108 Try.sizeOf100 (by omega)) rfl ?_
  refine SOps.r (Run.fieldAddr rfl Try.underlying100 rfl Try.sizeOf3 (by decide)) rfl ?_
  refine SOps.r (Run.load rfl Try.isAgg3 (helj 0 _ rfl)) rfl ?_
  refine SOps.r (Run.bin rfl rfl (Bin.neqN _ _)) rfl ?_
  refine SOps.nil ?_
  refine thenQ_n ?_
  refine VC.sub [(0, _), (1, _), (2, _), (17, _)] (.cons rfl (.cons rfl (.cons rfl (.cons rfl .nil)))) ?_
  refine VC.condD rfl (fun hc1 => ?_) (fun hc1 => ?_)
  · skip
    refine VC.seq ?_
    refine VC.still (by kernel_rfl) (by kernel_rfl) ?_
    refine SOps.r (Run.mv rfl) rfl ?_
    refine SOps.r (Run.mv rfl) rfl ?_
    refine SOps.r (Run.indexS _ rfl rfl Try.underlying108 Try.sizeOf100 (by omega)) rfl ?_
    refine SOps.r (Run.fieldAddr rfl Try.underlying100 rfl Try.sizeOf3 (by decide)) rfl ?_
    refine SOps.r (Run.load rfl Try.isAgg3 (heli 0 _ rfl)) rfl ?_
    refine SOps.r (Run.mv rfl) rfl ?_
    refine SOps.r (Run.mv rfl) rfl ?_
    refine SOps.r (Run.indexS _ rfl rfl Try.underlying108 Try.sizeOf100 (by omega)) rfl ?_
    refine SOps.r (Run.fieldAddr rfl Try.underlying100 rfl Try.sizeOf3 (by decide)) rfl ?_
    refine SOps.r (Run.load rfl Try.isAgg3 (helj 0 _ rfl)) rfl ?_
    refine SOps.r (Run.bin rfl rfl (Bin.lssN _ _)) rfl ?_
    refine SOps.r (Run.asg rfl) rfl ?_
    refine SOps.nil ?_
    refine thenQ_n ?_
    refine VC.sub [(6, _)] (.cons rfl .nil) ?_
    refine VC.ret ?_
    refine thenQ_r (end1 rfl ?_)
    refine ⟨?_, (Drawn.drew _).trans (Drawn.drew _)⟩
    rw [hki, hkj]
    congr 2
    rw [decide_eq_decide]
    omega
  · skip
    refine VC.skip ?_
    refine thenQ_n ?_
    refine VC.sub [(0, _), (1, _), (2, _)] (.cons rfl (.cons rfl (.cons rfl .nil))) ?_
    refine VC.seq ?_
    refine VC.still (by kernel_rfl) (by kernel_rfl) ?_
    refine SOps.r (Run.mv rfl) rfl ?_
    refine SOps.r (Run.mv rfl) rfl ?_
    refine SOps.r (Run.indexS _ rfl rfl Try.underlying108 Try.sizeOf100 (by omega)) rfl ?_
    refine SOps.r (Run.fieldAddr rfl Try.underlying100 rfl Try.sizeOf54 (by decide)) rfl ?_
    refine SOps.r (Run.load rfl Try.isAgg54 (heli 1 _ h1i)) rfl ?_
    refine SOps.r (Run.index1 0 rfl rfl Try.underlying54 Try.sizeOf3 (by omega)) rfl ?_
    refine SOps.r (Run.load rfl Try.isAgg3 hci') rfl ?_
    refine SOps.r (Run.mv rfl) rfl ?_
    refine SOps.r (Run.mv rfl) rfl ?_
    refine SOps.r (Run.indexS _ rfl rfl Try.underlying108 Try.sizeOf100 (by omega)) rfl ?_
    refine SOps.r (Run.fieldAddr rfl Try.underlying100 rfl Try.sizeOf54 (by decide)) rfl ?_
    refine SOps.r (Run.load rfl Try.isAgg54 (helj 1 _ h1j)) rfl ?_
    refine SOps.r (Run.index1 0 rfl rfl Try.underlying54 Try.sizeOf3 (by omega)) rfl ?_
    refine SOps.r (Run.load rfl Try.isAgg3 hcj') rfl ?_
    refine SOps.r (Run.bin rfl rfl (Bin.lssN _ _)) rfl ?_
    refine SOps.r (Run.asg rfl) rfl ?_
    refine SOps.nil ?_
    refine thenQ_n ?_
    refine VC.sub [(6, _)] (.cons rfl .nil) ?_
    refine VC.ret ?_
    refine end1 rfl ?_
    refine ⟨?_, (Drawn.drew _).trans (Drawn.drew _)⟩
    rw [hki, hkj]
    congr 2
    rw [decide_eq_decide]
    omega

theorem getD_atP (ps : List PkC) (i : Nat) (h : i < ps.length) : ps.getD i PkC.zero = ps[i] := by simp [List.getD, List.getElem?_eq_getElem h]
theorem Pks.ne {w : World} {A : Option Addr} {c : Nat} {ps : List PkC} (h : Pks w A c ps) : ∀ p ∈ ps, ∀ x ∈ ob p.A, x ∉ ob A := fun p hp => (h.2 p hp).ne_own h.1 (by decide)
theorem IsC.lt {w : World} {g c : Nat} {A : Option Addr} {ps : List PkC} (h : IsC w g A c ps) : g < w.heap.size := h.1.lt
theorem IsC.neA {w : World} {g c : Nat} {A : Option Addr} {ps : List PkC} (h : IsC w g A c ps) : g ∉ ob A := h.2.1.ne_blk h.1 (by decide)
theorem IsC.neP {w : World} {g c : Nat} {A : Option Addr} {ps : List PkC} (h : IsC w g A c ps) : ∀ p ∈ ps, g ∉ ob p.A := fun p hp => (h.2.2 p hp).ne_blk h.1 (by decide)

set_option maxRecDepth 100000 in
theorem cSwap_spec (A : Option Addr) (c i j : Nat) (ps : List PkC) (w : World) (h : Pks w A c ps) (hi : i < ps.length) (hj : j < ps.length) :
    Calls Try.prog 89 #[.slice A ps.length c, .int .i64 ((i : Nat) : Int), .int .i64 ((j : Nat) : Int)] w fun e w' => e = .returned (.tuple #[]) ∧ Pks w' A c (swapL ps i j) ∧ Frm (ob A) w w' := by
  have hpm := swapL_perm ps i j hi hj
  have hsl := swapL_len ps i j
  unfold swapL at hpm hsl ⊢
  rw [getD_atP ps i hi, getD_atP ps j hj] at hpm hsl ⊢
  obtain ⟨ad, rfl, heli⟩ := h.1.rd.elem hi
  obtain ⟨ad2, had, helj⟩ := h.1.rd.elem hj
  obtain rfl : ad = ad2 := by injection had
  rw [flat_get PkC.cells 2 PkC.cells_len ps i hi] at heli
  rw [flat_get PkC.cells 2 PkC.cells_len ps j hj] at helj
  generalize ps[i] = pi at *
  generalize ps[j] = pj at *
  refine VC.calls (nt := 20) (res := #[]) Try.func89 rfl Try.ntmps89 Try.results89 rfl ?_
  refine VC.held (fun _ => True) (by kernel_rfl) ?_
  refine HOps.take 0 rfl (by kernel_rfl) (by kernel_rfl) (by kernel_rfl) trivial (fun w0 hw0 => Run.mv rfl) trivial rfl rfl ?_
  refine HOps.take 1 rfl (by kernel_rfl) (by kernel_rfl) (by kernel_rfl) trivial (fun w0 hw0 => Run.mv rfl) trivial rfl rfl ?_
  refine HOps.take 2 rfl (by kernel_rfl) (by kernel_rfl) (by kernel_rfl) trivial (fun w0 hw0 => Run.mv rfl) trivial rfl rfl ?_
  refine HOps.take 3 rfl (by kernel_rfl) (by kernel_rfl) (by kernel_rfl) trivial (fun w0 hw0 => Run.mv rfl) trivial rfl rfl ?_
  refine HOps.take 4 rfl (by kernel_rfl) (by kernel_rfl) (by kernel_rfl) trivial (fun w0 hw0 => Run.mv rfl) trivial rfl rfl ?_
  refine HOps.take 5 rfl (by kernel_rfl) (by kernel_rfl) (by kernel_rfl) trivial (fun w0 hw0 => Run.mv rfl) trivial rfl rfl ?_
  refine HOps.take 6 rfl (by kernel_rfl) (by kernel_rfl) (by kernel_rfl) trivial (fun w0 hw0 => Run.indexS _ rfl rfl Try.underlying108 Try.sizeOf100 (by omega)) trivial rfl rfl ?_
  refine HOps.take 8 rfl (by kernel_rfl) (by kernel_rfl) (by kernel_rfl) trivial (fun w0 hw0 => Run.mv rfl) trivial rfl rfl ?_
  refine HOps.take 9 rfl (by kernel_rfl) (by kernel_rfl) (by kernel_rfl) trivial (fun w0 hw0 => Run.mv rfl) trivial rfl rfl ?_
  refine HOps.take 10 rfl (by kernel_rfl) (by kernel_rfl) (by kernel_rfl) trivial (fun w0 hw0 => Run.indexS _ rfl rfl Try.underlying108 Try.sizeOf100 (by omega)) trivial rfl rfl ?_
  refine HOps.r2 7 11 rfl rfl (by kernel_rfl) (by kernel_rfl) (by kernel_rfl) (by kernel_rfl) trivial rfl rfl (Run.loadA rfl Try.isAgg100 Try.sizeOf100 helj (by first | rfl | (simp; done))) (Run.loadA rfl Try.isAgg100 Try.sizeOf100 heli (by first | rfl | (simp; done))) (Run.loadA rfl Try.isAgg100 Try.sizeOf100 heli (by first | rfl | (simp; done))) (Run.loadA rfl Try.isAgg100 Try.sizeOf100 helj (by first | rfl | (simp; done))) rfl rfl rfl rfl rfl ?_
  refine HOps.take 12 rfl (by kernel_rfl) (by kernel_rfl) (by kernel_rfl) trivial (fun w0 hw0 => Run.indexS _ rfl rfl Try.underlying108 Try.sizeOf100 (by omega)) trivial rfl rfl ?_
  refine HOps.st 13 rfl (by kernel_rfl) (Acts.storeOwnA PkC.cells pj i rfl rfl Try.sizeOf100 PkC.cells_len rfl (h.1.drawn (Drawn.drew _)) rfl hi (PkC.one _)) trivial rfl ?_
  rintro w3 ⟨ho3, hf3, hs3⟩
  refine ⟨trivial, ?_⟩
  refine HOps.take 14 rfl (by kernel_rfl) (by kernel_rfl) (by kernel_rfl) trivial (fun w0 hw0 => Run.indexS _ rfl rfl Try.underlying108 Try.sizeOf100 (by omega)) trivial rfl rfl ?_
  refine HOps.st 15 rfl (by kernel_rfl) (Acts.storeOwnA PkC.cells pi j rfl rfl Try.sizeOf100 PkC.cells_len (by simp) ho3 rfl hj (PkC.one _)) trivial rfl ?_
  rintro w4 ⟨ho4, hf4, hs4⟩
  refine ⟨trivial, ?_⟩
  refine HOps.done (by kernel_rfl) ?_
  refine end0n ?_
  have hf := ((Drawn.drew w).frm.mono (T := ob (some ad)) (by simp)).trans (hf3.trans hf4 (fun x hx => .inl hx)) (fun x hx => .inl hx)
  refine ⟨rfl, ⟨?_, fun p hp => ?_⟩, hf⟩
  · rw [hsl]; exact ho4
  · have hp2 := hpm.mem_iff.1 hp
    exact (h.2 p hp2).frm hf (h.ne p hp2)

set_option maxRecDepth 100000 in
theorem cPush_spec (g c : Nat) (A : Option Addr) (ps : List PkC) (p : PkC) (w : World) (h : IsC w g A c ps) (hp : PkOk w p) (hl : ps.length ≤ 1000000) :
    Calls Try.prog 88 #[.pointer (some ⟨g, 0, none⟩), .iface 100 (.agg p.cells.toArray)] w fun e w' => e = .returned (.tuple #[]) ∧ ∃ A' c', IsC w' g A' c' (ps ++ [p]) ∧ Frm (g :: ob A) w w' ∧ ∀ x ∈ ob A', x ∈ ob A ∨ w.heap.size ≤ x := by
  refine VC.calls (nt := 13) (res := #[]) Try.func88 rfl Try.ntmps88 Try.results88 rfl ?_
  refine VC.held (fun _ => True) (by kernel_rfl) ?_
  refine HOps.take 0 rfl (by kernel_rfl) (by kernel_rfl) (by kernel_rfl) trivial (fun w0 hw0 => Run.mv rfl) trivial rfl rfl ?_
  refine HOps.take 1 rfl (by kernel_rfl) (by kernel_rfl) (by kernel_rfl) trivial (fun w0 hw0 => Run.mv rfl) trivial rfl rfl ?_
  refine HOps.take 2 rfl (by kernel_rfl) (by kernel_rfl) (by kernel_rfl) trivial (fun w0 hw0 => Run.nilck rfl) trivial rfl rfl ?_
  refine HOps.take 4 rfl (by kernel_rfl) (by kernel_rfl) (by kernel_rfl) trivial (fun w0 hw0 => Run.mv rfl) trivial rfl rfl ?_
  refine HOps.take 5 rfl (by kernel_rfl) (by kernel_rfl) (by kernel_rfl) trivial (fun w0 hw0 => Run.assertT rfl Try.underlying100 rfl) trivial rfl rfl ?_
  refine HOps.rm 3 6 (l2 := [3, 6]) rfl rfl (by kernel_rfl) (by simp) (by simp) (by kernel_rfl) (by kernel_rfl) (by kernel_rfl) trivial rfl rfl (Run.load rfl Try.isAgg108 (h.1.cell 0)) (Does.buildS1 rfl Try.underlying108 Try.sizeOf100 zero100 (by decide) (by decide) rfl rfl) (Does.buildS1 rfl Try.underlying108 Try.sizeOf100 zero100 (by decide) (by decide) rfl rfl) (fun v w2 hR => ⟨trivial, Run.load rfl Try.isAgg108 (((h.1.drawn (Drawn.drew _)).frm hR.2.frm (by simp)).cell 0)⟩) rfl rfl rfl rfl rfl ?_
  rintro _ w1 ⟨rfl, hF1⟩
  have hd := Drawn.drew w
  have hb1 := (h.1.drawn hd).frm hF1.frm (by simp)
  have ho1 := (h.2.1.drawn hd).frm hF1.frm (by simp)
  have hrd : Rd w1 2 (some ⟨w.drew.heap.size, 0, none⟩) 1 p.cells := Rd.of_blk (n := 1) (size := 2) hF1.blk rfl
  refine HOps.m 7 rfl (by kernel_rfl) (Does.app rfl rfl Try.underlying108 (info100) rfl (by decide) ho1 hrd p.one (by omega) (by omega)) trivial rfl rfl ?_
  rintro _ w2 ⟨A2, c2, rfl, ho2, hf2, hob2⟩
  refine ⟨trivial, ?_⟩
  have hb2 := hb1.frm hf2 h.neA
  refine HOps.take 8 rfl (by kernel_rfl) (by kernel_rfl) (by kernel_rfl) trivial (fun w0 hw0 => Run.nilck rfl) trivial rfl rfl ?_
  refine HOps.st 9 rfl (by kernel_rfl) (Acts.store rfl rfl Try.sizeOf108 hb2 rfl rfl) trivial rfl ?_
  rintro w3 ⟨hb3, hf3, hs3⟩
  refine ⟨trivial, ?_⟩
  refine HOps.done (by kernel_rfl) ?_
  refine end0n ?_
  have hsz : w.heap.size ≤ w.drew.heap.size := Nat.le_refl _
  have h1s := hF1.frm.size
  have F1 : Frm [] w w1 := hd.frm.own hF1.frm (by simp)
  have hf : Frm (g :: ob A) w w3 := ((F1.mono (T := g :: ob A) (by simp)).trans hf2 (fun x hx => .inl (by simp [hx]))).trans hf3 (fun x hx => .inl (by simp at hx; simp [hx]))
  have hl2 : (ps ++ [p]).length = ps.length + 1 := List.length_append
  have hg2 : g ∉ ob A2 := ho2.ne_blk hb2 (by decide)
  refine ⟨rfl, A2, c2, ⟨?_, ?_, ?_⟩, hf, ?_⟩
  · rw [hl2]; exact hb3
  · rw [hl2, List.flatMap_append]
    have := ho2.frm hf3 (fun x hx hx2 => by simp at hx2; subst hx2; exact hg2 hx)
    simpa using this
  · intro q hq
    rcases List.mem_append.1 hq with hq | hq
    · refine (h.2.2 q hq).frm hf (fun x hx hx2 => ?_)
      rcases List.mem_cons.1 hx2 with h5 | h5
      · subst h5; exact h.neP q hq hx
      · exact h.2.ne q hq x hx h5
    · simp at hq
      subst hq
      refine hp.frm hf (fun x hx hx2 => ?_)
      rcases List.mem_cons.1 hx2 with h5 | h5
      · subst h5; exact hp.ne_blk h.1 (by decide) hx
      · exact hp.ne_own h.2.1 (by decide) x hx h5
  · intro x hx
    rcases hob2 with h5 | h5 <;> rw [h5] at hx
    · exact .inl hx
    · simp at hx; subst hx; exact .inr (Nat.le_trans hsz h1s)

theorem kk_app (ps : List PkC) (p : PkC) (i : Nat) (h : i < ps.length) : kk (ps ++ [p]) i = kk ps i := by simp [kk, List.getD, List.getElem?_append_left h]
theorem cutA_zero (A : Option Addr) (c sz : Nat) : cutA A c 0 sz = A := by
  unfold cutA
  split
  · rfl
  · cases A with
    | none => rfl
    | some a => simp [add_zero']
theorem Own.shrink {w : World} {e size n cap m : Nat} {A : Option Addr} {xs : List Value} (h : Own w e size A n cap xs) (hm : m ≤ n) : Own w e size A m cap (xs.take (m * size)) := by
  have hmn : m * size ≤ n * size := Nat.mul_le_mul_right _ hm
  rcases h.cases with ⟨rfl, rfl, rfl, rfl⟩ | ⟨g, cur, rfl, hb, h1, h2, h3, h4⟩
  · have : m = 0 := by omega
    subst this
    simpa using Own.nil w e size
  · refine ⟨?_, .inr ⟨g, cap, cur, rfl, Nat.zero_le _, hb, by omega, h2, h3, ?_⟩⟩
    · rw [List.length_take, h.1]; omega
    · rw [← h4, List.take_take, Nat.min_eq_left hmn]
theorem quo_half (j : Nat) (hj : j ≤ 9223372036854775807) : Bin .quo .i64 ((j : Int) - 1) .i64 2 (.int .i64 (((j - 1) / 2 : Nat) : Int)) := by
  rcases Nat.eq_zero_or_pos j with h | h
  · subst h
    intro P T w
    rfl
  · have e : (j : Int) - 1 = ((j - 1 : Nat) : Int) := by omega
    rw [e]
    exact Bin.quo_i64 (j - 1) 2 (by omega) (by omega)
def One (ps : List PkC) : Prop := ∀ p ∈ ps, ∃ s, p.sy = [s] ∧ s < 1024
theorem One.perm {ps qs : List PkC} (h : One ps) (hp : qs.Perm ps) : One qs := fun p hq => h p (hp.mem_iff.1 hq)
theorem IsC.drawn {w w' : World} {g c : Nat} {A : Option Addr} {ps : List PkC} (h : IsC w g A c ps) (k : Drawn w w') : IsC w' g A c ps := ⟨h.1.drawn k, h.2.frm k.frm (by simp) (fun _ _ _ _ => by simp)⟩

set_option maxRecDepth 100000 in
theorem cPop_spec (g c : Nat) (A : Option Addr) (qs : List PkC) (p : PkC) (w : World) (h : IsC w g A c (qs ++ [p])) (hl : qs.length ≤ 1000000) :
    Calls Try.prog 87 #[.pointer (some ⟨g, 0, none⟩)] w fun e w' => e = .returned (.iface 100 (.agg p.cells.toArray)) ∧ IsC w' g A c qs ∧ PkOk w' p ∧ Frm [g] w w' := by
  have hle : (qs ++ [p]).length = qs.length + 1 := List.length_append
  obtain ⟨ad, rfl, hel⟩ := h.2.1.rd.elem (k := qs.length) (by omega)
  rw [flat_get PkC.cells 2 PkC.cells_len (qs ++ [p]) qs.length (by omega)] at hel
  have hget : (qs ++ [p])[qs.length]'(by omega) = p := by simp
  rw [hget] at hel
  have h1 := h.1
  rw [hle] at h1
  have hcap := h.2.1.le
  rw [hle] at hcap
  refine VC.calls (nt := 23) (res := #[.tmp 2]) Try.func87 rfl Try.ntmps87 Try.results87 rfl ?_
  refine VC.seq ?_
  refine VC.region ?_
  refine Ops.r (Run.asg rfl) rfl ?_
  refine Ops.nil ?_
  refine thenQ_n ?_
  refine VC.sub [(0, _)] (.cons rfl .nil) ?_
  refine VC.seq ?_
  refine VC.region ?_
  refine Ops.r (Run.mv rfl) rfl ?_
  refine Ops.r (Run.nilck rfl) rfl ?_
  refine Ops.r (Run.load rfl Try.isAgg108 (h1.cell 0)) rfl ?_
  refine Ops.r (Run.asg rfl) rfl ?_
  refine Ops.nil ?_
  refine thenQ_n ?_
  refine VC.sub [(0, _), (3, _)] (.cons rfl (.cons rfl .nil)) ?_
  refine VC.seq ?_
  refine VC.region ?_
  refine Ops.r (Run.mv rfl) rfl ?_
  refine Ops.r (Run.mv rfl) rfl ?_
  refine Ops.r (Run.lenS rfl Try.underlying108) rfl ?_
  refine Ops.r (Run.bin rfl rfl (Bin.sub_i64 _ 1 (by omega) (by omega))) rfl ?_
  refine Ops.r (Run.indexS _ rfl rfl Try.underlying108 Try.sizeOf100 (by omega)) rfl ?_
  refine Ops.r (Run.loadA rfl Try.isAgg100 Try.sizeOf100 hel (by first | rfl | (simp; done))) rfl ?_
  refine Ops.m (Does.alloc zero100) rfl ?_
  rintro _ w1 ⟨rfl, hF1⟩
  have hb1 := hF1.blk
  refine Ops.st (Acts.storeA rfl rfl Try.sizeOf100 hb1 rfl p.one) ?_
  rintro w2 ⟨hb2, hf2, hs2⟩
  have hg1 := (h1.frm hF1.frm (by simp)).frm hf2 (by have := h1.lt; simp; omega)
  refine Ops.nil ?_
  refine thenQ_n ?_
  refine VC.sub [(0, _), (3, _), (4, _)] (.cons rfl (.cons rfl (.cons rfl .nil))) ?_
  refine VC.seq ?_
  refine VC.region ?_
  refine Ops.r (Run.mv rfl) rfl ?_
  refine Ops.r (Run.mv rfl) rfl ?_
  refine Ops.r (Run.mv rfl) rfl ?_
  refine Ops.r (Run.lenS rfl Try.underlying108) rfl ?_
  refine Ops.r (Run.bin rfl rfl (Bin.sub_i64 _ 1 (by omega) (by omega))) rfl ?_
  refine Ops.r (Run.sliceS 0 _ rfl Try.underlying108 Try.sizeOf100 evB.none_ (evB.some_ rfl) (by omega) (by omega)) rfl ?_
  rw [cutA_zero, Nat.sub_zero, Nat.sub_zero]
  refine Ops.r (Run.nilck rfl) rfl ?_
  refine Ops.st (Acts.store rfl rfl Try.sizeOf108 hg1 rfl rfl) ?_
  rintro w3 ⟨hb3, hf3, hs3⟩
  have hb23 := hb2.frm hf3 (by have := h1.lt; simp; omega)
  refine Ops.nil ?_
  refine thenQ_n ?_
  refine VC.sub [(4, _)] (.cons rfl .nil) ?_
  refine VC.seq ?_
  refine VC.region ?_
  refine Ops.r (Run.loadA rfl Try.isAgg100 Try.sizeOf100 hb23.cells (by first | rfl | (simp; done))) rfl ?_
  refine Ops.r (Run.mkIface rfl Try.underlying100 rfl) rfl ?_
  refine Ops.r (Run.asg rfl) rfl ?_
  refine Ops.nil ?_
  refine thenQ_n ?_
  refine VC.sub [(2, _)] (.cons rfl .nil) ?_
  refine VC.ret ?_
  refine end1 rfl ?_
  have hlt := h1.lt
  have hf : Frm [g] w w3 := ((hF1.frm.mono (T := [g]) (by simp)).trans hf2 (fun x hx => .inr (by simp at hx; omega))).trans hf3 (fun x hx => .inl hx)
  have hno : ∀ q ∈ qs ++ [p], ∀ x ∈ ob q.A, x ∉ [g] := fun q hq x hx hx2 => by simp at hx2; subst hx2; exact h.neP q hq hx
  refine ⟨rfl, ⟨by simpa using hb3, ?_, fun q hq => (h.2.2 q (by simp [hq])).frm hf (hno q (by simp [hq]))⟩, (h.2.2 p (by simp)).frm hf (hno p (by simp)), hf⟩
  have ho := (h.2.1.frm hf (fun x hx hx2 => by simp at hx2; subst hx2; exact h.neA hx)).shrink (m := qs.length) (by omega)
  have e : ((qs ++ [p]).flatMap PkC.cells).take (qs.length * 2) = qs.flatMap PkC.cells := by
    rw [List.flatMap_append, List.take_append_of_le_length (by rw [flat_len PkC.cells 2 PkC.cells_len]; exact Nat.le_refl _), List.take_of_length_le (by rw [flat_len PkC.cells 2 PkC.cells_len]; exact Nat.le_refl _)]
  rw [e] at ho
  exact ho

set_option maxRecDepth 100000 in
theorem hup_spec (g c j : Nat) (A : Option Addr) (ps : List PkC) (w : World) (h : IsC w g A c ps) (hl : ps.length ≤ 1000000) (hj : j < ps.length) (hu : UpInv (kk ps) j ps.length) (h1 : One ps) :
    Calls Try.prog 68 #[.iface 107 (.pointer (some ⟨g, 0, none⟩)), .int .i64 ((j : Nat) : Int)] w fun e w' => e = .returned (.tuple #[]) ∧ ∃ qs, qs.Perm ps ∧ HeapOk (kk qs) ps.length ∧ IsC w' g A c qs ∧ Frm (ob A) w w' := by
  refine VC.calls (nt := 23) (res := #[]) Try.func68 rfl Try.ntmps68 Try.results68 rfl ?_
  refine VC.block ?_
  refine VC.loop (σ := Nat × List PkC) (fun s => [(0, .iface 107 (.pointer (some ⟨g, 0, none⟩))), (1, .int .i64 ((s.1 : Nat) : Int))]) (fun s wr => s.1 < ps.length ∧ s.2.Perm ps ∧ UpInv (kk s.2) s.1 ps.length ∧ IsC wr g A c s.2 ∧ Frm (ob A) w wr) (fun s => s.1) (j, ps) (.cons rfl (.cons rfl .nil)) ⟨hj, List.Perm.refl _, hu, h, Frm.refl _ _⟩ ?_
  clear hu h hj
  rintro ⟨j, qs⟩ wr ⟨hj, hp, hu, h, hfr⟩
  dsimp only at hj hp hu h hfr ⊢
  have h1q := h1.perm hp
  have hlq := hp.length_eq
  refine VC.block ?_
  refine VC.seq ?_
  refine VC.region ?_
  refine Ops.r (Run.mv rfl) rfl ?_
  refine Ops.r (Run.bin rfl rfl (Bin.subZ _ 1 (by omega) (by omega))) rfl ?_
  refine Ops.r (Run.bin rfl rfl (quo_half j (by omega))) rfl ?_
  refine Ops.r (Run.asg rfl) rfl ?_
  refine Ops.nil ?_
  refine thenQ_n ?_
  refine VC.sub [(0, _), (1, _), (4, _)] (.cons rfl (.cons rfl (.cons rfl .nil))) ?_
  refine VC.seq ?_
  refine VC.seq ?_
  refine VC.splitR [(0, .iface 107 (.pointer (some ⟨g, 0, none⟩))), (1, .int .i64 ((j : Nat) : Int)), (4, .int .i64 (((j - 1) / 2 : Nat) : Int))] (fun w1 => Drawn wr w1) 17 (.bool (decide ((j - 1) / 2 = j ∨ ¬ kk qs j < kk qs ((j - 1) / 2)))) ?_ ?_
  · refine VC.region ?_
    refine Ops.r (Run.mv rfl) rfl ?_
    refine Ops.r (Run.mv rfl) rfl ?_
    refine Ops.r (Run.bin rfl rfl (Bin.eql _ _)) rfl ?_
    by_cases hs10 : (j - 1) / 2 = j
    · skip
      refine Ops.r (Run.mv rfl) rfl ?_
      refine Ops.sk rfl (by first | rfl | assumption | decide | (simp; done) | (simp; omega) | (simp [*]; done)) rfl ?_
      refine Ops.sk rfl (by first | rfl | assumption | decide | (simp; done) | (simp; omega) | (simp [*]; done)) rfl ?_
      refine Ops.sk rfl (by first | rfl | assumption | decide | (simp; done) | (simp; omega) | (simp [*]; done)) rfl ?_
      refine Ops.sk rfl (by first | rfl | assumption | decide | (simp; done) | (simp; omega) | (simp [*]; done)) rfl ?_
      refine Ops.sk rfl (by first | rfl | assumption | decide | (simp; done) | (simp; omega) | (simp [*]; done)) rfl ?_
      refine Ops.r (Run.pickT rfl rfl (by first | rfl | assumption | decide | (simp; done) | (simp; omega) | (simp [*]; done))) rfl ?_
      refine Ops.nil ?_
      refine thenQ_n ⟨(.cons (congrArg (fun b => some (Value.bool b)) (by simp [*])) (.cons rfl (.cons rfl (.cons rfl .nil)))), (by first | assumption | exact Drawn.refl _)⟩
    · skip
      refine Ops.r (Run.mv rfl) rfl ?_
      refine Ops.rg rfl (by first | rfl | assumption | decide | (simp; done) | (simp; omega) | (simp [*]; done)) (Run.mv rfl) rfl ?_
      refine Ops.rg rfl (by first | rfl | assumption | decide | (simp; done) | (simp; omega) | (simp [*]; done)) (Run.mv rfl) rfl ?_
      refine Ops.rg rfl (by first | rfl | assumption | decide | (simp; done) | (simp; omega) | (simp [*]; done)) (Run.mv rfl) rfl ?_
      refine Ops.clg rfl (by first | rfl | assumption | decide | (simp; done) | (simp; omega) | (simp [*]; done)) (Enters.inv rfl (evs.cons rfl (evs.cons rfl evs.nil)) (m_Less (h.1.cell 0))) (cLess_spec A c j ((j - 1) / 2) qs _ h.2 (by omega) (by omega) h1q) rfl ?_
      rintro e w4 ⟨rfl, hd4⟩
      refine ⟨_, rfl, ?_⟩
      by_cases hs15 : kk qs j < kk qs ((j - 1) / 2)
      · skip
        refine Ops.rg rfl (by first | rfl | assumption | decide | (simp; done) | (simp; omega) | (simp [*]; done)) (Run.not rfl) rfl ?_
        refine Ops.r (Run.pickF rfl rfl (by first | rfl | assumption | decide | (simp; done) | (simp; omega) | (simp [*]; done))) rfl ?_
        refine Ops.nil ?_
        refine thenQ_n ⟨(.cons (congrArg (fun b => some (Value.bool b)) (by simp [*])) (.cons rfl (.cons rfl (.cons rfl .nil)))), (by first | assumption | exact Drawn.refl _)⟩
      · skip
        refine Ops.rg rfl (by first | rfl | assumption | decide | (simp; done) | (simp; omega) | (simp [*]; done)) (Run.not rfl) rfl ?_
        refine Ops.r (Run.pickF rfl rfl (by first | rfl | assumption | decide | (simp; done) | (simp; omega) | (simp [*]; done))) rfl ?_
        refine Ops.nil ?_
        refine thenQ_n ⟨(.cons (congrArg (fun b => some (Value.bool b)) (by simp [*])) (.cons rfl (.cons rfl (.cons rfl .nil)))), (by first | assumption | exact Drawn.refl _)⟩
  · intro Γ w5 hΓ hd5
    refine thenQ_n (VC.sub _ hΓ ?_)
    refine VC.condD rfl (fun hc1 => ?_) (fun hc1 => ?_)
    · skip
      have hheap := rise_end hu (by rcases hc1 with h5 | h5; exact .inl (by omega); exact .inr h5)
      refine VC.exit ?_
      refine thenQ_x (blockQ_o rfl (thenQ_x (blockQ_x ?_)))
      refine end0n ?_
      exact ⟨rfl, qs, hp, hheap, h.drawn hd5, hfr.drawn hd5⟩
    · skip
      have hj0 : 0 < j := by
        rcases Nat.eq_zero_or_pos j with h5 | h5
        · exact absurd (.inl (by omega)) hc1
        · exact h5
      have hlt : kk qs j < kk qs ((j - 1) / 2) := by
        rcases Nat.lt_or_ge (kk qs j) (kk qs ((j - 1) / 2)) with h5 | h5
        · exact h5
        · exact absurd (.inr (by omega)) hc1
      have h5 := h.drawn hd5
      refine VC.skip ?_
      refine thenQ_n ?_
      refine VC.sub [(0, _), (1, _), (4, _)] (.cons rfl (.cons rfl (.cons rfl .nil))) ?_
      refine VC.seq ?_
      refine VC.region ?_
      refine Ops.r (Run.mv rfl) rfl ?_
      refine Ops.r (Run.mv rfl) rfl ?_
      refine Ops.r (Run.mv rfl) rfl ?_
      refine Ops.cl (Enters.inv rfl (evs.cons rfl (evs.cons rfl evs.nil)) (m_Swap (h5.1.cell 0))) (cSwap_spec A c ((j - 1) / 2) j qs _ h5.2 (by omega) (by omega)) rfl ?_
      rintro e w6 ⟨rfl, hP6, hf6⟩
      refine ⟨_, rfl, ?_⟩
      have hb6 := h5.1.frm hf6 h5.neA
      refine Ops.nil ?_
      refine thenQ_n ?_
      refine VC.sub [(0, _), (4, _)] (.cons rfl (.cons rfl .nil)) ?_
      refine VC.region ?_
      refine Ops.r (Run.mv rfl) rfl ?_
      refine Ops.r (Run.asg rfl) rfl ?_
      refine Ops.nil ?_
      refine blockQ_n (thenQ_n ⟨((j - 1) / 2, swapL qs ((j - 1) / 2) j), (.cons rfl (.cons rfl .nil)), ?_, ?_⟩)
      · skip
        refine ⟨by dsimp only; omega, (swapL_perm qs _ _ (by omega) (by omega)).trans hp, ?_, ⟨by rw [swapL_len]; exact hb6, hP6⟩, (hfr.drawn hd5).trans hf6 (fun x hx => .inl hx)⟩
        dsimp only
        rw [swapL_kk qs _ _ (by omega) (by omega)]
        exact rise_step hu hj0 hj hlt
      · skip
        first | omega | (dsimp only; omega)

theorem swapL_drop (ps : List PkC) (i j n : Nat) (hi : i < n) (hj : j < n) : (swapL ps i j).drop n = ps.drop n := by
  unfold swapL
  rw [List.drop_set_of_lt hj, List.drop_set_of_lt hi]

set_option maxRecDepth 100000 in
theorem hdown_spec (g c n : Nat) (A : Option Addr) (ps : List PkC) (w : World) (h : IsC w g A c ps) (hl : ps.length ≤ 1000000) (hn : n ≤ ps.length) (hu : DownInv (kk ps) 0 n) (h1 : One ps) :
    Calls Try.prog 69 #[.iface 107 (.pointer (some ⟨g, 0, none⟩)), .int .i64 ((0 : Nat) : Int), .int .i64 ((n : Nat) : Int)] w fun e w' => (∃ b, e = .returned (.bool b)) ∧ ∃ qs, qs.Perm ps ∧ HeapOk (kk qs) n ∧ qs.drop n = ps.drop n ∧ IsC w' g A c qs ∧ Frm (ob A) w w' := by
  refine VC.calls (nt := 48) (res := #[.tmp 6]) Try.func69 rfl Try.ntmps69 Try.results69 rfl ?_
  refine VC.seq ?_
  refine VC.region ?_
  refine Ops.r (Run.asg rfl) rfl ?_
  refine Ops.nil ?_
  refine thenQ_n ?_
  refine VC.sub [(0, _), (1, _), (2, _)] (.cons rfl (.cons rfl (.cons rfl .nil))) ?_
  refine VC.seq ?_
  refine VC.region ?_
  refine Ops.r (Run.mv rfl) rfl ?_
  refine Ops.r (Run.asg rfl) rfl ?_
  refine Ops.nil ?_
  refine thenQ_n ?_
  refine VC.sub [(0, _), (1, _), (2, _), (7, _)] (.cons rfl (.cons rfl (.cons rfl (.cons rfl .nil)))) ?_
  refine VC.seq ?_
  refine VC.block ?_
  refine VC.loop (σ := Nat × List PkC) (fun s => [(0, .iface 107 (.pointer (some ⟨g, 0, none⟩))), (1, .int .i64 ((0 : Nat) : Int)), (2, .int .i64 ((n : Nat) : Int)), (7, .int .i64 ((s.1 : Nat) : Int))]) (fun s wr => s.1 ≤ n ∧ s.2.Perm ps ∧ DownInv (kk s.2) s.1 n ∧ s.2.drop n = ps.drop n ∧ IsC wr g A c s.2 ∧ Frm (ob A) w wr) (fun s => n - s.1) (0, ps) (.cons rfl (.cons rfl (.cons rfl (.cons rfl .nil)))) ⟨by dsimp only; omega, List.Perm.refl _, hu, rfl, h, Frm.refl _ _⟩ ?_
  clear hu h
  rintro ⟨i, qs⟩ wr ⟨hi, hp, hu, hdr, h, hfr⟩
  dsimp only at hi hp hu hdr h hfr ⊢
  have h1q := h1.perm hp
  have hlq := hp.length_eq
  refine VC.block ?_
  refine VC.seq ?_
  refine VC.region ?_
  refine Ops.r (Run.mv rfl) rfl ?_
  refine Ops.r (Run.bin rfl rfl (Bin.mul_i64 2 _ (by omega))) rfl ?_
  refine Ops.r (Run.bin rfl rfl (Bin.add_i64 _ 1 (by omega))) rfl ?_
  refine Ops.r (Run.asg rfl) rfl ?_
  refine Ops.nil ?_
  refine thenQ_n ?_
  refine VC.sub [(0, _), (1, _), (2, _), (7, _), (8, _)] (.cons rfl (.cons rfl (.cons rfl (.cons rfl (.cons rfl .nil))))) ?_
  refine VC.seq ?_
  refine VC.seq ?_
  refine VC.split1 [(0, _), (1, _), (2, _), (7, _), (8, _)] (.cons rfl (.cons rfl (.cons rfl (.cons rfl (.cons rfl .nil))))) 21 (.bool (decide (n ≤ 2 * i + 1 ∨ 2 * i + 1 < 0))) ?_ ?_
  · by_cases hs0 : n ≤ 2 * i + 1
    · skip
      refine VC.region ?_
      refine Ops.r (Run.mv rfl) rfl ?_
      refine Ops.r (Run.mv rfl) rfl ?_
      refine Ops.r (Run.bin rfl rfl (Bin.geqN _ _)) rfl ?_
      refine Ops.r (Run.mv rfl) rfl ?_
      refine Ops.sk rfl (by first | rfl | assumption | decide | (simp; done) | (simp; omega) | (simp [*]; done)) rfl ?_
      refine Ops.sk rfl (by first | rfl | assumption | decide | (simp; done) | (simp; omega) | (simp [*]; done)) rfl ?_
      refine Ops.r (Run.pickT rfl rfl (by first | rfl | assumption | decide | (simp; done) | (simp; omega) | (simp [*]; done))) rfl ?_
      refine Ops.nil ?_
      refine thenQ_n ⟨(.cons (by rw [dor1 hs0]; rfl) (.cons rfl (.cons rfl (.cons rfl (.cons rfl (.cons rfl .nil)))))), rfl⟩
    · skip
      refine VC.region ?_
      refine Ops.r (Run.mv rfl) rfl ?_
      refine Ops.r (Run.mv rfl) rfl ?_
      refine Ops.r (Run.bin rfl rfl (Bin.geqN _ _)) rfl ?_
      refine Ops.r (Run.mv rfl) rfl ?_
      refine Ops.rg rfl (by first | rfl | assumption | decide | (simp; done) | (simp; omega) | (simp [*]; done)) (Run.mv rfl) rfl ?_
      refine Ops.rg rfl (by first | rfl | assumption | decide | (simp; done) | (simp; omega) | (simp [*]; done)) (Run.bin rfl rfl (Bin.lssN _ 0)) rfl ?_
      refine Ops.r (Run.pickF rfl rfl (by first | rfl | assumption | decide | (simp; done) | (simp; omega) | (simp [*]; done))) rfl ?_
      refine Ops.nil ?_
      refine thenQ_n ⟨(.cons (by rw [dor0 hs0]; rfl) (.cons rfl (.cons rfl (.cons rfl (.cons rfl (.cons rfl .nil)))))), rfl⟩
  · intro Γ hΓ
    refine thenQ_n (VC.sub _ hΓ ?_)
    refine VC.condD rfl (fun hc1 => ?_) (fun hc1 => ?_)
    · skip
      have hheap : HeapOk (kk qs) n := sink_end hu (fun c h0 hc hpc => by omega)
      refine VC.exit ?_
      refine thenQ_x (blockQ_o rfl (thenQ_x (blockQ_x ?_)))
      refine thenQ_n ?_
      refine VC.sub [(1, _), (7, _)] (.cons rfl (.cons rfl .nil)) ?_
      refine VC.seq ?_
      refine VC.region ?_
      refine Ops.r (Run.mv rfl) rfl ?_
      refine Ops.r (Run.mv rfl) rfl ?_
      refine Ops.r (Run.bin rfl rfl (Bin.gtrN _ _)) rfl ?_
      refine Ops.r (Run.asg rfl) rfl ?_
      refine Ops.nil ?_
      refine thenQ_n ?_
      refine VC.sub [(6, _)] (.cons rfl .nil) ?_
      refine VC.ret ?_
      refine end1 rfl ?_
      exact ⟨⟨_, rfl⟩, qs, hp, hheap, hdr, h, hfr⟩
    · skip
      refine VC.skip ?_
      refine thenQ_n ?_
      refine VC.sub [(0, _), (1, _), (2, _), (7, _), (8, _)] (.cons rfl (.cons rfl (.cons rfl (.cons rfl (.cons rfl .nil))))) ?_
      refine VC.seq ?_
      refine VC.region ?_
      refine Ops.r (Run.mv rfl) rfl ?_
      refine Ops.r (Run.asg rfl) rfl ?_
      refine Ops.nil ?_
      refine thenQ_n ?_
      refine VC.sub [(0, _), (1, _), (2, _), (7, _), (8, _), (9, _)] (.cons rfl (.cons rfl (.cons rfl (.cons rfl (.cons rfl (.cons rfl .nil)))))) ?_
      refine VC.seq ?_
      refine VC.seq ?_
      refine VC.region ?_
      refine Ops.r (Run.mv rfl) rfl ?_
      refine Ops.r (Run.bin rfl rfl (Bin.add_i64 _ 1 (by omega))) rfl ?_
      refine Ops.r (Run.asg rfl) rfl ?_
      refine Ops.nil ?_
      refine thenQ_n ?_
      refine VC.sub [(0, _), (1, _), (2, _), (7, _), (8, _), (9, _), (10, _)] (.cons rfl (.cons rfl (.cons rfl (.cons rfl (.cons rfl (.cons rfl (.cons rfl .nil))))))) ?_
      refine VC.seq ?_
      refine VC.splitR [(0, .iface 107 (.pointer (some ⟨g, 0, none⟩))), (1, .int .i64 ((0 : Nat) : Int)), (2, .int .i64 ((n : Nat) : Int)), (7, .int .i64 ((i : Nat) : Int)), (9, .int .i64 ((2 * i + 1 : Nat) : Int)), (10, .int .i64 ((2 * i + 1 + 1 : Nat) : Int))] (fun w1 => Drawn wr w1) 33 (.bool (decide (2 * i + 1 + 1 < n ∧ kk qs (2 * i + 1 + 1) < kk qs (2 * i + 1)))) ?_ ?_
      · refine VC.region ?_
        refine Ops.r (Run.mv rfl) rfl ?_
        refine Ops.r (Run.mv rfl) rfl ?_
        refine Ops.r (Run.bin rfl rfl (Bin.lssN _ _)) rfl ?_
        by_cases hs27 : 2 * i + 1 + 1 < n
        · skip
          refine Ops.r (Run.mv rfl) rfl ?_
          refine Ops.rg rfl (by first | rfl | assumption | decide | (simp; done) | (simp; omega) | (simp [*]; done)) (Run.mv rfl) rfl ?_
          refine Ops.rg rfl (by first | rfl | assumption | decide | (simp; done) | (simp; omega) | (simp [*]; done)) (Run.mv rfl) rfl ?_
          refine Ops.rg rfl (by first | rfl | assumption | decide | (simp; done) | (simp; omega) | (simp [*]; done)) (Run.mv rfl) rfl ?_
          refine Ops.clg rfl (by first | rfl | assumption | decide | (simp; done) | (simp; omega) | (simp [*]; done)) (Enters.inv rfl (evs.cons rfl (evs.cons rfl evs.nil)) (m_Less (h.1.cell 0))) (cLess_spec A c (2 * i + 1 + 1) (2 * i + 1) qs _ h.2 (by omega) (by omega) h1q) rfl ?_
          rintro e w4 ⟨rfl, hd4⟩
          refine ⟨_, rfl, ?_⟩
          by_cases hs32 : kk qs (2 * i + 1 + 1) < kk qs (2 * i + 1)
          · skip
            refine Ops.r (Run.pickT rfl rfl (by first | rfl | assumption | decide | (simp; done) | (simp; omega) | (simp [*]; done))) rfl ?_
            refine Ops.nil ?_
            refine thenQ_n ⟨(.cons (congrArg (fun b => some (Value.bool b)) (by simp [*])) (.cons rfl (.cons rfl (.cons rfl (.cons rfl (.cons rfl (.cons rfl .nil))))))), (by first | assumption | exact Drawn.refl _)⟩
          · skip
            refine Ops.r (Run.pickT rfl rfl (by first | rfl | assumption | decide | (simp; done) | (simp; omega) | (simp [*]; done))) rfl ?_
            refine Ops.nil ?_
            refine thenQ_n ⟨(.cons (congrArg (fun b => some (Value.bool b)) (by simp [*])) (.cons rfl (.cons rfl (.cons rfl (.cons rfl (.cons rfl (.cons rfl .nil))))))), (by first | assumption | exact Drawn.refl _)⟩
        · skip
          refine Ops.r (Run.mv rfl) rfl ?_
          refine Ops.sk rfl (by first | rfl | assumption | decide | (simp; done) | (simp; omega) | (simp [*]; done)) rfl ?_
          refine Ops.sk rfl (by first | rfl | assumption | decide | (simp; done) | (simp; omega) | (simp [*]; done)) rfl ?_
          refine Ops.sk rfl (by first | rfl | assumption | decide | (simp; done) | (simp; omega) | (simp [*]; done)) rfl ?_
          refine Ops.sk rfl (by first | rfl | assumption | decide | (simp; done) | (simp; omega) | (simp [*]; done)) rfl ?_
          refine Ops.r (Run.pickF rfl rfl (by first | rfl | assumption | decide | (simp; done) | (simp; omega) | (simp [*]; done))) rfl ?_
          refine Ops.nil ?_
          refine thenQ_n ⟨(.cons (congrArg (fun b => some (Value.bool b)) (by simp [*])) (.cons rfl (.cons rfl (.cons rfl (.cons rfl (.cons rfl (.cons rfl .nil))))))), (by first | assumption | exact Drawn.refl _)⟩
      · intro Γ w5 hΓ hd5
        refine thenQ_n (VC.sub _ hΓ ?_)
        refine VC.meet (σ := Nat) (fun s => [(0, .iface 107 (.pointer (some ⟨g, 0, none⟩))), (1, .int .i64 ((0 : Nat) : Int)), (2, .int .i64 ((n : Nat) : Int)), (7, .int .i64 ((i : Nat) : Int)), (9, .int .i64 ((s : Nat) : Int))]) (fun s w9 => (s - 1) / 2 = i ∧ 0 < s ∧ s < n ∧ (∀ c, 0 < c → c < n → (c - 1) / 2 = i → kk qs s ≤ kk qs c) ∧ w5 = w9) ?_ ?_
        · skip
          refine VC.condD rfl (fun hc2 => ?_) (fun hc2 => ?_)
          · skip
            refine VC.region ?_
            refine Ops.r (Run.mv rfl) rfl ?_
            refine Ops.r (Run.asg rfl) rfl ?_
            refine Ops.nil ?_
            refine thenQ_n ⟨(2 * i + 1 + 1), (.cons rfl (.cons rfl (.cons rfl (.cons rfl (.cons rfl .nil))))), ?_⟩
            refine ⟨by omega, by omega, hc2.1, fun c h0 hc hpc => ?_, rfl⟩
            have : c = 2 * i + 1 ∨ c = 2 * i + 1 + 1 := by omega
            rcases this with h6 | h6 <;> subst h6
            · exact Nat.le_of_lt hc2.2
            · exact Nat.le_refl _
          · skip
            refine VC.skip ?_
            refine thenQ_n ⟨(2 * i + 1), (.cons rfl (.cons rfl (.cons rfl (.cons rfl (.cons rfl .nil))))), ?_⟩
            refine ⟨by omega, by omega, by omega, fun c h0 hc hpc => ?_, rfl⟩
            have : c = 2 * i + 1 ∨ c = 2 * i + 1 + 1 := by omega
            rcases this with h6 | h6 <;> subst h6
            · exact Nat.le_refl _
            · rcases Nat.lt_or_ge (kk qs (2 * i + 1 + 1)) (kk qs (2 * i + 1)) with h7 | h7
              · exact absurd ⟨hc, h7⟩ hc2
              · exact h7
        · skip
          rintro j _ ⟨hj2, hj0, hjn, hmin, rfl⟩ Γ hΓ
          have h5 := h.drawn hd5
          refine thenQ_n (VC.sub _ hΓ ?_)
          refine VC.seq ?_
          refine VC.seq ?_
          refine VC.region ?_
          refine Ops.r (Run.mv rfl) rfl ?_
          refine Ops.r (Run.mv rfl) rfl ?_
          refine Ops.r (Run.mv rfl) rfl ?_
          refine Ops.cl (Enters.inv rfl (evs.cons rfl (evs.cons rfl evs.nil)) (m_Less (h5.1.cell 0))) (cLess_spec A c j i qs _ h5.2 (by omega) (by omega) h1q) rfl ?_
          rintro e w6 ⟨rfl, hd6⟩
          refine ⟨_, rfl, ?_⟩
          have h6 := h5.drawn hd6
          refine Ops.r (Run.not rfl) rfl ?_
          refine Ops.nil ?_
          refine thenQ_n ?_
          refine VC.sub [(0, _), (1, _), (2, _), (7, _), (9, _), (39, _)] (.cons rfl (.cons rfl (.cons rfl (.cons rfl (.cons rfl (.cons rfl .nil)))))) ?_
          refine VC.condB rfl (fun hc3 => ?_) (fun hc3 => ?_)
          · skip
            have hnl : ¬ kk qs j < kk qs i := by simpa using hc3
            have hheap : HeapOk (kk qs) n := sink_end hu (fun c h0 hc hpc => Nat.le_trans (by omega) (hmin c h0 hc hpc))
            refine VC.exit ?_
            refine thenQ_x (blockQ_o rfl (thenQ_x (blockQ_x ?_)))
            refine thenQ_n ?_
            refine VC.sub [(1, _), (7, _)] (.cons rfl (.cons rfl .nil)) ?_
            refine VC.seq ?_
            refine VC.region ?_
            refine Ops.r (Run.mv rfl) rfl ?_
            refine Ops.r (Run.mv rfl) rfl ?_
            refine Ops.r (Run.bin rfl rfl (Bin.gtrN _ _)) rfl ?_
            refine Ops.r (Run.asg rfl) rfl ?_
            refine Ops.nil ?_
            refine thenQ_n ?_
            refine VC.sub [(6, _)] (.cons rfl .nil) ?_
            refine VC.ret ?_
            refine end1 rfl ?_
            exact ⟨⟨_, rfl⟩, qs, hp, hheap, hdr, h6, (hfr.drawn hd5).drawn hd6⟩
          · skip
            have hlt : kk qs j < kk qs i := by simpa using hc3
            refine VC.skip ?_
            refine thenQ_n ?_
            refine VC.sub [(0, _), (1, _), (2, _), (7, _), (9, _)] (.cons rfl (.cons rfl (.cons rfl (.cons rfl (.cons rfl .nil))))) ?_
            refine VC.seq ?_
            refine VC.region ?_
            refine Ops.r (Run.mv rfl) rfl ?_
            refine Ops.r (Run.mv rfl) rfl ?_
            refine Ops.r (Run.mv rfl) rfl ?_
            refine Ops.cl (Enters.inv rfl (evs.cons rfl (evs.cons rfl evs.nil)) (m_Swap (h6.1.cell 0))) (cSwap_spec A c i j qs _ h6.2 (by omega) (by omega)) rfl ?_
            rintro e w7 ⟨rfl, hP7, hf7⟩
            refine ⟨_, rfl, ?_⟩
            have hb7 := h6.1.frm hf7 h6.neA
            refine Ops.nil ?_
            refine thenQ_n ?_
            refine VC.sub [(0, _), (1, _), (2, _), (9, _)] (.cons rfl (.cons rfl (.cons rfl (.cons rfl .nil)))) ?_
            refine VC.region ?_
            refine Ops.r (Run.mv rfl) rfl ?_
            refine Ops.r (Run.asg rfl) rfl ?_
            refine Ops.nil ?_
            refine blockQ_n (thenQ_n ⟨(j, swapL qs i j), (.cons rfl (.cons rfl (.cons rfl (.cons rfl .nil)))), ?_, ?_⟩)
            · skip
              refine ⟨by dsimp only; omega, (swapL_perm qs _ _ (by omega) (by omega)).trans hp, ?_, ?_, ⟨by rw [swapL_len]; exact hb7, hP7⟩, ((hfr.drawn hd5).drawn hd6).trans hf7 (fun x hx => .inl hx)⟩
              · dsimp only
                rw [swapL_kk qs _ _ (by omega) (by omega)]
                exact sink_step hu hj2 hj0 hjn hlt hmin
              · dsimp only
                rw [swapL_drop qs i j n (by omega) hjn]
                exact hdr
            · skip
              first | omega | (dsimp only; omega)

set_option maxRecDepth 100000 in
theorem hPush_spec (g c : Nat) (A : Option Addr) (ps : List PkC) (p : PkC) (w : World) (h : IsC w g A c ps) (hl : ps.length ≤ 100000) (hp : PkOk w p) (hu : HeapOk (kk ps) ps.length) (h1 : One ps) (hp1 : ∃ s, p.sy = [s] ∧ s < 1024) :
    Calls Try.prog 63 #[.iface 107 (.pointer (some ⟨g, 0, none⟩)), .iface 100 (.agg p.cells.toArray)] w fun e w' => e = .returned (.tuple #[]) ∧ ∃ A' c' qs, qs.Perm (p :: ps) ∧ HeapOk (kk qs) qs.length ∧ IsC w' g A' c' qs ∧ Frm (g :: ob A) w w' ∧ ∀ x ∈ ob A', x ∈ ob A ∨ w.heap.size ≤ x := by
  refine VC.calls (nt := 12) (res := #[]) Try.func63 rfl Try.ntmps63 Try.results63 rfl ?_
  refine VC.seq ?_
  refine VC.region ?_
  refine Ops.r (Run.mv rfl) rfl ?_
  refine Ops.r (Run.mv rfl) rfl ?_
  refine Ops.cl (Enters.inv rfl (evs.cons rfl evs.nil) (m_Push _ _)) (cPush_spec g c A ps p _ h hp (by omega)) rfl ?_
  rintro e w1 ⟨rfl, A1, c1, hC1, hf1, hA1⟩
  refine ⟨_, rfl, ?_⟩
  have hl1 : (ps ++ [p]).length = ps.length + 1 := List.length_append
  refine Ops.nil ?_
  refine thenQ_n ?_
  refine VC.sub [(0, _)] (.cons rfl .nil) ?_
  refine VC.region ?_
  refine Ops.r (Run.mv rfl) rfl ?_
  refine Ops.r (Run.mv rfl) rfl ?_
  refine Ops.cl (Enters.inv rfl evs.nil (m_Len _ _)) (cLen_spec g c1 A1 _ _ hC1) rfl ?_
  rintro e _ ⟨rfl, rfl⟩
  refine ⟨_, rfl, ?_⟩
  have hone : One (ps ++ [p]) := fun q hq => by
    rcases List.mem_append.1 hq with h5 | h5
    · exact h1 q h5
    · simp at h5; subst h5; exact hp1
  have hup : UpInv (kk (ps ++ [p])) ps.length (ps ++ [p]).length := by
    rw [hl1]
    refine rise_of_heap (fun i h0 hi => ?_)
    have := hu i h0 hi
    rw [kk_app ps p _ (by omega), kk_app ps p _ hi]
    exact this
  refine Ops.r (Run.bin rfl rfl (Bin.sub_i64 _ 1 (by omega) (by omega))) rfl ?_
  refine Ops.cl (Enters.fn (evs.cons rfl (evs.cons rfl evs.nil)) Try.call68) ((by have h5 := hup_spec g c1 ps.length A1 (ps ++ [p]) w1 hC1 (by omega) (by omega) hup hone; rw [show ((ps.length : Nat) : Int) = (((ps ++ [p]).length - 1 : Nat) : Int) by omega] at h5; exact h5)) rfl ?_
  rintro e w2 ⟨rfl, qs, hq, hh, hC2, hf2⟩
  refine ⟨_, rfl, ?_⟩
  refine Ops.nil ?_
  refine end0n ?_
  refine ⟨rfl, A1, c1, qs, hq.trans (List.perm_append_singleton p ps), by rw [hq.length_eq]; exact hh, hC2, hf1.trans hf2 (fun x hx => ?_), hA1⟩
  rcases hA1 x hx with h5 | h5
  · exact .inl (by simp [h5])
  · exact .inr h5

set_option maxRecDepth 100000 in
theorem hPop_spec (g c : Nat) (A : Option Addr) (ps : List PkC) (w : World) (h : IsC w g A c ps) (hl : ps.length ≤ 100000) (h0 : 0 < ps.length) (hu : HeapOk (kk ps) ps.length) (h1 : One ps) :
    Calls Try.prog 65 #[.iface 107 (.pointer (some ⟨g, 0, none⟩))] w fun e w' => ∃ p qs, e = .returned (.iface 100 (.agg p.cells.toArray)) ∧ (qs ++ [p]).Perm ps ∧ (∀ q ∈ ps, p.key ≤ q.key) ∧ HeapOk (kk qs) qs.length ∧ IsC w' g A c qs ∧ PkOk w' p ∧ Frm (g :: ob A) w w' := by
  obtain ⟨n, hn⟩ : ∃ n, ps.length = n + 1 := ⟨ps.length - 1, by omega⟩
  refine VC.calls (nt := 15) (res := #[.tmp 2]) Try.func65 rfl Try.ntmps65 Try.results65 rfl ?_
  refine VC.seq ?_
  refine VC.region ?_
  refine Ops.r (Run.asg rfl) rfl ?_
  refine Ops.nil ?_
  refine thenQ_n ?_
  refine VC.sub [(0, _)] (.cons rfl .nil) ?_
  refine VC.seq ?_
  refine VC.region ?_
  refine Ops.r (Run.mv rfl) rfl ?_
  refine Ops.cl (Enters.inv rfl evs.nil (m_Len _ _)) (cLen_spec g c A _ _ h) rfl ?_
  rintro e _ ⟨rfl, rfl⟩
  refine ⟨_, rfl, ?_⟩
  rw [hn]
  refine Ops.r (Run.bin rfl rfl (Bin.sub_i64 _ 1 (by omega) (by omega))) rfl ?_
  refine Ops.r (Run.asg rfl) rfl ?_
  refine Ops.nil ?_
  refine thenQ_n ?_
  refine VC.sub [(0, _), (3, _)] (.cons rfl (.cons rfl .nil)) ?_
  refine VC.seq ?_
  refine VC.region ?_
  refine Ops.r (Run.mv rfl) rfl ?_
  refine Ops.r (Run.mv rfl) rfl ?_
  refine Ops.cl (Enters.inv rfl (evs.cons rfl (evs.cons rfl evs.nil)) (m_Swap (h.1.cell 0))) (cSwap_spec A c 0 (n + 1 - 1) ps _ h.2 (by omega) (by omega)) rfl ?_
  rintro e w2 ⟨rfl, hP2, hf2⟩
  refine ⟨_, rfl, ?_⟩
  have hC2 : IsC w2 g A c (swapL ps 0 n) := ⟨by rw [swapL_len]; exact h.1.frm hf2 h.neA, hP2⟩
  have hpm := swapL_perm ps 0 n (by omega) (by omega)
  have hdi : DownInv (kk (swapL ps 0 n)) 0 n := by
    rw [swapL_kk ps 0 n (by omega) (by omega)]
    exact sink_of_heap (by rw [hn] at hu; exact hu)
  have hsl := swapL_len ps 0 n
  refine Ops.nil ?_
  refine thenQ_n ?_
  refine VC.sub [(0, _), (3, _)] (.cons rfl (.cons rfl .nil)) ?_
  refine VC.seq ?_
  refine VC.region ?_
  refine Ops.r (Run.mv rfl) rfl ?_
  refine Ops.r (Run.mv rfl) rfl ?_
  refine Ops.cl (Enters.fn (evs.cons rfl (evs.cons rfl (evs.cons rfl evs.nil))) Try.call69) (hdown_spec g c (n + 1 - 1) A (swapL ps 0 n) _ hC2 (by omega) (by omega) hdi (h1.perm hpm)) rfl ?_
  rintro e w3 ⟨⟨b, rfl⟩, rs, hr, hh, hdr, hC3, hf3⟩
  refine ⟨_, rfl, ?_⟩
  have hrl := hr.length_eq
  have hps0 : (swapL ps 0 n).drop n = [ps.getD 0 PkC.zero] := by
    apply List.ext_getElem?
    intro i
    rw [List.getElem?_drop]
    unfold swapL
    rcases Nat.eq_zero_or_pos i with h5 | h5
    · subst h5
      rw [Nat.add_zero, List.getElem?_set_self (by simp; omega)]
      rfl
    · rw [List.getElem?_eq_none (by simp; omega), List.getElem?_eq_none (by simp; omega)]
  have hrs : rs = rs.take n ++ [ps.getD 0 PkC.zero] := by
    have h5 : rs.drop n = [ps.getD 0 PkC.zero] := by rw [← hps0]; exact hdr
    rw [← h5, List.take_append_drop]
  have hqk : ∀ i, i < n → kk (rs.take n) i = kk rs i := fun i hi => by simp [kk, List.getD, List.getElem?_take_of_lt hi]
  have hql : (rs.take n).length = n := by simp; omega
  have hheap : HeapOk (kk (rs.take n)) (rs.take n).length := by
    rw [hql]
    intro i h5 h6
    rw [hqk i h6, hqk _ (by omega)]
    exact hh i h5 h6
  have hmin : ∀ q ∈ ps, (ps.getD 0 PkC.zero).key ≤ q.key := by
    intro q hq
    obtain ⟨i, hi, rfl⟩ := List.getElem_of_mem hq
    have h5 := heap_top hu i hi
    rw [kk_at ps i hi] at h5
    exact h5
  have hperm : (rs.take n ++ [ps.getD 0 PkC.zero]).Perm ps := by rw [← hrs]; exact hr.trans hpm
  rw [hrs] at hC3
  generalize ps.getD 0 PkC.zero = p at *
  generalize rs.take n = qs at *
  refine Ops.nil ?_
  refine thenQ_n ?_
  refine VC.sub [(0, _)] (.cons rfl .nil) ?_
  refine VC.seq ?_
  refine VC.region ?_
  refine Ops.r (Run.mv rfl) rfl ?_
  refine Ops.cl (Enters.inv rfl evs.nil (m_Pop _ _)) (cPop_spec g c A qs p _ hC3 (by omega)) rfl ?_
  rintro e w4 ⟨rfl, hC4, hp4, hf4⟩
  refine ⟨_, rfl, ?_⟩
  refine Ops.r (Run.asg rfl) rfl ?_
  refine Ops.nil ?_
  refine thenQ_n ?_
  refine VC.sub [(2, _)] (.cons rfl .nil) ?_
  refine VC.ret ?_
  refine end1 rfl ?_
  exact ⟨p, qs, rfl, hperm, hmin, hheap, hC4, hp4, ((hf2.trans hf3 (fun x hx => .inl hx)).mono (T := g :: ob A) (fun x hx => .inl (by simp [hx]))).trans hf4 (fun x hx => .inl (by simp at hx; simp [hx]))⟩

end Go.Proofs.Ytebaojedpnnliaa
