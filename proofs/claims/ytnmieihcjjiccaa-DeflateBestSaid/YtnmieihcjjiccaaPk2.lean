/-
  Lemmas on the way, joined: MatV, RefM, InfP, DefQ, DefR, RefN, CanL, DefW, InfW, InfT, InfS, InfM, InfD, InfK, InfB, InfI, InfQ, InfR, InfX, InfZ, InfE, InfLT, DefV, Eng19, RefO, DefU.
-/
import Derived.Test.YtnmieihcjjiccaaPk1
namespace Go.Proofs.Ytnmieihcjjiccaa
open Go.RowKit
def revF (L : List Nat) : Nat → List (Nat × Nat)
 | 0 => []
 | m + 1 => (m, L.getD m 0) :: revF L m
theorem NI_get (a : List Nat) (i : Nat) (h : i < a.length) : (NI a)[i]? = some (.int .i64 ((a.getD i 0 : Nat) : Int)) := by
 simp [NI, h]
set_option maxRecDepth 100000 in
theorem back_iter (g1 c : Nat) (A : Option Addr) (L : List Nat) (hl : L.length ≤ 1000000) :
  Iter Try.prog 97 #[.pointer (some ⟨g1, 0, none⟩)] (fun x : Nat × Nat => #[.int .i64 ((x.1 : Nat) : Int), .int .i64 ((x.2 : Nat) : Int)]) [] (g1 :: ob A) (fun w => Blk w g1 38 #[.slice A L.length c] ∧ Rd w 1 A L.length (NI L)) (revF L L.length) := by
 rintro l J Jx w hJ hJx ⟨hb1, hrd⟩ hY h0
 refine VC.calls (nt := 19) (res := #[]) Try.func97 rfl Try.ntmps97 Try.results97 rfl ?_
 refine jS (jR ?_)
 refine Ops.r (Run.load rfl Try.isAgg38 (hb1.cell 0)) rfl ?_
 refine Ops.r (Run.lenS rfl Try.underlying38) rfl ?_
 refine Ops.r (Run.bin rfl rfl (Bin.subZ _ 1 (by omega) (by omega))) rfl ?_
 refine jA ?_
 refine jO (jN (jv3 0 1 3 ?_))
 refine jB ?_
 refine VC.loop (σ := Nat × List (Nat × Nat)) (fun s => [(0, .func (.yield l) #[] #[]), (1, .pointer (some ⟨g1, 0, none⟩)), (3, .int .i64 (((s.1 : Nat) : Int) - 1))]) (fun s wr => s.1 ≤ L.length ∧ revF L L.length = s.2 ++ revF L s.1 ∧ Blk wr g1 38 #[.slice A L.length c] ∧ Rd wr 1 A L.length (NI L) ∧ J s.2 wr) (fun s => s.1) (L.length, []) (js3 rfl rfl rfl) ⟨Nat.le_refl _, rfl, hb1, hrd, h0⟩ ?_
 rintro ⟨m, pre⟩ wr ⟨hm, hsp, hb1, hrd, hj⟩
 dsimp only at hm hsp hj ⊢
 refine jS (jS (jR (jM ?_)))
 refine Ops.r (Run.bin rfl rfl (Bin.geq _ 0)) rfl ?_
 refine jO (jN (jv4 0 1 3 8 ?_))
 refine VC.condD rfl (fun hc1 => ?_) (fun hc1 => ?_)
 ·
  obtain ⟨i, rfl⟩ : ∃ i, m = i + 1 := ⟨m - 1, by omega⟩
  have ei : (((i + 1 : Nat) : Int) - 1) = ((i : Nat) : Int) := by omega
  rw [ei]
  obtain ⟨ad, rfl, hadlt, hadc⟩ := hrd.2 (by omega)
  have hcell := hadc i _ (NI_get L i (by omega))
  have hpre : (pre ++ [(i, L.getD i 0)]) <+: revF L L.length := ⟨revF L i, by rw [hsp, revF]; simp⟩
  refine jQ (jN (jv3 0 1 3 ?_))
  refine jS (jB (jS (jR (jM ?_))))
  refine jM ?_
  refine Ops.r (Run.load rfl Try.isAgg38 (hb1.cell 0)) rfl ?_
  refine jM ?_
  refine Ops.r (Run.index1 _ rfl rfl Try.underlying38 Try.sizeOf3 (by omega)) rfl ?_
  refine Ops.r (Run.load rfl Try.isAgg3 hcell) rfl ?_
  refine Ops.yield rfl rfl (evs.cons rfl (evs.cons rfl evs.nil)) ((by simpa using hY pre (i, L.getD i 0) wr hj hpre : YieldsTo Try.prog l #[_, _] wr _)) rfl rfl ?_
  rintro e w1 ⟨hoff, hR0⟩
  obtain ⟨yb, rfl, hR⟩ : ∃ yb : Bool, e = .returned (.bool yb) ∧ ((yb = true ∧ J (pre ++ [(i, L.getD i 0)]) w1) ∨ (yb = false ∧ Jx (pre ++ [(i, L.getD i 0)]) w1)) := by
   rcases hR0 with ⟨rfl, h⟩ | ⟨rfl, h⟩
   ·
    exact ⟨true, rfl, .inl ⟨rfl, h⟩⟩
   ·
    exact ⟨false, rfl, .inr ⟨rfl, h⟩⟩
  refine ⟨_, rfl, ?_⟩
  have hb1 := hoff.blk hb1 (by simp)
  have hrd := hoff.rd hrd (fun _ x hx => by simp [hx])
  refine Ops.r (Run.not rfl) rfl ?_
  refine jO (jN (jv4 0 1 3 18 ?_))
  refine VC.condB rfl (fun hc2 => ?_) (fun hc2 => ?_)
  ·
   refine jT ?_
   refine blockQ_r (thenQ_r (thenQ_r (blockQ_r (end0 ?_))))
   exact ⟨⟨_, rfl⟩, .inr ⟨_, (hR.resolve_left (fun h => by rw [h.1] at hc2; simp at hc2)).2⟩⟩
  ·
   refine jQ ?_
   refine blockQ_n (jN ?_)
   refine jv3 0 1 3 ?_
   refine jR (jM ?_)
   refine Ops.r (Run.bin rfl rfl (Bin.subZ _ 1 (by omega) (by omega))) rfl ?_
   refine jA ?_
   refine jO ?_
   refine jN ⟨(i, pre ++ [(i, L.getD i 0)]), (js3 rfl rfl rfl), ?_, ?_⟩
   ·
    exact ⟨by dsimp only; omega, by rw [hsp, revF]; simp, hb1, hrd, (hR.resolve_right (fun h => by rw [h.1] at hc2; simp at hc2)).2⟩
   ·
    first | omega | (dsimp only; omega)
 ·
  refine jX ?_
  refine thenQ_x (thenQ_x (blockQ_x ?_))
  refine end0n ?_
  have hm0 : m = 0 := by omega
  subst hm0
  refine ⟨⟨_, rfl⟩, .inl ?_⟩
  rw [hsp, revF, List.append_nil]
  exact hj
set_option maxRecDepth 100000 in
theorem backw_spec (A : Option Addr) (n c : Nat) (w : World) :
  Calls Try.prog 80 #[.slice A n c] w fun e w' => ∃ g1, e = .returned (.func (.func 97) #[] #[.pointer (some ⟨g1, 0, none⟩)]) ∧ Blk w' g1 38 #[.slice A n c] ∧ Frm [] w w' ∧ w.heap.size ≤ g1 := by
 refine VC.calls (nt := 4) (res := #[.tmp 2]) Try.func80 rfl Try.ntmps80 Try.results80 rfl ?_
 refine jS (jR ?_)
 refine Ops.m (Does.box rfl) rfl ?_
 rintro _ w1 ⟨rfl, hF⟩
 refine jA ?_
 refine jO (jN (jv1 1 ?_))
 refine jS (jR ?_)
 refine Ops.r (Run.mkFunc evs.nil (evs.cons rfl evs.nil)) rfl ?_
 refine jA ?_
 refine jO (jN (jv1 2 ?_))
 refine jT ?_
 refine end1 rfl ?_
 exact ⟨_, rfl, hF.blk, hF.frm, Nat.le_refl _⟩
theorem revF_pre {L : List Nat} {pre : List (Nat × Nat)} {x : Nat × Nat} : ∀ {m : Nat}, (pre ++ [x]) <+: revF L m → pre.length + x.1 + 1 = m ∧ x.2 = L.getD x.1 0 := by
 induction pre with
 | nil =>
  intro m h
  cases m with
  | zero => have := h.length_le; simp [revF] at this
  | succ m =>
   rw [revF, List.nil_append, List.cons_prefix_cons] at h
   obtain ⟨rfl, _⟩ := h
   exact ⟨by simp, rfl⟩
 | cons y pre ih =>
  intro m h
  cases m with
  | zero => have := h.length_le; simp [revF] at this
  | succ m =>
   rw [revF, List.cons_append, List.cons_prefix_cons] at h
   obtain ⟨h1, h2⟩ := ih h.2
   exact ⟨by rw [List.length_cons]; omega, h2⟩
theorem revF_len (L : List Nat) : ∀ m, (revF L m).length = m
 | 0 => rfl
 | m + 1 => by rw [revF, List.length_cons, revF_len L m]
def BeI (w0 w : World) (gf gm cb a : Nat) (Ab : Option Addr) (bs : List Nat) (F G : Nat × Nat × Nat → Option Addr × Nat) (g2 g3 g6 g7 : Nat) (r : Nat × Nat) (W : World) : Prop :=
 IsF w0 W gf gm Ab cb bs a G ∧ Kpf gf F w W ∧ Blk W g2 90 #[.pointer (some ⟨gf, 0, none⟩)] ∧ Blk W g3 3 #[.int .i64 ((a : Nat) : Int)] ∧ Blk W g6 3 #[.int .i64 ((r.1 : Nat) : Int)] ∧ Blk W g7 3 #[.int .i64 ((r.2 : Nat) : Int)]
theorem BeI.nc {w0 w w1 W W' : World} {gf gm cb a : Nat} {Ab : Option Addr} {bs : List Nat} {F G : Nat × Nat × Nat → Option Addr × Nat} {g2 g3 g6 g7 : Nat} {r : Nat × Nat} {S : List Nat} (h : BeI w0 w gf gm cb a Ab bs F G g2 g3 g6 g7 r W) (f : Frm S W W') (hS : NC w1 W [] S) (hm : gm < w1.heap.size) (hB : w.heap.size ≤ w1.heap.size) (hB0 : w0.heap.size ≤ w1.heap.size) : BeI w0 w gf gm cb a Ab bs F G g2 g3 g6 g7 r W' := by
 obtain ⟨h1, h2, h3, h4, h5, h6⟩ := h
 have hb (x : Nat) (hx : x ∈ S) : w1.heap.size ≤ x := by
  rcases hS x hx with h | ⟨h, _⟩
  ·
   cases h
  ·
   exact h
 refine ⟨⟨h1.blk.frm f (h1.blk.nc hS (by simp)), h1.rd0, f.onto h1.below (fun x hx => by have := hb x hx; omega) h1.below.size, h1.hgf, h1.pl.frm f (fun hx => by have := hb _ hx; omega) (fun x => (h1.pl.own x).nc hS (by simp))⟩,
  h2.step f (fun x hx => .inr (.inl (by have := hb x hx; omega))), h3.frm f (h3.nc hS (by simp)), h4.frm f (h4.nc hS (by simp)), h5.frm f (h5.nc hS (by simp)), h6.frm f (h6.nc hS (by simp))⟩
set_option maxRecDepth 100000 in
theorem best_spec (w0 w : World) (gf gm cb u a : Nat) (Ab : Option Addr) (bs : List Nat) (F : Nat × Nat × Nat → Option Addr × Nat) (hu : u ≤ a) (hl : bs.length ≤ 32768) (hcb : bs.length ≤ cb) (ha : a < bs.length) (hB : ∀ b ∈ bs, b < 256) (hF : IsF w0 w gf gm Ab cb bs u F) :
  Calls Try.prog 49 #[.pointer (some ⟨gf, 0, none⟩), .int .i64 ((a : Nat) : Int)] w fun e w' => e = .returned (.tuple #[.int .i64 (((bestM bs a).1 : Nat) : Int), .int .i64 (((bestM bs a).2 : Nat) : Int)]) ∧ Kpf gf F w w' ∧ ∃ G, RowsOf F G w.heap.size ∧ IsF w0 w' gf gm Ab cb bs a G := by
 obtain ⟨ad, hA, _, _⟩ := hF.rd.2 (by omega)
 subst hA
 have hgfl := hF.blk.lt
 have hgml := hF.pl.map.lt
 have hw0 := hF.below.size
 have hcut (h : a + 3 ≤ bs.length) : cutA (some ad) cb a 1 = some (ad.add (a * 1)) := by unfold cutA; rw [if_neg (by omega)]; rfl
 refine DV.calls (nt := 61) (res := #[.tmp 4, .tmp 5]) Try.func49 rfl Try.ntmps49 Try.results49 rfl ?_
 refine DV.seq ?_
 refine DV.vc ?_
 refine jR ?_
 refine Ops.m (Does.box rfl) rfl ?_
 rintro _ w1 ⟨rfl, hF1⟩
 refine Ops.m (Does.box rfl) rfl ?_
 rintro _ w2 ⟨rfl, hF2⟩
 have hb2 : Blk w2 w.heap.size 90 #[.pointer (some ⟨gf, 0, none⟩)] := hF1.blk.frm hF2.frm (by simp)
 have hb3 : Blk w2 w1.heap.size 3 #[.int .i64 ((a : Nat) : Int)] := hF2.blk
 have hI2 := (hF.frm hF1.frm (by simp)).frm hF2.frm (by simp)
 have K2 : Kpf gf F w w2 := ((Kpf.refl gf F w).step hF1.frm (by simp)).step hF2.frm (by simp)
 have hsz2 : w2.heap.size = w.heap.size + 2 := by rw [hF2.size, hF1.size]
 have hg3' := hF1.size
 generalize hg2 : w.heap.size = g2 at hb2 ⊢
 generalize hg3 : w1.heap.size = g3 at hb3 ⊢
 have hFlt : ∀ y, ∀ z ∈ ob (F y).1, z < w.heap.size := fun y z hz => (hF.pl.own y).lt z hz
 refine Ops.r (v := .int .i64 ((0 : Nat) : Int)) (Run.asg rfl) rfl ?_
 refine Ops.r (v := .int .i64 ((0 : Nat) : Int)) (Run.asg rfl) rfl ?_
 refine jO ?_
 refine thenD_n ?_
 refine DV.sub [(2, _), (3, _), (4, _), (5, _)] (js4 rfl rfl rfl rfl) ?_
 refine DV.seq ?_
 refine DV.vc ?_
 refine jR ?_
 refine Ops.r (Run.load rfl Try.isAgg90 (hb2.cell 0)) rfl ?_
 refine Ops.r (Run.load rfl Try.isAgg3 (hb3.cell 0)) rfl ?_
 refine Ops.cl (Enters.fn (evs.cons rfl (evs.cons rfl evs.nil)) Try.call79) (keep_spec w0 w2 gf gm cb u a (some ad) bs F hu (by omega) hcb (by omega) hB hI2) rfl ?_
 rintro e w3 ⟨rfl, K3, G, hro, hI3⟩
 refine ⟨_, rfl, ?_⟩
 have hb2 := K3.blk hI2 hb2 (by decide) (by decide)
 have hb3 := K3.2 g3 _ _ (by omega) (fun y hy => by have := hFlt y _ hy; omega) hb3
 have K3 : Kpf gf F w w3 := ⟨Nat.le_trans K2.1 K3.1, fun b t cs h1 h2 h3 => K3.2 b t cs h1 h2 (K2.2 b t cs h1 h2 h3)⟩
 have hro3 : RowsOf F G w.heap.size := fun y z hz => by
  rcases hro y z hz with h | h
  ·
   exact .inl h
  ·
   exact .inr (by omega)
 have hG3 : ∀ y, ∀ z ∈ ob (G y).1, z ≠ g3 ∧ z < w3.heap.size := fun y z hz => by
  refine ⟨?_, (hI3.pl.own y).lt z hz⟩
  rcases hro y z hz with h | h
  ·
   have := hFlt y z h; omega
  ·
   omega
 have hl3 := hb3.lt
 have hk3 := K3.1
 refine jO ?_
 refine thenD_n ?_
 refine DV.sub [(2, _), (3, _), (4, _), (5, _)] (js4 rfl rfl rfl rfl) ?_
 refine DV.seq ?_
 refine DV.seq ?_
 refine DV.vc ?_
 refine VC.still jK jK ?_
 refine SOps.r (Run.load rfl Try.isAgg3 (hb3.cell 0)) rfl ?_
 refine SOps.r (Run.bin rfl rfl (Bin.add_i64 _ 3 (by omega))) rfl ?_
 refine SOps.r (Run.load rfl Try.isAgg90 (hb2.cell 0)) rfl ?_
 refine SOps.r (Run.nilck rfl) rfl ?_
 refine SOps.r (Run.fieldAddr rfl Try.underlying93 rfl Try.sizeOf22 (by decide)) rfl ?_
 refine SOps.r (Run.load rfl Try.isAgg22 (hI3.blk.cell 0)) rfl ?_
 refine SOps.r (Run.lenS rfl Try.underlying22) rfl ?_
 refine SOps.r (Run.bin rfl rfl (Bin.gtrN _ _)) rfl ?_
 refine SOps.nil ?_
 refine thenD_n ?_
 refine DV.sub [(2, _), (3, _), (4, _), (5, _), (21, _)] (js5 rfl rfl rfl rfl rfl) ?_
 refine DV.vc ?_
 refine VC.condD rfl (fun hc1 => ?_) (fun hc1 => ?_)
 ·
  refine jS (jR ?_)
  refine Ops.r (v := .int .i64 ((0 : Nat) : Int)) (Run.asg rfl) rfl ?_
  refine Ops.r (v := .int .i64 ((0 : Nat) : Int)) (Run.asg rfl) rfl ?_
  refine jO (jN (jv2 4 5 ?_))
  refine jT ?_
  refine thenD_r (endD_r (by simp) (by simp) (fun wz hsh => ?_))
  have hIz := (hI3.drawn (Drawn.drew _)).frm hsh (by simp)
  have Kz := (K3.step (Drawn.drew w3).frm (by simp)).step hsh (by simp)
  refine end2 rfl rfl ?_
  rw [bestM_short bs a (by omega) (by omega)]
  exact ⟨rfl, Kz, G, hg2 ▸ hro3, hIz⟩
 ·
  refine jQ ?_
  refine thenD_n ?_
  refine DV.sub [(2, _), (3, _), (4, _), (5, _)] (js4 rfl rfl rfl rfl) ?_
  refine DV.seq ?_
  refine DV.vc ?_
  refine jR ?_
  refine Ops.m (Does.alloc zero3) rfl ?_
  rintro _ w4 ⟨rfl, hF4⟩
  have hI4 := (hI3.drawn (Drawn.drew _)).frm hF4.frm (by simp)
  have K4 := (K3.step (Drawn.drew w3).frm (by simp)).step hF4.frm (by simp)
  have hb2 := (hb2.drawn (Drawn.drew _)).frm hF4.frm (by simp)
  have hb3 := (hb3.drawn (Drawn.drew _)).frm hF4.frm (by simp)
  have hs4 : w4.heap.size = w3.heap.size + 1 := hF4.size
  have hb6 : Blk w4 w3.drew.heap.size 3 #[.int .i64 ((0 : Nat) : Int)] := hF4.blk
  have hg6' : w3.drew.heap.size = w3.heap.size := rfl
  generalize hg6 : w3.drew.heap.size = g6 at hb6 hg6' ⊢
  refine Ops.m (Does.alloc zero3) rfl ?_
  rintro _ w5 ⟨rfl, hF5⟩
  have hI5 := hI4.frm hF5.frm (by simp)
  have K5 := K4.step hF5.frm (by simp)
  have hb2 := hb2.frm hF5.frm (by simp)
  have hb3 := hb3.frm hF5.frm (by simp)
  have hb6 := hb6.frm hF5.frm (by simp)
  have hs5 := hF5.size
  have hb7 : Blk w5 w4.heap.size 3 #[.int .i64 ((0 : Nat) : Int)] := hF5.blk
  generalize hg7 : w4.heap.size = g7 at hb7 ⊢
  have hoff (W : World) (S : List Nat) (hS : ∀ x ∈ S, x = g6 ∨ x = g7) : gf ∉ S ∧ gm ∉ S ∧ (∀ y, ∀ z ∈ ob (G y).1, z ∉ S) ∧ (∀ x ∈ S, w0.heap.size ≤ x) ∧ g3 ∉ S ∧ ∀ x ∈ S, w.heap.size ≤ x := by
   refine ⟨fun h => ?_, fun h => ?_, fun y z hz h => ?_, fun x h => ?_, fun h => ?_, fun x h => ?_⟩
   ·
    rcases hS _ h with h | h <;> omega
   ·
    rcases hS _ h with h | h <;> omega
   ·
    have := (hG3 y z hz).2
    rcases hS _ h with h | h <;> omega
   ·
    rcases hS _ h with h | h <;> omega
   ·
    rcases hS _ h with h | h <;> omega
   ·
    rcases hS _ h with h | h <;> omega
  refine Ops.st (Acts.store rfl rfl Try.sizeOf3 hb6 rfl rfl) ?_
  rintro w6 ⟨hb6n, hf6, hs6⟩
  have hb6 : Blk w6 g6 3 #[.int .i64 ((0 : Nat) : Int)] := hb6n
  obtain ⟨o1, o2, o3, o4, o5, o6⟩ := hoff w [g6] (by simp)
  have hI6 := hI5.frm2 hf6 o1 o2 o3 o4
  have K6 := K5.step hf6 (fun x hx => .inr (.inl (o6 x hx)))
  have hb2 := hb2.frm hf6 (by simp; omega)
  have hb3 := hb3.frm hf6 o5
  have hb7 := hb7.frm hf6 (by simp; omega)
  refine Ops.st (Acts.store rfl rfl Try.sizeOf3 hb7 rfl rfl) ?_
  rintro w7 ⟨hb7n, hf7, hs7⟩
  have hb7 : Blk w7 g7 3 #[.int .i64 ((0 : Nat) : Int)] := hb7n
  obtain ⟨o1, o2, o3, o4, o5, o6⟩ := hoff w [g7] (by simp)
  have hI7 := hI6.frm2 hf7 o1 o2 o3 o4
  have K7 := K6.step hf7 (fun x hx => .inr (.inl (o6 x hx)))
  have hb2 := hb2.frm hf7 (by simp; omega)
  have hb3 := hb3.frm hf7 o5
  have hb6 := hb6.frm hf7 (by simp; omega)
  obtain ⟨kl, hkey⟩ := key3 (tri bs a) (getD_lt hB a) (getD_lt hB (a + 1)) (getD_lt hB (a + 2))
  refine jO ?_
  refine thenD_n ?_
  refine DV.seq ?_
  refine DV.seq ?_
  refine DV.vc ?_
  refine VC.tail 15 jK jK ?_
  simp only [List.take_succ_cons, List.take_zero, List.drop_succ_cons, List.drop_zero]
  refine SOps.r (Run.load rfl Try.isAgg90 (hb2.cell 0)) rfl ?_
  refine SOps.r (Run.nilck rfl) rfl ?_
  refine SOps.r (Run.fieldAddr rfl Try.underlying93 rfl Try.sizeOf91 (by decide)) rfl ?_
  refine SOps.r (Run.load rfl Try.isAgg91 (hI7.blk.cell 1)) rfl ?_
  refine SOps.r (Run.load rfl Try.isAgg90 (hb2.cell 0)) rfl ?_
  refine SOps.r (Run.nilck rfl) rfl ?_
  refine SOps.r (Run.fieldAddr rfl Try.underlying93 rfl Try.sizeOf22 (by decide)) rfl ?_
  refine SOps.r (Run.load rfl Try.isAgg22 (hI7.blk.cell 0)) rfl ?_
  refine SOps.r (Run.load rfl Try.isAgg3 (hb3.cell 0)) rfl ?_
  refine SOps.r (Run.load rfl Try.isAgg3 (hb3.cell 0)) rfl ?_
  refine SOps.r (Run.bin rfl rfl (Bin.add_i64 _ 3 (by omega))) rfl ?_
  refine SOps.r (Run.sliceS _ _ rfl Try.underlying22 Try.sizeOf5 (evB.some_ rfl) (evB.some_ rfl) (by omega) (by omega)) rfl ?_
  rw [hcut (by omega)]
  refine SOps.r (Run.toArr rfl Try.underlying139 (by omega)) rfl ?_
  refine SOps.r (Run.loadA (cs := NB [bs.getD a 0, bs.getD (a + 1) 0, bs.getD (a + 2) 0]) rfl Try.isAgg139 Try.sizeOf139 (three_cells hI7.rd (by omega)) rfl) rfl ?_
  refine SOps.r (Run.lookup (x := tri bs a) rfl rfl hI7.pl.map law3 Try.underlying91 zero38 hkey) rfl ?_
  rw [hI7.pl.getD]
  refine SOps.nil ?_
  refine Ops.cl (Enters.fn (evs.cons rfl evs.nil) Try.call80) (backw_spec _ _ _ _) rfl ?_
  rintro e w8 ⟨g1, rfl, hb1, hf8, hg1⟩
  refine ⟨_, rfl, ?_⟩
  have hg1 : w7.heap.size ≤ g1 := hg1
  have hI8 := (hI7.drawn (Drawn.drew _)).frm hf8 (by simp)
  have K8 := (K7.step (Drawn.drew w7).frm (by simp)).step hf8 (by simp)
  have hb2 := (hb2.drawn (Drawn.drew _)).frm hf8 (by simp)
  have hb3 := (hb3.drawn (Drawn.drew _)).frm hf8 (by simp)
  have hb6 := (hb6.drawn (Drawn.drew _)).frm hf8 (by simp)
  have hb7 := (hb7.drawn (Drawn.drew _)).frm hf8 (by simp)
  have hs8 : w7.heap.size ≤ w8.heap.size := hf8.size
  have hrow := hI8.pl.own (tri bs a)
  have hll := posL_len bs (tri bs a) a
  have hUend := Upto_end bs a
  generalize hn : (posL bs (tri bs a) a).length = n at *
  refine jO ?_
  refine thenD_n ?_
  refine DV.sub [(2, _), (3, _), (4, _), (5, _), (6, _), (7, _), (37, _)] (js7 rfl rfl rfl rfl rfl rfl rfl) ?_
  refine DV.block ?_
  refine DV.range (ps := [38, 39]) (fun x : Nat × Nat => [.int .i64 ((x.1 : Nat) : Int), .int .i64 ((x.2 : Nat) : Int)]) (hn ▸ back_iter g1 (G (tri bs a)).2 (G (tri bs a)).1 (posL bs (tri bs a) a) (by omega)) rfl Try.call97 (fun _ => rfl) rfl (fun pre W => BeI w0 w gf gm cb a (some ad) bs F G g2 g3 g6 g7 (Upto bs a (n - pre.length)) W) (fun e pre W => e = .exit 0 ∧ BeI w0 w gf gm cb a (some ad) bs F G g2 g3 g6 g7 (bestM bs a) W) (fun x => [(2, .pointer (some ⟨g2, 0, none⟩)), (3, .pointer (some ⟨g3, 0, none⟩)), (6, .pointer (some ⟨g6, 0, none⟩)), (7, .pointer (some ⟨g7, 0, none⟩)), (9, .int .i64 ((x.2 : Nat) : Int))]) ?_ ?_ ?_ ?_ ?_ ?_ ?_ ?_ ?_ ?_ ?_
  ·
   exact fun pre W W' S h f hS => h.nc f hS (by omega) (by omega) (by omega)
  ·
   exact fun e pre W W' S h f hS => ⟨h.1, h.2.nc f hS (by omega) (by omega) (by omega)⟩
  ·
   exact fun W hf => ⟨hb1.frm hf (by simp), (hrow.frm hf (by simp)).rd⟩
  ·
   simp
  ·
   intro b hb
   rcases List.mem_cons.1 hb with rfl | hb
   ·
    exact hb1.lt
   ·
    exact hrow.lt b hb
  ·
   rw [List.length_nil, Nat.sub_zero, hUend]
   exact ⟨hI8, K8, hb2, hb3, hb6, hb7⟩
  ·
   intro l x W
   refine jv6 2 3 6 7 38 39 ?_
   refine jR (jA ?_)
   refine jO ?_
   refine jN ⟨rfl, (js5 rfl rfl rfl rfl rfl)⟩
  ·
   rintro l pre x W ⟨hIW, hKW, hb2, hb3, hb6, hb7⟩ hpre hsz hmk
   obtain ⟨hlen, hval⟩ := revF_pre hpre
   have hxn : x.1 < (posL bs (tri bs a) a).length := by omega
   obtain ⟨p1, p2, p3⟩ := pos_at hxn
   have hU := Upto_step bs a x.1 (by omega) hxn
   dsimp only at hU
   rw [← hval] at hU p1 p2 p3
   have hfull := Upto_full bs a (by omega) (x.1 + 1) (by omega)
   have e1 : n - pre.length = x.1 + 1 := by omega
   have hb60 := hb6
   have hb70 := hb7
   clear hval
   rw [e1] at hb6 hb7
   generalize Upto bs a (x.1 + 1) = r at hU hfull hb6 hb7
   refine jB (jS (jS ?_))
   refine VC.split1 [(2, _), (3, _), (6, _), (7, _), (9, _)] (js5 rfl rfl rfl rfl rfl) 47 (.bool (decide (32768 < a - x.2 ∨ r.1 = 258))) ?_ ?_
   ·
    refine jR ?_
    refine Ops.r (Run.load rfl Try.isAgg3 (hb3.cell 0)) rfl ?_
    refine jM ?_
    refine Ops.r (Run.bin rfl rfl (Bin.sub_i64 _ _ (by omega) (by omega))) rfl ?_
    refine Ops.r (Run.bin rfl rfl (Bin.gtrN _ 32768)) rfl ?_
    by_cases hs43 : 32768 < a - x.2
    ·
     refine jM ?_
     refine jU ?_
     refine jU ?_
     refine Ops.r (Run.pickT rfl rfl au) rfl ?_
     refine jO ?_
     refine jN ⟨(js6 (jC (by simp [*])) rfl rfl rfl rfl rfl), rfl⟩
    ·
     refine jM ?_
     refine Ops.rg rfl au (Run.load rfl Try.isAgg3 (hb6.cell 0)) rfl ?_
     refine Ops.rg rfl au (Run.bin rfl rfl (Bin.eqlN _ 258)) rfl ?_
     by_cases hs46 : r.1 = 258
     ·
      refine Ops.r (Run.pickF rfl rfl au) rfl ?_
      refine jO ?_
      refine jN ⟨(js6 (jC (by simp [*])) rfl rfl rfl rfl rfl), rfl⟩
     ·
      refine Ops.r (Run.pickF rfl rfl au) rfl ?_
      refine jO ?_
      refine jN ⟨(js6 (jC (by simp [*])) rfl rfl rfl rfl rfl), rfl⟩
   ·
    intro Γ hΓ
    refine jN (VC.sub _ hΓ ?_)
    refine VC.condD rfl (fun hc2 => ?_) (fun hc2 => ?_)
    ·
     refine jX ?_
     refine thenQ_x (blockQ_o rfl (?_))
     refine ⟨Wrote.frm0 (Frm.refl _ _), rfl, ?_⟩
     rw [hfull (hc2.resolve_left (by omega))]
     exact ⟨hIW, hKW, hb2, hb3, hb6, hb7⟩
    ·
     refine jQ (jN (jv5 2 3 6 7 9 ?_))
     refine jS (jR ?_)
     refine Ops.r (Run.load rfl Try.isAgg90 (hb2.cell 0)) rfl ?_
     refine jM ?_
     refine Ops.r (Run.load rfl Try.isAgg3 (hb3.cell 0)) rfl ?_
     refine Ops.cl (Enters.fn (evs.cons rfl (evs.cons rfl (evs.cons rfl evs.nil))) Try.call81) (long_spec w0 W gf gm cb a x.2 a (some ad) bs G p1 (by omega) (by omega) hIW) rfl ?_
     rintro e W2 ⟨rfl, hd2⟩
     refine ⟨_, rfl, ?_⟩
     have hI2W := hIW.drawn hd2
     have hK2W := hKW.step hd2.frm (by simp)
     have hb2 := hb2.drawn hd2
     have hb3 := hb3.drawn hd2
     have hb6 := hb6.drawn hd2
     have hb7 := hb7.drawn hd2
     refine jA ?_
     refine jO (jN (jv5 3 6 7 9 10 ?_))
     refine jS (jR (jM ?_))
     refine Ops.r (Run.load rfl Try.isAgg3 (hb6.cell 0)) rfl ?_
     refine Ops.r (Run.bin rfl rfl (Bin.gtrN _ _)) rfl ?_
     refine jO (jN (jv6 3 6 7 9 10 54 ?_))
     refine VC.condD rfl (fun hc3 => ?_) (fun hc3 => ?_)
     ·
      refine VC.heldL 5 (fun v => Blk v g3 3 #[.int .i64 ((a : Nat) : Int)]) jK ?_
      have hS : (fun v => Blk v g3 3 #[.int .i64 ((a : Nat) : Int)]) W2.drew := hb3.drawn (Drawn.drew _)
      refine jH 0 rfl hS (fun w0 hw0 => Run.mv rfl) ?_
      refine jH 1 rfl hS (fun w0 hw0 => Run.load rfl Try.isAgg3 (hw0.cell 0)) ?_
      refine jH 2 rfl hS (fun w0 hw0 => Run.mv rfl) ?_
      refine jH 3 rfl hS (fun w0 hw0 => Run.bin rfl rfl (Bin.sub_i64 _ _ (by omega) (by omega))) ?_
      refine HOps.st 4 rfl jK (Acts.store rfl rfl Try.sizeOf3 (hb6.drawn (Drawn.drew _)) rfl rfl) trivial rfl ?_
      rintro W3 ⟨hb6n, hf3, hs3⟩
      have hb6n : Blk W3 g6 3 #[.int .i64 ((longM bs x.2 a : Nat) : Int)] := hb6n
      have hb7 := (hb7.drawn (Drawn.drew _)).frm hf3 (by simp; omega)
      have hS3 := hS.frm hf3 (by simp; omega)
      refine ⟨hS3, ?_⟩
      refine HOps.stL rfl jK (Acts.store rfl rfl Try.sizeOf3 hb7 rfl rfl) trivial rfl ?_
      rintro W4 ⟨hb7n, hf4, hs4⟩
      have hb7n : Blk W4 g7 3 #[.int .i64 ((a - x.2 : Nat) : Int)] := hb7n
      refine HOps.done jK ?_
      refine blockQ_n (?_)
      have hf24 : Frm [g6, g7] W2 W4 := (((Drawn.drew W2).frm.mono (T := [g6, g7]) (by simp)).trans hf3 (by simp)).trans hf4 (by simp)
      obtain ⟨o1, o2, o3, o4, o5, o6⟩ := hoff w [g6, g7] (by simp)
      refine ⟨⟨[g6, g7], (hd2.frm.mono (by simp)).trans hf24 (by simp), ?_⟩, ?_⟩
      ·
       intro b hb
       refine ⟨fun h => ?_, fun o ho => ?_⟩
       ·
        rcases List.mem_cons.1 h with h | h
        ·
         subst h; simp only [List.mem_cons, List.not_mem_nil, or_false] at hb; rcases hb with hb | hb <;> omega
        ·
         exact o3 _ b h hb
       ·
        simp only [List.mem_cons, List.not_mem_nil, or_false] at hb
        obtain ⟨m, rfl⟩ := hd2
        rcases hb with rfl | rfl
        ·
         exact hb60.isC o ho
        ·
         exact hb70.isC o ho
      ·
       have e2 : n - (pre ++ [x]).length = x.1 := by rw [List.length_append]; simp; omega
       dsimp only
       rw [e2, hU, if_pos hc3]
       exact ⟨hI2W.frm2 hf24 o1 o2 o3 o4, hK2W.step hf24 (fun x hx => .inr (.inl (o6 x hx))), hb2.frm hf24 (by simp; omega), hb3.frm hf24 o5, hb6n.frm hf4 (by simp; omega), hb7n⟩
     ·
      refine jQ ?_
      refine blockQ_n (?_)
      refine ⟨Wrote.frm0 hd2.frm, ?_⟩
      have e2 : n - (pre ++ [x]).length = x.1 := by rw [List.length_append]; simp; omega
      dsimp only
      rw [e2, hU, if_neg hc3]
      exact ⟨hI2W, hK2W, hb2, hb3, hb6, hb7⟩
  ·
   rintro W ⟨hIW, hKW, hb2, hb3, hb6, hb7⟩ hsz hmk
   rw [revF_len, Nat.sub_self, Upto_zero bs a (by omega)] at hb6 hb7
   refine blockD_n (thenD_n ?_)
   refine DV.sub [(6, _), (7, _)] (js2 rfl rfl) ?_
   refine DV.seq ?_
   refine DV.vc ?_
   refine VC.still jK jK ?_
   refine SOps.r (Run.load rfl Try.isAgg3 (hb6.cell 0)) rfl ?_
   refine SOps.r (Run.load rfl Try.isAgg3 (hb7.cell 0)) rfl ?_
   refine SOps.r (Run.asg rfl) rfl ?_
   refine SOps.r (Run.asg rfl) rfl ?_
   refine SOps.nil ?_
   refine thenD_n ?_
   refine DV.sub [(4, _), (5, _)] (js2 rfl rfl) ?_
   refine DV.vc (jT ?_)
   refine endD_r (by simp) (fun d hd => by simp only [List.mem_singleton] at hd; subst hd; exact hmk) (fun wz hsh => ?_)
   have hIz := (hIW.drawn (Drawn.drew _)).frm2 hsh (by simp; omega) (by simp; omega) (fun y z hz => by have := (hG3 y z hz).2; simp; omega) (by simp; omega)
   have Kz := (hKW.step (Drawn.drew W).frm (by simp)).step hsh (fun x hx => .inr (.inl (by simp at hx; omega)))
   refine end2 rfl rfl ?_
   exact ⟨rfl, Kz, G, hg2 ▸ hro3, hIz⟩
  ·
   exact fun _ _ h => absurd h.1 (by simp)
  ·
   rintro id pre W ⟨he, hIW, hKW, hb2, hb3, hb6, hb7⟩ hsz hmk
   cases he
   refine blockD_x ?_
   refine thenD_n ?_
   refine DV.sub [(6, _), (7, _)] (js2 rfl rfl) ?_
   refine DV.seq ?_
   refine DV.vc ?_
   refine VC.still jK jK ?_
   refine SOps.r (Run.load rfl Try.isAgg3 (hb6.cell 0)) rfl ?_
   refine SOps.r (Run.load rfl Try.isAgg3 (hb7.cell 0)) rfl ?_
   refine SOps.r (Run.asg rfl) rfl ?_
   refine SOps.r (Run.asg rfl) rfl ?_
   refine SOps.nil ?_
   refine thenD_n ?_
   refine DV.sub [(4, _), (5, _)] (js2 rfl rfl) ?_
   refine DV.vc (jT ?_)
   refine endD_r (by simp) (fun d hd => by simp only [List.mem_singleton] at hd; subst hd; exact hmk) (fun wz hsh => ?_)
   have hIz := (hIW.drawn (Drawn.drew _)).frm2 hsh (by simp; omega) (by simp; omega) (fun y z hz => by have := (hG3 y z hz).2; simp; omega) (by simp; omega)
   have Kz := (hKW.step (Drawn.drew W).frm (by simp)).step hsh (fun x hx => .inr (.inl (by simp at hx; omega)))
   refine end2 rfl rfl ?_
   exact ⟨rfl, Kz, G, hg2 ▸ hro3, hIz⟩
def tokC (t : Tk) : List Value := [.int .u8 ((t.1 : Nat) : Int), .int .i64 ((t.2.1 : Nat) : Int), .int .i64 ((t.2.2 : Nat) : Int)]
def TC (l : List Tk) : List Value := l.flatMap tokC
theorem TC_append (a b : List Tk) : TC (a ++ b) = TC a ++ TC b := by simp [TC]
theorem TC_one (l : List Tk) : ∀ u ∈ TC l, u.oneCell' = true := by
 intro u hu
 obtain ⟨t, _, ht⟩ := List.mem_flatMap.1 hu
 simp only [tokC, List.mem_cons, List.not_mem_nil, or_false] at ht
 rcases ht with rfl | rfl | rfl <;> rfl
theorem toks_len (bs : List Nat) : ∀ m a, (findM bs m a).length ≤ m
 | 0, a => Nat.le_refl _
 | m + 1, a => by
  unfold findM
  split
  ·
   simp
  ·
   split
   ·
    have := toks_len bs m (a + 1); simp; omega
   ·
    have := toks_len bs m (a + (bestM bs a).1); simp; omega
theorem zeroFin (w : World) : (zeroValue 93).run Try.prog w = .ok (.agg #[.slice none 0 0, .map none, .int .i64 0]) w := by
 simp only [zeroValue, Sem.run_bind, Try.typeInfo93, Result.andThen_ok]; rfl
theorem placesFin : ∃ fs, Try.prog.underlying 93 = some (.struct fs) ∧ ∀ w, (fs.mapM fun f => do pure (f.offset, ← sizeOf f.type) : Sem (Array (Nat × Nat))).run Try.prog w = .ok #[(0, 1), (1, 1), (2, 1)] w :=
 ⟨_, Try.underlying93, fun w => by simp [Try.sizeOf22, Try.sizeOf91, Try.sizeOf3]⟩
theorem IsF.tok {w0 w w' : World} {gf gm cb u n c : Nat} {Ab B : Option Addr} {bs : List Nat} {F : Nat × Nat × Nat → Option Addr × Nat} {xs : List Value} (h : IsF w0 w gf gm Ab cb bs u F) (ho : Own w 73 3 B n c xs) (hup : ∀ x ∈ ob B, w0.heap.size ≤ x) (f : Frm (ob B) w w') : IsF w0 w' gf gm Ab cb bs u F :=
 h.frm2 f (ho.ne_blk h.blk (by decide)) (by
  rcases ho.cases with ⟨rfl, _⟩ | ⟨g, cur, rfl, hb, _⟩
  ·
   simp [ob]
  ·
   simpa [ob] using h.pl.map.ne_blk hb) (fun x => (h.pl.own x).ne_own ho (by decide)) hup
set_option maxRecDepth 100000 in
theorem find_small (A : Option Addr) (c : Nat) (bs : List Nat) (w : World) (hl : bs.length ≤ 32768) (hc : bs.length ≤ c) (hB : ∀ b ∈ bs, b < 256) (hr : Rd w 1 A bs.length (NB bs)) :
  Calls Try.prog 17 #[.slice A bs.length c] w fun e w' => ∃ B d, e = .returned (.tuple #[.slice B (toks bs 0).length d, .int .i64 ((0 : Nat) : Int)]) ∧ Own w' 73 3 B (toks bs 0).length d (TC (toks bs 0)) ∧ Frm [] w w' ∧ ∀ x ∈ ob B, w.heap.size ≤ x := by
 have h70 : ¬ 65536 < bs.length := by omega
 refine VC.calls (nt := 48) (res := #[.tmp 2, .tmp 3]) Try.func17 rfl Try.ntmps17 Try.results17 rfl ?_
 refine jS (jR (jA ?_))
 refine Ops.r (v := .int .i64 ((0 : Nat) : Int)) (Run.asg rfl) rfl ?_
 refine jO (jN (jv1 0 ?_))
 refine jS (jS (jR (jM ?_)))
 refine Ops.r (Run.lenS rfl Try.underlying22) rfl ?_
 refine Ops.r (Run.bin rfl rfl (Bin.gtrN _ 65536)) rfl ?_
 refine jO (jN (jv2 0 11 ?_))
 refine VC.condF rfl (by simp; omega) ?_
 refine jQ (jN (jv1 0 ?_))
 refine jS (jR (jM ?_))
 refine Ops.m (Does.makeMap (P := Try.prog) (k := 139) (enc := K3)) rfl ?_
 rintro _ w1 ⟨rfl, hM1, hf1, hs1⟩
 refine Ops.r (Run.build (evs.cons rfl (evs.cons rfl evs.nil)) zeroFin placesFin.choose_spec.1 placesFin.choose_spec.2 rfl) rfl ?_
 refine Ops.m (Does.box rfl) rfl ?_
 rintro _ w2 ⟨rfl, hF2⟩
 have hM2 := hM1.frm hF2.frm (by simp)
 have hb0 : Blk w2 w1.heap.size 93 #[.slice A bs.length c, .map (some w.heap.size), .int .i64 ((0 : Nat) : Int)] := hF2.blk
 generalize hgm : w.heap.size = gm at hM2 hb0 ⊢
 generalize hgf : w1.heap.size = gf at hb0 ⊢
 have hI0 : IsF w w2 gf gm A c bs 0 (fun _ => (none, 0)) := by
  refine ⟨hb0, hr, ((hf1.trans hF2.frm (by simp)).below), by omega, ⟨by omega, ?_, fun x => Own.nil _ _ _, fun x => by simp [ob], fun x _ => rfl, fun x y _ => by simp [ob]⟩⟩
  have e : PlM (fun _ => (none, 0)) bs 0 = fun _ => none := by funext x; unfold PlM; rw [if_pos (by rfl)]
  rw [e]
  exact hM2
 have htl0 := toks_len bs bs.length 0
 refine jA ?_
 refine jO (jN (jv2 0 4 ?_))
 refine jS (jR (jA ?_))
 refine jO (jN (jS (jS (jR ?_))))
 refine Ops.r (v := .int .i64 ((0 : Nat) : Int)) (Run.asg rfl) rfl ?_
 refine jO (jN (jB ?_))
 refine VC.loop (σ := Nat × Nat × List Tk × Option Addr × Nat × (Nat × Nat × Nat → Option Addr × Nat)) (fun s => [(0, .slice A bs.length c), (4, .pointer (some ⟨gf, 0, none⟩)), (5, .slice s.2.2.2.1 s.2.2.1.length s.2.2.2.2.1), (6, .int .i64 ((s.1 : Nat) : Int))]) (fun s wr => s.1 ≤ bs.length ∧ s.2.1 ≤ s.1 ∧ s.2.2.1.length ≤ s.1 ∧ toks bs 0 = s.2.2.1 ++ toks bs s.1 ∧ IsF w wr gf gm A c bs s.2.1 s.2.2.2.2.2 ∧ Own wr 73 3 s.2.2.2.1 s.2.2.1.length s.2.2.2.2.1 (TC s.2.2.1) ∧ ∀ x ∈ ob s.2.2.2.1, w.heap.size ≤ x) (fun s => bs.length - s.1) (0, 0, [], none, 0, fun _ => (none, 0)) (js4 rfl rfl rfl rfl) ⟨Nat.zero_le _, Nat.le_refl _, Nat.le_refl _, rfl, hI0, Own.nil _ _ _, by simp [ob]⟩ ?_
 rintro ⟨a, u, pre, B, d, F⟩ wr ⟨ha, hu, hpl, hsp, hI, hO, hup⟩
 dsimp only at ha hu hpl hsp hI hO hup ⊢
 refine jS (jS (jR (jM ?_)))
 refine jM ?_
 refine Ops.r (Run.lenS rfl Try.underlying22) rfl ?_
 refine Ops.r (Run.bin rfl rfl (Bin.lssN _ _)) rfl ?_
 refine jO (jN (jv5 0 4 5 6 19 ?_))
 refine VC.condD rfl (fun hc2 => ?_) (fun hc2 => ?_)
 ·
  refine jQ (jN (jv4 0 4 5 6 ?_))
  refine jB (jS (jR (jM ?_)))
  refine jM ?_
  refine Ops.cl (Enters.fn (evs.cons rfl (evs.cons rfl evs.nil)) Try.call49) (best_spec w wr gf gm c u a A bs F hu (by omega) hc (by omega) hB hI) rfl ?_
  rintro e w3 ⟨rfl, K3, G, hro, hI3⟩
  refine ⟨_, rfl, ?_⟩
  have hO := K3.own hI hO (by decide) (by decide)
  have hbf := bestM_facts bs a (by omega)
  refine jM ?_
  refine Ops.r (Run.extract rfl rfl) rfl ?_
  refine Ops.r (Run.extract rfl rfl) rfl ?_
  refine jA ?_
  refine jA ?_
  refine jO (jN (jv6 0 4 5 6 7 8 ?_))
  refine jS (jS (jR (jM ?_)))
  refine Ops.r (Run.bin rfl rfl (Bin.eqlN _ 0)) rfl ?_
  refine jO (jN (jv7 0 4 5 6 7 8 27 ?_))
  refine VC.condD rfl (fun hc3 => ?_) (fun hc3 => ?_)
  ·
   obtain ⟨ad, rfl, hadlt, hadc⟩ := hI3.rd.2 (by omega)
   have hcell := hadc a _ (NB_get bs a (by omega))
   have hnx := toks_lit bs a (by omega) hc3
   refine jS (jR (jM ?_))
   refine jM ?_
   refine jM ?_
   refine Ops.r (Run.index1 _ rfl rfl Try.underlying22 Try.sizeOf5 (by omega)) rfl ?_
   refine Ops.r (Run.load rfl Try.isAgg5 hcell) rfl ?_
   refine Ops.r (Run.build (evs.cons rfl evs.nil) zero73 (places73).choose_spec.1 (places73).choose_spec.2 rfl) rfl ?_
   refine Ops.m (Does.buildS1 rfl Try.underlying31 Try.sizeOf73 zero73 (by decide) (by decide) rfl rfl) rfl ?_
   rintro _ w4 ⟨rfl, hF4⟩
   have hI4 := hI3.frm hF4.frm (by simp)
   have hO4 := hO.frm hF4.frm (by simp)
   have hrd4 : Rd w4 3 (some ⟨w3.heap.size, 0, none⟩) 1 (TC [(bs.getD a 0, 0, 0)]) := Rd.of_blk (n := 1) (size := 3) hF4.blk rfl
   refine Ops.m (Does.app rfl rfl Try.underlying31 (info73) rfl (by decide) hO4 hrd4 (TC_one _) (by omega) (by omega)) rfl ?_
   rintro _ w5 ⟨B5, d5, rfl, hO5, hf5, hob5⟩
   have hI5 := hI4.tok hO4 hup hf5
   rw [← TC_append] at hO5
   have hup5 := up_app hup hob5 (hI4.below.size)
   refine jA ?_
   refine jO (jN (jv4 0 4 5 6 ?_))
   refine jS (jR (jM ?_))
   refine Ops.r (Run.bin rfl rfl (Bin.add_i64 _ 1 (by omega))) rfl ?_
   refine jA ?_
   refine jO (jN (jv4 0 4 5 6 ?_))
   refine jX ?_
   refine thenQ_x (blockQ_x ?_)
   refine jN ⟨(a + 1, a, pre ++ [(bs.getD a 0, 0, 0)], B5, d5, G), (js4 rfl rfl (by rw [List.length_append]; rfl) rfl), ?_, ?_⟩
   ·
    refine ⟨by dsimp only; omega, by dsimp only; omega, by rw [List.length_append]; simp; omega, by rw [hsp, hnx]; simp, hI5, by rw [List.length_append]; exact hO5, hup5⟩
   ·
    first | omega | (dsimp only; omega)
  ·
   have hnx := toks_match bs a (by omega) hc3
   have hbm : 3 ≤ (bestM bs a).1 ∧ a + (bestM bs a).1 ≤ bs.length := by
    rcases hbf with h | ⟨h1, _, _, _, h2, _⟩
    ·
     rw [h] at hc3; exact absurd rfl hc3
    ·
     exact ⟨h1, h2⟩
   refine jQ (jN (jv6 0 4 5 6 7 8 ?_))
   refine jS (jR (jM ?_))
   refine jM ?_
   refine jM ?_
   refine Ops.r (Run.build (evs.cons rfl (evs.cons rfl evs.nil)) zero73 (places73).choose_spec.1 (places73).choose_spec.2 rfl) rfl ?_
   refine Ops.m (Does.buildS1 rfl Try.underlying31 Try.sizeOf73 zero73 (by decide) (by decide) rfl rfl) rfl ?_
   rintro _ w4 ⟨rfl, hF4⟩
   have hI4 := hI3.frm hF4.frm (by simp)
   have hO4 := hO.frm hF4.frm (by simp)
   have hrd4 : Rd w4 3 (some ⟨w3.heap.size, 0, none⟩) 1 (TC [(0, (bestM bs a).1, (bestM bs a).2)]) := Rd.of_blk (n := 1) (size := 3) hF4.blk rfl
   refine Ops.m (Does.app rfl rfl Try.underlying31 (info73) rfl (by decide) hO4 hrd4 (TC_one _) (by omega) (by omega)) rfl ?_
   rintro _ w5 ⟨B5, d5, rfl, hO5, hf5, hob5⟩
   have hI5 := hI4.tok hO4 hup hf5
   rw [← TC_append] at hO5
   have hup5 := up_app hup hob5 (hI4.below.size)
   refine jA ?_
   refine jO (jN (jv5 0 4 5 6 7 ?_))
   refine jR (jM ?_)
   refine jM ?_
   refine Ops.r (Run.bin rfl rfl (Bin.add_i64 _ _ (by omega))) rfl ?_
   refine jA ?_
   refine jO ?_
   refine blockQ_n (jN ⟨(a + (bestM bs a).1, a, pre ++ [(0, (bestM bs a).1, (bestM bs a).2)], B5, d5, G), (js4 rfl rfl (by rw [List.length_append]; rfl) rfl), ?_, ?_⟩)
   ·
    refine ⟨by dsimp only; omega, by dsimp only; omega, by rw [List.length_append]; simp; omega, by rw [hsp, hnx]; simp, hI5, by rw [List.length_append]; exact hO5, hup5⟩
   ·
    first | omega | (dsimp only; omega)
 ·
  refine jX ?_
  refine thenQ_x (thenQ_x (blockQ_x ?_))
  refine jN (jv1 5 ?_)
  refine jS (jR (jM ?_))
  refine jA ?_
  refine Ops.r (v := .int .i64 ((0 : Nat) : Int)) (Run.asg rfl) rfl ?_
  refine jO (jN (jv2 2 3 ?_))
  refine jT ?_
  refine end2 rfl rfl ?_
  have ea : a = bs.length := by omega
  have et : toks bs 0 = pre := by rw [hsp, ea, toks_end bs bs.length (Nat.le_refl _), List.append_nil]
  rw [et]
  exact ⟨_, _, rfl, hO, Frm.of_below hI.below, fun x hx => by rw [← hgm]; exact hup x hx⟩
set_option maxRecDepth 100000 in
theorem find_big (A : Option Addr) (n c : Nat) (w : World) (hn : 65536 < n) :
  Calls Try.prog 17 #[.slice A n c] w fun e w' => e = .returned (.tuple #[.slice none 0 0, .int .i64 ((5 : Nat) : Int)]) ∧ w = w' := by
 refine VC.calls (nt := 48) (res := #[.tmp 2, .tmp 3]) Try.func17 rfl Try.ntmps17 Try.results17 rfl ?_
 refine jS (jR (jA ?_))
 refine Ops.r (v := .int .i64 ((0 : Nat) : Int)) (Run.asg rfl) rfl ?_
 refine jO (jN (jv1 0 ?_))
 refine jS (jS (jR (jM ?_)))
 refine Ops.r (Run.lenS rfl Try.underlying22) rfl ?_
 refine Ops.r (Run.bin rfl rfl (Bin.gtrN _ 65536)) rfl ?_
 refine jO (jN (jv2 0 11 ?_))
 refine VC.condT rfl (by simp; omega) ?_
 refine jS (jR (jA ?_))
 refine Ops.r (v := .int .i64 ((5 : Nat) : Int)) (Run.asg rfl) rfl ?_
 refine jO (jN (jv2 2 3 ?_))
 refine jT ?_
 refine thenQ_r (end2 rfl rfl ?_)
 exact ⟨rfl, rfl⟩
end Go.Proofs.Ytnmieihcjjiccaa
namespace Go.Proofs.Ytnmieihcjjiccaa
open Go.RowKit
set_option maxRecDepth 100000 in
theorem rbest_spec (A : Option Addr) (c a : Nat) (bs : List Nat) (w : World) (hl : bs.length ≤ 32768) (ha : a < bs.length) (hr : Rd w 1 A bs.length (NB bs)) :
  Calls Try.prog 66 #[.slice A bs.length c, .int .i64 ((a : Nat) : Int)] w fun e w' => e = .returned (.tuple #[.int .i64 (((bestM bs a).1 : Nat) : Int), .int .i64 (((bestM bs a).2 : Nat) : Int)]) ∧ Drawn w w' := by
 obtain ⟨ad, hA, _, hadc⟩ := hr.2 (by omega)
 subst hA
 refine VC.calls (nt := 57) (res := #[.tmp 4, .tmp 5]) Try.func66 rfl Try.ntmps66 Try.results66 rfl ?_
 refine jS (jR ?_)
 refine Ops.r (v := .int .i64 ((0 : Nat) : Int)) (Run.asg rfl) rfl ?_
 refine Ops.r (v := .int .i64 ((0 : Nat) : Int)) (Run.asg rfl) rfl ?_
 refine jO (jN (jv2 0 1 ?_))
 refine jS (jR ?_)
 refine Ops.r (v := .int .i64 ((0 : Nat) : Int)) (Run.asg rfl) rfl ?_
 refine Ops.r (v := .int .i64 ((0 : Nat) : Int)) (Run.asg rfl) rfl ?_
 refine jO (jN (jS (jS (jR ?_))))
 refine Ops.r (v := .int .i64 ((1 : Nat) : Int)) (Run.asg rfl) rfl ?_
 refine jO (jN (jB ?_))
 refine VC.loop (σ := Nat) (fun s => [(0, .slice (some ad) bs.length c), (1, .int .i64 ((a : Nat) : Int)), (6, .int .i64 (((bst bs a s).1 : Nat) : Int)), (7, .int .i64 (((bst bs a s).2 : Nat) : Int)), (8, .int .i64 ((s + 1 : Nat) : Int))]) (fun s wr => s ≤ a ∧ Drawn w wr) (fun s => a - s) 0 (js5 rfl rfl rfl rfl rfl) ⟨Nat.zero_le _, Drawn.refl w⟩ ?_
 rintro D wr ⟨hD, hd⟩
 refine jS (jS ?_)
 refine VC.split1 [(0, _), (1, _), (6, _), (7, _), (8, _)] (js5 rfl rfl rfl rfl rfl) 16 (.bool (decide (D + 1 ≤ a))) ?_ ?_
 ·
  refine jR ?_
  refine jM ?_
  refine jM ?_
  refine Ops.r (Run.bin rfl rfl (Bin.leqN _ _)) rfl ?_
  by_cases hs12 : D + 1 ≤ a
  ·
   refine jM ?_
   refine jG ?_
   refine Ops.rg rfl au (Run.bin rfl rfl (Bin.leqN _ 32768)) rfl ?_
   by_cases hs15 : D + 1 ≤ 32768
   ·
    refine Ops.r (Run.pickT rfl rfl au) rfl ?_
    refine jO ?_
    refine jN ⟨(js6 (jC (by first | exact decide_eq_decide.2 ⟨fun _ => by assumption, fun _ => by omega⟩ | exact (decide_eq_false (by assumption)).symm)) rfl rfl rfl rfl rfl), rfl⟩
   ·
    refine Ops.r (Run.pickT rfl rfl au) rfl ?_
    refine jO ?_
    refine jN ⟨(js6 (jC (by first | exact decide_eq_decide.2 ⟨fun _ => by assumption, fun _ => by omega⟩ | exact (decide_eq_false (by assumption)).symm)) rfl rfl rfl rfl rfl), rfl⟩
  ·
   refine jM ?_
   refine jU ?_
   refine jU ?_
   refine Ops.r (Run.pickF rfl rfl au) rfl ?_
   refine jO ?_
   refine jN ⟨(js6 (jC (by first | exact decide_eq_decide.2 ⟨fun _ => by assumption, fun _ => by omega⟩ | exact (decide_eq_false (by assumption)).symm)) rfl rfl rfl rfl rfl), rfl⟩
 ·
  intro Γ hΓ
  refine jN (VC.sub _ hΓ ?_)
  refine VC.condD rfl (fun hc1 => ?_) (fun hc1 => ?_)
  ·
   refine jQ (jN (jv5 0 1 6 7 8 ?_))
   refine jS (jB (jS (jR ?_)))
   refine Ops.r (v := .int .i64 ((0 : Nat) : Int)) (Run.asg rfl) rfl ?_
   refine jO (jN (jS (jB ?_)))
   refine VC.loop (σ := Nat) (fun s => [(0, .slice (some ad) bs.length c), (1, .int .i64 ((a : Nat) : Int)), (6, .int .i64 (((bst bs a D).1 : Nat) : Int)), (7, .int .i64 (((bst bs a D).2 : Nat) : Int)), (8, .int .i64 ((D + 1 : Nat) : Int)), (9, .int .i64 ((s : Nat) : Int))]) (fun s wr => s ≤ 258 ∧ a + s ≤ bs.length ∧ longM bs (a - (D + 1)) a = s + lgM bs (a - (D + 1) + s) (a + s) (258 - s) ∧ Drawn w wr) (fun s => 258 - s) 0 (js6 rfl rfl rfl rfl rfl rfl) ⟨by omega, by omega, by simp [longM], hd⟩ ?_
   rintro n wr ⟨hn, hna, hlg, hd⟩
   have hcell : ∀ j, j < bs.length → wr.cell? (ad.add j) = some (.int .u8 ((bs.getD j 0 : Nat) : Int)) := fun j hj => by
    obtain ⟨m, rfl⟩ := hd
    exact hadc j _ (NB_get bs j hj)
   refine jS (jS ?_)
   refine VC.splitR [(0, .slice (some ad) bs.length c), (1, .int .i64 ((a : Nat) : Int)), (6, .int .i64 (((bst bs a D).1 : Nat) : Int)), (7, .int .i64 (((bst bs a D).2 : Nat) : Int)), (8, .int .i64 ((D + 1 : Nat) : Int)), (9, .int .i64 ((n : Nat) : Int))] (Drawn w) 45 (.bool (decide (n < 258 ∧ a + n < bs.length ∧ bs.getD (a + n) 0 = bs.getD (a + n - (D + 1)) 0))) ?_ ?_
   ·
    refine VC.still jK jK ?_
    refine SOps.r (Run.mv rfl) rfl ?_
    refine SOps.r (Run.bin rfl rfl (Bin.lssN _ 258)) rfl ?_
    by_cases hs20 : n < 258
    ·
     refine SOps.r (Run.mv rfl) rfl ?_
     refine SOps.rg rfl au (Run.mv rfl) rfl ?_
     refine SOps.rg rfl au (Run.mv rfl) rfl ?_
     refine SOps.rg rfl au (Run.bin rfl rfl (Bin.add_i64 _ _ (by omega))) rfl ?_
     refine SOps.rg rfl au (Run.mv rfl) rfl ?_
     refine SOps.rg rfl au (Run.lenS rfl Try.underlying22) rfl ?_
     refine SOps.rg rfl au (Run.bin rfl rfl (Bin.lssN _ _)) rfl ?_
     by_cases hs27 : a + n < bs.length
     ·
      refine SOps.r (Run.pickT rfl rfl au) rfl ?_
      refine SOps.r (Run.mv rfl) rfl ?_
      refine SOps.rg rfl au (Run.mv rfl) rfl ?_
      refine SOps.rg rfl au (Run.mv rfl) rfl ?_
      refine SOps.rg rfl au (Run.mv rfl) rfl ?_
      refine SOps.rg rfl au (Run.bin rfl rfl (Bin.add_i64 _ _ (by omega))) rfl ?_
      refine SOps.rg rfl au (Run.index1 _ rfl rfl Try.underlying22 Try.sizeOf5 (by omega)) rfl ?_
      refine SOps.rg rfl au (Run.load rfl Try.isAgg5 (hcell _ (by omega))) rfl ?_
      refine SOps.rg rfl au (Run.mv rfl) rfl ?_
      refine SOps.rg rfl au (Run.mv rfl) rfl ?_
      refine SOps.rg rfl au (Run.mv rfl) rfl ?_
      refine SOps.rg rfl au (Run.bin rfl rfl (Bin.add_i64 _ _ (by omega))) rfl ?_
      refine SOps.rg rfl au (Run.mv rfl) rfl ?_
      refine SOps.rg rfl au (Run.bin rfl rfl (Bin.sub_i64 _ _ (by omega) (by omega))) rfl ?_
      refine SOps.rg rfl au (Run.index1 _ rfl rfl Try.underlying22 Try.sizeOf5 (by omega)) rfl ?_
      refine SOps.rg rfl au (Run.load rfl Try.isAgg5 (hcell _ (by omega))) rfl ?_
      refine SOps.rg rfl au (Run.bin rfl rfl (Bin.eqlN _ _)) rfl ?_
      by_cases hs44 : bs.getD (a + n) 0 = bs.getD (a + n - (D + 1)) 0
      ·
       refine SOps.r (Run.pickT rfl rfl au) rfl ?_
       refine SOps.nil ?_
       refine jN ⟨(js7 (jC (by simp [*])) rfl rfl rfl rfl rfl rfl), (hd.trans (Drawn.drew _))⟩
      ·
       refine SOps.r (Run.pickT rfl rfl au) rfl ?_
       refine SOps.nil ?_
       refine jN ⟨(js7 (jC (by simp [*])) rfl rfl rfl rfl rfl rfl), (hd.trans (Drawn.drew _))⟩
     ·
      refine SOps.r (Run.pickT rfl rfl au) rfl ?_
      refine SOps.r (Run.mv rfl) rfl ?_
      refine SOps.sk rfl au rfl ?_
      refine SOps.sk rfl au rfl ?_
      refine SOps.sk rfl au rfl ?_
      refine SOps.sk rfl au rfl ?_
      refine SOps.sk rfl au rfl ?_
      refine SOps.sk rfl au rfl ?_
      refine SOps.sk rfl au rfl ?_
      refine SOps.sk rfl au rfl ?_
      refine SOps.sk rfl au rfl ?_
      refine SOps.sk rfl au rfl ?_
      refine SOps.sk rfl au rfl ?_
      refine SOps.sk rfl au rfl ?_
      refine SOps.sk rfl au rfl ?_
      refine SOps.sk rfl au rfl ?_
      refine SOps.sk rfl au rfl ?_
      refine SOps.r (Run.pickF rfl rfl au) rfl ?_
      refine SOps.nil ?_
      refine jN ⟨(js7 (jC (by simp [*])) rfl rfl rfl rfl rfl rfl), (hd.trans (Drawn.drew _))⟩
    ·
     refine SOps.r (Run.mv rfl) rfl ?_
     refine SOps.sk rfl au rfl ?_
     refine SOps.sk rfl au rfl ?_
     refine SOps.sk rfl au rfl ?_
     refine SOps.sk rfl au rfl ?_
     refine SOps.sk rfl au rfl ?_
     refine SOps.sk rfl au rfl ?_
     refine SOps.r (Run.pickF rfl rfl au) rfl ?_
     refine SOps.r (Run.mv rfl) rfl ?_
     refine SOps.sk rfl au rfl ?_
     refine SOps.sk rfl au rfl ?_
     refine SOps.sk rfl au rfl ?_
     refine SOps.sk rfl au rfl ?_
     refine SOps.sk rfl au rfl ?_
     refine SOps.sk rfl au rfl ?_
     refine SOps.sk rfl au rfl ?_
     refine SOps.sk rfl au rfl ?_
     refine SOps.sk rfl au rfl ?_
     refine SOps.sk rfl au rfl ?_
     refine SOps.sk rfl au rfl ?_
     refine SOps.sk rfl au rfl ?_
     refine SOps.sk rfl au rfl ?_
     refine SOps.sk rfl au rfl ?_
     refine SOps.sk rfl au rfl ?_
     refine SOps.r (Run.pickF rfl rfl au) rfl ?_
     refine SOps.nil ?_
     refine jN ⟨(js7 (jC (by simp [*])) rfl rfl rfl rfl rfl rfl), (hd.trans (Drawn.drew _))⟩
   ·
    intro Γ wr2 hΓ hd2
    refine jN (VC.sub _ hΓ ?_)
    refine VC.condD rfl (fun hc2 => ?_) (fun hc2 => ?_)
    ·
     refine jQ (jN (jv6 0 1 6 7 8 9 ?_))
     refine jB (jR (jM ?_))
     refine Ops.r (Run.bin rfl rfl (Bin.add_i64 _ 1 (by omega))) rfl ?_
     refine jA ?_
     refine jO ?_
     refine blockQ_n (jN ⟨n + 1, (js6 rfl rfl rfl rfl rfl rfl), ?_, ?_⟩)
     ·
      obtain ⟨h1, h2, h3⟩ := hc2
      refine ⟨by omega, by omega, ?_, hd2⟩
      rw [show a + n - (D + 1) = a - (D + 1) + n by omega] at h3
      rw [hlg, lgM_go h2 h3.symm (by omega), show a - (D + 1) + (n + 1) = a - (D + 1) + n + 1 by omega, show a + (n + 1) = a + n + 1 by omega, show 258 - (n + 1) = 258 - n - 1 by omega]
      omega
     ·
      first | omega | (dsimp only; omega)
    ·
     have hln : longM bs (a - (D + 1)) a = n := by
      rw [hlg]
      by_cases h1 : n < 258
      ·
       rw [lgM_stop (fun h => hc2 ⟨h1, h.1, by rw [show a + n - (D + 1) = a - (D + 1) + n by omega]; exact h.2.symm⟩)]
       rfl
      ·
       rw [show 258 - n = 0 by omega]
       rfl
     have hst : bst bs a (D + 1) = if (bst bs a D).1 < n then (n, D + 1) else bst bs a D := by rw [bst, hln]
     refine jX ?_
     refine thenQ_x (thenQ_x (blockQ_x ?_))
     refine jN (jv6 0 1 6 7 8 9 ?_)
     refine jS (jR (jM ?_))
     refine jM ?_
     refine Ops.r (Run.bin rfl rfl (Bin.gtrN _ _)) rfl ?_
     refine jO (jN (jv7 0 1 6 7 8 9 50 ?_))
     refine VC.condD rfl (fun hc3 => ?_) (fun hc3 => ?_)
     ·
      refine jS (jR (jM ?_))
      refine jA ?_
      refine jO (jN (jv4 0 1 6 8 ?_))
      refine jR (jM ?_)
      refine jA ?_
      refine jO ?_
      refine blockQ_n (jN ?_)
      refine jv5 0 1 6 7 8 ?_
      refine jR (jM ?_)
      refine Ops.r (Run.bin rfl rfl (Bin.add_i64 _ 1 (by omega))) rfl ?_
      refine jA ?_
      refine jO ?_
      refine jN ⟨D + 1, (js5 rfl rfl (by rw [hst, if_pos hc3]; rfl) (by rw [hst, if_pos hc3]; rfl) rfl), ?_, ?_⟩
      ·
       exact ⟨hc1, hd2⟩
      ·
       first | omega | (dsimp only; omega)
     ·
      refine jQ ?_
      refine blockQ_n (jN ?_)
      refine jv5 0 1 6 7 8 ?_
      refine jR (jM ?_)
      refine Ops.r (Run.bin rfl rfl (Bin.add_i64 _ 1 (by omega))) rfl ?_
      refine jA ?_
      refine jO ?_
      refine jN ⟨D + 1, (js5 rfl rfl (by rw [hst, if_neg hc3]; rfl) (by rw [hst, if_neg hc3]; rfl) rfl), ?_, ?_⟩
      ·
       exact ⟨hc1, hd2⟩
      ·
       first | omega | (dsimp only; omega)
  ·
   refine jX ?_
   refine thenQ_x (thenQ_x (blockQ_x ?_))
   refine jN (jv2 6 7 ?_)
   refine jS (jS (jR (jM ?_)))
   refine Ops.r (Run.bin rfl rfl (Bin.lssN _ 3)) rfl ?_
   refine jO (jN (jv3 6 7 54 ?_))
   refine VC.condD rfl (fun hc4 => ?_) (fun hc4 => ?_)
   ·
    refine jS (jR ?_)
    refine Ops.r (v := .int .i64 ((0 : Nat) : Int)) (Run.asg rfl) rfl ?_
    refine Ops.r (v := .int .i64 ((0 : Nat) : Int)) (Run.asg rfl) rfl ?_
    refine jO (jN (jv2 4 5 ?_))
    refine jT ?_
    refine thenQ_r (end2 rfl rfl ?_)
    have e : D = a := by omega
    subst e
    have e2 : bestM bs D = (0, 0) := by unfold bestM cutM; rw [if_pos hc4]
    rw [e2]
    exact ⟨rfl, hd⟩
   ·
    refine jQ (jN (jv2 6 7 ?_))
    refine jS (jR (jM ?_))
    refine jM ?_
    refine jA ?_
    refine jA ?_
    refine jO (jN (jv2 4 5 ?_))
    refine jT ?_
    refine end2 rfl rfl ?_
    have e : D = a := by omega
    subst e
    have e2 : bestM bs D = bst bs D D := by unfold bestM cutM; rw [if_neg hc4]
    rw [e2]
    exact ⟨rfl, hd⟩
set_option maxRecDepth 100000 in
theorem rfind_spec (A : Option Addr) (c : Nat) (bs : List Nat) (w : World) (hl : bs.length ≤ 32768) (hr : Rd w 1 A bs.length (NB bs)) :
  Calls Try.prog 35 #[.slice A bs.length c] w fun e w' => ∃ B d, e = .returned (.slice B (toks bs 0).length d) ∧ Own w' 73 3 B (toks bs 0).length d (TC (toks bs 0)) ∧ Frm [] w w' ∧ ∀ x ∈ ob B, w.heap.size ≤ x := by
 refine VC.calls (nt := 39) (res := #[.tmp 2]) Try.func35 rfl Try.ntmps35 Try.results35 rfl ?_
 refine jS (jR (jA ?_))
 refine jO (jN (jv1 0 ?_))
 refine jS (jR (jA ?_))
 refine jO (jN (jS (jR ?_)))
 refine Ops.r (v := .int .i64 ((0 : Nat) : Int)) (Run.asg rfl) rfl ?_
 refine jO (jN (jS (jB ?_)))
 refine VC.loop (σ := Nat × List Tk × Option Addr × Nat) (fun s => [(0, .slice A bs.length c), (3, .slice s.2.2.1 s.2.1.length s.2.2.2), (4, .int .i64 ((s.1 : Nat) : Int))]) (fun s wr => s.1 ≤ bs.length ∧ s.2.1.length ≤ s.1 ∧ toks bs 0 = s.2.1 ++ toks bs s.1 ∧ Own wr 73 3 s.2.2.1 s.2.1.length s.2.2.2 (TC s.2.1) ∧ Frm [] w wr ∧ ∀ x ∈ ob s.2.2.1, w.heap.size ≤ x) (fun s => bs.length - s.1) (0, [], none, 0) (js3 rfl rfl rfl) ⟨Nat.zero_le _, Nat.le_refl _, rfl, Own.nil _ _ _, Frm.refl _ _, by simp [ob]⟩ ?_
 rintro ⟨a, pre, B, d⟩ wr ⟨ha, hpl, hsp, hO, K, hup⟩
 dsimp only at ha hpl hsp hO hup ⊢
 refine jS (jS (jR (jM ?_)))
 refine jM ?_
 refine Ops.r (Run.lenS rfl Try.underlying22) rfl ?_
 refine Ops.r (Run.bin rfl rfl (Bin.lssN _ _)) rfl ?_
 refine jO (jN (jv4 0 3 4 10 ?_))
 refine VC.condD rfl (fun hc1 => ?_) (fun hc1 => ?_)
 ·
  refine jQ (jN (jv3 0 3 4 ?_))
  refine jB (jS (jR (jM ?_)))
  refine jM ?_
  refine Ops.cl (Enters.fn (evs.cons rfl (evs.cons rfl evs.nil)) Try.call66) (rbest_spec A c a bs wr hl hc1 (hr.frm K (by simp))) rfl ?_
  rintro e w3 ⟨rfl, hd3⟩
  refine ⟨_, rfl, ?_⟩
  have hO := hO.drawn hd3
  have K := K.drawn hd3
  have hbf := bestM_facts bs a (by omega)
  refine jM ?_
  refine Ops.r (Run.extract rfl rfl) rfl ?_
  refine Ops.r (Run.extract rfl rfl) rfl ?_
  refine jA ?_
  refine jA ?_
  refine jO (jN (jv5 0 3 4 5 6 ?_))
  refine jS (jR (jM ?_))
  refine Ops.r (Run.bin rfl rfl (Bin.eqlN _ 0)) rfl ?_
  refine jO (jN (jv6 0 3 4 5 6 18 ?_))
  refine VC.condD rfl (fun hc2 => ?_) (fun hc2 => ?_)
  ·
   obtain ⟨ad, rfl, hadlt, hadc⟩ := (hr.frm K (by simp)).2 (by omega)
   have hcell := hadc a _ (NB_get bs a (by omega))
   have hnx := toks_lit bs a (by omega) hc2
   refine jS (jR (jM ?_))
   refine jM ?_
   refine jM ?_
   refine Ops.r (Run.index1 _ rfl rfl Try.underlying22 Try.sizeOf5 (by omega)) rfl ?_
   refine Ops.r (Run.load rfl Try.isAgg5 hcell) rfl ?_
   refine Ops.r (Run.build (evs.cons rfl evs.nil) zero73 (places73).choose_spec.1 (places73).choose_spec.2 rfl) rfl ?_
   refine Ops.m (Does.buildS1 rfl Try.underlying31 Try.sizeOf73 zero73 (by decide) (by decide) rfl rfl) rfl ?_
   rintro _ w4 ⟨rfl, hF4⟩
   have hO4 := hO.frm hF4.frm (by simp)
   have hrd4 : Rd w4 3 (some ⟨_, 0, none⟩) 1 (TC [(bs.getD a 0, 0, 0)]) := Rd.of_blk (n := 1) (size := 3) hF4.blk rfl
   refine Ops.m (Does.app rfl rfl Try.underlying31 (info73) rfl (by decide) hO4 hrd4 (TC_one _) (by omega) (by omega)) rfl ?_
   rintro _ w5 ⟨B5, d5, rfl, hO5, hf5, hob5⟩
   rw [← TC_append] at hO5
   have K5 := (K.trans hF4.frm (by simp)).own hf5 hup
   have hup5 := up_app hup hob5 (by have := K.size; have := hF4.size; omega)
   refine jA ?_
   refine jO (jN (jv3 0 3 4 ?_))
   refine jR (jM ?_)
   refine Ops.r (Run.bin rfl rfl (Bin.add_i64 _ 1 (by omega))) rfl ?_
   refine jA ?_
   refine jO ?_
   refine blockQ_n (jN ⟨(a + 1, pre ++ [(bs.getD a 0, 0, 0)], B5, d5), (js3 rfl (by rw [List.length_append]; rfl) rfl), ?_, ?_⟩)
   ·
    refine ⟨by dsimp only; omega, by rw [List.length_append]; simp; omega, by rw [hsp, hnx]; simp, by rw [List.length_append]; exact hO5, K5, hup5⟩
   ·
    first | omega | (dsimp only; omega)
  ·
   have hnx := toks_match bs a (by omega) hc2
   have hbm : 3 ≤ (bestM bs a).1 ∧ a + (bestM bs a).1 ≤ bs.length := by
    rcases hbf with h | ⟨h1, _, _, _, h2, _⟩
    ·
     rw [h] at hc2; exact absurd rfl hc2
    ·
     exact ⟨h1, h2⟩
   refine jS (jR (jM ?_))
   refine jM ?_
   refine jM ?_
   refine Ops.r (Run.build (evs.cons rfl (evs.cons rfl evs.nil)) zero73 (places73).choose_spec.1 (places73).choose_spec.2 rfl) rfl ?_
   refine Ops.m (Does.buildS1 rfl Try.underlying31 Try.sizeOf73 zero73 (by decide) (by decide) rfl rfl) rfl ?_
   rintro _ w4 ⟨rfl, hF4⟩
   have hO4 := hO.frm hF4.frm (by simp)
   have hrd4 : Rd w4 3 (some ⟨_, 0, none⟩) 1 (TC [(0, (bestM bs a).1, (bestM bs a).2)]) := Rd.of_blk (n := 1) (size := 3) hF4.blk rfl
   refine Ops.m (Does.app rfl rfl Try.underlying31 (info73) rfl (by decide) hO4 hrd4 (TC_one _) (by omega) (by omega)) rfl ?_
   rintro _ w5 ⟨B5, d5, rfl, hO5, hf5, hob5⟩
   rw [← TC_append] at hO5
   have K5 := (K.trans hF4.frm (by simp)).own hf5 hup
   have hup5 := up_app hup hob5 (by have := K.size; have := hF4.size; omega)
   refine jA ?_
   refine jO (jN (jv4 0 3 4 5 ?_))
   refine jR (jM ?_)
   refine jM ?_
   refine Ops.r (Run.bin rfl rfl (Bin.add_i64 _ _ (by omega))) rfl ?_
   refine jA ?_
   refine jO ?_
   refine blockQ_n (jN ⟨(a + (bestM bs a).1, pre ++ [(0, (bestM bs a).1, (bestM bs a).2)], B5, d5), (js3 rfl (by rw [List.length_append]; rfl) rfl), ?_, ?_⟩)
   ·
    refine ⟨by dsimp only; omega, by rw [List.length_append]; simp; omega, by rw [hsp, hnx]; simp, by rw [List.length_append]; exact hO5, K5, hup5⟩
   ·
    first | omega | (dsimp only; omega)
 ·
  refine jX ?_
  refine thenQ_x (thenQ_x (blockQ_x ?_))
  refine jN (jv1 3 ?_)
  refine jS (jR (jM ?_))
  refine jA ?_
  refine jO (jN (jv1 2 ?_))
  refine jT ?_
  refine end1 rfl ?_
  have ea : a = bs.length := by omega
  have et : toks bs 0 = pre := by rw [hsp, ea, toks_end bs bs.length (Nat.le_refl _), List.append_nil]
  rw [et]
  exact ⟨_, _, rfl, hO, K, hup⟩
end Go.Proofs.Ytnmieihcjjiccaa
namespace Go.Proofs.Ytnmieihcjjiccaa
open Go.RowKit
def bnd {α β : Type} : Except Nat α → (α → Except Nat β) → Except Nat β
 | .error c, _ => .error c
 | .ok x, f => f x
@[simp] theorem bnd_e {α β : Type} (c : Nat) (f : α → Except Nat β) : bnd (.error c) f = .error c := rfl
@[simp] theorem bnd_k {α β : Type} (x : α) (f : α → Except Nat β) : bnd (.ok x) f = f x := rfl
def takeF (L : List Bool) (n p : Nat) : Except Nat (Nat × Nat) := if p + n ≤ L.length then .ok (num ((L.drop p).take n), p + n) else .error 2
def symF (L : List Bool) (l : List Int) (p : Nat) : Except Nat (Nat × Nat) := if (tk l L (mostC l) 1 0 p).2.2 = 0 then .ok ((tk l L (mostC l) 1 0 p).1, (tk l L (mostC l) 1 0 p).2.1) else .error (tk l L (mostC l) 1 0 p).2.2
theorem takeF_ok {L : List Bool} {n p v q : Nat} (h : takeF L n p = .ok (v, q)) : q = p + n ∧ p + n ≤ L.length ∧ v < 2 ^ n ∧ v = num ((L.drop p).take n) := by
 unfold takeF at h
 split at h
 ·
  rename_i h1
  simp only [Except.ok.injEq, Prod.mk.injEq] at h
  obtain ⟨rfl, rfl⟩ := h
  have h2 := num_lt ((L.drop p).take n)
  rw [List.length_take, List.length_drop, Nat.min_eq_left (by omega)] at h2
  exact ⟨rfl, h1, h2, rfl⟩
 ·
  cases h
def longT : List (Nat × Nat) := [(3, 0), (4, 0), (5, 0), (6, 0), (7, 0), (8, 0), (9, 0), (10, 0), (11, 1), (13, 1), (15, 1), (17, 1), (19, 2), (23, 2), (27, 2), (31, 2), (35, 3), (43, 3), (51, 3), (59, 3), (67, 4), (83, 4), (99, 4), (115, 4), (131, 5), (163, 5), (195, 5), (227, 5), (258, 0)]
def wayT : List (Nat × Nat) := [(1, 0), (2, 0), (3, 0), (4, 0), (5, 1), (7, 1), (9, 2), (13, 2), (17, 3), (25, 3), (33, 4), (49, 4), (65, 5), (97, 5), (129, 6), (193, 6), (257, 7), (385, 7), (513, 8), (769, 8), (1025, 9), (1537, 9), (2049, 10), (3073, 10), (4097, 11), (6145, 11), (8193, 12), (12289, 12), (16385, 13), (24577, 13)]
def orderT : List Nat := [16, 17, 18, 0, 8, 7, 9, 6, 10, 5, 11, 4, 12, 3, 13, 2, 14, 1, 15]
def fixedL : List Int := List.replicate 144 8 ++ List.replicate 112 9 ++ List.replicate 24 7 ++ List.replicate 8 8
def fixedW : List Int := List.replicate 32 5
def copyF : Nat → Nat → List Nat → List Nat
 | 0, _, out => out
 | n + 1, d, out => copyF n d (out ++ [out.getD (out.length - d) 0])
def tokenF (L : List Bool) (a b : List Int) (most p : Nat) (out : List Nat) : Except Nat (Bool × Nat × List Nat) :=
 bnd (symF L a p) fun x =>
  if x.1 < 256 then (if out.length < most then .ok (true, x.2, out ++ [x.1]) else .error 13)
  else if x.1 = 256 then .ok (false, x.2, out)
  else if 285 < x.1 then .error 11
  else bnd (takeF L (longT.getD (x.1 - 257) (0, 0)).2 x.2) fun v => bnd (symF L b v.2) fun y =>
   if 30 ≤ y.1 then .error 11
   else bnd (takeF L (wayT.getD y.1 (0, 0)).2 y.2) fun u =>
    if out.length < (wayT.getD y.1 (0, 0)).1 + u.1 then .error 12
    else if most < out.length + ((longT.getD (x.1 - 257) (0, 0)).1 + v.1) then .error 13
    else .ok (true, u.2, copyF ((longT.getD (x.1 - 257) (0, 0)).1 + v.1) ((wayT.getD y.1 (0, 0)).1 + u.1) out)
def tokensF (L : List Bool) (a b : List Int) (most : Nat) : Nat → Nat → List Nat → Except Nat (Nat × List Nat)
 | 0, _, _ => .error 99
 | f + 1, p, out => bnd (tokenF L a b most p out) fun x => if x.1 then tokensF L a b most f x.2.1 x.2.2 else .ok x.2
end Go.Proofs.Ytnmieihcjjiccaa
namespace Go.Proofs.Ytnmieihcjjiccaa
open Go.RowKit
theorem KC_fst (f : Nat → Nat) : ∀ n, n ≤ 15 → fstF f n * 2 ^ (15 - n) = KC f n
 | 0, _ => by simp [fstF, KC]
 | n + 1, h => by
  have ih := KC_fst f n (by omega)
  have e : 2 ^ (15 - n) = 2 * 2 ^ (15 - (n + 1)) := by rw [show 15 - n = (15 - (n + 1)) + 1 by omega, Nat.pow_succ, Nat.mul_comm]
  rw [KC, ← ih, fstF, e, Nat.mul_assoc, Nat.add_mul]
theorem KC_mono (f : Nat → Nat) : ∀ d n, KC f n ≤ KC f (n + d)
 | 0, n => Nat.le_refl _
 | d + 1, n => by
  have := KC_mono f d n
  show _ ≤ KC f (n + d + 1)
  rw [KC]
  omega
theorem fst_room (l : List Int) (n : Nat) (hn : n ≤ 15) (hk : KC (cn l) 16 ≤ 32768) : fst' l n + cn l n ≤ 2 ^ n := by
 have h1 := KC_fst (cn l) n hn
 have h2 := KC_mono (cn l) (15 - n) (n + 1)
 rw [show n + 1 + (15 - n) = 16 by omega, KC, ← h1, ← Nat.add_mul] at h2
 have h3 : 2 ^ n * 2 ^ (15 - n) = 32768 := by rw [← Nat.pow_add, show n + (15 - n) = 15 by omega]
 have h4 : (fstF (cn l) n + cn l n) * 2 ^ (15 - n) ≤ 2 ^ n * 2 ^ (15 - n) := by omega
 exact Nat.le_of_mul_le_mul_right h4 (Nat.two_pow_pos _)
def cbits (l : List Int) (s : Nat) : List Bool := (bitsL (codeC l s).1 (codeC l s).2.toNat).reverse
theorem codeC_fits {l : List Int} {s : Nat} (hg : good l) (hk : KC (cn l) 16 ≤ 32768) (hs : s < l.length) : codeC l s = (0, 0) ∨ ∃ n : Nat, codeC l s = (codeOf l s, (n : Int)) ∧ l.getD s 0 = (n : Int) ∧ 1 ≤ n ∧ n ≤ 15 ∧ codeOf l s < 2 ^ n := by
 unfold codeC
 split
 ·
  exact .inl rfl
 ·
  rename_i h
  have hx : l.getD s 0 ∈ l := by rw [List.getD_eq_getElem?_getD, List.getElem?_eq_getElem hs]; exact List.getElem_mem hs
  obtain ⟨h1, h2⟩ := hg.2 _ hx
  obtain ⟨n, hn⟩ : ∃ n : Nat, l.getD s 0 = (n : Int) := ⟨(l.getD s 0).toNat, by omega⟩
  have h3 := rank_lt_cn l s n hs (by omega) hn
  have h4 := fst_room l n (by omega) hk
  refine .inr ⟨n, by rw [hn], hn, by omega, by omega, ?_⟩
  unfold codeOf
  rw [hn, Int.toNat_natCast]
  omega
theorem cbits_nil {l : List Int} {s : Nat} (h : codeC l s = (0, 0)) : cbits l s = [] := by unfold cbits; rw [h]; rfl
theorem cbits_len {l : List Int} {s : Nat} (hg : good l) (hk : KC (cn l) 16 ≤ 32768) (hs : s < l.length) : (cbits l s).length ≤ 15 := by
 unfold cbits
 rw [List.length_reverse, bitsL_len]
 rcases codeC_fits hg hk hs with h | ⟨n, h, _, _, h2, _⟩
 ·
  rw [h]; simp
 ·
  rw [h]; simp; omega
def symU (T : List (Nat × Nat)) (n : Nat) : Nat → Nat
 | 0 => 0
 | k + 1 => if (T.getD k (0, 0)).1 ≤ n then k else symU T n k
theorem symU_eq {T : List (Nat × Nat)} {n i : Nat} (h1 : (T.getD i (0, 0)).1 ≤ n) : ∀ k, i < k → (∀ j, i < j → j < k → n < (T.getD j (0, 0)).1) → symU T n k = i
 | 0, h, _ => by omega
 | k + 1, h, h2 => by
  unfold symU
  by_cases hk : i = k
  ·
   subst hk
   rw [if_pos h1]
  ·
   rw [if_neg (by have := h2 k (by omega) (by omega); omega)]
   exact symU_eq h1 k (by omega) (fun j hj1 hj2 => h2 j hj1 (by omega))
def lenS (n : Nat) : Nat := symU longT n 29
def wayS (n : Nat) : Nat := symU wayT n 30
def lenB (l : List Int) (n : Nat) : List Bool := cbits l (257 + lenS n) ++ bitsL (n - (longT.getD (lenS n) (0, 0)).1) (longT.getD (lenS n) (0, 0)).2
def wayB (l : List Int) (n : Nat) : List Bool := cbits l (wayS n) ++ bitsL (n - (wayT.getD (wayS n) (0, 0)).1) (wayT.getD (wayS n) (0, 0)).2
def tokB (a b : List Int) (t : Tk) : List Bool := if t.2.1 = 0 then cbits a t.1 else lenB a t.2.1 ++ wayB b t.2.2
def toksB (a b : List Int) (l : List Tk) : List Bool := l.flatMap (tokB a b) ++ cbits a 256
def TkOk (t : Tk) : Prop := (t.2.1 = 0 ∧ t.2.2 = 0 ∧ t.1 < 256) ∨ (t.1 = 0 ∧ 3 ≤ t.2.1 ∧ t.2.1 ≤ 258 ∧ 1 ≤ t.2.2 ∧ t.2.2 ≤ 32768)
theorem symU_spec {T : List (Nat × Nat)} {n : Nat} (h0 : (T.getD 0 (0, 0)).1 ≤ n) : ∀ k, 0 < k → symU T n k < k ∧ (T.getD (symU T n k) (0, 0)).1 ≤ n ∧ ∀ j, symU T n k < j → j < k → n < (T.getD j (0, 0)).1
 | 0, h => by omega
 | 1, _ => by
  unfold symU
  rw [if_pos h0]
  exact ⟨by omega, h0, fun j h1 h2 => by omega⟩
 | k + 2, _ => by
  have ih := symU_spec h0 (k + 1) (by omega)
  rw [symU]
  split
  ·
   rename_i h
   exact ⟨by omega, h, fun j h1 h2 => by omega⟩
  ·
   rename_i h
   refine ⟨by omega, ih.2.1, fun j h1 h2 => ?_⟩
   by_cases hj : j = k + 1
   ·
    subst hj; omega
   ·
    exact ih.2.2 j h1 (by omega)
theorem lenS_facts {n : Nat} (h1 : 3 ≤ n) (h2 : n ≤ 258) : lenS n < 29 ∧ (longT.getD (lenS n) (0, 0)).1 ≤ n ∧ n - (longT.getD (lenS n) (0, 0)).1 < 2 ^ (longT.getD (lenS n) (0, 0)).2 ∧ (longT.getD (lenS n) (0, 0)).2 ≤ 5 := by
 have h : ∀ n, n < 259 → 3 ≤ n → lenS n < 29 ∧ (longT.getD (lenS n) (0, 0)).1 ≤ n ∧ n - (longT.getD (lenS n) (0, 0)).1 < 2 ^ (longT.getD (lenS n) (0, 0)).2 ∧ (longT.getD (lenS n) (0, 0)).2 ≤ 5 := by decide +kernel
 exact h n (by omega) h1
theorem wayT_next : ∀ i, i < 29 → (wayT.getD (i + 1) (0, 0)).1 = (wayT.getD i (0, 0)).1 + 2 ^ (wayT.getD i (0, 0)).2 := by decide +kernel
theorem wayT_small : ∀ i, i < 30 → (wayT.getD i (0, 0)).2 ≤ 13 := by decide +kernel
theorem wayS_facts {n : Nat} (h1 : 1 ≤ n) (h2 : n ≤ 32768) : wayS n < 30 ∧ (wayT.getD (wayS n) (0, 0)).1 ≤ n ∧ n - (wayT.getD (wayS n) (0, 0)).1 < 2 ^ (wayT.getD (wayS n) (0, 0)).2 ∧ (wayT.getD (wayS n) (0, 0)).2 ≤ 13 := by
 obtain ⟨h3, h4, h5⟩ := symU_spec (T := wayT) (n := n) h1 30 (by omega)
 refine ⟨h3, h4, ?_, wayT_small _ h3⟩
 show n - (wayT.getD (symU wayT n 30) (0, 0)).1 < 2 ^ (wayT.getD (symU wayT n 30) (0, 0)).2
 generalize symU wayT n 30 = s at h3 h4 h5
 by_cases h : s = 29
 ·
  subst h
  have e0 : (wayT.getD 29 (0, 0)).1 = 24577 := rfl
  have e1 : (wayT.getD 29 (0, 0)).2 = 13 := rfl
  rw [e0, e1]
  omega
 ·
  have := wayT_next s (by omega)
  have := h5 (s + 1) (by omega) (by omega)
  omega
def LOk (l : List Int) : Prop := good l ∧ KC (cn l) 16 ≤ 32768
theorem tokB_len {a b : List Int} (ha : LOk a) (hb : LOk b) (hna : 286 ≤ a.length) (hnb : 30 ≤ b.length) {t : Tk} (ht : TkOk t) : (tokB a b t).length ≤ 48 := by
 unfold tokB
 rcases ht with ⟨h1, h2, h3⟩ | ⟨h1, h2, h3, h4, h5⟩
 ·
  rw [if_pos h1]
  have := cbits_len ha.1 ha.2 (show t.1 < a.length by omega)
  omega
 ·
  rw [if_neg (by omega)]
  obtain ⟨h6, _, _, h7⟩ := lenS_facts h2 h3
  obtain ⟨h8, _, _, h9⟩ := wayS_facts h4 h5
  have h10 := cbits_len ha.1 ha.2 (show 257 + lenS t.2.1 < a.length by omega)
  have h11 := cbits_len hb.1 hb.2 (show wayS t.2.2 < b.length by omega)
  unfold lenB wayB
  simp only [List.length_append, bitsL_len]
  omega
theorem toks_flat {a b : List Int} (ha : LOk a) (hb : LOk b) (hna : 286 ≤ a.length) (hnb : 30 ≤ b.length) : ∀ L : List Tk, (∀ t ∈ L, TkOk t) → (L.flatMap (tokB a b)).length ≤ 48 * L.length
 | [], _ => by simp
 | t :: L, h => by
  have h1 := tokB_len ha hb hna hnb (h t (by simp))
  have h2 := toks_flat ha hb hna hnb L (fun x hx => h x (by simp [hx]))
  rw [List.flatMap_cons, List.length_append, List.length_cons]
  omega
end Go.Proofs.Ytnmieihcjjiccaa
namespace Go.Proofs.Ytnmieihcjjiccaa
open Go.RowKit
def cutN (l : List Nat) (least : Nat) : Nat → Nat
 | 0 => 0
 | n + 1 => if least < n + 1 ∧ l.getD n 0 = 0 then cutN l least n else n + 1
theorem cutN_le (l : List Nat) (least : Nat) : ∀ n, cutN l least n ≤ n
 | 0 => Nat.le_refl _
 | n + 1 => by
  unfold cutN
  split
  ·
   have := cutN_le l least n; omega
  ·
   exact Nat.le_refl _
theorem cutN_ge (l : List Nat) (least : Nat) : ∀ n, least ≤ n → least ≤ cutN l least n
 | 0, h => h
 | n + 1, h => by
  unfold cutN
  split
  ·
   rename_i h1; exact cutN_ge l least n (by omega)
  ·
   exact h
theorem cutN_stop {l : List Nat} {least n : Nat} (h : ¬ (least < n ∧ l.getD (n - 1) 0 = 0)) : cutN l least n = n := by
 cases n with
 | zero => rfl
 | succ n => rw [cutN, if_neg (by simpa using h)]
theorem cutN_go {l : List Nat} {least n : Nat} (h1 : least < n) (h2 : l.getD (n - 1) 0 = 0) : cutN l least n = cutN l least (n - 1) := by
 cases n with
 | zero => omega
 | succ n => rw [cutN, if_pos ⟨h1, by simpa using h2⟩]; rfl
def cutL (l : List Nat) (least : Nat) : List Nat := l.take (cutN l least l.length)
theorem cutL_len (l : List Nat) (least : Nat) : (cutL l least).length = cutN l least l.length := by
 unfold cutL
 rw [List.length_take, Nat.min_eq_left (cutN_le l least _)]
def runF (l : List Nat) (v : Nat) : Nat → Nat → Nat
 | 0, _ => 0
 | m + 1, n => if n < l.length ∧ l.getD n 0 = v then runF l v m (n + 1) + 1 else 0
def runN (l : List Nat) (a : Nat) : Nat := runF l (l.getD a 0) (l.length - a) a
theorem runF_le (l : List Nat) (v : Nat) : ∀ m n, runF l v m n ≤ m
 | 0, _ => Nat.le_refl _
 | m + 1, n => by
  unfold runF
  split
  ·
   have := runF_le l v m (n + 1); omega
  ·
   omega
theorem runF_stop {l : List Nat} {v m n : Nat} (h : ¬ (n < l.length ∧ l.getD n 0 = v)) : runF l v m n = 0 := by
 cases m with
 | zero => rfl
 | succ m => rw [runF, if_neg h]
theorem runF_go {l : List Nat} {v m n : Nat} (h1 : n < l.length) (h2 : l.getD n 0 = v) (hm : 0 < m) : runF l v m n = runF l v (m - 1) (n + 1) + 1 := by
 obtain ⟨k, rfl⟩ : ∃ k, m = k + 1 := ⟨m - 1, by omega⟩
 rw [runF, if_pos ⟨h1, h2⟩]
 rfl
theorem runN_pos {l : List Nat} {a : Nat} (h : a < l.length) : 1 ≤ runN l a := by
 unfold runN
 rw [runF_go h rfl (by omega)]
 omega
theorem runN_le {l : List Nat} {a : Nat} : runN l a ≤ l.length - a := runF_le l _ _ _
abbrev Sd := Nat × Nat × Nat
def sayAt (l : List Nat) (a : Nat) : Sd × Nat :=
 if l.getD a 0 = 0 ∧ 11 ≤ runN l a then ((18, 7, min (runN l a) 138 - 11), min (runN l a) 138)
 else if l.getD a 0 = 0 ∧ 3 ≤ runN l a then ((17, 3, min (runN l a) 10 - 3), min (runN l a) 10)
 else if 0 < a ∧ l.getD (a - 1) 0 = l.getD a 0 ∧ 3 ≤ runN l a then ((16, 2, min (runN l a) 6 - 3), min (runN l a) 6)
 else ((l.getD a 0, 0, 0), 1)
theorem sayAt_pos {l : List Nat} {a : Nat} : 1 ≤ (sayAt l a).2 := by
 unfold sayAt
 split
 ·
  dsimp only; omega
 ·
  split
  ·
   dsimp only; omega
  ·
   split
   ·
    dsimp only; omega
   ·
    exact Nat.le_refl _
def sayF (l : List Nat) : Nat → Nat → List Sd
 | 0, _ => []
 | m + 1, a => if l.length ≤ a then [] else (sayAt l a).1 :: sayF l m (a + (sayAt l a).2)
theorem sayF_end (l : List Nat) (m a : Nat) (h : l.length ≤ a) : sayF l m a = [] := by
 cases m with
 | zero => rfl
 | succ m => rw [sayF, if_pos h]
theorem sayF_more (l : List Nat) : ∀ m n a, l.length ≤ a + m → l.length ≤ a + n → sayF l m a = sayF l n a
 | 0, n, a, h1, _ => by rw [sayF_end l n a (by omega)]; rfl
 | m + 1, 0, a, h1, h2 => by rw [sayF_end l (m + 1) a (by omega)]; rfl
 | m + 1, n + 1, a, h1, h2 => by
  have hp := sayAt_pos (l := l) (a := a)
  unfold sayF
  split
  ·
   rfl
  ·
   rw [sayF_more l m n _ (by omega) (by omega)]
def sayM (l : List Nat) (a : Nat) : List Sd := sayF l (l.length - a) a
theorem sayM_end {l : List Nat} {a : Nat} (h : l.length ≤ a) : sayM l a = [] := sayF_end l _ a h
theorem sayM_step {l : List Nat} {a : Nat} (h : a < l.length) : sayM l a = (sayAt l a).1 :: sayM l (a + (sayAt l a).2) := by
 have hp := sayAt_pos (l := l) (a := a)
 unfold sayM
 rw [show l.length - a = (l.length - a - 1) + 1 by omega, sayF, if_neg (by omega), sayF_more l (l.length - a - 1) (l.length - (a + (sayAt l a).2)) _ (by omega) (by omega)]
theorem sayF_len (l : List Nat) : ∀ m a, (sayF l m a).length ≤ m
 | 0, a => Nat.le_refl _
 | m + 1, a => by
  unfold sayF
  split
  ·
   simp
  ·
   have := sayF_len l m (a + (sayAt l a).2); simp; omega
def ordL (l : List Nat) : List Nat := orderT.map fun s => l.getD s 0
end Go.Proofs.Ytnmieihcjjiccaa
namespace Go.Proofs.Ytnmieihcjjiccaa
open Go.RowKit
def lastU (l : List Nat) (least : Nat) : Nat → Nat
 | 0 => least
 | k + 1 => if l.getD k 0 ≠ 0 ∧ lastU l least k < k + 1 then k + 1 else lastU l least k
theorem lastU_ge (l : List Nat) (least : Nat) : ∀ k, least ≤ lastU l least k
 | 0 => Nat.le_refl _
 | k + 1 => by
  have := lastU_ge l least k
  unfold lastU
  split
  ·
   omega
  ·
   exact this
theorem lastU_bound (l : List Nat) (least : Nat) : ∀ k, lastU l least k ≤ max least k
 | 0 => by simp [lastU]
 | k + 1 => by
  have := lastU_bound l least k
  unfold lastU
  split <;> omega
theorem lastU_cut (l : List Nat) (least : Nat) : ∀ k, least ≤ k → lastU l least k = cutN l least k
 | 0, h => by
  have h0 : least = 0 := by omega
  subst h0
  rfl
 | k + 1, h => by
  have hb := lastU_bound l least k
  have hg := lastU_ge l least k
  unfold lastU cutN
  by_cases h1 : l.getD k 0 = 0
  ·
   rw [if_neg (fun hh => hh.1 h1)]
   by_cases h2 : least < k + 1
   ·
    rw [if_pos ⟨h2, h1⟩]
    exact lastU_cut l least k (by omega)
   ·
    rw [if_neg (fun hh => h2 hh.1)]
    omega
  ·
   by_cases h3 : least ≤ k
   ·
    rw [if_pos ⟨h1, by omega⟩, if_neg (show ¬ (least < k + 1 ∧ l.getD k 0 = 0) from fun hh => h1 hh.2)]
   ·
    rw [if_neg (show ¬ (l.getD k 0 ≠ 0 ∧ lastU l least k < k + 1) from fun hh => by have := hh.2; omega), if_neg (show ¬ (least < k + 1 ∧ l.getD k 0 = 0) from fun hh => h1 hh.2)]
    omega
set_option maxRecDepth 100000 in
theorem rlast_spec (A : Option Addr) (c least : Nat) (l : List Nat) (w : World) (hl : l.length ≤ 1000000) (hle : least ≤ 1000000) (hr : Rd w 1 A l.length (NI l)) :
  Calls Try.prog 41 #[.slice A l.length c, .int .i64 ((least : Nat) : Int)] w fun e w' => e = .returned (.int .i64 ((lastU l least l.length : Nat) : Int)) ∧ w = w' := by
 refine VC.calls (nt := 28) (res := #[.tmp 4]) Try.func41 rfl Try.ntmps41 Try.results41 rfl ?_
 refine jS (jR ?_)
 refine Ops.r (v := .int .i64 ((0 : Nat) : Int)) (Run.asg rfl) rfl ?_
 refine jO (jN (jv2 0 1 ?_))
 refine jS (jR (jM ?_))
 refine jA ?_
 refine jO (jN (jv2 0 5 ?_))
 refine jS (jS (jR ?_))
 refine Ops.r (v := .int .i64 ((0 : Nat) : Int)) (Run.asg rfl) rfl ?_
 refine jO (jN (jB ?_))
 refine VC.loop (σ := Nat) (fun s => [(0, .slice A l.length c), (5, .int .i64 ((lastU l least s : Nat) : Int)), (6, .int .i64 ((s : Nat) : Int))]) (fun s wr => s ≤ l.length ∧ w = wr) (fun s => l.length - s) 0 (js3 rfl rfl rfl) ⟨Nat.zero_le _, rfl⟩ ?_
 rintro i wr ⟨hi, rfl⟩
 refine jS (jS (jR (jM ?_)))
 refine jM ?_
 refine Ops.r (Run.lenS rfl Try.underlying38) rfl ?_
 refine Ops.r (Run.bin rfl rfl (Bin.lssN _ _)) rfl ?_
 refine jO (jN (jv4 0 5 6 11 ?_))
 refine VC.condD rfl (fun hc1 => ?_) (fun hc1 => ?_)
 ·
  obtain ⟨ad, rfl, hadlt, hadc⟩ := hr.2 (by omega)
  have hcell := hadc i _ (NI_get l i hc1)
  refine jQ (jN (jv3 0 5 6 ?_))
  refine jS (jB (jS ?_))
  refine VC.split1 [(0, _), (5, _), (6, _)] (js3 rfl rfl rfl) 24 (.bool (decide (l.getD i 0 ≠ 0 ∧ lastU l least i < i + 1))) ?_ ?_
  ·
   refine jR ?_
   refine jM ?_
   refine jM ?_
   refine Ops.r (Run.index1 _ rfl rfl Try.underlying38 Try.sizeOf3 (by omega)) rfl ?_
   refine Ops.r (Run.load rfl Try.isAgg3 hcell) rfl ?_
   refine Ops.r (Run.bin rfl rfl (Bin.neqN _ 0)) rfl ?_
   by_cases hs18 : l.getD i 0 ≠ 0
   ·
    refine jM ?_
    refine jG ?_
    refine Ops.rg rfl au (Run.bin rfl rfl (Bin.add_i64 _ 1 (by omega))) rfl ?_
    refine jG ?_
    refine Ops.rg rfl au (Run.bin rfl rfl (Bin.gtrN _ _)) rfl ?_
    by_cases hs23 : lastU l least i < i + 1
    ·
     refine Ops.r (Run.pickT rfl rfl au) rfl ?_
     refine jO ?_
     refine jN ⟨(js4 (jC (by first | exact decide_eq_decide.2 ⟨fun h => ⟨by assumption, h⟩, fun h => h.2⟩ | exact (decide_eq_false (fun h => absurd h.1 (by assumption))).symm)) rfl rfl rfl), rfl⟩
    ·
     refine Ops.r (Run.pickT rfl rfl au) rfl ?_
     refine jO ?_
     refine jN ⟨(js4 (jC (by first | exact decide_eq_decide.2 ⟨fun h => ⟨by assumption, h⟩, fun h => h.2⟩ | exact (decide_eq_false (fun h => absurd h.1 (by assumption))).symm)) rfl rfl rfl), rfl⟩
   ·
    refine jM ?_
    refine jU ?_
    refine jU ?_
    refine jU ?_
    refine jU ?_
    refine Ops.r (Run.pickF rfl rfl au) rfl ?_
    refine jO ?_
    refine jN ⟨(js4 (jC (by first | exact decide_eq_decide.2 ⟨fun h => ⟨by assumption, h⟩, fun h => h.2⟩ | exact (decide_eq_false (fun h => absurd h.1 (by assumption))).symm)) rfl rfl rfl), rfl⟩
  ·
   intro Γ hΓ
   refine jN (VC.sub _ hΓ ?_)
   refine VC.condD rfl (fun hc2 => ?_) (fun hc2 => ?_)
   ·
    refine jR (jM ?_)
    refine Ops.r (Run.bin rfl rfl (Bin.add_i64 _ 1 (by omega))) rfl ?_
    refine jA ?_
    refine jO ?_
    refine blockQ_n (jN ?_)
    refine jv3 0 5 6 ?_
    refine jR (jM ?_)
    refine Ops.r (Run.bin rfl rfl (Bin.add_i64 _ 1 (by omega))) rfl ?_
    refine jA ?_
    refine jO ?_
    refine jN ⟨i + 1, (js3 rfl (by rw [lastU, if_pos hc2]; rfl) rfl), ?_, ?_⟩
    ·
     exact ⟨hc1, rfl⟩
    ·
     first | omega | (dsimp only; omega)
   ·
    refine jQ ?_
    refine blockQ_n (jN ?_)
    refine jv3 0 5 6 ?_
    refine jR (jM ?_)
    refine Ops.r (Run.bin rfl rfl (Bin.add_i64 _ 1 (by omega))) rfl ?_
    refine jA ?_
    refine jO ?_
    refine jN ⟨i + 1, (js3 rfl (by rw [lastU, if_neg hc2]; rfl) rfl), ?_, ?_⟩
    ·
     exact ⟨hc1, rfl⟩
    ·
     first | omega | (dsimp only; omega)
 ·
  refine jX ?_
  refine thenQ_x (thenQ_x (blockQ_x ?_))
  refine jN (jv1 5 ?_)
  refine jS (jR (jM ?_))
  refine jA ?_
  refine jO (jN (jv1 4 ?_))
  refine jT ?_
  refine end1 rfl ?_
  have e : i = l.length := by omega
  rw [e]
  exact ⟨rfl, rfl⟩
def symV (l : List Nat) (n : Nat) : Nat → Nat
 | 0 => 0
 | k + 1 => if l.getD k 0 ≤ n then k else symV l n k
theorem symV_map (T : List (Nat × Nat)) (n : Nat) : ∀ k, k ≤ T.length → symV (T.map (·.1)) n k = symU T n k
 | 0, _ => rfl
 | k + 1, h => by
  have e : (T.map (·.1)).getD k 0 = (T.getD k (0, 0)).1 := by
   simp [List.getD_eq_getElem?_getD, List.getElem?_eq_getElem (show k < T.length by omega)]
  rw [symV, symU, e, symV_map T n k (by omega)]
set_option maxRecDepth 100000 in
theorem rsymb_spec (A : Option Addr) (c n : Nat) (l : List Nat) (w : World) (hl : l.length ≤ 1000000) (hr : Rd w 1 A l.length (NI l)) :
  Calls Try.prog 37 #[.slice A l.length c, .int .i64 ((n : Nat) : Int)] w fun e w' => e = .returned (.int .i64 ((symV l n l.length : Nat) : Int)) ∧ w = w' := by
 refine VC.calls (nt := 21) (res := #[.tmp 4]) Try.func37 rfl Try.ntmps37 Try.results37 rfl ?_
 refine jS (jR ?_)
 refine Ops.r (v := .int .i64 ((0 : Nat) : Int)) (Run.asg rfl) rfl ?_
 refine jO (jN (jv2 0 1 ?_))
 refine jS (jR ?_)
 refine Ops.r (v := .int .i64 ((0 : Nat) : Int)) (Run.asg rfl) rfl ?_
 refine jO (jN (jS (jS (jR ?_))))
 refine Ops.r (v := .int .i64 ((0 : Nat) : Int)) (Run.asg rfl) rfl ?_
 refine jO (jN (jB ?_))
 refine VC.loop (σ := Nat) (fun s => [(0, .slice A l.length c), (1, .int .i64 ((n : Nat) : Int)), (5, .int .i64 ((symV l n s : Nat) : Int)), (6, .int .i64 ((s : Nat) : Int))]) (fun s wr => s ≤ l.length ∧ w = wr) (fun s => l.length - s) 0 (js4 rfl rfl rfl rfl) ⟨Nat.zero_le _, rfl⟩ ?_
 rintro i wr ⟨hi, rfl⟩
 refine jS (jS (jR (jM ?_)))
 refine jM ?_
 refine Ops.r (Run.lenS rfl Try.underlying38) rfl ?_
 refine Ops.r (Run.bin rfl rfl (Bin.lssN _ _)) rfl ?_
 refine jO (jN (jv5 0 1 5 6 10 ?_))
 refine VC.condD rfl (fun hc1 => ?_) (fun hc1 => ?_)
 ·
  obtain ⟨ad, rfl, hadlt, hadc⟩ := hr.2 (by omega)
  have hcell := hadc i _ (NI_get l i hc1)
  refine jQ (jN (jv4 0 1 5 6 ?_))
  refine jS (jB (jS (jR (jM ?_))))
  refine jM ?_
  refine Ops.r (Run.index1 _ rfl rfl Try.underlying38 Try.sizeOf3 (by omega)) rfl ?_
  refine Ops.r (Run.load rfl Try.isAgg3 hcell) rfl ?_
  refine jM ?_
  refine Ops.r (Run.bin rfl rfl (Bin.leqN _ _)) rfl ?_
  refine jO (jN (jv5 0 1 5 6 18 ?_))
  refine VC.condD rfl (fun hc2 => ?_) (fun hc2 => ?_)
  ·
   refine jR (jM ?_)
   refine jA ?_
   refine jO ?_
   refine blockQ_n (jN ?_)
   refine jv4 0 1 5 6 ?_
   refine jR (jM ?_)
   refine Ops.r (Run.bin rfl rfl (Bin.add_i64 _ 1 (by omega))) rfl ?_
   refine jA ?_
   refine jO ?_
   refine jN ⟨i + 1, (js4 rfl rfl (by rw [symV, if_pos hc2]; rfl) rfl), ?_, ?_⟩
   ·
    exact ⟨hc1, rfl⟩
   ·
    first | omega | (dsimp only; omega)
  ·
   refine jQ ?_
   refine blockQ_n (jN ?_)
   refine jv4 0 1 5 6 ?_
   refine jR (jM ?_)
   refine Ops.r (Run.bin rfl rfl (Bin.add_i64 _ 1 (by omega))) rfl ?_
   refine jA ?_
   refine jO ?_
   refine jN ⟨i + 1, (js4 rfl rfl (by rw [symV, if_neg hc2]; rfl) rfl), ?_, ?_⟩
   ·
    exact ⟨hc1, rfl⟩
   ·
    first | omega | (dsimp only; omega)
 ·
  refine jX ?_
  refine thenQ_x (thenQ_x (blockQ_x ?_))
  refine jN (jv1 5 ?_)
  refine jS (jR (jM ?_))
  refine jA ?_
  refine jO (jN (jv1 4 ?_))
  refine jT ?_
  refine end1 rfl ?_
  have e : i = l.length := by omega
  rw [e]
  exact ⟨rfl, rfl⟩
def IsU (w : World) (g : Nat) (A : Option Addr) (l : List Bool) : Prop := ∃ c, Blk w g 67 #[.slice A l.length c] ∧ Own w 4 1 A l.length c (BL l)
theorem IsU.frm {w w' : World} {g : Nat} {A : Option Addr} {l : List Bool} {S : List Nat} (h : IsU w g A l) (k : Frm S w w') (hS : ∀ x ∈ g :: ob A, x ∉ S) : IsU w' g A l := by
 obtain ⟨c, h1, h2⟩ := h
 exact ⟨c, h1.frm k (hS g (by simp)), h2.frm k (fun x hx => hS x (by simp [hx]))⟩
def UR (w w' : World) (g : Nat) (A : Option Addr) (l : List Bool) : Prop := ∃ A', IsU w' g A' l ∧ Frm (g :: ob A) w w' ∧ ∀ x ∈ ob A', x ∈ ob A ∨ w.heap.size ≤ x
set_option maxRecDepth 100000 in
theorem oput_spec (g v n : Nat) (A : Option Addr) (l : List Bool) (w : World) (hv : v ≤ 1000000000) (hn : n ≤ 1000) (hl : l.length ≤ 1000000000) (hU : IsU w g A l) :
  Calls Try.prog 32 #[.pointer (some ⟨g, 0, none⟩), .int .i64 ((v : Nat) : Int), .int .i64 ((n : Nat) : Int)] w fun e w' => e = .returned (.tuple #[]) ∧ UR w w' g A (l ++ bitsL v n) := by
 obtain ⟨c, hb, ho⟩ := hU
 refine VC.calls (nt := 18) (res := #[]) Try.func32 rfl Try.ntmps32 Try.results32 rfl ?_
 refine VC.heldL 12 (fun v => Blk v g 67 #[.slice A l.length c]) jK ?_
 have hS : (fun v => Blk v g 67 #[.slice A l.length c]) w.drew := hb.drawn (Drawn.drew _)
 have ho := ho.drawn (Drawn.drew w)
 refine jH 0 rfl hS (fun w0 hw0 => Run.mv rfl) ?_
 refine jH 1 rfl hS (fun w0 hw0 => Run.mv rfl) ?_
 refine jH 2 rfl hS (fun w0 hw0 => Run.nilck rfl) ?_
 refine jH 3 rfl hS (fun w0 hw0 => Run.fieldAddr rfl Try.underlying67 rfl Try.sizeOf65 (by decide)) ?_
 refine jH 4 rfl hS (fun w0 hw0 => Run.load rfl Try.isAgg65 (hw0.cell 0)) ?_
 refine jH 5 rfl hS (fun w0 hw0 => Run.mv rfl) ?_
 refine jH 6 rfl hS (fun w0 hw0 => Run.convN _ rfl Try.underlying3 Try.underlying37 (by simp only [bmax]; omega)) ?_
 refine HOps.r1 7 rfl jK hS (Run.mv rfl) trivial rfl rfl ?_
 refine HOps.cl 8 rfl jK (Enters.fn (evs.cons rfl (evs.cons rfl evs.nil)) Try.call63) (refBits_spec v n _ (by omega) hn) trivial rfl rfl ?_
 rintro e w1 ⟨B, d, rfl, hB, hf1, hu1⟩
 have hS := hS.frm hf1 (by simp)
 have ho := ho.frm hf1 (by simp)
 refine ⟨_, rfl, hS, ?_⟩
 refine HOps.m 9 rfl jK (Does.app rfl rfl Try.underlying65 (info4) rfl (by decide) ho hB.rd (BL_one _) (by omega) (by omega)) trivial rfl rfl ?_
 rintro _ w2 ⟨A2, c2, rfl, ho2, hf2, hob2⟩
 have hgA := ho.ne_blk hS (by decide)
 have hS := hS.frm hf2 hgA
 refine ⟨hS, ?_⟩
 refine HOps.r1 10 rfl jK hS (Run.nilck rfl) trivial rfl rfl ?_
 refine HOps.r1 11 rfl jK hS (Run.fieldAddr rfl Try.underlying67 rfl Try.sizeOf65 (by decide)) trivial rfl rfl ?_
 refine HOps.stL rfl jK (Acts.store rfl rfl Try.sizeOf65 hS rfl rfl) trivial rfl ?_
 rintro w3 ⟨hb3, hf3, hs3⟩
 refine HOps.done jK ?_
 refine end0n ?_
 have h2 := ho2.ne_blk hS (by decide)
 rw [← BL_append] at ho2
 have hlen : (l ++ bitsL v n).length = l.length + n := by rw [List.length_append, bitsL_len]
 have K : Frm (g :: ob A) w w3 := ((((Drawn.drew w).frm.trans hf1 (by simp)).mono (T := g :: ob A) (by simp)).trans hf2 (fun x hx => .inl (by simp [hx]))).trans hf3 (fun x hx => .inl (by simp at hx; simp [hx]))
 refine ⟨rfl, A2, ⟨c2, by rw [hlen]; exact hb3, by rw [hlen]; exact ho2.frm hf3 (fun x hx hx2 => by rw [List.mem_singleton] at hx2; subst hx2; exact h2 hx)⟩, K, fun x hx => ?_⟩
 rcases hob2 with h | h
 ·
  rw [h] at hx; exact .inl hx
 ·
  rw [h, List.mem_singleton] at hx
  have := hf1.size
  have e : w.drew.heap.size = w.heap.size := rfl
  exact .inr (by omega)
theorem codeC_num {l : List Int} {s : Nat} (hg : good l) (hk : KC (cn l) 16 ≤ 32768) (hs : s < l.length) : ∃ v n : Nat, codeC l s = (v, (n : Int)) ∧ n ≤ 15 ∧ v ≤ 32768 := by
 rcases codeC_fits hg hk hs with h | ⟨n, h1, _, _, h2, h3⟩
 ·
  exact ⟨0, 0, h, by omega, by omega⟩
 ·
  have : 2 ^ n ≤ 2 ^ 15 := Nat.pow_le_pow_right (by omega) h2
  exact ⟨_, n, h1, h2, by omega⟩
theorem refBits2 (v n : Nat) (w : World) (hv : v ≤ 18446744073709551615) (hn : n ≤ 1000) :
  Calls Try.prog 63 #[.int .u64 v, .int .i64 n] w fun e w' => ∃ A c, e = .returned (.slice A (bitsL v n).length c) ∧ Own w' 4 1 A (bitsL v n).length c (BL (bitsL v n)) ∧ Frm [] w w' := by
 refine (refBits_spec v n w hv hn).mono ?_
 rintro e w' ⟨A, c, h1, h2, h3, _⟩
 rw [bitsL_len]
 exact ⟨A, c, h1, h2, h3⟩
theorem flat2r : ∀ (L : List (Nat × Int)) (s : Nat) (h : s < L.length), ((L.flatMap CB).drop (s * 2)).take 2 = CB L[s]
 | a :: L, 0, _ => rfl
 | a :: L, s + 1, h => by
  have := flat2r L s (by simpa using h)
  rw [show (a :: L).flatMap CB = CB a ++ L.flatMap CB from rfl, show (s + 1) * 2 = (CB a).length + s * 2 by rw [CB_len]; omega, List.drop_length_add_append]
  exact this
set_option maxRecDepth 100000 in
theorem ocode_spec (g s c1 : Nat) (A B : Option Addr) (l : List Bool) (ls : List Int) (w : World) (hg : good ls) (hk : KC (cn ls) 16 ≤ 32768) (hs : s < ls.length) (hl : l.length ≤ 1000000000) (hU : IsU w g A l) (hc : Own w 116 2 B ls.length c1 ((codesL ls).flatMap CB)) :
  Calls Try.prog 44 #[.pointer (some ⟨g, 0, none⟩), .slice B ls.length c1, .int .i64 ((s : Nat) : Int)] w fun e w' => e = .returned (.tuple #[]) ∧ UR w w' g A (l ++ cbits ls s) := by
 obtain ⟨c, hb, ho⟩ := hU
 have hl320 := hg.1
 obtain ⟨v, n, hvn, hn, hv⟩ := codeC_num hg hk hs
 obtain ⟨ad, rfl, hel⟩ := hc.rd.elem hs
 rw [flat2r _ s (by simpa [codesL] using hs), show (codesL ls)[s]'(by simpa [codesL] using hs) = codeC ls s by simp [codesL], hvn] at hel
 have hcb : cbits ls s = (bitsL v n).reverse := by unfold cbits; rw [hvn]; rfl
 refine VC.calls (nt := 26) (res := #[]) Try.func44 rfl Try.ntmps44 Try.results44 rfl ?_
 refine VC.heldL 20 (fun V => Blk V g 67 #[.slice A l.length c] ∧ V.cell? (ad.add (s * 2)) = some (.int .u64 ((v : Nat) : Int)) ∧ V.cell? ((ad.add (s * 2)).add 1) = some (.int .i64 ((n : Nat) : Int))) jK ?_
 have hS : (fun V => Blk V g 67 #[.slice A l.length c] ∧ V.cell? (ad.add (s * 2)) = some (.int .u64 ((v : Nat) : Int)) ∧ V.cell? ((ad.add (s * 2)).add 1) = some (.int .i64 ((n : Nat) : Int))) w.drew := ⟨hb.drawn (Drawn.drew _), by have := hel 0 _ rfl; rwa [add_zero'] at this, hel 1 _ rfl⟩
 have ho := ho.drawn (Drawn.drew w)
 refine jH 0 rfl hS (fun w0 hw0 => Run.mv rfl) ?_
 refine jH 1 rfl hS (fun w0 hw0 => Run.mv rfl) ?_
 refine jH 2 rfl hS (fun w0 hw0 => Run.nilck rfl) ?_
 refine jH 3 rfl hS (fun w0 hw0 => Run.fieldAddr rfl Try.underlying67 rfl Try.sizeOf65 (by decide)) ?_
 refine jH 4 rfl hS (fun w0 hw0 => Run.load rfl Try.isAgg65 (hw0.1.cell 0)) ?_
 refine jH 5 rfl hS (fun w0 hw0 => Run.mv rfl) ?_
 refine jH 6 rfl hS (fun w0 hw0 => Run.mv rfl) ?_
 refine jH 7 rfl hS (fun w0 hw0 => Run.indexS _ rfl rfl Try.underlying60 Try.sizeOf116 (by omega)) ?_
 refine jH 8 rfl hS (fun w0 hw0 => Run.fieldAddr rfl Try.underlying116 rfl Try.sizeOf37 (by decide)) ?_
 refine jH 9 rfl hS (fun w0 hw0 => Run.load rfl Try.isAgg37 hw0.2.1) ?_
 refine jH 10 rfl hS (fun w0 hw0 => Run.mv rfl) ?_
 refine HOps.r1 11 rfl jK hS (Run.mv rfl) trivial rfl rfl ?_
 refine HOps.r1 12 rfl jK hS (Run.indexS _ rfl rfl Try.underlying60 Try.sizeOf116 (by omega)) trivial rfl rfl ?_
 refine HOps.r1 13 rfl jK hS (Run.fieldAddr rfl Try.underlying116 rfl Try.sizeOf3 (by decide)) trivial rfl rfl ?_
 refine HOps.r1 14 rfl jK hS (Run.load rfl Try.isAgg3 hS.2.2) trivial rfl rfl ?_
 refine HOps.cl 15 rfl jK (Enters.fn (evs.cons rfl (evs.cons rfl evs.nil)) Try.call63) (refBits2 v n _ (by omega) (by omega)) trivial rfl rfl ?_
 rintro e w1 ⟨B1, d1, rfl, hB, hf1⟩
 have hbl := bitsL_len v n
 generalize bitsL v n = bv at hB hcb hbl ⊢
 have hS := And.intro (hS.1.frm hf1 (by simp)) (And.intro (hf1.cell hS.2.1 (by simp)) (hf1.cell hS.2.2 (by simp)))
 have ho := ho.frm hf1 (by simp)
 refine ⟨_, rfl, hS, ?_⟩
 refine HOps.cl 16 rfl jK (Enters.fn (evs.cons rfl evs.nil) Try.call73) (back_spec B1 d1 bv _ (by omega) hB.rd) trivial rfl rfl ?_
 rintro e w2 ⟨B2, d2, rfl, hB2, hf2, hu2⟩
 have hS := And.intro (hS.1.frm hf2 (by simp)) (And.intro (hf2.cell hS.2.1 (by simp)) (hf2.cell hS.2.2 (by simp)))
 have ho := ho.frm hf2 (by simp)
 refine ⟨_, rfl, hS, ?_⟩
 refine HOps.m 17 rfl jK (Does.app rfl rfl Try.underlying65 (info4) rfl (by decide) ho hB2.rd (BL_one _) (by omega) (by omega)) trivial rfl rfl ?_
 rintro _ w3 ⟨A2, c2, rfl, ho2, hf3, hob2⟩
 have hgA := ho.ne_blk hS.1 (by decide)
 have hcB := ho.ne_own ((((hc.frm (Drawn.drew w).frm (by simp)).frm hf1 (by simp)).frm hf2 (by simp))) (by decide)
 have hcw := (((hc.frm (Drawn.drew w).frm (by simp)).frm hf1 (by simp)).frm hf2 (by simp)).frm hf3 (fun x hx hx2 => hcB x hx2 hx)
 obtain ⟨ad2, had2, hcel⟩ := hcw.rd.elem hs
 cases had2
 rw [flat2r _ s (by simpa [codesL] using hs), show (codesL ls)[s]'(by simpa [codesL] using hs) = codeC ls s by simp [codesL], hvn] at hcel
 have hS := And.intro (hS.1.frm hf3 hgA) (And.intro (by have := hcel 0 _ rfl; rwa [add_zero'] at this) (hcel 1 _ rfl))
 refine ⟨hS, ?_⟩
 refine HOps.r1 18 rfl jK hS (Run.nilck rfl) trivial rfl rfl ?_
 refine HOps.r1 19 rfl jK hS (Run.fieldAddr rfl Try.underlying67 rfl Try.sizeOf65 (by decide)) trivial rfl rfl ?_
 refine HOps.stL rfl jK (Acts.store rfl rfl Try.sizeOf65 hS.1 rfl rfl) trivial rfl ?_
 rintro w4 ⟨hb4, hf4, hs4⟩
 refine HOps.done jK ?_
 refine end0n ?_
 have h2 := ho2.ne_blk hS.1 (by decide)
 rw [← BL_append, ← hcb] at ho2
 have hlen : (l ++ cbits ls s).length = l.length + bv.length := by rw [List.length_append, hcb, List.length_reverse]
 have K : Frm (g :: ob A) w w4 := (((((Drawn.drew w).frm.trans hf1 (by simp)).trans hf2 (by simp)).mono (T := g :: ob A) (by simp)).trans hf3 (fun x hx => .inl (by simp [hx]))).trans hf4 (fun x hx => .inl (by simp at hx; simp [hx]))
 refine ⟨rfl, A2, ⟨c2, by rw [hlen]; exact hb4, by rw [hlen]; exact ho2.frm hf4 (fun x hx hx2 => by rw [List.mem_singleton] at hx2; subst hx2; exact h2 hx)⟩, K, fun x hx => ?_⟩
 rcases hob2 with h | h
 ·
  rw [h] at hx; exact .inl hx
 ·
  rw [h, List.mem_singleton] at hx
  have := hf1.size
  have := hf2.size
  have e : w.drew.heap.size = w.heap.size := rfl
  exact .inr (by omega)
end Go.Proofs.Ytnmieihcjjiccaa
namespace Go.Proofs.Ytnmieihcjjiccaa
open Go.RowKit
theorem code_eq (a b : Nat × Int) (w : World) : (Op.eqFields 9999 (CB a).toArray (CB b).toArray (Try.prog.fieldsOf 116).toList).run Try.prog w = .ok (decide (a = b)) w := by
 obtain ⟨f0, f1, hf, ⟨n0, t0, o0⟩, n1, t1, o1⟩ := fields116
 rw [hf]
 have h := eqF_int (P := Try.prog) (w := w) (d := 9998) (xs := (CB a).toArray) (ys := (CB b).toArray) (f := f0) (fs := [f1]) (k := .u64) (k' := .u64) (a := a.1) (b := b.1) (by rw [n0]; decide) (by rw [t0]; exact Try.isAgg37) (by rw [t0]; exact Try.underlying37) (by rw [o0]; rfl) (by rw [o0]; rfl)
  (eqF_int (k := .i64) (k' := .i64) (a := a.2) (b := b.2) (by rw [n1]; decide) (by rw [t1]; exact Try.isAgg3) (by rw [t1]; exact Try.underlying3) (by rw [o1]; rfl) (by rw [o1]; rfl) eqF_nil)
 have e : decide (a = b) = (decide ((a.1 : Int) = (b.1 : Int)) && (decide (a.2 = b.2) && true)) := by
  obtain ⟨a1, a2⟩ := a
  obtain ⟨b1, b2⟩ := b
  rw [Bool.eq_iff_iff]
  simp
  intro _
  omega
 rw [e]
 exact h
end Go.Proofs.Ytnmieihcjjiccaa
namespace Go.Proofs.Ytnmieihcjjiccaa
open Go.RowKit
def WR (w w' : World) (g : Nat) (A : Option Addr) (l : List Bool) : Prop := ∃ A', IsW w' g A' l ∧ Frm (g :: ob A) w w' ∧ ∀ x ∈ ob A', x ∈ ob A ∨ w.heap.size ≤ x
theorem WR.refl {w : World} {g : Nat} {A : Option Addr} {l : List Bool} (h : IsW w g A l) : WR w w g A l := ⟨A, h, Frm.refl _ _, fun _ hx => .inl hx⟩
theorem flat2 : ∀ (L : List (Nat × Int)) (s : Nat) (h : s < L.length), ((L.flatMap CB).drop (s * 2)).take 2 = CB L[s]
 | a :: L, 0, _ => rfl
 | a :: L, s + 1, h => by
  have := flat2 L s (by simpa using h)
  rw [show (a :: L).flatMap CB = CB a ++ L.flatMap CB from rfl, show (s + 1) * 2 = (CB a).length + s * 2 by rw [CB_len]; omega, List.drop_length_add_append]
  exact this
theorem codesL_cut (l : List Int) (s : Nat) (hs : s < l.length) : (((codesL l).flatMap CB).drop (s * 2)).take 2 = CB (codeC l s) := by
 rw [flat2 _ s (by simpa [codesL] using hs)]
 simp [codesL]
set_option maxRecDepth 100000 in
theorem cput_zero (g s c : Nat) (A B : Option Addr) (l : List Bool) (ls : List Int) (w : World) (hl3 : ls.length ≤ 320) (hs : s < ls.length) (hl : l.length ≤ 1000000000) (hW : IsW w g A l) (hr : Rd w 2 B ls.length ((codesL ls).flatMap CB)) (h0 : codeC ls s = (0, 0)) :
  Calls Try.prog 52 #[.pointer (some ⟨g, 0, none⟩), .slice B ls.length c, .int .i64 ((s : Nat) : Int)] w fun e w' => (∃ k : Int, e = .returned (.int .i64 k)) ∧ WR w w' g A (l ++ cbits ls s) := by
 obtain ⟨ad, rfl, hel⟩ := hr.elem hs
 rw [codesL_cut ls s hs, h0] at hel
 refine VC.calls (nt := 39) (res := #[.tmp 6]) Try.func52 rfl Try.ntmps52 Try.results52 rfl ?_
 refine jS (jR ?_)
 refine Ops.r (v := .int .i64 ((0 : Nat) : Int)) (Run.asg rfl) rfl ?_
 refine jO (jN (jv3 0 1 2 ?_))
 refine jS (jS (jR (jM ?_)))
 refine Ops.r (Run.bin rfl rfl (Bin.lssN _ 0)) rfl ?_
 refine jM ?_
 refine jG ?_
 refine jG ?_
 refine Ops.rg rfl au (Run.lenS rfl Try.underlying60) rfl ?_
 refine Ops.rg rfl au (Run.bin rfl rfl (Bin.geqN _ _)) rfl ?_
 refine Ops.r (Run.pickF rfl rfl au) rfl ?_
 refine jO (jN (jv4 0 1 2 15 ?_))
 refine VC.condF rfl (by first | rfl | (simp; omega)) ?_
 refine jQ (jN (jv3 0 1 2 ?_))
 refine jS (jR (jM ?_))
 refine jM ?_
 refine Ops.r (Run.indexS _ rfl rfl Try.underlying60 Try.sizeOf116 (by omega)) rfl ?_
 refine Ops.r (Run.loadA rfl Try.isAgg116 Try.sizeOf116 hel (by first | rfl | (simp; done))) rfl ?_
 refine Ops.m (Does.alloc zero116) rfl ?_
 rintro _ w1 ⟨rfl, hF1⟩
 have hg1 : g ≠ w.heap.size := by have := hW.lt g (by simp); omega
 have hW1 := hW.frm hF1.frm (by simp)
 have hAl := fun x hx => hW.lt x hx
 refine Ops.st (Acts.storeA rfl rfl Try.sizeOf116 hF1.blk rfl (CB_one _)) ?_
 rintro w2 ⟨hb2, hf12, hs12⟩
 have hW2 := hW1.frm hf12 (fun x hx => by have := hAl x hx; simp; omega)
 have hf2 : Frm [] w w2 := hF1.frm.own hf12 (by simp)
 have hb2 : Blk w2 w.heap.size 116 (CB (0, 0)).toArray := hb2
 refine jO (jN (jv2 0 7 ?_))
 refine jS (jB (jS (jR ?_)))
 refine Ops.r (Run.loadA rfl Try.isAgg116 Try.sizeOf116 (fun j v hj => hb2.cells j v (by simpa using hj)) (by first | rfl | (simp; done))) rfl ?_
 refine Ops.r (Run.build evs.nil zero116 (places116).choose_spec.1 (places116).choose_spec.2 rfl) rfl ?_
 refine Ops.r (Run.eqlAgg rfl rfl jK jK jK ((code_eq (0, 0) (0, 0) _))) rfl ?_
 refine jA ?_
 refine jO (jN (jv3 0 7 20 ?_))
 refine VC.condT rfl (rfl) ?_
 refine jS (jR ?_)
 refine Ops.r (v := .int .i64 ((11 : Nat) : Int)) (Run.asg rfl) rfl ?_
 refine jO (jN (jv1 6 ?_))
 refine jT ?_
 refine blockQ_r (thenQ_r (end1 rfl ?_))
 exact ⟨⟨_, rfl⟩, by rw [cbits_nil h0, List.append_nil]; exact ⟨A, hW2, hf2.mono (by simp), fun x hx => .inl hx⟩⟩
set_option maxRecDepth 100000 in
theorem cput_some (g s c : Nat) (A B : Option Addr) (l : List Bool) (ls : List Int) (w : World) (hl3 : ls.length ≤ 320) (hs : s < ls.length) (hl : l.length ≤ 1000000000) (hW : IsW w g A l) (hr : Rd w 2 B ls.length ((codesL ls).flatMap CB)) (n : Nat) (h0 : codeC ls s = (codeOf ls s, (n : Int))) (h1 : 1 ≤ n) (h2 : n ≤ 15) (h3 : codeOf ls s < 2 ^ n) :
  Calls Try.prog 52 #[.pointer (some ⟨g, 0, none⟩), .slice B ls.length c, .int .i64 ((s : Nat) : Int)] w fun e w' => (∃ k : Int, e = .returned (.int .i64 k)) ∧ WR w w' g A (l ++ cbits ls s) := by
 obtain ⟨ad, rfl, hel⟩ := hr.elem hs
 rw [codesL_cut ls s hs, h0] at hel
 have hpw : 2 ^ n ≤ 2 ^ 15 := Nat.pow_le_pow_right (by omega) h2
 have hne : ¬ ((codeOf ls s, (n : Int)) = ((0, 0) : Nat × Int)) := fun h => by have := (Prod.mk.inj h).2; omega
 refine VC.calls (nt := 39) (res := #[.tmp 6]) Try.func52 rfl Try.ntmps52 Try.results52 rfl ?_
 refine jS (jR ?_)
 refine Ops.r (v := .int .i64 ((0 : Nat) : Int)) (Run.asg rfl) rfl ?_
 refine jO (jN (jv3 0 1 2 ?_))
 refine jS (jS (jR (jM ?_)))
 refine Ops.r (Run.bin rfl rfl (Bin.lssN _ 0)) rfl ?_
 refine jM ?_
 refine jG ?_
 refine jG ?_
 refine Ops.rg rfl au (Run.lenS rfl Try.underlying60) rfl ?_
 refine Ops.rg rfl au (Run.bin rfl rfl (Bin.geqN _ _)) rfl ?_
 refine Ops.r (Run.pickF rfl rfl au) rfl ?_
 refine jO (jN (jv4 0 1 2 15 ?_))
 refine VC.condF rfl (by first | rfl | (simp; omega)) ?_
 refine jQ (jN (jv3 0 1 2 ?_))
 refine jS (jR (jM ?_))
 refine jM ?_
 refine Ops.r (Run.indexS _ rfl rfl Try.underlying60 Try.sizeOf116 (by omega)) rfl ?_
 refine Ops.r (Run.loadA rfl Try.isAgg116 Try.sizeOf116 hel (by first | rfl | (simp; done))) rfl ?_
 refine Ops.m (Does.alloc zero116) rfl ?_
 rintro _ w1 ⟨rfl, hF1⟩
 have hg1 : g ≠ w.heap.size := by have := hW.lt g (by simp); omega
 have hW1 := hW.frm hF1.frm (by simp)
 have hAl := fun x hx => hW.lt x hx
 refine Ops.st (Acts.storeA rfl rfl Try.sizeOf116 hF1.blk rfl (CB_one _)) ?_
 rintro w2 ⟨hb2, hf12, hs12⟩
 have hW2 := hW1.frm hf12 (fun x hx => by have := hAl x hx; simp; omega)
 have hf2 : Frm [] w w2 := hF1.frm.own hf12 (by simp)
 have hb2 : Blk w2 w.heap.size 116 (CB (codeOf ls s, (n : Int))).toArray := hb2
 refine jO (jN (jv2 0 7 ?_))
 refine jS (jB (jS (jR ?_)))
 refine Ops.r (Run.loadA rfl Try.isAgg116 Try.sizeOf116 (fun j v hj => hb2.cells j v (by simpa using hj)) (by first | rfl | (simp; done))) rfl ?_
 refine Ops.r (Run.build evs.nil zero116 (places116).choose_spec.1 (places116).choose_spec.2 rfl) rfl ?_
 refine Ops.r (Run.eqlAgg rfl rfl jK jK jK ((code_eq (codeOf ls s, (n : Int)) (0, 0) _))) rfl ?_
 refine jA ?_
 refine jO (jN (jv3 0 7 20 ?_))
 refine VC.condF rfl (decide_eq_false hne) ?_
 refine jS (jR ?_)
 refine Ops.r (Run.fieldAddr rfl Try.underlying116 rfl Try.sizeOf3 (by decide)) rfl ?_
 refine Ops.r (Run.load rfl Try.isAgg3 (hb2.cell 1)) rfl ?_
 refine Ops.r (Run.bin rfl rfl (Bin.lssN _ 1)) rfl ?_
 refine jM ?_
 refine Ops.rg rfl au (Run.fieldAddr rfl Try.underlying116 rfl Try.sizeOf3 (by decide)) rfl ?_
 refine Ops.rg rfl au (Run.load rfl Try.isAgg3 (hb2.cell 1)) rfl ?_
 refine Ops.rg rfl au (Run.bin rfl rfl (Bin.gtrN _ 15)) rfl ?_
 refine Ops.r (Run.pickF rfl rfl au) rfl ?_
 refine jA ?_
 refine jO (jN (jv3 0 7 24 ?_))
 refine VC.condF rfl (by first | rfl | (simp; omega)) ?_
 refine jQ ?_
 refine blockQ_n (jN ?_)
 refine jv2 0 7 ?_
 refine jS (jR (jM ?_))
 refine Ops.r (Run.fieldAddr rfl Try.underlying116 rfl Try.sizeOf37 (by decide)) rfl ?_
 refine Ops.r (Run.load rfl Try.isAgg37 (hb2.cell 0)) rfl ?_
 refine Ops.r (Run.fieldAddr rfl Try.underlying116 rfl Try.sizeOf3 (by decide)) rfl ?_
 refine Ops.r (Run.load rfl Try.isAgg3 (hb2.cell 1)) rfl ?_
 refine Ops.cl (Enters.fn (evs.cons rfl (evs.cons rfl (evs.cons rfl evs.nil))) Try.call82) (turned_ok g (codeOf ls s) n A l _ h3 (by omega) hl hW2) rfl ?_
 rintro e w3 ⟨rfl, A3, hW3, hf3, hA3⟩
 refine ⟨_, rfl, ?_⟩
 refine jA ?_
 refine jO (jN (jv1 6 ?_))
 refine jT ?_
 refine end1 rfl ?_
 refine ⟨⟨_, rfl⟩, A3, ?_, (hf2.mono (by simp)).trans hf3 (fun x hx => .inl hx), fun x hx => ?_⟩
 ·
  unfold cbits
  rw [h0]
  exact hW3
 ·
  rcases hA3 x hx with h | h
  ·
   exact .inl h
  ·
   exact .inr (Nat.le_trans hf2.size h)
theorem cput_spec (g s c : Nat) (A B : Option Addr) (l : List Bool) (ls : List Int) (w : World) (hg : good ls) (hk : KC (cn ls) 16 ≤ 32768) (hs : s < ls.length) (hl : l.length ≤ 1000000000) (hW : IsW w g A l) (hr : Rd w 2 B ls.length ((codesL ls).flatMap CB)) :
  Calls Try.prog 52 #[.pointer (some ⟨g, 0, none⟩), .slice B ls.length c, .int .i64 ((s : Nat) : Int)] w fun e w' => (∃ k : Int, e = .returned (.int .i64 k)) ∧ WR w w' g A (l ++ cbits ls s) := by
 rcases codeC_fits hg hk hs with h | ⟨n, h1, _, h2, h3, h4⟩
 ·
  exact cput_zero g s c A B l ls w hg.1 hs hl hW hr h
 ·
  exact cput_some g s c A B l ls w hg.1 hs hl hW hr n h1 h2 h3 h4
theorem IsW.keepB {w w' : World} {g x : Nat} {A : Option Addr} {l : List Bool} {t : TypeId} {cs : Array Value} (h : IsW w g A l) (f : Frm (g :: ob A) w w') (hb : Blk w x t cs) (h1 : 97 ≠ t) (h2 : 5 ≠ t) : Blk w' x t cs := by
 obtain ⟨c, h3, h4⟩ := h
 refine hb.frm f (fun hx => ?_)
 rcases List.mem_cons.1 hx with rfl | hx
 ·
  exact h3.ne hb h1 rfl
 ·
  exact h4.ne_blk hb h2 hx
theorem IsW.keepO {w w' : World} {g e size n c : Nat} {A B : Option Addr} {l : List Bool} {xs : List Value} (h : IsW w g A l) (f : Frm (g :: ob A) w w') (ho : Own w e size B n c xs) (h1 : 97 ≠ e) (h2 : 5 ≠ e) : Own w' e size B n c xs := by
 obtain ⟨c2, h3, h4⟩ := h
 refine ho.frm f (fun x hx hx2 => ?_)
 rcases List.mem_cons.1 hx2 with rfl | hx2
 ·
  exact ho.ne_blk h3 (Ne.symm h1) hx
 ·
  exact h4.ne_own ho h2 x hx2 hx
theorem WR.trans {w w1 w2 : World} {g : Nat} {A A1 : Option Addr} {l2 : List Bool} (f : Frm (g :: ob A) w w1) (hA : ∀ x ∈ ob A1, x ∈ ob A ∨ w.heap.size ≤ x) (h : WR w1 w2 g A1 l2) : WR w w2 g A l2 := by
 obtain ⟨A2, h1, h2, h3⟩ := h
 refine ⟨A2, h1, f.trans h2 (fun x hx => ?_), fun x hx => ?_⟩
 ·
  rcases List.mem_cons.1 hx with rfl | hx
  ·
   exact .inl (by simp)
  ·
   rcases hA x hx with h | h
   ·
    exact .inl (by simp [h])
   ·
    exact .inr h
 ·
  rcases h3 x hx with h | h
  ·
   exact hA x h
  ·
   exact .inr (Nat.le_trans f.size h)
set_option maxRecDepth 100000 in
theorem more_spec (v1 v2 : Value) (h1 : v1.cells = #[v1]) (h2 : v2.cells = #[v2]) (w : World) :
  Calls Try.prog 29 #[v1, v2] w fun e w' => ∃ g2 g3, e = .returned (.func (.func 59) #[] #[.pointer (some ⟨g2, 0, none⟩), .pointer (some ⟨g3, 0, none⟩)]) ∧ Blk w' g2 34 #[v1] ∧ Blk w' g3 60 #[v2] ∧ Frm [] w w' := by
 refine VC.calls (nt := 6) (res := #[.tmp 4]) Try.func29 rfl Try.ntmps29 Try.results29 rfl ?_
 refine jS (jR ?_)
 refine Ops.m (Does.box rfl) rfl ?_
 rintro _ w1 ⟨rfl, hF1⟩
 refine Ops.m (Does.box rfl) rfl ?_
 rintro _ w2 ⟨rfl, hF2⟩
 refine jA ?_
 refine jO (jN (jv2 2 3 ?_))
 refine jS (jR ?_)
 refine Ops.r (Run.mkFunc evs.nil (evs.cons rfl (evs.cons rfl evs.nil))) rfl ?_
 refine jA ?_
 refine jO (jN (jv1 4 ?_))
 refine jT ?_
 refine end1 rfl ?_
 have hb1 := hF1.blk
 have hb2 := hF2.blk
 rw [h1] at hb1
 rw [h2] at hb2
 exact ⟨_, _, rfl, hb1.frm hF2.frm (by simp), hb2, hF1.frm.trans hF2.frm (by simp)⟩
set_option maxRecDepth 100000 in
theorem more1_spec (g g2 g3 s n v c : Nat) (A B : Option Addr) (l : List Bool) (ls : List Int) (w : World) (hg : good ls) (hk : KC (cn ls) 16 ≤ 32768) (hs : s < ls.length) (hv : v < 2 ^ n) (hn : n ≤ 32) (hl : l.length ≤ 900000000) (hW : IsW w g A l) (ho : Own w 116 2 B ls.length c ((codesL ls).flatMap CB))
  (hb2 : Blk w g2 34 #[.pointer (some ⟨g, 0, none⟩)]) (hb3 : Blk w g3 60 #[.slice B ls.length c]) :
  Calls Try.prog 59 #[.int .i64 ((s : Nat) : Int), .int .i64 ((n : Nat) : Int), .int .i64 ((v : Nat) : Int), .pointer (some ⟨g2, 0, none⟩), .pointer (some ⟨g3, 0, none⟩)] w fun e w' => e = .returned (.tuple #[]) ∧ WR w w' g A (l ++ cbits ls s ++ bitsL v n) := by
 have hpw : 2 ^ n ≤ 2 ^ 32 := Nat.pow_le_pow_right (by omega) hn
 have hcl := cbits_len hg hk hs
 refine VC.calls (nt := 17) (res := #[]) Try.func59 rfl Try.ntmps59 Try.results59 rfl ?_
 refine jS (jR ?_)
 refine Ops.r (Run.load rfl Try.isAgg34 (hb2.cell 0)) rfl ?_
 refine Ops.r (Run.load rfl Try.isAgg60 (hb3.cell 0)) rfl ?_
 refine jM ?_
 refine Ops.cl (Enters.fn (evs.cons rfl (evs.cons rfl (evs.cons rfl evs.nil))) Try.call52) (cput_spec g s c A B l ls w hg hk hs (by omega) hW ho.rd) rfl ?_
 rintro e w1 ⟨⟨k, rfl⟩, A1, hW1, hf1, hA1⟩
 refine ⟨_, rfl, ?_⟩
 have hb2 := hW.keepB hf1 hb2 (by decide) (by decide)
 refine jO (jN (jv3 1 2 3 ?_))
 refine jR ?_
 refine Ops.r (Run.load rfl Try.isAgg34 (hb2.cell 0)) rfl ?_
 refine jM ?_
 refine Ops.r (Run.convN _ rfl Try.underlying3 Try.underlying37 (by simp only [bmax]; omega)) rfl ?_
 refine jM ?_
 refine Ops.cl (Enters.fn (evs.cons rfl (evs.cons rfl (evs.cons rfl evs.nil))) Try.call19) (put_ok g v n A1 (l ++ cbits ls s) w1 hv hn (by rw [List.length_append]; omega) hW1) rfl ?_
 rintro e w2 ⟨rfl, h2⟩
 refine ⟨_, rfl, ?_⟩
 refine jO ?_
 refine end0n ?_
 exact ⟨rfl, WR.trans hf1 hA1 h2⟩
end Go.Proofs.Ytnmieihcjjiccaa
namespace Go.Proofs.Ytnmieihcjjiccaa
open Go.RowKit
def IsX (w : World) (gx gr : Nat) (Ar : Option Addr) (bs : List Nat) (p : Nat) (A : Option Addr) (c : Nat) (out : List Nat) (most : Nat) : Prop :=
 Blk w gx 132 #[.pointer (some ⟨gr, 0, none⟩), .slice A out.length c, .int .i64 ((most : Nat) : Int)] ∧ IsR w gr Ar bs p ∧ Own w 5 1 A out.length c (NB out) ∧ (∀ x ∈ ob A, x ∉ ob Ar) ∧ p ≤ 8 * bs.length ∧ out.length ≤ most ∧ ∀ x ∈ out, x < 256
section
variable {w w' : World} {gx gr : Nat} {Ar : Option Addr} {bs : List Nat} {p : Nat} {A : Option Addr} {c : Nat} {out : List Nat} {most : Nat} {S : List Nat}
theorem IsX.gxr (h : IsX w gx gr Ar bs p A c out most) : gx ≠ gr := h.1.ne h.2.1.choose_spec.1 (by decide)
theorem IsX.grA (h : IsX w gx gr Ar bs p A c out most) : gr ∉ ob A := h.2.2.1.ne_blk h.2.1.choose_spec.1 (by decide)
theorem IsX.gxA (h : IsX w gx gr Ar bs p A c out most) : gx ∉ ob A := h.2.2.1.ne_blk h.1 (by decide)
theorem IsX.gxAr (h : IsX w gx gr Ar bs p A c out most) : gx ∉ ob Ar := h.2.1.choose_spec.2.ne_blk h.1 (by decide)
theorem IsX.lt (h : IsX w gx gr Ar bs p A c out most) : gx < w.heap.size ∧ gr < w.heap.size ∧ (∀ x ∈ ob A, x < w.heap.size) ∧ ∀ x ∈ ob Ar, x < w.heap.size :=
 ⟨h.1.lt, h.2.1.lt gr (by simp), h.2.2.1.lt, fun x hx => h.2.1.lt x (by simp [hx])⟩
theorem IsX.turn {p' : Nat} (h : IsX w gx gr Ar bs p A c out most) (hR : IsR w' gr Ar bs p') (hf : Frm [gr] w w') (hp : p' ≤ 8 * bs.length) : IsX w' gx gr Ar bs p' A c out most :=
 ⟨h.1.frm hf (by simp; exact h.gxr), hR, h.2.2.1.frm hf (fun x hx h2 => h.grA (by simp at h2; subst h2; exact hx)), h.2.2.2.1, hp, h.2.2.2.2.2⟩
theorem IsX.frm (h : IsX w gx gr Ar bs p A c out most) (hf : Frm S w w') (hS : ∀ x ∈ gx :: gr :: (ob A ++ ob Ar), x ∉ S) : IsX w' gx gr Ar bs p A c out most :=
 ⟨h.1.frm hf (hS gx (by simp)), h.2.1.frm hf (fun x hx => hS x (by rcases List.mem_cons.1 hx with rfl | hx <;> simp_all)), h.2.2.1.frm hf (fun x hx => hS x (by simp [hx])), h.2.2.2⟩
theorem IsX.frm0 (h : IsX w gx gr Ar bs p A c out most) (hf : Frm [] w w') : IsX w' gx gr Ar bs p A c out most := h.frm hf (by simp)
end
end Go.Proofs.Ytnmieihcjjiccaa
namespace Go.Proofs.Ytnmieihcjjiccaa
open Go.RowKit
def LC (p : Nat × Nat) : List Value := [.int .i64 ((p.1 : Nat) : Int), .int .i64 ((p.2 : Nat) : Int)]
theorem LC_len (p : Nat × Nat) : (LC p).length = 2 := rfl
theorem LC_one (p : Nat × Nat) : ∀ v ∈ LC p, v.oneCell' = true := by
 intro v hv
 simp only [LC, List.mem_cons, List.not_mem_nil, or_false] at hv
 rcases hv with rfl | rfl <;> rfl
def nextL (i : Nat) : Nat := if i < 28 then (longT.getD i (0, 0)).1 else 259
theorem long_step : ∀ i, i < 28 → (if (0 : Int) < ((i / 4 : Nat) : Int) - 1 then ((i / 4 : Nat) : Int) - 1 else 0) = (((longT.getD i (0, 0)).2 : Nat) : Int) ∧ nextL i + 2 ^ (longT.getD i (0, 0)).2 = nextL (i + 1) ∧ (longT.getD i (0, 0)).2 ≤ 5 ∧ nextL i ≤ 258 ∧ longT.getD i (0, 0) = (nextL i, (longT.getD i (0, 0)).2) := by decide +kernel
def nextW (i : Nat) : Nat := if i < 30 then (wayT.getD i (0, 0)).1 else 32769
theorem way_step : ∀ i, i < 30 → (if (0 : Int) < ((i / 2 : Nat) : Int) - 1 then ((i / 2 : Nat) : Int) - 1 else 0) = (((wayT.getD i (0, 0)).2 : Nat) : Int) ∧ nextW i + 2 ^ (wayT.getD i (0, 0)).2 = nextW (i + 1) ∧ (wayT.getD i (0, 0)).2 ≤ 13 ∧ nextW i ≤ 24577 ∧ wayT.getD i (0, 0) = (nextW i, (wayT.getD i (0, 0)).2) := by decide +kernel
def upto (t : List (Nat × Nat)) (n i : Nat) : List (Nat × Nat) := (List.range n).map fun k => if k < i then t.getD k (0, 0) else (0, 0)
theorem upto_len (t : List (Nat × Nat)) (n i : Nat) : (upto t n i).length = n := by simp [upto]
theorem upto_set (t : List (Nat × Nat)) (n i : Nat) (h : i < n) : (upto t n i).set i (t.getD i (0, 0)) = upto t n (i + 1) := by
 apply List.ext_getElem?
 intro j
 by_cases hj : j = i
 ·
  subst hj
  rw [List.getElem?_set_self (by simp [upto, h])]
  simp [upto, h]
 ·
  rw [List.getElem?_set_ne (Ne.symm hj)]
  by_cases hn : j < n
  ·
   simp [upto, hn, show j < i + 1 ↔ j < i by omega]
  ·
   simp [upto, hn]
theorem Own_cells {w : World} {e size n c g : Nat} {xs : List Value} (h : Own w e size (some ⟨g, 0, none⟩) n c xs) (hn : 0 < n) : ∀ j v, xs[j]? = some v → w.cell? ((⟨g, 0, none⟩ : Addr).add j) = some v := by
 obtain ⟨ad, hA, _, hc⟩ := h.rd.2 hn
 injection hA with hA
 subst hA
 exact hc
set_option maxRecDepth 100000 in
theorem ilengths_spec (w : World) : Calls Try.prog 83 #[] w fun e w' => e = .returned (.agg (longT.flatMap LC).toArray) ∧ Frm [] w w' := by
 refine VC.calls (nt := 25) (res := #[.cell 0 143]) Try.func83 rfl Try.ntmps83 Try.results83 rfl ?_
 refine jS (jR ?_)
 refine Ops.m (Does.alloc zero143) rfl ?_
 rintro _ w1 ⟨rfl, hF1⟩
 have hb1 := hF1.blk
 refine jO (jN (jS (jR ?_)))
 refine Ops.m (Does.alloc zero143) rfl ?_
 rintro _ w2 ⟨rfl, hF2⟩
 have hb12 := hb1.frm hF2.frm (by simp)
 have hfr2 := hF1.frm.own hF2.frm (by simp)
 have ho2 : Own w2 143 2 (some ⟨w1.heap.size, 0, none⟩) 29 29 ((upto longT 29 0).flatMap LC) := Own.of_blk (n := 29) hF2.blk rfl (by decide)
 have hne : w.heap.size ≠ w1.heap.size := by have := hb1.lt; omega
 have hge : w.heap.size ≤ w1.heap.size := hF1.frm.size
 generalize hg1 : w1.heap.size = g1 at *
 generalize hg0 : w.heap.size = g0 at hb12 hne hge ⊢
 refine jO (jN (jS (jR ?_)))
 refine Ops.r (v := .int .i64 ((3 : Nat) : Int)) (Run.asg rfl) rfl ?_
 refine jO (jN (jS (jS (jR ?_))))
 refine Ops.r (v := .int .i64 ((0 : Nat) : Int)) (Run.mv rfl) rfl ?_
 refine jO (jN (jB ?_))
 refine VC.loop (σ := Nat) (fun s => [(0, .pointer (some ⟨g0, 0, none⟩)), (1, .pointer (some ⟨g1, 0, none⟩)), (2, .int .i64 ((nextL s : Nat) : Int)), (5, .int .i64 ((s : Nat) : Int))]) (fun s wr => s ≤ 28 ∧ Blk wr g0 143 (Value.agg #[.int .i64 0, .int .i64 0, .int .i64 0, .int .i64 0, .int .i64 0, .int .i64 0, .int .i64 0, .int .i64 0, .int .i64 0, .int .i64 0, .int .i64 0, .int .i64 0, .int .i64 0, .int .i64 0, .int .i64 0, .int .i64 0, .int .i64 0, .int .i64 0, .int .i64 0, .int .i64 0, .int .i64 0, .int .i64 0, .int .i64 0, .int .i64 0, .int .i64 0, .int .i64 0, .int .i64 0, .int .i64 0, .int .i64 0, .int .i64 0, .int .i64 0, .int .i64 0, .int .i64 0, .int .i64 0, .int .i64 0, .int .i64 0, .int .i64 0, .int .i64 0, .int .i64 0, .int .i64 0, .int .i64 0, .int .i64 0, .int .i64 0, .int .i64 0, .int .i64 0, .int .i64 0, .int .i64 0, .int .i64 0, .int .i64 0, .int .i64 0, .int .i64 0, .int .i64 0, .int .i64 0, .int .i64 0, .int .i64 0, .int .i64 0, .int .i64 0, .int .i64 0]).cells ∧ Own wr 143 2 (some ⟨g1, 0, none⟩) 29 29 ((upto longT 29 s).flatMap LC) ∧ Frm [] w wr) (fun s => 28 - s) 0 (js4 rfl rfl rfl rfl) ⟨by omega, hb12, ho2, hfr2⟩ ?_
 rintro i wr ⟨hi, hbr, hor, hfr⟩
 refine jS (jR ?_)
 refine Ops.r (Run.bin rfl rfl (Bin.lssN _ 28)) rfl ?_
 refine jO (jN (jS ?_))
 refine VC.condD rfl (fun hc1 => ?_) (fun hc1 => ?_)
 ·
  obtain ⟨hs1, hs2, hs3, hs4, hs5⟩ := long_step i hc1
  refine jQ (jN (jv4 0 1 2 5 ?_))
  refine jS (jB (jS (jR (jM ?_))))
  refine jA ?_
  refine jO (jN (jv5 0 1 2 3 5 ?_))
  refine jS (jR (jM ?_))
  refine Ops.r (Run.bin rfl rfl (Bin.quo_i64 _ 4 (by omega) (by omega))) rfl ?_
  refine Ops.r (Run.bin rfl rfl (Bin.subZ _ 1 (by omega) (by omega))) rfl ?_
  refine Ops.r (Run.maxI rfl rfl) rfl ?_
  rw [hs1]
  refine jA ?_
  refine jO (jN (jv6 0 1 2 3 4 5 ?_))
  refine jS (jR (jM ?_))
  refine jM ?_
  refine jM ?_
  refine Ops.r (Run.build (evs.cons rfl (evs.cons rfl evs.nil)) zero142 (places142).choose_spec.1 (places142).choose_spec.2 (cells := (LC (nextL i, (longT.getD i (0, 0)).2)).toArray) rfl) rfl ?_
  refine Ops.r (Run.indexA i rfl rfl Try.underlying143 Try.sizeOf142 (by omega)) rfl ?_
  refine Ops.st (Acts.storeOwnA LC (nextL i, (longT.getD i (0, 0)).2) i rfl rfl Try.sizeOf142 LC_len (upto_len _ _ _) hor rfl (by omega) (LC_one _)) ?_
  rintro w3 ⟨ho3, hf3, hs3'⟩
  rw [← hs5, upto_set _ _ _ (by omega)] at ho3
  refine jO (jN (jv5 0 1 2 4 5 ?_))
  refine jR (jM ?_)
  refine jM ?_
  refine Ops.r (Run.bin rfl rfl (Bin.shl_i64 1 (longT.getD i (0, 0)).2 (by omega) (by have := Nat.pow_le_pow_right (n := 2) (by omega) hs3; omega))) rfl ?_
  refine Ops.r (Run.bin rfl rfl (Bin.add_i64 (nextL i) (1 * 2 ^ (longT.getD i (0, 0)).2) (by have := Nat.pow_le_pow_right (n := 2) (by omega) hs3; omega))) rfl ?_
  rw [Nat.one_mul, hs2]
  refine jA ?_
  refine jO ?_
  refine blockQ_n (jN ?_)
  refine jv4 0 1 2 5 ?_
  refine jR ?_
  refine Ops.r (Run.bin rfl rfl (Bin.add_i64 _ 1 (by omega))) rfl ?_
  refine jM ?_
  refine jO ?_
  refine jN ⟨(i + 1), (js4 rfl rfl rfl rfl), ?_, ?_⟩
  ·
   exact ⟨hc1, hbr.frm hf3 (by simp [ob]; exact hne), ho3, hfr.own hf3 (fun x hx => by simp [ob] at hx; omega)⟩
  ·
   first | omega | (dsimp only; omega)
 ·
  have him : i = 28 := by omega
  subst him
  refine jX ?_
  refine thenQ_x (thenQ_x (blockQ_x ?_))
  refine jN (jv2 0 1 ?_)
  refine jS (jR ?_)
  refine Ops.r (Run.build (evs.cons rfl (evs.cons rfl evs.nil)) zero142 (places142).choose_spec.1 (places142).choose_spec.2 (cells := (LC (258, 0)).toArray) rfl) rfl ?_
  refine Ops.r (Run.indexA 28 rfl rfl Try.underlying143 Try.sizeOf142 (by omega)) rfl ?_
  refine Ops.st (Acts.storeOwnA LC (258, 0) 28 rfl rfl Try.sizeOf142 LC_len (upto_len _ _ _) hor rfl (by omega) (LC_one _)) ?_
  rintro w4 ⟨ho4, hf4, hs4⟩
  have hup : (upto longT 29 28).set 28 (258, 0) = longT := by decide +kernel
  rw [hup] at ho4
  have hb4 := hbr.frm hf4 (by simp [ob]; exact hne)
  have hfr4 := hfr.own hf4 (fun x hx => by simp [ob] at hx; omega)
  refine jO (jN (jv2 0 1 ?_))
  refine jS (jR ?_)
  refine Ops.r (Run.loadA rfl Try.isAgg143 Try.sizeOf143 (Own_cells ho4 (by omega)) rfl) rfl ?_
  refine Ops.st (Acts.storeA rfl rfl Try.sizeOf143 hb4 rfl (flat_one LC LC_one longT)) ?_
  rintro w5 ⟨hb5, hf5, hs5⟩
  refine jO (jN (jv1 0 ?_))
  refine jT ?_
  refine endR ?_
  refine res_cellB rfl Try.isAgg143 Try.sizeOf143 (hb5) rfl ?_
  refine res_nil ?_
  exact ⟨rfl, hfr4.own hf5 (fun x hx => by simp at hx; omega)⟩
set_option maxRecDepth 100000 in
theorem iways_spec (w : World) : Calls Try.prog 84 #[] w fun e w' => e = .returned (.agg (wayT.flatMap LC).toArray) ∧ Frm [] w w' := by
 refine VC.calls (nt := 23) (res := #[.cell 0 145]) Try.func84 rfl Try.ntmps84 Try.results84 rfl ?_
 refine jS (jR ?_)
 refine Ops.m (Does.alloc zero145) rfl ?_
 rintro _ w1 ⟨rfl, hF1⟩
 have hb1 := hF1.blk
 refine jO (jN (jS (jR ?_)))
 refine Ops.m (Does.alloc zero145) rfl ?_
 rintro _ w2 ⟨rfl, hF2⟩
 have hb12 := hb1.frm hF2.frm (by simp)
 have hfr2 := hF1.frm.own hF2.frm (by simp)
 have ho2 : Own w2 145 2 (some ⟨w1.heap.size, 0, none⟩) 30 30 ((upto wayT 30 0).flatMap LC) := Own.of_blk (n := 30) hF2.blk rfl (by decide)
 have hne : w.heap.size ≠ w1.heap.size := by have := hb1.lt; omega
 have hge : w.heap.size ≤ w1.heap.size := hF1.frm.size
 generalize hg1 : w1.heap.size = g1 at *
 generalize hg0 : w.heap.size = g0 at hb12 hne hge ⊢
 refine jO (jN (jS (jR ?_)))
 refine Ops.r (v := .int .i64 ((1 : Nat) : Int)) (Run.asg rfl) rfl ?_
 refine jO (jN (jS (jS (jR ?_))))
 refine Ops.r (v := .int .i64 ((0 : Nat) : Int)) (Run.mv rfl) rfl ?_
 refine jO (jN (jB ?_))
 refine VC.loop (σ := Nat) (fun s => [(0, .pointer (some ⟨g0, 0, none⟩)), (1, .pointer (some ⟨g1, 0, none⟩)), (2, .int .i64 ((nextW s : Nat) : Int)), (5, .int .i64 ((s : Nat) : Int))]) (fun s wr => s ≤ 30 ∧ Blk wr g0 145 (Value.agg #[.int .i64 0, .int .i64 0, .int .i64 0, .int .i64 0, .int .i64 0, .int .i64 0, .int .i64 0, .int .i64 0, .int .i64 0, .int .i64 0, .int .i64 0, .int .i64 0, .int .i64 0, .int .i64 0, .int .i64 0, .int .i64 0, .int .i64 0, .int .i64 0, .int .i64 0, .int .i64 0, .int .i64 0, .int .i64 0, .int .i64 0, .int .i64 0, .int .i64 0, .int .i64 0, .int .i64 0, .int .i64 0, .int .i64 0, .int .i64 0, .int .i64 0, .int .i64 0, .int .i64 0, .int .i64 0, .int .i64 0, .int .i64 0, .int .i64 0, .int .i64 0, .int .i64 0, .int .i64 0, .int .i64 0, .int .i64 0, .int .i64 0, .int .i64 0, .int .i64 0, .int .i64 0, .int .i64 0, .int .i64 0, .int .i64 0, .int .i64 0, .int .i64 0, .int .i64 0, .int .i64 0, .int .i64 0, .int .i64 0, .int .i64 0, .int .i64 0, .int .i64 0, .int .i64 0, .int .i64 0]).cells ∧ Own wr 145 2 (some ⟨g1, 0, none⟩) 30 30 ((upto wayT 30 s).flatMap LC) ∧ Frm [] w wr) (fun s => 30 - s) 0 (js4 rfl rfl rfl rfl) ⟨by omega, hb12, ho2, hfr2⟩ ?_
 rintro i wr ⟨hi, hbr, hor, hfr⟩
 refine jS (jR ?_)
 refine Ops.r (Run.bin rfl rfl (Bin.lssN _ 30)) rfl ?_
 refine jO (jN (jS ?_))
 refine VC.condD rfl (fun hc1 => ?_) (fun hc1 => ?_)
 ·
  obtain ⟨hs1, hs2, hs3, hs4, hs5⟩ := way_step i hc1
  refine jQ (jN (jv4 0 1 2 5 ?_))
  refine jS (jB (jS (jR (jM ?_))))
  refine jA ?_
  refine jO (jN (jv5 0 1 2 3 5 ?_))
  refine jS (jR (jM ?_))
  refine Ops.r (Run.bin rfl rfl (Bin.quo_i64 _ 2 (by omega) (by omega))) rfl ?_
  refine Ops.r (Run.bin rfl rfl (Bin.subZ _ 1 (by omega) (by omega))) rfl ?_
  refine Ops.r (Run.maxI rfl rfl) rfl ?_
  rw [hs1]
  refine jA ?_
  refine jO (jN (jv6 0 1 2 3 4 5 ?_))
  refine jS (jR (jM ?_))
  refine jM ?_
  refine jM ?_
  refine Ops.r (Run.build (evs.cons rfl (evs.cons rfl evs.nil)) zero142 (places142).choose_spec.1 (places142).choose_spec.2 (cells := (LC (nextW i, (wayT.getD i (0, 0)).2)).toArray) rfl) rfl ?_
  refine Ops.r (Run.indexA i rfl rfl Try.underlying145 Try.sizeOf142 (by omega)) rfl ?_
  refine Ops.st (Acts.storeOwnA LC (nextW i, (wayT.getD i (0, 0)).2) i rfl rfl Try.sizeOf142 LC_len (upto_len _ _ _) hor rfl (by omega) (LC_one _)) ?_
  rintro w3 ⟨ho3, hf3, hs3'⟩
  rw [← hs5, upto_set _ _ _ (by omega)] at ho3
  refine jO (jN (jv5 0 1 2 4 5 ?_))
  refine jR (jM ?_)
  refine jM ?_
  refine Ops.r (Run.bin rfl rfl (Bin.shl_i64 1 (wayT.getD i (0, 0)).2 (by omega) (by have := Nat.pow_le_pow_right (n := 2) (by omega) hs3; omega))) rfl ?_
  refine Ops.r (Run.bin rfl rfl (Bin.add_i64 (nextW i) (1 * 2 ^ (wayT.getD i (0, 0)).2) (by have := Nat.pow_le_pow_right (n := 2) (by omega) hs3; omega))) rfl ?_
  rw [Nat.one_mul, hs2]
  refine jA ?_
  refine jO ?_
  refine blockQ_n (jN ?_)
  refine jv4 0 1 2 5 ?_
  refine jR ?_
  refine Ops.r (Run.bin rfl rfl (Bin.add_i64 _ 1 (by omega))) rfl ?_
  refine jM ?_
  refine jO ?_
  refine jN ⟨(i + 1), (js4 rfl rfl rfl rfl), ?_, ?_⟩
  ·
   exact ⟨hc1, hbr.frm hf3 (by simp [ob]; exact hne), ho3, hfr.own hf3 (fun x hx => by simp [ob] at hx; omega)⟩
  ·
   first | omega | (dsimp only; omega)
 ·
  have him : i = 30 := by omega
  subst him
  refine jX ?_
  refine thenQ_x (thenQ_x (blockQ_x ?_))
  refine jN (jv2 0 1 ?_)
  refine jS (jR ?_)
  have hup : upto wayT 30 30 = wayT := by decide +kernel
  rw [hup] at hor
  refine Ops.r (Run.loadA rfl Try.isAgg145 Try.sizeOf145 (Own_cells hor (by omega)) rfl) rfl ?_
  refine Ops.st (Acts.storeA rfl rfl Try.sizeOf145 hbr rfl (flat_one LC LC_one wayT)) ?_
  rintro w5 ⟨hb5, hf5, hs5⟩
  refine jO (jN (jv1 0 ?_))
  refine jT ?_
  refine endR ?_
  refine res_cellB rfl Try.isAgg145 Try.sizeOf145 (hb5) rfl ?_
  refine res_nil ?_
  exact ⟨rfl, hfr.own hf5 (fun x hx => by simp at hx; omega)⟩
end Go.Proofs.Ytnmieihcjjiccaa
namespace Go.Proofs.Ytnmieihcjjiccaa
open Go.RowKit
theorem fixed_at : ∀ i, i < 288 → fixedL.getD i 0 = if 144 ≤ i ∧ i < 256 then 9 else if 256 ≤ i ∧ i < 280 then 7 else 8 := by decide +kernel
theorem fixed_take (i : Nat) (h : i < 288) : fixedL.take (i + 1) = fixedL.take i ++ [if 144 ≤ i ∧ i < 256 then 9 else if 256 ≤ i ∧ i < 280 then 7 else 8] := by
 have hl : i < fixedL.length := by rw [show fixedL.length = 288 by decide +kernel]; exact h
 rw [List.take_add_one, List.getElem?_eq_getElem hl, ← fixed_at i h]
 simp [List.getD, List.getElem?_eq_getElem hl]
theorem fixedW_take (i : Nat) (h : i < 32) : fixedW.take (i + 1) = fixedW.take i ++ [5] := by
 have : ∀ i, i < 32 → fixedW.take (i + 1) = fixedW.take i ++ [5] := by decide +kernel
 exact this i h
theorem IB_snoc (l : List Int) (x : Int) : IB (l ++ [x]) = IB l ++ [.int .i64 x] := by simp [IB]
theorem NB_app (a b : List Nat) : NB (a ++ b) = NB a ++ NB b := by simp [NB]
theorem IsX.app {w w1 w2 : World} {gx gr : Nat} {Ar A A' : Option Addr} {bs : List Nat} {p c c' m : Nat} {out news : List Nat} {most : Nat} (h : IsX w gx gr Ar bs p A c out most) (ho : Own w1 5 1 A' (out.length + m) c' (NB out ++ NB news)) (hf1 : Frm (ob A) w w1) (hob : ob A' = ob A ∨ ob A' = [w.heap.size])
  (hb : Blk w2 gx 132 #[.pointer (some ⟨gr, 0, none⟩), .slice A' (out.length + m) c', .int .i64 ((most : Nat) : Int)]) (hf2 : Frm [gx] w1 w2) (hm : news.length = m) (hle : out.length + m ≤ most) (hlt : ∀ x ∈ news, x < 256) :
  IsX w2 gx gr Ar bs p A' c' (out ++ news) most ∧ Frm (gx :: ob A) w w2 ∧ ∀ x ∈ ob A', x ∈ ob A ∨ w.heap.size ≤ x := by
 have hl : (out ++ news).length = out.length + m := by rw [List.length_append, hm]
 have hu : ∀ x ∈ ob A', x ∈ ob A ∨ w.heap.size ≤ x := fun x hx => by
  rcases hob with h5 | h5 <;> rw [h5] at hx
  ·
   exact .inl hx
  ·
   simp at hx; exact .inr (by omega)
 have hlw := h.lt
 have hfr : Frm (gx :: ob A) w w2 := (hf1.mono (T := gx :: ob A) (fun x hx => .inl (by simp [hx]))).trans hf2 (fun x hx => .inl (by simp at hx; simp [hx]))
 refine ⟨⟨by rw [hl]; exact hb, ?_, ?_, ?_, h.2.2.2.2.1, by rw [hl]; exact hle, fun x hx => ?_⟩, hfr, hu⟩
 ·
  refine h.2.1.frm hfr (fun x hx h5 => ?_)
  rcases List.mem_cons.1 hx with rfl | hx
  ·
   rcases List.mem_cons.1 h5 with h6 | h6
   ·
    exact h.gxr h6.symm
   ·
    exact h.grA h6
  ·
   rcases List.mem_cons.1 h5 with h6 | h6
   ·
    subst h6; exact h.gxAr hx
   ·
    exact h.2.2.2.1 x h6 hx
 ·
  rw [hl, NB_app]
  refine ho.frm hf2 (fun x hx h5 => ?_)
  simp at h5
  subst h5
  rcases hu x hx with h6 | h6
  ·
   exact h.gxA h6
  ·
   omega
 ·
  intro x hx h5
  rcases hu x hx with h6 | h6
  ·
   exact h.2.2.2.1 x h6 h5
  ·
   have := hlw.2.2.2 x h5; omega
 ·
  rcases List.mem_append.1 hx with h5 | h5
  ·
   exact h.2.2.2.2.2.2 x h5
  ·
   exact hlt x h5
set_option maxRecDepth 100000 in
theorem ifixed_spec (w : World) : Calls Try.prog 20 #[] w fun e w' => ∃ A c B d, e = .returned (.tuple #[.slice A 288 c, .slice B 32 d]) ∧ Own w' 3 1 A 288 c (IB fixedL) ∧ Own w' 3 1 B 32 d (IB fixedW) ∧ Frm [] w w' := by
 refine VC.calls (nt := 36) (res := #[.tmp 0, .tmp 1]) Try.func20 rfl Try.ntmps20 Try.results20 rfl ?_
 refine jS (jR (jA ?_))
 refine jA ?_
 refine jO (jN ?_)
 refine VC.sub [] .nil ?_
 refine jS (jR (jA ?_))
 refine jA ?_
 refine jO (jN (jS (jS (jR ?_))))
 refine Ops.r (v := .int .i64 ((0 : Nat) : Int)) (Run.mv rfl) rfl ?_
 refine jO (jN (jB ?_))
 refine VC.loop (σ := Nat × Option Addr × Nat) (fun s => [(2, .slice s.2.1 s.1 s.2.2), (3, .slice none 0 0), (6, .int .i64 ((s.1 : Nat) : Int))]) (fun s wr => s.1 ≤ 288 ∧ Own wr 3 1 s.2.1 s.1 s.2.2 (IB (fixedL.take s.1)) ∧ Frm [] w wr ∧ ∀ x ∈ ob s.2.1, w.heap.size ≤ x) (fun s => 288 - s.1) (0, none, 0) (js3 rfl rfl rfl) ⟨by omega, Own.nil _ _ _, Frm.refl _ _, up_nil⟩ ?_
 rintro ⟨i, A, c⟩ wr ⟨hi, hor, hfr, hu⟩
 dsimp only at hi hor hfr hu ⊢
 refine jS (jR ?_)
 refine Ops.r (Run.bin rfl rfl (Bin.lssN _ 288)) rfl ?_
 refine jO (jN (jS ?_))
 refine VC.condD rfl (fun hc1 => ?_) (fun hc1 => ?_)
 ·
  refine jQ (jN (jv3 2 3 6 ?_))
  refine jS (jB (jS (jR (jM ?_))))
  refine jA ?_
  refine jO (jN (jv4 2 3 4 6 ?_))
  refine jS (jR ?_)
  refine Ops.r (v := .int .i64 ((8 : Nat) : Int)) (Run.asg rfl) rfl ?_
  refine jO (jN (jS (jB (jS ?_))))
  refine VC.split1 [(2, _), (3, _), (4, _), (5, _), (6, _)] (js5 rfl rfl rfl rfl rfl) 9 (.bool (decide ((144 ≤ i) ∧ (i < 256)))) ?_ ?_
  ·
   by_cases hs0 : 144 ≤ i
   ·
    refine jR (jM ?_)
    refine Ops.r (Run.bin rfl rfl (Bin.geqN _ 144)) rfl ?_
    refine jM ?_
    refine jG ?_
    refine Ops.rg rfl au (Run.bin rfl rfl (Bin.lssN _ 256)) rfl ?_
    refine Ops.r (Run.pickT rfl rfl au) rfl ?_
    refine jA ?_
    refine jO ?_
    refine jN ⟨(js6 (by rw [dand1 hs0]; rfl) rfl rfl rfl rfl rfl), rfl⟩
   ·
    refine jR (jM ?_)
    refine Ops.r (Run.bin rfl rfl (Bin.geqN _ 144)) rfl ?_
    refine jM ?_
    refine jU ?_
    refine jU ?_
    refine Ops.r (Run.pickF rfl rfl au) rfl ?_
    refine jA ?_
    refine jO ?_
    refine jN ⟨(js6 (by rw [dand0 hs0]; rfl) rfl rfl rfl rfl rfl), rfl⟩
  ·
   intro Γ hΓ
   refine jN (VC.sub _ hΓ ?_)
   refine VC.condD rfl (fun hc2 => ?_) (fun hc2 => ?_)
   ·
    refine jR ?_
    refine Ops.r (v := .int .i64 ((9 : Nat) : Int)) (Run.asg rfl) rfl ?_
    refine jO ?_
    refine blockQ_n (jN ?_)
    refine jv4 2 3 5 6 ?_
    refine jR (jM ?_)
    refine jM ?_
    refine Ops.m (Does.buildS1 rfl Try.underlying38 Try.sizeOf3 zero3 (by decide) (by decide) rfl rfl) rfl ?_
    rintro _ w3 ⟨rfl, hF3⟩
    have hrd3 : Rd w3 1 (some ⟨_, 0, none⟩) 1 [.int .i64 9] := Rd.of_blk (n := 1) (size := 1) hF3.blk rfl
    refine Ops.m (Does.app rfl rfl Try.underlying38 (info3) rfl (by decide) (hor.frm hF3.frm (by simp)) hrd3 (by simp [Value.oneCell']) (by omega) (by omega)) rfl ?_
    rintro _ w4 ⟨B4, c4, rfl, ho4, hf4, hob4⟩
    have hsz := (hfr.own hF3.frm (by simp)).size
    have hfr4 : Frm [] w w4 := (hfr.own hF3.frm (by simp)).own hf4 hu
    refine jA ?_
    refine jO ?_
    refine blockQ_n (jN ?_)
    refine jv3 2 3 6 ?_
    refine jR ?_
    refine Ops.r (Run.bin rfl rfl (Bin.add_i64 _ 1 (by omega))) rfl ?_
    refine jM ?_
    refine jO ?_
    refine jN ⟨(i + 1, B4, c4), (js3 rfl rfl rfl), ?_, ?_⟩
    ·
     refine ⟨by dsimp only; omega, ?_, hfr4, up_app hu hob4 hsz⟩
     dsimp only
     rw [fixed_take i hc1, if_pos hc2, IB_snoc]
     exact ho4
    ·
     first | omega | (dsimp only; omega)
   ·
    refine jS ?_
    refine VC.split1 [(2, _), (3, _), (5, _), (6, _)] (js4 rfl rfl rfl rfl) 16 (.bool (decide ((256 ≤ i) ∧ (i < 280)))) ?_ ?_
    ·
     by_cases hs0 : 256 ≤ i
     ·
      refine jR (jM ?_)
      refine Ops.r (Run.bin rfl rfl (Bin.geqN _ 256)) rfl ?_
      refine jM ?_
      refine jG ?_
      refine Ops.rg rfl au (Run.bin rfl rfl (Bin.lssN _ 280)) rfl ?_
      refine Ops.r (Run.pickT rfl rfl au) rfl ?_
      refine jA ?_
      refine jO ?_
      refine jN ⟨(js5 (by rw [dand1 hs0]; rfl) rfl rfl rfl rfl), rfl⟩
     ·
      refine jR (jM ?_)
      refine Ops.r (Run.bin rfl rfl (Bin.geqN _ 256)) rfl ?_
      refine jM ?_
      refine jU ?_
      refine jU ?_
      refine Ops.r (Run.pickF rfl rfl au) rfl ?_
      refine jA ?_
      refine jO ?_
      refine jN ⟨(js5 (by rw [dand0 hs0]; rfl) rfl rfl rfl rfl), rfl⟩
    ·
     intro Γ hΓ
     refine jN (VC.sub _ hΓ ?_)
     refine VC.condD rfl (fun hc3 => ?_) (fun hc3 => ?_)
     ·
      refine jR ?_
      refine Ops.r (v := .int .i64 ((7 : Nat) : Int)) (Run.asg rfl) rfl ?_
      refine jO ?_
      refine blockQ_n (jN ?_)
      refine jv4 2 3 5 6 ?_
      refine jR (jM ?_)
      refine jM ?_
      refine Ops.m (Does.buildS1 rfl Try.underlying38 Try.sizeOf3 zero3 (by decide) (by decide) rfl rfl) rfl ?_
      rintro _ w3 ⟨rfl, hF3⟩
      have hrd3 : Rd w3 1 (some ⟨_, 0, none⟩) 1 [.int .i64 7] := Rd.of_blk (n := 1) (size := 1) hF3.blk rfl
      refine Ops.m (Does.app rfl rfl Try.underlying38 (info3) rfl (by decide) (hor.frm hF3.frm (by simp)) hrd3 (by simp [Value.oneCell']) (by omega) (by omega)) rfl ?_
      rintro _ w4 ⟨B4, c4, rfl, ho4, hf4, hob4⟩
      have hsz := (hfr.own hF3.frm (by simp)).size
      have hfr4 : Frm [] w w4 := (hfr.own hF3.frm (by simp)).own hf4 hu
      refine jA ?_
      refine jO ?_
      refine blockQ_n (jN ?_)
      refine jv3 2 3 6 ?_
      refine jR ?_
      refine Ops.r (Run.bin rfl rfl (Bin.add_i64 _ 1 (by omega))) rfl ?_
      refine jM ?_
      refine jO ?_
      refine jN ⟨(i + 1, B4, c4), (js3 rfl rfl rfl), ?_, ?_⟩
      ·
       refine ⟨by dsimp only; omega, ?_, hfr4, up_app hu hob4 hsz⟩
       dsimp only
       rw [fixed_take i hc1, if_neg hc2, if_pos hc3, IB_snoc]
       exact ho4
      ·
       first | omega | (dsimp only; omega)
     ·
      refine jQ ?_
      refine blockQ_n (jN ?_)
      refine jv4 2 3 5 6 ?_
      refine jR (jM ?_)
      refine jM ?_
      refine Ops.m (Does.buildS1 rfl Try.underlying38 Try.sizeOf3 zero3 (by decide) (by decide) rfl rfl) rfl ?_
      rintro _ w3 ⟨rfl, hF3⟩
      have hrd3 : Rd w3 1 (some ⟨_, 0, none⟩) 1 [.int .i64 8] := Rd.of_blk (n := 1) (size := 1) hF3.blk rfl
      refine Ops.m (Does.app rfl rfl Try.underlying38 (info3) rfl (by decide) (hor.frm hF3.frm (by simp)) hrd3 (by simp [Value.oneCell']) (by omega) (by omega)) rfl ?_
      rintro _ w4 ⟨B4, c4, rfl, ho4, hf4, hob4⟩
      have hsz := (hfr.own hF3.frm (by simp)).size
      have hfr4 : Frm [] w w4 := (hfr.own hF3.frm (by simp)).own hf4 hu
      refine jA ?_
      refine jO ?_
      refine blockQ_n (jN ?_)
      refine jv3 2 3 6 ?_
      refine jR ?_
      refine Ops.r (Run.bin rfl rfl (Bin.add_i64 _ 1 (by omega))) rfl ?_
      refine jM ?_
      refine jO ?_
      refine jN ⟨(i + 1, B4, c4), (js3 rfl rfl rfl), ?_, ?_⟩
      ·
       refine ⟨by dsimp only; omega, ?_, hfr4, up_app hu hob4 hsz⟩
       dsimp only
       rw [fixed_take i hc1, if_neg hc2, if_neg hc3, IB_snoc]
       exact ho4
      ·
       first | omega | (dsimp only; omega)
 ·
  have hin : i = 288 := by omega
  subst hin
  have hb : Own wr 3 1 none 0 0 (IB (fixedW.take 0)) := Own.nil _ _ _
  rw [show fixedL.take 288 = fixedL from rfl] at hor
  refine jX ?_
  refine thenQ_x (thenQ_x (blockQ_x ?_))
  refine jN (jv2 2 3 ?_)
  refine jS (jS (jR ?_))
  refine Ops.r (v := .int .i64 ((0 : Nat) : Int)) (Run.mv rfl) rfl ?_
  refine jO (jN (jB ?_))
  refine VC.loop (σ := Nat × Option Addr × Nat) (fun s => [(2, .slice A 288 c), (3, .slice s.2.1 s.1 s.2.2), (28, .int .i64 ((s.1 : Nat) : Int))]) (fun s wr => s.1 ≤ 32 ∧ Own wr 3 1 A 288 c (IB fixedL) ∧ Own wr 3 1 s.2.1 s.1 s.2.2 (IB (fixedW.take s.1)) ∧ Frm [] w wr ∧ (∀ x ∈ ob s.2.1, w.heap.size ≤ x) ∧ ∀ x ∈ ob s.2.1, x ∉ ob A) (fun s => 32 - s.1) (0, none, 0) (js3 rfl rfl rfl) ⟨by omega, hor, hb, hfr, up_nil, by simp [ob]⟩ ?_
  rintro ⟨i, B, d⟩ wr2 ⟨hi, hoa, hor, hfr, hu, hne⟩
  dsimp only at hi hoa hor hfr hu hne ⊢
  have hltA := hoa.lt
  refine jS (jR ?_)
  refine Ops.r (Run.bin rfl rfl (Bin.lssN _ 32)) rfl ?_
  refine jO (jN (jS ?_))
  refine VC.condD rfl (fun hc4 => ?_) (fun hc4 => ?_)
  ·
   refine jQ (jN (jv3 2 3 28 ?_))
   refine jS (jB (jR (jM ?_)))
   refine Ops.m (Does.buildS1 rfl Try.underlying38 Try.sizeOf3 zero3 (by decide) (by decide) rfl rfl) rfl ?_
   rintro _ w3 ⟨rfl, hF3⟩
   have hrd3 : Rd w3 1 (some ⟨_, 0, none⟩) 1 [.int .i64 5] := Rd.of_blk (n := 1) (size := 1) hF3.blk rfl
   refine Ops.m (Does.app rfl rfl Try.underlying38 (info3) rfl (by decide) (hor.frm hF3.frm (by simp)) hrd3 (by simp [Value.oneCell']) (by omega) (by omega)) rfl ?_
   rintro _ w4 ⟨B4, c4, rfl, ho4, hf4, hob4⟩
   have hsz := (hfr.own hF3.frm (by simp)).size
   have hfr4 : Frm [] w w4 := (hfr.own hF3.frm (by simp)).own hf4 hu
   refine jA ?_
   refine jO ?_
   refine blockQ_n (jN ?_)
   refine jv3 2 3 28 ?_
   refine jR ?_
   refine Ops.r (Run.bin rfl rfl (Bin.add_i64 _ 1 (by omega))) rfl ?_
   refine jM ?_
   refine jO ?_
   refine jN ⟨(i + 1, B4, c4), (js3 rfl rfl rfl), ?_, ?_⟩
   ·
    have hs3 := hF3.frm.size
    refine ⟨by dsimp only; omega, (hoa.frm hF3.frm (by simp)).frm hf4 (fun x hx h5 => hne x h5 hx), ?_, hfr4, up_app hu hob4 hsz, fun x hx h5 => ?_⟩
    ·
     dsimp only
     rw [fixedW_take i (by omega), IB_snoc]
     exact ho4
    ·
     rcases hob4 with h6 | h6 <;> rw [h6] at hx
     ·
      exact hne x hx h5
     ·
      simp at hx
      have := hltA x h5
      omega
   ·
    first | omega | (dsimp only; omega)
  ·
   have hin : i = 32 := by omega
   subst hin
   rw [show fixedW.take 32 = fixedW from rfl] at hor
   refine jX ?_
   refine thenQ_x (thenQ_x (blockQ_x ?_))
   refine jN (jv2 2 3 ?_)
   refine jS (jR (jM ?_))
   refine jM ?_
   refine jA ?_
   refine jA ?_
   refine jO (jN (jv2 0 1 ?_))
   refine jT ?_
   refine end2 rfl rfl ?_
   exact ⟨A, c, B, d, rfl, hoa, hor, hfr⟩
end Go.Proofs.Ytnmieihcjjiccaa
namespace Go.Proofs.Ytnmieihcjjiccaa
open Go.RowKit
theorem cutA_0 (A : Option Addr) (c sz : Nat) : cutA A c 0 sz = A := by
 unfold cutA
 split
 ·
  rfl
 ·
  cases A with
  | none => rfl
  | some a => simp [Addr.add]
end Go.Proofs.Ytnmieihcjjiccaa
namespace Go.Proofs.Ytnmieihcjjiccaa
open Go.RowKit
theorem IB_set (l : List Int) (k : Nat) (x : Int) : (IB l).set k (.int .i64 x) = IB (l.set k x) := by simp [IB, List.map_set]
end Go.Proofs.Ytnmieihcjjiccaa
namespace Go.Proofs.Ytnmieihcjjiccaa
open Go.RowKit
theorem copyF_len : ∀ (n d : Nat) (out : List Nat), (copyF n d out).length = out.length + n
 | 0, _, _ => rfl
 | n + 1, d, out => by rw [copyF, copyF_len n d]; simp; omega
end Go.Proofs.Ytnmieihcjjiccaa
namespace Go.Proofs.Ytnmieihcjjiccaa
open Go.RowKit
theorem fixedL_len : fixedL.length = 288 := by decide +kernel
theorem fixedW_len : fixedW.length = 32 := by decide +kernel
end Go.Proofs.Ytnmieihcjjiccaa
namespace Go.Proofs.Ytnmieihcjjiccaa
open Go.RowKit
def IsO (w : World) (g4 g5 g6 : Nat) (v4 v5 v6 : Value) : Prop := Blk w g4 22 #[v4] ∧ Blk w g5 3 #[v5] ∧ Blk w g6 24 #[v6]
theorem IsO.frm {w w' : World} {g4 g5 g6 : Nat} {v4 v5 v6 : Value} {S : List Nat} (h : IsO w g4 g5 g6 v4 v5 v6) (hf : Frm S w w') (hS : ∀ x ∈ S, x ≠ g4 ∧ x ≠ g5 ∧ x ≠ g6) : IsO w' g4 g5 g6 v4 v5 v6 :=
 ⟨h.1.frm hf (fun h2 => (hS _ h2).1 rfl), h.2.1.frm hf (fun h2 => (hS _ h2).2.1 rfl), h.2.2.frm hf (fun h2 => (hS _ h2).2.2 rfl)⟩
theorem IsO.ne {w : World} {g4 g5 g6 : Nat} {v4 v5 v6 : Value} (h : IsO w g4 g5 g6 v4 v5 v6) : g4 ≠ g5 ∧ g4 ≠ g6 ∧ g5 ≠ g6 := ⟨h.1.ne h.2.1 (by decide), h.1.ne h.2.2 (by decide), h.2.1.ne h.2.2 (by decide)⟩
end Go.Proofs.Ytnmieihcjjiccaa
namespace Go.Proofs.Ytnmieihcjjiccaa
open Go.RowKit
section
variable {w w' : World} {gx : Nat} {Ab : Option Addr} {cb : Nat} {L : List Bool} {p : Nat} {A : Option Addr} {c : Nat} {out : List Nat} {most e : Nat} {S : List Nat}
end
def longL : List Nat := longT.map (·.1)
def wayL : List Nat := wayT.map (·.1)
set_option maxRecDepth 100000 in
theorem rlengths_spec (w : World) : Calls Try.prog 38 #[] w fun e w' => ∃ A c, e = .returned (.slice A 29 c) ∧ Own w' 3 1 A 29 c (NI longL) ∧ Frm [] w w' ∧ ∀ x ∈ ob A, w.heap.size ≤ x := by
 refine VC.calls (nt := 2) (res := #[.tmp 0]) Try.func38 rfl Try.ntmps38 Try.results38 rfl ?_
 refine jS (jR (jA ?_))
 refine jO (jN ?_)
 refine VC.sub [] .nil ?_
 refine jS (jR ?_)
 refine Ops.m (Does.buildN (cells := (NI longL).toArray) (evs.cons rfl (evs.cons rfl (evs.cons rfl (evs.cons rfl (evs.cons rfl (evs.cons rfl (evs.cons rfl (evs.cons rfl (evs.cons rfl (evs.cons rfl (evs.cons rfl (evs.cons rfl (evs.cons rfl (evs.cons rfl (evs.cons rfl (evs.cons rfl (evs.cons rfl (evs.cons rfl (evs.cons rfl (evs.cons rfl (evs.cons rfl (evs.cons rfl (evs.cons rfl (evs.cons rfl (evs.cons rfl (evs.cons rfl (evs.cons rfl (evs.cons rfl (evs.cons rfl evs.nil))))))))))))))))))))))))))))) Try.underlying38 Try.sizeOf3 zero3 rfl rfl jK) rfl ?_
 rintro _ w1 ⟨rfl, hF1⟩
 have ho1 : Own w1 3 1 (some ⟨w.heap.size, 0, none⟩) 29 29 (NI longL) := Own.of_blk (n := 29) hF1.blk rfl (by decide)
 refine jA ?_
 refine jO (jN (jv1 0 ?_))
 refine jT ?_
 refine end1 rfl ?_
 exact ⟨_, _, rfl, ho1, hF1.frm, by simp [ob]⟩
set_option maxRecDepth 100000 in
theorem rways_spec (w : World) : Calls Try.prog 39 #[] w fun e w' => ∃ A c, e = .returned (.slice A 30 c) ∧ Own w' 3 1 A 30 c (NI wayL) ∧ Frm [] w w' ∧ ∀ x ∈ ob A, w.heap.size ≤ x := by
 refine VC.calls (nt := 2) (res := #[.tmp 0]) Try.func39 rfl Try.ntmps39 Try.results39 rfl ?_
 refine jS (jR (jA ?_))
 refine jO (jN ?_)
 refine VC.sub [] .nil ?_
 refine jS (jR ?_)
 refine Ops.m (Does.buildN (cells := (NI wayL).toArray) (evs.cons rfl (evs.cons rfl (evs.cons rfl (evs.cons rfl (evs.cons rfl (evs.cons rfl (evs.cons rfl (evs.cons rfl (evs.cons rfl (evs.cons rfl (evs.cons rfl (evs.cons rfl (evs.cons rfl (evs.cons rfl (evs.cons rfl (evs.cons rfl (evs.cons rfl (evs.cons rfl (evs.cons rfl (evs.cons rfl (evs.cons rfl (evs.cons rfl (evs.cons rfl (evs.cons rfl (evs.cons rfl (evs.cons rfl (evs.cons rfl (evs.cons rfl (evs.cons rfl (evs.cons rfl evs.nil)))))))))))))))))))))))))))))) Try.underlying38 Try.sizeOf3 zero3 rfl rfl jK) rfl ?_
 rintro _ w1 ⟨rfl, hF1⟩
 have ho1 : Own w1 3 1 (some ⟨w.heap.size, 0, none⟩) 30 30 (NI wayL) := Own.of_blk (n := 30) hF1.blk rfl (by decide)
 refine jA ?_
 refine jO (jN (jv1 0 ?_))
 refine jT ?_
 refine end1 rfl ?_
 exact ⟨_, _, rfl, ho1, hF1.frm, by simp [ob]⟩
set_option maxRecDepth 100000 in
theorem rlongBits_spec (i : Nat) (w : World) (hi : i < 29) : Calls Try.prog 64 #[.int .i64 ((i : Nat) : Int)] w fun e w' => e = .returned (.int .i64 (((longT.getD i (0, 0)).2 : Nat) : Int)) ∧ w = w' := by
 have hb : ∀ i, i < 29 → (longT.getD i (0, 0)).2 = if i < 8 ∨ i = 28 then 0 else (i - 4) / 4 := by decide +kernel
 rw [hb i hi]
 refine VC.calls (nt := 12) (res := #[.tmp 2]) Try.func64 rfl Try.ntmps64 Try.results64 rfl ?_
 refine jS (jR ?_)
 refine Ops.r (v := .int .i64 ((0 : Nat) : Int)) (Run.asg rfl) rfl ?_
 refine jO (jN (jv1 0 ?_))
 refine jS (jS ?_)
 refine VC.split1 [(0, _)] (js1 rfl) 8 (.bool (decide ((i < 8) ∨ (i = 28)))) ?_ ?_
 ·
  by_cases hs0 : i < 8
  ·
   refine jR (jM ?_)
   refine Ops.r (Run.bin rfl rfl (Bin.lssN _ 8)) rfl ?_
   refine jM ?_
   refine jU ?_
   refine jU ?_
   refine Ops.r (Run.pickT rfl rfl au) rfl ?_
   refine jO ?_
   refine jN ⟨(js2 (by rw [dor1 hs0]; rfl) rfl), rfl⟩
  ·
   refine jR (jM ?_)
   refine Ops.r (Run.bin rfl rfl (Bin.lssN _ 8)) rfl ?_
   refine jM ?_
   refine jG ?_
   refine Ops.rg rfl au (Run.bin rfl rfl (Bin.eqlN _ 28)) rfl ?_
   refine Ops.r (Run.pickF rfl rfl au) rfl ?_
   refine jO ?_
   refine jN ⟨(js2 (by rw [dor0 hs0]; rfl) rfl), rfl⟩
 ·
  intro Γ hΓ
  refine jN (VC.sub _ hΓ ?_)
  refine VC.condD rfl (fun hc1 => ?_) (fun hc1 => ?_)
  ·
   refine jS (jR ?_)
   refine Ops.r (v := .int .i64 ((0 : Nat) : Int)) (Run.asg rfl) rfl ?_
   refine jO (jN (jv1 2 ?_))
   refine jT ?_
   refine thenQ_r (end1 rfl ?_)
   exact ⟨by rw [if_pos hc1], rfl⟩
  ·
   have h8 : 8 ≤ i := by omega
   refine jQ (jN (jv1 0 ?_))
   refine jS (jR (jM ?_))
   refine Ops.r (Run.bin rfl rfl (Bin.sub_i64 _ 4 (by omega) (by omega))) rfl ?_
   refine Ops.r (Run.bin rfl rfl (Bin.quo_i64 _ 4 (by omega) (by omega))) rfl ?_
   refine jA ?_
   refine jO (jN (jv1 2 ?_))
   refine jT ?_
   refine end1 rfl ?_
   exact ⟨by rw [if_neg hc1], rfl⟩
set_option maxRecDepth 100000 in
theorem rwayBits_spec (i : Nat) (w : World) (hi : i < 30) : Calls Try.prog 65 #[.int .i64 ((i : Nat) : Int)] w fun e w' => e = .returned (.int .i64 (((wayT.getD i (0, 0)).2 : Nat) : Int)) ∧ w = w' := by
 have hb : ∀ i, i < 30 → (wayT.getD i (0, 0)).2 = if i < 4 then 0 else (i - 2) / 2 := by decide +kernel
 rw [hb i hi]
 refine VC.calls (nt := 8) (res := #[.tmp 2]) Try.func65 rfl Try.ntmps65 Try.results65 rfl ?_
 refine jS (jR ?_)
 refine Ops.r (v := .int .i64 ((0 : Nat) : Int)) (Run.asg rfl) rfl ?_
 refine jO (jN (jv1 0 ?_))
 refine jS (jS (jR (jM ?_)))
 refine Ops.r (Run.bin rfl rfl (Bin.lssN _ 4)) rfl ?_
 refine jO (jN (jv2 0 4 ?_))
 refine VC.condD rfl (fun hc1 => ?_) (fun hc1 => ?_)
 ·
  refine jS (jR ?_)
  refine Ops.r (v := .int .i64 ((0 : Nat) : Int)) (Run.asg rfl) rfl ?_
  refine jO (jN (jv1 2 ?_))
  refine jT ?_
  refine thenQ_r (end1 rfl ?_)
  exact ⟨by rw [if_pos hc1], rfl⟩
 ·
  refine jQ (jN (jv1 0 ?_))
  refine jS (jR (jM ?_))
  refine Ops.r (Run.bin rfl rfl (Bin.sub_i64 _ 2 (by omega) (by omega))) rfl ?_
  refine Ops.r (Run.bin rfl rfl (Bin.quo_i64 _ 2 (by omega) (by omega))) rfl ?_
  refine jA ?_
  refine jO (jN (jv1 2 ?_))
  refine jT ?_
  refine end1 rfl ?_
  exact ⟨by rw [if_neg hc1], rfl⟩
def NumR (L : List Bool) (n p e v p' e' : Nat) : Prop := (e ≠ 0 ∧ v = 0 ∧ p' = p ∧ e' = e) ∨ (e = 0 ∧ takeF L n p = .ok (v, p') ∧ e' = 0) ∨ (e = 0 ∧ takeF L n p = .error 2 ∧ v = 0 ∧ p' = p ∧ e' = 2)
theorem NumR.lt {L : List Bool} {n p e v p' e' : Nat} (h : NumR L n p e v p' e') : v < 2 ^ n ∧ p ≤ p' := by
 rcases h with ⟨_, rfl, rfl, _⟩ | ⟨_, h, _⟩ | ⟨_, _, rfl, rfl, _⟩
 ·
  exact ⟨Nat.two_pow_pos n, Nat.le_refl _⟩
 ·
  obtain ⟨h1, h2, h3, _⟩ := takeF_ok h
  exact ⟨h3, by omega⟩
 ·
  exact ⟨Nat.two_pow_pos n, Nat.le_refl _⟩
end Go.Proofs.Ytnmieihcjjiccaa
namespace Go.Proofs.Ytnmieihcjjiccaa
open Go.RowKit
def upI (t : List Int) (n i : Nat) : List Int := (List.range n).map fun k => if k < i then t.getD k 0 else 0
theorem upI_set (t : List Int) (n i : Nat) (v : Int) (h : i < n) (hv : t.getD i 0 = v) : (upI t n i).set i v = upI t n (i + 1) := by
 subst hv
 apply List.ext_getElem?
 intro j
 by_cases hj : j = i
 ·
  subst hj
  rw [List.getElem?_set_self (by simp [upI, h])]
  simp [upI, h]
 ·
  rw [List.getElem?_set_ne (Ne.symm hj)]
  by_cases hn : j < n
  ·
   simp [upI, hn, show j < i + 1 ↔ j < i by omega]
  ·
   simp [upI, hn]
theorem upI_zero (t : List Int) (n : Nat) : upI t n 0 = List.replicate n 0 := by
 unfold upI
 simp only [Nat.not_lt_zero, if_false]
 rw [List.map_const', List.length_range]
theorem mk_ints (n : Nat) : (List.replicate n (Value.int .i64 0).cells.toList).flatten = IB (List.replicate n 0) := by
 induction n with
 | zero => rfl
 | succ n ih => rw [List.replicate_succ, List.flatten_cons, ih, List.replicate_succ]; rfl
set_option maxRecDepth 100000 in
theorem rfixed_spec (w : World) : Calls Try.prog 33 #[] w fun e w' => ∃ A c B d, e = .returned (.tuple #[.slice A 288 c, .slice B 32 d]) ∧ Own w' 3 1 A 288 c (IB fixedL) ∧ Own w' 3 1 B 32 d (IB fixedW) ∧ Frm [] w w' := by
 refine VC.calls (nt := 42) (res := #[.tmp 0, .tmp 1]) Try.func33 rfl Try.ntmps33 Try.results33 rfl ?_
 refine jS (jR (jA ?_))
 refine jA ?_
 refine jO (jN ?_)
 refine VC.sub [] .nil ?_
 refine jS ?_
 refine VC.meet (σ := Nat × Nat) (fun s => [(2, .slice (some ⟨s.1, 0, none⟩) 288 288), (3, .slice (some ⟨s.2, 0, none⟩) 32 32)]) (fun s wr => Own wr 3 1 (some ⟨s.1, 0, none⟩) 288 288 (IB (List.replicate 288 0)) ∧ Own wr 3 1 (some ⟨s.2, 0, none⟩) 32 32 (IB (List.replicate 32 0)) ∧ Frm [] w wr ∧ w.heap.size ≤ s.1 ∧ w.heap.size ≤ s.2 ∧ s.1 ≠ s.2) ?_ ?_
 ·
  refine VC.held (fun _ => True) jK ?_
  have hS : True := trivial
  have hd := (Drawn.drew w).frm
  have hds := hd.size
  refine HOps.or2 0 1 jK ?_ ?_
  ·
   refine HOne.m rfl (Does.makeS (n := 288) rfl rfl Try.underlying38 (info3) rfl (by omega) (by omega)) trivial rfl rfl ?_
   rintro _ w1 ⟨rfl, ho1, hf1, hs1⟩
   refine ⟨trivial, ?_⟩
   refine jH 2 rfl hS (fun w0 hw0 => Run.asg rfl) ?_
   refine HOps.m 1 rfl jK (Does.makeS (n := 32) rfl rfl Try.underlying38 (info3) rfl (by omega) (by omega)) trivial rfl rfl ?_
   rintro _ w2 ⟨rfl, ho2, hf2, hs2⟩
   refine ⟨trivial, ?_⟩
   refine jH 3 rfl hS (fun w0 hw0 => Run.asg rfl) ?_
   refine HOps.done jK ?_
   refine jN ⟨(w.drew.heap.size, w1.heap.size), (js2 rfl rfl), ?_⟩
   rw [mk_ints] at ho1 ho2
   have := Drawn.drew w
   exact ⟨ho1.frm hf2 (by simp), ho2, (hd.trans hf1 (by simp)).trans hf2 (by simp), hd.size, by dsimp only; omega, by dsimp only; omega⟩
  ·
   refine HOne.m rfl (Does.makeS (n := 32) rfl rfl Try.underlying38 (info3) rfl (by omega) (by omega)) trivial rfl rfl ?_
   rintro _ w1 ⟨rfl, ho1, hf1, hs1⟩
   refine ⟨trivial, ?_⟩
   refine HOps.m 0 rfl jK (Does.makeS (n := 288) rfl rfl Try.underlying38 (info3) rfl (by omega) (by omega)) trivial rfl rfl ?_
   rintro _ w2 ⟨rfl, ho2, hf2, hs2⟩
   refine ⟨trivial, ?_⟩
   refine jH 2 rfl hS (fun w0 hw0 => Run.asg rfl) ?_
   refine jH 3 rfl hS (fun w0 hw0 => Run.asg rfl) ?_
   refine HOps.done jK ?_
   refine jN ⟨(w1.heap.size, w.drew.heap.size), (js2 rfl rfl), ?_⟩
   rw [mk_ints] at ho1 ho2
   exact ⟨ho2, ho1.frm hf2 (by simp), (hd.trans hf1 (by simp)).trans hf2 (by simp), by dsimp only; omega, hd.size, by dsimp only; omega⟩
 ·
  rintro ⟨ga, gb⟩ w0 ⟨ho, hob, hfr, hga, hgb, hgab⟩ Γ hΓ
  dsimp only at ho hob hfr hga hgb hgab hΓ
  rw [← upI_zero fixedL] at ho
  rw [← upI_zero fixedW] at hob
  refine jN (VC.sub _ hΓ ?_)
  refine jS (jS (jR ?_))
  refine Ops.r (v := .int .i64 ((0 : Nat) : Int)) (Run.asg rfl) rfl ?_
  refine jO (jN (jB ?_))
  refine VC.loop (σ := Nat) (fun s => [(2, .slice (some ⟨ga, 0, none⟩) 288 288), (3, .slice (some ⟨gb, 0, none⟩) 32 32), (4, .int .i64 ((s : Nat) : Int))]) (fun s wr => s ≤ 288 ∧ Own wr 3 1 (some ⟨ga, 0, none⟩) 288 288 (IB (upI fixedL 288 s)) ∧ Own wr 3 1 (some ⟨gb, 0, none⟩) 32 32 (IB (upI fixedW 32 0)) ∧ Frm [] w wr) (fun s => 288 - s) 0 (js3 rfl rfl rfl) ⟨by omega, ho, hob, hfr⟩ ?_
  clear ho hob hfr
  rintro i wr ⟨hi, ho, hob, hfr⟩
  refine jS (jS (jR (jM ?_)))
  refine Ops.r (Run.bin rfl rfl (Bin.lssN _ 288)) rfl ?_
  refine jO (jN (jv4 2 3 4 9 ?_))
  refine VC.condD rfl (fun hc1 => ?_) (fun hc1 => ?_)
  ·
   refine jQ (jN (jv3 2 3 4 ?_))
   refine jS (jB (jS (jR (jM ?_))))
   refine jM ?_
   refine Ops.r (Run.index1 _ rfl rfl Try.underlying38 Try.sizeOf3 (by omega)) rfl ?_
   refine Ops.st (Acts.storeOwn i rfl rfl Try.sizeOf3 ho rfl (by omega) rfl) ?_
   rintro w3 ⟨ho, hf3, hs3⟩
   rw [IB_set] at ho
   have hob := hob.frm hf3 (by simp [ob]; omega)
   have hfr := hfr.own hf3 (fun x hx => by simp [ob] at hx; omega)
   refine jO (jN (jv3 2 3 4 ?_))
   refine jS (jS ?_)
   refine VC.split1 [(2, _), (3, _), (4, _)] (js3 rfl rfl rfl) 20 (.bool (decide ((144 ≤ i) ∧ (i ≤ 255)))) ?_ ?_
   ·
    by_cases hs0 : 144 ≤ i
    ·
     refine jR (jM ?_)
     refine Ops.r (Run.bin rfl rfl (Bin.leqN 144 _)) rfl ?_
     refine jM ?_
     refine jG ?_
     refine Ops.rg rfl au (Run.bin rfl rfl (Bin.leqN _ 255)) rfl ?_
     refine Ops.r (Run.pickT rfl rfl au) rfl ?_
     refine jO ?_
     refine jN ⟨(js4 (by rw [dand1 hs0]; rfl) rfl rfl rfl), rfl⟩
    ·
     refine jR (jM ?_)
     refine Ops.r (Run.bin rfl rfl (Bin.leqN 144 _)) rfl ?_
     refine jM ?_
     refine jU ?_
     refine jU ?_
     refine Ops.r (Run.pickF rfl rfl au) rfl ?_
     refine jO ?_
     refine jN ⟨(js4 (by rw [dand0 hs0]; rfl) rfl rfl rfl), rfl⟩
   ·
    intro Γ hΓ
    refine jN (VC.sub _ hΓ ?_)
    refine VC.condD rfl (fun hc2 => ?_) (fun hc2 => ?_)
    ·
     refine jR (jM ?_)
     refine jM ?_
     refine Ops.r (Run.index1 _ rfl rfl Try.underlying38 Try.sizeOf3 (by omega)) rfl ?_
     refine Ops.st (Acts.storeOwn i rfl rfl Try.sizeOf3 ho rfl (by omega) rfl) ?_
     rintro w3 ⟨ho, hf3, hs3⟩
     rw [IB_set] at ho
     have hob := hob.frm hf3 (by simp [ob]; omega)
     have hfr := hfr.own hf3 (fun x hx => by simp [ob] at hx; omega)
     refine jO (jN (jv3 2 3 4 ?_))
     refine jS ?_
     refine VC.split1 [(2, _), (3, _), (4, _)] (js3 rfl rfl rfl) 29 (.bool (decide ((256 ≤ i) ∧ (i ≤ 279)))) ?_ ?_
     ·
      by_cases hs0 : 256 ≤ i
      ·
       refine jR (jM ?_)
       refine Ops.r (Run.bin rfl rfl (Bin.leqN 256 _)) rfl ?_
       refine jM ?_
       refine jG ?_
       refine Ops.rg rfl au (Run.bin rfl rfl (Bin.leqN _ 279)) rfl ?_
       refine Ops.r (Run.pickT rfl rfl au) rfl ?_
       refine jO ?_
       refine jN ⟨(js4 (by rw [dand1 hs0]; rfl) rfl rfl rfl), rfl⟩
      ·
       refine jR (jM ?_)
       refine Ops.r (Run.bin rfl rfl (Bin.leqN 256 _)) rfl ?_
       refine jM ?_
       refine jU ?_
       refine jU ?_
       refine Ops.r (Run.pickF rfl rfl au) rfl ?_
       refine jO ?_
       refine jN ⟨(js4 (by rw [dand0 hs0]; rfl) rfl rfl rfl), rfl⟩
     ·
      intro Γ hΓ
      refine jN (VC.sub _ hΓ ?_)
      refine VC.condD rfl (fun hc3 => ?_) (fun hc3 => ?_)
      ·
       refine jR (jM ?_)
       refine jM ?_
       refine Ops.r (Run.index1 _ rfl rfl Try.underlying38 Try.sizeOf3 (by omega)) rfl ?_
       refine Ops.st (Acts.storeOwn i rfl rfl Try.sizeOf3 ho rfl (by omega) rfl) ?_
       rintro w3 ⟨ho, hf3, hs3⟩
       rw [IB_set] at ho
       have hob := hob.frm hf3 (by simp [ob]; omega)
       have hfr := hfr.own hf3 (fun x hx => by simp [ob] at hx; omega)
       refine jO ?_
       refine blockQ_n (jN ?_)
       refine jv3 2 3 4 ?_
       refine jR (jM ?_)
       refine Ops.r (Run.bin rfl rfl (Bin.add_i64 _ 1 (by omega))) rfl ?_
       refine jA ?_
       refine jO ?_
       refine jN ⟨(i + 1), (js3 rfl rfl rfl), ?_, ?_⟩
       ·
        exfalso; omega
       ·
        exfalso; omega
      ·
       refine jQ ?_
       refine blockQ_n (jN ?_)
       refine jv3 2 3 4 ?_
       refine jR (jM ?_)
       refine Ops.r (Run.bin rfl rfl (Bin.add_i64 _ 1 (by omega))) rfl ?_
       refine jA ?_
       refine jO ?_
       refine jN ⟨(i + 1), (js3 rfl rfl rfl), ?_, ?_⟩
       ·
        rw [List.set_set, upI_set _ _ _ _ hc1 (by rw [fixed_at i hc1, if_pos ⟨hc2.1, by omega⟩])] at ho
        exact ⟨hc1, ho, hob, hfr⟩
       ·
        omega
    ·
     refine jQ (jN (jv3 2 3 4 ?_))
     refine jS ?_
     refine VC.split1 [(2, _), (3, _), (4, _)] (js3 rfl rfl rfl) 29 (.bool (decide ((256 ≤ i) ∧ (i ≤ 279)))) ?_ ?_
     ·
      by_cases hs0 : 256 ≤ i
      ·
       refine jR (jM ?_)
       refine Ops.r (Run.bin rfl rfl (Bin.leqN 256 _)) rfl ?_
       refine jM ?_
       refine jG ?_
       refine Ops.rg rfl au (Run.bin rfl rfl (Bin.leqN _ 279)) rfl ?_
       refine Ops.r (Run.pickT rfl rfl au) rfl ?_
       refine jO ?_
       refine jN ⟨(js4 (by rw [dand1 hs0]; rfl) rfl rfl rfl), rfl⟩
      ·
       refine jR (jM ?_)
       refine Ops.r (Run.bin rfl rfl (Bin.leqN 256 _)) rfl ?_
       refine jM ?_
       refine jU ?_
       refine jU ?_
       refine Ops.r (Run.pickF rfl rfl au) rfl ?_
       refine jO ?_
       refine jN ⟨(js4 (by rw [dand0 hs0]; rfl) rfl rfl rfl), rfl⟩
     ·
      intro Γ hΓ
      refine jN (VC.sub _ hΓ ?_)
      refine VC.condD rfl (fun hc3 => ?_) (fun hc3 => ?_)
      ·
       refine jR (jM ?_)
       refine jM ?_
       refine Ops.r (Run.index1 _ rfl rfl Try.underlying38 Try.sizeOf3 (by omega)) rfl ?_
       refine Ops.st (Acts.storeOwn i rfl rfl Try.sizeOf3 ho rfl (by omega) rfl) ?_
       rintro w3 ⟨ho, hf3, hs3⟩
       rw [IB_set] at ho
       have hob := hob.frm hf3 (by simp [ob]; omega)
       have hfr := hfr.own hf3 (fun x hx => by simp [ob] at hx; omega)
       refine jO ?_
       refine blockQ_n (jN ?_)
       refine jv3 2 3 4 ?_
       refine jR (jM ?_)
       refine Ops.r (Run.bin rfl rfl (Bin.add_i64 _ 1 (by omega))) rfl ?_
       refine jA ?_
       refine jO ?_
       refine jN ⟨(i + 1), (js3 rfl rfl rfl), ?_, ?_⟩
       ·
        rw [List.set_set, upI_set _ _ _ _ hc1 (by rw [fixed_at i hc1, if_neg (by omega), if_pos ⟨hc3.1, by omega⟩])] at ho
        exact ⟨hc1, ho, hob, hfr⟩
       ·
        omega
      ·
       refine jQ ?_
       refine blockQ_n (jN ?_)
       refine jv3 2 3 4 ?_
       refine jR (jM ?_)
       refine Ops.r (Run.bin rfl rfl (Bin.add_i64 _ 1 (by omega))) rfl ?_
       refine jA ?_
       refine jO ?_
       refine jN ⟨(i + 1), (js3 rfl rfl rfl), ?_, ?_⟩
       ·
        rw [upI_set _ _ _ _ hc1 (by rw [fixed_at i hc1, if_neg (by omega), if_neg (by omega)])] at ho
        exact ⟨hc1, ho, hob, hfr⟩
       ·
        omega
  ·
   have hin : i = 288 := by omega
   subst hin
   rw [show upI fixedL 288 288 = fixedL by decide +kernel] at ho
   refine jX ?_
   refine thenQ_x (thenQ_x (blockQ_x ?_))
   refine jN (jv2 2 3 ?_)
   refine jS (jS (jR ?_))
   refine Ops.r (v := .int .i64 ((0 : Nat) : Int)) (Run.asg rfl) rfl ?_
   refine jO (jN (jB ?_))
   refine VC.loop (σ := Nat) (fun s => [(2, .slice (some ⟨ga, 0, none⟩) 288 288), (3, .slice (some ⟨gb, 0, none⟩) 32 32), (5, .int .i64 ((s : Nat) : Int))]) (fun s wr => s ≤ 32 ∧ Own wr 3 1 (some ⟨ga, 0, none⟩) 288 288 (IB fixedL) ∧ Own wr 3 1 (some ⟨gb, 0, none⟩) 32 32 (IB (upI fixedW 32 s)) ∧ Frm [] w wr) (fun s => 32 - s) 0 (js3 rfl rfl rfl) ⟨by omega, ho, hob, hfr⟩ ?_
   clear ho hob hfr
   rintro i wr ⟨hi, hoa, hq, hfr⟩
   refine jS (jS (jR (jM ?_)))
   refine Ops.r (Run.bin rfl rfl (Bin.lssN _ 32)) rfl ?_
   refine jO (jN (jv4 2 3 5 34 ?_))
   refine VC.condD rfl (fun hc4 => ?_) (fun hc4 => ?_)
   ·
    refine jQ (jN (jv3 2 3 5 ?_))
    refine jS (jB (jR (jM ?_)))
    refine jM ?_
    refine Ops.r (Run.index1 _ rfl rfl Try.underlying38 Try.sizeOf3 (by omega)) rfl ?_
    refine Ops.st (Acts.storeOwn i rfl rfl Try.sizeOf3 hq rfl (by omega) rfl) ?_
    rintro w3 ⟨hq, hf3, hs3⟩
    rw [IB_set] at hq
    have hoa := hoa.frm hf3 (by simp [ob]; omega)
    have hfr := hfr.own hf3 (fun x hx => by simp [ob] at hx; omega)
    refine jO ?_
    refine blockQ_n (jN ?_)
    refine jv3 2 3 5 ?_
    refine jR (jM ?_)
    refine Ops.r (Run.bin rfl rfl (Bin.add_i64 _ 1 (by omega))) rfl ?_
    refine jA ?_
    refine jO ?_
    refine jN ⟨(i + 1), (js3 rfl rfl rfl), ?_, ?_⟩
    ·
     have h5 : ∀ i, i < 32 → fixedW.getD i 0 = 5 := by decide +kernel
     rw [upI_set _ _ _ _ hc4 (h5 i hc4)] at hq
     exact ⟨hc4, hoa, hq, hfr⟩
    ·
     omega
   ·
    refine jX ?_
    refine thenQ_x (thenQ_x (blockQ_x ?_))
    refine jN (jv2 2 3 ?_)
    refine jS (jR (jM ?_))
    refine jM ?_
    refine jA ?_
    refine jA ?_
    refine jO (jN (jv2 0 1 ?_))
    refine jT ?_
    refine end2 rfl rfl ?_
    have hin : i = 32 := by omega
    subst hin
    rw [show upI fixedW 32 32 = fixedW by decide +kernel] at hq
    exact ⟨_, _, _, _, rfl, hoa, hq, hfr⟩
end Go.Proofs.Ytnmieihcjjiccaa
namespace Go.Proofs.Ytnmieihcjjiccaa
open Go.RowKit
def ResR (F : Except Nat (Nat × List Nat)) (p' : Nat) (out' : List Nat) (e' : Nat) : Prop := match F with
 | .ok x => e' = 0 ∧ p' = x.1 ∧ out' = x.2
 | .error k => e' = k ∧ k ≠ 0
end Go.Proofs.Ytnmieihcjjiccaa
namespace Go.Proofs.Ytnmieihcjjiccaa
open Go.RowKit
def Stg {α : Type} (F : Except Nat α) (e : Nat) (G : Except Nat α) : Prop := (e ≠ 0 ∧ F = .error e) ∨ (e = 0 ∧ F = G)
theorem Stg.left {α : Type} {F G G' : Except Nat α} {e : Nat} (h : Stg F e G) (he : e ≠ 0) : Stg F e G' := h.elim .inl (fun h => absurd h.1 he)
theorem Stg.right {α : Type} {F G : Except Nat α} (h : Stg F 0 G) : F = G := h.elim (fun h => absurd rfl h.1) (·.2)
theorem Stg.mk0 {α : Type} {F G : Except Nat α} (h : F = G) : Stg F 0 G := .inr ⟨rfl, h⟩
theorem Stg.num {α : Type} {F : Except Nat α} {L : List Bool} {n p e v p' e' : Nat} {f : Nat × Nat → Except Nat α} (h : Stg F e (bnd (takeF L n p) f)) (hN : NumR L n p e v p' e') : Stg F e' (f (v, p')) := by
 rcases hN with ⟨h1, rfl, rfl, rfl⟩ | ⟨rfl, h1, rfl⟩ | ⟨rfl, h1, _, _, rfl⟩
 ·
  exact h.left h1
 ·
  have := h.right; rw [h1, bnd_k] at this; exact .mk0 this
 ·
  have := h.right; rw [h1, bnd_e] at this; exact .inl ⟨by decide, this⟩
theorem Stg.fail {α : Type} {F G : Except Nat α} {e k : Nat} {c : Prop} [Decidable c] (h : Stg F e (if c then .error k else G)) (hk : k ≠ 0) : Stg F (if e = 0 ∧ c then k else e) G := by
 by_cases he : e = 0
 ·
  subst he
  by_cases hc : c
  ·
   rw [if_pos ⟨rfl, hc⟩]; have := h.right; rw [if_pos hc] at this; exact .inl ⟨hk, this⟩
  ·
   rw [if_neg (fun h => hc h.2)]; have := h.right; rw [if_neg hc] at this; exact .mk0 this
 ·
  rw [if_neg (fun h => he h.1)]; exact h.left he
theorem Stg.res {α : Type} {F : Except Nat α} {G : Except Nat (Nat × List Nat)} {K : Nat × List Nat → Except Nat α} {p' e' : Nat} {out' : List Nat} (h : Stg F 0 (bnd G K)) (hR : ResR G p' out' e') : Stg F e' (K (p', out')) := by
 have h := h.right
 cases G with
 | error k => obtain ⟨rfl, hk⟩ := hR; exact .inl ⟨hk, h⟩
 | ok x => obtain ⟨rfl, rfl, rfl⟩ := hR; exact .mk0 h
theorem bnd_assoc {α β γ : Type} (x : Except Nat α) (f : α → Except Nat β) (g : β → Except Nat γ) : bnd (bnd x f) g = bnd x fun y => bnd (f y) g := by cases x <;> rfl
theorem bnd_if {α β : Type} {c : Prop} [Decidable c] (x y : Except Nat α) (f : α → Except Nat β) : bnd (if c then x else y) f = if c then bnd x f else bnd y f := by split <;> rfl
theorem copyF_snoc : ∀ (n d : Nat) (out : List Nat), copyF (n + 1) d out = copyF n d out ++ [(copyF n d out).getD ((copyF n d out).length - d) 0]
 | 0, _, _ => rfl
 | n + 1, d, out => by rw [copyF, copyF_snoc n d]; rfl
theorem copyF_take : ∀ (n d : Nat) (out : List Nat), copyF n d out = out ++ (copyF n d out).drop out.length
 | 0, _, out => by simp [copyF]
 | n + 1, d, out => by
  rw [copyF_snoc]
  have ih := copyF_take n d out
  have hl := copyF_len n d out
  rw [List.drop_append_of_le_length (by omega), ← List.append_assoc, ← ih]
theorem longL_at : ∀ k, k < 29 → longL.getD k 0 = (longT.getD k (0, 0)).1 := by decide
theorem wayL_at : ∀ k, k < 30 → wayL.getD k 0 = (wayT.getD k (0, 0)).1 := by decide
def tokD (most : Nat) (out : List Nat) (n d0 : Nat) (u : Nat × Nat) : Except Nat (Bool × Nat × List Nat) :=
 if out.length < d0 + u.1 then .error 12 else if most < out.length + n then .error 13 else .ok (true, u.2, copyF n (d0 + u.1) out)
def tokW (L : List Bool) (most : Nat) (out : List Nat) (n : Nat) (y : Nat × Nat) : Except Nat (Bool × Nat × List Nat) :=
 if 30 ≤ y.1 then .error 11 else bnd (takeF L (wayT.getD y.1 (0, 0)).2 y.2) (tokD most out n (wayT.getD y.1 (0, 0)).1)
def tokR (L : List Bool) (b : List Int) (most : Nat) (out : List Nat) (x : Nat × Nat) : Except Nat (Bool × Nat × List Nat) :=
 if x.1 < 256 then (if out.length < most then .ok (true, x.2, out ++ [x.1]) else .error 13)
 else if x.1 = 256 then .ok (false, x.2, out)
 else if 285 < x.1 then .error 11
 else bnd (takeF L (longT.getD (x.1 - 257) (0, 0)).2 x.2) fun v => bnd (symF L b v.2) (tokW L most out ((longT.getD (x.1 - 257) (0, 0)).1 + v.1))
def tokK {α : Type} (L : List Bool) (a b : List Int) (most f : Nat) (K : Nat × List Nat → Except Nat α) (x : Bool × Nat × List Nat) : Except Nat α := bnd (if x.1 then tokensF L a b most f x.2.1 x.2.2 else .ok x.2) K
section
variable {α : Type} {F : Except Nat α} {K : Nat × List Nat → Except Nat α} {L : List Bool} {a b : List Int} {most f : Nat} {o : List Nat}
theorem Stg.fin {s p : Nat} (h : Stg F 0 (bnd (tokR L b most o (s, p)) (tokK L a b most f K))) (hs : s = 256) : Stg F 0 (K (p, o)) := by
 subst hs
 have h := h.right
 unfold tokR at h
 rw [if_neg (show ¬ 256 < 256 by decide), if_pos rfl] at h
 exact .mk0 h
theorem Stg.len {s p : Nat} (h : Stg F 0 (bnd (tokR L b most o (s, p)) (tokK L a b most f K))) (h1 : ¬ s < 256) (h2 : s ≠ 256) (h3 : ¬ 285 < s) :
  Stg F 0 (bnd (takeF L (longT.getD (s - 257) (0, 0)).2 p) fun v => bnd (symF L b v.2) fun y => bnd (tokW L most o ((longT.getD (s - 257) (0, 0)).1 + v.1) y) (tokK L a b most f K)) := by
 have h := h.right
 unfold tokR at h
 rw [if_neg h1, if_neg h2, if_neg h3, bnd_assoc] at h
 refine .mk0 (h.trans ?_)
 congr 1
 funext v
 rw [bnd_assoc]
theorem Stg.back {e n d0 : Nat} {u : Nat × Nat} (h : Stg F e (bnd (tokD most o n d0 u) (tokK L a b most f K))) : Stg F (if e = 0 ∧ o.length < d0 + u.1 then 12 else e) (bnd (if most < o.length + n then .error 13 else .ok (true, u.2, copyF n (d0 + u.1) o)) (tokK L a b most f K)) := by
 unfold tokD at h
 rw [bnd_if] at h
 exact h.fail (by decide)
theorem Stg.come {n d p e' : Nat} {o' : List Nat} (h : Stg F 0 (bnd (if most < o.length + n then .error 13 else .ok (true, p, copyF n d o)) (tokK L a b most f K))) (hp : (0 ≠ 0 ∧ e' = 0) ∨ (0 = 0 ∧ most < o.length + ((copyF n d o).drop o.length).length ∧ e' = 13) ∨ (0 = 0 ∧ ¬ most < o.length + ((copyF n d o).drop o.length).length ∧ e' = 0 ∧ o' = o ++ (copyF n d o).drop o.length)) : Stg F e' (bnd (tokensF L a b most f p o') K) := by
 have h := h.right
 rw [List.length_drop, copyF_len, Nat.add_sub_cancel_left, ← copyF_take] at hp
 rcases hp with ⟨h0, _⟩ | ⟨_, hm, rfl⟩ | ⟨_, hm, rfl, rfl⟩
 ·
  exact absurd rfl h0
 ·
  rw [if_pos hm] at h
  exact .inl ⟨by decide, h⟩
 ·
  rw [if_neg hm] at h
  exact .mk0 h
end
end Go.Proofs.Ytnmieihcjjiccaa
namespace Go.Proofs.Ytnmieihcjjiccaa
open Go.RowKit
section
variable {α : Type} {F : Except Nat α} {bs : List Nat} {m f q v e : Nat} {o : List Nat} {K : Nat × List Nat → Except Nat α}
theorem Stg.own (G : Except Nat (Nat × List Nat)) : Stg G 0 (bnd G .ok) := .mk0 (by cases G <;> rfl)
end
end Go.Proofs.Ytnmieihcjjiccaa
namespace Go.Proofs.Ytnmieihcjjiccaa
open Go.RowKit
theorem long_lt : ∀ i, i < 29 → 3 ≤ (longT.getD i (0, 0)).1 ∧ (longT.getD i (0, 0)).1 ≤ 258 ∧ (longT.getD i (0, 0)).2 ≤ 5 := by decide +kernel
theorem way_lt : ∀ i, i < 30 → 1 ≤ (wayT.getD i (0, 0)).1 ∧ (wayT.getD i (0, 0)).1 ≤ 24577 ∧ (wayT.getD i (0, 0)).2 ≤ 13 := by decide +kernel
theorem LC_at (t : List (Nat × Nat)) : ∀ i, i < t.length → (t.flatMap LC)[i * 2]? = some (.int .i64 (((t.getD i (0, 0)).1 : Nat) : Int)) ∧ (t.flatMap LC)[i * 2 + 1]? = some (.int .i64 (((t.getD i (0, 0)).2 : Nat) : Int)) := by
 induction t with
 | nil => intro i h; cases h
 | cons a r ih =>
  intro i h
  cases i with
  | zero => simp [LC]
  | succ i =>
   have := ih i (by simpa using h)
   rw [List.flatMap_cons]
   have e1 : (i + 1) * 2 = 2 + i * 2 := by omega
   have e2 : (i + 1) * 2 + 1 = 2 + (i * 2 + 1) := by omega
   rw [e1, show 2 + i * 2 + 1 = 2 + (i * 2 + 1) by omega]
   rw [List.getElem?_append_right (by simp [LC]), List.getElem?_append_right (by simp [LC])]
   simpa [LC] using this
theorem tab_cell {w : World} {g : Nat} {t : TypeId} {l : List (Nat × Nat)} (h : Blk w g t (l.flatMap LC).toArray) {i : Nat} (hi : i < l.length) :
  w.cell? ((⟨g, 0, none⟩ : Addr).add (i * 2)) = some (.int .i64 (((l.getD i (0, 0)).1 : Nat) : Int)) ∧ w.cell? (((⟨g, 0, none⟩ : Addr).add (i * 2)).add 1) = some (.int .i64 (((l.getD i (0, 0)).2 : Nat) : Int)) := by
 obtain ⟨h1, h2⟩ := LC_at l i hi
 have e1 := h.cells (i * 2) _ (by simpa using h1)
 have e2 := h.cells (i * 2 + 1) _ (by simpa using h2)
 refine ⟨e1, ?_⟩
 have : ((⟨g, 0, none⟩ : Addr).add (i * 2)).add 1 = (⟨g, 0, none⟩ : Addr).add (i * 2 + 1) := by unfold Addr.add; by_cases h : i * 2 = 0 <;> simp [h]
 rw [this]
 exact e2
set_option maxRecDepth 100000 in
theorem ilen_in (n : Nat) (w : World) (h1 : 3 ≤ n) (h2 : n ≤ 258) : Calls Try.prog 53 #[.int .i64 ((n : Nat) : Int)] w fun e w' => (∃ i, i < 29 ∧ (longT.getD i (0, 0)).1 ≤ n ∧ (∀ j, i < j → j < 29 → n < (longT.getD j (0, 0)).1) ∧ e = .returned (.tuple #[.int .i64 ((257 + i : Nat) : Int), .int .i64 (((longT.getD i (0, 0)).2 : Nat) : Int), .int .i64 ((n - (longT.getD i (0, 0)).1 : Nat) : Int)])) ∧ Frm [] w w' := by
 refine VC.calls (nt := 34) (res := #[.tmp 2, .tmp 3, .tmp 4]) Try.func53 rfl Try.ntmps53 Try.results53 rfl ?_
 refine jS (jR ?_)
 refine Ops.r (v := .int .i64 ((0 : Nat) : Int)) (Run.asg rfl) rfl ?_
 refine Ops.r (v := .int .i64 ((0 : Nat) : Int)) (Run.asg rfl) rfl ?_
 refine Ops.r (v := .int .i64 ((0 : Nat) : Int)) (Run.asg rfl) rfl ?_
 refine jO (jN (jv1 0 ?_))
 refine jS (jS (jR (jM ?_)))
 refine Ops.r (Run.bin rfl rfl (Bin.lssN _ 3)) rfl ?_
 refine jM ?_
 refine jG ?_
 refine Ops.rg rfl au (Run.bin rfl rfl (Bin.gtrN _ 258)) rfl ?_
 refine Ops.r (Run.pickF rfl rfl (by first | rfl | assumption | (simp; done) | (simp [*]; done) | (simp; omega))) rfl ?_
 refine jO (jN (jv2 0 12 ?_))
 refine VC.condF rfl (by first | rfl | assumption | (simp; done) | (simp [*]; done) | (simp; omega)) ?_
 refine jQ (jN (jv1 0 ?_))
 refine jS (jR ?_)
 refine Ops.cl (Enters.fn evs.nil Try.call83) (ilengths_spec _) rfl ?_
 rintro e w1 ⟨rfl, hf1⟩
 refine ⟨_, rfl, ?_⟩
 refine Ops.m (Does.alloc zero143) rfl ?_
 rintro _ w2 ⟨rfl, hF2⟩
 refine Ops.st (Acts.storeA rfl rfl Try.sizeOf143 hF2.blk rfl (flat_one LC LC_one longT)) ?_
 rintro w3 ⟨hb3, hf3, hs3⟩
 have hfr3 : Frm [] w w3 := (hf1.trans hF2.frm (by simp)).trans hf3 (fun x hx => .inr (by have := hf1.size; simp at hx; omega))
 have hb3 : Blk w3 w1.heap.size 143 (longT.flatMap LC).toArray := hb3
 generalize w1.heap.size = g at *
 refine jO (jN (jv2 0 5 ?_))
 refine jS (jR ?_)
 refine Ops.r (v := .int .i64 ((28 : Nat) : Int)) (Run.asg rfl) rfl ?_
 refine jO (jN (jB ?_))
 refine VC.loop (σ := Nat) (fun s => [(0, _), (5, _), (6, .int .i64 ((s : Nat) : Int))]) (fun s wr => s < 29 ∧ (∀ j, s < j → j < 29 → n < (longT.getD j (0, 0)).1) ∧ wr = w3) (fun s => s) 28 (js3 rfl rfl rfl) ⟨by omega, fun j h1 h2 => by omega, rfl⟩ ?_
 rintro i wr ⟨hi, hlast, rfl⟩
 obtain ⟨hc0, hc1⟩ := tab_cell hb3 (i := i) hi
 obtain ⟨hl1, hl2, hl3⟩ := long_lt i hi
 refine jS (jB (jS (jR (jM ?_))))
 refine Ops.r (Run.indexA i rfl rfl Try.underlying143 Try.sizeOf142 (by omega)) rfl ?_
 refine Ops.r (Run.fieldAddr rfl Try.underlying142 rfl Try.sizeOf3 (by decide)) rfl ?_
 refine Ops.r (Run.load rfl Try.isAgg3 hc0) rfl ?_
 refine jM ?_
 refine Ops.r (Run.bin rfl rfl (Bin.leqN _ _)) rfl ?_
 refine jO (jN (jv4 0 5 6 21 ?_))
 refine VC.condD rfl (fun hc2 => ?_) (fun hc2 => ?_)
 ·
  refine jS ?_
  refine VC.still jK jK ?_
  refine SOps.r (Run.mv rfl) rfl ?_
  refine SOps.r (Run.bin rfl rfl (Bin.add_i64 257 _ (by omega))) rfl ?_
  refine SOps.r (Run.mv rfl) rfl ?_
  refine SOps.r (Run.indexA i rfl rfl Try.underlying143 Try.sizeOf142 (by omega)) rfl ?_
  refine SOps.r (Run.fieldAddr rfl Try.underlying142 rfl Try.sizeOf3 (by decide)) rfl ?_
  refine SOps.r (Run.load rfl Try.isAgg3 hc1) rfl ?_
  refine SOps.r (Run.mv rfl) rfl ?_
  refine SOps.r (Run.mv rfl) rfl ?_
  refine SOps.r (Run.indexA i rfl rfl Try.underlying143 Try.sizeOf142 (by omega)) rfl ?_
  refine SOps.r (Run.fieldAddr rfl Try.underlying142 rfl Try.sizeOf3 (by decide)) rfl ?_
  refine SOps.r (Run.load rfl Try.isAgg3 hc0) rfl ?_
  refine SOps.r (Run.bin rfl rfl (Bin.sub_i64 _ _ (by omega) (by omega))) rfl ?_
  refine SOps.r (Run.asg rfl) rfl ?_
  refine SOps.r (Run.asg rfl) rfl ?_
  refine SOps.r (Run.asg rfl) rfl ?_
  refine SOps.nil ?_
  refine jN (jv3 2 3 4 ?_)
  refine jT ?_
  refine blockQ_r (thenQ_r (thenQ_r (blockQ_r (end3 rfl rfl rfl ?_))))
  exact ⟨⟨i, hi, hc2, hlast, rfl⟩, hfr3.drawn (Drawn.drew _)⟩
 ·
  have hi1 : 1 ≤ i := by rcases Nat.eq_zero_or_pos i with h | h; (subst h; exact absurd (show (longT.getD 0 (0, 0)).1 ≤ n from h1) hc2); exact h
  refine jQ ?_
  refine blockQ_n (jN ?_)
  refine jv3 0 5 6 ?_
  refine jR (jM ?_)
  refine Ops.r (Run.bin rfl rfl (Bin.sub_i64 _ 1 (by omega) (by omega))) rfl ?_
  refine jA ?_
  refine jO ?_
  refine jN ⟨(i - 1), (js3 rfl rfl rfl), ?_, ?_⟩
  ·
   refine ⟨by omega, fun j h3 h4 => ?_, rfl⟩
   by_cases hj : j = i
   ·
    subst hj; omega
   ·
    exact hlast j (by omega) h4
  ·
   first | omega | (dsimp only; omega)
set_option maxRecDepth 100000 in
theorem iway_in (n : Nat) (w : World) (h1 : 1 ≤ n) (h2 : n ≤ 32768) : Calls Try.prog 54 #[.int .i64 ((n : Nat) : Int)] w fun e w' => (∃ i, i < 30 ∧ (wayT.getD i (0, 0)).1 ≤ n ∧ (∀ j, i < j → j < 30 → n < (wayT.getD j (0, 0)).1) ∧ e = .returned (.tuple #[.int .i64 ((i : Nat) : Int), .int .i64 (((wayT.getD i (0, 0)).2 : Nat) : Int), .int .i64 ((n - (wayT.getD i (0, 0)).1 : Nat) : Int)])) ∧ Frm [] w w' := by
 refine VC.calls (nt := 33) (res := #[.tmp 2, .tmp 3, .tmp 4]) Try.func54 rfl Try.ntmps54 Try.results54 rfl ?_
 refine jS (jR ?_)
 refine Ops.r (v := .int .i64 ((0 : Nat) : Int)) (Run.asg rfl) rfl ?_
 refine Ops.r (v := .int .i64 ((0 : Nat) : Int)) (Run.asg rfl) rfl ?_
 refine Ops.r (v := .int .i64 ((0 : Nat) : Int)) (Run.asg rfl) rfl ?_
 refine jO (jN (jv1 0 ?_))
 refine jS (jS (jR (jM ?_)))
 refine Ops.r (Run.bin rfl rfl (Bin.lssN _ 1)) rfl ?_
 refine jM ?_
 refine jG ?_
 refine Ops.rg rfl au (Run.bin rfl rfl (Bin.gtrN _ 32768)) rfl ?_
 refine Ops.r (Run.pickF rfl rfl (by first | rfl | assumption | (simp; done) | (simp [*]; done) | (simp; omega))) rfl ?_
 refine jO (jN (jv2 0 12 ?_))
 refine VC.condF rfl (by first | rfl | assumption | (simp; done) | (simp [*]; done) | (simp; omega)) ?_
 refine jQ (jN (jv1 0 ?_))
 refine jS (jR ?_)
 refine Ops.cl (Enters.fn evs.nil Try.call84) (iways_spec _) rfl ?_
 rintro e w1 ⟨rfl, hf1⟩
 refine ⟨_, rfl, ?_⟩
 refine Ops.m (Does.alloc zero145) rfl ?_
 rintro _ w2 ⟨rfl, hF2⟩
 refine Ops.st (Acts.storeA rfl rfl Try.sizeOf145 hF2.blk rfl (flat_one LC LC_one wayT)) ?_
 rintro w3 ⟨hb3, hf3, hs3⟩
 have hfr3 : Frm [] w w3 := (hf1.trans hF2.frm (by simp)).trans hf3 (fun x hx => .inr (by have := hf1.size; simp at hx; omega))
 have hb3 : Blk w3 w1.heap.size 145 (wayT.flatMap LC).toArray := hb3
 generalize w1.heap.size = g at *
 refine jO (jN (jv2 0 5 ?_))
 refine jS (jR ?_)
 refine Ops.r (v := .int .i64 ((29 : Nat) : Int)) (Run.asg rfl) rfl ?_
 refine jO (jN (jB ?_))
 refine VC.loop (σ := Nat) (fun s => [(0, _), (5, _), (6, .int .i64 ((s : Nat) : Int))]) (fun s wr => s < 30 ∧ (∀ j, s < j → j < 30 → n < (wayT.getD j (0, 0)).1) ∧ wr = w3) (fun s => s) 29 (js3 rfl rfl rfl) ⟨by omega, fun j h1 h2 => by omega, rfl⟩ ?_
 rintro i wr ⟨hi, hlast, rfl⟩
 obtain ⟨hc0, hc1⟩ := tab_cell hb3 (i := i) hi
 obtain ⟨hl1, hl2, hl3⟩ := way_lt i hi
 refine jS (jB (jS (jR (jM ?_))))
 refine Ops.r (Run.indexA i rfl rfl Try.underlying145 Try.sizeOf142 (by omega)) rfl ?_
 refine Ops.r (Run.fieldAddr rfl Try.underlying142 rfl Try.sizeOf3 (by decide)) rfl ?_
 refine Ops.r (Run.load rfl Try.isAgg3 hc0) rfl ?_
 refine jM ?_
 refine Ops.r (Run.bin rfl rfl (Bin.leqN _ _)) rfl ?_
 refine jO (jN (jv4 0 5 6 21 ?_))
 refine VC.condD rfl (fun hc2 => ?_) (fun hc2 => ?_)
 ·
  refine jS ?_
  refine VC.still jK jK ?_
  refine SOps.r (Run.mv rfl) rfl ?_
  refine SOps.r (Run.mv rfl) rfl ?_
  refine SOps.r (Run.indexA i rfl rfl Try.underlying145 Try.sizeOf142 (by omega)) rfl ?_
  refine SOps.r (Run.fieldAddr rfl Try.underlying142 rfl Try.sizeOf3 (by decide)) rfl ?_
  refine SOps.r (Run.load rfl Try.isAgg3 hc1) rfl ?_
  refine SOps.r (Run.mv rfl) rfl ?_
  refine SOps.r (Run.mv rfl) rfl ?_
  refine SOps.r (Run.indexA i rfl rfl Try.underlying145 Try.sizeOf142 (by omega)) rfl ?_
  refine SOps.r (Run.fieldAddr rfl Try.underlying142 rfl Try.sizeOf3 (by decide)) rfl ?_
  refine SOps.r (Run.load rfl Try.isAgg3 hc0) rfl ?_
  refine SOps.r (Run.bin rfl rfl (Bin.sub_i64 _ _ (by omega) (by omega))) rfl ?_
  refine SOps.r (Run.asg rfl) rfl ?_
  refine SOps.r (Run.asg rfl) rfl ?_
  refine SOps.r (Run.asg rfl) rfl ?_
  refine SOps.nil ?_
  refine jN (jv3 2 3 4 ?_)
  refine jT ?_
  refine blockQ_r (thenQ_r (thenQ_r (blockQ_r (end3 rfl rfl rfl ?_))))
  exact ⟨⟨i, hi, hc2, hlast, rfl⟩, hfr3.drawn (Drawn.drew _)⟩
 ·
  have hi1 : 1 ≤ i := by rcases Nat.eq_zero_or_pos i with h | h; (subst h; exact absurd (show (wayT.getD 0 (0, 0)).1 ≤ n from h1) hc2); exact h
  refine jQ ?_
  refine blockQ_n (jN ?_)
  refine jv3 0 5 6 ?_
  refine jR (jM ?_)
  refine Ops.r (Run.bin rfl rfl (Bin.sub_i64 _ 1 (by omega) (by omega))) rfl ?_
  refine jA ?_
  refine jO ?_
  refine jN ⟨(i - 1), (js3 rfl rfl rfl), ?_, ?_⟩
  ·
   refine ⟨by omega, fun j h3 h4 => ?_, rfl⟩
   by_cases hj : j = i
   ·
    subst hj; omega
   ·
    exact hlast j (by omega) h4
  ·
   first | omega | (dsimp only; omega)
end Go.Proofs.Ytnmieihcjjiccaa
namespace Go.Proofs.Ytnmieihcjjiccaa
open Go.RowKit
theorem ilen_tok (n : Nat) (w : World) (h1 : 3 ≤ n) (h2 : n ≤ 258) : Calls Try.prog 53 #[.int .i64 ((n : Nat) : Int)] w fun e w' => e = .returned (.tuple #[.int .i64 ((257 + lenS n : Nat) : Int), .int .i64 (((longT.getD (lenS n) (0, 0)).2 : Nat) : Int), .int .i64 ((n - (longT.getD (lenS n) (0, 0)).1 : Nat) : Int)]) ∧ Frm [] w w' := by
 refine (ilen_in n w h1 h2).mono ?_
 rintro e w' ⟨⟨i, hi, h3, h4, rfl⟩, hf⟩
 have e1 : lenS n = i := symU_eq h3 29 hi h4
 rw [e1]
 exact ⟨rfl, hf⟩
theorem iway_tok (n : Nat) (w : World) (h1 : 1 ≤ n) (h2 : n ≤ 32768) : Calls Try.prog 54 #[.int .i64 ((n : Nat) : Int)] w fun e w' => e = .returned (.tuple #[.int .i64 ((wayS n : Nat) : Int), .int .i64 (((wayT.getD (wayS n) (0, 0)).2 : Nat) : Int), .int .i64 ((n - (wayT.getD (wayS n) (0, 0)).1 : Nat) : Int)]) ∧ Frm [] w w' := by
 refine (iway_in n w h1 h2).mono ?_
 rintro e w' ⟨⟨i, hi, h3, h4, rfl⟩, hf⟩
 have e1 : wayS n = i := symU_eq h3 30 hi h4
 rw [e1]
 exact ⟨rfl, hf⟩
theorem flat3 : ∀ (L : List Tk) (s : Nat) (_ : s < L.length), ((TC L).drop (s * 3)).take 3 = tokC (L.getD s (0, 0, 0))
 | a :: L, 0, _ => rfl
 | a :: L, s + 1, h => by
  have := flat3 L s (by simpa using h)
  rw [show TC (a :: L) = tokC a ++ TC L from rfl, show (s + 1) * 3 = (tokC a).length + s * 3 by simp [tokC]; omega, List.drop_length_add_append, List.getD_cons_succ]
  exact this
theorem tok_snoc {L : List Tk} {i : Nat} (h : i < L.length) : L.take (i + 1) = L.take i ++ [L.getD i (0, 0, 0)] := by
 rw [List.take_add_one, List.getElem?_eq_getElem h, List.getD_eq_getElem?_getD, List.getElem?_eq_getElem h]
 rfl
theorem codes_ok (A : Option Addr) (c0 : Nat) (l : List Int) (w : World) (h : LOk l) (hr : Rd w 1 A l.length (IB l)) :
  Calls Try.prog 31 #[.slice A l.length c0] w fun e w' => Frm [] w w' ∧ ∃ B c, e = .returned (.tuple #[.slice B l.length c, .int .i64 ((0 : Nat) : Int)]) ∧ Own w' 116 2 B l.length c ((codesL l).flatMap CB) := by
 have h1 : ¬ (chk l = 1 ∨ chk l = 8) := by
  unfold chk
  rw [if_neg (fun hn => hn h.1), if_neg (by have := h.2; omega)]
  split <;> omega
 refine (codes_spec A c0 l w (by have := h.1.1; omega) hr).mono ?_
 rintro e w' ⟨hf, h2⟩
 rw [if_neg h1] at h2
 obtain ⟨B, c, h3, h4, _⟩ := h2
 exact ⟨hf, B, c, h3, h4⟩
theorem IsW.new {w w' : World} {g : Nat} {A : Option Addr} {l : List Bool} (h : IsW w g A l) (f : Frm [] w w') : IsW w' g A l := h.frm f (by simp)
set_option maxRecDepth 100000 in
theorem mustI_spec (v : Value) (k : Value) (w : World) : Calls Try.prog 24 #[v, k] w fun e w' => e = .returned v ∧ w = w' := by
 refine VC.calls (nt := 6) (res := #[.tmp 4]) Try.func24 rfl Try.ntmps24 Try.results24 rfl ?_
 refine jS (jR (jA ?_))
 refine jO (jN (jv1 0 ?_))
 refine jS (jR (jM ?_))
 refine jA ?_
 refine jO (jN (jv1 4 ?_))
 refine jT ?_
 refine end1 rfl ?_
 exact ⟨rfl, rfl⟩
set_option maxRecDepth 100000 in
theorem mustC_spec (v : Value) (k : Value) (w : World) : Calls Try.prog 30 #[v, k] w fun e w' => e = .returned v ∧ w = w' := by
 refine VC.calls (nt := 6) (res := #[.tmp 4]) Try.func30 rfl Try.ntmps30 Try.results30 rfl ?_
 refine jS (jR (jA ?_))
 refine jO (jN (jv1 0 ?_))
 refine jS (jR (jM ?_))
 refine jA ?_
 refine jO (jN (jv1 4 ?_))
 refine jT ?_
 refine end1 rfl ?_
 exact ⟨rfl, rfl⟩
theorem up_w {w w1 : World} {g : Nat} {A A1 : Option Addr} (hA : ∀ x ∈ ob A1, x ∈ ob A ∨ w.heap.size ≤ x) (_ : w.heap.size ≤ w1.heap.size) : ∀ x ∈ g :: ob A1, x ∈ g :: ob A ∨ w.heap.size ≤ x := fun x hx => by
 rcases List.mem_cons.1 hx with rfl | hx
 ·
  exact .inl (by simp)
 ·
  rcases hA x hx with h | h
  ·
   exact .inl (by simp [h])
  ·
   exact .inr h
theorem up_a {w w1 : World} {A A1 A2 : Option Addr} (hA : ∀ x ∈ ob A1, x ∈ ob A ∨ w.heap.size ≤ x) (hs : w.heap.size ≤ w1.heap.size) (h2 : ∀ x ∈ ob A2, x ∈ ob A1 ∨ w1.heap.size ≤ x) : ∀ x ∈ ob A2, x ∈ ob A ∨ w.heap.size ≤ x := fun x hx => by
 rcases h2 x hx with h | h
 ·
  exact hA x h
 ·
  exact .inr (Nat.le_trans hs h)
set_option maxRecDepth 100000 in
theorem tokens_spec (g ct c1 c2 : Nat) (A Bt La Lb : Option Addr) (l : List Bool) (lt : List Tk) (a b : List Int) (w : World) (ha : LOk a) (hb : LOk b) (hna : 286 ≤ a.length) (hnb : 30 ≤ b.length) (hlt : ∀ t ∈ lt, TkOk t) (hll : lt.length ≤ 1000000) (hl : l.length ≤ 100000000) (hW : IsW w g A l) (hot : Own w 73 3 Bt lt.length ct (TC lt)) (hra : Rd w 1 La a.length (IB a)) (hrb : Rd w 1 Lb b.length (IB b)) :
  Calls Try.prog 21 #[.pointer (some ⟨g, 0, none⟩), .slice Bt lt.length ct, .slice La a.length c1, .slice Lb b.length c2] w fun e w' => e = .returned (.tuple #[]) ∧ WR w w' g A (l ++ toksB a b lt) := by
 have hfl := toks_flat ha hb hna hnb
 refine VC.calls (nt := 61) (res := #[]) Try.func21 rfl Try.ntmps21 Try.results21 rfl ?_
 refine jS (jR (jM ?_))
 refine Ops.cl (Enters.fn (evs.cons rfl evs.nil) Try.call31) (codes_ok La c1 a w ha hra) rfl ?_
 rintro e w1 ⟨hf1, Ba, ca, rfl, hoa⟩
 refine ⟨_, rfl, ?_⟩
 refine Ops.r (Run.extract rfl rfl) rfl ?_
 refine Ops.r (Run.extract rfl rfl) rfl ?_
 refine Ops.cl (Enters.fn (evs.cons rfl (evs.cons rfl evs.nil)) Try.call30) (mustC_spec _ _ _) rfl ?_
 rintro e _ ⟨rfl, rfl⟩
 refine ⟨_, rfl, ?_⟩
 refine jM ?_
 refine Ops.cl (Enters.fn (evs.cons rfl evs.nil) Try.call31) (codes_ok Lb c2 b w1 hb (hrb.frm hf1 (by simp))) rfl ?_
 rintro e w2 ⟨hf2, Bb, cb, rfl, hob⟩
 refine ⟨_, rfl, ?_⟩
 refine Ops.r (Run.extract rfl rfl) rfl ?_
 refine Ops.r (Run.extract rfl rfl) rfl ?_
 refine Ops.cl (Enters.fn (evs.cons rfl (evs.cons rfl evs.nil)) Try.call30) (mustC_spec _ _ _) rfl ?_
 rintro e _ ⟨rfl, rfl⟩
 refine ⟨_, rfl, ?_⟩
 have hoa := hoa.frm hf2 (by simp)
 have hf0 := hf1.trans hf2 (by simp)
 have hW0 := hW.new hf0
 have hot := hot.frm hf0 (by simp)
 refine jA ?_
 refine jA ?_
 refine jO (jN (jv4 0 1 8 9 ?_))
 refine jS (jS (jR (jM ?_)))
 refine Ops.r (Run.lenS rfl Try.underlying31) rfl ?_
 refine Ops.r (v := .int .i64 ((0 : Nat) : Int)) (Run.mv rfl) rfl ?_
 refine jO (jN (jv6 0 8 9 22 23 24 ?_))
 refine jB ?_
 refine VC.loop (σ := Nat × Option Addr) (fun s => [(0, .pointer (some ⟨g, 0, none⟩)), (8, .slice Ba a.length ca), (9, .slice Bb b.length cb), (22, .slice Bt lt.length ct), (23, .int .i64 ((lt.length : Nat) : Int)), (24, .int .i64 ((s.1 : Nat) : Int))]) (fun s wr => s.1 ≤ lt.length ∧ IsW wr g s.2 (l ++ (lt.take s.1).flatMap (tokB a b)) ∧ Own wr 116 2 Ba a.length ca ((codesL a).flatMap CB) ∧ Own wr 116 2 Bb b.length cb ((codesL b).flatMap CB) ∧ Own wr 73 3 Bt lt.length ct (TC lt) ∧ Frm (g :: ob A) w wr ∧ ∀ x ∈ ob s.2, x ∈ ob A ∨ w.heap.size ≤ x) (fun s => lt.length - s.1) (0, A) (js6 rfl rfl rfl rfl rfl rfl) ⟨Nat.zero_le _, by simpa using hW0, hoa, hob, hot, hf0.mono (by simp), fun x hx => .inl hx⟩ ?_
 rintro ⟨i, A1⟩ wr ⟨hi, hW, hoa, hob, hot, hfr, hA1⟩
 dsimp only at hi hW hA1 ⊢
 have hfi := hfl (lt.take i) (fun t ht => hlt t (List.mem_of_mem_take ht))
 rw [List.length_take, Nat.min_eq_left hi] at hfi
 refine jS (jR ?_)
 refine Ops.r (Run.bin rfl rfl (Bin.lssN _ _)) rfl ?_
 refine jO (jN (jS ?_))
 refine VC.condD rfl (fun hc1 => ?_) (fun hc1 => ?_)
 ·
  obtain ⟨ad, rfl, hel⟩ := hot.rd.elem hc1
  rw [flat3 lt i hc1] at hel
  have hsn := tok_snoc hc1
  have hqok := hlt (lt.getD i (0, 0, 0)) (by rw [List.getD_eq_getElem?_getD, List.getElem?_eq_getElem hc1]; exact List.getElem_mem hc1)
  generalize lt.getD i (0, 0, 0) = q at hel hsn hqok
  refine jQ (jN (jv6 0 8 9 22 23 24 ?_))
  refine jS (jB (jS (jR ?_)))
  refine Ops.r (Run.indexS _ rfl rfl Try.underlying31 Try.sizeOf73 (by omega)) rfl ?_
  refine Ops.r (Run.loadA rfl Try.isAgg73 Try.sizeOf73 hel (by first | rfl | (simp; done))) rfl ?_
  refine Ops.m (Does.alloc zero73) rfl ?_
  rintro _ w1 ⟨rfl, hF1⟩
  refine Ops.st (Acts.storeA rfl rfl Try.sizeOf73 hF1.blk rfl (by intro v hv; exact TC_one [q] v (by simpa [TC] using hv))) ?_
  rintro w2 ⟨hb11, hf12, hs12⟩
  have hf2 : Frm [] wr w2 := hF1.frm.own hf12 (by simp)
  have hW := hW.new hf2
  have hoa := hoa.frm hf2 (by simp)
  have hob := hob.frm hf2 (by simp)
  have hot := hot.frm hf2 (by simp)
  have hfr0 := hfr
  have hfr := hfr.trans hf2 (by simp)
  refine jO (jN (jv7 0 8 9 11 22 23 24 ?_))
  refine jS (jS (jR ?_))
  refine Ops.r (Run.fieldAddr rfl Try.underlying73 rfl Try.sizeOf3 (by decide)) rfl ?_
  refine Ops.r (Run.load rfl Try.isAgg3 (hb11.cell 1)) rfl ?_
  refine Ops.r (Run.bin rfl rfl (Bin.eqlN _ 0)) rfl ?_
  refine jO (jN (jv8 0 8 9 11 22 23 24 30 ?_))
  refine VC.condD rfl (fun hc2 => ?_) (fun hc2 => ?_)
  ·
   have hq8 : q.1 < 256 := by rcases hqok with ⟨_, _, h⟩ | ⟨_, h, _⟩ <;> omega
   have etok : tokB a b q = cbits a q.1 := by unfold tokB; rw [if_pos hc2]
   refine jS (jR (jM ?_))
   refine jM ?_
   refine Ops.r (Run.fieldAddr rfl Try.underlying73 rfl Try.sizeOf5 (by decide)) rfl ?_
   refine Ops.r (Run.load rfl Try.isAgg5 (hb11.cell 0)) rfl ?_
   refine Ops.r (Run.convN _ rfl Try.underlying5 Try.underlying3 (by simp only [bmax]; omega)) rfl ?_
   refine Ops.cl (Enters.fn (evs.cons rfl (evs.cons rfl (evs.cons rfl evs.nil))) Try.call52) (cput_spec g q.1 ca A1 Ba _ a w2 ha.1 ha.2 (by omega) (by rw [List.length_append]; omega) hW hoa.rd) rfl ?_
   rintro e w3 ⟨⟨k, rfl⟩, A2, hW3, hf7, hA3⟩
   refine ⟨_, rfl, ?_⟩
   have hoa := hW.keepO hf7 hoa (by decide) (by decide)
   have hob := hW.keepO hf7 hob (by decide) (by decide)
   have hot := hW.keepO hf7 hot (by decide) (by decide)
   have hfr' := hfr.trans hf7 (fun x hx => up_w hA1 hfr.size x hx)
   have hA1 := up_a hA1 hfr.size hA3
   refine jO (jN (jv6 0 8 9 22 23 24 ?_))
   refine jX ?_
   refine thenQ_x (blockQ_x ?_)
   refine jN (jR ?_)
   refine Ops.r (Run.bin rfl rfl (Bin.add_i64 _ 1 (by omega))) rfl ?_
   refine jM ?_
   refine jO ?_
   refine jN ⟨(i + 1, A2), (js6 rfl rfl rfl rfl rfl rfl), ?_, ?_⟩
   ·
    exact ⟨hc1, by rw [hsn, List.flatMap_append, List.flatMap_singleton, etok, ← List.append_assoc]; exact hW3, hoa, hob, hot, hfr', hA1⟩
   ·
    first | omega | (dsimp only; omega)
  ·
   obtain ⟨q1, q3, q4, q5, q6⟩ : q.1 = 0 ∧ 3 ≤ q.2.1 ∧ q.2.1 ≤ 258 ∧ 1 ≤ q.2.2 ∧ q.2.2 ≤ 32768 := by
    rcases hqok with ⟨h, _⟩ | h
    ·
     exact absurd h hc2
    ·
     exact h
   have etok : tokB a b q = lenB a q.2.1 ++ wayB b q.2.2 := by unfold tokB; rw [if_neg hc2]
   have hlf := lenS_facts q3 q4
   have hwf := wayS_facts q5 q6
   have hc11 := cbits_len ha.1 ha.2 (show 257 + lenS q.2.1 < a.length by omega)
   refine jQ (jN (jv7 0 8 9 11 22 23 24 ?_))
   refine jS ?_
   refine VC.held (fun v => Blk v wr.heap.size 73 (tokC q).toArray) jK ?_
   have hS : (fun v => Blk v wr.heap.size 73 (tokC q).toArray) w2.drew := hb11.drawn (Drawn.drew _)
   have hW := hW.new (Drawn.drew w2).frm
   have hoa := hoa.frm (Drawn.drew w2).frm (by simp)
   have hob := hob.frm (Drawn.drew w2).frm (by simp)
   have hot := hot.frm (Drawn.drew w2).frm (by simp)
   have hfr := hfr.drawn (Drawn.drew w2)
   refine jH 0 rfl hS (fun w0 hw0 => Run.mv rfl) ?_
   refine jH 1 rfl hS (fun w0 hw0 => Run.mv rfl) ?_
   refine jH 3 rfl hS (fun w0 hw0 => Run.fieldAddr rfl Try.underlying73 rfl Try.sizeOf3 (by decide)) ?_
   refine jH 4 rfl hS (fun w0 hw0 => Run.load rfl Try.isAgg3 (hw0.cell 1)) ?_
   refine HOps.cl 2 rfl jK (Enters.fn (evs.cons rfl (evs.cons rfl evs.nil)) Try.call29) (more_spec (.pointer (some ⟨g, 0, none⟩)) (.slice Ba a.length ca) rfl rfl _) trivial rfl rfl ?_
   rintro e w5 ⟨g2, g3, rfl, hg2, hg3, hf5⟩
   have hS := hS.frm hf5 (by simp)
   have hW := hW.new hf5
   have hoa := hoa.frm hf5 (by simp)
   have hob := hob.frm hf5 (by simp)
   have hot := hot.frm hf5 (by simp)
   have hfr := hfr.trans hf5 (by simp)
   refine ⟨_, rfl, hS, ?_⟩
   refine HOps.cl 5 rfl jK (Enters.fn (evs.cons rfl evs.nil) Try.call53) (ilen_tok _ _ q3 q4) trivial rfl rfl ?_
   rintro e w6 ⟨rfl, hf6⟩
   have hS := hS.frm hf6 (by simp)
   have hW := hW.new hf6
   have hoa := hoa.frm hf6 (by simp)
   have hob := hob.frm hf6 (by simp)
   have hot := hot.frm hf6 (by simp)
   have hfr := hfr.trans hf6 (by simp)
   have hg2 := hg2.frm hf6 (by simp)
   have hg3 := hg3.frm hf6 (by simp)
   refine ⟨_, rfl, hS, ?_⟩
   refine jH 6 rfl hS (fun w0 hw0 => Run.extract rfl rfl) ?_
   refine jH 7 rfl hS (fun w0 hw0 => Run.extract rfl rfl) ?_
   refine jH 8 rfl hS (fun w0 hw0 => Run.extract rfl rfl) ?_
   refine HOps.cl 9 rfl jK (Enters.dyn rfl (evs.cons rfl (evs.cons rfl (evs.cons rfl evs.nil))) Try.call59) (more1_spec g g2 g3 (257 + lenS q.2.1) (longT.getD (lenS q.2.1) (0, 0)).2 (q.2.1 - (longT.getD (lenS q.2.1) (0, 0)).1) ca A1 Ba _ a w6 ha.1 ha.2 (by omega) hlf.2.2.1 (by omega) (by rw [List.length_append]; omega) hW hoa hg2 hg3) trivial rfl rfl ?_
   rintro e w7 ⟨rfl, A2, hW3, hf7, hA3⟩
   have hS := hW.keepB hf7 hS (by decide) (by decide)
   have hoa := hW.keepO hf7 hoa (by decide) (by decide)
   have hob := hW.keepO hf7 hob (by decide) (by decide)
   have hot := hW.keepO hf7 hot (by decide) (by decide)
   have hA1n := up_a hA1 hfr.size hA3
   have hfr := hfr.trans hf7 (fun x hx => up_w hA1 hfr.size x hx)
   have hA1 := hA1n
   have hW := hW3
   refine ⟨_, rfl, hS, ?_⟩
   refine HOps.done jK ?_
   refine jN (jv7 0 8 9 11 22 23 24 ?_)
   refine VC.held (fun v => Blk v wr.heap.size 73 (tokC q).toArray) jK ?_
   have hS : (fun v => Blk v wr.heap.size 73 (tokC q).toArray) w7.drew := hS.drawn (Drawn.drew _)
   have hW := hW.new (Drawn.drew w7).frm
   have hoa := hoa.frm (Drawn.drew w7).frm (by simp)
   have hob := hob.frm (Drawn.drew w7).frm (by simp)
   have hot := hot.frm (Drawn.drew w7).frm (by simp)
   have hfr := hfr.drawn (Drawn.drew w7)
   refine jH 0 rfl hS (fun w0 hw0 => Run.mv rfl) ?_
   refine jH 1 rfl hS (fun w0 hw0 => Run.mv rfl) ?_
   refine jH 3 rfl hS (fun w0 hw0 => Run.fieldAddr rfl Try.underlying73 rfl Try.sizeOf3 (by decide)) ?_
   refine jH 4 rfl hS (fun w0 hw0 => Run.load rfl Try.isAgg3 (hw0.cell 2)) ?_
   refine HOps.cl 2 rfl jK (Enters.fn (evs.cons rfl (evs.cons rfl evs.nil)) Try.call29) (more_spec (.pointer (some ⟨g, 0, none⟩)) (.slice Bb b.length cb) rfl rfl _) trivial rfl rfl ?_
   rintro e w8 ⟨g2, g3, rfl, hg2, hg3, hf5⟩
   have hS := hS.frm hf5 (by simp)
   have hW := hW.new hf5
   have hoa := hoa.frm hf5 (by simp)
   have hob := hob.frm hf5 (by simp)
   have hot := hot.frm hf5 (by simp)
   have hfr := hfr.trans hf5 (by simp)
   refine ⟨_, rfl, hS, ?_⟩
   refine HOps.cl 5 rfl jK (Enters.fn (evs.cons rfl evs.nil) Try.call54) (iway_tok _ _ q5 q6) trivial rfl rfl ?_
   rintro e w9 ⟨rfl, hf6⟩
   have hS := hS.frm hf6 (by simp)
   have hW := hW.new hf6
   have hoa := hoa.frm hf6 (by simp)
   have hob := hob.frm hf6 (by simp)
   have hot := hot.frm hf6 (by simp)
   have hfr := hfr.trans hf6 (by simp)
   have hg2 := hg2.frm hf6 (by simp)
   have hg3 := hg3.frm hf6 (by simp)
   refine ⟨_, rfl, hS, ?_⟩
   refine jH 6 rfl hS (fun w0 hw0 => Run.extract rfl rfl) ?_
   refine jH 7 rfl hS (fun w0 hw0 => Run.extract rfl rfl) ?_
   refine jH 8 rfl hS (fun w0 hw0 => Run.extract rfl rfl) ?_
   refine HOps.cl 9 rfl jK (Enters.dyn rfl (evs.cons rfl (evs.cons rfl (evs.cons rfl evs.nil))) Try.call59) (more1_spec g g2 g3 (wayS q.2.2) (wayT.getD (wayS q.2.2) (0, 0)).2 (q.2.2 - (wayT.getD (wayS q.2.2) (0, 0)).1) cb A2 Bb _ b w9 hb.1 hb.2 (by omega) hwf.2.2.1 (by omega) (by simp only [List.length_append, bitsL_len]; omega) hW hob hg2 hg3) trivial rfl rfl ?_
   rintro e w10 ⟨rfl, A3, hW3, hf7, hA3⟩
   have hS := hW.keepB hf7 hS (by decide) (by decide)
   have hoa := hW.keepO hf7 hoa (by decide) (by decide)
   have hob := hW.keepO hf7 hob (by decide) (by decide)
   have hot := hW.keepO hf7 hot (by decide) (by decide)
   have hA1n := up_a hA1 hfr.size hA3
   have hfr := hfr.trans hf7 (fun x hx => up_w hA1 hfr.size x hx)
   have hA1 := hA1n
   have hW := hW3
   refine ⟨_, rfl, hS, ?_⟩
   refine HOps.done jK ?_
   refine blockQ_n (jN ?_)
   refine jv6 0 8 9 22 23 24 ?_
   refine jR ?_
   refine Ops.r (Run.bin rfl rfl (Bin.add_i64 _ 1 (by omega))) rfl ?_
   refine jM ?_
   refine jO ?_
   refine jN ⟨(i + 1, A3), (js6 rfl rfl rfl rfl rfl rfl), ?_, ?_⟩
   ·
    exact ⟨hc1, by rw [hsn, List.flatMap_append, List.flatMap_singleton, etok]; unfold lenB wayB; simpa [List.append_assoc] using hW, hoa, hob, hot, hfr, hA1⟩
   ·
    first | omega | (dsimp only; omega)
 ·
  refine jX ?_
  refine thenQ_x (thenQ_x (blockQ_x ?_))
  refine jN (jv2 0 8 ?_)
  refine jR (jM ?_)
  refine jM ?_
  refine Ops.cl (Enters.fn (evs.cons rfl (evs.cons rfl (evs.cons rfl evs.nil))) Try.call52) (cput_spec g 256 ca A1 Ba _ a wr ha.1 ha.2 (by omega) (by rw [List.length_append]; omega) hW hoa.rd) rfl ?_
  rintro e w3 ⟨⟨k, rfl⟩, h60⟩
  refine ⟨_, rfl, ?_⟩
  refine jO ?_
  refine end0n ?_
  have ei : i = lt.length := by omega
  subst ei
  rw [List.take_length, List.append_assoc] at h60
  exact ⟨rfl, WR.trans hfr hA1 h60⟩
end Go.Proofs.Ytnmieihcjjiccaa
namespace Go.Proofs.Ytnmieihcjjiccaa
open Go.RowKit
section
variable {P : Program} {n : NF} {ops : Array Oper} {S : World → Prop} {Pn : List PanicEntry → World → Prop} {L fuel : Nat} {listed : Array Bool} {Γ : Env} {w : World} {K : Env → World → Prop}
theorem HOps.moreC {a : Addr} {v : Value} (_ : w.cell? a = some v) (h : HOps P n ops (fun u => S u ∧ u.cell? a = some v) Pn L fuel listed Γ w K) : HOps P n ops S Pn L fuel listed Γ w K := HOps.more (fun u => S u ∧ u.cell? a = some v) (fun _ h => h.1) h
end
theorem Acts.store0 {P : Program} {Γ : Env} {w : World} {dst : Option Nat} {T : TypeId} {pos : String} {after : Array Edge} {g : Option (Nat × Bool)} {t e : TypeId} {x y : Operand} {gb i : Nat} {cs : Array Value} {v : Value} (hx : ev? Γ x = some (.pointer (some ((⟨gb, 0, none⟩ : Addr).add i)))) (hy : ev? Γ y = some v)
  (hz : ∀ w, (sizeOf t).run P w = .ok 1 w) (hb : Blk w gb e cs) (hi0 : i < cs.size) (h1 : v.oneCell' = true) :
  Acts P ⟨dst, .store t x y, T, pos, after, g⟩ Γ w (fun w' => Blk w' gb e (cs.setIfInBounds i v) ∧ Frm [gb] w w' ∧ w'.heap.size = w.heap.size) :=
 Acts.store (hx.trans (by rw [add_mk])) hy hz hb (by rw [Nat.blt_eq]; exact hi0) h1
theorem compl_toNat (n : Nat) (h : n ≤ 4611686018427387904) : (BitVec.ofInt 64 (-1) ^^^ BitVec.ofInt 64 (n : Int)).toNat = 18446744073709551615 - n := by
 have e1 : BitVec.ofInt 64 (-1) = BitVec.allOnes 64 := by decide
 have e2 : BitVec.ofInt 64 (n : Int) = BitVec.ofNat 64 n := BitVec.ofInt_natCast 64 n
 rw [e1, e2, BitVec.allOnes_xor, BitVec.toNat_not, BitVec.toNat_ofNat]
 have : n % 2 ^ 64 = n := Nat.mod_eq_of_lt (by omega)
 rw [this]
theorem Run.compl {P : Program} {Γ : Env} {w : World} {dst : Option Nat} {xT T : TypeId} {pos : String} {after : Array Edge} {g : Option (Nat × Bool)} {x : Operand} (n : Nat) (hx : ev? Γ x = some (.int .i64 (n : Int))) (h : n ≤ 4611686018427387904) : Run P ⟨dst, .unOp .xor xT x, T, pos, after, g⟩ Γ w (.int .i64 (-(n : Int) - 1)) := fun ρ hρ => by
 have e : IntKind.i64.wrap ((18446744073709551615 - n : Nat) : Int) = -(n : Int) - 1 := by
  simp only [IntKind.wrap, IntKind.bits, IntKind.signed, Bool.true_and, decide_eq_true_eq, Nat.reduceSub, ge_iff_le]
  have h2 : (9223372036854775808 : Int) ≤ ((18446744073709551615 - n : Nat) : Int) % 18446744073709551616 := by omega
  rw [if_pos (by exact h2)]
  omega
 have e2 : (Op.unary .xor (.int .i64 (n : Int))).run P w = .ok (.int .i64 (-(n : Int) - 1)) w := by
  show Sem.run P (pure (Value.int .i64 (IntKind.i64.wrap ((BitVec.ofInt 64 (-1) ^^^ BitVec.ofInt 64 (n : Int)).toNat)))) w = _
  rw [compl_toNat n h, e]
  rfl
 simp only [execOp, hρ _ _ hx, Sem.run_bind, e2, Result.andThen_ok, Sem.run_pure]
theorem wrap_compl (n : Nat) (h : n ≤ 65535) : IntKind.u8.wrap (-(n : Int) - 1) = (((65535 - n) % 256 : Nat) : Int) := by
 simp only [IntKind.wrap, IntKind.bits, IntKind.signed, Bool.false_and, Bool.false_eq_true, if_false]; omega
theorem wrap_compl8 (n : Nat) (h : n ≤ 65535) : IntKind.u8.wrap (-((n / 256 : Nat) : Int) - 1) = (((65535 - n) / 256 : Nat) : Int) := by
 simp only [IntKind.wrap, IntKind.bits, IntKind.signed, Bool.false_and, Bool.false_eq_true, if_false]; omega
theorem Bin.shr_neg8 {k' : IntKind} (n : Nat) : Bin .shr .i64 (-(n : Int) - 1) k' ((8 : Nat) : Int) (.int .i64 (-((n / 256 : Nat) : Int) - 1)) := fun P T w => by
 have h0 : ¬ (((8 : Nat) : Int) < 0) := by omega
 have e : (-(n : Int) - 1).fdiv (2 ^ (min ((8 : Nat) : Int).toNat IntKind.i64.bits)) = -((n / 256 : Nat) : Int) - 1 := by
  show (-(n : Int) - 1).fdiv 256 = _
  rw [Int.fdiv_eq_ediv_of_nonneg _ (by decide)]
  omega
 simp only [binOp, Op.shift, h0, if_false, e]
 rfl
end Go.Proofs.Ytnmieihcjjiccaa
namespace Go.Proofs.Ytnmieihcjjiccaa
open Go.RowKit
theorem IsU.keepB {w w' : World} {g x : Nat} {A : Option Addr} {l : List Bool} {t : TypeId} {cs : Array Value} (h : IsU w g A l) (f : Frm (g :: ob A) w w') (hb : Blk w x t cs) (h1 : 67 ≠ t) (h2 : 4 ≠ t) : Blk w' x t cs := by
 obtain ⟨c, h3, h4⟩ := h
 refine hb.frm f (fun hx => ?_)
 rcases List.mem_cons.1 hx with rfl | hx
 ·
  exact h3.ne hb h1 rfl
 ·
  exact h4.ne_blk hb h2 hx
theorem IsU.keepO {w w' : World} {g e size n c : Nat} {A B : Option Addr} {l : List Bool} {xs : List Value} (h : IsU w g A l) (f : Frm (g :: ob A) w w') (ho : Own w e size B n c xs) (h1 : 67 ≠ e) (h2 : 4 ≠ e) : Own w' e size B n c xs := by
 obtain ⟨c2, h3, h4⟩ := h
 refine ho.frm f (fun x hx hx2 => ?_)
 rcases List.mem_cons.1 hx2 with rfl | hx2
 ·
  exact ho.ne_blk h3 (Ne.symm h1) hx
 ·
  exact h4.ne_own ho h2 x hx2 hx
theorem IsU.new {w w' : World} {g : Nat} {A : Option Addr} {l : List Bool} (h : IsU w g A l) (f : Frm [] w w') : IsU w' g A l := h.frm f (by simp)
theorem rcodes_ok (A : Option Addr) (c0 : Nat) (l : List Int) (w : World) (h : LOk l) (hr : Rd w 1 A l.length (IB l)) :
  Calls Try.prog 43 #[.slice A l.length c0] w fun e w' => ∃ B c, e = .returned (.slice B l.length c) ∧ Own w' 116 2 B l.length c ((codesL l).flatMap CB) ∧ Frm [] w w' := by
 refine (refCodes_spec A c0 l w h.1 hr).mono ?_
 rintro e w' ⟨B, c, h1, h2, h3, _⟩
 exact ⟨B, c, h1, h2, h3⟩
theorem rsymL (n : Nat) : symV longL n 29 = lenS n := symV_map longT n 29 (by decide)
theorem rsymW (n : Nat) : symV wayL n 30 = wayS n := symV_map wayT n 30 (by decide)
theorem rsym_len (A : Option Addr) (c n : Nat) (w : World) (hr : Rd w 1 A 29 (NI longL)) : Calls Try.prog 37 #[.slice A 29 c, .int .i64 ((n : Nat) : Int)] w fun e w' => e = .returned (.int .i64 ((lenS n : Nat) : Int)) ∧ w = w' := by
 rw [← rsymL n]
 exact rsymb_spec A c n longL w (by decide) hr
theorem rsym_way (A : Option Addr) (c n : Nat) (w : World) (hr : Rd w 1 A 30 (NI wayL)) : Calls Try.prog 37 #[.slice A 30 c, .int .i64 ((n : Nat) : Int)] w fun e w' => e = .returned (.int .i64 ((wayS n : Nat) : Int)) ∧ w = w' := by
 rw [← rsymW n]
 exact rsymb_spec A c n wayL w (by decide) hr
theorem UR.trans {w w1 w2 : World} {g : Nat} {A A1 : Option Addr} {l2 : List Bool} (f : Frm (g :: ob A) w w1) (hA : ∀ x ∈ ob A1, x ∈ ob A ∨ w.heap.size ≤ x) (h : UR w1 w2 g A1 l2) : UR w w2 g A l2 := by
 obtain ⟨A2, h1, h2, h3⟩ := h
 refine ⟨A2, h1, f.trans h2 (fun x hx => ?_), fun x hx => ?_⟩
 ·
  rcases List.mem_cons.1 hx with rfl | hx
  ·
   exact .inl (by simp)
  ·
   rcases hA x hx with h | h
   ·
    exact .inl (by simp [h])
   ·
    exact .inr h
 ·
  rcases h3 x hx with h | h
  ·
   exact hA x h
  ·
   exact .inr (Nat.le_trans f.size h)
set_option maxRecDepth 100000 in
theorem otokens_spec (g ct c1 c2 : Nat) (A Bt La Lb : Option Addr) (l : List Bool) (lt : List Tk) (a b : List Int) (w : World) (ha : LOk a) (hb : LOk b) (hna : 286 ≤ a.length) (hnb : 30 ≤ b.length) (hlt : ∀ t ∈ lt, TkOk t) (hll : lt.length ≤ 1000000) (hl : l.length ≤ 100000000) (hU : IsU w g A l) (hot : Own w 73 3 Bt lt.length ct (TC lt)) (hra : Rd w 1 La a.length (IB a)) (hrb : Rd w 1 Lb b.length (IB b)) :
  Calls Try.prog 34 #[.pointer (some ⟨g, 0, none⟩), .slice Bt lt.length ct, .slice La a.length c1, .slice Lb b.length c2] w fun e w' => e = .returned (.tuple #[]) ∧ UR w w' g A (l ++ toksB a b lt) := by
 have hfl := toks_flat ha hb hna hnb
 refine VC.calls (nt := 78) (res := #[]) Try.func34 rfl Try.ntmps34 Try.results34 rfl ?_
 refine jS (jR (jM ?_))
 refine Ops.cl (Enters.fn (evs.cons rfl evs.nil) Try.call43) (rcodes_ok La c1 a w ha hra) rfl ?_
 rintro e w1 ⟨Ba, ca, rfl, hoa, hf1⟩
 refine ⟨_, rfl, ?_⟩
 refine jM ?_
 refine Ops.cl (Enters.fn (evs.cons rfl evs.nil) Try.call43) (rcodes_ok Lb c2 b w1 hb (hrb.frm hf1 (by simp))) rfl ?_
 rintro e w2 ⟨Bb, cb, rfl, hob, hf2⟩
 refine ⟨_, rfl, ?_⟩
 have hoa := hoa.frm hf2 (by simp)
 have hf0 := hf1.trans hf2 (by simp)
 have hU0 := hU.new hf0
 have hot := hot.frm hf0 (by simp)
 refine jA ?_
 refine jA ?_
 refine jO (jN (jv4 0 1 8 9 ?_))
 refine jS (jS (jR ?_))
 refine Ops.r (v := .int .i64 ((0 : Nat) : Int)) (Run.asg rfl) rfl ?_
 refine jO (jN (jB ?_))
 refine VC.loop (σ := Nat × Option Addr) (fun s => [(0, .pointer (some ⟨g, 0, none⟩)), (1, .slice Bt lt.length ct), (8, .slice Ba a.length ca), (9, .slice Bb b.length cb), (10, .int .i64 ((s.1 : Nat) : Int))]) (fun s wr => s.1 ≤ lt.length ∧ IsU wr g s.2 (l ++ (lt.take s.1).flatMap (tokB a b)) ∧ Own wr 116 2 Ba a.length ca ((codesL a).flatMap CB) ∧ Own wr 116 2 Bb b.length cb ((codesL b).flatMap CB) ∧ Own wr 73 3 Bt lt.length ct (TC lt) ∧ Frm (g :: ob A) w wr ∧ ∀ x ∈ ob s.2, x ∈ ob A ∨ w.heap.size ≤ x) (fun s => lt.length - s.1) (0, A) (js5 rfl rfl rfl rfl rfl) ⟨Nat.zero_le _, by simpa using hU0, hoa, hob, hot, hf0.mono (by simp), fun x hx => .inl hx⟩ ?_
 rintro ⟨i, A1⟩ wr ⟨hi, hU, hoa, hob, hot, hfr, hA1⟩
 dsimp only at hi hU hA1 ⊢
 have hfi := hfl (lt.take i) (fun t ht => hlt t (List.mem_of_mem_take ht))
 rw [List.length_take, Nat.min_eq_left hi] at hfi
 refine jS (jS (jR (jM ?_)))
 refine jM ?_
 refine Ops.r (Run.lenS rfl Try.underlying31) rfl ?_
 refine Ops.r (Run.bin rfl rfl (Bin.lssN _ _)) rfl ?_
 refine jO (jN (jv6 0 1 8 9 10 20 ?_))
 refine VC.condD rfl (fun hc1 => ?_) (fun hc1 => ?_)
 ·
  obtain ⟨ad, rfl, hel⟩ := hot.rd.elem hc1
  rw [flat3 lt i hc1] at hel
  have hsn := tok_snoc hc1
  have hqok := hlt (lt.getD i (0, 0, 0)) (by rw [List.getD_eq_getElem?_getD, List.getElem?_eq_getElem hc1]; exact List.getElem_mem hc1)
  generalize lt.getD i (0, 0, 0) = q at hel hsn hqok
  refine jQ (jN (jv5 0 1 8 9 10 ?_))
  refine jS (jB (jS (jR (jM ?_))))
  refine jM ?_
  refine Ops.r (Run.indexS _ rfl rfl Try.underlying31 Try.sizeOf73 (by omega)) rfl ?_
  refine Ops.r (Run.loadA rfl Try.isAgg73 Try.sizeOf73 hel (by first | rfl | (simp; done))) rfl ?_
  refine Ops.m (Does.alloc zero73) rfl ?_
  rintro _ w1 ⟨rfl, hF1⟩
  refine Ops.st (Acts.storeA rfl rfl Try.sizeOf73 hF1.blk rfl (by intro v hv; exact TC_one [q] v (by simpa [TC] using hv))) ?_
  rintro w2 ⟨hS, hf12, hs12⟩
  have hf2 : Frm [] wr w2 := hF1.frm.own hf12 (by simp)
  have hU := hU.new hf2
  have hoa := hoa.frm hf2 (by simp)
  have hob := hob.frm hf2 (by simp)
  have hot := hot.frm hf2 (by simp)
  have hfr0 := hfr
  have hfr := hfr.trans hf2 (by simp)
  refine jO (jN (jv6 0 1 8 9 10 11 ?_))
  refine jS (jS (jR ?_))
  refine Ops.r (Run.fieldAddr rfl Try.underlying73 rfl Try.sizeOf3 (by decide)) rfl ?_
  refine Ops.r (Run.load rfl Try.isAgg3 (hS.cell 1)) rfl ?_
  refine Ops.r (Run.bin rfl rfl (Bin.eqlN _ 0)) rfl ?_
  refine jO (jN (jv7 0 1 8 9 10 11 29 ?_))
  refine VC.condD rfl (fun hc2 => ?_) (fun hc2 => ?_)
  ·
   have hq8 : q.1 < 256 := by rcases hqok with ⟨_, _, h⟩ | ⟨_, h, _⟩ <;> omega
   have etok : tokB a b q = cbits a q.1 := by unfold tokB; rw [if_pos hc2]
   refine jS (jR (jM ?_))
   refine jM ?_
   refine Ops.r (Run.fieldAddr rfl Try.underlying73 rfl Try.sizeOf5 (by decide)) rfl ?_
   refine Ops.r (Run.load rfl Try.isAgg5 (hS.cell 0)) rfl ?_
   refine Ops.r (Run.convN _ rfl Try.underlying5 Try.underlying3 (by simp only [bmax]; omega)) rfl ?_
   refine Ops.cl (Enters.fn (evs.cons rfl (evs.cons rfl (evs.cons rfl evs.nil))) Try.call44) (ocode_spec g q.1 ca A1 Ba _ a w2 ha.1 ha.2 (by omega) (by rw [List.length_append]; omega) hU hoa) rfl ?_
   rintro e w3 ⟨rfl, A2, hU3, hf7, hA3⟩
   refine ⟨_, rfl, ?_⟩
   have hoa := hU.keepO hf7 hoa (by decide) (by decide)
   have hob := hU.keepO hf7 hob (by decide) (by decide)
   have hot := hU.keepO hf7 hot (by decide) (by decide)
   have hfr' := hfr.trans hf7 (fun x hx => up_w hA1 hfr.size x hx)
   have hA1 := up_a hA1 hfr.size hA3
   refine jO (jN (jv5 0 1 8 9 10 ?_))
   refine jX ?_
   refine thenQ_x (blockQ_x ?_)
   refine jN (jR (jM ?_))
   refine Ops.r (Run.bin rfl rfl (Bin.add_i64 _ 1 (by omega))) rfl ?_
   refine jA ?_
   refine jO ?_
   refine jN ⟨(i + 1, A2), (js5 rfl rfl rfl rfl rfl), ?_, ?_⟩
   ·
    exact ⟨hc1, by rw [hsn, List.flatMap_append, List.flatMap_singleton, etok, ← List.append_assoc]; exact hU3, hoa, hob, hot, hfr', hA1⟩
   ·
    first | omega | (dsimp only; omega)
  ·
   obtain ⟨q1, q3, q4, q5, q6⟩ : q.1 = 0 ∧ 3 ≤ q.2.1 ∧ q.2.1 ≤ 258 ∧ 1 ≤ q.2.2 ∧ q.2.2 ≤ 32768 := by
    rcases hqok with ⟨h, _⟩ | h
    ·
     exact absurd h hc2
    ·
     exact h
   have etok : tokB a b q = lenB a q.2.1 ++ wayB b q.2.2 := by unfold tokB; rw [if_neg hc2]
   have hlf := lenS_facts q3 q4
   have hwf := wayS_facts q5 q6
   have hc11 := cbits_len ha.1 ha.2 (show 257 + lenS q.2.1 < a.length by omega)
   have hc12 := cbits_len hb.1 hb.2 (show wayS q.2.2 < b.length by omega)
   have hl9 := longL_at (lenS q.2.1) hlf.1
   have hw9 := wayL_at (wayS q.2.2) hwf.1
   refine jQ (jN (jv6 0 1 8 9 10 11 ?_))
   refine jS ?_
   refine VC.held (fun v => Blk v wr.heap.size 73 (tokC q).toArray) jK ?_
   have hS : (fun v => Blk v wr.heap.size 73 (tokC q).toArray) w2.drew := hS.drawn (Drawn.drew _)
   have hU := hU.new (Drawn.drew w2).frm
   have hoa := hoa.frm (Drawn.drew w2).frm (by simp)
   have hob := hob.frm (Drawn.drew w2).frm (by simp)
   have hot := hot.frm (Drawn.drew w2).frm (by simp)
   have hfr := hfr.drawn (Drawn.drew w2)
   refine jH 1 rfl hS (fun w0 hw0 => Run.fieldAddr rfl Try.underlying73 rfl Try.sizeOf3 (by decide)) ?_
   refine jH 2 rfl hS (fun w0 hw0 => Run.load rfl Try.isAgg3 (hw0.cell 1)) ?_
   refine HOps.cl 0 rfl jK (Enters.fn evs.nil Try.call38) (rlengths_spec _) trivial rfl rfl ?_
   rintro e w3 ⟨AL, cL, rfl, hL, hf5, _⟩
   have hS := hS.frm hf5 (by simp)
   have hU := hU.new hf5
   have hoa := hoa.frm hf5 (by simp)
   have hob := hob.frm hf5 (by simp)
   have hot := hot.frm hf5 (by simp)
   have hfr := hfr.trans hf5 (by simp)
   refine ⟨_, rfl, hS, ?_⟩
   refine HOps.cl 3 rfl jK (Enters.fn (evs.cons rfl (evs.cons rfl evs.nil)) Try.call37) (rsym_len AL cL _ w3 hL.rd) trivial rfl rfl ?_
   rintro e _ ⟨rfl, rfl⟩
   refine ⟨_, rfl, hS, ?_⟩
   refine jH 4 rfl hS (fun w0 hw0 => Run.asg rfl) ?_
   refine HOps.done jK ?_
   refine jN (jv7 0 1 8 9 10 11 12 ?_)
   refine jS (jR (jM ?_))
   refine jM ?_
   refine jM ?_
   refine Ops.r (Run.bin rfl rfl (Bin.add_i64 257 _ (by omega))) rfl ?_
   refine Ops.cl (Enters.fn (evs.cons rfl (evs.cons rfl (evs.cons rfl evs.nil))) Try.call44) (ocode_spec g (257 + lenS q.2.1) ca A1 Ba _ a w3 ha.1 ha.2 (by omega) (by simp only [List.length_append, bitsL_len]; omega) hU hoa) rfl ?_
   rintro e w4 ⟨rfl, A2, hU3, hf7, hA3⟩
   have hS := hU.keepB hf7 hS (by decide) (by decide)
   have hoa := hU.keepO hf7 hoa (by decide) (by decide)
   have hob := hU.keepO hf7 hob (by decide) (by decide)
   have hot := hU.keepO hf7 hot (by decide) (by decide)
   have hA1n := up_a hA1 hfr.size hA3
   have hfr := hfr.trans hf7 (fun x hx => up_w hA1 hfr.size x hx)
   have hA1 := hA1n
   have hU := hU3
   clear hU3 hA3 hf7 hA1n
   refine ⟨_, rfl, ?_⟩
   refine jO (jN (jv7 0 1 8 9 10 11 12 ?_))
   refine jS ?_
   refine VC.held (fun v => Blk v wr.heap.size 73 (tokC q).toArray) jK ?_
   have hS : (fun v => Blk v wr.heap.size 73 (tokC q).toArray) w4.drew := hS.drawn (Drawn.drew _)
   have hU := hU.new (Drawn.drew w4).frm
   have hoa := hoa.frm (Drawn.drew w4).frm (by simp)
   have hob := hob.frm (Drawn.drew w4).frm (by simp)
   have hot := hot.frm (Drawn.drew w4).frm (by simp)
   have hfr := hfr.drawn (Drawn.drew w4)
   refine jH 0 rfl hS (fun w0 hw0 => Run.mv rfl) ?_
   refine jH 1 rfl hS (fun w0 hw0 => Run.fieldAddr rfl Try.underlying73 rfl Try.sizeOf3 (by decide)) ?_
   refine jH 2 rfl hS (fun w0 hw0 => Run.load rfl Try.isAgg3 (hw0.cell 1)) ?_
   refine jH 4 rfl hS (fun w0 hw0 => Run.mv rfl) ?_
   refine jH 8 rfl hS (fun w0 hw0 => Run.mv rfl) ?_
   refine HOps.cl 3 rfl jK (Enters.fn evs.nil Try.call38) (rlengths_spec _) trivial rfl rfl ?_
   rintro e w5 ⟨AL, cL, rfl, hL, hf5, _⟩
   have hS := hS.frm hf5 (by simp)
   have hU := hU.new hf5
   have hoa := hoa.frm hf5 (by simp)
   have hob := hob.frm hf5 (by simp)
   have hot := hot.frm hf5 (by simp)
   have hfr := hfr.trans hf5 (by simp)
   refine ⟨_, rfl, hS, ?_⟩
   obtain ⟨adL, rfl, hadlt, hadc⟩ := hL.rd.2 (by omega)
   have hcell := hadc (lenS q.2.1) _ (NI_get longL _ hlf.1)
   rw [hl9] at hcell
   refine HOps.moreC hcell ?_
   have hS := And.intro hS hcell
   refine jH 5 rfl hS (fun w0 hw0 => Run.index1 _ rfl rfl Try.underlying38 Try.sizeOf3 (by omega)) ?_
   refine jH 6 rfl hS (fun w0 hw0 => Run.load rfl Try.isAgg3 hw0.2) ?_
   refine jH 7 rfl hS (fun w0 hw0 => Run.bin rfl rfl (Bin.sub_i64 _ _ (by omega) (by omega))) ?_
   refine HOps.cl 9 rfl jK (Enters.fn (evs.cons rfl evs.nil) Try.call64) (rlongBits_spec _ _ hlf.1) trivial rfl rfl ?_
   rintro e _ ⟨rfl, rfl⟩
   refine ⟨_, rfl, hS, ?_⟩
   refine HOps.cl 10 rfl jK (Enters.fn (evs.cons rfl (evs.cons rfl (evs.cons rfl evs.nil))) Try.call32) (oput_spec g (q.2.1 - (longT.getD (lenS q.2.1) (0, 0)).1) (longT.getD (lenS q.2.1) (0, 0)).2 A2 _ w5 (by omega) (by omega) (by simp only [List.length_append, bitsL_len]; omega) hU) trivial rfl rfl ?_
   rintro e w6 ⟨rfl, A3, hU3, hf7, hA3⟩
   obtain ⟨_, hq, _, hadc⟩ := (hU.keepO hf7 hL (by decide) (by decide)).rd.2 (by omega)
   cases hq
   have hcell := hadc (lenS q.2.1) _ (NI_get longL _ hlf.1)
   rw [hl9] at hcell
   have hS := And.intro (hU.keepB hf7 hS.1 (by decide) (by decide)) hcell
   have hoa := hU.keepO hf7 hoa (by decide) (by decide)
   have hob := hU.keepO hf7 hob (by decide) (by decide)
   have hot := hU.keepO hf7 hot (by decide) (by decide)
   have hA1n := up_a hA1 hfr.size hA3
   have hfr := hfr.trans hf7 (fun x hx => up_w hA1 hfr.size x hx)
   have hA1 := hA1n
   have hU := hU3
   clear hU3 hA3 hf7 hA1n
   refine ⟨_, rfl, hS, ?_⟩
   have hS := hS.1
   refine HOps.done jK ?_
   refine jN (jv6 0 1 8 9 10 11 ?_)
   refine jS ?_
   refine VC.held (fun v => Blk v wr.heap.size 73 (tokC q).toArray) jK ?_
   have hS : (fun v => Blk v wr.heap.size 73 (tokC q).toArray) w6.drew := hS.drawn (Drawn.drew _)
   have hU := hU.new (Drawn.drew w6).frm
   have hoa := hoa.frm (Drawn.drew w6).frm (by simp)
   have hob := hob.frm (Drawn.drew w6).frm (by simp)
   have hot := hot.frm (Drawn.drew w6).frm (by simp)
   have hfr := hfr.drawn (Drawn.drew w6)
   refine jH 1 rfl hS (fun w0 hw0 => Run.fieldAddr rfl Try.underlying73 rfl Try.sizeOf3 (by decide)) ?_
   refine jH 2 rfl hS (fun w0 hw0 => Run.load rfl Try.isAgg3 (hw0.cell 2)) ?_
   refine HOps.cl 0 rfl jK (Enters.fn evs.nil Try.call39) (rways_spec _) trivial rfl rfl ?_
   rintro e w7 ⟨AL, cL, rfl, hL, hf5, _⟩
   have hS := hS.frm hf5 (by simp)
   have hU := hU.new hf5
   have hoa := hoa.frm hf5 (by simp)
   have hob := hob.frm hf5 (by simp)
   have hot := hot.frm hf5 (by simp)
   have hfr := hfr.trans hf5 (by simp)
   refine ⟨_, rfl, hS, ?_⟩
   refine HOps.cl 3 rfl jK (Enters.fn (evs.cons rfl (evs.cons rfl evs.nil)) Try.call37) (rsym_way AL cL _ w7 hL.rd) trivial rfl rfl ?_
   rintro e _ ⟨rfl, rfl⟩
   refine ⟨_, rfl, hS, ?_⟩
   refine jH 4 rfl hS (fun w0 hw0 => Run.asg rfl) ?_
   refine HOps.done jK ?_
   refine jN (jv7 0 1 8 9 10 11 12 ?_)
   refine jS (jR (jM ?_))
   refine jM ?_
   refine jM ?_
   refine Ops.cl (Enters.fn (evs.cons rfl (evs.cons rfl (evs.cons rfl evs.nil))) Try.call44) (ocode_spec g (wayS q.2.2) cb A3 Bb _ b w7 hb.1 hb.2 (by omega) (by simp only [List.length_append, bitsL_len]; omega) hU hob) rfl ?_
   rintro e w8 ⟨rfl, A4, hU3, hf7, hA3⟩
   have hS := hU.keepB hf7 hS (by decide) (by decide)
   have hoa := hU.keepO hf7 hoa (by decide) (by decide)
   have hob := hU.keepO hf7 hob (by decide) (by decide)
   have hot := hU.keepO hf7 hot (by decide) (by decide)
   have hA1n := up_a hA1 hfr.size hA3
   have hfr := hfr.trans hf7 (fun x hx => up_w hA1 hfr.size x hx)
   have hA1 := hA1n
   have hU := hU3
   clear hU3 hA3 hf7 hA1n
   refine ⟨_, rfl, ?_⟩
   refine jO (jN (jv7 0 1 8 9 10 11 12 ?_))
   refine VC.held (fun v => Blk v wr.heap.size 73 (tokC q).toArray) jK ?_
   have hS : (fun v => Blk v wr.heap.size 73 (tokC q).toArray) w8.drew := hS.drawn (Drawn.drew _)
   have hU := hU.new (Drawn.drew w8).frm
   have hoa := hoa.frm (Drawn.drew w8).frm (by simp)
   have hob := hob.frm (Drawn.drew w8).frm (by simp)
   have hot := hot.frm (Drawn.drew w8).frm (by simp)
   have hfr := hfr.drawn (Drawn.drew w8)
   refine jH 0 rfl hS (fun w0 hw0 => Run.mv rfl) ?_
   refine jH 1 rfl hS (fun w0 hw0 => Run.fieldAddr rfl Try.underlying73 rfl Try.sizeOf3 (by decide)) ?_
   refine jH 2 rfl hS (fun w0 hw0 => Run.load rfl Try.isAgg3 (hw0.cell 2)) ?_
   refine jH 4 rfl hS (fun w0 hw0 => Run.mv rfl) ?_
   refine jH 8 rfl hS (fun w0 hw0 => Run.mv rfl) ?_
   refine HOps.cl 3 rfl jK (Enters.fn evs.nil Try.call39) (rways_spec _) trivial rfl rfl ?_
   rintro e w9 ⟨AL, cL, rfl, hL, hf5, _⟩
   have hS := hS.frm hf5 (by simp)
   have hU := hU.new hf5
   have hoa := hoa.frm hf5 (by simp)
   have hob := hob.frm hf5 (by simp)
   have hot := hot.frm hf5 (by simp)
   have hfr := hfr.trans hf5 (by simp)
   refine ⟨_, rfl, hS, ?_⟩
   obtain ⟨adL, rfl, hadlt, hadc⟩ := hL.rd.2 (by omega)
   have hcell := hadc (wayS q.2.2) _ (NI_get wayL _ hwf.1)
   rw [hw9] at hcell
   refine HOps.moreC hcell ?_
   have hS := And.intro hS hcell
   refine jH 5 rfl hS (fun w0 hw0 => Run.index1 _ rfl rfl Try.underlying38 Try.sizeOf3 (by omega)) ?_
   refine jH 6 rfl hS (fun w0 hw0 => Run.load rfl Try.isAgg3 hw0.2) ?_
   refine jH 7 rfl hS (fun w0 hw0 => Run.bin rfl rfl (Bin.sub_i64 _ _ (by omega) (by omega))) ?_
   refine HOps.cl 9 rfl jK (Enters.fn (evs.cons rfl evs.nil) Try.call65) (rwayBits_spec _ _ hwf.1) trivial rfl rfl ?_
   rintro e _ ⟨rfl, rfl⟩
   refine ⟨_, rfl, hS, ?_⟩
   refine HOps.cl 10 rfl jK (Enters.fn (evs.cons rfl (evs.cons rfl (evs.cons rfl evs.nil))) Try.call32) (oput_spec g (q.2.2 - (wayT.getD (wayS q.2.2) (0, 0)).1) (wayT.getD (wayS q.2.2) (0, 0)).2 A4 _ w9 (by omega) (by omega) (by simp only [List.length_append, bitsL_len]; omega) hU) trivial rfl rfl ?_
   rintro e w10 ⟨rfl, A5, hU3, hf7, hA3⟩
   obtain ⟨_, hq, _, hadc⟩ := (hU.keepO hf7 hL (by decide) (by decide)).rd.2 (by omega)
   cases hq
   have hcell := hadc (wayS q.2.2) _ (NI_get wayL _ hwf.1)
   rw [hw9] at hcell
   have hS := And.intro (hU.keepB hf7 hS.1 (by decide) (by decide)) hcell
   have hoa := hU.keepO hf7 hoa (by decide) (by decide)
   have hob := hU.keepO hf7 hob (by decide) (by decide)
   have hot := hU.keepO hf7 hot (by decide) (by decide)
   have hA1n := up_a hA1 hfr.size hA3
   have hfr := hfr.trans hf7 (fun x hx => up_w hA1 hfr.size x hx)
   have hA1 := hA1n
   have hU := hU3
   clear hU3 hA3 hf7 hA1n
   refine ⟨_, rfl, hS, ?_⟩
   have hS := hS.1
   refine HOps.done jK ?_
   refine blockQ_n (jN ?_)
   refine jv5 0 1 8 9 10 ?_
   refine jR (jM ?_)
   refine Ops.r (Run.bin rfl rfl (Bin.add_i64 _ 1 (by omega))) rfl ?_
   refine jA ?_
   refine jO ?_
   refine jN ⟨(i + 1, A5), (js5 rfl rfl rfl rfl rfl), ?_, ?_⟩
   ·
    exact ⟨hc1, by rw [hsn, List.flatMap_append, List.flatMap_singleton, etok]; unfold lenB wayB; simpa [List.append_assoc] using hU, hoa, hob, hot, hfr, hA1⟩
   ·
    first | omega | (dsimp only; omega)
 ·
  refine jX ?_
  refine thenQ_x (thenQ_x (blockQ_x ?_))
  refine jN (jv2 0 8 ?_)
  refine jR (jM ?_)
  refine jM ?_
  refine Ops.cl (Enters.fn (evs.cons rfl (evs.cons rfl (evs.cons rfl evs.nil))) Try.call44) (ocode_spec g 256 ca A1 Ba _ a wr ha.1 ha.2 (by omega) (by rw [List.length_append]; omega) hU hoa) rfl ?_
  rintro e w3 ⟨rfl, h60⟩
  refine ⟨_, rfl, ?_⟩
  refine jO ?_
  refine end0n ?_
  have ei : i = lt.length := by omega
  subst ei
  rw [List.take_length, List.append_assoc] at h60
  exact ⟨rfl, UR.trans hfr hA1 h60⟩
end Go.Proofs.Ytnmieihcjjiccaa
namespace Go.Proofs.Ytnmieihcjjiccaa
open Go.RowKit
theorem findM_ok (bs : List Nat) (hl : bs.length ≤ 32768) (hB : ∀ b ∈ bs, b < 256) : ∀ m a, ∀ t ∈ findM bs m a, TkOk t
 | 0, a, t, h => by simp [findM] at h
 | m + 1, a, t, h => by
  unfold findM at h
  split at h
  ·
   cases h
  ·
   rename_i h1
   split at h
   ·
    rcases List.mem_cons.1 h with rfl | h
    ·
     exact .inl ⟨rfl, rfl, getD_lt hB a⟩
    ·
     exact findM_ok bs hl hB m _ t h
   ·
    rename_i h2
    rcases List.mem_cons.1 h with rfl | h
    ·
     rcases bestM_facts bs a (by omega) with h3 | ⟨h3, h4, h5, h6, _⟩
     ·
      rw [h3] at h2; exact absurd rfl h2
     ·
      exact .inr ⟨rfl, h3, h4, h5, by dsimp only; omega⟩
    ·
     exact findM_ok bs hl hB m _ t h
theorem toks_ok (bs : List Nat) (a : Nat) (hl : bs.length ≤ 32768) (hB : ∀ b ∈ bs, b < 256) : ∀ t ∈ toks bs a, TkOk t := findM_ok bs hl hB _ a
theorem toks_len0 (bs : List Nat) : (toks bs 0).length ≤ bs.length := toks_len bs bs.length 0
theorem fixedL_ok : LOk fixedL := by
 refine ⟨⟨by decide +kernel, by decide +kernel⟩, by decide +kernel⟩
theorem fixedW_ok : LOk fixedW := by
 refine ⟨⟨by decide +kernel, by decide +kernel⟩, by decide +kernel⟩
theorem ifixed2 (w : World) : Calls Try.prog 20 #[] w fun e w' => ∃ A c B d, e = .returned (.tuple #[.slice A fixedL.length c, .slice B fixedW.length d]) ∧ Own w' 3 1 A fixedL.length c (IB fixedL) ∧ Own w' 3 1 B fixedW.length d (IB fixedW) ∧ Frm [] w w' := by
 rw [fixedL_len, fixedW_len]
 exact ifixed_spec w
def fixM (bs : List Nat) : List Bool := bitsL 1 1 ++ bitsL 1 2 ++ toksB fixedL fixedW (toks bs 0)
theorem fixM_len (bs : List Nat) (hl : bs.length ≤ 32768) (hB : ∀ b ∈ bs, b < 256) : (fixM bs).length ≤ 2000000 := by
 have h1 := toks_flat fixedL_ok fixedW_ok (by decide +kernel) (by decide +kernel) _ (toks_ok bs 0 hl hB)
 have h2 := toks_len0 bs
 have h3 := cbits_len fixedL_ok.1 fixedL_ok.2 (show 256 < fixedL.length by decide +kernel)
 unfold fixM toksB
 simp only [List.length_append, bitsL_len]
 omega
set_option maxRecDepth 100000 in
theorem dfix_spec (A : Option Addr) (c : Nat) (bs : List Nat) (w : World) (hl : bs.length ≤ 32768) (hc : bs.length ≤ c) (hB : ∀ b ∈ bs, b < 256) (hr : Rd w 1 A bs.length (NB bs)) :
  Calls Try.prog 7 #[.slice A bs.length c] w fun e w' => ∃ B d, e = .returned (.tuple #[.slice B (pack (fixM bs)).length d, .int .i64 ((0 : Nat) : Int)]) ∧ Own w' 5 1 B (pack (fixM bs)).length d (NB (pack (fixM bs))) ∧ Frm [] w w' ∧ ∀ x ∈ ob B, w.heap.size ≤ x := by
 have htl := toks_len0 bs
 have hfl := fixM_len bs hl hB
 refine VC.calls (nt := 33) (res := #[.tmp 2, .tmp 3]) Try.func7 rfl Try.ntmps7 Try.results7 rfl ?_
 refine jS (jR (jA ?_))
 refine Ops.r (v := .int .i64 ((0 : Nat) : Int)) (Run.asg rfl) rfl ?_
 refine jO (jN (jv1 0 ?_))
 refine jS (jR (jM ?_))
 refine Ops.cl (Enters.fn (evs.cons rfl evs.nil) Try.call17) (find_small A c bs w hl hc hB hr) rfl ?_
 rintro e w1 ⟨Bt, dt, rfl, hot, hf1, _⟩
 refine ⟨_, rfl, ?_⟩
 refine jM ?_
 refine Ops.r (Run.extract rfl rfl) rfl ?_
 refine Ops.r (Run.extract rfl rfl) rfl ?_
 refine jA ?_
 refine jA ?_
 refine jO (jN (jv2 4 5 ?_))
 refine jS (jS (jR (jM ?_)))
 refine Ops.r (Run.bin rfl rfl (Bin.neqN _ 0)) rfl ?_
 refine jO (jN (jv3 4 5 15 ?_))
 refine VC.condF rfl (by decide) ?_
 refine jQ (jN (jv1 4 ?_))
 refine jS (jR ?_)
 refine Ops.cl (Enters.fn evs.nil Try.call18) (new_spec _) rfl ?_
 rintro e w2 ⟨rfl, hW, hf2, _⟩
 refine ⟨_, rfl, ?_⟩
 have hot := hot.frm hf2 (by simp)
 have K := hf1.trans hf2 (by simp)
 have hgg : w.heap.size ≤ w1.heap.size := hf1.size
 generalize w1.heap.size = g at hW hgg ⊢
 refine jA ?_
 refine jO (jN (jv2 4 6 ?_))
 refine jS (jR (jM ?_))
 refine Ops.cl (Enters.fn (evs.cons rfl (evs.cons rfl (evs.cons rfl evs.nil))) Try.call19) (put_ok g 1 1 none [] w2 (by decide) (by omega) (by simp) hW) rfl ?_
 rintro e w3 ⟨rfl, A1, hW1, hf3, hA1⟩
 refine ⟨_, rfl, ?_⟩
 have hot := hW.keepO hf3 hot (by decide) (by decide)
 have K := K.own hf3 (by simp [ob]; exact hgg)
 have hA1 : ∀ x ∈ ob A1, w.heap.size ≤ x := fun x hx => by rcases hA1 x hx with h | h; cases h; have := hf1.size; have := hf2.size; omega
 refine jO (jN (jv2 4 6 ?_))
 refine jS (jR (jM ?_))
 refine Ops.cl (Enters.fn (evs.cons rfl (evs.cons rfl (evs.cons rfl evs.nil))) Try.call19) (put_ok g 1 2 A1 _ w3 (by decide) (by omega) (by simp [bitsL_len]) hW1) rfl ?_
 rintro e w4 ⟨rfl, A2, hW2, hf4, hA2⟩
 refine ⟨_, rfl, ?_⟩
 have hot := hW1.keepO hf4 hot (by decide) (by decide)
 have hA2 : ∀ x ∈ ob A2, w.heap.size ≤ x := fun x hx => by rcases hA2 x hx with h | h; exact hA1 x h; have := K.size; omega
 have K := K.own hf4 (fun x hx => by rcases List.mem_cons.1 hx with rfl | hx; exact hgg; exact hA1 x hx)
 refine jO (jN (jv2 4 6 ?_))
 refine jS (jR ?_)
 refine Ops.cl (Enters.fn evs.nil Try.call20) (ifixed2 _) rfl ?_
 rintro e w5 ⟨La, c1, Lb, c2, rfl, hoa, hob, hf5⟩
 refine ⟨_, rfl, ?_⟩
 have hot := hot.frm hf5 (by simp)
 have hW2 := hW2.new hf5
 have K := K.trans hf5 (by simp)
 refine jM ?_
 refine Ops.r (Run.extract rfl rfl) rfl ?_
 refine Ops.r (Run.extract rfl rfl) rfl ?_
 refine jA ?_
 refine jA ?_
 refine jO (jN (jv4 4 6 7 8 ?_))
 refine jS (jR (jM ?_))
 refine jM ?_
 refine jM ?_
 refine jM ?_
 refine Ops.cl (Enters.fn (evs.cons rfl (evs.cons rfl (evs.cons rfl (evs.cons rfl evs.nil)))) Try.call21) (tokens_spec g dt c1 c2 A2 Bt La Lb _ (toks bs 0) fixedL fixedW w5 fixedL_ok fixedW_ok (by rw [fixedL_len]; omega) (by rw [fixedW_len]; omega) (toks_ok bs 0 hl hB) (by omega) (by simp [bitsL_len]) hW2 hot hoa.rd hob.rd) rfl ?_
 rintro e w6 ⟨rfl, A3, hW3, hf6, hA3⟩
 refine ⟨_, rfl, ?_⟩
 have K := K.own hf6 (fun x hx => by rcases List.mem_cons.1 hx with rfl | hx; exact hgg; exact hA2 x hx)
 have hW3 : IsW w6 g A3 (fixM bs) := hW3
 refine jO (jN (jv1 6 ?_))
 refine jS (jR (jM ?_))
 refine Ops.cl (Enters.fn (evs.cons rfl evs.nil) Try.call22) (bytes_spec g A3 (fixM bs) w6 (by omega) hW3) rfl ?_
 rintro e w7 ⟨B, d, rfl, hB7, hf7, hu7⟩
 refine ⟨_, rfl, ?_⟩
 refine jA ?_
 refine Ops.r (v := .int .i64 ((0 : Nat) : Int)) (Run.asg rfl) rfl ?_
 refine jO (jN (jv2 2 3 ?_))
 refine jT ?_
 refine end2 rfl rfl ?_
 exact ⟨B, d, rfl, hB7, K.trans hf7 (by simp), fun x hx => Nat.le_trans K.size (hu7 x hx)⟩
set_option maxRecDepth 100000 in
theorem dfix_big (A : Option Addr) (n c : Nat) (w : World) (hn : 65536 < n) :
  Calls Try.prog 7 #[.slice A n c] w fun e w' => e = .returned (.tuple #[.slice none 0 0, .int .i64 ((5 : Nat) : Int)]) ∧ w = w' := by
 refine VC.calls (nt := 33) (res := #[.tmp 2, .tmp 3]) Try.func7 rfl Try.ntmps7 Try.results7 rfl ?_
 refine jS (jR (jA ?_))
 refine Ops.r (v := .int .i64 ((0 : Nat) : Int)) (Run.asg rfl) rfl ?_
 refine jO (jN (jv1 0 ?_))
 refine jS (jR (jM ?_))
 refine Ops.cl (Enters.fn (evs.cons rfl evs.nil) Try.call17) (find_big A n c w hn) rfl ?_
 rintro e _ ⟨rfl, rfl⟩
 refine ⟨_, rfl, ?_⟩
 refine jM ?_
 refine Ops.r (Run.extract rfl rfl) rfl ?_
 refine Ops.r (Run.extract rfl rfl) rfl ?_
 refine jA ?_
 refine jA ?_
 refine jO (jN (jv2 4 5 ?_))
 refine jS (jS (jR (jM ?_)))
 refine Ops.r (Run.bin rfl rfl (Bin.neqN _ 0)) rfl ?_
 refine jO (jN (jv3 4 5 15 ?_))
 refine VC.condT rfl (by decide) ?_
 refine jS (jR (jM ?_))
 refine jA ?_
 refine jA ?_
 refine jO (jN (jv2 2 3 ?_))
 refine jT ?_
 refine thenQ_r (end2 rfl rfl ?_)
 exact ⟨rfl, rfl⟩
end Go.Proofs.Ytnmieihcjjiccaa
