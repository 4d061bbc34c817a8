/-
  The walks of inflate: giving up, the next bits, the next symbol, a code.
-/
import Derived.Test.YtfjhmbgckmhdaaaInfP
namespace Go.Proofs.Ytfjhmbgckmhdaaa
open Go.RowKit

/-- What one gives up with. -/
def Pan (c : Nat) : List PanicEntry := [{ v := .iface 25 (.int .i64 ((c : Nat) : Int)), recovered := false }]
/-- An inflater. -/
def IsX (w : World) (gx gr : Nat) (Ar : Option Addr) (bs : List Nat) (p : Nat) (A : Option Addr) (c : Nat) (out : List Nat) (most : Nat) : Prop :=
  Blk w gx 50 #[.pointer (some ⟨gr, 0, none⟩), .slice A out.length c, .int .i64 ((most : Nat) : Int)] ∧ IsR w gr Ar bs p ∧ Own w 5 1 A out.length c (NB out) ∧ (∀ x ∈ ob A, x ∉ ob Ar) ∧ p ≤ 8 * bs.length ∧ out.length ≤ most ∧ ∀ x ∈ out, x < 256
section
variable {w w' : World} {gx gr : Nat} {Ar : Option Addr} {bs : List Nat} {p : Nat} {A : Option Addr} {c : Nat} {out : List Nat} {most : Nat} {S : List Nat}
theorem IsX.gxr (h : IsX w gx gr Ar bs p A c out most) : gx ≠ gr := h.1.ne h.2.1.choose_spec.1 (by decide)
theorem IsX.grA (h : IsX w gx gr Ar bs p A c out most) : gr ∉ ob A := h.2.2.1.ne_blk h.2.1.choose_spec.1 (by decide)
theorem IsX.gxA (h : IsX w gx gr Ar bs p A c out most) : gx ∉ ob A := h.2.2.1.ne_blk h.1 (by decide)
theorem IsX.gxAr (h : IsX w gx gr Ar bs p A c out most) : gx ∉ ob Ar := h.2.1.choose_spec.2.ne_blk h.1 (by decide)
theorem IsX.lt (h : IsX w gx gr Ar bs p A c out most) : gx < w.heap.size ∧ gr < w.heap.size ∧ (∀ x ∈ ob A, x < w.heap.size) ∧ ∀ x ∈ ob Ar, x < w.heap.size :=
  ⟨h.1.lt, h.2.1.lt gr (by simp), h.2.2.1.lt, fun x hx => h.2.1.lt x (by simp [hx])⟩
/-- Only the reader was turned. -/
theorem IsX.turn {p' : Nat} (h : IsX w gx gr Ar bs p A c out most) (hR : IsR w' gr Ar bs p') (hf : Frm [gr] w w') (hp : p' ≤ 8 * bs.length) : IsX w' gx gr Ar bs p' A c out most :=
  ⟨h.1.frm hf (by simp; exact h.gxr), hR, h.2.2.1.frm hf (fun x hx h2 => h.grA (by simp at h2; subst h2; exact hx)), h.2.2.2.1, hp, h.2.2.2.2.2⟩
theorem IsX.frm (h : IsX w gx gr Ar bs p A c out most) (hf : Frm S w w') (hS : ∀ x ∈ gx :: gr :: (ob A ++ ob Ar), x ∉ S) : IsX w' gx gr Ar bs p A c out most :=
  ⟨h.1.frm hf (hS gx (by simp)), h.2.1.frm hf (fun x hx => hS x (by rcases List.mem_cons.1 hx with rfl | hx <;> simp_all)), h.2.2.1.frm hf (fun x hx => hS x (by simp [hx])), h.2.2.2⟩
theorem IsX.frm0 (h : IsX w gx gr Ar bs p A c out most) (hf : Frm [] w w') : IsX w' gx gr Ar bs p A c out most := h.frm hf (by simp)
end
theorem TakeR_F {bs : List Nat} {p n v k p' : Nat} (h : TakeR bs p (n : Int) v k p') (hn : n ≤ 32) (hp : p ≤ 8 * bs.length) : (k = 0 ∧ takeF (ofB bs) n p = .ok (v, p')) ∨ (k = 2 ∧ takeF (ofB bs) n p = .error 2) := by
  rcases h with ⟨h, _⟩ | ⟨m, hm, _, h⟩
  · omega
  · obtain rfl : n = m := by omega
    unfold takeF
    rw [ofB_len]
    rcases h with ⟨h1, _, h2, _⟩ | ⟨h1, h2, h3, h4⟩
    · exact .inr ⟨h2, by rw [if_neg (by omega)]⟩
    · exact .inl ⟨h3, by rw [if_pos (by omega), h2, h4]⟩

set_option maxRecDepth 100000 in
theorem must_spec (k : Nat) (w : World) : Calls Try.prog 46 #[.int .i64 ((k : Nat) : Int)] w fun e w' => w = w' ∧ e = if k = 0 then .returned (.tuple #[]) else .panicked (Pan k) := by
  refine VC.calls (nt := 6) (res := #[]) Try.func46 rfl Try.ntmps46 Try.results46 rfl ?_
  refine VC.seq ?_
  refine VC.region ?_
  refine Ops.r (Run.mv rfl) rfl ?_
  refine Ops.r (Run.bin rfl rfl (Bin.neqN _ 0)) rfl ?_
  refine Ops.nil ?_
  refine thenQ_n ?_
  refine VC.sub [(0, _), (3, _)] (.cons rfl (.cons rfl .nil)) ?_
  refine VC.condD rfl (fun hc1 => ?_) (fun hc1 => ?_)
  · skip
    refine VC.region ?_
    refine Ops.r (Run.mv rfl) rfl ?_
    refine Ops.r (Run.mkIface rfl Try.underlying25 rfl) rfl ?_
    refine Ops.pn rfl (endQ_p ?_)
    exact ⟨rfl, by rw [if_neg hc1]; rfl⟩
  · skip
    refine VC.skip ?_
    refine end0n ?_
    exact ⟨rfl, by rw [if_pos (Classical.not_not.1 hc1)]⟩

set_option maxRecDepth 100000 in
theorem need_spec (b : Bool) (k : Nat) (w : World) : Calls Try.prog 35 #[.bool b, .int .i64 ((k : Nat) : Int)] w fun e w' => w = w' ∧ e = if b = true then .returned (.tuple #[]) else .panicked (Pan k) := by
  refine VC.calls (nt := 8) (res := #[]) Try.func35 rfl Try.ntmps35 Try.results35 rfl ?_
  refine VC.seq ?_
  refine VC.region ?_
  refine Ops.r (Run.mv rfl) rfl ?_
  refine Ops.r (Run.not rfl) rfl ?_
  refine Ops.nil ?_
  refine thenQ_n ?_
  refine VC.sub [(1, _), (5, _)] (.cons rfl (.cons rfl .nil)) ?_
  refine VC.condB rfl (fun hc1 => ?_) (fun hc1 => ?_)
  · skip
    refine VC.region ?_
    refine Ops.r (Run.mv rfl) rfl ?_
    refine Ops.r (Run.mkIface rfl Try.underlying25 rfl) rfl ?_
    refine Ops.pn rfl (endQ_p ?_)
    exact ⟨rfl, by cases b <;> simp at hc1 ⊢; rfl⟩
  · skip
    refine VC.skip ?_
    refine end0n ?_
    exact ⟨rfl, by cases b <;> simp at hc1 ⊢⟩

set_option maxRecDepth 100000 in
theorem itake_spec (gx gr n p : Nat) (Ar A : Option Addr) (bs : List Nat) (c : Nat) (out : List Nat) (most : Nat) (w : World) (hn : n ≤ 32) (hbs : bs.length ≤ 1000000) (hB : ∀ b ∈ bs, b < 256) (hX : IsX w gx gr Ar bs p A c out most) :
    Calls Try.prog 34 #[.pointer (some ⟨gx, 0, none⟩), .int .i64 ((n : Nat) : Int)] w fun e w' => Frm [gr] w w' ∧ match takeF (ofB bs) n p with
      | .error k => e = .panicked (Pan k)
      | .ok x => e = .returned (.int .i64 ((x.1 : Nat) : Int)) ∧ IsX w' gx gr Ar bs x.2 A c out most := by
  have hp := hX.2.2.2.2.1
  refine VC.calls (nt := 20) (res := #[.tmp 4]) Try.func34 rfl Try.ntmps34 Try.results34 rfl ?_
  refine VC.seq ?_
  refine VC.region ?_
  refine Ops.r (v := .int .i64 ((0 : Nat) : Int)) (Run.asg rfl) rfl ?_
  refine Ops.nil ?_
  refine thenQ_n ?_
  refine VC.sub [(0, _), (1, _)] (.cons rfl (.cons rfl .nil)) ?_
  refine VC.seq ?_
  refine VC.region ?_
  refine Ops.r (Run.mv rfl) rfl ?_
  refine Ops.r (Run.nilck rfl) rfl ?_
  refine Ops.r (Run.fieldAddr rfl Try.underlying50 rfl Try.sizeOf47 (by decide)) rfl ?_
  refine Ops.r (Run.load rfl Try.isAgg47 (hX.1.cell 0)) rfl ?_
  refine Ops.r (Run.mv rfl) rfl ?_
  refine Ops.cl (Enters.fn (evs.cons rfl (evs.cons rfl evs.nil)) Try.call45) (take_any gr p n Ar bs _ hp (by omega) hB hX.2.1) rfl ?_
  rintro e w1 ⟨v, k, p', rfl, hT, hp', hR1, hf1⟩
  refine ⟨_, rfl, ?_⟩
  have hX1 := hX.turn hR1 hf1 hp'
  refine Ops.r (Run.mv rfl) rfl ?_
  refine Ops.r (Run.extract rfl rfl) rfl ?_
  refine Ops.r (Run.extract rfl rfl) rfl ?_
  refine Ops.r (Run.asg rfl) rfl ?_
  refine Ops.r (Run.asg rfl) rfl ?_
  refine Ops.nil ?_
  refine thenQ_n ?_
  refine VC.sub [(5, _), (6, _)] (.cons rfl (.cons rfl .nil)) ?_
  refine VC.seq ?_
  refine VC.region ?_
  refine Ops.r (Run.mv rfl) rfl ?_
  refine Ops.clp (Enters.fn (evs.cons rfl evs.nil) Try.call46) (must_spec k _) rfl ?_
  rintro e _ ⟨rfl, rfl⟩
  rcases TakeR_F hT hn hp with ⟨rfl, hF⟩ | ⟨rfl, hF⟩
  rotate_left
  · exact .inr ⟨_, by rw [if_neg (by decide)], thenQ_p (endQ_p ⟨hf1, by rw [hF]⟩)⟩
  obtain ⟨_, _, hv, _⟩ := takeF_ok hF
  have hv2 : 2 ^ n ≤ 2 ^ 32 := Nat.pow_le_pow_right (by omega) hn
  refine .inl ⟨_, by rw [if_pos rfl], ?_⟩
  refine Ops.nil ?_
  refine thenQ_n ?_
  refine VC.sub [(5, _)] (.cons rfl .nil) ?_
  refine VC.seq ?_
  refine VC.region ?_
  refine Ops.r (Run.mv rfl) rfl ?_
  refine Ops.r (Run.convN v rfl Try.underlying74 Try.underlying3 (by simp only [bmax]; omega)) rfl ?_
  refine Ops.r (Run.asg rfl) rfl ?_
  refine Ops.nil ?_
  refine thenQ_n ?_
  refine VC.sub [(4, _)] (.cons rfl .nil) ?_
  refine VC.ret ?_
  refine end1 rfl ?_
  exact ⟨hf1, by rw [hF]; exact ⟨rfl, hX1⟩⟩

set_option maxRecDepth 100000 in
theorem isym_spec (gx gr p gd : Nat) (Ar A Bd : Option Addr) (cd : Nat) (l : List Int) (bs : List Nat) (c : Nat) (out : List Nat) (most : Nat) (w : World) (hl : l.length ≤ 320) (hm : mostC l ≤ 15) (hbs : bs.length ≤ 1000000) (hB : ∀ b ∈ bs, b < 256) (hX : IsX w gx gr Ar bs p A c out most)
    (hD : IsD w gd Bd cd (cn l) (fst' l) (order l) (mostC l)) :
    Calls Try.prog 57 #[.pointer (some ⟨gx, 0, none⟩), .pointer (some ⟨gd, 0, none⟩)] w fun e w' => Frm [gr] w w' ∧ match symF (ofB bs) l p with
      | .error k => e = .panicked (Pan k)
      | .ok x => e = .returned (.int .i64 ((x.1 : Nat) : Int)) ∧ IsX w' gx gr Ar bs x.2 A c out most := by
  have hp := hX.2.2.2.2.1
  refine VC.calls (nt := 19) (res := #[.tmp 4]) Try.func57 rfl Try.ntmps57 Try.results57 rfl ?_
  refine VC.seq ?_
  refine VC.region ?_
  refine Ops.r (v := .int .i64 ((0 : Nat) : Int)) (Run.asg rfl) rfl ?_
  refine Ops.nil ?_
  refine thenQ_n ?_
  refine VC.sub [(0, _), (1, _)] (.cons rfl (.cons rfl .nil)) ?_
  refine VC.seq ?_
  refine VC.region ?_
  refine Ops.r (Run.mv rfl) rfl ?_
  refine Ops.r (Run.mv rfl) rfl ?_
  refine Ops.r (Run.nilck rfl) rfl ?_
  refine Ops.r (Run.fieldAddr rfl Try.underlying50 rfl Try.sizeOf47 (by decide)) rfl ?_
  refine Ops.r (Run.load rfl Try.isAgg47 (hX.1.cell 0)) rfl ?_
  refine Ops.cl (Enters.fn (evs.cons rfl (evs.cons rfl evs.nil)) Try.call62) (takeD_spec gd gr Bd Ar cd l (mostC l) p bs _ hl hm hp (by omega) hB hD hX.2.1) rfl ?_
  rintro e w1 ⟨rfl, hp', hR1, hf1⟩
  refine ⟨_, rfl, ?_⟩
  have hX1 := hX.turn hR1 hf1 hp'
  have hF : symF (ofB bs) l p = if (tk l (ofB bs) (mostC l) 1 0 p).2.2 = 0 then .ok ((tk l (ofB bs) (mostC l) 1 0 p).1, (tk l (ofB bs) (mostC l) 1 0 p).2.1) else .error (tk l (ofB bs) (mostC l) 1 0 p).2.2 := rfl
  generalize tk l (ofB bs) (mostC l) 1 0 p = R at *
  obtain ⟨s, p', k⟩ := R
  dsimp only at hF hX1 ⊢
  refine Ops.r (Run.mv rfl) rfl ?_
  refine Ops.r (Run.extract rfl rfl) rfl ?_
  refine Ops.r (Run.extract rfl rfl) rfl ?_
  refine Ops.r (Run.asg rfl) rfl ?_
  refine Ops.r (Run.asg rfl) rfl ?_
  refine Ops.nil ?_
  refine thenQ_n ?_
  refine VC.sub [(5, _), (6, _)] (.cons rfl (.cons rfl .nil)) ?_
  refine VC.seq ?_
  refine VC.region ?_
  refine Ops.r (Run.mv rfl) rfl ?_
  refine Ops.clp (Enters.fn (evs.cons rfl evs.nil) Try.call46) (must_spec k _) rfl ?_
  rintro e _ ⟨rfl, rfl⟩
  by_cases hk : k = 0
  rotate_left
  · exact .inr ⟨_, by rw [if_neg hk], thenQ_p (endQ_p ⟨hf1, by rw [hF, if_neg hk]⟩)⟩
  subst hk
  refine .inl ⟨_, by rw [if_pos rfl], ?_⟩
  refine Ops.nil ?_
  refine thenQ_n ?_
  refine VC.sub [(5, _)] (.cons rfl .nil) ?_
  refine VC.seq ?_
  refine VC.region ?_
  refine Ops.r (Run.mv rfl) rfl ?_
  refine Ops.r (Run.asg rfl) rfl ?_
  refine Ops.nil ?_
  refine thenQ_n ?_
  refine VC.sub [(4, _)] (.cons rfl .nil) ?_
  refine VC.ret ?_
  refine end1 rfl ?_
  exact ⟨hf1, by rw [hF, if_pos rfl]; exact ⟨rfl, hX1⟩⟩

set_option maxRecDepth 100000 in
theorem code_spec (A : Option Addr) (c0 : Nat) (l : List Int) (w : World) (hl : l.length ≤ 1000000) (hr : Rd w 1 A l.length (IB l)) :
    Calls Try.prog 38 #[.slice A l.length c0] w fun e w' => Frm [] w w' ∧ if newE l = 0 then ∃ g B c, e = .returned (.pointer (some ⟨g, 0, none⟩)) ∧ IsD w' g B c (cn l) (fst' l) (order l) (mostC l) ∧ ∀ x ∈ g :: ob B, w.heap.size ≤ x
      else e = .panicked (Pan 11) := by
  refine VC.calls (nt := 14) (res := #[.tmp 2]) Try.func38 rfl Try.ntmps38 Try.results38 rfl ?_
  refine VC.seq ?_
  refine VC.region ?_
  refine Ops.r (Run.asg rfl) rfl ?_
  refine Ops.nil ?_
  refine thenQ_n ?_
  refine VC.sub [(0, _)] (.cons rfl .nil) ?_
  refine VC.seq ?_
  refine VC.region ?_
  refine Ops.r (Run.mv rfl) rfl ?_
  refine Ops.cl (Enters.fn (evs.cons rfl evs.nil) Try.call50) (newD_spec A c0 l _ hl hr) rfl ?_
  rintro e w1 ⟨hf1, he⟩
  obtain ⟨P, k, hee, hk, hPk⟩ : ∃ P k, e = .returned (.tuple #[.pointer P, .int .i64 ((k : Nat) : Int)]) ∧ (k = newE l) ∧ (k = 0 → ∃ g B c, P = some ⟨g, 0, none⟩ ∧ IsD w1 g B c (cn l) (fst' l) (order l) (mostC l) ∧ ∀ x ∈ g :: ob B, w.heap.size ≤ x) := by
    by_cases h : newE l = 0
    · rw [if_pos h] at he
      obtain ⟨g, B, c, h1, h2, h3⟩ := he
      exact ⟨_, 0, h1, h.symm, fun _ => ⟨g, B, c, rfl, h2, h3⟩⟩
    · rw [if_neg h] at he
      exact ⟨_, _, he, rfl, fun h2 => absurd h2 h⟩
  clear he
  subst hee
  refine ⟨_, rfl, ?_⟩
  refine Ops.r (Run.mv rfl) rfl ?_
  refine Ops.r (Run.extract rfl rfl) rfl ?_
  refine Ops.r (Run.extract rfl rfl) rfl ?_
  refine Ops.r (Run.asg rfl) rfl ?_
  refine Ops.r (Run.asg rfl) rfl ?_
  refine Ops.nil ?_
  refine thenQ_n ?_
  refine VC.sub [(3, _), (4, _)] (.cons rfl (.cons rfl .nil)) ?_
  refine VC.seq ?_
  refine VC.region ?_
  refine Ops.r (Run.mv rfl) rfl ?_
  refine Ops.r (Run.bin rfl rfl (Bin.eqlN _ 0)) rfl ?_
  refine Ops.clp (Enters.fn (evs.cons rfl (evs.cons rfl evs.nil)) Try.call35) (need_spec (decide (k = 0)) 11 _) rfl ?_
  rintro e _ ⟨rfl, rfl⟩
  by_cases hk0 : k = 0
  rotate_left
  · exact .inr ⟨_, by rw [if_neg (by simpa using hk0)], thenQ_p (endQ_p ⟨hf1, by rw [if_neg (by omega)]⟩)⟩
  refine .inl ⟨_, by rw [if_pos (by simpa using hk0)], ?_⟩
  obtain ⟨g, B, c, rfl, h2, h3⟩ := hPk hk0
  refine Ops.nil ?_
  refine thenQ_n ?_
  refine VC.sub [(3, _)] (.cons rfl .nil) ?_
  refine VC.seq ?_
  refine VC.region ?_
  refine Ops.r (Run.mv rfl) rfl ?_
  refine Ops.r (Run.asg rfl) rfl ?_
  refine Ops.nil ?_
  refine thenQ_n ?_
  refine VC.sub [(2, _)] (.cons rfl .nil) ?_
  refine VC.ret ?_
  refine end1 rfl ?_
  exact ⟨hf1, by rw [if_pos (by omega)]; exact ⟨g, B, c, rfl, h2, h3⟩⟩

end Go.Proofs.Ytfjhmbgckmhdaaa
