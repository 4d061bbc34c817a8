/-
  'BitsReads': whatever is read on, one thing behind the other, each answer, and how far it is read, is the document's, or it is refused: the law returns true. No condition.
-/
import Derived.Test.YtebaojedpnnliaaBitsWr
namespace Go.Proofs.Ytebaojedpnnliaa
open Go.RowKit

/-- What Take answers. -/
def TakeR (bs : List Nat) (p : Nat) (n : Int) (v e p' : Nat) : Prop :=
  (n < 0 ∨ 32 < n) ∧ v = 0 ∧ e = 1 ∧ p' = p ∨ ∃ m : Nat, n = m ∧ m ≤ 32 ∧ (8 * bs.length - p < m ∧ v = 0 ∧ e = 2 ∧ p' = p ∨ m ≤ 8 * bs.length - p ∧ v = num (((ofB bs).drop p).take m) ∧ e = 0 ∧ p' = p + m)
theorem take_any (g p : Nat) (n : Int) (A : Option Addr) (bs : List Nat) (w : World) (hp : p ≤ 8 * bs.length) (hbs : bs.length ≤ 1000000000) (hB : ∀ b ∈ bs, b < 256) (hR : IsR w g A bs p) :
    Calls Try.prog 18 #[.pointer (some ⟨g, 0, none⟩), .int .i64 n] w fun e w' => ∃ v k p', e = .returned (.tuple #[.int .u64 ((v : Nat) : Int), .int .i64 ((k : Nat) : Int)]) ∧ TakeR bs p n v k p' ∧ p' ≤ 8 * bs.length ∧ IsR w' g A bs p' ∧ Frm [g] w w' := by
  by_cases h1 : n < 0
  · exact (take_neg g n w h1).mono fun e w' ⟨he, hw⟩ => by subst hw; exact ⟨0, 1, p, he, .inl ⟨.inl h1, rfl, rfl, rfl⟩, hp, hR, Frm.refl _ _⟩
  by_cases h2 : 32 < n
  · exact (take_big g n w h2).mono fun e w' ⟨he, hw⟩ => by subst hw; exact ⟨0, 1, p, he, .inl ⟨.inr h2, rfl, rfl, rfl⟩, hp, hR, Frm.refl _ _⟩
  obtain ⟨m, rfl⟩ : ∃ m : Nat, n = m := ⟨n.toNat, by omega⟩
  by_cases h3 : 8 * bs.length - p < m
  · exact (take_short g m p A bs w hp hbs hR (by omega) h3).mono fun e w' ⟨he, hd⟩ => ⟨0, 2, p, he, .inr ⟨m, rfl, by omega, .inl ⟨h3, rfl, rfl, rfl⟩⟩, hp, hR.frm hd.frm (by simp), hd.frm.mono (by simp)⟩
  · exact (take_ok g m p A bs w hp hbs hB hR (by omega) (by omega)).mono fun e w' ⟨he, hR', hf⟩ => ⟨_, 0, p + m, he, .inr ⟨m, rfl, by omega, .inr ⟨by omega, rfl, rfl, rfl⟩⟩, by omega, hR', hf⟩
/-- What Octets answers. -/
def OctR (w' : World) (bs : List Nat) (p : Nat) (n : Int) (B : Option Addr) (nl c e p' : Nat) : Prop :=
  n < 0 ∧ nl = 0 ∧ e = 1 ∧ p' = (p + 7) / 8 * 8 ∨ ∃ m : Nat, n = m ∧ ((8 * bs.length - (p + 7) / 8 * 8) / 8 < m ∧ nl = 0 ∧ e = 2 ∧ p' = (p + 7) / 8 * 8 ∨ m ≤ (8 * bs.length - (p + 7) / 8 * 8) / 8 ∧ nl = m ∧ e = 0 ∧ p' = (p + 7) / 8 * 8 + 8 * m ∧ Own w' 5 1 B m c (NB ((bs.drop ((p + 7) / 8)).take m)))
theorem octets_any (g p : Nat) (n : Int) (A : Option Addr) (bs : List Nat) (w : World) (hp : p ≤ 8 * bs.length) (hbs : bs.length ≤ 1000000000) (hR : IsR w g A bs p) :
    Calls Try.prog 31 #[.pointer (some ⟨g, 0, none⟩), .int .i64 n] w fun e w' => ∃ B nl c k p', e = .returned (.tuple #[.slice B nl c, .int .i64 ((k : Nat) : Int)]) ∧ OctR w' bs p n B nl c k p' ∧ p' ≤ 8 * bs.length ∧ IsR w' g A bs p' ∧ Frm [g] w w' := by
  by_cases h1 : n < 0
  · exact (octets_neg g n p A bs w hp hbs hR h1).mono fun e w' ⟨he, hR', hf⟩ => ⟨none, 0, 0, 1, _, he, .inl ⟨h1, rfl, rfl, rfl⟩, by omega, hR', hf⟩
  obtain ⟨m, rfl⟩ : ∃ m : Nat, n = m := ⟨n.toNat, by omega⟩
  by_cases h3 : (8 * bs.length - (p + 7) / 8 * 8) / 8 < m
  · exact (octets_short g m p A bs w hp hbs hR h3).mono fun e w' ⟨he, hR', hf⟩ => ⟨none, 0, 0, 2, _, he, .inr ⟨m, rfl, .inl ⟨h3, rfl, rfl, rfl⟩⟩, by omega, hR', hf⟩
  · exact (octets_ok g m p A bs w hp hbs hR (by omega)).mono fun e w' ⟨B, c, he, ho, hR', hf, _⟩ => ⟨B, m, c, 0, _, he, .inr ⟨m, rfl, .inr ⟨by omega, rfl, rfl, rfl, ho⟩⟩, by omega, hR', hf⟩
/-- What is asked. -/
structure AskC where
  Do : Int
  N : Int
def AskC.cells (s : AskC) : List Value := [.int .i64 s.Do, .int .i64 s.N]
def Asks (w : World) (A : Option Addr) (n : Nat) (ss : List AskC) : Prop := ss.length = n ∧ Rd w 2 A n (ss.flatMap AskC.cells)
section
open Go.ChangeShapes Go.WideShapes Go.Deep
theorem open_asks {H : Type} {enc : TypeId × Value → H} {w : World} {base : Nat} {spare : Nat → Bool} {held : Bool} {fuel len cap : Nat} {a : Option Addr} {x : DataW H × List MemPlace}
    (h : DataW.trod enc Try.prog w base spare held fuel 46 [.slice a len cap] = some x) : ∃ ss, Asks w a len ss ∧ len ≤ 9223372036854775807 := by
  obtain ⟨ls, hll, hlc, hcm, hrd, hels⟩ := rd_structs Try.underlying46 Try.underlying48 (by kernel_rfl) (by kernel_rfl) (by decide) h
  have key : ∀ i, i < len → ∃ s : AskC, ls[i]? = some s.cells := by
    intro i hi
    obtain ⟨hl4, hf⟩ := hels _ (List.getElem_mem (show i < ls.length by omega))
    have hli : ls[i]? = some ls[i] := List.getElem?_eq_getElem (by omega)
    generalize ls[i] = l at *
    match l, hl4 with
    | [c0, c1], _ =>
      obtain ⟨v0, y0, m0, e0, t0⟩ := hf 0 _ rfl
      obtain ⟨v1, y1, m1, e1, t1⟩ := hf 1 _ rfl
      simp only [List.getElem?_cons_zero, List.getElem?_cons_succ, Option.some.injEq] at e0 e1
      subst e0 e1
      obtain ⟨n0, h0, _, _⟩ := DataW.trod_int Try.underlying3 t0
      obtain ⟨n1, h1, _, _⟩ := DataW.trod_int Try.underlying3 t1
      simp only [List.cons.injEq, and_true] at h0 h1
      subst h0 h1
      exact ⟨⟨n0, n1⟩, hli⟩
  obtain ⟨ss, hsl, hq⟩ := list_choose len key
  refine ⟨ss, ⟨hsl, ?_⟩, by omega⟩
  have e : ls.flatMap id = ss.flatMap AskC.cells := by
    have : ls = ss.map AskC.cells := by
      apply List.ext_getElem?
      intro i
      rw [List.getElem?_map]
      by_cases hi : i < len
      · have := hq i _ (List.getElem?_eq_getElem (show i < ss.length by omega))
        rw [this, List.getElem?_eq_getElem (show i < ss.length by omega)]
        rfl
      · rw [List.getElem?_eq_none (by omega), List.getElem?_eq_none (by omega)]
        rfl
    rw [this, List.flatMap_map]
    rfl
  rw [← e]
  exact hrd
end
theorem ask_one (s : AskC) : ∀ u ∈ s.cells, u.oneCell' = true := by
  intro u hu
  simp only [AskC.cells, List.mem_cons, List.not_mem_nil, or_false] at hu
  rcases hu with rfl | rfl <;> rfl
theorem BL_cut (l : List Bool) (p m : Nat) (h : p + m ≤ l.length) {w : World} {A : Option Addr} {c : Nat} (hr : Rd w 1 A l.length (BL l)) (hc : l.length ≤ c) :
    Rd w 1 (cutA A c p 1) ((l.drop p).take m).length (BL ((l.drop p).take m)) := by
  have e := hr.cut (l := p) (r := p + m) (cap := c) (by omega) h hc
  have e1 : ((l.drop p).take m).length = p + m - p := by simp; omega
  have e2 : BL ((l.drop p).take m) = ((BL l).drop (p * 1)).take ((p + m - p) * 1) := by simp [BL, List.map_take, List.map_drop]
  rw [e1, e2]
  exact e
theorem NB_cut (l : List Nat) (p m : Nat) (h : p + m ≤ l.length) {w : World} {A : Option Addr} {c : Nat} (hr : Rd w 1 A l.length (NB l)) (hc : l.length ≤ c) :
    Rd w 1 (cutA A c p 1) ((l.drop p).take m).length (NB ((l.drop p).take m)) := by
  have e := hr.cut (l := p) (r := p + m) (cap := c) (by omega) h hc
  have e1 : ((l.drop p).take m).length = p + m - p := by simp; omega
  have e2 : NB ((l.drop p).take m) = ((NB l).drop (p * 1)).take ((p + m - p) * 1) := by simp [NB, List.map_take, List.map_drop]
  rw [e1, e2]
  exact e

set_option maxRecDepth 100000 in
theorem reads_walk (B : Option Addr) (bl bc : Nat) (bs : List Nat) (A : Option Addr) (n c : Nat) (ss : List AskC) (w : World) (hn : n ≤ 9223372036854775807) (hS : Asks w A n ss)
    (hbl : bs.length = bl) (hbc : bl ≤ bc) (hb : ∀ b ∈ bs, b < 256) (hr : Rd w 1 B bl (NB bs)) :
    Calls Try.prog 5 #[.slice B bl bc, .slice A n c] w fun e w' => e = .returned (.bool true) ∧ Frm [] w w' := by
  obtain ⟨hsl, hSr⟩ := hS
  subst hbl
  refine VC.calls (nt := 191) (res := #[.tmp 4]) Try.func5 rfl Try.ntmps5 Try.results5 rfl ?_
  refine VC.seq ?_
  refine VC.region ?_
  refine Ops.r (Run.asg rfl) rfl ?_
  refine Ops.nil ?_
  refine thenQ_n ?_
  refine VC.sub [(0, _), (1, _)] (.cons rfl (.cons rfl .nil)) ?_
  refine VC.seq ?_
  refine VC.seq ?_
  refine VC.region ?_
  refine Ops.r (Run.mv rfl) rfl ?_
  refine Ops.r (Run.lenS rfl Try.underlying26) rfl ?_
  refine Ops.r (Run.bin rfl rfl (Bin.gtrN _ 200)) rfl ?_
  refine Ops.nil ?_
  refine thenQ_n ?_
  refine VC.sub [(0, _), (1, _), (18, _)] (.cons rfl (.cons rfl (.cons rfl .nil))) ?_
  refine VC.meet (σ := Option Addr × Nat) (fun s => [(0, .slice s.1 (bs.take 200).length s.2), (1, .slice A n c)]) (fun s w9 => w = w9 ∧ Rd w 1 s.1 (bs.take 200).length (NB (bs.take 200)) ∧ (bs.take 200).length ≤ s.2) ?_ ?_
  · skip
    refine VC.condD rfl (fun hc1 => ?_) (fun hc1 => ?_)
    · skip
      refine VC.region ?_
      refine Ops.r (Run.mv rfl) rfl ?_
      refine Ops.r (Run.sliceS 0 200 rfl Try.underlying26 Try.sizeOf5 evB.none_ (evB.some_ rfl) (by omega) (by omega)) rfl ?_
      refine Ops.r (Run.asg rfl) rfl ?_
      refine Ops.nil ?_
      refine thenQ_n ⟨(cutA B bc 0 1, bc - 0), (.cons (by rw [show (bs.take 200).length = 200 - 0 from by simp; omega]; rfl) (.cons rfl .nil)), ?_⟩
      exact ⟨rfl, cut_rd 200 hr hbc (by omega), by simp; omega⟩
    · skip
      refine VC.skip ?_
      refine thenQ_n ⟨(B, bc), (.cons (by rw [List.take_of_length_le (by omega)]; rfl) (.cons rfl .nil)), ?_⟩
      rw [List.take_of_length_le (by omega)]
      exact ⟨rfl, hr, hbc⟩
  · skip
    rintro ⟨B1, c1⟩ _ ⟨rfl, hr1, hbc1⟩ Γ hΓ
    dsimp only at hr1 hbc1
    have hb1 : ∀ b ∈ bs.take 200, b < 256 := fun b hb' => hb b (List.mem_of_mem_take hb')
    have hl1 : (bs.take 200).length ≤ 200 := by simp; omega
    generalize bs.take 200 = b1 at *
    refine thenQ_n (VC.sub _ hΓ ?_)
    refine VC.seq ?_
    refine VC.region ?_
    refine Ops.m (Does.buildS0 Try.underlying26 Try.sizeOf5) rfl ?_
    rintro _ w1 ⟨rfl, hF1⟩
    have ho1 : Own w1 5 1 (some ⟨w.heap.size, 0, none⟩) 0 0 [] := Own.of_blk hF1.blk rfl (by simp [maxLen])
    have hr11 := hr1.frm hF1.frm (by simp)
    refine Ops.r (Run.mv rfl) rfl ?_
    refine Ops.m (Does.app rfl rfl Try.underlying26 (info5) rfl (by decide) ho1 hr11 (NB_one _) (by omega) (by omega)) rfl ?_
    rintro _ w2 ⟨A2, c2, rfl, hown2, hfr2, hob2⟩
    rw [List.nil_append, Nat.zero_add] at hown2
    rw [Nat.zero_add]
    have hA2 : ∀ x ∈ ob A2, w.heap.size ≤ x := by
      intro x hx
      have := hF1.size
      rcases hob2 with h | h <;> rw [h] at hx
      · simp [ob] at hx; omega
      · simp at hx; omega
    have hfr02 : Frm [] w w2 := hF1.frm.trans hfr2 (fun x hx => .inr (by simp [ob] at hx; omega))
    refine Ops.r (Run.asg rfl) rfl ?_
    refine Ops.nil ?_
    refine thenQ_n ?_
    refine VC.sub [(0, _), (1, _), (5, _)] (.cons rfl (.cons rfl (.cons rfl .nil))) ?_
    refine VC.seq ?_
    refine VC.region ?_
    refine Ops.r (Run.mv rfl) rfl ?_
    refine Ops.cl (Enters.fn (evs.cons rfl evs.nil) Try.call16) (read_spec A2 c2 b1 _ (by omega) hown2.rd) rfl ?_
    rintro e w3 ⟨gr, Ar, rfl, hR3, hf3, hA3⟩
    refine ⟨_, rfl, ?_⟩
    have hfr3 := hfr02.own hf3 (by simp)
    have hown3 := hown2.frm hf3 (by simp)
    have hgr : w.heap.size ≤ gr := Nat.le_trans hfr02.size (hA3 gr (by simp))
    have hne : ∀ x ∈ gr :: ob Ar, x ∉ ob A2 := fun x hx hx2 => by have h1 := hA3 x hx; have h2 := hown2.lt x hx2; omega
    refine Ops.r (Run.asg rfl) rfl ?_
    refine Ops.nil ?_
    refine thenQ_n ?_
    refine VC.sub [(0, _), (1, _), (5, _), (6, _)] (.cons rfl (.cons rfl (.cons rfl (.cons rfl .nil)))) ?_
    refine VC.seq ?_
    refine VC.seq ?_
    refine VC.region ?_
    refine Ops.r (Run.mv rfl) rfl ?_
    refine Ops.r (Run.eqlNilP rfl rfl Try.underlying31) rfl ?_
    refine Ops.nil ?_
    refine thenQ_n ?_
    refine VC.sub [(0, _), (1, _), (5, _), (6, _), (27, _)] (.cons rfl (.cons rfl (.cons rfl (.cons rfl (.cons rfl .nil))))) ?_
    refine VC.condF rfl (rfl) ?_
    refine VC.skip ?_
    refine thenQ_n ?_
    refine VC.sub [(0, _), (1, _), (5, _), (6, _)] (.cons rfl (.cons rfl (.cons rfl (.cons rfl .nil)))) ?_
    refine VC.seq ?_
    refine VC.seq ?_
    refine VC.region ?_
    refine Ops.r (v := .int .i64 ((0 : Nat) : Int)) (Run.asg rfl) rfl ?_
    refine Ops.nil ?_
    refine thenQ_n ?_
    refine VC.block ?_
    refine VC.loop (σ := Nat × List Nat) (fun s => [(0, .slice B1 b1.length c1), (1, .slice A n c), (5, .slice A2 b1.length c2), (6, .pointer (some ⟨gr, 0, none⟩)), (7, .int .i64 s.1)]) (fun s wr => s.1 ≤ b1.length ∧ Own wr 5 1 A2 b1.length c2 (NB s.2) ∧ IsR wr gr Ar b1 0 ∧ Frm [] w wr) (fun s => b1.length - s.1) (0, b1) (.cons rfl (.cons rfl (.cons rfl (.cons rfl (.cons rfl .nil))))) ⟨by omega, hown3, hR3, hfr3⟩ ?_
    rintro ⟨k, xs⟩ wr ⟨hk, hok, hR, hfr⟩
    dsimp only at hk hok hR hfr ⊢
    refine VC.seq ?_
    refine VC.seq ?_
    refine VC.region ?_
    refine Ops.r (Run.mv rfl) rfl ?_
    refine Ops.r (Run.mv rfl) rfl ?_
    refine Ops.r (Run.lenS rfl Try.underlying26) rfl ?_
    refine Ops.r (Run.bin rfl rfl (Bin.lssN _ _)) rfl ?_
    refine Ops.nil ?_
    refine thenQ_n ?_
    refine VC.sub [(0, _), (1, _), (5, _), (6, _), (7, _), (31, _)] (.cons rfl (.cons rfl (.cons rfl (.cons rfl (.cons rfl (.cons rfl .nil)))))) ?_
    refine VC.condD rfl (fun hc3 => ?_) (fun hc3 => ?_)
    · skip
      obtain ⟨ad, u, hAd, _, _⟩ := hok.rd.at1 hc3
      subst hAd
      refine VC.skip ?_
      refine thenQ_n ?_
      refine VC.sub [(0, _), (1, _), (5, _), (6, _), (7, _)] (.cons rfl (.cons rfl (.cons rfl (.cons rfl (.cons rfl .nil))))) ?_
      refine VC.seq ?_
      refine VC.block ?_
      refine VC.region ?_
      refine Ops.r (Run.mv rfl) rfl ?_
      refine Ops.r (Run.mv rfl) rfl ?_
      refine Ops.r (Run.index1 _ rfl rfl Try.underlying26 Try.sizeOf5 (by omega)) rfl ?_
      refine Ops.st (Acts.storeOwn k rfl rfl Try.sizeOf5 hok rfl (by omega) rfl) ?_
      rintro w4 ⟨hok4, hf4, hs4⟩
      refine Ops.nil ?_
      refine blockQ_n (thenQ_n ?_)
      refine VC.sub [(0, _), (1, _), (5, _), (6, _), (7, _)] (.cons rfl (.cons rfl (.cons rfl (.cons rfl (.cons rfl .nil))))) ?_
      refine VC.region ?_
      refine Ops.r (Run.mv rfl) rfl ?_
      refine Ops.r (Run.bin rfl rfl (Bin.add_i64 _ 1 (by omega))) rfl ?_
      refine Ops.r (Run.asg rfl) rfl ?_
      refine Ops.nil ?_
      refine thenQ_n ⟨(k + 1, xs.set k 99), (.cons rfl (.cons rfl (.cons rfl (.cons rfl (.cons rfl .nil))))), ?_, ?_⟩
      · skip
        refine ⟨hc3, ?_, hR.frm hf4 hne, hfr.own hf4 hA2⟩
        rw [NB_set]
        exact hok4
      · skip
        first | omega | (dsimp only; omega)
    · skip
      refine VC.exit ?_
      refine thenQ_x (thenQ_x (blockQ_x ?_))
      refine thenQ_n ?_
      refine VC.sub [(0, _), (1, _), (6, _)] (.cons rfl (.cons rfl (.cons rfl .nil))) ?_
      refine VC.seq ?_
      refine VC.region ?_
      refine Ops.r (Run.mv rfl) rfl ?_
      refine Ops.cl (Enters.fn (evs.cons rfl evs.nil) Try.call26) (of_spec B1 c1 b1 _ (by omega) hb1 (hr1.belowW hfr.below)) rfl ?_
      rintro e w5 ⟨A8, c8, rfl, ho8, hf5, hA8⟩
      refine ⟨_, rfl, ?_⟩
      have hR5 := hR.frm hf5 (by simp)
      have hfr5 := hfr.own hf5 (by simp)
      have hol := ofB_len b1
      have ho8c := ho8.le
      rw [← hol] at ho8 ho8c
      clear hok hR hfr hR3 hown3 hown2
      refine Ops.r (Run.asg rfl) rfl ?_
      refine Ops.nil ?_
      refine thenQ_n ?_
      refine VC.sub [(0, _), (1, _), (6, _), (8, _)] (.cons rfl (.cons rfl (.cons rfl (.cons rfl .nil)))) ?_
      refine VC.seq ?_
      refine VC.region ?_
      refine Ops.r (v := .int .i64 ((0 : Nat) : Int)) (Run.asg rfl) rfl ?_
      refine Ops.nil ?_
      refine thenQ_n ?_
      refine VC.seq ?_
      refine VC.seq ?_
      refine VC.region ?_
      refine Ops.r (v := .int .i64 ((0 : Nat) : Int)) (Run.asg rfl) rfl ?_
      refine Ops.nil ?_
      refine thenQ_n ?_
      refine VC.block ?_
      refine VC.loop (σ := Nat × Nat) (fun s => [(0, .slice B1 b1.length c1), (1, .slice A n c), (6, .pointer (some ⟨gr, 0, none⟩)), (8, .slice A8 (8 * b1.length) c8), (9, .int .i64 s.2), (10, .int .i64 s.1)]) (fun s wr => s.1 ≤ n ∧ s.1 ≤ 60 ∧ s.2 ≤ 8 * b1.length ∧ IsR wr gr Ar b1 s.2 ∧ Own wr 4 1 A8 (ofB b1).length c8 (BL (ofB b1)) ∧ Frm [] w wr) (fun s => 60 - s.1) (0, 0) (.cons rfl (.cons rfl (.cons rfl (.cons rfl (.cons rfl (.cons rfl .nil)))))) ⟨by omega, by omega, by omega, hR5, ho8, hfr5⟩ ?_
      clear ho8 hR5 hfr5
      rintro ⟨k, p⟩ wr ⟨hkn, hk60, hp, hR, hoa, hfr⟩
      dsimp only at hkn hk60 hp hR hoa hfr ⊢
      refine VC.seq ?_
      refine VC.seq ?_
      refine VC.split1 [(0, _), (1, _), (6, _), (8, _), (9, _), (10, _)] (.cons rfl (.cons rfl (.cons rfl (.cons rfl (.cons rfl (.cons rfl .nil)))))) 46 (.bool (decide (k < n ∧ k < 60))) ?_ ?_
      · by_cases hs0 : k < n
        · skip
          refine VC.region ?_
          refine Ops.r (Run.mv rfl) rfl ?_
          refine Ops.r (Run.mv rfl) rfl ?_
          refine Ops.r (Run.lenS rfl Try.underlying46) rfl ?_
          refine Ops.r (Run.bin rfl rfl (Bin.lssN _ _)) rfl ?_
          refine Ops.r (Run.mv rfl) rfl ?_
          refine Ops.rg rfl (by first | rfl | assumption | decide | (simp; done) | (simp; omega) | (simp [*]; done)) (Run.mv rfl) rfl ?_
          refine Ops.rg rfl (by first | rfl | assumption | decide | (simp; done) | (simp; omega) | (simp [*]; done)) (Run.bin rfl rfl (Bin.lssN _ 60)) rfl ?_
          refine Ops.r (Run.pickT rfl rfl (by first | rfl | assumption | decide | (simp; done) | (simp; omega) | (simp [*]; done))) rfl ?_
          refine Ops.nil ?_
          refine thenQ_n ⟨(.cons (by rw [dand1 hs0]; rfl) (.cons rfl (.cons rfl (.cons rfl (.cons rfl (.cons rfl (.cons rfl .nil))))))), rfl⟩
        · skip
          refine VC.region ?_
          refine Ops.r (Run.mv rfl) rfl ?_
          refine Ops.r (Run.mv rfl) rfl ?_
          refine Ops.r (Run.lenS rfl Try.underlying46) rfl ?_
          refine Ops.r (Run.bin rfl rfl (Bin.lssN _ _)) rfl ?_
          refine Ops.r (Run.mv rfl) rfl ?_
          refine Ops.sk rfl (by first | rfl | assumption | decide | (simp; done) | (simp; omega) | (simp [*]; done)) rfl ?_
          refine Ops.sk rfl (by first | rfl | assumption | decide | (simp; done) | (simp; omega) | (simp [*]; done)) rfl ?_
          refine Ops.r (Run.pickF rfl rfl (by first | rfl | assumption | decide | (simp; done) | (simp; omega) | (simp [*]; done))) rfl ?_
          refine Ops.nil ?_
          refine thenQ_n ⟨(.cons (by rw [dand0 hs0]; rfl) (.cons rfl (.cons rfl (.cons rfl (.cons rfl (.cons rfl (.cons rfl .nil))))))), rfl⟩
      · intro Γ hΓ
        refine thenQ_n (VC.sub _ hΓ ?_)
        refine VC.condD rfl (fun hc4 => ?_) (fun hc4 => ?_)
        · skip
          obtain ⟨hkn', hk60'⟩ := hc4
          obtain ⟨ad, rfl, hel⟩ := (hSr.belowW hfr.below).elem hkn'
          have hks : k < ss.length := by omega
          rw [flat_get AskC.cells 2 (fun _ => rfl) ss k hks] at hel
          generalize ss[k] = st at *
          have hlp : ((ofB b1).take p).length = p - 0 := by simp; omega
          have hwp : (whole ((ofB b1).take p)).length = (p + 7) / 8 * 8 := by rw [whole_len, hlp]; omega
          refine VC.skip ?_
          refine thenQ_n ?_
          refine VC.sub [(0, _), (1, _), (6, _), (8, _), (9, _), (10, _)] (.cons rfl (.cons rfl (.cons rfl (.cons rfl (.cons rfl (.cons rfl .nil)))))) ?_
          refine VC.seq ?_
          refine VC.block ?_
          refine VC.seq ?_
          refine VC.region ?_
          refine Ops.r (Run.mv rfl) rfl ?_
          refine Ops.r (Run.mv rfl) rfl ?_
          refine Ops.r (Run.indexS _ rfl rfl Try.underlying46 Try.sizeOf48 (by omega)) rfl ?_
          refine Ops.r (Run.loadA rfl Try.isAgg48 Try.sizeOf48 hel rfl) rfl ?_
          refine Ops.m (Does.alloc zero48) rfl ?_
          rintro _ w2 ⟨rfl, hF2⟩
          have hb2 := hF2.blk
          refine Ops.st (Acts.storeA rfl rfl Try.sizeOf48 hb2 rfl (by simpa [AskC.cells] using ask_one st)) ?_
          rintro w3 ⟨hb3, hf3, hs3⟩
          have hR3 := (hR.frm hF2.frm (by simp)).frm hf3 (fun x hx hx2 => by simp at hx2; have := hR.lt x hx; omega)
          have hoa3 := (hoa.frm hF2.frm (by simp)).frm hf3 (fun x hx hx2 => by simp at hx2; have := hoa.lt x hx; omega)
          have hfr3 := (hfr.own hF2.frm (by simp)).own hf3 (up_one hfr.size)
          have hgne : gr ≠ wr.heap.size := by have := hR.lt gr (by simp); omega
          generalize hgs : wr.heap.size = gs at *
          refine Ops.nil ?_
          refine thenQ_n ?_
          refine VC.sub [(0, _), (1, _), (6, _), (8, _), (9, _), (10, _), (11, _)] (.cons rfl (.cons rfl (.cons rfl (.cons rfl (.cons rfl (.cons rfl (.cons rfl .nil))))))) ?_
          refine VC.seq ?_
          refine VC.seq ?_
          refine VC.region ?_
          refine Ops.r (Run.fieldAddr rfl Try.underlying48 rfl Try.sizeOf3 (by decide)) rfl ?_
          refine Ops.r (Run.load rfl Try.isAgg3 (hb3.cell 0)) rfl ?_
          refine Ops.nil ?_
          refine thenQ_n ?_
          refine VC.sub [(0, _), (1, _), (6, _), (8, _), (9, _), (10, _), (11, _), (54, _)] (.cons rfl (.cons rfl (.cons rfl (.cons rfl (.cons rfl (.cons rfl (.cons rfl (.cons rfl .nil)))))))) ?_
          refine VC.block ?_
          refine VC.seq ?_
          refine VC.region ?_
          refine Ops.r (Run.bin rfl rfl (Bin.eql _ 0)) rfl ?_
          refine Ops.r (Run.asg rfl) rfl ?_
          refine Ops.nil ?_
          refine thenQ_n ?_
          refine VC.sub [(0, _), (1, _), (6, _), (8, _), (9, _), (10, _), (11, _), (54, _), (114, _)] (.cons rfl (.cons rfl (.cons rfl (.cons rfl (.cons rfl (.cons rfl (.cons rfl (.cons rfl (.cons rfl .nil))))))))) ?_
          refine VC.meet (σ := Nat) (fun s => [(0, .slice B1 b1.length c1), (1, .slice (some ad) n c), (6, .pointer (some ⟨gr, 0, none⟩)), (8, .slice A8 (8 * b1.length) c8), (9, .int .i64 ((s : Nat) : Int)), (10, .int .i64 k)]) (fun s w9 => s ≤ 8 * b1.length ∧ IsR w9 gr Ar b1 s ∧ Own w9 4 1 A8 (ofB b1).length c8 (BL (ofB b1)) ∧ Frm [] w w9) ?_ ?_
          · skip
            refine VC.condD rfl (fun hc5 => ?_) (fun hc5 => ?_)
            · skip
              refine VC.seq ?_
              refine VC.region ?_
              refine Ops.r (Run.mv rfl) rfl ?_
              refine Ops.r (Run.fieldAddr rfl Try.underlying48 rfl Try.sizeOf3 (by decide)) rfl ?_
              refine Ops.r (Run.load rfl Try.isAgg3 (hb3.cell 1)) rfl ?_
              refine Ops.cl (Enters.fn (evs.cons rfl (evs.cons rfl evs.nil)) Try.call18) (take_any gr p st.N Ar b1 _ hp (by omega) hb1 hR3) rfl ?_
              rintro e w4 ⟨v, e4, p4, rfl, hT, hp4, hR4, hf4⟩
              refine ⟨_, rfl, ?_⟩
              have hb4 := hb3.frm hf4 (by simp; omega)
              have hoa4 := hoa3.frm hf4 (hoa3.ne_r hR3 (by decide))
              have hfr4 := hfr3.own hf4 (up_one hgr)
              refine Ops.r (Run.mv rfl) rfl ?_
              refine Ops.r (Run.extract rfl rfl) rfl ?_
              refine Ops.r (Run.extract rfl rfl) rfl ?_
              refine Ops.r (Run.asg rfl) rfl ?_
              refine Ops.r (Run.asg rfl) rfl ?_
              refine Ops.nil ?_
              refine thenQ_n ?_
              refine VC.sub [(0, _), (1, _), (6, _), (8, _), (9, _), (10, _), (11, _), (12, _), (13, _)] (.cons rfl (.cons rfl (.cons rfl (.cons rfl (.cons rfl (.cons rfl (.cons rfl (.cons rfl (.cons rfl .nil))))))))) ?_
              refine VC.seq ?_
              refine VC.split1 [(0, _), (1, _), (6, _), (8, _), (9, _), (10, _), (11, _), (12, _), (13, _)] (.cons rfl (.cons rfl (.cons rfl (.cons rfl (.cons rfl (.cons rfl (.cons rfl (.cons rfl (.cons rfl .nil))))))))) 130 (.bool (decide (st.N < 0 ∨ 32 < st.N))) ?_ ?_
              · by_cases hs0 : st.N < 0
                · skip
                  refine VC.region ?_
                  refine Ops.r (Run.fieldAddr rfl Try.underlying48 rfl Try.sizeOf3 (by decide)) rfl ?_
                  refine Ops.r (Run.load rfl Try.isAgg3 (hb4.cell 1)) rfl ?_
                  refine Ops.r (Run.bin rfl rfl (Bin.lss _ 0)) rfl ?_
                  refine Ops.r (Run.mv rfl) rfl ?_
                  refine Ops.sk rfl (by first | rfl | assumption | decide | (simp; done) | (simp; omega) | (simp [*]; done)) rfl ?_
                  refine Ops.sk rfl (by first | rfl | assumption | decide | (simp; done) | (simp; omega) | (simp [*]; done)) rfl ?_
                  refine Ops.sk rfl (by first | rfl | assumption | decide | (simp; done) | (simp; omega) | (simp [*]; done)) rfl ?_
                  refine Ops.r (Run.pickT rfl rfl (by first | rfl | assumption | decide | (simp; done) | (simp; omega) | (simp [*]; done))) rfl ?_
                  refine Ops.nil ?_
                  refine thenQ_n ⟨(.cons (by rw [dor1 hs0]; rfl) (.cons rfl (.cons rfl (.cons rfl (.cons rfl (.cons rfl (.cons rfl (.cons rfl (.cons rfl (.cons rfl .nil)))))))))), rfl⟩
                · skip
                  refine VC.region ?_
                  refine Ops.r (Run.fieldAddr rfl Try.underlying48 rfl Try.sizeOf3 (by decide)) rfl ?_
                  refine Ops.r (Run.load rfl Try.isAgg3 (hb4.cell 1)) rfl ?_
                  refine Ops.r (Run.bin rfl rfl (Bin.lss _ 0)) rfl ?_
                  refine Ops.r (Run.mv rfl) rfl ?_
                  refine Ops.rg rfl (by first | rfl | assumption | decide | (simp; done) | (simp; omega) | (simp [*]; done)) (Run.fieldAddr rfl Try.underlying48 rfl Try.sizeOf3 (by decide)) rfl ?_
                  refine Ops.rg rfl (by first | rfl | assumption | decide | (simp; done) | (simp; omega) | (simp [*]; done)) (Run.load rfl Try.isAgg3 (hb4.cell 1)) rfl ?_
                  refine Ops.rg rfl (by first | rfl | assumption | decide | (simp; done) | (simp; omega) | (simp [*]; done)) (Run.bin rfl rfl (Bin.gtr _ 32)) rfl ?_
                  refine Ops.r (Run.pickF rfl rfl (by first | rfl | assumption | decide | (simp; done) | (simp; omega) | (simp [*]; done))) rfl ?_
                  refine Ops.nil ?_
                  refine thenQ_n ⟨(.cons (by rw [dor0 hs0]; rfl) (.cons rfl (.cons rfl (.cons rfl (.cons rfl (.cons rfl (.cons rfl (.cons rfl (.cons rfl (.cons rfl .nil)))))))))), rfl⟩
              · intro Γ hΓ
                refine thenQ_n (VC.sub _ hΓ ?_)
                refine VC.condD rfl (fun hc6 => ?_) (fun hc6 => ?_)
                · skip
                  obtain ⟨rfl, rfl, rfl⟩ : v = 0 ∧ e4 = 1 ∧ p4 = p := by
                    rcases hT with ⟨_, h⟩ | ⟨m, hm, hm2, _⟩
                    · exact h
                    · omega
                  refine VC.seq ?_
                  refine VC.region ?_
                  refine Ops.r (Run.mv rfl) rfl ?_
                  refine Ops.r (Run.bin rfl rfl (Bin.neqN _ 0)) rfl ?_
                  refine Ops.r (Run.mv rfl) rfl ?_
                  refine Ops.rg rfl (by simp) (Run.mv rfl) rfl ?_
                  refine Ops.rg rfl (by simp) (Run.bin rfl rfl (Bin.neqN _ 1)) rfl ?_
                  refine Ops.r (Run.pickF rfl rfl (by simp)) rfl ?_
                  refine Ops.nil ?_
                  refine thenQ_n ?_
                  refine VC.sub [(0, _), (1, _), (6, _), (8, _), (9, _), (10, _), (136, _)] (.cons rfl (.cons rfl (.cons rfl (.cons rfl (.cons rfl (.cons rfl (.cons rfl .nil))))))) ?_
                  refine VC.condF rfl (by simp) ?_
                  refine VC.skip ?_
                  refine thenQ_n ⟨p4, (.cons rfl (.cons rfl (.cons rfl (.cons rfl (.cons rfl (.cons rfl .nil)))))), ?_⟩
                  exact ⟨hp4, hR4, hoa4, hfr4⟩
                · skip
                  obtain ⟨m, hm, hm2, hT⟩ := hT.resolve_left (fun h => hc6 h.1)
                  have hN : (AskC.cells st)[1]? = some (.int .i64 ((m : Nat) : Int)) := by simp [AskC.cells, hm]
                  refine VC.seq ?_
                  refine VC.region ?_
                  refine Ops.r (Run.fieldAddr rfl Try.underlying48 rfl Try.sizeOf3 (by decide)) rfl ?_
                  refine Ops.r (Run.load rfl Try.isAgg3 ((hb4.cell 1).trans (by simpa using hN))) rfl ?_
                  refine Ops.r (Run.mv rfl) rfl ?_
                  refine Ops.r (Run.lenS rfl Try.underlying39) rfl ?_
                  refine Ops.r (Run.mv rfl) rfl ?_
                  refine Ops.r (Run.bin rfl rfl (Bin.sub_i64 _ _ (by omega) (by omega))) rfl ?_
                  refine Ops.r (Run.bin rfl rfl (Bin.gtrN _ _)) rfl ?_
                  refine Ops.nil ?_
                  refine thenQ_n ?_
                  refine VC.sub [(0, _), (1, _), (6, _), (8, _), (9, _), (10, _), (11, _), (12, _), (13, _), (143, _)] (.cons rfl (.cons rfl (.cons rfl (.cons rfl (.cons rfl (.cons rfl (.cons rfl (.cons rfl (.cons rfl (.cons rfl .nil)))))))))) ?_
                  refine VC.condD rfl (fun hc8 => ?_) (fun hc8 => ?_)
                  · skip
                    obtain ⟨rfl, rfl, rfl⟩ : v = 0 ∧ e4 = 2 ∧ p4 = p := by
                      rcases hT with ⟨_, h⟩ | ⟨h, _⟩
                      · exact h
                      · omega
                    refine VC.seq ?_
                    refine VC.region ?_
                    refine Ops.r (Run.mv rfl) rfl ?_
                    refine Ops.r (Run.bin rfl rfl (Bin.neqN _ 0)) rfl ?_
                    refine Ops.r (Run.mv rfl) rfl ?_
                    refine Ops.rg rfl (by simp) (Run.mv rfl) rfl ?_
                    refine Ops.rg rfl (by simp) (Run.bin rfl rfl (Bin.neqN _ 2)) rfl ?_
                    refine Ops.r (Run.pickF rfl rfl (by simp)) rfl ?_
                    refine Ops.nil ?_
                    refine thenQ_n ?_
                    refine VC.sub [(0, _), (1, _), (6, _), (8, _), (9, _), (10, _), (149, _)] (.cons rfl (.cons rfl (.cons rfl (.cons rfl (.cons rfl (.cons rfl (.cons rfl .nil))))))) ?_
                    refine VC.condF rfl (by simp) ?_
                    refine VC.skip ?_
                    refine thenQ_n ⟨p4, (.cons rfl (.cons rfl (.cons rfl (.cons rfl (.cons rfl (.cons rfl .nil)))))), ?_⟩
                    exact ⟨hp4, hR4, hoa4, hfr4⟩
                  · skip
                    obtain ⟨_, rfl, rfl, rfl⟩ := hT.resolve_left (fun h => by omega)
                    have hlm : (((ofB b1).drop p).take m).length = p + m - p := by simp; omega
                    refine VC.seq ?_
                    refine VC.seq ?_
                    refine VC.region ?_
                    refine Ops.r (Run.mv rfl) rfl ?_
                    refine Ops.r (Run.mv rfl) rfl ?_
                    refine Ops.r (Run.mv rfl) rfl ?_
                    refine Ops.r (Run.mv rfl) rfl ?_
                    refine Ops.r (Run.fieldAddr rfl Try.underlying48 rfl Try.sizeOf3 (by decide)) rfl ?_
                    refine Ops.r (Run.load rfl Try.isAgg3 ((hb4.cell 1).trans (by simpa using hN))) rfl ?_
                    refine Ops.r (Run.bin rfl rfl (Bin.add_i64 _ _ (by omega))) rfl ?_
                    refine Ops.r (Run.sliceS _ _ rfl Try.underlying39 Try.sizeOf4 (evB.some_ rfl) (evB.some_ rfl) (by omega) (by omega)) rfl ?_
                    refine Ops.cl (Enters.fn (evs.cons rfl evs.nil) Try.call29) ((by have h := number_spec (cutA A8 c8 p 1) (c8 - p) (((ofB b1).drop p).take m) _ (by omega) (BL_cut (ofB b1) p m (by omega) hoa4.rd ho8c); rw [hlm] at h; exact h)) rfl ?_
                    rintro e _ ⟨rfl, rfl⟩
                    refine ⟨_, rfl, ?_⟩
                    refine Ops.r (Run.bin rfl rfl (Bin.neqN _ _)) rfl ?_
                    refine Ops.r (Run.mv rfl) rfl ?_
                    refine Ops.rg rfl (by simp) (Run.mv rfl) rfl ?_
                    refine Ops.rg rfl (by simp) (Run.bin rfl rfl (Bin.neqN _ 0)) rfl ?_
                    refine Ops.r (Run.pickF rfl rfl (by simp)) rfl ?_
                    refine Ops.nil ?_
                    refine thenQ_n ?_
                    refine VC.sub [(0, _), (1, _), (6, _), (8, _), (9, _), (10, _), (11, _), (163, _)] (.cons rfl (.cons rfl (.cons rfl (.cons rfl (.cons rfl (.cons rfl (.cons rfl (.cons rfl .nil)))))))) ?_
                    refine VC.condF rfl (by simp) ?_
                    refine VC.skip ?_
                    refine thenQ_n ?_
                    refine VC.sub [(0, _), (1, _), (6, _), (8, _), (9, _), (10, _), (11, _)] (.cons rfl (.cons rfl (.cons rfl (.cons rfl (.cons rfl (.cons rfl (.cons rfl .nil))))))) ?_
                    refine VC.region ?_
                    refine Ops.r (Run.mv rfl) rfl ?_
                    refine Ops.r (Run.fieldAddr rfl Try.underlying48 rfl Try.sizeOf3 (by decide)) rfl ?_
                    refine Ops.r (Run.load rfl Try.isAgg3 ((hb4.cell 1).trans (by simpa using hN))) rfl ?_
                    refine Ops.r (Run.bin rfl rfl (Bin.add_i64 _ _ (by omega))) rfl ?_
                    refine Ops.r (Run.asg rfl) rfl ?_
                    refine Ops.nil ?_
                    refine thenQ_n ⟨(p + m), (.cons rfl (.cons rfl (.cons rfl (.cons rfl (.cons rfl (.cons rfl .nil)))))), ?_⟩
                    exact ⟨hp4, hR4, hoa4, hfr4⟩
            · skip
              refine VC.seq ?_
              refine VC.region ?_
              refine Ops.r (Run.bin rfl rfl (Bin.eql _ 1)) rfl ?_
              refine Ops.r (Run.asg rfl) rfl ?_
              refine Ops.nil ?_
              refine thenQ_n ?_
              refine VC.sub [(0, _), (1, _), (6, _), (8, _), (9, _), (10, _), (11, _), (168, _)] (.cons rfl (.cons rfl (.cons rfl (.cons rfl (.cons rfl (.cons rfl (.cons rfl (.cons rfl .nil)))))))) ?_
              refine VC.condD rfl (fun hc11 => ?_) (fun hc11 => ?_)
              · skip
                refine VC.seq ?_
                refine VC.region ?_
                refine Ops.r (Run.mv rfl) rfl ?_
                refine Ops.cl (Enters.fn (evs.cons rfl evs.nil) Try.call30) (align_spec gr p Ar b1 _ hp (by omega) hR3) rfl ?_
                rintro e w4 ⟨rfl, hR4, hf4⟩
                refine ⟨_, rfl, ?_⟩
                have hoa4 := hoa3.frm hf4 (hoa3.ne_r hR3 (by decide))
                have hfr4 := hfr3.own hf4 (up_one hgr)
                refine Ops.nil ?_
                refine thenQ_n ?_
                refine VC.sub [(0, _), (1, _), (6, _), (8, _), (9, _), (10, _)] (.cons rfl (.cons rfl (.cons rfl (.cons rfl (.cons rfl (.cons rfl .nil)))))) ?_
                refine VC.region ?_
                refine Ops.r (Run.mv rfl) rfl ?_
                refine Ops.r (Run.mv rfl) rfl ?_
                refine Ops.r (Run.sliceS 0 _ rfl Try.underlying39 Try.sizeOf4 evB.none_ (evB.some_ rfl) (by omega) (by omega)) rfl ?_
                refine Ops.cl (Enters.fn (evs.cons rfl evs.nil) Try.call25) ((by have h := whole_spec (cutA A8 c8 0 1) (c8 - 0) ((ofB b1).take p) _ (by omega) (by have h := BL_cut (ofB b1) 0 p (by omega) hoa4.rd ho8c; simpa using h); rw [hlp] at h; exact h)) rfl ?_
                rintro e w6 ⟨A6, c6, rfl, ho6, hf6, hA6⟩
                refine ⟨_, rfl, ?_⟩
                rw [hwp] at ho6 ⊢
                refine Ops.r (Run.lenS rfl Try.underlying39) rfl ?_
                refine Ops.r (Run.asg rfl) rfl ?_
                refine Ops.nil ?_
                refine thenQ_n ⟨((p + 7) / 8 * 8), (.cons rfl (.cons rfl (.cons rfl (.cons rfl (.cons rfl (.cons rfl .nil)))))), ?_⟩
                exact ⟨by omega, hR4.frm hf6 (by simp), hoa4.frm hf6 (by simp), hfr4.own hf6 (by simp)⟩
              · skip
                refine VC.seq ?_
                refine VC.region ?_
                refine Ops.r (Run.mv rfl) rfl ?_
                refine Ops.r (Run.fieldAddr rfl Try.underlying48 rfl Try.sizeOf3 (by decide)) rfl ?_
                refine Ops.r (Run.load rfl Try.isAgg3 (hb3.cell 1)) rfl ?_
                refine Ops.cl (Enters.fn (evs.cons rfl (evs.cons rfl evs.nil)) Try.call31) (octets_any gr p st.N Ar b1 _ hp (by omega) hR3) rfl ?_
                rintro e w4 ⟨B4, nl, c4, e4, p4, rfl, hT, hp4, hR4, hf4⟩
                refine ⟨_, rfl, ?_⟩
                have hb4 := hb3.frm hf4 (by simp; omega)
                have hoa4 := hoa3.frm hf4 (hoa3.ne_r hR3 (by decide))
                have hfr4 := hfr3.own hf4 (up_one hgr)
                refine Ops.r (Run.mv rfl) rfl ?_
                refine Ops.r (Run.extract rfl rfl) rfl ?_
                refine Ops.r (Run.extract rfl rfl) rfl ?_
                refine Ops.r (Run.asg rfl) rfl ?_
                refine Ops.r (Run.asg rfl) rfl ?_
                refine Ops.nil ?_
                refine thenQ_n ?_
                refine VC.sub [(0, _), (1, _), (6, _), (8, _), (9, _), (10, _), (11, _), (14, _), (15, _)] (.cons rfl (.cons rfl (.cons rfl (.cons rfl (.cons rfl (.cons rfl (.cons rfl (.cons rfl (.cons rfl .nil))))))))) ?_
                refine VC.seq ?_
                refine VC.region ?_
                refine Ops.r (Run.mv rfl) rfl ?_
                refine Ops.r (Run.mv rfl) rfl ?_
                refine Ops.r (Run.sliceS 0 _ rfl Try.underlying39 Try.sizeOf4 evB.none_ (evB.some_ rfl) (by omega) (by omega)) rfl ?_
                refine Ops.cl (Enters.fn (evs.cons rfl evs.nil) Try.call25) ((by have h := whole_spec (cutA A8 c8 0 1) (c8 - 0) ((ofB b1).take p) _ (by omega) (by have h := BL_cut (ofB b1) 0 p (by omega) hoa4.rd ho8c; simpa using h); rw [hlp] at h; exact h)) rfl ?_
                rintro e w6 ⟨A6, c6, rfl, ho6, hf6, hA6⟩
                refine ⟨_, rfl, ?_⟩
                rw [hwp] at ho6 ⊢
                have hb6 := hb4.frm hf6 (by simp)
                refine Ops.r (Run.lenS rfl Try.underlying39) rfl ?_
                refine Ops.r (Run.asg rfl) rfl ?_
                refine Ops.nil ?_
                refine thenQ_n ?_
                refine VC.sub [(0, _), (1, _), (6, _), (8, _), (9, _), (10, _), (11, _), (14, _), (15, _)] (.cons rfl (.cons rfl (.cons rfl (.cons rfl (.cons rfl (.cons rfl (.cons rfl (.cons rfl (.cons rfl .nil))))))))) ?_
                refine VC.seq ?_
                refine VC.region ?_
                refine Ops.r (Run.fieldAddr rfl Try.underlying48 rfl Try.sizeOf3 (by decide)) rfl ?_
                refine Ops.r (Run.load rfl Try.isAgg3 (hb6.cell 1)) rfl ?_
                refine Ops.r (Run.bin rfl rfl (Bin.lss _ 0)) rfl ?_
                refine Ops.nil ?_
                refine thenQ_n ?_
                refine VC.sub [(0, _), (1, _), (6, _), (8, _), (9, _), (10, _), (11, _), (14, _), (15, _), (69, _)] (.cons rfl (.cons rfl (.cons rfl (.cons rfl (.cons rfl (.cons rfl (.cons rfl (.cons rfl (.cons rfl (.cons rfl .nil)))))))))) ?_
                refine VC.condD rfl (fun hc12 => ?_) (fun hc12 => ?_)
                · skip
                  obtain ⟨rfl, rfl, rfl⟩ : nl = 0 ∧ e4 = 1 ∧ p4 = (p + 7) / 8 * 8 := by
                    rcases hT with ⟨_, h⟩ | ⟨m, hm, _⟩
                    · exact h
                    · omega
                  refine VC.seq ?_
                  refine VC.region ?_
                  refine Ops.r (Run.mv rfl) rfl ?_
                  refine Ops.r (Run.lenS rfl Try.underlying26) rfl ?_
                  refine Ops.r (Run.bin rfl rfl (Bin.neqN _ 0)) rfl ?_
                  refine Ops.r (Run.mv rfl) rfl ?_
                  refine Ops.rg rfl (by simp) (Run.mv rfl) rfl ?_
                  refine Ops.rg rfl (by simp) (Run.bin rfl rfl (Bin.neqN _ 1)) rfl ?_
                  refine Ops.r (Run.pickF rfl rfl (by simp)) rfl ?_
                  refine Ops.nil ?_
                  refine thenQ_n ?_
                  refine VC.sub [(0, _), (1, _), (6, _), (8, _), (9, _), (10, _), (76, _)] (.cons rfl (.cons rfl (.cons rfl (.cons rfl (.cons rfl (.cons rfl (.cons rfl .nil))))))) ?_
                  refine VC.condF rfl (by simp) ?_
                  refine VC.skip ?_
                  refine thenQ_n ⟨((p + 7) / 8 * 8), (.cons rfl (.cons rfl (.cons rfl (.cons rfl (.cons rfl (.cons rfl .nil)))))), ?_⟩
                  exact ⟨by omega, hR4.frm hf6 (by simp), hoa4.frm hf6 (by simp), hfr4.own hf6 (by simp)⟩
                · skip
                  obtain ⟨m, hm, hT⟩ := hT.resolve_left (fun h => hc12 h.1)
                  have hN : (AskC.cells st)[1]? = some (.int .i64 ((m : Nat) : Int)) := by simp [AskC.cells, hm]
                  refine VC.seq ?_
                  refine VC.region ?_
                  refine Ops.r (Run.fieldAddr rfl Try.underlying48 rfl Try.sizeOf3 (by decide)) rfl ?_
                  refine Ops.r (Run.load rfl Try.isAgg3 ((hb6.cell 1).trans (by simpa using hN))) rfl ?_
                  refine Ops.r (Run.mv rfl) rfl ?_
                  refine Ops.r (Run.lenS rfl Try.underlying39) rfl ?_
                  refine Ops.r (Run.mv rfl) rfl ?_
                  refine Ops.r (Run.bin rfl rfl (Bin.sub_i64 _ _ (by omega) (by omega))) rfl ?_
                  refine Ops.r (Run.bin rfl rfl (Bin.quo_i64 _ 8 (by omega) (by omega))) rfl ?_
                  refine Ops.r (Run.bin rfl rfl (Bin.gtrN _ _)) rfl ?_
                  refine Ops.nil ?_
                  refine thenQ_n ?_
                  refine VC.sub [(0, _), (1, _), (6, _), (8, _), (9, _), (10, _), (11, _), (14, _), (15, _), (84, _)] (.cons rfl (.cons rfl (.cons rfl (.cons rfl (.cons rfl (.cons rfl (.cons rfl (.cons rfl (.cons rfl (.cons rfl .nil)))))))))) ?_
                  refine VC.condD rfl (fun hc14 => ?_) (fun hc14 => ?_)
                  · skip
                    obtain ⟨rfl, rfl, rfl⟩ : nl = 0 ∧ e4 = 2 ∧ p4 = (p + 7) / 8 * 8 := by
                      rcases hT with ⟨_, h⟩ | ⟨h, _⟩
                      · exact h
                      · omega
                    refine VC.seq ?_
                    refine VC.region ?_
                    refine Ops.r (Run.mv rfl) rfl ?_
                    refine Ops.r (Run.lenS rfl Try.underlying26) rfl ?_
                    refine Ops.r (Run.bin rfl rfl (Bin.neqN _ 0)) rfl ?_
                    refine Ops.r (Run.mv rfl) rfl ?_
                    refine Ops.rg rfl (by simp) (Run.mv rfl) rfl ?_
                    refine Ops.rg rfl (by simp) (Run.bin rfl rfl (Bin.neqN _ 2)) rfl ?_
                    refine Ops.r (Run.pickF rfl rfl (by simp)) rfl ?_
                    refine Ops.nil ?_
                    refine thenQ_n ?_
                    refine VC.sub [(0, _), (1, _), (6, _), (8, _), (9, _), (10, _), (91, _)] (.cons rfl (.cons rfl (.cons rfl (.cons rfl (.cons rfl (.cons rfl (.cons rfl .nil))))))) ?_
                    refine VC.condF rfl (by simp) ?_
                    refine VC.skip ?_
                    refine thenQ_n ⟨((p + 7) / 8 * 8), (.cons rfl (.cons rfl (.cons rfl (.cons rfl (.cons rfl (.cons rfl .nil)))))), ?_⟩
                    exact ⟨by omega, hR4.frm hf6 (by simp), hoa4.frm hf6 (by simp), hfr4.own hf6 (by simp)⟩
                  · skip
                    obtain ⟨_, rfl, rfl, rfl, ho4⟩ := hT.resolve_left (fun h => by omega)
                    have ho6' := ho4.frm hf6 (by simp)
                    have hq8 : (p + 7) / 8 * 8 / 8 = (p + 7) / 8 := by omega
                    have hst : ((b1.drop ((p + 7) / 8)).take nl).length = (p + 7) / 8 + nl - (p + 7) / 8 := by simp; omega
                    have hb6' : ∀ x ∈ (b1.drop ((p + 7) / 8)).take nl, x < 256 := fun x hx => hb1 x (List.mem_of_mem_drop (List.mem_of_mem_take hx))
                    refine VC.seq ?_
                    refine VC.seq ?_
                    refine VC.still (by kernel_rfl) (by kernel_rfl) ?_
                    refine SOps.r (Run.mv rfl) rfl ?_
                    refine SOps.r (Run.strOf rfl Try.underlying26 Try.underlying5 Try.underlying9 ((ho6'.drawn (Drawn.drew _)).str hb6')) rfl ?_
                    refine SOps.r (Run.mv rfl) rfl ?_
                    refine SOps.r (Run.mv rfl) rfl ?_
                    refine SOps.r (Run.bin rfl rfl (Bin.quo_i64 _ 8 (by omega) (by omega))) rfl ?_
                    refine SOps.r (Run.mv rfl) rfl ?_
                    refine SOps.r (Run.bin rfl rfl (Bin.quo_i64 _ 8 (by omega) (by omega))) rfl ?_
                    refine SOps.r (Run.fieldAddr rfl Try.underlying48 rfl Try.sizeOf3 (by decide)) rfl ?_
                    refine SOps.r (Run.load rfl Try.isAgg3 (((hb6.drawn (Drawn.drew _)).cell 1).trans (by simpa using hN))) rfl ?_
                    refine SOps.r (Run.bin rfl rfl (Bin.add_i64 _ _ (by omega))) rfl ?_
                    refine SOps.r (Run.sliceS _ _ rfl Try.underlying26 Try.sizeOf5 (evB.some_ rfl) (evB.some_ rfl) (by omega) (by omega)) rfl ?_
                    refine SOps.r (Run.strOf rfl Try.underlying26 Try.underlying5 Try.underlying9 (by have h := NB_cut b1 ((p + 7) / 8) nl (by omega) (hr1.belowW ((hfr4.own hf6 (by simp)).drawn (Drawn.drew _)).below) hbc1; rw [NB_U8 _ hb6', hst] at h; simpa [hq8] using h)) rfl ?_
                    refine SOps.r (Run.neqStr rfl rfl) rfl ?_
                    refine SOps.r (Run.mv rfl) rfl ?_
                    refine SOps.rg rfl (by simp) (Run.mv rfl) rfl ?_
                    refine SOps.rg rfl (by simp) (Run.bin rfl rfl (Bin.neqN _ 0)) rfl ?_
                    refine SOps.r (Run.pickF rfl rfl (by simp)) rfl ?_
                    refine SOps.nil ?_
                    refine thenQ_n ?_
                    refine VC.sub [(0, _), (1, _), (6, _), (8, _), (9, _), (10, _), (11, _), (108, _)] (.cons rfl (.cons rfl (.cons rfl (.cons rfl (.cons rfl (.cons rfl (.cons rfl (.cons rfl .nil)))))))) ?_
                    refine VC.condF rfl (by simp) ?_
                    refine VC.skip ?_
                    refine thenQ_n ?_
                    refine VC.sub [(0, _), (1, _), (6, _), (8, _), (9, _), (10, _), (11, _)] (.cons rfl (.cons rfl (.cons rfl (.cons rfl (.cons rfl (.cons rfl (.cons rfl .nil))))))) ?_
                    refine VC.region ?_
                    refine Ops.r (Run.mv rfl) rfl ?_
                    refine Ops.r (Run.fieldAddr rfl Try.underlying48 rfl Try.sizeOf3 (by decide)) rfl ?_
                    refine Ops.r (Run.load rfl Try.isAgg3 (((hb6.drawn (Drawn.drew _)).cell 1).trans (by simpa using hN))) rfl ?_
                    refine Ops.r (Run.bin rfl rfl (Bin.mul_i64 8 _ (by omega))) rfl ?_
                    refine Ops.r (Run.bin rfl rfl (Bin.add_i64 _ _ (by omega))) rfl ?_
                    refine Ops.r (Run.asg rfl) rfl ?_
                    refine Ops.nil ?_
                    refine thenQ_n ⟨((p + 7) / 8 * 8 + 8 * nl), (.cons rfl (.cons rfl (.cons rfl (.cons rfl (.cons rfl (.cons rfl .nil)))))), ?_⟩
                    exact ⟨hp4, (hR4.frm hf6 (by simp)).frm (Drawn.drew _).frm (by simp), (hoa4.frm hf6 (by simp)).drawn (Drawn.drew _), (hfr4.own hf6 (by simp)).drawn (Drawn.drew _)⟩
          · skip
            rintro q w5 ⟨hq, hR5, hoa5, hfr5⟩ Γ hΓ
            refine blockQ_n (thenQ_n (VC.sub _ hΓ ?_))
            refine VC.seq ?_
            refine VC.region ?_
            refine Ops.r (Run.mv rfl) rfl ?_
            refine Ops.cl (Enters.fn (evs.cons rfl evs.nil) Try.call32) (at_spec gr q Ar b1 _ hR5) rfl ?_
            rintro e _ ⟨rfl, rfl⟩
            refine ⟨_, rfl, ?_⟩
            refine Ops.r (Run.mv rfl) rfl ?_
            refine Ops.r (Run.bin rfl rfl (Bin.neqN _ _)) rfl ?_
            refine Ops.r (Run.mv rfl) rfl ?_
            refine Ops.rg rfl (by simp) (Run.mv rfl) rfl ?_
            refine Ops.clg rfl (by simp) (Enters.fn (evs.cons rfl evs.nil) Try.call19) (left_spec gr q Ar b1 _ hq (by omega) hR5) rfl ?_
            rintro e w7 ⟨rfl, hd7⟩
            refine ⟨_, rfl, ?_⟩
            refine Ops.rg rfl (by simp) (Run.mv rfl) rfl ?_
            refine Ops.rg rfl (by simp) (Run.lenS rfl Try.underlying39) rfl ?_
            refine Ops.rg rfl (by simp) (Run.mv rfl) rfl ?_
            refine Ops.rg rfl (by simp) (Run.bin rfl rfl (Bin.sub_i64 _ _ (by omega) (by omega))) rfl ?_
            refine Ops.rg rfl (by simp) (Run.bin rfl rfl (Bin.neqN _ _)) rfl ?_
            refine Ops.r (Run.pickF rfl rfl (by simp)) rfl ?_
            refine Ops.nil ?_
            refine thenQ_n ?_
            refine VC.sub [(0, _), (1, _), (6, _), (8, _), (9, _), (10, _), (189, _)] (.cons rfl (.cons rfl (.cons rfl (.cons rfl (.cons rfl (.cons rfl (.cons rfl .nil))))))) ?_
            refine VC.condF rfl (by simp) ?_
            refine VC.skip ?_
            refine blockQ_n (thenQ_n ?_)
            refine VC.sub [(0, _), (1, _), (6, _), (8, _), (9, _), (10, _)] (.cons rfl (.cons rfl (.cons rfl (.cons rfl (.cons rfl (.cons rfl .nil)))))) ?_
            refine VC.region ?_
            refine Ops.r (Run.mv rfl) rfl ?_
            refine Ops.r (Run.bin rfl rfl (Bin.add_i64 _ 1 (by omega))) rfl ?_
            refine Ops.r (Run.asg rfl) rfl ?_
            refine Ops.nil ?_
            refine thenQ_n ⟨(k + 1, q), (.cons rfl (.cons rfl (.cons rfl (.cons rfl (.cons rfl (.cons rfl .nil)))))), ?_, ?_⟩
            · skip
              exact ⟨hkn', by dsimp only; omega, hq, hR5.frm hd7.frm (by simp), hoa5.drawn hd7, hfr5.drawn hd7⟩
            · skip
              first | omega | (dsimp only; omega)
        · skip
          refine VC.exit ?_
          refine thenQ_x (thenQ_x (blockQ_x ?_))
          refine thenQ_n ?_
          refine VC.sub [] .nil ?_
          refine VC.seq ?_
          refine VC.region ?_
          refine Ops.cl (Enters.fn evs.nil Try.call20) (awake08_spec _) rfl ?_
          rintro e w8 ⟨rfl, hf8⟩
          refine ⟨_, rfl, ?_⟩
          refine Ops.r (Run.asg rfl) rfl ?_
          refine Ops.nil ?_
          refine thenQ_n ?_
          refine VC.sub [(4, _)] (.cons rfl .nil) ?_
          refine VC.ret ?_
          refine end1 rfl ?_
          exact ⟨rfl, hfr.own hf8 (by simp)⟩

end Go.Proofs.Ytebaojedpnnliaa
