/-
  The walk of Inflate.
-/
import Derived.Test.YtfjhmbgckmhdaaaInfJ
import Derived.Test.YtfjhmbgckmhdaaaEng10
namespace Go.Proofs.Ytfjhmbgckmhdaaa
open Go.RowKit

/-- The cells of the results. -/
def IsO (w : World) (g4 g5 g6 : Nat) (v4 v5 v6 : Value) : Prop := Blk w g4 22 #[v4] ∧ Blk w g5 3 #[v5] ∧ Blk w g6 25 #[v6]
theorem IsO.frm {w w' : World} {g4 g5 g6 : Nat} {v4 v5 v6 : Value} {S : List Nat} (h : IsO w g4 g5 g6 v4 v5 v6) (hf : Frm S w w') (hS : ∀ x ∈ S, x ≠ g4 ∧ x ≠ g5 ∧ x ≠ g6) : IsO w' g4 g5 g6 v4 v5 v6 :=
  ⟨h.1.frm hf (fun h2 => (hS _ h2).1 rfl), h.2.1.frm hf (fun h2 => (hS _ h2).2.1 rfl), h.2.2.frm hf (fun h2 => (hS _ h2).2.2 rfl)⟩
theorem IsO.ne {w : World} {g4 g5 g6 : Nat} {v4 v5 v6 : Value} (h : IsO w g4 g5 g6 v4 v5 v6) : g4 ≠ g5 ∧ g4 ≠ g6 ∧ g5 ≠ g6 := ⟨h.1.ne h.2.1 (by decide), h.1.ne h.2.2 (by decide), h.2.1.ne h.2.2 (by decide)⟩
theorem IsO.ofX {w : World} {g4 g5 g6 : Nat} {v4 v5 v6 : Value} {gx gr : Nat} {Ar : Option Addr} {bs : List Nat} {p : Nat} {A : Option Addr} {c : Nat} {out : List Nat} {most : Nat} (h : IsO w g4 g5 g6 v4 v5 v6) (hX : IsX w gx gr Ar bs p A c out most) : ∀ x ∈ gx :: gr :: ob A, x ≠ g4 ∧ x ≠ g5 ∧ x ≠ g6 := fun x hx => by
  rcases List.mem_cons.1 hx with rfl | hx
  · exact ⟨hX.1.ne h.1 (by decide), hX.1.ne h.2.1 (by decide), hX.1.ne h.2.2 (by decide)⟩
  rcases List.mem_cons.1 hx with rfl | hx
  · have hb := hX.2.1.choose_spec.1
    exact ⟨hb.ne h.1 (by decide), hb.ne h.2.1 (by decide), hb.ne h.2.2 (by decide)⟩
  · have hO := hX.2.2.1
    exact ⟨fun e => hO.ne_blk h.1 (by decide) (e ▸ hx), fun e => hO.ne_blk h.2.1 (by decide) (e ▸ hx), fun e => hO.ne_blk h.2.2 (by decide) (e ▸ hx)⟩
theorem IsO.ofXx {w : World} {g4 g5 g6 : Nat} {v4 v5 v6 : Value} {gx gr : Nat} {Ar : Option Addr} {bs : List Nat} {p : Nat} {A : Option Addr} {c : Nat} {out : List Nat} {most : Nat} (h : IsO w g4 g5 g6 v4 v5 v6) (hX : IsX w gx gr Ar bs p A c out most) : ∀ x ∈ gx :: gr :: (ob A ++ ob Ar), x ≠ g4 ∧ x ≠ g5 ∧ x ≠ g6 := fun x hx => by
  have h0 := h.ofX hX
  rcases List.mem_cons.1 hx with rfl | hx
  · exact h0 _ (by simp)
  rcases List.mem_cons.1 hx with rfl | hx
  · exact h0 _ (by simp)
  rcases List.mem_append.1 hx with hx | hx
  · exact h0 _ (by simp [hx])
  · have hO := hX.2.1.choose_spec.2
    exact ⟨fun e => hO.ne_blk h.1 (by decide) (e ▸ hx), fun e => hO.ne_blk h.2.1 (by decide) (e ▸ hx), fun e => hO.ne_blk h.2.2 (by decide) (e ▸ hx)⟩
theorem infl_end {Γ : Env} {w : World} {R : Ending → World → Prop} {g4 g5 g6 : Nat} {v4 v5 v6 : Value} (e4 : get? Γ 4 = some (.pointer (some ⟨g4, 0, none⟩))) (e5 : get? Γ 5 = some (.pointer (some ⟨g5, 0, none⟩))) (e6 : get? Γ 6 = some (.pointer (some ⟨g6, 0, none⟩)))
    (h : IsO w g4 g5 g6 v4 v5 v6) (k : R (.returned (.tuple #[v4, v5, v6])) w) : endQ Try.prog #[.cell 4 22, .cell 5 3, .cell 6 25] R .ret Γ w :=
  endR (res_cell e4 Try.isAgg22 (h.1.cell 0) (res_cell e5 Try.isAgg3 (h.2.1.cell 0) (res_cell e6 Try.isAgg25 (h.2.2.cell 0) (res_nil k))))

set_option maxRecDepth 100000 in
theorem inflP_spec (g4 g5 g6 k : Nat) (v4 v5 v6 : Value) (w : World) (hO : IsO w g4 g5 g6 v4 v5 v6) :
    CallsD Try.prog 22 #[.pointer (some ⟨g4, 0, none⟩), .pointer (some ⟨g5, 0, none⟩), .pointer (some ⟨g6, 0, none⟩)] (.panicking (Pan k)) w fun e u w' => (∃ v, e = .returned v) ∧ settle u = .returning ∧ IsO w' g4 g5 g6 (.slice none 0 0) (.int .i64 ((0 : Nat) : Int)) (.int .i64 ((k : Nat) : Int)) ∧ Frm [g4, g5, g6] w w' := by
  obtain ⟨hn1, hn2, hn3⟩ := hO.ne
  obtain ⟨hb4, hb5, hb6⟩ := hO
  refine VC.recovered (nt := 9) (res := #[]) (u' := .panicking [{ v := .iface 25 (.int .i64 ((k : Nat) : Int)), recovered := true }]) (v := .iface 25 (.int .i64 ((k : Nat) : Int))) Try.func22 rfl Try.ntmps22 Try.results22 rfl (.inl ⟨[], rfl, rfl⟩) rfl rfl rfl rfl rfl rfl rfl rfl ?_
  refine VC.seq ?_
  refine VC.region ?_
  refine Ops.r (Run.mv rfl) rfl ?_
  refine Ops.r (Run.neqNilI rfl rfl Try.underlying20 rfl) rfl ?_
  refine Ops.nil ?_
  refine thenQ_n ?_
  refine VC.sub [(0, _), (1, _), (2, _), (3, _), (6, _)] (.cons rfl (.cons rfl (.cons rfl (.cons rfl (.cons rfl .nil))))) ?_
  refine VC.condT rfl (rfl) ?_
  refine VC.held (fun _ => True) (by kernel_rfl) ?_
  refine HOps.take 0 rfl (by kernel_rfl) (by kernel_rfl) (by kernel_rfl) trivial (fun w0 hw0 => Run.mv rfl) trivial rfl rfl ?_
  refine HOps.take 1 rfl (by kernel_rfl) (by kernel_rfl) (by kernel_rfl) trivial (fun w0 hw0 => Run.assertT rfl Try.underlying25 rfl) trivial rfl rfl ?_
  have hd := Drawn.drew w
  have hb4 := hb4.drawn hd
  have hb5 := hb5.drawn hd
  have hb6 := hb6.drawn hd
  refine HOps.st 2 rfl (by kernel_rfl) (Acts.store (i := 0) (v := .slice none 0 0) rfl rfl Try.sizeOf22 hb4 rfl rfl) trivial rfl ?_
  rintro w1 ⟨hb1, hf1, hs1⟩
  refine ⟨trivial, ?_⟩
  refine HOps.st 3 rfl (by kernel_rfl) (Acts.store (i := 0) (v := .int .i64 ((0 : Nat) : Int)) rfl rfl Try.sizeOf3 (hb5.frm hf1 (by simp; omega)) rfl rfl) trivial rfl ?_
  rintro w2 ⟨hb2, hf2, hs2⟩
  refine ⟨trivial, ?_⟩
  refine HOps.st 4 rfl (by kernel_rfl) (Acts.store (i := 0) (v := .int .i64 ((k : Nat) : Int)) rfl rfl Try.sizeOf25 ((hb6.frm hf1 (by simp; omega)).frm hf2 (by simp; omega)) rfl rfl) trivial rfl ?_
  rintro w3 ⟨hb3, hf3, hs3⟩
  refine ⟨trivial, ?_⟩
  refine HOps.done (by kernel_rfl) ?_
  refine end0n ?_
  exact ⟨⟨_, rfl⟩, rfl, ⟨(hb1.frm hf2 (by simp; omega)).frm hf3 (by simp; omega), hb2.frm hf3 (by simp; omega), hb3⟩, (hd.frm.mono (T := [g4, g5, g6]) (by simp)).trans ((hf1.mono (T := [g4, g5, g6]) (by simp)).trans ((hf2.mono (T := [g4, g5, g6]) (by simp)).trans (hf3.mono (T := [g4, g5, g6]) (by simp)) (fun x hx => .inl hx)) (fun x hx => .inl hx)) (fun x hx => .inl hx)⟩

set_option maxRecDepth 100000 in
theorem inflR_spec (g4 g5 g6 : Nat) (w : World) :
    CallsD Try.prog 22 #[.pointer (some ⟨g4, 0, none⟩), .pointer (some ⟨g5, 0, none⟩), .pointer (some ⟨g6, 0, none⟩)] .returning w fun e u w' => (∃ v, e = .returned v) ∧ settle u = .returning ∧ w' = w := by
  refine VC.recovered (nt := 9) (res := #[]) (u' := .returning) (v := .nilIface) Try.func22 rfl Try.ntmps22 Try.results22 rfl (.inr ⟨rfl, rfl, rfl⟩) rfl rfl rfl rfl rfl rfl rfl rfl ?_
  refine VC.seq ?_
  refine VC.region ?_
  refine Ops.r (Run.mv rfl) rfl ?_
  refine Ops.r (Run.neqNil2 rfl Try.underlying20 rfl) rfl ?_
  refine Ops.nil ?_
  refine thenQ_n ?_
  refine VC.sub [(0, _), (1, _), (2, _), (3, _), (6, _)] (.cons rfl (.cons rfl (.cons rfl (.cons rfl (.cons rfl .nil))))) ?_
  refine VC.condF rfl (rfl) ?_
  refine VC.skip ?_
  refine end0n ?_
  exact ⟨⟨_, rfl⟩, rfl, rfl⟩

end Go.Proofs.Ytfjhmbgckmhdaaa
