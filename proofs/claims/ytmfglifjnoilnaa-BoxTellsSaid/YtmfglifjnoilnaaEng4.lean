/-
  Short forms of the engine's rules, as the written scripts use them.
-/
import Derived.Test.YtmfglifjnoilnaaEng3
namespace Go.Proofs.Ytmfglifjnoilnaa
open Go.RowKit
section
variable {P : Program} {n : NF} {Γ Γ' : Env} {w : World} {Q : Exit → Env → World → Prop} {K : Env → World → Prop} {i id : Nat}
theorem thenQ_n (h : K Γ w) : thenQ K Q .normal Γ w := h
theorem thenQ_r (h : Q .ret Γ w) : thenQ K Q .ret Γ w := h
theorem thenQ_x (h : Q (.exit i) Γ w) : thenQ K Q (.exit i) Γ w := h
theorem thenQ_p {ch : List PanicEntry} (h : Q (.panic ch) Γ w) : thenQ K Q (.panic ch) Γ w := h
theorem blockQ_n (h : Q .normal Γ w) : blockQ id Q .normal Γ w := h
theorem blockQ_r (h : Q .ret Γ w) : blockQ id Q .ret Γ w := h
theorem blockQ_p {ch : List PanicEntry} (h : Q (.panic ch) Γ w) : blockQ id Q (.panic ch) Γ w := h
theorem blockQ_x (h : Q .normal Γ w) : blockQ id Q (.exit id) Γ w := by simp only [blockQ, if_true]; exact h
theorem blockQ_o (hne : Nat.beq i id = false) (h : Q (.exit i) Γ w) : blockQ id Q (.exit i) Γ w := by
  have : i ≠ id := fun e => by subst e; rw [Nat.beq_refl] at hne; cases hne
  simp only [blockQ, this, if_false]; exact h
theorem Sub.nil : Sub Γ [] := trivial
theorem Sub.cons {k : Nat} {v : Value} {r : Env} (h : get? Γ k = some v) (hr : Sub Γ r) : Sub Γ ((k, v) :: r) := ⟨h, hr⟩
section
variable {R : Ending → World → Prop}
theorem endQ_p {res : Array ResultVar} {ch : List PanicEntry} (h : R (.panicked ch) w) : endQ P res R (.panic ch) Γ w := h
theorem end0 (h : R (.returned (.tuple #[])) w) : endQ P #[] R .ret Γ w := h
theorem end0n (h : R (.returned (.tuple #[])) w) : endQ P #[] R .normal Γ w := h
theorem end1 {t : Tmp} {v : Value} (h1 : get? Γ t = some v) (h : R (.returned v) w) : endQ P #[.tmp t] R .ret Γ w := ⟨v, h1, h⟩
theorem end2 {t u : Tmp} {v x : Value} (h1 : get? Γ t = some v) (h2 : get? Γ u = some x) (h : R (.returned (.tuple #[v, x])) w) : endQ P #[.tmp t, .tmp u] R .ret Γ w := ⟨v, h1, x, h2, h⟩
theorem end3 {t u s : Tmp} {v x y : Value} (h1 : get? Γ t = some v) (h2 : get? Γ u = some x) (h3 : get? Γ s = some y) (h : R (.returned (.tuple #[v, x, y])) w) : endQ P #[.tmp t, .tmp u, .tmp s] R .ret Γ w := ⟨v, h1, x, h2, y, h3, h⟩
/-- Any results: each of them one by one. -/
theorem endR {res : Array ResultVar} (h : resQ P res.toList Γ w fun vs => R (.returned (retV vs)) w) : endQ P res R .ret Γ w := h
theorem endRn {res : Array ResultVar} (h : resQ P res.toList Γ w fun vs => R (.returned (retV vs)) w) : endQ P res R .normal Γ w := h
theorem res_nil {K : List Value → Prop} (h : K []) : resQ P [] Γ w K := h
theorem res_tmp {t : Tmp} {r : List ResultVar} {v : Value} {K : List Value → Prop} (h1 : get? Γ t = some v) (h : resQ P r Γ w fun vs => K (v :: vs)) : resQ P (.tmp t :: r) Γ w K := ⟨v, h1, h⟩
theorem res_cell {t : Tmp} {T : TypeId} {r : List ResultVar} {a : Addr} {v : Value} {K : List Value → Prop} (h1 : get? Γ t = some (.pointer (some a))) (ht : ∀ w, (isAgg T).run P w = .ok false w) (hc : w.cell? a = some v)
    (h : resQ P r Γ w fun vs => K (v :: vs)) : resQ P (.cell t T :: r) Γ w K := ⟨a, v, h1, by simp [loadVar, ht, hc], h⟩
theorem res_cellA {t : Tmp} {T : TypeId} {r : List ResultVar} {a : Addr} {cs : List Value} {sz : Nat} {K : List Value → Prop} (h1 : get? Γ t = some (.pointer (some a))) (ht : ∀ w, (isAgg T).run P w = .ok true w) (hz : ∀ w, (sizeOf T).run P w = .ok sz w)
    (hc : ∀ j v, cs[j]? = some v → w.cell? (a.add j) = some v) (hl : cs.length = sz) (h : resQ P r Γ w fun vs => K (.agg cs.toArray :: vs)) : resQ P (.cell t T :: r) Γ w K := by
  subst hl
  exact ⟨a, _, h1, by simp [loadVar, ht, hz, run_loadCells_list w a cs hc], h⟩
end
section
variable {ops : Array Oper} {rest : List Oper} {d : Nat} {op : Op} {T : TypeId} {pos : String} {after : Array Edge} {g : Option (Nat × Bool)}
theorem Ops.r {v : Value} (h : Run P ⟨some d, op, T, pos, after, none⟩ Γ w v) (hn : Nat.blt d n.n = true) (k : Ops P n ops rest ((d, v) :: Γ) w Q) : Ops P n ops (⟨some d, op, T, pos, after, none⟩ :: rest) Γ w Q :=
  Ops.run h trivial rfl hn k
theorem Ops.rg {v : Value} {j : Nat} {b c : Bool} (hy : yi ops Γ j = some (.bool b)) (hb : b = c) (h : Run P ⟨some d, op, T, pos, after, some (j, c)⟩ Γ w v) (hn : Nat.blt d n.n = true) (k : Ops P n ops rest ((d, v) :: Γ) w Q) : Ops P n ops (⟨some d, op, T, pos, after, some (j, c)⟩ :: rest) Γ w Q :=
  Ops.run h (by subst hb; exact hy) rfl hn k
theorem Ops.sk {j : Nat} {b c : Bool} (hy : yi ops Γ j = some (.bool b)) (hb : b = !c) (hn : Nat.blt d n.n = true) (k : Ops P n ops rest ((d, undef) :: Γ) w Q) : Ops P n ops (⟨some d, op, T, pos, after, some (j, c)⟩ :: rest) Γ w Q :=
  Ops.skip rfl hy hb rfl hn k
theorem Ops.m {R : Value → World → Prop} (h : Does P ⟨some d, op, T, pos, after, none⟩ Γ w R) (hn : Nat.blt d n.n = true) (k : ∀ v w', R v w' → Ops P n ops rest ((d, v) :: Γ) w' Q) : Ops P n ops (⟨some d, op, T, pos, after, none⟩ :: rest) Γ w Q :=
  Ops.does h trivial rfl hn k
theorem Ops.st {R : World → Prop} (h : Acts P ⟨none, op, T, pos, after, none⟩ Γ w R) (k : ∀ w', R w' → Ops P n ops rest Γ w' Q) : Ops P n ops (⟨none, op, T, pos, after, none⟩ :: rest) Γ w Q :=
  Ops.acts h trivial rfl k
theorem Ops.cl {f : FuncId} {args : Array Value} {R : Ending → World → Prop} (he : Enters P ⟨some d, op, T, pos, after, none⟩ Γ w f args) (hc : Calls P f args w R) (hn : Nat.blt d n.n = true)
    (k : ∀ e w', R e w' → ∃ v, e = .returned v ∧ Ops P n ops rest ((d, v) :: Γ) w' Q) : Ops P n ops (⟨some d, op, T, pos, after, none⟩ :: rest) Γ w Q :=
  Ops.call he hc trivial rfl hn k
theorem Ops.clg {f : FuncId} {args : Array Value} {R : Ending → World → Prop} {j : Nat} {b c : Bool} (hy : yi ops Γ j = some (.bool b)) (hb : b = c) (he : Enters P ⟨some d, op, T, pos, after, some (j, c)⟩ Γ w f args) (hc : Calls P f args w R) (hn : Nat.blt d n.n = true)
    (k : ∀ e w', R e w' → ∃ v, e = .returned v ∧ Ops P n ops rest ((d, v) :: Γ) w' Q) : Ops P n ops (⟨some d, op, T, pos, after, some (j, c)⟩ :: rest) Γ w Q :=
  Ops.call he hc (by subst hb; exact hy) rfl hn k
variable {KE : Env → Prop}
theorem SOps.r {v : Value} (h : Run P ⟨some d, op, T, pos, after, none⟩ Γ w v) (hn : Nat.blt d n.n = true) (k : SOps P n ops rest ((d, v) :: Γ) w KE) : SOps P n ops (⟨some d, op, T, pos, after, none⟩ :: rest) Γ w KE :=
  SOps.run h trivial rfl hn k
theorem SOps.rg {v : Value} {j : Nat} {b c : Bool} (hy : yi ops Γ j = some (.bool b)) (hb : b = c) (h : Run P ⟨some d, op, T, pos, after, some (j, c)⟩ Γ w v) (hn : Nat.blt d n.n = true) (k : SOps P n ops rest ((d, v) :: Γ) w KE) : SOps P n ops (⟨some d, op, T, pos, after, some (j, c)⟩ :: rest) Γ w KE :=
  SOps.run h (by subst hb; exact hy) rfl hn k
theorem SOps.sk {j : Nat} {b c : Bool} (hy : yi ops Γ j = some (.bool b)) (hb : b = !c) (hn : Nat.blt d n.n = true) (k : SOps P n ops rest ((d, undef) :: Γ) w KE) : SOps P n ops (⟨some d, op, T, pos, after, some (j, c)⟩ :: rest) Γ w KE := by
  intro a hs
  unfold wpStill
  have hw : Region.wanted (⟨some d, op, T, pos, after, some (j, c)⟩ : Oper) (yielded ops a.tmps) = false := by
    unfold Region.wanted
    simp only
    rw [yi_spec hs hy, hb]
    cases c <;> rfl
  rw [if_neg (by rw [hw]; simp)]
  exact k _ (hs.put hn undef)
theorem QOps.r {v : Value} (h : ∀ w', Drawn w w' → Run P ⟨some d, op, T, pos, after, none⟩ Γ w' v) (hn : Nat.blt d n.n = true) (k : QOps P n ops rest ((d, v) :: Γ) w KE) : QOps P n ops (⟨some d, op, T, pos, after, none⟩ :: rest) Γ w KE :=
  QOps.run h trivial rfl hn k
theorem QOps.rg {v : Value} {j : Nat} {b c : Bool} (hy : yi ops Γ j = some (.bool b)) (hb : b = c) (h : ∀ w', Drawn w w' → Run P ⟨some d, op, T, pos, after, some (j, c)⟩ Γ w' v) (hn : Nat.blt d n.n = true) (k : QOps P n ops rest ((d, v) :: Γ) w KE) : QOps P n ops (⟨some d, op, T, pos, after, some (j, c)⟩ :: rest) Γ w KE :=
  QOps.run h (by subst hb; exact hy) rfl hn k
theorem QOps.sk {j : Nat} {b c : Bool} (hy : yi ops Γ j = some (.bool b)) (hb : b = !c) (hn : Nat.blt d n.n = true) (k : QOps P n ops rest ((d, undef) :: Γ) w KE) : QOps P n ops (⟨some d, op, T, pos, after, some (j, c)⟩ :: rest) Γ w KE :=
  QOps.skip rfl hy hb rfl hn k
end
/-- Whatever way the code comes to its ordinary end, a ghost state says what is bound and what holds there. -/
theorem VC.meet {σ : Type} {c : Code} (env : σ → Env) (inv : σ → World → Prop) (h : VC P n c Γ w (thenQ (fun Γ' w' => ∃ s, Sub Γ' (env s) ∧ inv s w') Q)) (k : ∀ s w', inv s w' → ∀ Γ', Sub Γ' (env s) → Q .normal Γ' w') : VC P n c Γ w Q := by
  refine h.mono fun e Γ' w' q => ?_
  cases e with
  | normal => obtain ⟨s, hs, hi⟩ := q; exact k s w' hi Γ' hs
  | exit i => exact q
  | goto l => exact q
  | ret => exact q
  | panic c => exact q
  | outgrown => exact q
/-- Code that only reckons, by several ways that meet at once: what was bound is kept, and one slot more is known. -/
theorem VC.split1 {c : Code} (Γk : Env) (hk : Sub Γ Γk) (t : Nat) (v : Value) (h : VC P n c Γ w (thenQ (fun Γ1 w1 => Sub Γ1 ((t, v) :: Γk) ∧ w1 = w) Q)) (k : ∀ Γ1, Sub Γ1 ((t, v) :: Γk) → Q .normal Γ1 w) : VC P n c Γ w Q := by
  have _ := hk
  refine h.mono fun e Γ' w' q => ?_
  cases e with
  | normal => obtain ⟨hs, rfl⟩ := q; exact k Γ' hs
  | exit i => exact q
  | goto l => exact q
  | ret => exact q
  | panic c => exact q
  | outgrown => exact q
/-- Code, and what follows it, met at a ghost state. -/
theorem VC.seqM {σ : Type} {x y : Code} (env : σ → Env) (inv : σ → World → Prop) (h : VC P n x Γ w (thenQ (fun Γ' w' => ∃ s, Sub Γ' (env s) ∧ inv s w') Q)) (k : ∀ s w', inv s w' → VC P n y (env s) w' Q) : VC P n (.seq x y) Γ w Q := by
  refine VC.seq (h.mono fun e Γ' w' q => ?_)
  cases e with
  | normal => obtain ⟨s, hs, hi⟩ := q; exact VC.sub _ hs (k s w' hi)
  | exit i => exact q
  | goto l => exact q
  | ret => exact q
  | panic c => exact q
  | outgrown => exact q
theorem dand1 {p q : Prop} [Decidable p] [Decidable q] (h : p) : decide (p ∧ q) = decide q := by simp [h]
theorem dand0 {p q : Prop} [Decidable p] [Decidable q] (h : ¬ p) : decide (p ∧ q) = false := by simp [h]
theorem dor1 {p q : Prop} [Decidable p] [Decidable q] (h : p) : decide (p ∨ q) = true := by simp [h]
theorem dor0 {p q : Prop} [Decidable p] [Decidable q] (h : ¬ p) : decide (p ∨ q) = decide q := by simp [h]
/-! ### integers, kind by kind -/
theorem Bin.add_i64 (x y : Nat) (h : x + y ≤ 9223372036854775807) : Bin .add .i64 x .i64 y (.int .i64 ((x + y : Nat) : Int)) := Bin.addN x y h
theorem Bin.sub_i64 (x y : Nat) (hy : y ≤ x) (h : x ≤ 9223372036854775807) : Bin .sub .i64 x .i64 y (.int .i64 ((x - y : Nat) : Int)) := Bin.subN x y hy (by simp only [bmax]; omega)
theorem Bin.mul_i64 (x y : Nat) (h : x * y ≤ 9223372036854775807) : Bin .mul .i64 x .i64 y (.int .i64 ((x * y : Nat) : Int)) := Bin.mulN x y h
theorem Bin.quo_i64 (x y : Nat) (hy : y ≠ 0) (h : x ≤ 9223372036854775807) : Bin .quo .i64 x .i64 y (.int .i64 ((x / y : Nat) : Int)) := Bin.quoN x y hy (by simp only [bmax]; exact Nat.le_trans (Nat.div_le_self _ _) h)
theorem Bin.add_u64 (x y : Nat) (h : x + y ≤ 18446744073709551615) : Bin .add .u64 x .u64 y (.int .u64 ((x + y : Nat) : Int)) := Bin.addN x y h
theorem Bin.sub_u64 (x y : Nat) (hy : y ≤ x) (h : x ≤ 18446744073709551615) : Bin .sub .u64 x .u64 y (.int .u64 ((x - y : Nat) : Int)) := Bin.subN x y hy (by simp only [bmax]; omega)
theorem Bin.mul_u64 (x y : Nat) (h : x * y ≤ 18446744073709551615) : Bin .mul .u64 x .u64 y (.int .u64 ((x * y : Nat) : Int)) := Bin.mulN x y h
theorem Bin.quo_u64 (x y : Nat) (hy : y ≠ 0) (h : x ≤ 18446744073709551615) : Bin .quo .u64 x .u64 y (.int .u64 ((x / y : Nat) : Int)) := Bin.quoN x y hy (by simp only [bmax]; exact Nat.le_trans (Nat.div_le_self _ _) h)
theorem Bin.add_u8 (x y : Nat) (h : x + y ≤ 255) : Bin .add .u8 x .u8 y (.int .u8 ((x + y : Nat) : Int)) := Bin.addN x y h
theorem Bin.sub_u8 (x y : Nat) (hy : y ≤ x) (h : x ≤ 255) : Bin .sub .u8 x .u8 y (.int .u8 ((x - y : Nat) : Int)) := Bin.subN x y hy (by simp only [bmax]; omega)
theorem Bin.addZ (x y : Int) (h1 : -9223372036854775808 ≤ x + y) (h2 : x + y ≤ 9223372036854775807) : Bin .add .i64 x .i64 y (.int .i64 (x + y)) := Bin.add x y h1 h2
theorem Bin.subZ (x y : Int) (h1 : -9223372036854775808 ≤ x - y) (h2 : x - y ≤ 9223372036854775807) : Bin .sub .i64 x .i64 y (.int .i64 (x - y)) := Bin.sub x y h1 h2
theorem Bin.mulZ (x y : Int) (h1 : -9223372036854775808 ≤ x * y) (h2 : x * y ≤ 9223372036854775807) : Bin .mul .i64 x .i64 y (.int .i64 (x * y)) := Bin.mul x y h1 h2
theorem Bin.shr_u64 {k' : IntKind} (x y : Nat) (h : x ≤ 18446744073709551615) : Bin .shr .u64 x k' y (.int .u64 ((x / 2 ^ y : Nat) : Int)) := Bin.shrN x y h
theorem Bin.shr_i64 {k' : IntKind} (x y : Nat) (h : x ≤ 9223372036854775807) : Bin .shr .i64 x k' y (.int .i64 ((x / 2 ^ y : Nat) : Int)) := Bin.shrN x y h
theorem Bin.shr_u8 {k' : IntKind} (x y : Nat) (h : x ≤ 255) : Bin .shr .u8 x k' y (.int .u8 ((x / 2 ^ y : Nat) : Int)) := Bin.shrN x y h
theorem Bin.shl_u64 {k' : IntKind} (x y : Nat) (hy : y ≤ 64) (h : x * 2 ^ y ≤ 18446744073709551615) : Bin .shl .u64 x k' y (.int .u64 ((x * 2 ^ y : Nat) : Int)) := Bin.shlN x y hy h
theorem Bin.shl_i64 {k' : IntKind} (x y : Nat) (hy : y ≤ 64) (h : x * 2 ^ y ≤ 9223372036854775807) : Bin .shl .i64 x k' y (.int .i64 ((x * 2 ^ y : Nat) : Int)) := Bin.shlN x y hy h
theorem Bin.and_u64 (x y : Nat) (hx : x ≤ 18446744073709551615) (hy : y ≤ 18446744073709551615) : Bin .and .u64 x .u64 y (.int .u64 ((x &&& y : Nat) : Int)) := Bin.andN x y hx hy
theorem Bin.or_u64 (x y : Nat) (hx : x ≤ 18446744073709551615) (hy : y ≤ 18446744073709551615) : Bin .or .u64 x .u64 y (.int .u64 ((x ||| y : Nat) : Int)) := Bin.orN x y hx hy
theorem Bin.xor_u64 (x y : Nat) (hx : x ≤ 18446744073709551615) (hy : y ≤ 18446744073709551615) : Bin .xor .u64 x .u64 y (.int .u64 ((x ^^^ y : Nat) : Int)) := Bin.xorN x y hx hy
theorem Bin.and_u8 (x y : Nat) (hx : x ≤ 255) (hy : y ≤ 255) : Bin .and .u8 x .u8 y (.int .u8 ((x &&& y : Nat) : Int)) := Bin.andN x y hx hy
theorem Bin.or_u8 (x y : Nat) (hx : x ≤ 255) (hy : y ≤ 255) : Bin .or .u8 x .u8 y (.int .u8 ((x ||| y : Nat) : Int)) := Bin.orN x y hx hy
theorem Bin.and_i64 (x y : Nat) (hx : x ≤ 9223372036854775807) (hy : y ≤ 9223372036854775807) : Bin .and .i64 x .i64 y (.int .i64 ((x &&& y : Nat) : Int)) := Bin.andN x y hx hy
theorem Bin.xor_i64 (x y : Nat) (hx : x ≤ 9223372036854775807) (hy : y ≤ 9223372036854775807) : Bin .xor .i64 x .i64 y (.int .i64 ((x ^^^ y : Nat) : Int)) := Bin.xorN x y hx hy
end
end Go.Proofs.Ytmfglifjnoilnaa
