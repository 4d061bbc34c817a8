/-
  Builders: octets written behind; values.
-/
import Derived.Test.YtenbjndldenkfaaGreatDoorParS
import Derived.Lib.Builder
namespace Go.Proofs.YtenbjndldenkfaaGreatDoor
open Go.RowKit Go.Sort

section
variable {P : Program} {Γ : Env} {w : World} {dst : Option Tmp} {pos : String} {after : Array Edge} {g : Option (Nat × Bool)} {T : TypeId}
/-- A call of a function without a body, whose answer is known. -/
theorem Run.ext {f : FuncId} {xs : List Operand} {vs : List Value} {ts : Array TypeId} {v : Value} (hv : evs Γ xs vs) (hf : ∀ w, (callFunc f vs.toArray).run P w = .ok (.value v) w) :
    Run P ⟨dst, .call ⟨.value (.func f), xs.toArray, ts⟩, T, pos, after, g⟩ Γ w v := fun ρ hρ => by
  have e := evs_map hρ xs vs hv
  have e2 : ρ (.func f) = .func (.func f) #[] #[] := hρ _ _ rfl
  simp [execOp, resolve, e2, Deferred.ofValue, invoke, e, hf]
theorem Run.convAny {src dstT : TypeId} {x : Operand} {u v : Value} (hx : ev? Γ x = some u) (h : (convert src dstT u).run P w = .ok v w) : Run P ⟨dst, .convert src dstT x, T, pos, after, g⟩ Γ w v := fun ρ hρ => by
  simp [execOp, hρ _ _ hx, h]
theorem Run.neqSameP {t yT e : TypeId} {j : TypeInfo} {x y : Operand} {a : Addr} (hx : ev? Γ x = some (.pointer (some a))) (hy : ev? Γ y = some (.pointer (some a))) (ht : P.underlying t = some (.pointer e)) (he : P.info? e = some j) :
    Run P ⟨dst, .binOp .neq t x y yT, T, pos, after, g⟩ Γ w (.bool false) := fun ρ hρ => by
  simp [execOp, hρ _ _ hx, hρ _ _ hy, eqGuard, Lib.run_neq_ptr_same w a ht he]
end
/-- A builder of its own, and the octets that it holds. -/
def Bld (w : World) (b : Nat) (bs : Tx) : Prop := ∃ p A c, (p = none ∨ p = some (⟨b, 0, none⟩ : Addr)) ∧ Blk w b 50 #[.pointer p, .slice A bs.length c] ∧ Own w 5 1 A bs.length c (U8 bs)
theorem u8_byte (l : Tx) : U8 l = Lib.byteCells l := rfl
theorem Bld.isB {w : World} {b B : Nat} {bs : Tx} {p A : Option Addr} {c : Nat} (hp : p = none ∨ p = some (⟨b, 0, none⟩ : Addr)) (hb : Blk w b 50 #[.pointer p, .slice A bs.length c]) (ho : Own w 5 1 A bs.length c (U8 bs)) (hB : B ≤ b) (hA : ∀ x ∈ ob A, B ≤ x) :
    Lib.IsBuilder 50 5 B b (Lib.byteCells bs) w := by
  have key : Lib.BuilderAt 50 5 B b (.pointer p) (Lib.byteCells bs) w := by
    have hlen : (Lib.byteCells bs).length = bs.length := Lib.byteCells_length bs
    refine ⟨hB, .slice A bs.length c, hb, ⟨by rw [hlen, Nat.mul_one], ?_⟩, ?_⟩
    · rw [hlen]
      rcases ho.cases with ⟨rfl, h1, h2, _⟩ | ⟨g, cur, rfl, h1, h2, h3, h4, h5⟩
      · exact .inl ⟨by rw [h1, h2], h1⟩
      · exact .inr ⟨g, c, cur, rfl, hA g (by simp [ob]), h1, h2, h3, h4, h5⟩
    · have hn := ho.ne_blk hb (by decide)
      cases A with
      | none => simp [Value.ownBlock]
      | some a => simp only [Value.ownBlock, ne_eq, Option.some.injEq]; intro h; exact hn (by simp [ob, h])
  rcases hp with rfl | rfl
  · exact .inl key
  · exact .inr key
theorem noEsc (x : Value) (w : World) : (callFunc 89 #[x]).run Tryz.prog w = .ok (.value x) w := by
  rw [run_callFunc_extern Tryz.func89 (by kernel_rfl) (by kernel_rfl) (by kernel_rfl) (e := Extern.AbiNoEscape.same) (by kernel_rfl), Lib.run_noEscape]
  rfl
theorem Blk.shape {w : World} {g : Nat} {t : TypeId} {cs : Array Value} (h : Blk w g t cs) : w.shape? g = some (t, cs.size) := by
  have h : w.heap[g]? = some (.cells cs t (0, 0)) := h
  simp [World.shape?, h]
theorem bsize : (Tryz.prog.info? 50).map (·.size) = some 2 := by kernel_rfl
theorem blies : liesAt Tryz.prog Tryz.prog.depth 50 (2 / Tryz.prog.cellsOf 50) 0 50 1 = true := by kernel_rfl
theorem bl_len : (Lib.byteCells ([] : Tx)).length = 0 := rfl

set_option maxRecDepth 100000 in
theorem copyCheck_spec (b : Nat) (p : Option Addr) (v : Value) (w : World) (hp : p = none ∨ p = some (⟨b, 0, none⟩ : Addr)) (hb : Blk w b 50 #[.pointer p, v]) :
    Calls Tryz.prog 57 #[.pointer (some ⟨b, 0, none⟩)] w fun e w' => e = .returned (.tuple #[]) ∧ Blk w' b 50 #[.pointer (some ⟨b, 0, none⟩), v] ∧ Frm [b] w w' := by
  obtain ⟨j, hj, hjs⟩ := Option.map_eq_some_iff.1 bsize
  refine VC.calls (nt := 20) (res := #[]) Tryz.func57 rfl Tryz.ntmps57 Tryz.results57 rfl ?_
  refine VC.seq ?_
  refine VC.region ?_
  refine Ops.r (Run.mv rfl) rfl ?_
  refine Ops.r (Run.nilck rfl) rfl ?_
  refine Ops.r (Run.fieldAddr rfl Tryz.underlying50 rfl Tryz.sizeOf48 (by decide)) rfl ?_
  refine Ops.r (Run.load rfl Tryz.isAgg48 (hb.cell 0)) rfl ?_
  refine Ops.r (Run.eqlNilP rfl rfl Tryz.underlying48) rfl ?_
  refine Ops.nil ?_
  refine thenQ_n ?_
  refine VC.sub [(0, _), (6, _)] (.cons rfl (.cons rfl .nil)) ?_
  refine VC.condB rfl (fun hc1 => ?_) (fun hc1 => ?_)
  · skip
    have hpn : p = none := Option.isNone_iff_eq_none.1 hc1
    subst hpn
    refine VC.region ?_
    refine Ops.r (Run.mv rfl) rfl ?_
    refine Ops.r (Run.mv rfl) rfl ?_
    refine Ops.r (Run.convAny rfl (Lib.run_to_unsafe _ ⟨b, 0, none⟩ Tryz.underlying48 Tryz.underlying115 hj (by rw [hjs]; decide) hb.shape (Nat.zero_lt_succ 1))) rfl ?_
    refine Ops.r (Run.ext (evs.cons rfl evs.nil) (noEsc _)) rfl ?_
    refine Ops.r (Run.convAny rfl (Lib.run_from_unsafe _ ⟨b, 0, none⟩ Tryz.underlying115 Tryz.underlying48 hj hb.shape blies)) rfl ?_
    refine Ops.r (Run.nilck rfl) rfl ?_
    refine Ops.r (Run.fieldAddr rfl Tryz.underlying50 rfl Tryz.sizeOf48 (by decide)) rfl ?_
    refine Ops.st (Acts.store rfl rfl Tryz.sizeOf48 hb rfl rfl) ?_
    rintro w3 ⟨hb3, hf3, _⟩
    refine Ops.nil ?_
    refine end0n ?_
    exact ⟨rfl, hb3, hf3⟩
  · skip
    have hps : p = some (⟨b, 0, none⟩ : Addr) := hp.resolve_left (fun h => by rw [h] at hc1; cases hc1)
    subst hps
    refine VC.seq ?_
    refine VC.region ?_
    refine Ops.r (Run.mv rfl) rfl ?_
    refine Ops.r (Run.nilck rfl) rfl ?_
    refine Ops.r (Run.fieldAddr rfl Tryz.underlying50 rfl Tryz.sizeOf48 (by decide)) rfl ?_
    refine Ops.r (Run.load rfl Tryz.isAgg48 (hb.cell 0)) rfl ?_
    refine Ops.r (Run.mv rfl) rfl ?_
    refine Ops.r (Run.neqSameP rfl rfl Tryz.underlying48 hj) rfl ?_
    refine Ops.nil ?_
    refine thenQ_n ?_
    refine VC.sub [(19, _)] (.cons rfl .nil) ?_
    refine VC.condF rfl (rfl) ?_
    refine VC.skip ?_
    refine end0n ?_
    exact ⟨rfl, hb, Frm.refl _ _⟩

set_option maxRecDepth 100000 in
theorem writeByte_spec (b : Nat) (bs : Tx) (x : UInt8) (p A : Option Addr) (c : Nat) (w : World) (hp : p = none ∨ p = some (⟨b, 0, none⟩ : Addr)) (hb : Blk w b 50 #[.pointer p, .slice A bs.length c]) (ho : Own w 5 1 A bs.length c (U8 bs)) (hl : bs.length ≤ 1000000) :
    Calls Tryz.prog 27 #[.pointer (some ⟨b, 0, none⟩), .int .u8 ((x.toNat : Nat) : Int)] w fun e w' => e = .returned .nilIface ∧ ∃ A2 c2, Blk w' b 50 #[.pointer (some ⟨b, 0, none⟩), .slice A2 (bs ++ [x]).length c2] ∧ Own w' 5 1 A2 (bs ++ [x]).length c2 (U8 (bs ++ [x])) ∧ Frm (b :: ob A) w w' ∧ ∀ y ∈ ob A2, y ∈ ob A ∨ w.heap.size ≤ y := by
  refine VC.calls (nt := 17) (res := #[.tmp 4]) Tryz.func27 rfl Tryz.ntmps27 Tryz.results27 rfl ?_
  refine VC.seq ?_
  refine VC.region ?_
  refine Ops.r (Run.asg rfl) rfl ?_
  refine Ops.nil ?_
  refine thenQ_n ?_
  refine VC.sub [(0, _), (1, _)] (.cons rfl (.cons rfl .nil)) ?_
  refine VC.seq ?_
  refine VC.region ?_
  refine Ops.r (Run.mv rfl) rfl ?_
  refine Ops.cl (Enters.fn (evs.cons rfl evs.nil) Tryz.call57) (copyCheck_spec b p _ _ hp hb) rfl ?_
  rintro e w1 ⟨rfl, hb1, hf1⟩
  refine ⟨_, rfl, ?_⟩
  have ho1 := ho.frm hf1 (fun y hy => by have := ho.ne_blk hb (by decide); simp; rintro rfl; exact this hy)
  have hs1 := hf1.size
  refine Ops.nil ?_
  refine thenQ_n ?_
  refine VC.sub [(0, _), (1, _)] (.cons rfl (.cons rfl .nil)) ?_
  refine VC.seq ?_
  refine VC.region ?_
  refine Ops.r (Run.mv rfl) rfl ?_
  refine Ops.r (Run.mv rfl) rfl ?_
  refine Ops.r (Run.nilck rfl) rfl ?_
  refine Ops.r (Run.fieldAddr rfl Tryz.underlying50 rfl Tryz.sizeOf22 (by decide)) rfl ?_
  refine Ops.r (Run.load rfl Tryz.isAgg22 (hb1.cell 1)) rfl ?_
  refine Ops.r (Run.mv rfl) rfl ?_
  refine Ops.m (Does.buildS1 rfl Tryz.underlying22 Tryz.sizeOf5 zero5 (by decide) (by decide) rfl rfl) rfl ?_
  rintro _ w2 ⟨rfl, hF2⟩
  have hb2 := hb1.frm hF2.frm (by simp)
  have hs2 := hF2.frm.size
  have hrd : Rd w2 1 (some ⟨w1.heap.size, 0, none⟩) 1 (U8 [x]) := Rd.of_blk (n := 1) (size := 1) hF2.blk rfl
  refine Ops.m (Does.app rfl rfl Tryz.underlying22 (info5) rfl (by decide) (ho1.frm hF2.frm (by simp)) hrd (U8_one _) (by omega) (by omega)) rfl ?_
  rintro _ w3 ⟨A3, c3, rfl, ho3, hf3, hob3⟩
  have hnb : b ∉ ob A := ho.ne_blk hb (by decide)
  have hb3 := hb2.frm hf3 hnb
  have ho3 : Own w3 5 1 A3 (bs ++ [x]).length c3 (U8 (bs ++ [x])) := by
    rw [show (bs ++ [x]).length = bs.length + 1 by simp, show U8 (bs ++ [x]) = U8 bs ++ U8 [x] by simp [U8]]
    exact ho3
  refine Ops.r (Run.nilck rfl) rfl ?_
  refine Ops.r (Run.fieldAddr rfl Tryz.underlying50 rfl Tryz.sizeOf22 (by decide)) rfl ?_
  refine Ops.st (Acts.store rfl rfl Tryz.sizeOf22 hb3 rfl rfl) ?_
  rintro w4 ⟨hb4, hf4, _⟩
  have ho4 := ho3.frm hf4 (fun y hy => by have := ho3.ne_blk hb3 (by decide); simp; rintro rfl; exact this hy)
  refine Ops.nil ?_
  refine thenQ_n ?_
  refine VC.sub [] .nil ?_
  refine VC.seq ?_
  refine VC.region ?_
  refine Ops.r (Run.asg rfl) rfl ?_
  refine Ops.nil ?_
  refine thenQ_n ?_
  refine VC.ret ?_
  refine end1 rfl ?_
  refine ⟨rfl, A3, c3, by rw [show (bs ++ [x]).length = bs.length + 1 by simp]; exact hb4, ho4, ?_, fun y hy => ?_⟩
  · exact (((hf1.mono (T := b :: ob A) (by simp)).trans hF2.frm (by simp)).trans hf3 (fun y hy => .inl (by simp [hy]))).trans hf4 (fun y hy => .inl (by simp at hy; simp [hy]))
  · rcases hob3 with h | h
    · exact .inl (h ▸ hy)
    · right
      rw [h] at hy
      simp at hy
      omega

def hdQ : Tx → Bool
  | [] => false
  | x :: _ => decide (x = 34)
def hdU : Tx → Bool
  | [] => false
  | x :: _ => decide (x ≠ 34)
theorem valQ_plain {q q1 : Tx} (h : leftB q = q1) (hq : hdQ q1 = false) : valQ q = noB q1 := by
  unfold valQ
  rw [h]
  cases q1 with
  | nil => rfl
  | cons x r => exact if_neg (of_decide_eq_false hq)

set_option maxRecDepth 100000 in
theorem value_spec (q : Tx) (w : World) (hq : q.length ≤ 1000000) : Calls Tryz.prog 184 #[encStr q] w fun e w' => e = .returned (encStr (valQ q)) ∧ Frm [] w w' := by
  refine VC.calls (nt := 50) (res := #[.tmp 2]) Tryz.func184 rfl Tryz.ntmps184 Tryz.results184 rfl ?_
  refine VC.seq ?_
  refine VC.region ?_
  refine Ops.r (Run.asg rfl) rfl ?_
  refine Ops.nil ?_
  refine thenQ_n ?_
  refine VC.sub [(0, _)] (.cons rfl .nil) ?_
  refine VC.seq ?_
  refine VC.region ?_
  refine Ops.r (Run.mv rfl) rfl ?_
  refine Ops.cl (Enters.fn (evs.cons rfl (evs.cons rfl evs.nil)) Tryz.call209) (trimLS_spec q _ hq) rfl ?_
  rintro e wt ⟨rfl, K⟩
  refine ⟨_, rfl, ?_⟩
  have hql := leftB_le q
  generalize hq1 : leftB q = q1 at *
  refine Ops.r (Run.asg rfl) rfl ?_
  refine Ops.nil ?_
  refine thenQ_n ?_
  refine VC.sub [(0, _)] (.cons rfl .nil) ?_
  refine VC.seq ?_
  refine VC.seq ?_
  refine VC.split1 [(0, _)] (.cons rfl .nil) 14 (.bool (decide (hdQ q1 = false))) ?_ ?_
  · refine VC.region ?_
    refine Ops.r (Run.mv rfl) rfl ?_
    refine Ops.r (Run.eqlT rfl rfl) rfl ?_
    by_cases hs9 : q1 = []
    · skip
      have hhd : hdQ q1 = false := by rw [hs9]; rfl
      refine Ops.r (Run.mv rfl) rfl ?_
      refine Ops.sk rfl (by first | rfl | assumption | exact decide_eq_true (by assumption) | exact decide_eq_false (by assumption) | decide | (simp; done) | (simp; omega) | (simp [*]; done)) rfl ?_
      refine Ops.sk rfl (by first | rfl | assumption | exact decide_eq_true (by assumption) | exact decide_eq_false (by assumption) | decide | (simp; done) | (simp; omega) | (simp [*]; done)) rfl ?_
      refine Ops.sk rfl (by first | rfl | assumption | exact decide_eq_true (by assumption) | exact decide_eq_false (by assumption) | decide | (simp; done) | (simp; omega) | (simp [*]; done)) rfl ?_
      refine Ops.r (Run.pickT rfl rfl (by first | rfl | assumption | exact decide_eq_true (by assumption) | exact decide_eq_false (by assumption) | decide | (simp; done) | (simp; omega) | (simp [*]; done))) rfl ?_
      refine Ops.nil ?_
      refine thenQ_n ⟨(.cons (congrArg (fun b => some (Value.bool b)) (by first | (rw [hhd]; rfl) | (rw [hhd]; first | exact (decide_eq_decide.2 (by simp only [decide_eq_false_iff_not, decide_eq_true_eq]; rw [hzb]; try omega)) | (symm; exact decide_eq_false (by simp only [decide_eq_false_iff_not, decide_eq_true_eq]; rw [hzb]; omega)) | (symm; exact decide_eq_true (by simp only [decide_eq_false_iff_not, decide_eq_true_eq]; rw [hzb]; omega))))) (.cons rfl .nil)), rfl⟩
    · skip
      obtain ⟨y, r2, rfl⟩ : ∃ y r2, q1 = y :: r2 := by
        cases q1 with
        | nil => exact absurd rfl hs9
        | cons a r => exact ⟨a, r, rfl⟩
      have hhd : hdQ (y :: r2) = decide (y = 34) := rfl
      have hzb : y = 34 ↔ y.toNat = 34 := UInt8.toNat_inj.symm
      refine Ops.r (Run.mv rfl) rfl ?_
      refine Ops.rg rfl (by first | rfl | assumption | exact decide_eq_true (by assumption) | exact decide_eq_false (by assumption) | decide | (simp; done) | (simp; omega) | (simp [*]; done)) (Run.mv rfl) rfl ?_
      refine Ops.rg rfl (by first | rfl | assumption | exact decide_eq_true (by assumption) | exact decide_eq_false (by assumption) | decide | (simp; done) | (simp; omega) | (simp [*]; done)) (Run.indexT 0 rfl rfl Tryz.underlying9 rfl) rfl ?_
      refine Ops.rg rfl (by first | rfl | assumption | exact decide_eq_true (by assumption) | exact decide_eq_false (by assumption) | decide | (simp; done) | (simp; omega) | (simp [*]; done)) (Run.bin rfl rfl (Bin.neqN _ 34)) rfl ?_
      by_cases hs13 : y.toNat ≠ 34
      · skip
        refine Ops.r (Run.pickF rfl rfl (by first | rfl | assumption | exact decide_eq_true (by assumption) | exact decide_eq_false (by assumption) | decide | (simp; done) | (simp; omega) | (simp [*]; done))) rfl ?_
        refine Ops.nil ?_
        refine thenQ_n ⟨(.cons (congrArg (fun b => some (Value.bool b)) (by first | (rw [hhd]; rfl) | (rw [hhd]; first | exact (decide_eq_decide.2 (by simp only [decide_eq_false_iff_not, decide_eq_true_eq]; rw [hzb]; try omega)) | (symm; exact decide_eq_false (by simp only [decide_eq_false_iff_not, decide_eq_true_eq]; rw [hzb]; omega)) | (symm; exact decide_eq_true (by simp only [decide_eq_false_iff_not, decide_eq_true_eq]; rw [hzb]; omega))))) (.cons rfl .nil)), rfl⟩
      · skip
        refine Ops.r (Run.pickF rfl rfl (by first | rfl | assumption | exact decide_eq_true (by assumption) | exact decide_eq_false (by assumption) | decide | (simp; done) | (simp; omega) | (simp [*]; done))) rfl ?_
        refine Ops.nil ?_
        refine thenQ_n ⟨(.cons (congrArg (fun b => some (Value.bool b)) (by first | (rw [hhd]; rfl) | (rw [hhd]; first | exact (decide_eq_decide.2 (by simp only [decide_eq_false_iff_not, decide_eq_true_eq]; rw [hzb]; try omega)) | (symm; exact decide_eq_false (by simp only [decide_eq_false_iff_not, decide_eq_true_eq]; rw [hzb]; omega)) | (symm; exact decide_eq_true (by simp only [decide_eq_false_iff_not, decide_eq_true_eq]; rw [hzb]; omega))))) (.cons rfl .nil)), rfl⟩
  · intro Γ hΓ
    refine thenQ_n (VC.sub _ hΓ ?_)
    refine VC.condD rfl (fun hc1 => ?_) (fun hc1 => ?_)
    · skip
      have hv := valQ_plain hq1 hc1
      refine VC.seq ?_
      refine VC.seq ?_
      refine VC.region ?_
      refine Ops.r (Run.mv rfl) rfl ?_
      refine Ops.cl (Enters.fn (evs.cons rfl (evs.cons rfl evs.nil)) Tryz.call210) (idxAny_spec q1 _ (by omega)) rfl ?_
      rintro e w1 ⟨k, rfl, hF, hf1⟩
      refine ⟨_, rfl, ?_⟩
      have K := K.trans hf1 (by simp)
      refine Ops.r (Run.asg rfl) rfl ?_
      refine Ops.nil ?_
      refine thenQ_n ?_
      refine VC.sub [(0, _), (3, _)] (.cons rfl (.cons rfl .nil)) ?_
      refine VC.seq ?_
      refine VC.region ?_
      refine Ops.r (Run.mv rfl) rfl ?_
      refine Ops.r (Run.bin rfl rfl (Bin.geq _ 0)) rfl ?_
      refine Ops.nil ?_
      refine thenQ_n ?_
      refine VC.sub [(0, _), (3, _), (18, _)] (.cons rfl (.cons rfl (.cons rfl .nil))) ?_
      refine VC.condD rfl (fun hc2 => ?_) (fun hc2 => ?_)
      · skip
        obtain ⟨i, rfl, hil, hno, hbl⟩ := hF.resolve_left (by rintro ⟨rfl, _⟩; omega)
        refine VC.seq ?_
        refine VC.region ?_
        refine Ops.r (Run.mv rfl) rfl ?_
        refine Ops.r (Run.mv rfl) rfl ?_
        refine Ops.r (Run.sliceT 0 i rfl Tryz.underlying9 evB.none_ (evB.some_ rfl) (by omega) (by omega)) rfl ?_
        refine Ops.r (Run.asg rfl) rfl ?_
        refine Ops.nil ?_
        refine thenQ_n ?_
        refine VC.sub [(2, _)] (.cons rfl .nil) ?_
        refine VC.ret ?_
        refine thenQ_r (thenQ_r (end1 rfl ?_))
        exact ⟨by rw [hv, noB_take hil hno hbl]; simp, K⟩
      · skip
        have hall : ∀ c ∈ q1, ¬ Bl c := (hF.resolve_right (by rintro ⟨i, rfl, _⟩; omega)).2
        refine VC.skip ?_
        refine thenQ_n ?_
        refine VC.sub [(0, _)] (.cons rfl .nil) ?_
        refine VC.seq ?_
        refine VC.region ?_
        refine Ops.r (Run.mv rfl) rfl ?_
        refine Ops.r (Run.asg rfl) rfl ?_
        refine Ops.nil ?_
        refine thenQ_n ?_
        refine VC.sub [(2, _)] (.cons rfl .nil) ?_
        refine VC.ret ?_
        refine thenQ_r (end1 rfl ?_)
        exact ⟨by rw [hv, noB_all hall], K⟩
    · skip
      obtain ⟨r2, rfl⟩ : ∃ r2, q1 = 34 :: r2 := by
        cases q1 with
        | nil => exact absurd rfl hc1
        | cons a r => exact ⟨r, by rw [show a = 34 from Classical.byContradiction fun h => hc1 (decide_eq_false h)]⟩
      have hv : valQ q = unq r2 := by unfold valQ; rw [hq1]; rfl
      refine VC.skip ?_
      refine thenQ_n ?_
      refine VC.sub [(0, _)] (.cons rfl .nil) ?_
      refine VC.seq ?_
      refine VC.region ?_
      refine Ops.m (Does.alloc zero50) rfl ?_
      rintro _ w1 ⟨rfl, hF1⟩
      have hb4 : Blk w1 wt.heap.size 50 #[.pointer none, .slice none ([] : Tx).length 0] := hF1.blk
      have hg4 := K.size
      have K := K.trans hF1.frm (by simp)
      generalize hg : wt.heap.size = g4 at *
      refine Ops.nil ?_
      refine thenQ_n ?_
      refine VC.seq ?_
      refine VC.seq ?_
      refine VC.region ?_
      refine Ops.r (v := .int .i64 ((1 : Nat) : Int)) (Run.asg rfl) rfl ?_
      refine Ops.nil ?_
      refine thenQ_n ?_
      refine VC.block ?_
      refine VC.loop (σ := Nat × Tx × Option Addr × Option Addr × Nat) (fun s => [(0, encStr (34 :: r2)), (4, .pointer (some ⟨g4, 0, none⟩)), (5, .int .i64 ((s.1 : Nat) : Int))]) (fun s wr => s.1 ≤ (34 :: r2).length + 1 ∧ unq r2 = s.2.1 ++ unq ((34 :: r2).drop s.1) ∧ s.2.1.length ≤ s.1 ∧ (s.2.2.1 = none ∨ s.2.2.1 = some (⟨g4, 0, none⟩ : Addr)) ∧ Blk wr g4 50 #[.pointer s.2.2.1, .slice s.2.2.2.1 s.2.1.length s.2.2.2.2] ∧ Own wr 5 1 s.2.2.2.1 s.2.1.length s.2.2.2.2 (U8 s.2.1) ∧ (∀ x ∈ ob s.2.2.2.1, w.heap.size ≤ x) ∧ Frm [] w wr) (fun s => (34 :: r2).length + 1 - s.1) (1, [], none, none, 0) (.cons rfl (.cons rfl (.cons rfl .nil))) ⟨by simp, rfl, by simp, .inl rfl, hb4, Own.nil _ _ _, by simp [ob], K⟩ ?_
      rintro ⟨i, b, p, A, c⟩ wr ⟨hi, hu, hbl, hp, hb4, ho, hub, K⟩
      dsimp only at hi hu hbl hp hb4 ho hub ⊢
      refine VC.seq ?_
      refine VC.seq ?_
      refine VC.split1 [(0, _), (4, _), (5, _)] (.cons rfl (.cons rfl (.cons rfl .nil))) 32 (.bool (decide (hdU ((34 :: r2).drop i) = true))) ?_ ?_
      · refine VC.region ?_
        refine Ops.r (Run.mv rfl) rfl ?_
        refine Ops.r (Run.mv rfl) rfl ?_
        refine Ops.r (Run.lenT rfl Tryz.underlying9) rfl ?_
        refine Ops.r (Run.bin rfl rfl (Bin.lssN _ _)) rfl ?_
        by_cases hs26 : i < (34 :: r2).length
        · skip
          have hgx : (34 :: r2)[i]? = some (34 :: r2)[i] := List.getElem?_eq_getElem hs26
          have hhd : hdU ((34 :: r2).drop i) = decide ((34 :: r2)[i] ≠ 34) := by rw [drop_cons hs26]; rfl
          generalize hz : (34 :: r2)[i] = z at *
          have hzb : z ≠ 34 ↔ z.toNat ≠ 34 := not_congr UInt8.toNat_inj.symm
          refine Ops.r (Run.mv rfl) rfl ?_
          refine Ops.rg rfl (by first | rfl | assumption | exact decide_eq_true (by assumption) | exact decide_eq_false (by assumption) | decide | (simp; done) | (simp; omega) | (simp [*]; done)) (Run.mv rfl) rfl ?_
          refine Ops.rg rfl (by first | rfl | assumption | exact decide_eq_true (by assumption) | exact decide_eq_false (by assumption) | decide | (simp; done) | (simp; omega) | (simp [*]; done)) (Run.mv rfl) rfl ?_
          refine Ops.rg rfl (by first | rfl | assumption | exact decide_eq_true (by assumption) | exact decide_eq_false (by assumption) | decide | (simp; done) | (simp; omega) | (simp [*]; done)) (Run.indexT _ rfl rfl Tryz.underlying9 hgx) rfl ?_
          refine Ops.rg rfl (by first | rfl | assumption | exact decide_eq_true (by assumption) | exact decide_eq_false (by assumption) | decide | (simp; done) | (simp; omega) | (simp [*]; done)) (Run.bin rfl rfl (Bin.neqN _ 34)) rfl ?_
          by_cases hs31 : z.toNat ≠ 34
          · skip
            refine Ops.r (Run.pickT rfl rfl (by first | rfl | assumption | exact decide_eq_true (by assumption) | exact decide_eq_false (by assumption) | decide | (simp; done) | (simp; omega) | (simp [*]; done))) rfl ?_
            refine Ops.nil ?_
            refine thenQ_n ⟨(.cons (congrArg (fun b => some (Value.bool b)) (by first | (rw [hhd]; rfl) | (rw [hhd]; first | exact (decide_eq_decide.2 (by simp only [decide_eq_false_iff_not, decide_eq_true_eq]; rw [hzb]; try omega)) | (symm; exact decide_eq_false (by simp only [decide_eq_false_iff_not, decide_eq_true_eq]; rw [hzb]; omega)) | (symm; exact decide_eq_true (by simp only [decide_eq_false_iff_not, decide_eq_true_eq]; rw [hzb]; omega))))) (.cons rfl (.cons rfl (.cons rfl .nil)))), rfl⟩
          · skip
            refine Ops.r (Run.pickT rfl rfl (by first | rfl | assumption | exact decide_eq_true (by assumption) | exact decide_eq_false (by assumption) | decide | (simp; done) | (simp; omega) | (simp [*]; done))) rfl ?_
            refine Ops.nil ?_
            refine thenQ_n ⟨(.cons (congrArg (fun b => some (Value.bool b)) (by first | (rw [hhd]; rfl) | (rw [hhd]; first | exact (decide_eq_decide.2 (by simp only [decide_eq_false_iff_not, decide_eq_true_eq]; rw [hzb]; try omega)) | (symm; exact decide_eq_false (by simp only [decide_eq_false_iff_not, decide_eq_true_eq]; rw [hzb]; omega)) | (symm; exact decide_eq_true (by simp only [decide_eq_false_iff_not, decide_eq_true_eq]; rw [hzb]; omega))))) (.cons rfl (.cons rfl (.cons rfl .nil)))), rfl⟩
        · skip
          have hhd : hdU ((34 :: r2).drop i) = false := by rw [List.drop_eq_nil_of_le (by omega)]; rfl
          refine Ops.r (Run.mv rfl) rfl ?_
          refine Ops.sk rfl (by first | rfl | assumption | exact decide_eq_true (by assumption) | exact decide_eq_false (by assumption) | decide | (simp; done) | (simp; omega) | (simp [*]; done)) rfl ?_
          refine Ops.sk rfl (by first | rfl | assumption | exact decide_eq_true (by assumption) | exact decide_eq_false (by assumption) | decide | (simp; done) | (simp; omega) | (simp [*]; done)) rfl ?_
          refine Ops.sk rfl (by first | rfl | assumption | exact decide_eq_true (by assumption) | exact decide_eq_false (by assumption) | decide | (simp; done) | (simp; omega) | (simp [*]; done)) rfl ?_
          refine Ops.sk rfl (by first | rfl | assumption | exact decide_eq_true (by assumption) | exact decide_eq_false (by assumption) | decide | (simp; done) | (simp; omega) | (simp [*]; done)) rfl ?_
          refine Ops.r (Run.pickF rfl rfl (by first | rfl | assumption | exact decide_eq_true (by assumption) | exact decide_eq_false (by assumption) | decide | (simp; done) | (simp; omega) | (simp [*]; done))) rfl ?_
          refine Ops.nil ?_
          refine thenQ_n ⟨(.cons (congrArg (fun b => some (Value.bool b)) (by first | (rw [hhd]; rfl) | (rw [hhd]; first | exact (decide_eq_decide.2 (by simp only [decide_eq_false_iff_not, decide_eq_true_eq]; rw [hzb]; try omega)) | (symm; exact decide_eq_false (by simp only [decide_eq_false_iff_not, decide_eq_true_eq]; rw [hzb]; omega)) | (symm; exact decide_eq_true (by simp only [decide_eq_false_iff_not, decide_eq_true_eq]; rw [hzb]; omega))))) (.cons rfl (.cons rfl (.cons rfl .nil)))), rfl⟩
      · intro Γ hΓ
        refine thenQ_n (VC.sub _ hΓ ?_)
        refine VC.condD rfl (fun hc3 => ?_) (fun hc3 => ?_)
        · skip
          have hil : i < (34 :: r2).length := Nat.lt_of_not_le fun h => by rw [List.drop_eq_nil_of_le h] at hc3; cases hc3
          have hgx : (34 :: r2)[i]? = some (34 :: r2)[i] := List.getElem?_eq_getElem hil
          have hdc := drop_cons hil
          have hz34 : (34 :: r2)[i] ≠ 34 := by rw [hdc] at hc3; exact of_decide_eq_true hc3
          generalize hz : (34 :: r2)[i] = z at *
          refine VC.skip ?_
          refine thenQ_n ?_
          refine VC.sub [(0, _), (4, _), (5, _)] (.cons rfl (.cons rfl (.cons rfl .nil))) ?_
          refine VC.seq ?_
          refine VC.block ?_
          refine VC.seq ?_
          refine VC.seq ?_
          refine VC.region ?_
          refine Ops.r (Run.mv rfl) rfl ?_
          refine Ops.r (Run.mv rfl) rfl ?_
          refine Ops.r (Run.indexT _ rfl rfl Tryz.underlying9 hgx) rfl ?_
          refine Ops.r (Run.bin rfl rfl (Bin.eqlN _ 92)) rfl ?_
          refine Ops.nil ?_
          refine thenQ_n ?_
          refine VC.sub [(0, _), (4, _), (5, _), (38, _)] (.cons rfl (.cons rfl (.cons rfl (.cons rfl .nil)))) ?_
          refine VC.meet (σ := Nat) (fun s => [(0, encStr (34 :: r2)), (4, .pointer (some ⟨g4, 0, none⟩)), (5, .int .i64 ((s : Nat) : Int))]) (fun s wr2 => i ≤ s ∧ s ≤ (34 :: r2).length ∧ (s < (34 :: r2).length → ∀ z, (34 :: r2)[s]? = some z → unq r2 = b ++ z :: unq ((34 :: r2).drop (s + 1))) ∧ ((34 :: r2).length ≤ s → unq r2 = b) ∧ wr = wr2) ?_ ?_
          · skip
            refine VC.condD rfl (fun hc4 => ?_) (fun hc4 => ?_)
            · skip
              have hz92 : z = 92 := UInt8.toNat_inj.1 hc4
              refine VC.region ?_
              refine Ops.r (Run.mv rfl) rfl ?_
              refine Ops.r (Run.bin rfl rfl (Bin.add_i64 _ 1 (by omega))) rfl ?_
              refine Ops.r (Run.asg rfl) rfl ?_
              refine Ops.nil ?_
              refine thenQ_n ⟨(i + 1), (.cons rfl (.cons rfl (.cons rfl .nil))), ?_⟩
              refine ⟨by omega, by omega, fun hj z2 hz2 => ?_, fun hj => ?_, rfl⟩
              · rw [List.getElem?_eq_getElem hj] at hz2
                cases hz2
                rw [hu, hdc, hz92, drop_cons hj, unq_esc]
              · rw [hu, hdc, hz92, List.drop_eq_nil_of_le (by omega), unq_esc_end, List.append_nil]
            · skip
              refine VC.skip ?_
              refine thenQ_n ⟨i, (.cons rfl (.cons rfl (.cons rfl .nil))), ?_⟩
              refine ⟨by omega, by omega, fun hj z2 hz2 => ?_, fun hj => by omega, rfl⟩
              rw [hgx] at hz2
              cases hz2
              rw [hu, hdc, unq_other hz34 (fun h => hc4 (by rw [h]; rfl))]
          · skip
            rintro j _ ⟨hij, hjl, hin, hout, rfl⟩ Γ hΓ
            refine thenQ_n (VC.sub _ hΓ ?_)
            refine VC.seq ?_
            refine VC.region ?_
            refine Ops.r (Run.mv rfl) rfl ?_
            refine Ops.r (Run.mv rfl) rfl ?_
            refine Ops.r (Run.lenT rfl Tryz.underlying9) rfl ?_
            refine Ops.r (Run.bin rfl rfl (Bin.lssN _ _)) rfl ?_
            refine Ops.nil ?_
            refine thenQ_n ?_
            refine VC.sub [(0, _), (4, _), (5, _), (44, _)] (.cons rfl (.cons rfl (.cons rfl (.cons rfl .nil)))) ?_
            refine VC.condD rfl (fun hc5 => ?_) (fun hc5 => ?_)
            · skip
              have hgj : (34 :: r2)[j]? = some (34 :: r2)[j] := List.getElem?_eq_getElem hc5
              have huj := hin hc5 _ hgj
              generalize hzj : (34 :: r2)[j] = zj at *
              refine VC.region ?_
              refine Ops.r (Run.mv rfl) rfl ?_
              refine Ops.r (Run.mv rfl) rfl ?_
              refine Ops.r (Run.indexT _ rfl rfl Tryz.underlying9 hgj) rfl ?_
              refine Ops.cl (Enters.fn (evs.cons rfl (evs.cons rfl evs.nil)) Tryz.call27) (writeByte_spec g4 b zj p A c _ hp hb4 ho (by simp only [List.length_cons] at *; omega)) rfl ?_
              rintro e w5 ⟨rfl, A5, c5, hb5, ho5, hf5, hob5⟩
              refine ⟨_, rfl, ?_⟩
              have hub5 := up_step hub hob5 K.size
              have K5 := Frm.own K hf5 (fun y hy => by
                simp only [List.mem_cons] at hy
                rcases hy with rfl | hy
                · omega
                · exact hub y hy)
              refine Ops.nil ?_
              refine blockQ_n (thenQ_n ?_)
              refine VC.sub [(0, _), (4, _), (5, _)] (.cons rfl (.cons rfl (.cons rfl .nil))) ?_
              refine VC.region ?_
              refine Ops.r (Run.mv rfl) rfl ?_
              refine Ops.r (Run.bin rfl rfl (Bin.add_i64 _ 1 (by omega))) rfl ?_
              refine Ops.r (Run.asg rfl) rfl ?_
              refine Ops.nil ?_
              refine thenQ_n ⟨(j + 1, b ++ [zj], some ⟨g4, 0, none⟩, A5, c5), (.cons rfl (.cons rfl (.cons rfl .nil))), ?_, ?_⟩
              · skip
                exact ⟨by dsimp only; omega, by rw [huj]; simp, by simp; omega, .inr rfl, hb5, ho5, hub5, K5⟩
              · skip
                simp only; omega
            · skip
              have huj := hout (by omega)
              refine VC.skip ?_
              refine blockQ_n (thenQ_n ?_)
              refine VC.sub [(0, _), (4, _), (5, _)] (.cons rfl (.cons rfl (.cons rfl .nil))) ?_
              refine VC.region ?_
              refine Ops.r (Run.mv rfl) rfl ?_
              refine Ops.r (Run.bin rfl rfl (Bin.add_i64 _ 1 (by omega))) rfl ?_
              refine Ops.r (Run.asg rfl) rfl ?_
              refine Ops.nil ?_
              refine thenQ_n ⟨(j + 1, b, p, A, c), (.cons rfl (.cons rfl (.cons rfl .nil))), ?_, ?_⟩
              · skip
                exact ⟨by dsimp only; omega, by rw [huj, List.drop_eq_nil_of_le (by omega)]; simp [unq], by dsimp only; omega, hp, hb4, ho, hub, K⟩
              · skip
                simp only; omega
        · skip
          have hfin : unq r2 = b := by
            rw [hu]
            by_cases hil : i < (34 :: r2).length
            · have hz34 : (34 :: r2)[i] = 34 := Classical.byContradiction fun h => hc3 (by rw [drop_cons hil]; exact decide_eq_true h)
              rw [drop_cons hil, hz34, unq_end, List.append_nil]
            · rw [List.drop_eq_nil_of_le (by omega)]; simp [unq]
          refine VC.exit ?_
          refine thenQ_x (thenQ_x (blockQ_x ?_))
          refine thenQ_n ?_
          refine VC.sub [(4, _)] (.cons rfl .nil) ?_
          refine VC.seq ?_
          refine VC.region ?_
          refine Ops.cl (Enters.fn (evs.cons rfl evs.nil) Tryz.call28) ((Tryz.Builder_String_any w.heap.size g4 b _ (Bld.isB hp hb4 ho (by omega) hub) K.size)) rfl ?_
          rintro e w6 ⟨rfl, hbe⟩
          refine ⟨_, rfl, ?_⟩
          have K6 := Frm.of_below (K.below.trans hbe)
          refine Ops.r (Run.asg rfl) rfl ?_
          refine Ops.nil ?_
          refine thenQ_n ?_
          refine VC.sub [(2, _)] (.cons rfl .nil) ?_
          refine VC.ret ?_
          refine end1 rfl ?_
          exact ⟨by rw [hv, hfin], K6⟩

end Go.Proofs.YtenbjndldenkfaaGreatDoor
