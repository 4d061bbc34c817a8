/-
  The operations that yield a value and leave the world alone: what each comes to, over any program.
-/
import Derived.Test.YtmfglifjnoilnaaEng1
namespace Go.Proofs.Ytmfglifjnoilnaa
open Go.RowKit

/-! ### binary operations on integers -/
def Bin (op : BinOp) (k : IntKind) (x : Int) (k' : IntKind) (y : Int) (v : Value) : Prop := ∀ (P : Program) (T : TypeId) (w : World), (binOp op T (.int k x) (.int k' y)).run P w = .ok v w

def bmax (k : IntKind) : Nat := match k with | .i8 => 127 | .i16 => 32767 | .i32 => 2147483647 | .i64 => 9223372036854775807 | .u8 => 255 | .u16 => 65535 | .u32 => 4294967295 | .u64 => 18446744073709551615
def bmin (k : IntKind) : Int := match k with | .i8 => -128 | .i16 => -32768 | .i32 => -2147483648 | .i64 => -9223372036854775808 | _ => 0

theorem wrap_fit (k : IntKind) (x : Int) (h1 : bmin k ≤ x) (h2 : x ≤ (bmax k : Int)) : k.wrap x = x := by
  cases k <;> simp only [bmin, bmax] at h1 h2
  · exact IntWalk.i8_in _ ⟨h1, by omega⟩
  · exact IntWalk.i16_in _ ⟨h1, by omega⟩
  · exact IntWalk.i32_in _ ⟨h1, by omega⟩
  · exact IntWalk.i64_in _ ⟨h1, by omega⟩
  · exact IntWalk.u8_in _ ⟨h1, by omega⟩
  · exact IntWalk.u16_in _ ⟨h1, by omega⟩
  · exact IntWalk.u32_in _ ⟨h1, by omega⟩
  · exact IntWalk.u64_in _ ⟨h1, by omega⟩
theorem wrap_nat (k : IntKind) (x : Nat) (h : x ≤ bmax k) : k.wrap (x : Int) = x := wrap_fit k x (by cases k <;> simp only [bmin] <;> omega) (by exact_mod_cast h)
theorem wrap_u64 (x : Nat) : IntKind.u64.wrap (x : Int) = ((x % 18446744073709551616 : Nat) : Int) := by
  simp only [IntKind.wrap, IntKind.bits, IntKind.signed, Bool.false_and, Bool.false_eq_true, if_false]; omega
theorem wrap_u8 (x : Nat) : IntKind.u8.wrap (x : Int) = ((x % 256 : Nat) : Int) := by
  simp only [IntKind.wrap, IntKind.bits, IntKind.signed, Bool.false_and, Bool.false_eq_true, if_false]; omega
theorem wrap_u32 (x : Nat) : IntKind.u32.wrap (x : Int) = ((x % 4294967296 : Nat) : Int) := by
  simp only [IntKind.wrap, IntKind.bits, IntKind.signed, Bool.false_and, Bool.false_eq_true, if_false]; omega

section
variable {k : IntKind}
-- over Int
theorem Bin.add (x y : Int) (h1 : bmin k ≤ x + y) (h2 : x + y ≤ (bmax k : Int)) : Bin .add k x k y (.int k (x + y)) := fun P T w => by simp [binOp, Op.intArith, wrap_fit k _ h1 h2]
theorem Bin.sub (x y : Int) (h1 : bmin k ≤ x - y) (h2 : x - y ≤ (bmax k : Int)) : Bin .sub k x k y (.int k (x - y)) := fun P T w => by simp [binOp, Op.intArith, wrap_fit k _ h1 h2]
theorem Bin.mul (x y : Int) (h1 : bmin k ≤ x * y) (h2 : x * y ≤ (bmax k : Int)) : Bin .mul k x k y (.int k (x * y)) := fun P T w => by simp [binOp, Op.intArith, wrap_fit k _ h1 h2]
theorem Bin.lss (x y : Int) : Bin .lss k x k y (.bool (decide (x < y))) := fun P T w => by simp [binOp, Op.intCmp]
theorem Bin.leq (x y : Int) : Bin .leq k x k y (.bool (decide (x ≤ y))) := fun P T w => by simp [binOp, Op.intCmp]
theorem Bin.gtr (x y : Int) : Bin .gtr k x k y (.bool (decide (y < x))) := fun P T w => by simp [binOp, Op.intCmp]
theorem Bin.geq (x y : Int) : Bin .geq k x k y (.bool (decide (y ≤ x))) := fun P T w => by simp [binOp, Op.intCmp]
theorem Bin.eql (x y : Int) : Bin .eql k x k y (.bool (decide (x = y))) := fun P T w => by simp [binOp, Op.intCmp]; rfl
theorem Bin.neq (x y : Int) : Bin .neq k x k y (.bool (decide (x ≠ y))) := fun P T w => by
  simp only [binOp, Op.intCmp, ne_eq, not_true_eq_false, if_false]
  show Result.ok (Value.bool (x != y)) w = _
  congr 2
  rw [Bool.eq_iff_iff]; simp
-- over Nat
theorem Bin.addN (x y : Nat) (h : x + y ≤ bmax k) : Bin .add k x k y (.int k ((x + y : Nat) : Int)) := fun P T w => by
  have e : ((x : Int) + (y : Int)) = ((x + y : Nat) : Int) := rfl
  simp only [binOp, Op.intArith, ne_eq, not_true_eq_false, if_false, e, wrap_nat k _ h]; rfl
theorem Bin.subN (x y : Nat) (hy : y ≤ x) (h : x - y ≤ bmax k) : Bin .sub k x k y (.int k ((x - y : Nat) : Int)) := fun P T w => by
  have e : ((x : Int) - (y : Int)) = ((x - y : Nat) : Int) := (Int.ofNat_sub hy).symm
  simp only [binOp, Op.intArith, ne_eq, not_true_eq_false, if_false, e, wrap_nat k _ h]; rfl
theorem Bin.mulN (x y : Nat) (h : x * y ≤ bmax k) : Bin .mul k x k y (.int k ((x * y : Nat) : Int)) := fun P T w => by
  have e : ((x : Int) * (y : Int)) = ((x * y : Nat) : Int) := rfl
  simp only [binOp, Op.intArith, ne_eq, not_true_eq_false, if_false, e, wrap_nat k _ h]; rfl
theorem Bin.addU (x y : Nat) : Bin .add .u64 x .u64 y (.int .u64 (((x + y) % 18446744073709551616 : Nat) : Int)) := fun P T w => by
  have e : ((x : Int) + (y : Int)) = ((x + y : Nat) : Int) := rfl
  simp only [binOp, Op.intArith, ne_eq, not_true_eq_false, if_false, e, wrap_u64]; rfl
theorem Bin.mulU (x y : Nat) : Bin .mul .u64 x .u64 y (.int .u64 (((x * y) % 18446744073709551616 : Nat) : Int)) := fun P T w => by
  have e : ((x : Int) * (y : Int)) = ((x * y : Nat) : Int) := rfl
  simp only [binOp, Op.intArith, ne_eq, not_true_eq_false, if_false, e, wrap_u64]; rfl
theorem Bin.lssN (x y : Nat) : Bin .lss k x k y (.bool (decide (x < y))) := fun P T w => by simp [binOp, Op.intCmp]
theorem Bin.leqN (x y : Nat) : Bin .leq k x k y (.bool (decide (x ≤ y))) := fun P T w => by simp [binOp, Op.intCmp]
theorem Bin.gtrN (x y : Nat) : Bin .gtr k x k y (.bool (decide (y < x))) := fun P T w => by simp [binOp, Op.intCmp]
theorem Bin.geqN (x y : Nat) : Bin .geq k x k y (.bool (decide (y ≤ x))) := fun P T w => by simp [binOp, Op.intCmp]
theorem Bin.eqlN (x y : Nat) : Bin .eql k x k y (.bool (decide (x = y))) := fun P T w => by
  have := Bin.eql (k := k) x y P T w
  simpa [Int.natCast_inj] using this
theorem Bin.neqN (x y : Nat) : Bin .neq k x k y (.bool (decide (x ≠ y))) := fun P T w => by
  have := Bin.neq (k := k) x y P T w
  simpa [Int.natCast_inj] using this
theorem Bin.quoN (x y : Nat) (hy : y ≠ 0) (h : x / y ≤ bmax k) : Bin .quo k x k y (.int k ((x / y : Nat) : Int)) := fun P T w => by
  have e : ((x : Int).tdiv (y : Int)) = ((x / y : Nat) : Int) := rfl
  have hy' : ¬ ((y : Int) = 0) := by omega
  simp only [binOp, Op.intDiv, ne_eq, not_true_eq_false, hy', if_false, e, wrap_nat k _ h]; rfl
theorem Bin.remN (x y : Nat) (hy : y ≠ 0) : Bin .rem k x k y (.int k ((x % y : Nat) : Int)) := fun P T w => by
  have e : ((x : Int).tmod (y : Int)) = ((x % y : Nat) : Int) := rfl
  have hy' : ¬ ((y : Int) = 0) := by omega
  simp only [binOp, Op.intDiv, ne_eq, not_true_eq_false, hy', if_false, e]; rfl
theorem Bin.quoZ (x y : Int) (hy : 0 < y) (h1 : -9223372036854775807 ≤ x) (h2 : x ≤ 9223372036854775807) : Bin .quo .i64 x .i64 y (.int .i64 (x.tdiv y)) := fun P T w => by
  have hy' : ¬ (y = 0) := by omega
  have hb : -9223372036854775808 ≤ x.tdiv y ∧ x.tdiv y ≤ 9223372036854775807 := by
    have h := Int.natAbs_tdiv_le_natAbs x y
    omega
  simp only [binOp, Op.intDiv, ne_eq, not_true_eq_false, hy', if_false, wrap_fit .i64 _ (by simp only [bmin]; exact hb.1) (by simp only [bmax]; exact hb.2)]; rfl
theorem Bin.remZ (x y : Int) (hy : 0 < y) : Bin .rem .i64 x .i64 y (.int .i64 (x.tmod y)) := fun P T w => by
  have hy' : ¬ (y = 0) := by omega
  simp only [binOp, Op.intDiv, ne_eq, not_true_eq_false, hy', if_false]; rfl
theorem ofInt_nat (n a : Nat) (h : a < 2 ^ n) : (BitVec.ofInt n (a : Int)).toNat = a := by
  rw [BitVec.ofInt_natCast, BitVec.toNat_ofNat]; exact Nat.mod_eq_of_lt h
theorem bmax_lt (k : IntKind) (x : Nat) (h : x ≤ bmax k) : x < 2 ^ k.bits := by cases k <;> simp only [bmax, IntKind.bits] at h ⊢ <;> omega
theorem Bin.andN (x y : Nat) (hx : x ≤ bmax k) (hy : y ≤ bmax k) : Bin .and k x k y (.int k ((x &&& y : Nat) : Int)) := fun P T w => by
  have h : x &&& y ≤ bmax k := Nat.le_trans Nat.and_le_left hx
  simp only [binOp, Op.intBits, ne_eq, not_true_eq_false, if_false, BitVec.toNat_and, ofInt_nat _ _ (bmax_lt k x hx), ofInt_nat _ _ (bmax_lt k y hy), wrap_nat k _ h]
  rfl
theorem bmax_pow (k : IntKind) : ∃ m, bmax k + 1 = 2 ^ m := by cases k <;> first | exact ⟨7, rfl⟩ | exact ⟨15, rfl⟩ | exact ⟨31, rfl⟩ | exact ⟨63, rfl⟩ | exact ⟨8, rfl⟩ | exact ⟨16, rfl⟩ | exact ⟨32, rfl⟩ | exact ⟨64, rfl⟩
theorem Bin.orN (x y : Nat) (hx : x ≤ bmax k) (hy : y ≤ bmax k) : Bin .or k x k y (.int k ((x ||| y : Nat) : Int)) := fun P T w => by
  have h : x ||| y ≤ bmax k := by
    obtain ⟨m, hm⟩ := bmax_pow k
    have := Nat.or_lt_two_pow (n := m) (x := x) (y := y) (by omega) (by omega)
    omega
  simp only [binOp, Op.intBits, ne_eq, not_true_eq_false, if_false, BitVec.toNat_or, ofInt_nat _ _ (bmax_lt k x hx), ofInt_nat _ _ (bmax_lt k y hy), wrap_nat k _ h]
  rfl
theorem Bin.xorN (x y : Nat) (hx : x ≤ bmax k) (hy : y ≤ bmax k) : Bin .xor k x k y (.int k ((x ^^^ y : Nat) : Int)) := fun P T w => by
  have h : x ^^^ y ≤ bmax k := by
    obtain ⟨m, hm⟩ := bmax_pow k
    have := Nat.xor_lt_two_pow (n := m) (x := x) (y := y) (by omega) (by omega)
    omega
  simp only [binOp, Op.intBits, ne_eq, not_true_eq_false, if_false, BitVec.toNat_xor, ofInt_nat _ _ (bmax_lt k x hx), ofInt_nat _ _ (bmax_lt k y hy), wrap_nat k _ h]
  rfl
theorem Bin.shrN {k' : IntKind} (x y : Nat) (hx : x ≤ bmax k) : Bin .shr k x k' y (.int k ((x / 2 ^ y : Nat) : Int)) := fun P T w => by
  have h0 : ¬ ((y : Int) < 0) := by omega
  have e : (x : Int).fdiv (2 ^ (min (y : Int).toNat k.bits)) = ((x / 2 ^ y : Nat) : Int) := by
    rw [Int.toNat_natCast]
    have hlt := bmax_lt k x hx
    by_cases hm : y ≤ k.bits
    · rw [Nat.min_eq_left hm]
      have : ((2 : Int) ^ y) = ((2 ^ y : Nat) : Int) := by simp
      rw [this, Int.fdiv_eq_ediv_of_nonneg _ (Int.natCast_nonneg _)]
      rfl
    · rw [Nat.min_eq_right (by omega)]
      have : ((2 : Int) ^ k.bits) = ((2 ^ k.bits : Nat) : Int) := by simp
      rw [this, Int.fdiv_eq_ediv_of_nonneg _ (Int.natCast_nonneg _)]
      have h1 : x / 2 ^ k.bits = 0 := Nat.div_eq_of_lt hlt
      have h2 : x / 2 ^ y = 0 := Nat.div_eq_of_lt (Nat.lt_of_lt_of_le hlt (Nat.pow_le_pow_right (by omega) (by omega)))
      rw [h2]
      show ((x / 2 ^ k.bits : Nat) : Int) = _
      rw [h1]
  simp only [binOp, Op.shift, h0, if_false, e]; rfl
theorem Bin.shlN {k' : IntKind} (x y : Nat) (hy : y ≤ k.bits) (h : x * 2 ^ y ≤ bmax k) : Bin .shl k x k' y (.int k ((x * 2 ^ y : Nat) : Int)) := fun P T w => by
  have h0 : ¬ ((y : Int) < 0) := by omega
  have e : (x : Int) * 2 ^ (min (y : Int).toNat k.bits) = ((x * 2 ^ y : Nat) : Int) := by
    rw [Int.toNat_natCast, Nat.min_eq_left hy]; simp
  simp only [binOp, Op.shift, h0, if_false, e, wrap_nat k _ h]
  rfl
theorem Bin.shlU {k' : IntKind} (x y : Nat) : Bin .shl .u64 x k' y (.int .u64 (((x * 2 ^ y) % 18446744073709551616 : Nat) : Int)) := fun P T w => by
  have h0 : ¬ ((y : Int) < 0) := by omega
  have e : IntKind.u64.wrap ((x : Int) * 2 ^ (min (y : Int).toNat IntKind.u64.bits)) = (((x * 2 ^ y) % 18446744073709551616 : Nat) : Int) := by
    rw [Int.toNat_natCast]
    have e1 : ∀ m : Nat, (x : Int) * 2 ^ m = ((x * 2 ^ m : Nat) : Int) := fun m => by simp
    rw [e1, wrap_u64]
    show ((x * 2 ^ (min y 64) % 18446744073709551616 : Nat) : Int) = _
    by_cases hm : y ≤ 64
    · rw [Nat.min_eq_left hm]
    · rw [Nat.min_eq_right (by omega)]
      have h1 : x * 2 ^ 64 % 18446744073709551616 = 0 := by omega
      have h2 : x * 2 ^ y % 18446744073709551616 = 0 := by
        have : 2 ^ y = 2 ^ 64 * 2 ^ (y - 64) := by rw [← Nat.pow_add]; congr 1; omega
        rw [this, ← Nat.mul_assoc, Nat.mul_right_comm]
        exact Nat.mul_mod_left _ _
      rw [h1, h2]
  simp only [binOp, Op.shift, h0, if_false, e]
  rfl
theorem Bin.shl8 {k' : IntKind} (x y : Nat) (hy : y ≤ 8) : Bin .shl .u8 x k' y (.int .u8 (((x * 2 ^ y) % 256 : Nat) : Int)) := fun P T w => by
  have h0 : ¬ ((y : Int) < 0) := by omega
  have e : IntKind.u8.wrap ((x : Int) * 2 ^ (min (y : Int).toNat IntKind.u8.bits)) = (((x * 2 ^ y) % 256 : Nat) : Int) := by
    rw [Int.toNat_natCast]
    have e1 : ∀ m : Nat, (x : Int) * 2 ^ m = ((x * 2 ^ m : Nat) : Int) := fun m => by simp
    rw [e1, wrap_u8]
    show ((x * 2 ^ (min y 8) % 256 : Nat) : Int) = _
    rw [Nat.min_eq_left hy]
  simp only [binOp, Op.shift, h0, if_false, e]
  rfl
end

/-! ### the operations -/
section
variable {P : Program} {Γ : Env} {w : World} {dst : Option Tmp} {T : TypeId} {pos : String} {after : Array Edge} {g : Option (Nat × Bool)}

theorem Run.mv {x : Operand} {v : Value} (h : ev? Γ x = some v) : Run P ⟨dst, .move x, T, pos, after, g⟩ Γ w v := fun ρ hρ => by
  simp [execOp, hρ _ _ h]
theorem Run.asg {x : Operand} {v : Value} (h : ev? Γ x = some v) : Run P ⟨dst, .assign x, T, pos, after, g⟩ Γ w v := fun ρ hρ => by
  simp [execOp, hρ _ _ h]
theorem Run.pick {c x y : Operand} {b : Bool} {u v : Value} (hc : ev? Γ c = some (.bool b)) (hx : ev? Γ x = some u) (hy : ev? Γ y = some v) :
    Run P ⟨dst, .pick c x y, T, pos, after, g⟩ Γ w (if b then u else v) := fun ρ hρ => by
  simp [execOp, hρ _ _ hc, hρ _ _ hx, hρ _ _ hy, asBool]
theorem Run.pickT {c x y : Operand} {b : Bool} {u : Value} (hc : ev? Γ c = some (.bool b)) (hx : ev? Γ x = some u) (hb : b = true) :
    Run P ⟨dst, .pick c x y, T, pos, after, g⟩ Γ w u := fun ρ hρ => by
  simp [execOp, hρ _ _ hc, hρ _ _ hx, asBool, hb]
theorem Run.pickF {c x y : Operand} {b : Bool} {v : Value} (hc : ev? Γ c = some (.bool b)) (hy : ev? Γ y = some v) (hb : b = false) :
    Run P ⟨dst, .pick c x y, T, pos, after, g⟩ Γ w v := fun ρ hρ => by
  simp [execOp, hρ _ _ hc, hρ _ _ hy, asBool, hb]
theorem Run.bin {op : BinOp} {xT yT : TypeId} {x y : Operand} {k k' : IntKind} {a b : Int} {v : Value} (hx : ev? Γ x = some (.int k a)) (hy : ev? Γ y = some (.int k' b)) (hb : Bin op k a k' b v) :
    Run P ⟨dst, .binOp op xT x y yT, T, pos, after, g⟩ Γ w v := fun ρ hρ => by
  have h0 : (eqGuard op xT x y (.int k a) (.int k' b)).run P w = .ok () w := by
    unfold eqGuard
    split <;> rfl
  have h1 := hb P xT w
  simp only [execOp, hρ _ _ hx, hρ _ _ hy, Sem.run_bind, h0, Result.andThen_ok, h1, Sem.run_pure]
theorem Run.not {xT : TypeId} {x : Operand} {b : Bool} (hx : ev? Γ x = some (.bool b)) : Run P ⟨dst, .unOp .not xT x, T, pos, after, g⟩ Γ w (.bool (!b)) := fun ρ hρ => by
  simp [execOp, hρ _ _ hx, Op.unary]
theorem Run.nilck {x : Operand} {a : Addr} (hx : ev? Γ x = some (.pointer (some a))) : Run P ⟨dst, .nilCheck x, T, pos, after, g⟩ Γ w (.pointer (some a)) := fun ρ hρ => by
  simp [execOp, hρ _ _ hx]
theorem Run.nilckF {x : Operand} {f : FuncId} {first cap : Array Value} (hx : ev? Γ x = some (.func (.func f) first cap)) : Run P ⟨dst, .nilCheck x, T, pos, after, g⟩ Γ w (.func (.func f) first cap) := fun ρ hρ => by
  simp [execOp, hρ _ _ hx]
theorem Run.conv {src dstT : TypeId} {x : Operand} {k k' : IntKind} {a : Int} {d : TypeDesc} (hx : ev? Γ x = some (.int k a)) (hs : P.underlying src = some d) (hd : P.underlying dstT = some (.int k')) (r : Int) (hr : k'.wrap a = r) :
    Run P ⟨dst, .convert src dstT x, T, pos, after, g⟩ Γ w (.int k' r) := fun ρ hρ => by
  simp [execOp, hρ _ _ hx, convert, run_underlying hs, run_underlying hd, Conv.intToInt, hr]
theorem Run.convN {src dstT : TypeId} {x : Operand} {k k' : IntKind} {d : TypeDesc} (a : Nat) (hx : ev? Γ x = some (.int k a)) (hs : P.underlying src = some d) (hd : P.underlying dstT = some (.int k')) (hr : a ≤ bmax k') :
    Run P ⟨dst, .convert src dstT x, T, pos, after, g⟩ Γ w (.int k' a) := Run.conv hx hs hd _ (wrap_nat k' a hr)
theorem Run.conv8 {src dstT : TypeId} {x : Operand} {k : IntKind} {d : TypeDesc} (a : Nat) (hx : ev? Γ x = some (.int k a)) (hs : P.underlying src = some d) (hd : P.underlying dstT = some (.int .u8)) :
    Run P ⟨dst, .convert src dstT x, T, pos, after, g⟩ Γ w (.int .u8 ((a % 256 : Nat) : Int)) := Run.conv hx hs hd _ (wrap_u8 a)
theorem Run.fieldAddr {s : TypeId} {x : Operand} {f : Nat} {a : Addr} {fs : Array Field} {fd : Field} {sz : Nat} (hx : ev? Γ x = some (.pointer (some a))) (hs : P.underlying s = some (.struct fs)) (hf : fs[f]? = some fd)
    (hz : ∀ w, (sizeOf fd.type).run P w = .ok sz w) (hz0 : sz ≠ 0) : Run P ⟨dst, .fieldAddr s x f, T, pos, after, g⟩ Γ w (.pointer (some (a.add fd.offset))) := fun ρ hρ => by
  simp [execOp, hρ _ _ hx, Instr.fieldAt, run_underlying hs, hf, Instr.sureAddr, fieldPlace, hz, hz0]
theorem Run.indexS {t : TypeId} {x i : Operand} {a : Addr} {len cap : Nat} {k : IntKind} {e : TypeId} {sz : Nat} (j : Nat) (hx : ev? Γ x = some (.slice (some a) len cap)) (hi : ev? Γ i = some (.int k j)) (ht : P.underlying t = some (.slice e))
    (hz : ∀ w, (sizeOf e).run P w = .ok sz w) (hj : j < len) : Run P ⟨dst, .indexAddr t x i, T, pos, after, g⟩ Γ w (.pointer (some (a.add (j * sz)))) := fun ρ hρ => by
  have h1 : (j : Int) < (len : Int) := by omega
  simp [execOp, hρ _ _ hx, hρ _ _ hi, Instr.indexAt, asIntOf, run_underlying ht, hz, hj]
theorem Run.index1 {t : TypeId} {x i : Operand} {a : Addr} {len cap : Nat} {k : IntKind} {e : TypeId} (j : Nat) (hx : ev? Γ x = some (.slice (some a) len cap)) (hi : ev? Γ i = some (.int k j)) (ht : P.underlying t = some (.slice e))
    (hz : ∀ w, (sizeOf e).run P w = .ok 1 w) (hj : j < len) : Run P ⟨dst, .indexAddr t x i, T, pos, after, g⟩ Γ w (.pointer (some (a.add j))) := by
  have := Run.indexS (P := P) (Γ := Γ) (w := w) (dst := dst) (T := T) (pos := pos) (after := after) (g := g) j hx hi ht hz hj
  rwa [Nat.mul_one] at this
theorem Run.load {t : TypeId} {x : Operand} {a : Addr} {v : Value} (hx : ev? Γ x = some (.pointer (some a))) (ht : ∀ w, (isAgg t).run P w = .ok false w) (hc : w.cell? a = some v) :
    Run P ⟨dst, .load t x, T, pos, after, g⟩ Γ w v := fun ρ hρ => by
  simp [execOp, hρ _ _ hx, Instr.loadAt, Instr.sureAddr, loadVar, ht, hc]
theorem Run.loadA {t : TypeId} {x : Operand} {a : Addr} {cs : List Value} {sz : Nat} (hx : ev? Γ x = some (.pointer (some a))) (ht : ∀ w, (isAgg t).run P w = .ok true w) (hz : ∀ w, (sizeOf t).run P w = .ok sz w)
    (hc : ∀ j v, cs[j]? = some v → w.cell? (a.add j) = some v) (hl : cs.length = sz) : Run P ⟨dst, .load t x, T, pos, after, g⟩ Γ w (.agg cs.toArray) := fun ρ hρ => by
  subst hl
  simp [execOp, hρ _ _ hx, Instr.loadAt, Instr.sureAddr, loadVar, ht, hz, run_loadCells_list w a cs hc]
theorem Run.lenS {t : TypeId} {x : Operand} {a : Option Addr} {len cap : Nat} {e : TypeId} (hx : ev? Γ x = some (.slice a len cap)) (ht : P.underlying t = some (.slice e)) :
    Run P ⟨dst, .call ⟨.builtin .len, #[x], #[t]⟩, T, pos, after, g⟩ Γ w (.int .i64 len) := fun ρ hρ => by
  simp [execOp, resolve, invoke, builtin, Builtin.len_, hρ _ _ hx, run_underlying ht, goInt]
theorem Run.lenStr {t : TypeId} {x : Operand} {s : ByteArray} (hx : ev? Γ x = some (.string s)) (ht : P.underlying t = some .string) :
    Run P ⟨dst, .call ⟨.builtin .len, #[x], #[t]⟩, T, pos, after, g⟩ Γ w (.int .i64 s.size) := fun ρ hρ => by
  simp [execOp, resolve, invoke, builtin, Builtin.len_, hρ _ _ hx, run_underlying ht, goInt]
theorem Run.extract {x : Operand} {ix : Nat} {vs : Array Value} {v : Value} (hx : ev? Γ x = some (.tuple vs)) (hv : vs[ix]? = some v) : Run P ⟨dst, .extract x ix, T, pos, after, g⟩ Γ w v := fun ρ hρ => by
  simp [execOp, hρ _ _ hx, Instr.extract, hv]
theorem Run.field {t : TypeId} {x : Operand} {f : Nat} {cs : Array Value} {fs : Array Field} {fd : Field} {v : Value} (hx : ev? Γ x = some (.agg cs)) (hs : P.underlying t = some (.struct fs)) (hf : fs[f]? = some fd)
    (ha : ∀ w, (isAgg fd.type).run P w = .ok false w) (hv : cs[fd.offset]? = some v) : Run P ⟨dst, .field t x f, T, pos, after, g⟩ Γ w v := fun ρ hρ => by
  simp [execOp, hρ _ _ hx, Instr.field, run_underlying hs, hf, asAgg, part, ha, hv]
theorem Run.eqlNilP {t yT : TypeId} {x y : Operand} {p : Option Addr} {e : TypeId} (hx : ev? Γ x = some (.pointer p)) (hy : ev? Γ y = some (.pointer none)) (ht : P.underlying t = some (.pointer e)) :
    Run P ⟨dst, .binOp .eql t x y yT, T, pos, after, g⟩ Γ w (.bool p.isNone) := fun ρ hρ => by
  have h0 : ∀ d : Nat, (Op.equalIn (d + 1) t (.pointer p) (.pointer none)).run P w = .ok p.isNone w := fun d => by
    cases p <;> simp [Op.equalIn, run_underlying ht]
  have h1 : (Op.equal t (.pointer p) (.pointer none)).run P w = .ok p.isNone w := h0 9999
  simp [execOp, hρ _ _ hx, hρ _ _ hy, eqGuard, binOp, h1]
theorem Run.neqNilP {t yT : TypeId} {x y : Operand} {p : Option Addr} {e : TypeId} (hx : ev? Γ x = some (.pointer p)) (hy : ev? Γ y = some (.pointer none)) (ht : P.underlying t = some (.pointer e)) :
    Run P ⟨dst, .binOp .neq t x y yT, T, pos, after, g⟩ Γ w (.bool !p.isNone) := fun ρ hρ => by
  have h0 : ∀ d : Nat, (Op.equalIn (d + 1) t (.pointer p) (.pointer none)).run P w = .ok p.isNone w := fun d => by
    cases p <;> simp [Op.equalIn, run_underlying ht]
  have h1 : (Op.equal t (.pointer p) (.pointer none)).run P w = .ok p.isNone w := h0 9999
  simp [execOp, hρ _ _ hx, hρ _ _ hy, eqGuard, binOp, h1]
theorem Run.eqlB {t yT : TypeId} {x y : Operand} {a b : Bool} (hx : ev? Γ x = some (.bool a)) (hy : ev? Γ y = some (.bool b)) (ht : P.underlying t = some .bool) :
    Run P ⟨dst, .binOp .eql t x y yT, T, pos, after, g⟩ Γ w (.bool (a == b)) := fun ρ hρ => by
  have h0 : ∀ d : Nat, (Op.equalIn (d + 1) t (.bool a) (.bool b)).run P w = .ok (a == b) w := fun d => by simp [Op.equalIn, run_underlying ht]
  have h1 : (Op.equal t (.bool a) (.bool b)).run P w = .ok (a == b) w := h0 9999
  simp [execOp, hρ _ _ hx, hρ _ _ hy, eqGuard, binOp, h1]
theorem Run.neqB {t yT : TypeId} {x y : Operand} {a b : Bool} (hx : ev? Γ x = some (.bool a)) (hy : ev? Γ y = some (.bool b)) (ht : P.underlying t = some .bool) :
    Run P ⟨dst, .binOp .neq t x y yT, T, pos, after, g⟩ Γ w (.bool (a != b)) := fun ρ hρ => by
  have h0 : ∀ d : Nat, (Op.equalIn (d + 1) t (.bool a) (.bool b)).run P w = .ok (a == b) w := fun d => by simp [Op.equalIn, run_underlying ht]
  have h1 : (Op.equal t (.bool a) (.bool b)).run P w = .ok (a == b) w := h0 9999
  simp [execOp, hρ _ _ hx, hρ _ _ hy, eqGuard, binOp, h1, bne]
theorem Run.eqlStr {t yT : TypeId} {x y : Operand} {a b : ByteArray} (hx : ev? Γ x = some (.string a)) (hy : ev? Γ y = some (.string b)) :
    Run P ⟨dst, .binOp .eql t x y yT, T, pos, after, g⟩ Γ w (.bool (decide (a.data.toList = b.data.toList))) := fun ρ hρ => by
  have e : (a.data.toList == b.data.toList) = decide (a.data.toList = b.data.toList) := by rw [Bool.eq_iff_iff]; simp
  simp [execOp, hρ _ _ hx, hρ _ _ hy, eqGuard, binOp, Op.stringOp, ByteArray.toList_eq, e]
theorem Run.neqStr {t yT : TypeId} {x y : Operand} {a b : ByteArray} (hx : ev? Γ x = some (.string a)) (hy : ev? Γ y = some (.string b)) :
    Run P ⟨dst, .binOp .neq t x y yT, T, pos, after, g⟩ Γ w (.bool (decide (a.data.toList ≠ b.data.toList))) := fun ρ hρ => by
  have e : (a.data.toList == b.data.toList) = decide (a.data.toList = b.data.toList) := by rw [Bool.eq_iff_iff]; simp
  simp [execOp, hρ _ _ hx, hρ _ _ hy, eqGuard, binOp, Op.stringOp, ByteArray.toList_eq, e]
theorem Run.addStr {t yT : TypeId} {x y : Operand} {a b : ByteArray} (hx : ev? Γ x = some (.string a)) (hy : ev? Γ y = some (.string b)) (hs : a.size + b.size ≤ 9223372036854775807) :
    Run P ⟨dst, .binOp .add t x y yT, T, pos, after, g⟩ Γ w (.string (a ++ b)) := fun ρ hρ => by
  have h := run_string_add_sum (P := P) w a b hs
  simp [execOp, hρ _ _ hx, hρ _ _ hy, eqGuard, binOp, h]
theorem Run.indexStr {t : TypeId} {x i : Operand} {s : ByteArray} {k : IntKind} (j : Nat) (b : UInt8) (hx : ev? Γ x = some (.string s)) (hi : ev? Γ i = some (.int k j)) (ht : P.underlying t = some .string) (hj : s.data.toList[j]? = some b) :
    Run P ⟨dst, .index t x i, T, pos, after, g⟩ Γ w (.int .u8 b.toNat) := fun ρ hρ => by
  have hlt : j < s.size := by have := (List.getElem?_eq_some_iff.1 hj).1; simpa using this
  have e : s[j]? = some b := by
    rw [ByteArray.getElem?_lt' s j hlt]
    have := (List.getElem?_eq_some_iff.1 hj).2
    rw [← this]; rfl
  simp [execOp, hρ _ _ hx, hρ _ _ hi, Instr.index, asIntOf, run_underlying ht, e]
end

/-- A bound of a slice expression: left out, it is d. -/
def evB (Γ : Env) (o : Option Operand) (d r : Nat) : Prop := match o with | none => r = d | some x => ∃ k, ev? Γ x = some (.int k (r : Int))
theorem evB.none_ {Γ : Env} {d : Nat} : evB Γ none d d := rfl
theorem evB.some_ {Γ : Env} {d r : Nat} {x : Operand} {k : IntKind} (h : ev? Γ x = some (.int k (r : Int))) : evB Γ (some x) d r := ⟨k, h⟩
def cutA (a : Option Addr) (cap l sz : Nat) : Option Addr := if cap = l then a else a.map (·.add (l * sz))
section
variable {P : Program} {Γ : Env} {w : World} {dst : Option Tmp} {T : TypeId} {pos : String} {after : Array Edge} {g : Option (Nat × Bool)}
theorem run_bounds {ρ : Operand → Value} (hρ : Fits ρ Γ) (len cap l h : Nat) (lo hi : Option Operand) (hlo : evB Γ lo 0 l) (hhi : evB Γ hi len h) (h1 : l ≤ h) (h2 : h ≤ cap) (isS : Bool) :
    (Instr.sliceBounds isS len cap (lo.map ρ) (hi.map ρ) none).run P w = .ok (l, h, cap) w := by
  have hb : ∀ (k : IntKind) (r y : Nat) (code : BoundsCode), r ≤ y → (Instr.sliceBound (.int k (r : Int)) y code).run P w = .ok r w := by
    intro k r y code hry
    have := run_sliceBound (P := P) w k (r : Int) y code (by omega) (by omega)
    simpa using this
  unfold Instr.sliceBounds
  cases lo with
  | none =>
    cases hi with
    | none => simp only [evB] at hlo hhi; subst hlo hhi; simp
    | some y => simp only [evB] at hlo; obtain ⟨k, hy⟩ := hhi; subst hlo; simp [hρ _ _ hy, hb _ _ _ _ h2]
  | some x =>
    obtain ⟨k, hx⟩ := hlo
    cases hi with
    | none => simp only [evB] at hhi; subst hhi; simp [hρ _ _ hx, hb _ _ _ _ h1]
    | some y => obtain ⟨k', hy⟩ := hhi; simp [hρ _ _ hx, hρ _ _ hy, hb _ _ _ _ h1, hb _ _ _ _ h2]
theorem Run.sliceS {t e : TypeId} {x : Operand} {a : Option Addr} {len cap sz : Nat} {lo hi : Option Operand} (l h : Nat) (hx : ev? Γ x = some (.slice a len cap)) (ht : P.underlying t = some (.slice e)) (hz : ∀ w, (sizeOf e).run P w = .ok sz w)
    (hlo : evB Γ lo 0 l) (hhi : evB Γ hi len h) (h1 : l ≤ h) (h2 : h ≤ cap) :
    Run P ⟨dst, .slice t x lo hi none, T, pos, after, g⟩ Γ w (.slice (cutA a cap l sz) (h - l) (cap - l)) := fun ρ hρ => by
  have hb := run_bounds (P := P) (w := w) hρ len cap l h lo hi hlo hhi h1 h2 true
  simp only [execOp, Instr.sliceAt, Instr.slice, Sem.run_bind, run_underlying ht, Result.andThen_ok, hρ _ _ hx, Option.map_none, hb, hz, Sem.run_pure]
  rfl
theorem Run.sliceStr {t : TypeId} {x : Operand} {s : ByteArray} {lo hi : Option Operand} (l h : Nat) (hx : ev? Γ x = some (.string s)) (ht : P.underlying t = some .string)
    (hlo : evB Γ lo 0 l) (hhi : evB Γ hi s.size h) (h1 : l ≤ h) (h2 : h ≤ s.size) :
    Run P ⟨dst, .slice t x lo hi none, T, pos, after, g⟩ Γ w (.string (s.extract l h)) := fun ρ hρ => by
  have hb := run_bounds (P := P) (w := w) hρ s.size s.size l h lo hi hlo hhi h1 h2 false
  simp [execOp, Instr.sliceAt, Instr.slice, run_underlying ht, hρ _ _ hx, hb]
end

/-! ### calls of functions of the program -/
section
variable {P : Program} {Γ : Env} {w : World} {dst : Option Tmp} {T : TypeId} {pos : String} {after : Array Edge} {g : Option (Nat × Bool)}
def evs (Γ : Env) : List Operand → List Value → Prop
  | [], vs => vs = []
  | x :: r, vs => ∃ v us, ev? Γ x = some v ∧ evs Γ r us ∧ vs = v :: us
theorem evs.nil {Γ : Env} : evs Γ [] [] := rfl
theorem evs.cons {Γ : Env} {x : Operand} {r : List Operand} {v : Value} {us : List Value} (h : ev? Γ x = some v) (hr : evs Γ r us) : evs Γ (x :: r) (v :: us) := ⟨v, us, h, hr, rfl⟩
theorem evs_map {ρ : Operand → Value} (hρ : Fits ρ Γ) : ∀ (xs : List Operand) (vs : List Value), evs Γ xs vs → xs.map ρ = vs
  | [], vs, h => by simp only [evs] at h; subst h; rfl
  | x :: r, vs, h => by
    obtain ⟨v, us, h1, h2, rfl⟩ := h
    rw [List.map_cons, hρ _ _ h1, evs_map hρ r us h2]
theorem Enters.fn {f : FuncId} {xs : List Operand} {vs : List Value} {ts : Array TypeId} (hv : evs Γ xs vs) (hf : ∀ args w, (callFunc f args).run P w = .ok (.enter f args) w) :
    Enters P ⟨dst, .call ⟨.value (.func f), xs.toArray, ts⟩, T, pos, after, g⟩ Γ w f vs.toArray := fun ρ hρ => by
  have e := evs_map hρ xs vs hv
  have e2 : ρ (.func f) = .func (.func f) #[] #[] := hρ _ _ rfl
  have e3 : ρ (.func f) = .func (.func f) #[] #[] := e2
  simp [execOp, resolve, e2, Deferred.ofValue, invoke, e, hf]
end
end Go.Proofs.Ytmfglifjnoilnaa
