/-
  Plain lemmas on bits: a number of bits, bits of a number, octets of bits, and the turning round of 64 bits. No program in sight.
-/
namespace Go.Proofs.Ytfjhmbgckmhdaaa

/-- The number of some bits, the lowest first. -/
def num : List Bool → Nat
  | [] => 0
  | b :: r => b.toNat + 2 * num r
/-- A number's bits, the lowest first. -/
def bitsL (v n : Nat) : List Bool := (List.range n).map fun i => decide (v / 2 ^ i % 2 = 1)
theorem and1 (x : Nat) : x &&& 1 = (decide (x % 2 = 1)).toNat := by
  rw [Nat.and_one_is_mod]
  rcases Nat.mod_two_eq_zero_or_one x with h | h <;> simp [h]
/-- Octets of bits, the last one filled up with noughts. -/
def pack (l : List Bool) : List Nat := (List.range ((l.length + 7) / 8)).map fun i => num ((l.drop (8 * i)).take 8)
/-- Octets as bits. -/
def ofB (bs : List Nat) : List Bool := bs.flatMap fun b => bitsL b 8
/-- Bits with noughts up to a whole octet. -/
def whole (l : List Bool) : List Bool := l ++ List.replicate ((8 - l.length % 8) % 8) false

theorem bitsL_len (v n : Nat) : (bitsL v n).length = n := by simp [bitsL]
theorem bitsL_succ (v k : Nat) : bitsL v (k+1) = bitsL v k ++ [decide (v / 2^k % 2 = 1)] := by simp [bitsL, List.range_succ]
theorem bitsL_cons (v k : Nat) : bitsL v (k+1) = decide (v % 2 = 1) :: bitsL (v / 2) k := by
  unfold bitsL
  rw [List.range_succ_eq_map, List.map_cons, List.map_map]
  congr 1
  · simp
  · apply List.map_congr_left
    intro i _
    simp only [Function.comp_apply]
    rw [show v / 2 ^ (i + 1) = v / 2 / 2 ^ i by rw [Nat.pow_succ, Nat.mul_comm, Nat.div_div_eq_div_mul]]
theorem num_lt : ∀ l : List Bool, num l < 2 ^ l.length
  | [] => by simp [num]
  | b :: r => by
    have := num_lt r
    simp only [num, List.length_cons, Nat.pow_succ]
    cases b <;> simp <;> omega
theorem num_append (a b : List Bool) : num (a ++ b) = num a + 2 ^ a.length * num b := by
  induction a with
  | nil => simp [num]
  | cons x r ih =>
    simp only [List.cons_append, num, ih, List.length_cons, Nat.pow_succ, Nat.mul_add]
    rw [Nat.mul_comm (2 ^ r.length) 2, Nat.mul_assoc]
    omega
theorem num_snoc (a : List Bool) (b : Bool) : num (a ++ [b]) = num a + 2 ^ a.length * b.toNat := by simp [num_append, num]
theorem num_false (k : Nat) : num (List.replicate k false) = 0 := by
  induction k with
  | zero => rfl
  | succ k ih => rw [List.replicate_succ]; simp [num, ih]
theorem num_bitsL (n : Nat) : ∀ v, v < 2 ^ n → num (bitsL v n) = v := by
  induction n with
  | zero => intro v h; simp [bitsL, num] at *; omega
  | succ n ih =>
    intro v h
    rw [bitsL_cons]
    simp only [num]
    rw [ih (v / 2) (by rw [Nat.pow_succ] at h; omega)]
    rcases Nat.mod_two_eq_zero_or_one v with h0 | h0 <;> simp [h0] <;> omega
theorem bitsL_num (l : List Bool) : bitsL (num l) l.length = l := by
  induction l with
  | nil => simp [bitsL]
  | cons b r ih =>
    have e1 : num (b :: r) / 2 = num r := by show (b.toNat + 2 * num r) / 2 = num r; cases b <;> simp <;> omega
    have e2 : decide (num (b :: r) % 2 = 1) = b := by have : num (b :: r) % 2 = b.toNat := by { show (b.toNat + 2 * num r) % 2 = b.toNat; cases b <;> simp [Nat.add_mod] }
                                                      rw [this]; cases b <;> rfl
    rw [List.length_cons, bitsL_cons, e1, e2, ih]
theorem num_inj {a b : List Bool} (hl : a.length = b.length) (h : num a = num b) : a = b := by
  rw [← bitsL_num a, ← bitsL_num b, h, hl]
theorem bitsL_mod (v n : Nat) : bitsL (v % 2 ^ n) n = bitsL v n := by
  unfold bitsL
  apply List.map_congr_left
  intro i hi
  have hi : i < n := by simpa using hi
  have : v % 2 ^ n / 2 ^ i % 2 = v / 2 ^ i % 2 := by
    have h1 : 2 ^ n = 2 ^ i * 2 ^ (n - i) := by rw [← Nat.pow_add]; congr 1; omega
    rw [h1, Nat.mod_mul_right_div_self]
    have h2 : 2 ^ (n - i) = 2 * 2 ^ (n - i - 1) := by rw [← Nat.pow_succ']; congr 1; omega
    rw [h2]
    exact Nat.mod_mul_right_mod _ _ _
  rw [this]
theorem num_bitsL_mod (v n : Nat) : num (bitsL v n) = v % 2 ^ n := by
  rw [← bitsL_mod]; exact num_bitsL n _ (Nat.mod_lt _ (Nat.two_pow_pos n))
theorem bitsL_get (v n i : Nat) (h : i < n) : (bitsL v n)[i]? = some (decide (v / 2 ^ i % 2 = 1)) := by
  unfold bitsL
  simp [h]

theorem take1 (l : List Bool) (q : Nat) (b : Bool) (h : l[q]? = some b) : (l.drop q).take 1 = [b] := by
  obtain ⟨hlt, rfl⟩ := List.getElem?_eq_some_iff.1 h
  rw [List.drop_eq_getElem_cons hlt]
  rfl

/-! ### octets -/
theorem pack_len (l : List Bool) : (pack l).length = (l.length + 7) / 8 := by simp [pack]
theorem pack_get (l : List Bool) (i : Nat) (h : i < (l.length + 7) / 8) : (pack l)[i]? = some (num ((l.drop (8 * i)).take 8)) := by
  unfold pack
  simp [h]
theorem pack_nil : pack [] = [] := rfl
theorem pack_lt (l : List Bool) : ∀ x ∈ pack l, x < 256 := by
  intro x hx
  obtain ⟨i, _, rfl⟩ := List.mem_map.1 hx
  have := num_lt ((l.drop (8 * i)).take 8)
  refine Nat.lt_of_lt_of_le this ?_
  have : ((l.drop (8 * i)).take 8).length ≤ 8 := List.length_take_le _ _
  exact Nat.le_trans (Nat.pow_le_pow_right (by omega) this) (by decide)
/-- One bit more: the octets, a new one laid behind them where they are full, and the bit set in the last one. -/
theorem pack_snoc_new (l : List Bool) (b : Bool) (h : l.length % 8 = 0) : pack (l ++ [b]) = pack l ++ [b.toNat] := by
  apply List.ext_getElem?
  intro i
  have e1 : ((l ++ [b]).length + 7) / 8 = l.length / 8 + 1 := by simp; omega
  have e2 : (l.length + 7) / 8 = l.length / 8 := by omega
  rcases Nat.lt_trichotomy i (l.length / 8) with hi | hi | hi
  · rw [pack_get _ _ (by omega), List.getElem?_append_left (by rw [pack_len]; omega), pack_get _ _ (by omega)]
    congr 2
    rw [List.drop_append_of_le_length (by omega), List.take_append_of_le_length (by simp; omega)]
  · rw [pack_get _ _ (by omega), List.getElem?_append_right (by rw [pack_len]; omega), pack_len]
    subst hi
    rw [show l.length / 8 - (l.length + 7) / 8 = 0 by omega, show 8 * (l.length / 8) = l.length by omega]
    simp [num]
  · rw [List.getElem?_eq_none (by rw [pack_len]; omega), List.getElem?_eq_none (by simp [pack_len]; omega)]
theorem pack_snoc_old (l : List Bool) (b : Bool) (h : l.length % 8 ≠ 0) :
    pack (l ++ [b]) = (pack l).set (l.length / 8) (num (l.drop (8 * (l.length / 8))) + 2 ^ (l.length % 8) * b.toNat) := by
  apply List.ext_getElem?
  intro i
  have e1 : ((l ++ [b]).length + 7) / 8 = l.length / 8 + 1 := by simp; omega
  have e2 : (l.length + 7) / 8 = l.length / 8 + 1 := by omega
  rcases Nat.lt_trichotomy i (l.length / 8) with hi | hi | hi
  · rw [pack_get _ _ (by omega), List.getElem?_set_ne (by omega), pack_get _ _ (by omega)]
    congr 2
    rw [List.drop_append_of_le_length (by omega), List.take_append_of_le_length (by simp; omega)]
  · subst hi
    rw [pack_get _ _ (by omega), List.getElem?_set_self (by rw [pack_len]; omega)]
    congr 1
    rw [List.drop_append_of_le_length (by omega), List.take_of_length_le (by simp; omega), num_snoc]
    congr 3
    simp; omega
  · rw [List.getElem?_eq_none (by rw [pack_len]; omega), List.getElem?_eq_none (by simp [pack_len]; omega)]
theorem or_top (x k : Nat) (b : Bool) (h : x < 2 ^ k) : x ||| (b.toNat * 2 ^ k) = x + 2 ^ k * b.toNat := by
  cases b
  · simp
  · simp only [Bool.toNat_true, Nat.one_mul, Nat.mul_one]
    rw [Nat.or_comm, Nat.add_comm]
    have := Nat.two_pow_add_eq_or_of_lt h 1
    simpa using this.symm

/-! ### whole octets -/
theorem whole_len (l : List Bool) : (whole l).length = 8 * ((l.length + 7) / 8) := by
  simp only [whole, List.length_append, List.length_replicate]; omega
theorem whole_of (l : List Bool) (h : l.length % 8 = 0) : whole l = l := by simp [whole, h]
theorem whole_step (l : List Bool) (h : l.length % 8 ≠ 0) : whole (l ++ [false]) = whole l := by
  simp only [whole, List.length_append, List.length_singleton, List.append_assoc, List.singleton_append]
  congr 1
  have : (8 - l.length % 8) % 8 = (8 - (l.length + 1) % 8) % 8 + 1 := by omega
  rw [this, List.replicate_succ]
theorem pack_whole (l : List Bool) : pack (whole l) = pack l := by
  apply List.ext_getElem?
  intro i
  have e := whole_len l
  by_cases hi : i < (l.length + 7) / 8
  · rw [pack_get _ _ (by omega), pack_get _ _ hi]
    congr 1
    by_cases h8 : 8 * i + 8 ≤ l.length
    · congr 1
      unfold whole
      rw [List.drop_append_of_le_length (by omega), List.take_append_of_le_length (by simp; omega)]
    · rw [List.take_of_length_le (by simp; omega), List.take_of_length_le (by simp; omega)]
      unfold whole
      rw [List.drop_append_of_le_length (by omega), num_append, num_false]
      simp
  · rw [List.getElem?_eq_none (by rw [pack_len]; omega), List.getElem?_eq_none (by rw [pack_len]; omega)]
theorem pack_append_whole (a b : List Bool) (h : a.length % 8 = 0) : pack (a ++ b) = pack a ++ pack b := by
  apply List.ext_getElem?
  intro i
  by_cases hi : i < a.length / 8
  · rw [List.getElem?_append_left (by rw [pack_len]; omega), pack_get _ _ (by simp; omega), pack_get _ _ (by omega)]
    congr 2
    rw [List.drop_append_of_le_length (by omega), List.take_append_of_le_length (by simp; omega)]
  · rw [List.getElem?_append_right (by rw [pack_len]; omega), pack_len]
    by_cases hj : i < (a.length + b.length + 7) / 8
    · rw [pack_get _ _ (by simp; omega), pack_get _ _ (by omega)]
      congr 3
      rw [List.drop_append, List.drop_eq_nil_of_le (by omega), List.nil_append]
      congr 1
      omega
    · rw [List.getElem?_eq_none (by rw [pack_len]; simp; omega), List.getElem?_eq_none (by rw [pack_len]; omega)]
theorem ofB_len (bs : List Nat) : (ofB bs).length = 8 * bs.length := by
  induction bs with
  | nil => rfl
  | cons b r ih => simp only [ofB, List.flatMap_cons, List.length_append, bitsL_len, List.length_cons] at *; omega
theorem ofB_append (a b : List Nat) : ofB (a ++ b) = ofB a ++ ofB b := by simp [ofB]
theorem ofB_cons (b : Nat) (r : List Nat) : ofB (b :: r) = bitsL b 8 ++ ofB r := rfl
theorem pack_ofB (bs : List Nat) (h : ∀ b ∈ bs, b < 256) : pack (ofB bs) = bs := by
  induction bs with
  | nil => rfl
  | cons b r ih =>
    rw [ofB_cons, pack_append_whole _ _ (by rw [bitsL_len]), ih (fun x hx => h x (by simp [hx]))]
    have e : pack (bitsL b 8) = [b] := by
      unfold pack
      rw [bitsL_len]
      simp only [show (8 + 7) / 8 = 1 from rfl, List.range_one, List.map_cons, List.map_nil, Nat.mul_zero, List.drop_zero]
      rw [List.take_of_length_le (by rw [bitsL_len]; omega), num_bitsL 8 b (h b (by simp))]
    rw [e]
    rfl
theorem ofB_pack (l : List Bool) : ofB (pack l) = whole l := by
  have key : ∀ (n : Nat) (l : List Bool), l.length = 8 * n → ofB (pack l) = l := by
    intro n
    induction n with
    | zero => intro l h; have : l = [] := List.eq_nil_of_length_eq_zero (by omega); subst this; rfl
    | succ n ih =>
      intro l h
      have hl : l = l.take 8 ++ l.drop 8 := (List.take_append_drop 8 l).symm
      have h8 : (l.take 8).length = 8 := by simp; omega
      have e : pack (l.take 8) = [num (l.take 8)] := by
        unfold pack
        rw [h8]
        simp only [show (8 + 7) / 8 = 1 from rfl, List.range_one, List.map_cons, List.map_nil, Nat.mul_zero, List.drop_zero]
        rw [List.take_of_length_le (by rw [h8]; omega)]
      rw [hl, pack_append_whole _ _ (by rw [h8]), ofB_append, e, ih _ (by simp; omega)]
      congr 1
      show bitsL _ 8 ++ [] = _
      rw [List.append_nil]
      have := bitsL_num (l.take 8)
      rwa [h8] at this
  rw [← pack_whole]
  exact key ((l.length + 7) / 8) _ (whole_len l)
theorem ofB_get (bs : List Nat) (p : Nat) (h : p < 8 * bs.length) : (ofB bs)[p]? = some (decide (bs.getD (p / 8) 0 / 2 ^ (p % 8) % 2 = 1)) := by
  induction bs generalizing p with
  | nil => simp at h
  | cons b r ih =>
    rw [ofB_cons]
    by_cases hp : p < 8
    · rw [List.getElem?_append_left (by rw [bitsL_len]; exact hp), bitsL_get _ _ _ hp, show p / 8 = 0 by omega, show p % 8 = p by omega]
      rfl
    · rw [List.getElem?_append_right (by rw [bitsL_len]; omega), bitsL_len, ih (p - 8) (by simp at h; omega), show p / 8 = (p - 8) / 8 + 1 by omega, show p % 8 = (p - 8) % 8 by omega]
      rfl
/-- The next bit taken in. -/
theorem take_succ_num (l : List Bool) (at_ i : Nat) (b : Bool) (h : l[at_ + i]? = some b) : num ((l.drop at_).take (i + 1)) = num ((l.drop at_).take i) + 2 ^ i * b.toNat := by
  have hl : at_ + i < l.length := (List.getElem?_eq_some_iff.1 h).1
  have e : (l.drop at_).take (i + 1) = (l.drop at_).take i ++ [b] := by
    rw [List.take_add_one]
    congr 1
    rw [List.getElem?_drop, h]
    rfl
  rw [e, num_snoc]
  have : ((l.drop at_).take i).length = i := by rw [List.length_take, List.length_drop]; omega
  rw [this]

/-! ### 64 bits turned round -/
theorem testBit_eq (v i : Nat) : decide (v / 2 ^ i % 2 = 1) = v.testBit i := by rw [Nat.testBit_eq_decide_div_mod_eq]
/-- Neighbouring groups of k bits changed. -/
def swapK (k m x : Nat) : Nat := (x / 2 ^ k &&& m) ||| ((x &&& m) * 2 ^ k % 18446744073709551616)
theorem mod64_testBit (x i : Nat) : (x % 18446744073709551616).testBit i = (decide (i < 64) && x.testBit i) := Nat.testBit_mod_two_pow x 64 i
theorem swapK_bit (k m x i : Nat) (hi : i < 64) (hm : ∀ j, j < 64 → m.testBit j = decide (j / k % 2 = 0)) (h64 : i / k % 2 = 0 → i + k < 64) (hk : 0 < k) (hge : i / k % 2 = 1 → k ≤ i ∧ (i - k) / k % 2 = 0) :
    (swapK k m x).testBit i = if i / k % 2 = 0 then x.testBit (i + k) else x.testBit (i - k) := by
  unfold swapK
  rw [Nat.testBit_or, Nat.testBit_and, mod64_testBit, Nat.testBit_mul_two_pow, Nat.testBit_and, Nat.testBit_div_two_pow, hm i hi]
  rcases Nat.mod_two_eq_zero_or_one (i / k) with h | h
  · simp only [h, decide_true, Bool.and_true, if_true]
    by_cases hik : k ≤ i
    · rw [hm (i - k) (by omega)]
      have : (i - k) / k % 2 = 1 := by
        have e : i / k = (i - k) / k + 1 := by rw [← Nat.add_div_right _ hk]; congr 1; omega
        omega
      simp [this, Nat.add_comm]
    · simp [hik, Nat.add_comm]
  · obtain ⟨h1, h2⟩ := hge h
    rw [hm (i - k) (by omega)]
    simp [h, h1, h2, hi]
def rev64 (x : Nat) : Nat :=
  let a := swapK 1 6148914691236517205 x
  let b := swapK 2 3689348814741910323 a
  let c := swapK 4 1085102592571150095 b
  let d := swapK 8 71777214294589695 c
  let e := swapK 16 281470681808895 d
  (e / 2 ^ 32) ||| (e * 2 ^ 32 % 18446744073709551616)
theorem swap_lt (k m x : Nat) (hm : m ≤ 18446744073709551615) : swapK k m x ≤ 18446744073709551615 := by
  unfold swapK
  have h1 : x / 2 ^ k &&& m < 2 ^ 64 := Nat.lt_of_le_of_lt Nat.and_le_right (by omega)
  have h2 : (x &&& m) * 2 ^ k % 18446744073709551616 < 2 ^ 64 := Nat.mod_lt _ (by omega)
  have := Nat.or_lt_two_pow h1 h2
  omega
theorem last_bit (e i : Nat) (he : e ≤ 18446744073709551615) (hi : i < 64) : ((e / 2 ^ 32) ||| (e * 2 ^ 32 % 18446744073709551616)).testBit i = if i < 32 then e.testBit (i + 32) else e.testBit (i - 32) := by
  rw [Nat.testBit_or, mod64_testBit, Nat.testBit_mul_two_pow, Nat.testBit_div_two_pow]
  by_cases h : i < 32
  · simp [h, show ¬ 32 ≤ i by omega, Nat.add_comm]
  · have : e.testBit (i + 32) = false := Nat.testBit_lt_two_pow (Nat.lt_of_lt_of_le (show e < 2 ^ 64 by omega) (Nat.pow_le_pow_right (by omega) (by omega)))
    simp [h, show 32 ≤ i by omega, hi, this, Nat.add_comm]
theorem rev64_bit (x i : Nat) (hi : i < 64) : (rev64 x).testBit i = x.testBit (63 - i) := by
  have m1 : ∀ j, j < 64 → Nat.testBit 6148914691236517205 j = decide (j / 1 % 2 = 0) := by decide
  have m2 : ∀ j, j < 64 → Nat.testBit 3689348814741910323 j = decide (j / 2 % 2 = 0) := by decide
  have m4 : ∀ j, j < 64 → Nat.testBit 1085102592571150095 j = decide (j / 4 % 2 = 0) := by decide
  have m8 : ∀ j, j < 64 → Nat.testBit 71777214294589695 j = decide (j / 8 % 2 = 0) := by decide
  have m16 : ∀ j, j < 64 → Nat.testBit 281470681808895 j = decide (j / 16 % 2 = 0) := by decide
  have s1 : ∀ x i, i < 64 → (swapK 1 6148914691236517205 x).testBit i = if i / 1 % 2 = 0 then x.testBit (i + 1) else x.testBit (i - 1) := fun x i hi => swapK_bit 1 _ x i hi m1 (by omega) (by omega) (by omega)
  have s2 : ∀ x i, i < 64 → (swapK 2 3689348814741910323 x).testBit i = if i / 2 % 2 = 0 then x.testBit (i + 2) else x.testBit (i - 2) := fun x i hi => swapK_bit 2 _ x i hi m2 (by omega) (by omega) (by omega)
  have s4 : ∀ x i, i < 64 → (swapK 4 1085102592571150095 x).testBit i = if i / 4 % 2 = 0 then x.testBit (i + 4) else x.testBit (i - 4) := fun x i hi => swapK_bit 4 _ x i hi m4 (by omega) (by omega) (by omega)
  have s8 : ∀ x i, i < 64 → (swapK 8 71777214294589695 x).testBit i = if i / 8 % 2 = 0 then x.testBit (i + 8) else x.testBit (i - 8) := fun x i hi => swapK_bit 8 _ x i hi m8 (by omega) (by omega) (by omega)
  have s16 : ∀ x i, i < 64 → (swapK 16 281470681808895 x).testBit i = if i / 16 % 2 = 0 then x.testBit (i + 16) else x.testBit (i - 16) := fun x i hi => swapK_bit 16 _ x i hi m16 (by omega) (by omega) (by omega)
  unfold rev64
  simp only []
  rw [last_bit _ _ (swap_lt _ _ _ (by omega)) hi]
  have go : ∀ (f : Nat → Nat) (j : Nat), j = f i → True := fun _ _ _ => trivial
  have flip : ∀ (k j : Nat), (if j / k % 2 = 0 then j + k else j - k) = (if j / k % 2 = 0 then j + k else j - k) := fun _ _ => rfl
  have t1 : ∀ x j, j < 64 → (swapK 1 6148914691236517205 x).testBit j = x.testBit (if j / 1 % 2 = 0 then j + 1 else j - 1) := fun x j hj => by rw [s1 x j hj]; split <;> rfl
  have t2 : ∀ x j, j < 64 → (swapK 2 3689348814741910323 x).testBit j = x.testBit (if j / 2 % 2 = 0 then j + 2 else j - 2) := fun x j hj => by rw [s2 x j hj]; split <;> rfl
  have t4 : ∀ x j, j < 64 → (swapK 4 1085102592571150095 x).testBit j = x.testBit (if j / 4 % 2 = 0 then j + 4 else j - 4) := fun x j hj => by rw [s4 x j hj]; split <;> rfl
  have t8 : ∀ x j, j < 64 → (swapK 8 71777214294589695 x).testBit j = x.testBit (if j / 8 % 2 = 0 then j + 8 else j - 8) := fun x j hj => by rw [s8 x j hj]; split <;> rfl
  have t16 : ∀ x j, j < 64 → (swapK 16 281470681808895 x).testBit j = x.testBit (if j / 16 % 2 = 0 then j + 16 else j - 16) := fun x j hj => by rw [s16 x j hj]; split <;> rfl
  have e32 : ∀ y : Nat, (if i < 32 then Nat.testBit y (i + 32) else Nat.testBit y (i - 32)) = Nat.testBit y (if i < 32 then i + 32 else i - 32) := fun y => by split <;> rfl
  rw [e32]
  generalize hj5 : (if i < 32 then i + 32 else i - 32) = j5
  have h5 : j5 < 64 := by rw [← hj5]; split <;> omega
  rw [t16 _ _ h5]
  generalize hj4 : (if j5 / 16 % 2 = 0 then j5 + 16 else j5 - 16) = j4
  have h4 : j4 < 64 := by rw [← hj4]; split <;> omega
  rw [t8 _ _ h4]
  generalize hj3 : (if j4 / 8 % 2 = 0 then j4 + 8 else j4 - 8) = j3
  have h3 : j3 < 64 := by rw [← hj3]; split <;> omega
  rw [t4 _ _ h3]
  generalize hj2 : (if j3 / 4 % 2 = 0 then j3 + 4 else j3 - 4) = j2
  have h2 : j2 < 64 := by rw [← hj2]; split <;> omega
  rw [t2 _ _ h2]
  generalize hj1 : (if j2 / 2 % 2 = 0 then j2 + 2 else j2 - 2) = j1
  have h1 : j1 < 64 := by rw [← hj1]; split <;> omega
  rw [t1 _ _ h1]
  congr 1
  clear m1 m2 m4 m8 m16 s1 s2 s4 s8 s16 t1 t2 t4 t8 t16 e32 go flip
  have all : ∀ i, i < 64 → ((fun j1 => if j1 / 1 % 2 = 0 then j1 + 1 else j1 - 1) ((fun j2 => if j2 / 2 % 2 = 0 then j2 + 2 else j2 - 2) ((fun j3 => if j3 / 4 % 2 = 0 then j3 + 4 else j3 - 4) ((fun j4 => if j4 / 8 % 2 = 0 then j4 + 8 else j4 - 8) ((fun j5 => if j5 / 16 % 2 = 0 then j5 + 16 else j5 - 16) (if i < 32 then i + 32 else i - 32)))))) = 63 - i := by decide
  have := all i hi
  simp only [] at this
  rw [hj5, hj4, hj3, hj2, hj1] at this
  exact this
theorem rev64_le (x : Nat) : rev64 x ≤ 18446744073709551615 := by
  unfold rev64
  simp only []
  have h1 := swap_lt 16 281470681808895 (swapK 8 71777214294589695 (swapK 4 1085102592571150095 (swapK 2 3689348814741910323 (swapK 1 6148914691236517205 x)))) (by omega)
  generalize swapK 16 281470681808895 _ = e at *
  have h2 : e / 2 ^ 32 < 2 ^ 64 := Nat.lt_of_le_of_lt (Nat.div_le_self _ _) (by omega)
  have h3 : e * 2 ^ 32 % 18446744073709551616 < 2 ^ 64 := Nat.mod_lt _ (by omega)
  have := Nat.or_lt_two_pow h2 h3
  omega
/-- The n lowest bits turned round. -/
def turn (v n : Nat) : Nat := rev64 v / 2 ^ (64 - n) &&& (2 ^ n - 1)
theorem turn_lt (v n : Nat) : turn v n < 2 ^ n := by
  unfold turn
  have := Nat.two_pow_pos n
  exact Nat.lt_of_le_of_lt Nat.and_le_right (by omega)
theorem turn_bits (v n : Nat) (hn : n ≤ 64) : bitsL (turn v n) n = (bitsL v n).reverse := by
  apply List.ext_getElem?
  intro i
  by_cases hi : i < n
  · rw [bitsL_get _ _ _ hi, List.getElem?_reverse (by rw [bitsL_len]; exact hi), bitsL_len, bitsL_get _ _ _ (by omega)]
    congr 1
    rw [testBit_eq, testBit_eq]
    unfold turn
    rw [Nat.testBit_and, Nat.testBit_div_two_pow, Nat.testBit_two_pow_sub_one, rev64_bit _ _ (by omega)]
    simp only [hi, decide_true, Bool.and_true]
    congr 1
    omega
  · rw [List.getElem?_eq_none (by rw [bitsL_len]; omega), List.getElem?_eq_none (by rw [List.length_reverse, bitsL_len]; omega)]
end Go.Proofs.Ytfjhmbgckmhdaaa
