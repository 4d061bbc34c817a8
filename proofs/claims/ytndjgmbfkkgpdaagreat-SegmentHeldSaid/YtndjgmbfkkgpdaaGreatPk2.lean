/-
  Lemmas on the way, joined: CrcW, OctP, InfP, InfW, InfT, InfS, InfM, OctW, DefQ, CanL, DefW, InfD, InfK, InfN, InfB, InfJ, InfI, InfG, InfQ, InfX, InfZ, InfE, InfLT, DefV, DefU, DefR.
-/
import Derived.Test.YtndjgmbfkkgpdaaGreatPk1
set_option maxRecDepth 100000
set_option linter.unusedVariables false
set_option linter.unusedSimpArgs false
namespace Go.Proofs.YtndjgmbfkkgpdaaGreat
section
open Go.RowKit
theorem wM : ∀ n w, stepN (n + 1) w = fB (stepN n w)
 | 0, _ => rfl
 | n + 1, w => by
  rw [show stepN (n + 1 + 1) w = stepN (n + 1) (fB w) from rfl, wM n (fB w)]
  rfl
theorem qMc (w : Nat) (l : List Nat) (b : Nat) : goM w (l ++ [b]) = stepN 8 (goM w l ^^^ b) := by unfold goM; rw [zfw]; rfl
theorem qXm {L : List Nat} {i : Nat} (h : i < L.length) : L.take (i + 1) = L.take i ++ [L.getD i 0] := by
 rw [zaj, za h, zc, za h]
 rfl
theorem fE {l : List Nat} (hB : ∀ b ∈ l, b < 256) (i : Nat) : l.getD i 0 < 256 := by
 rw [zc]
 cases h : l[i]? with
 | none => simp
 | some x => exact hB x (zcw h)
def WB (l : List Nat) : List Value := l.map fun n => .int .u32 ((n : Nat) : Int)
theorem qR9 (a : List Nat) (i : Nat) (h : i < a.length) : (WB a)[i]? = some (.int .u32 ((a.getD i 0 : Nat) : Int)) := by
 simp [WB, zc, za h]
theorem qYo (l : List Nat) : ∀ u ∈ WB l, u.oneCell' = true := by
 intro u hu
 obtain ⟨x, _, rfl⟩ := List.mem_map.1 hu
 rfl
theorem qSa (a : List Nat) (i x : Nat) : (WB a).toArray.setIfInBounds i (.int .u32 ((x : Nat) : Int)) = (WB (a.set i x)).toArray := by simp [WB, List.map_set]
def kJ (n : Nat) : List Nat := (List.range 256).map fun i => if i < n then stepN 8 i else 0
theorem kK (n : Nat) : (kJ n).length = 256 := by simp [kJ]
theorem qMd (n : Nat) : (kJ n).set n (stepN 8 n) = kJ (n + 1) := by
 apply zap
 intro i
 unfold kJ
 simp only [zek, zu, zfx, zbk]
 by_cases h1 : n = i
 ·
  subst h1
  by_cases h2 : n < 256
  · simp [h2]
  simp [h2]
 by_cases h2 : i < 256
 ·
  simp only [h1, if_false, zfj h2, zgp]
  by_cases h3 : i < n
  · rw [if_pos h3, if_pos jo]
  rw [if_neg h3, if_neg jo]
 simp [h1, zr, h2]
theorem qMe {i : Nat} (h : i < 256) : (kJ 256).getD i 0 = stepN 8 i := by
 unfold kJ
 rw [zc, zbk, zfj h]
 simp [h]
theorem lW {w : World} {A : Option Addr} {n : Nat} {bs : List Nat} (hr : Rd w 1 A n (NB bs)) (hn : bs.length = n) {i : Nat} (hi : i < n) : ∃ ad, A = some ad ∧ w.cell? (ad.add i) = some (.int .u8 ((bs.getD i 0 : Nat) : Int)) := by
 obtain ⟨ad, h1, _, hc⟩ := hr.2 jo
 exact ⟨ad, h1, hc i _ (oD bs i jo)⟩
theorem qVo (w0 : Nat) (w : World) (h : w0 < 4294967296) : Calls Tryz.prog 88 #[.int .u32 ((w0 : Nat) : Int)] w fun e w' => e = .returned (.int .u32 ((stepN 8 w0 : Nat) : Int)) ∧ w = w' := by
 refine VC.calls (nt := 16) (res := #[.tmp 2]) Tryz.func88 rfl Tryz.ntmps88 Tryz.results88 rfl ?_
 refine jS (jR ?_)
 refine jy .u32 0 ?_
 refine jO (jN (jv1 0 ?_))
 refine jS (jS (jR ?_))
 refine jx .i64 0 ?_
 refine jO (jN (jB ?_))
 refine VC.loop (σ := Nat) (fun s => [(0, .int .u32 ((stepN s w0 : Nat) : Int)), (4, .int .i64 ((s : Nat) : Int))]) (fun s wr => s ≤ 8 ∧ w = wr) (fun s => 8 - s) 0 (js2 rfl rfl) ⟨jo, rfl⟩ ?_
 rintro i wr ⟨hi, rfl⟩
 have hlt := gH i h
 have hnx := wM i w0
 generalize hv : stepN i w0 = v at hlt hnx ⊢
 unfold fB at hnx
 refine jS (jR (jb rfl rfl (Bin.lssN _ 8) (jO (jN (jS ?_)))))
 refine jD rfl (fun hc1 => ?_) fun hc1 => ?_
 ·
  refine jQ (jN (jv2 0 4 ?_))
  refine jS (jB (jS (jR (jm rfl (jb rfl rfl (Bin.and_u32 _ 1 jo jo) ?_)))))
  rw [Nat.and_one_is_mod]
  refine ja rfl (jO (jN (jv3 0 3 4 ?_)))
  refine jS (jR (jm rfl (jb rfl rfl (Bin.shr_u32 _ 1 jo) ?_)))
  rw [Nat.pow_one]
  refine ja rfl (jO (jN (jv3 0 3 4 ?_)))
  refine jS (jR (jm rfl (jb rfl rfl (Bin.eqlN _ 1) (jO (jN (jv3 0 4 11 ?_))))))
  refine jD rfl (fun hc2 => ?_) fun hc2 => ?_
  ·
   refine jR (jm rfl (jb rfl rfl (Bin.xor_u32 _ 3988292384 jo jo) (ja rfl (jO ?_))))
   refine qK (jN ?_)
   refine jv2 0 4 ?_
   refine jR (jb rfl rfl (Bin.add_i64 _ 1 jo) (jm rfl (jO ?_)))
   refine jN ⟨i + 1, (js2 (by rw [hnx, if_pos hc2]; rfl) rfl), ?_, ?_⟩
   · exact ⟨jo, rfl⟩
   first | omega | (dsimp only; omega)
  refine jQ ?_
  refine qK (jN ?_)
  refine jv2 0 4 ?_
  refine jR (jb rfl rfl (Bin.add_i64 _ 1 jo) (jm rfl (jO ?_)))
  refine jN ⟨i + 1, (js2 (by rw [hnx, if_neg hc2]; rfl) rfl), ?_, ?_⟩
  · exact ⟨jo, rfl⟩
  first | omega | (dsimp only; omega)
 refine jX ?_
 refine qZ (qZ (qP ?_))
 refine jN (jv1 0 ?_)
 refine jS (jR (jm rfl (ja rfl (jO (jN (jv1 2 ?_))))))
 refine jT ?_
 refine qC rfl ?_
 obtain rfl : i = 8 := jo
 exact ⟨by rw [hv], rfl⟩
theorem qXn (w : World) : (zeroValue 86).run Tryz.prog w = .ok (.agg (WB (kJ 0)).toArray) w := by
 simp only [zeroValue, Sem.run_bind, Tryz.typeInfo86, Result.andThen_ok]; rfl
theorem qJa (w : World) : Calls Tryz.prog 49 #[] w fun e w' => e = .returned (.agg (WB (kJ 256)).toArray) ∧ Frm [] w w' := by
 refine VC.calls (nt := 13) (res := #[.cell 0 86]) Tryz.func49 rfl Tryz.ntmps49 Tryz.results49 rfl ?_
 refine jS (jR ?_)
 refine Ops.m (qJ.alloc qXn) rfl ?_
 rintro _ w1 ⟨rfl, hF1⟩
 have hb0 : Blk w1 w.heap.size 86 (WB (kJ 0)).toArray := hF1.blk
 have hgs := hF1.size
 refine jO (jN (jS (jR ?_)))
 refine Ops.m (qJ.alloc qXn) rfl ?_
 rintro _ w2 ⟨rfl, hF2⟩
 have hb0 := hb0.frm hF2.frm jp
 have hb1 : Blk w2 w1.heap.size 86 (WB (kJ 0)).toArray := hF2.blk
 have K := hF1.frm.trans hF2.frm jp
 have hgl : w.heap.size < w1.heap.size := jo
 obtain ⟨g0, hg0⟩ : ∃ g, g = w.heap.size := ⟨_, rfl⟩
 obtain ⟨g1, hg1⟩ : ∃ g, g = w1.heap.size := ⟨_, rfl⟩
 rw [← hg0] at hb0 hgl
 rw [← hg1] at hb1 hgl
 have hk0 : w.heap.size ≤ g0 := jo
 have hk1 : w.heap.size ≤ g1 := jo
 refine jO (jN (jS (jS (jR ?_))))
 refine jx .i64 0 ?_
 refine jO (jN (jB ?_))
 refine VC.loop (σ := Nat) (fun s => [(0, .pointer (some ⟨g0, 0, none⟩)), (1, .pointer (some ⟨g1, 0, none⟩)), (3, .int .i64 ((s : Nat) : Int))]) (fun s wr => s ≤ 256 ∧ Blk wr g0 86 (WB (kJ 0)).toArray ∧ Blk wr g1 86 (WB (kJ s)).toArray ∧ Frm [] w wr) (fun s => 256 - s) 0 (js3 (by rw [hg0]; rfl) (by rw [hg1]; rfl) rfl) ⟨jo, hb0, hb1, K⟩ ?_
 rintro i wr ⟨hi, hb0, hb1, K⟩
 refine jS (jR (jb rfl rfl (Bin.lssN _ 256) (jO (jN (jS ?_)))))
 refine jD rfl (fun hc1 => ?_) fun hc1 => ?_
 ·
  refine jQ (jN (jv3 0 1 3 ?_))
  refine jS (jB (jS (jR (jm rfl (ja rfl (jO (jN (jv4 0 1 2 3 ?_))))))))
  refine jR (jm rfl (jm rfl (je (Run.convN _ rfl zx zfb (by simp only [bmax]; omega)) ?_)))
  refine Ops.cl (jE1 Tryz.call88) (qVo i _ jo) rfl ?_
  rintro e _ ⟨rfl, rfl⟩
  refine ⟨_, rfl, ?_⟩
  refine je (Run.indexA1 _ rfl rfl Tryz.underlying86 Tryz.sizeOf47 jo) ?_
  refine Ops.st (qR.store rfl rfl Tryz.sizeOf47 hb1 (by rw [zed]; simp only [zck, WB, zu, kK]; omega) rfl) ?_
  rintro w3 ⟨hb1, hf3, hs3⟩
  rw [zan, qSa, qMd] at hb1
  refine jO ?_
  refine qK (jN ?_)
  refine jv3 0 1 3 ?_
  refine jR (jb rfl rfl (Bin.add_i64 _ 1 jo) (jm rfl (jO ?_)))
  refine jN ⟨i + 1, (js3 rfl rfl rfl), ?_, ?_⟩
  · exact ⟨jo, hb0.frm hf3 (by simp; omega), hb1, K.own hf3 (by simp; omega)⟩
  first | omega | (dsimp only; omega)
 refine jX ?_
 refine qZ (qZ (qP ?_))
 refine jN (jv2 0 1 ?_)
 refine jS (jR (je (Run.loadB rfl Tryz.isAgg86 Tryz.sizeOf86 hb1 (by simp only [zck, WB, zu, kK])) ?_))
 refine Ops.st (qR.storeA rfl rfl (fun w => by simp only [zck, WB, zu, kK]; exact Tryz.sizeOf86 w) hb0 (by simp only [zck, WB, zu, kK]) (by simpa using qYo _)) ?_
 rintro w4 ⟨hb0, hf4, hs4⟩
 have ei : i = 256 := jo
 subst ei
 refine jO (jN (jv1 0 ?_))
 refine jT ?_
 refine lJ ?_
 refine eF rfl Tryz.isAgg86 Tryz.sizeOf86 (hb0) rfl ?_
 refine eM ?_
 exact ⟨rfl, K.own hf4 (by simp; omega)⟩
theorem qVp (A : Option Addr) (c n : Nat) (bs : List Nat) (w : World) (hn : bs.length = n) (hl : n ≤ 1000000000) (hB : ∀ b ∈ bs, b < 256) (hr : Rd w 1 A n (NB bs)) :
  Calls Tryz.prog 30 #[.int .u32 ((0 : Nat) : Int), .slice A n c] w fun e w' => e = .returned (.int .u32 ((crcM bs : Nat) : Int)) ∧ Frm [] w w' := by
 refine VC.calls (nt := 30) (res := #[.tmp 4]) Tryz.func30 rfl Tryz.ntmps30 Tryz.results30 rfl ?_
 refine jS (jR ?_)
 refine jy .u32 0 ?_
 refine jO (jN (jv2 0 1 ?_))
 refine jS (jR ?_)
 refine Ops.cl (jE0 Tryz.call49) (qJa w) rfl ?_
 rintro e w1 ⟨rfl, K⟩
 refine ⟨_, rfl, ?_⟩
 refine Ops.m (qJ.alloc qXn) rfl ?_
 rintro _ w2 ⟨rfl, hF2⟩
 have hb2 := hF2.blk
 have hg5 := K.size
 have K := K.trans hF2.frm jp
 generalize w1.heap.size = g5 at hb2 hg5 ⊢
 refine Ops.st (qR.storeA rfl rfl (fun w => by simp only [zck, WB, zu, kK]; exact Tryz.sizeOf86 w) hb2 (by show (WB (kJ 256)).toArray.size = (WB (kJ 0)).toArray.size; simp only [zck, WB, zu, kK]) (by simpa using qYo _)) ?_
 rintro w3 ⟨hb3, hf3, hs3⟩
 have K := K.own hf3 (by simp; omega)
 refine jO (jN (jv3 0 1 5 ?_))
 refine jS (jR (jm rfl (je (Run.compl32 _ rfl jo) ?_)))
 rw [zcn]
 refine ja rfl (jO (jN (jv3 1 5 6 ?_)))
 refine jS (jS (jR (jm rfl (je (Run.lenS rfl ze) ?_))))
 refine jx .i64 0 ?_
 refine jO (jN (jv5 5 6 12 13 14 ?_))
 refine jB ?_
 refine VC.loop (σ := Nat) (fun s => [(5, .pointer (some ⟨g5, 0, none⟩)), (6, .int .u32 ((goM 4294967295 (bs.take s) : Nat) : Int)), (12, .slice A n c), (13, .int .i64 ((n : Nat) : Int)), (14, .int .i64 ((s : Nat) : Int))]) (fun s wr => s ≤ n ∧ w3 = wr) (fun s => n - s) 0 (js5 rfl rfl rfl rfl rfl) ⟨jo, rfl⟩ ?_
 rintro i _ ⟨hi, rfl⟩
 have hgl := vO (bs.take i) (w := 4294967295) jo (fun b hb => hB b (zag hb))
 refine jS (jR (jb rfl rfl (Bin.lssN _ _) (jO (jN (jS ?_)))))
 refine jD rfl (fun hc1 => ?_) fun hc1 => ?_
 ·
  obtain ⟨ad, rfl, hcell⟩ := lW (hr.frm K jp) hn hc1
  have hs := qXm (jo : i < bs.length)
  have hsn := qMc 4294967295 (bs.take i) (bs.getD i 0)
  rw [← hs] at hsn
  have hb8 := fE hB i
  generalize bs.getD i 0 = b at hcell hsn hb8
  generalize goM 4294967295 (bs.take i) = v at hgl hsn ⊢
  have hbt := qHu v b
  have hx8 : v % 256 ^^^ b < 256 := zgt (n := 8) jo hb8
  have hx32 := gH 8 (jo : v % 256 ^^^ b < 4294967296)
  refine jQ (jN (jv5 5 6 12 13 14 ?_))
  refine jS (jB (jS (jR (je (Run.index1 _ rfl rfl ze zad jo) (jl rfl zdn hcell (ja rfl (jO (jN (jv6 5 6 8 12 13 14 ?_)))))))))
  refine jR (jm rfl (je (Run.conv8 _ rfl zfb zbh) (jm rfl (jb rfl rfl (Bin.xor_u8 _ _ jo jo) (je (Run.indexA1 _ rfl rfl Tryz.underlying86 Tryz.sizeOf47 jo) ?_)))))
  refine jl rfl Tryz.isAgg47 ((hb3.cell _).trans (by rw [zan, zco, qR9 _ _ (by rw [kK]; exact hx8), qMe hx8])) ?_
  refine jm rfl (jb rfl rfl (Bin.shr_u32 _ 8 jo) (jb rfl rfl (Bin.xor_u32 _ _ jo jo) ?_))
  rw [show (2 : Nat) ^ 8 = 256 from rfl, hbt, ← hsn]
  refine ja rfl (jO ?_)
  refine qK (jN ?_)
  refine jv5 5 6 12 13 14 ?_
  refine jR (jb rfl rfl (Bin.add_i64 _ 1 jo) (jm rfl (jO ?_)))
  refine jN ⟨i + 1, (js5 rfl rfl rfl rfl rfl), ?_, ?_⟩
  · exact ⟨jo, rfl⟩
  first | omega | (dsimp only; omega)
 refine jX ?_
 refine qZ (qZ (qP ?_))
 refine jN (jv1 6 ?_)
 refine jS (jR (jm rfl (je (Run.compl32 _ rfl jo) (ja rfl (jO (jN (jv1 4 ?_)))))))
 refine jT ?_
 refine qC rfl ?_
 obtain rfl : i = n := jo
 rw [zn jo]
 exact ⟨rfl, K⟩
theorem sH (A : Option Addr) (c n : Nat) (bs : List Nat) (w : World) (hn : bs.length = n) (hl : n ≤ 1000000000) (hB : ∀ b ∈ bs, b < 256) (hr : Rd w 1 A n (NB bs)) :
  Calls Tryz.prog 16 #[.slice A n c] w fun e w' => e = .returned (.int .u32 ((crcM bs : Nat) : Int)) ∧ Frm [] w w' := by
 refine VC.calls (nt := 5) (res := #[.tmp 2]) Tryz.func16 rfl Tryz.ntmps16 Tryz.results16 rfl ?_
 refine jS (jR ?_)
 refine jy .u32 0 ?_
 refine jO (jN (jv1 0 ?_))
 refine jS (jR (jM ?_))
 refine Ops.cl (jE2 Tryz.call30) (qVp A c n bs w hn hl hB hr) rfl ?_
 rintro e w1 ⟨rfl, K⟩
 refine ⟨_, rfl, ?_⟩
 refine ja rfl (jO (jN (jv1 2 ?_)))
 refine jT ?_
 refine qC rfl ?_
 exact ⟨rfl, K⟩
end
section
def qI : Nat → Nat → List Nat
 | _, 0 => []
 | v, n + 1 => v % 256 :: qI (v / 256) n
def dI : List Nat → Nat
 | [] => 0
 | b :: r => b + 256 * dI r
theorem bN : ∀ v n, (qI v n).length = n
 | _, 0 => rfl
 | v, n + 1 => by rw [qI, zq, bN]
theorem gA : ∀ v n, ∀ b ∈ qI v n, b < 256
 | _, 0, b, h => by cases h
 | v, n + 1, b, h => by
  rcases zcq.1 h with rfl | h
  · omega
  exact gA _ n b h
theorem vQ : ∀ n v, v < 256 ^ n → dI (qI v n) = v
 | 0, v, h => by rw [Nat.pow_zero] at h; simp [qI, dI]; omega
 | n + 1, v, h => by
  rw [qI, dI, vQ n (v / 256) (by rw [zbt] at h; exact Nat.div_lt_of_lt_mul (by rw [zcf]; exact h))]
  omega
theorem qJ9 : ∀ l : List Nat, (∀ b ∈ l, b < 256) → dI l < 256 ^ l.length
 | [], _ => by simp [dI]
 | b :: r, h => by
  have h1 := qJ9 r (fun x hx => h x (zbi _ hx))
  have h2 := h b zbf
  rw [dI, zq, zbt]
  omega
theorem vX : ∀ l : List Nat, (∀ b ∈ l, b < 256) → qI (dI l) l.length = l
 | [], _ => rfl
 | b :: r, h => by
  have h2 := h b zbf
  rw [dI, zq, qI, show (b + 256 * dI r) / 256 = dI r by omega, show (b + 256 * dI r) % 256 = b by omega, vX r (fun x hx => h x (zbi _ hx))]
theorem zQ : ∀ n v, qI v (n + 1) = qI v n ++ [v / 256 ^ n % 256]
 | 0, v => by simp [qI]
 | n + 1, v => by
  have ih := zQ n (v / 256)
  rw [qI, ih, zfu, ← Nat.pow_succ']
  rfl
theorem uG : ∀ a b : List Nat, dI (a ++ b) = dI a + 256 ^ a.length * dI b
 | [], b => by simp [dI]
 | x :: a, b => by
  rw [zdf, dI, dI, uG a b, zq, zbt, Nat.mul_add, zcf (256 ^ a.length) 256, zdu, zee]
theorem qMf {a b : List Nat} (ha : ∀ x ∈ a, x < 256) (hb : ∀ x ∈ b, x < 256) (hl : a.length = b.length) (h : dI a = dI b) : a = b := by
 rw [← vX a ha, ← vX b hb, hl, h]
end
section
open Go.RowKit
def bnd {α β : Type} : Except Nat α → (α → Except Nat β) → Except Nat β
 | .error c, _ => .error c
 | .ok x, f => f x
@[simp] theorem cB {α β : Type} (c : Nat) (f : α → Except Nat β) : bnd (.error c) f = .error c := rfl
@[simp] theorem qS {α β : Type} (x : α) (f : α → Except Nat β) : bnd (.ok x) f = f x := rfl
def bZ (L : List Bool) (n p : Nat) : Except Nat (Nat × Nat) := if p + n ≤ L.length then .ok (num ((L.drop p).take n), p + n) else .error 2
def gJ (L : List Bool) (l : List Int) (p : Nat) : Except Nat (Nat × Nat) := if (tk l L (bM l) 1 0 p).2.2 = 0 then .ok ((tk l L (bM l) 1 0 p).1, (tk l L (bM l) 1 0 p).2.1) else .error (tk l L (bM l) 1 0 p).2.2
theorem bC {L : List Bool} {n p v q : Nat} (h : bZ L n p = .ok (v, q)) : q = p + n ∧ p + n ≤ L.length ∧ v < 2 ^ n ∧ v = num ((L.drop p).take n) := by
 unfold bZ at h
 split at h
 ·
  rename_i h1
  simp only [Except.ok.injEq, Prod.mk.injEq] at h
  obtain ⟨rfl, rfl⟩ := h
  have h2 := rL ((L.drop p).take n)
  rw [zi, zp, zbb jo] at h2
  exact ⟨rfl, h1, h2, rfl⟩
 cases h
theorem qSb {l : List Int} {n v i : Nat} (h : hit l n v = some i) (hn1 : 1 ≤ n) (hn15 : n ≤ 15) : i < l.length := ((qJ2 l n v i hn1 hn15).1 h).1
theorem qXo (l : List Int) (L : List Bool) : ∀ m n v p, 1 ≤ n → n + m ≤ 16 → p ≤ L.length → p ≤ (tk l L m n v p).2.1 ∧ (tk l L m n v p).2.1 ≤ L.length ∧ ((tk l L m n v p).2.2 = 0 → p < (tk l L m n v p).2.1 ∧ (tk l L m n v p).1 < l.length) ∧ ((tk l L m n v p).2.2 = 0 ∨ (tk l L m n v p).2.2 = 2 ∨ (tk l L m n v p).2.2 = 11)
 | 0, n, v, p, _, _, hp => by simp [tk, hp]
 | m + 1, n, v, p, h1, h2, hp => by
  unfold tk
  cases hb : L[p]? with
  | none => simp [hp]
  | some b =>
   have hpl : p < L.length := (List.getElem?_eq_some_iff.1 hb).1
   dsimp only
   cases hh : hit l n (2 * v + b.toNat) with
   | some i =>
    dsimp only
    exact ⟨jo, jo, fun _ => ⟨jo, qSb hh h1 jo⟩, .inl rfl⟩
   | none =>
    dsimp only
    obtain ⟨h3, h4, h5, h6⟩ := qXo l L m (n + 1) (2 * v + b.toNat) (p + 1) jo jo jo
    exact ⟨jo, h4, fun h => ⟨by have := (h5 h).1; omega, (h5 h).2⟩, h6⟩
theorem mL {L : List Bool} {l : List Int} {p s q : Nat} (hm : bM l ≤ 15) (hp : p ≤ L.length) (h : gJ L l p = .ok (s, q)) : p < q ∧ q ≤ L.length ∧ s < l.length := by
 unfold gJ at h
 obtain ⟨h3, h4, h5, h6⟩ := qXo l L (bM l) 1 0 p jo jo hp
 split at h
 ·
  rename_i h0
  simp only [Except.ok.injEq, Prod.mk.injEq] at h
  obtain ⟨rfl, rfl⟩ := h
  exact ⟨(h5 h0).1, h4, (h5 h0).2⟩
 cases h
def longT : List (Nat × Nat) := [(3, 0), (4, 0), (5, 0), (6, 0), (7, 0), (8, 0), (9, 0), (10, 0), (11, 1), (13, 1), (15, 1), (17, 1), (19, 2), (23, 2), (27, 2), (31, 2), (35, 3), (43, 3), (51, 3), (59, 3), (67, 4), (83, 4), (99, 4), (115, 4), (131, 5), (163, 5), (195, 5), (227, 5), (258, 0)]
def wayT : List (Nat × Nat) := [(1, 0), (2, 0), (3, 0), (4, 0), (5, 1), (7, 1), (9, 2), (13, 2), (17, 3), (25, 3), (33, 4), (49, 4), (65, 5), (97, 5), (129, 6), (193, 6), (257, 7), (385, 7), (513, 8), (769, 8), (1025, 9), (1537, 9), (2049, 10), (3073, 10), (4097, 11), (6145, 11), (8193, 12), (12289, 12), (16385, 13), (24577, 13)]
def bQ : List Nat := [16, 17, 18, 0, 8, 7, 9, 6, 10, 5, 11, 4, 12, 3, 13, 2, 14, 1, 15]
def cK : List Int := List.replicate 144 8 ++ List.replicate 112 9 ++ List.replicate 24 7 ++ List.replicate 8 8
def cH : List Int := List.replicate 32 5
def kR (bs : List Nat) (most p : Nat) (out : List Nat) : Except Nat (Nat × List Nat) :=
 bnd (bZ (ofB bs) 16 ((p + 7) / 8 * 8)) fun x => bnd (bZ (ofB bs) 16 x.2) fun y =>
  if x.1 ^^^ y.1 ≠ 65535 then .error 3 else if (8 * bs.length - y.2) / 8 < x.1 then .error 2 else if most < out.length + x.1 then .error 13
  else .ok (y.2 + 8 * x.1, out ++ (bs.drop (y.2 / 8)).take x.1)
def cF : Nat → Nat → List Nat → List Nat
 | 0, _, out => out
 | n + 1, d, out => cF n d (out ++ [out.getD (out.length - d) 0])
def eL (L : List Bool) (a b : List Int) (most p : Nat) (out : List Nat) : Except Nat (Bool × Nat × List Nat) :=
 bnd (gJ L a p) fun x =>
  if x.1 < 256 then (if out.length < most then .ok (true, x.2, out ++ [x.1]) else .error 13)
  else if x.1 = 256 then .ok (false, x.2, out)
  else if 285 < x.1 then .error 11
  else bnd (bZ L (longT.getD (x.1 - 257) (0, 0)).2 x.2) fun v => bnd (gJ L b v.2) fun y =>
   if 30 ≤ y.1 then .error 11
   else bnd (bZ L (wayT.getD y.1 (0, 0)).2 y.2) fun u =>
    if out.length < (wayT.getD y.1 (0, 0)).1 + u.1 then .error 12
    else if most < out.length + ((longT.getD (x.1 - 257) (0, 0)).1 + v.1) then .error 13
    else .ok (true, u.2, cF ((longT.getD (x.1 - 257) (0, 0)).1 + v.1) ((wayT.getD y.1 (0, 0)).1 + u.1) out)
def dQ (L : List Bool) (a b : List Int) (most : Nat) : Nat → Nat → List Nat → Except Nat (Nat × List Nat)
 | 0, _, _ => .error 99
 | f + 1, p, out => bnd (eL L a b most p out) fun x => if x.1 then dQ L a b most f x.2.1 x.2.2 else .ok x.2
def lC (L : List Bool) (l : List Int) (p : Nat) (all : List Int) (most : Nat) : Except Nat (Nat × List Int) :=
 bnd (gJ L l p) fun x =>
  bnd (if x.1 = 16 then (if all.length = 0 then .error 11 else bnd (bZ L 2 x.2) fun v => .ok (v.2, all.getD (all.length - 1) 0, 3 + v.1))
   else if x.1 = 17 then bnd (bZ L 3 x.2) fun v => .ok (v.2, 0, 3 + v.1)
   else if x.1 = 18 then bnd (bZ L 7 x.2) fun v => .ok (v.2, 0, 11 + v.1)
   else .ok (x.2, (x.1 : Int), 1)) fun (y : Nat × Int × Nat) =>
  if most < all.length + y.2.2 then .error 11 else .ok (y.1, all ++ List.replicate y.2.2 y.2.1)
def kC (L : List Bool) (l : List Int) (most : Nat) : Nat → Nat → List Int → Except Nat (Nat × List Int)
 | 0, _, _ => .error 99
 | f + 1, p, all => if all.length < most then bnd (lC L l p all most) fun x => kC L l most f x.1 x.2 else .ok (p, all)
def gP (L : List Bool) : List Nat → Nat → List Int → Except Nat (Nat × List Int)
 | [], p, l => .ok (p, l)
 | s :: r, p, l => bnd (bZ L 3 p) fun v => gP L r v.2 (l.set s (v.1 : Int))
def xU (many : Nat) (u : Nat × List Int) : Except Nat (Nat × List Int × List Int) :=
 if ¬ 0 < u.2.getD 256 0 then .error 11
 else if newE (u.2.take many) ≠ 0 then .error 11
 else if newE (u.2.drop many) ≠ 0 then .error 11
 else .ok (u.1, u.2.take many, u.2.drop many)
def xB (L : List Bool) (many far : Nat) (t : Nat × List Int) : Except Nat (Nat × List Int × List Int) :=
 if newE t.2 ≠ 0 then .error 11 else bnd (kC L t.2 (many + far) (L.length + 1) t.1 []) (xU many)
def oM (L : List Bool) (p : Nat) : Except Nat (Nat × List Int × List Int) :=
 bnd (bZ L 5 p) fun x => bnd (bZ L 5 x.2) fun y => bnd (bZ L 4 y.2) fun z =>
  if ¬ (257 + x.1 ≤ 286 ∧ 1 + y.1 ≤ 30) then .error 3
  else bnd (gP L (bQ.take (4 + z.1)) z.2 (List.replicate 19 0)) (xB L (257 + x.1) (1 + y.1))
theorem qXp {L : List Bool} {l : List Int} {p q : Nat} {all all' : List Int} {most : Nat} (hm : bM l ≤ 15) (hp : p ≤ L.length) (h : lC L l p all most = .ok (q, all')) : p < q ∧ q ≤ L.length ∧ all'.length ≤ most ∧ all.length ≤ all'.length := by
 unfold lC at h
 rcases hS : gJ L l p with k | ⟨s, p1⟩
 · rw [hS] at h; cases h
 rw [hS, qS] at h
 obtain ⟨h1, h2, _⟩ := mL hm hp hS
 dsimp only at h
 have key : ∀ (E : Except Nat (Nat × Int × Nat)), bnd E (fun (y : Nat × Int × Nat) => if most < all.length + y.2.2 then .error 11 else .ok (y.1, all ++ List.replicate y.2.2 y.2.1)) = .ok (q, all') → ∃ y, E = .ok y ∧ y.1 = q ∧ all'.length ≤ most ∧ all.length ≤ all'.length := by
  intro E hE
  cases E with
  | error k => cases hE
  | ok y =>
   rw [qS] at hE
   split at hE
   · cases hE
   simp only [Except.ok.injEq, Prod.mk.injEq] at hE
   refine ⟨y, rfl, hE.1, ?_, ?_⟩ <;> (rw [← hE.2, zb, zba]; omega)
 obtain ⟨y, hy, rfl, h5, h6⟩ := key _ h
 have tk' : ∀ n (g : Nat × Nat → Nat × Int × Nat), (∀ v, (g v).1 = v.2) → bnd (bZ L n p1) (fun v => .ok (g v)) = .ok y → p1 ≤ y.1 ∧ y.1 ≤ L.length := by
  intro n g hg hE
  rcases hT : bZ L n p1 with k | v
  · rw [hT] at hE; cases hE
  rw [hT, qS] at hE
  obtain ⟨a, b⟩ := v
  obtain ⟨h7, h8, _, _⟩ := bC hT
  simp only [Except.ok.injEq] at hE
  rw [← hE, hg]
  dsimp only
  omega
 refine ⟨?_, ?_, h5, h6⟩
 all_goals
  split at hy
  ·
   split at hy
   · cases hy
   have := tk' 2 _ (fun v => rfl) hy; omega
  split at hy
  · have := tk' 3 _ (fun v => rfl) hy; omega
  split at hy
  · have := tk' 7 _ (fun v => rfl) hy; omega
  simp only [Except.ok.injEq] at hy; rw [← hy]; dsimp only; omega
def gR (bs : List Nat) (most p : Nat) (out : List Nat) : Except Nat (Bool × Nat × List Nat) :=
 bnd (bZ (ofB bs) 1 p) fun x => bnd (bZ (ofB bs) 2 x.2) fun k =>
  if ¬ k.1 < 3 then .error 3
  else bnd (if k.1 = 0 then kR bs most k.2 out
   else if k.1 = 1 then dQ (ofB bs) cK cH most (8 * bs.length + 1) k.2 out
   else bnd (oM (ofB bs) k.2) fun c => dQ (ofB bs) c.2.1 c.2.2 most (8 * bs.length + 1) c.1 out) fun (r : Nat × List Nat) => .ok (decide (x.1 = 0), r)
def gI (bs : List Nat) (most : Nat) : Nat → Nat → List Nat → Except Nat (Nat × List Nat)
 | 0, _, _ => .error 99
 | f + 1, p, out => bnd (gR bs most p out) fun x => if x.1 then gI bs most f x.2.1 x.2.2 else .ok x.2
def gV (bs : List Nat) (most : Int) : Except Nat (List Nat × Nat) :=
 if most < 0 then .error 1 else bnd (gI bs most.toNat (8 * bs.length + 1) 0 []) fun x => .ok (x.2, (x.1 + 7) / 8)
end
section
open Go.RowKit
def Pan (c : Nat) : List PanicEntry := [{ v := .iface 25 (.int .i64 ((c : Nat) : Int)), recovered := false }]
def IsX (w : World) (gx gr : Nat) (Ar : Option Addr) (bs : List Nat) (p : Nat) (A : Option Addr) (c : Nat) (out : List Nat) (most : Nat) : Prop :=
 Blk w gx 150 #[.pointer (some ⟨gr, 0, none⟩), .slice A out.length c, .int .i64 ((most : Nat) : Int)] ∧ IsR w gr Ar bs p ∧ Own w 5 1 A out.length c (NB out) ∧ (∀ x ∈ ob A, x ∉ ob Ar) ∧ p ≤ 8 * bs.length ∧ out.length ≤ most ∧ ∀ x ∈ out, x < 256
section
variable {w w' : World} {gx gr : Nat} {Ar : Option Addr} {bs : List Nat} {p : Nat} {A : Option Addr} {c : Nat} {out : List Nat} {most : Nat} {S : List Nat}
theorem IsX.gxr (h : IsX w gx gr Ar bs p A c out most) : gx ≠ gr := h.1.ne h.2.1.choose_spec.1 jd
theorem IsX.grA (h : IsX w gx gr Ar bs p A c out most) : gr ∉ ob A := h.2.2.1.ne_blk h.2.1.choose_spec.1 jd
theorem IsX.gxA (h : IsX w gx gr Ar bs p A c out most) : gx ∉ ob A := h.2.2.1.ne_blk h.1 jd
theorem IsX.gxAr (h : IsX w gx gr Ar bs p A c out most) : gx ∉ ob Ar := h.2.1.choose_spec.2.ne_blk h.1 jd
theorem IsX.lt (h : IsX w gx gr Ar bs p A c out most) : gx < w.heap.size ∧ gr < w.heap.size ∧ (∀ x ∈ ob A, x < w.heap.size) ∧ ∀ x ∈ ob Ar, x < w.heap.size :=
 ⟨h.1.lt, h.2.1.lt gr jp, h.2.2.1.lt, fun x hx => h.2.1.lt x (by simp [hx])⟩
theorem IsX.turn {p' : Nat} (h : IsX w gx gr Ar bs p A c out most) (hR : IsR w' gr Ar bs p') (hf : Frm [gr] w w') (hp : p' ≤ 8 * bs.length) : IsX w' gx gr Ar bs p' A c out most :=
 ⟨h.1.frm hf (by simp; exact h.gxr), hR, h.2.2.1.frm hf (fun x hx h2 => h.grA (by simp at h2; subst h2; exact hx)), h.2.2.2.1, hp, h.2.2.2.2.2⟩
theorem IsX.frm (h : IsX w gx gr Ar bs p A c out most) (hf : Frm S w w') (hS : ∀ x ∈ gx :: gr :: (ob A ++ ob Ar), x ∉ S) : IsX w' gx gr Ar bs p A c out most :=
 ⟨h.1.frm hf (hS gx jp), h.2.1.frm hf (fun x hx => hS x (by rcases zcq.1 hx with rfl | hx <;> simp_all)), h.2.2.1.frm hf (fun x hx => hS x (by simp [hx])), h.2.2.2⟩
theorem IsX.frm0 (h : IsX w gx gr Ar bs p A c out most) (hf : Frm [] w w') : IsX w' gx gr Ar bs p A c out most := h.frm hf jp
end
theorem qPr {bs : List Nat} {p n v k p' : Nat} (h : qNz bs p (n : Int) v k p') (hn : n ≤ 32) (hp : p ≤ 8 * bs.length) : (k = 0 ∧ bZ (ofB bs) n p = .ok (v, p')) ∨ (k = 2 ∧ bZ (ofB bs) n p = .error 2) := by
 rcases h with ⟨h, _⟩ | ⟨m, hm, _, h⟩
 · omega
 obtain rfl : n = m := jo
 unfold bZ
 rw [cW]
 rcases h with ⟨h1, _, h2, _⟩ | ⟨h1, h2, h3, h4⟩
 · exact .inr ⟨h2, by rw [if_neg jo]⟩
 exact .inl ⟨h3, by rw [if_pos jo, h2, h4]⟩
theorem sM (k : Nat) (w : World) : Calls Tryz.prog 132 #[.int .i64 ((k : Nat) : Int)] w fun e w' => w = w' ∧ e = if k = 0 then .returned (.tuple #[]) else .panicked (Pan k) := by
 refine VC.calls (nt := 6) (res := #[]) Tryz.func132 rfl Tryz.ntmps132 Tryz.results132 rfl ?_
 refine jS (jR (jm rfl (jb rfl rfl (Bin.neqN _ 0) (jO (jN (jv2 0 3 ?_))))))
 refine jD rfl (fun hc1 => ?_) fun hc1 => ?_
 ·
  refine jR (jm rfl (je (Run.mkIface rfl Tryz.underlying25 rfl) ?_))
  refine Ops.pn rfl (bY ?_)
  exact ⟨rfl, by rw [if_neg hc1]; rfl⟩
 refine jQ ?_
 refine eV ?_
 exact ⟨rfl, by rw [if_pos (Classical.not_not.1 hc1)]⟩
theorem cC (b : Bool) (k : Nat) (w : World) : Calls Tryz.prog 114 #[.bool b, .int .i64 ((k : Nat) : Int)] w fun e w' => w = w' ∧ e = if b = true then .returned (.tuple #[]) else .panicked (Pan k) := by
 refine VC.calls (nt := 8) (res := #[]) Tryz.func114 rfl Tryz.ntmps114 Tryz.results114 rfl ?_
 refine jS (jR (jm rfl (je (Run.not rfl) (jO (jN (jv2 1 5 ?_))))))
 refine VC.condB rfl (fun hc1 => ?_) (fun hc1 => ?_)
 ·
  refine jR (jm rfl (je (Run.mkIface rfl Tryz.underlying25 rfl) ?_))
  refine Ops.pn rfl (bY ?_)
  exact ⟨rfl, by cases b <;> simp at hc1 ⊢; rfl⟩
 refine jQ ?_
 refine eV ?_
 exact ⟨rfl, by cases b <;> simp at hc1 ⊢⟩
theorem cS (gx gr n p : Nat) (Ar A : Option Addr) (bs : List Nat) (c : Nat) (out : List Nat) (most : Nat) (w : World) (hn : n ≤ 32) (hbs : bs.length ≤ 1000000) (hB : ∀ b ∈ bs, b < 256) (hX : IsX w gx gr Ar bs p A c out most) :
  Calls Tryz.prog 113 #[.pointer (some ⟨gx, 0, none⟩), .int .i64 ((n : Nat) : Int)] w fun e w' => Frm [gr] w w' ∧ match bZ (ofB bs) n p with
   | .error k => e = .panicked (Pan k)
   | .ok x => e = .returned (.int .i64 ((x.1 : Nat) : Int)) ∧ IsX w' gx gr Ar bs x.2 A c out most := by
 have hp := hX.2.2.2.2.1
 refine VC.calls (nt := 20) (res := #[.tmp 4]) Tryz.func113 rfl Tryz.ntmps113 Tryz.results113 rfl ?_
 refine jS (jR (jz 0 (jO (jN (jv2 0 1 ?_)))))
 refine jS (jR (jm rfl (je (Run.nilck rfl) (jf rfl zak rfl zgb (jl rfl Tryz.isAgg147 (hX.1.cell 0) (jM ?_))))))
 refine Ops.cl (jE2 Tryz.call131) (qXd gr p n Ar bs _ hp jo hB hX.2.1) rfl ?_
 rintro e w1 ⟨v, k, p', rfl, hT, hp', hR1, hf1⟩
 refine ⟨_, rfl, ?_⟩
 have hX1 := hX.turn hR1 hf1 hp'
 refine jm rfl (je (Run.extract rfl rfl) (je (Run.extract rfl rfl) (ja rfl (ja rfl (jO (jN (jv2 5 6 ?_)))))))
 refine jS (jR (jM ?_))
 refine Ops.clp (jE1 Tryz.call132) (sM k _) rfl ?_
 rintro e _ ⟨rfl, rfl⟩
 rcases qPr hT hn hp with ⟨rfl, hF⟩ | ⟨rfl, hF⟩
 rotate_left
 · exact .inr ⟨_, by rw [if_neg jd], qT (bY ⟨hf1, by rw [hF]⟩)⟩
 obtain ⟨_, _, hv, _⟩ := bC hF
 have hv2 : 2 ^ n ≤ 2 ^ 32 := zae jo hn
 refine .inl ⟨_, by rw [if_pos rfl], ?_⟩
 refine jO (jN (jv1 5 ?_))
 refine jS (jR (jm rfl (je (Run.convN v rfl zab zx (by simp only [bmax]; omega)) (ja rfl (jO (jN (jv1 4 ?_)))))))
 refine jT ?_
 refine qC rfl ?_
 exact ⟨hf1, by rw [hF]; exact ⟨rfl, hX1⟩⟩
theorem sN (gx gr p gd : Nat) (Ar A Bd : Option Addr) (cd : Nat) (l : List Int) (bs : List Nat) (c : Nat) (out : List Nat) (most : Nat) (w : World) (hl : l.length ≤ 320) (hm : bM l ≤ 15) (hbs : bs.length ≤ 1000000) (hB : ∀ b ∈ bs, b < 256) (hX : IsX w gx gr Ar bs p A c out most)
  (hD : IsD w gd Bd cd (cn l) (bU l) (cJ l) (bM l)) :
  Calls Tryz.prog 144 #[.pointer (some ⟨gx, 0, none⟩), .pointer (some ⟨gd, 0, none⟩)] w fun e w' => Frm [gr] w w' ∧ match gJ (ofB bs) l p with
   | .error k => e = .panicked (Pan k)
   | .ok x => e = .returned (.int .i64 ((x.1 : Nat) : Int)) ∧ IsX w' gx gr Ar bs x.2 A c out most := by
 have hp := hX.2.2.2.2.1
 refine VC.calls (nt := 19) (res := #[.tmp 4]) Tryz.func144 rfl Tryz.ntmps144 Tryz.results144 rfl ?_
 refine jS (jR (jz 0 (jO (jN (jv2 0 1 ?_)))))
 refine jS (jR (jm rfl (jm rfl (je (Run.nilck rfl) (jf rfl zak rfl zgb (jl rfl Tryz.isAgg147 (hX.1.cell 0) ?_))))))
 refine Ops.cl (jE2 Tryz.call146) (qVk gd gr Bd Ar cd l (bM l) p bs _ hl hm hp jo hB hD hX.2.1) rfl ?_
 rintro e w1 ⟨rfl, hp', hR1, hf1⟩
 refine ⟨_, rfl, ?_⟩
 have hX1 := hX.turn hR1 hf1 hp'
 have hF : gJ (ofB bs) l p = if (tk l (ofB bs) (bM l) 1 0 p).2.2 = 0 then .ok ((tk l (ofB bs) (bM l) 1 0 p).1, (tk l (ofB bs) (bM l) 1 0 p).2.1) else .error (tk l (ofB bs) (bM l) 1 0 p).2.2 := rfl
 generalize tk l (ofB bs) (bM l) 1 0 p = R at *
 obtain ⟨s, p', k⟩ := R
 dsimp only at hF hX1 ⊢
 refine jm rfl (je (Run.extract rfl rfl) (je (Run.extract rfl rfl) (ja rfl (ja rfl (jO (jN (jv2 5 6 ?_)))))))
 refine jS (jR (jM ?_))
 refine Ops.clp (jE1 Tryz.call132) (sM k _) rfl ?_
 rintro e _ ⟨rfl, rfl⟩
 by_cases hk : k = 0
 rotate_left
 · exact .inr ⟨_, by rw [if_neg hk], qT (bY ⟨hf1, by rw [hF, if_neg hk]⟩)⟩
 subst hk
 refine .inl ⟨_, by rw [if_pos rfl], ?_⟩
 refine jO (jN (jv1 5 ?_))
 refine jS (jR (jm rfl (ja rfl (jO (jN (jv1 4 ?_))))))
 refine jT ?_
 refine qC rfl ?_
 exact ⟨hf1, by rw [hF, if_pos rfl]; exact ⟨rfl, hX1⟩⟩
theorem qYp (A : Option Addr) (c0 : Nat) (l : List Int) (w : World) (hl : l.length ≤ 1000000) (hr : Rd w 1 A l.length (IB l)) :
  Calls Tryz.prog 117 #[.slice A l.length c0] w fun e w' => Frm [] w w' ∧ if newE l = 0 then ∃ g B c, e = .returned (.pointer (some ⟨g, 0, none⟩)) ∧ IsD w' g B c (cn l) (bU l) (cJ l) (bM l) ∧ ∀ x ∈ g :: ob B, w.heap.size ≤ x
   else e = .panicked (Pan 11) := by
 refine VC.calls (nt := 14) (res := #[.tmp 2]) Tryz.func117 rfl Tryz.ntmps117 Tryz.results117 rfl ?_
 refine jS (jR (ja rfl (jO (jN (jv1 0 ?_)))))
 refine jS (jR (jM ?_))
 refine Ops.cl (jE1 Tryz.call136) (qYb A c0 l _ hl hr) rfl ?_
 rintro e w1 ⟨hf1, he⟩
 obtain ⟨P, k, hee, hk, hPk⟩ : ∃ P k, e = .returned (.tuple #[.pointer P, .int .i64 ((k : Nat) : Int)]) ∧ (k = newE l) ∧ (k = 0 → ∃ g B c, P = some ⟨g, 0, none⟩ ∧ IsD w1 g B c (cn l) (bU l) (cJ l) (bM l) ∧ ∀ x ∈ g :: ob B, w.heap.size ≤ x) := by
  by_cases h : newE l = 0
  ·
   rw [if_pos h] at he
   obtain ⟨g, B, c, h1, h2, h3⟩ := he
   exact ⟨_, 0, h1, h.symm, fun _ => ⟨g, B, c, rfl, h2, h3⟩⟩
  rw [if_neg h] at he
  exact ⟨_, _, he, rfl, fun h2 => absurd h2 h⟩
 clear he
 subst hee
 refine ⟨_, rfl, ?_⟩
 refine jm rfl (je (Run.extract rfl rfl) (je (Run.extract rfl rfl) (ja rfl (ja rfl (jO (jN (jv2 3 4 ?_)))))))
 refine jS (jR (jm rfl (jb rfl rfl (Bin.eqlN _ 0) ?_)))
 refine Ops.clp (jE2 zcy) (cC (decide (k = 0)) 11 _) rfl ?_
 rintro e _ ⟨rfl, rfl⟩
 by_cases hk0 : k = 0
 rotate_left
 · exact .inr ⟨_, by rw [if_neg (by simpa using hk0)], qT (bY ⟨hf1, by rw [if_neg jo]⟩)⟩
 refine .inl ⟨_, by rw [if_pos (by simpa using hk0)], ?_⟩
 obtain ⟨g, B, c, rfl, h2, h3⟩ := hPk hk0
 refine jO (jN (jv1 3 ?_))
 refine jS (jR (jm rfl (ja rfl (jO (jN (jv1 2 ?_))))))
 refine jT ?_
 refine qC rfl ?_
 exact ⟨hf1, by rw [if_pos jo]; exact ⟨g, B, c, rfl, h2, h3⟩⟩
end
section
open Go.RowKit
def LC (p : Nat × Nat) : List Value := [.int .i64 ((p.1 : Nat) : Int), .int .i64 ((p.2 : Nat) : Int)]
theorem sP (p : Nat × Nat) : (LC p).length = 2 := rfl
theorem kD (p : Nat × Nat) : ∀ v ∈ LC p, v.oneCell' = true := by
 intro v hv
 simp only [LC, zcq, zcj, or_false] at hv
 rcases hv with rfl | rfl <;> rfl
def nextL (i : Nat) : Nat := if i < 28 then (longT.getD i (0, 0)).1 else 259
theorem qYq : ∀ i, i < 28 → (if (0 : Int) < ((i / 4 : Nat) : Int) - 1 then ((i / 4 : Nat) : Int) - 1 else 0) = (((longT.getD i (0, 0)).2 : Nat) : Int) ∧ nextL i + 2 ^ (longT.getD i (0, 0)).2 = nextL (i + 1) ∧ (longT.getD i (0, 0)).2 ≤ 5 ∧ nextL i ≤ 258 ∧ longT.getD i (0, 0) = (nextL i, (longT.getD i (0, 0)).2) := by decide +kernel
def nextW (i : Nat) : Nat := if i < 30 then (wayT.getD i (0, 0)).1 else 32769
theorem qMg : ∀ i, i < 30 → (if (0 : Int) < ((i / 2 : Nat) : Int) - 1 then ((i / 2 : Nat) : Int) - 1 else 0) = (((wayT.getD i (0, 0)).2 : Nat) : Int) ∧ nextW i + 2 ^ (wayT.getD i (0, 0)).2 = nextW (i + 1) ∧ (wayT.getD i (0, 0)).2 ≤ 13 ∧ nextW i ≤ 24577 ∧ wayT.getD i (0, 0) = (nextW i, (wayT.getD i (0, 0)).2) := by decide +kernel
def kE (t : List (Nat × Nat)) (n i : Nat) : List (Nat × Nat) := (List.range n).map fun k => if k < i then t.getD k (0, 0) else (0, 0)
theorem vZ (t : List (Nat × Nat)) (n i : Nat) : (kE t n i).length = n := by simp [kE]
theorem qXq (t : List (Nat × Nat)) (n i : Nat) (h : i < n) : (kE t n i).set i (t.getD i (0, 0)) = kE t n (i + 1) := by
 apply zap
 intro j
 by_cases hj : j = i
 ·
  subst hj
  rw [zec (by simp [kE, h])]
  simp [kE, h]
 rw [zfc (Ne.symm hj)]
 by_cases hn : j < n
 · simp [kE, hn, show j < i + 1 ↔ j < i by omega]
 simp [kE, hn]
theorem zX {w : World} {e size n c g : Nat} {xs : List Value} (h : Own w e size (some ⟨g, 0, none⟩) n c xs) (hn : 0 < n) : ∀ j v, xs[j]? = some v → w.cell? ((⟨g, 0, none⟩ : Addr).add j) = some v := by
 obtain ⟨ad, hA, _, hc⟩ := h.rd.2 hn
 injection hA with hA
 subst hA
 exact hc
theorem rC (w : World) : Calls Tryz.prog 123 #[] w fun e w' => e = .returned (.agg (longT.flatMap LC).toArray) ∧ Frm [] w w' := by
 refine VC.calls (nt := 25) (res := #[.cell 0 204]) Tryz.func123 rfl Tryz.ntmps123 Tryz.results123 rfl ?_
 refine jS (jR ?_)
 refine Ops.m (qJ.alloc xP) rfl ?_
 rintro _ w1 ⟨rfl, hF1⟩
 have hb1 := hF1.blk
 refine jO (jN (jS (jR ?_)))
 refine Ops.m (qJ.alloc xP) rfl ?_
 rintro _ w2 ⟨rfl, hF2⟩
 have hb12 := hb1.frm hF2.frm jp
 have hfr2 := hF1.frm.own hF2.frm jp
 have ho2 : Own w2 204 2 (some ⟨w1.heap.size, 0, none⟩) 29 29 ((kE longT 29 0).flatMap LC) := Own.of_blk (n := 29) hF2.blk rfl jd
 have hne : w.heap.size ≠ w1.heap.size := by have := hb1.lt; omega
 have hge : w.heap.size ≤ w1.heap.size := hF1.frm.size
 generalize hg1 : w1.heap.size = g1 at *
 generalize hg0 : w.heap.size = g0 at hb12 hne hge ⊢
 refine jO (jN (jS (jR (jz 3 (jO (jN (jS (jS (jR ?_)))))))))
 refine jx .i64 0 ?_
 refine jO (jN (jB ?_))
 refine VC.loop (σ := Nat) (fun s => [(0, .pointer (some ⟨g0, 0, none⟩)), (1, .pointer (some ⟨g1, 0, none⟩)), (2, .int .i64 ((nextL s : Nat) : Int)), (5, .int .i64 ((s : Nat) : Int))]) (fun s wr => s ≤ 28 ∧ Blk wr g0 204 (Value.agg #[.int .i64 0, .int .i64 0, .int .i64 0, .int .i64 0, .int .i64 0, .int .i64 0, .int .i64 0, .int .i64 0, .int .i64 0, .int .i64 0, .int .i64 0, .int .i64 0, .int .i64 0, .int .i64 0, .int .i64 0, .int .i64 0, .int .i64 0, .int .i64 0, .int .i64 0, .int .i64 0, .int .i64 0, .int .i64 0, .int .i64 0, .int .i64 0, .int .i64 0, .int .i64 0, .int .i64 0, .int .i64 0, .int .i64 0, .int .i64 0, .int .i64 0, .int .i64 0, .int .i64 0, .int .i64 0, .int .i64 0, .int .i64 0, .int .i64 0, .int .i64 0, .int .i64 0, .int .i64 0, .int .i64 0, .int .i64 0, .int .i64 0, .int .i64 0, .int .i64 0, .int .i64 0, .int .i64 0, .int .i64 0, .int .i64 0, .int .i64 0, .int .i64 0, .int .i64 0, .int .i64 0, .int .i64 0, .int .i64 0, .int .i64 0, .int .i64 0, .int .i64 0]).cells ∧ Own wr 204 2 (some ⟨g1, 0, none⟩) 29 29 ((kE longT 29 s).flatMap LC) ∧ Frm [] w wr) (fun s => 28 - s) 0 (js4 rfl rfl rfl rfl) ⟨jo, hb12, ho2, hfr2⟩ ?_
 rintro i wr ⟨hi, hbr, hor, hfr⟩
 refine jS (jR (jb rfl rfl (Bin.lssN _ 28) (jO (jN (jS ?_)))))
 refine jD rfl (fun hc1 => ?_) fun hc1 => ?_
 ·
  obtain ⟨hs1, hs2, hs3, hs4, hs5⟩ := qYq i hc1
  refine jQ (jN (jv4 0 1 2 5 ?_))
  refine jS (jB (jS (jR (jm rfl (ja rfl (jO (jN (jv5 0 1 2 3 5 ?_))))))))
  refine jS (jR (jm rfl (jb rfl rfl (Bin.quo_i64 _ 4 jo jo) (jb rfl rfl (Bin.subZ _ 1 jo jo) (je (Run.maxI rfl rfl) ?_)))))
  rw [hs1]
  refine ja rfl (jO (jN (jv6 0 1 2 3 4 5 ?_)))
  refine jS (jR (jm rfl (jm rfl (jm rfl (je (Run.build (evs.cons rfl (evs.cons rfl evs.nil)) oC (kN).choose_spec.1 (kN).choose_spec.2 (cells := (LC (nextL i, (longT.getD i (0, 0)).2)).toArray) rfl) (je (Run.indexA i rfl rfl zev zce jo) ?_))))))
  refine Ops.st (qR.storeOwnA LC (nextL i, (longT.getD i (0, 0)).2) i rfl rfl zce sP (vZ _ _ _) hor rfl jo (kD _)) ?_
  rintro w3 ⟨ho3, hf3, hs3'⟩
  rw [← hs5, qXq _ _ _ jo] at ho3
  refine jO (jN (jv5 0 1 2 4 5 ?_))
  refine jR (jm rfl (jm rfl (jb rfl rfl (Bin.shl_i64 1 (longT.getD i (0, 0)).2 jo (by have := zae (n := 2) jo hs3; omega)) (jb rfl rfl (Bin.add_i64 (nextL i) (1 * 2 ^ (longT.getD i (0, 0)).2) (by have := zae (n := 2) jo hs3; omega)) ?_))))
  rw [zfs, hs2]
  refine ja rfl (jO ?_)
  refine qK (jN ?_)
  refine jv4 0 1 2 5 ?_
  refine jR (jb rfl rfl (Bin.add_i64 _ 1 jo) (jm rfl (jO ?_)))
  refine jN ⟨(i + 1), (js4 rfl rfl rfl rfl), ?_, ?_⟩
  · exact ⟨hc1, hbr.frm hf3 (by simp [ob]; exact hne), ho3, hfr.own hf3 (fun x hx => by simp [ob] at hx; omega)⟩
  first | omega | (dsimp only; omega)
 have him : i = 28 := jo
 subst him
 refine jX ?_
 refine qZ (qZ (qP ?_))
 refine jN (jv2 0 1 ?_)
 refine jS (jR (je (Run.build (evs.cons rfl (evs.cons rfl evs.nil)) oC (kN).choose_spec.1 (kN).choose_spec.2 (cells := (LC (258, 0)).toArray) rfl) (je (Run.indexA 28 rfl rfl zev zce jo) ?_)))
 refine Ops.st (qR.storeOwnA LC (258, 0) 28 rfl rfl zce sP (vZ _ _ _) hor rfl jo (kD _)) ?_
 rintro w4 ⟨ho4, hf4, hs4⟩
 have hup : (kE longT 29 28).set 28 (258, 0) = longT := by decide +kernel
 rw [hup] at ho4
 have hb4 := hbr.frm hf4 (by simp [ob]; exact hne)
 have hfr4 := hfr.own hf4 (fun x hx => by simp [ob] at hx; omega)
 refine jO (jN (jv2 0 1 ?_))
 refine jS (jR (je (Run.loadA rfl Tryz.isAgg204 Tryz.sizeOf204 (zX ho4 jo) rfl) ?_))
 refine Ops.st (qR.storeA rfl rfl Tryz.sizeOf204 hb4 rfl (pW LC kD longT)) ?_
 rintro w5 ⟨hb5, hf5, hs5⟩
 refine jO (jN (jv1 0 ?_))
 refine jT ?_
 refine lJ ?_
 refine eF rfl Tryz.isAgg204 Tryz.sizeOf204 (hb5) rfl ?_
 refine eM ?_
 exact ⟨rfl, hfr4.own hf5 (fun x hx => by simp at hx; omega)⟩
theorem wN (w : World) : Calls Tryz.prog 124 #[] w fun e w' => e = .returned (.agg (wayT.flatMap LC).toArray) ∧ Frm [] w w' := by
 refine VC.calls (nt := 23) (res := #[.cell 0 206]) Tryz.func124 rfl Tryz.ntmps124 Tryz.results124 rfl ?_
 refine jS (jR ?_)
 refine Ops.m (qJ.alloc xR) rfl ?_
 rintro _ w1 ⟨rfl, hF1⟩
 have hb1 := hF1.blk
 refine jO (jN (jS (jR ?_)))
 refine Ops.m (qJ.alloc xR) rfl ?_
 rintro _ w2 ⟨rfl, hF2⟩
 have hb12 := hb1.frm hF2.frm jp
 have hfr2 := hF1.frm.own hF2.frm jp
 have ho2 : Own w2 206 2 (some ⟨w1.heap.size, 0, none⟩) 30 30 ((kE wayT 30 0).flatMap LC) := Own.of_blk (n := 30) hF2.blk rfl jd
 have hne : w.heap.size ≠ w1.heap.size := by have := hb1.lt; omega
 have hge : w.heap.size ≤ w1.heap.size := hF1.frm.size
 generalize hg1 : w1.heap.size = g1 at *
 generalize hg0 : w.heap.size = g0 at hb12 hne hge ⊢
 refine jO (jN (jS (jR (jz 1 (jO (jN (jS (jS (jR ?_)))))))))
 refine jx .i64 0 ?_
 refine jO (jN (jB ?_))
 refine VC.loop (σ := Nat) (fun s => [(0, .pointer (some ⟨g0, 0, none⟩)), (1, .pointer (some ⟨g1, 0, none⟩)), (2, .int .i64 ((nextW s : Nat) : Int)), (5, .int .i64 ((s : Nat) : Int))]) (fun s wr => s ≤ 30 ∧ Blk wr g0 206 (Value.agg #[.int .i64 0, .int .i64 0, .int .i64 0, .int .i64 0, .int .i64 0, .int .i64 0, .int .i64 0, .int .i64 0, .int .i64 0, .int .i64 0, .int .i64 0, .int .i64 0, .int .i64 0, .int .i64 0, .int .i64 0, .int .i64 0, .int .i64 0, .int .i64 0, .int .i64 0, .int .i64 0, .int .i64 0, .int .i64 0, .int .i64 0, .int .i64 0, .int .i64 0, .int .i64 0, .int .i64 0, .int .i64 0, .int .i64 0, .int .i64 0, .int .i64 0, .int .i64 0, .int .i64 0, .int .i64 0, .int .i64 0, .int .i64 0, .int .i64 0, .int .i64 0, .int .i64 0, .int .i64 0, .int .i64 0, .int .i64 0, .int .i64 0, .int .i64 0, .int .i64 0, .int .i64 0, .int .i64 0, .int .i64 0, .int .i64 0, .int .i64 0, .int .i64 0, .int .i64 0, .int .i64 0, .int .i64 0, .int .i64 0, .int .i64 0, .int .i64 0, .int .i64 0, .int .i64 0, .int .i64 0]).cells ∧ Own wr 206 2 (some ⟨g1, 0, none⟩) 30 30 ((kE wayT 30 s).flatMap LC) ∧ Frm [] w wr) (fun s => 30 - s) 0 (js4 rfl rfl rfl rfl) ⟨jo, hb12, ho2, hfr2⟩ ?_
 rintro i wr ⟨hi, hbr, hor, hfr⟩
 refine jS (jR (jb rfl rfl (Bin.lssN _ 30) (jO (jN (jS ?_)))))
 refine jD rfl (fun hc1 => ?_) fun hc1 => ?_
 ·
  obtain ⟨hs1, hs2, hs3, hs4, hs5⟩ := qMg i hc1
  refine jQ (jN (jv4 0 1 2 5 ?_))
  refine jS (jB (jS (jR (jm rfl (ja rfl (jO (jN (jv5 0 1 2 3 5 ?_))))))))
  refine jS (jR (jm rfl (jb rfl rfl (Bin.quo_i64 _ 2 jo jo) (jb rfl rfl (Bin.subZ _ 1 jo jo) (je (Run.maxI rfl rfl) ?_)))))
  rw [hs1]
  refine ja rfl (jO (jN (jv6 0 1 2 3 4 5 ?_)))
  refine jS (jR (jm rfl (jm rfl (jm rfl (je (Run.build (evs.cons rfl (evs.cons rfl evs.nil)) oC (kN).choose_spec.1 (kN).choose_spec.2 (cells := (LC (nextW i, (wayT.getD i (0, 0)).2)).toArray) rfl) (je (Run.indexA i rfl rfl zfq zce jo) ?_))))))
  refine Ops.st (qR.storeOwnA LC (nextW i, (wayT.getD i (0, 0)).2) i rfl rfl zce sP (vZ _ _ _) hor rfl jo (kD _)) ?_
  rintro w3 ⟨ho3, hf3, hs3'⟩
  rw [← hs5, qXq _ _ _ jo] at ho3
  refine jO (jN (jv5 0 1 2 4 5 ?_))
  refine jR (jm rfl (jm rfl (jb rfl rfl (Bin.shl_i64 1 (wayT.getD i (0, 0)).2 jo (by have := zae (n := 2) jo hs3; omega)) (jb rfl rfl (Bin.add_i64 (nextW i) (1 * 2 ^ (wayT.getD i (0, 0)).2) (by have := zae (n := 2) jo hs3; omega)) ?_))))
  rw [zfs, hs2]
  refine ja rfl (jO ?_)
  refine qK (jN ?_)
  refine jv4 0 1 2 5 ?_
  refine jR (jb rfl rfl (Bin.add_i64 _ 1 jo) (jm rfl (jO ?_)))
  refine jN ⟨(i + 1), (js4 rfl rfl rfl rfl), ?_, ?_⟩
  · exact ⟨hc1, hbr.frm hf3 (by simp [ob]; exact hne), ho3, hfr.own hf3 (fun x hx => by simp [ob] at hx; omega)⟩
  first | omega | (dsimp only; omega)
 have him : i = 30 := jo
 subst him
 refine jX ?_
 refine qZ (qZ (qP ?_))
 refine jN (jv2 0 1 ?_)
 refine jS (jR ?_)
 have hup : kE wayT 30 30 = wayT := by decide +kernel
 rw [hup] at hor
 refine je (Run.loadA rfl Tryz.isAgg206 Tryz.sizeOf206 (zX hor jo) rfl) ?_
 refine Ops.st (qR.storeA rfl rfl Tryz.sizeOf206 hbr rfl (pW LC kD wayT)) ?_
 rintro w5 ⟨hb5, hf5, hs5⟩
 refine jO (jN (jv1 0 ?_))
 refine jT ?_
 refine lJ ?_
 refine eF rfl Tryz.isAgg206 Tryz.sizeOf206 (hb5) rfl ?_
 refine eM ?_
 exact ⟨rfl, hfr.own hf5 (fun x hx => by simp at hx; omega)⟩
theorem qJb (w : World) : Calls Tryz.prog 137 #[] w fun e w' => e = .returned (.agg (NI bQ).toArray) ∧ Frm [] w w' := by
 refine VC.calls (nt := 2) (res := #[.cell 0 111]) Tryz.func137 rfl Tryz.ntmps137 Tryz.results137 rfl ?_
 refine jS (jR ?_)
 refine Ops.m (qJ.alloc oS) rfl ?_
 rintro _ w1 ⟨rfl, hF1⟩
 have hb1 := hF1.blk
 generalize hg0 : w.heap.size = g0 at *
 refine jO (jN (jS (jR (je (Run.buildA (evs.cons rfl (evs.cons rfl (evs.cons rfl (evs.cons rfl (evs.cons rfl (evs.cons rfl (evs.cons rfl (evs.cons rfl (evs.cons rfl (evs.cons rfl (evs.cons rfl (evs.cons rfl (evs.cons rfl (evs.cons rfl (evs.cons rfl (evs.cons rfl (evs.cons rfl (evs.cons rfl (evs.cons rfl evs.nil))))))))))))))))))) oS zej zd (cells := (NI bQ).toArray) jK) ?_))))
 refine Ops.st (qR.storeA rfl rfl Tryz.sizeOf111 hb1 rfl (gN bQ)) ?_
 rintro w5 ⟨hb5, hf5, hs5⟩
 refine jO (jN (jv1 0 ?_))
 refine jT ?_
 refine lJ ?_
 refine eF rfl Tryz.isAgg111 Tryz.sizeOf111 (hb5) rfl ?_
 refine eM ?_
 exact ⟨rfl, hF1.frm.own hf5 (fun x hx => by simp at hx; omega)⟩
end
section
open Go.RowKit
theorem qMh : ∀ i, i < 288 → cK.getD i 0 = if 144 ≤ i ∧ i < 256 then 9 else if 256 ≤ i ∧ i < 280 then 7 else 8 := by decide +kernel
theorem pS (i : Nat) (h : i < 288) : cK.take (i + 1) = cK.take i ++ [if 144 ≤ i ∧ i < 256 then 9 else if 256 ≤ i ∧ i < 280 then 7 else 8] := by
 have hl : i < cK.length := by rw [show cK.length = 288 by decide +kernel]; exact h
 rw [zaj, za hl, ← qMh i h]
 simp [List.getD, za hl]
theorem qJc (i : Nat) (h : i < 32) : cH.take (i + 1) = cH.take i ++ [5] := by
 have : ∀ i, i < 32 → cH.take (i + 1) = cH.take i ++ [5] := by decide +kernel
 exact this i h
theorem wP : newE cK = 0 ∧ newE cH = 0 ∧ bM cK = 15 ∧ bM cH = 15 := by decide +kernel
theorem oI (l : List Int) (x : Int) : IB (l ++ [x]) = IB l ++ [.int .i64 x] := by simp [IB]
theorem qSc (a b : List Nat) : NB (a ++ b) = NB a ++ NB b := by simp [NB]
theorem IsX.app {w w1 w2 : World} {gx gr : Nat} {Ar A A' : Option Addr} {bs : List Nat} {p c c' m : Nat} {out news : List Nat} {most : Nat} (h : IsX w gx gr Ar bs p A c out most) (ho : Own w1 5 1 A' (out.length + m) c' (NB out ++ NB news)) (hf1 : Frm (ob A) w w1) (hob : ob A' = ob A ∨ ob A' = [w.heap.size])
  (hb : Blk w2 gx 150 #[.pointer (some ⟨gr, 0, none⟩), .slice A' (out.length + m) c', .int .i64 ((most : Nat) : Int)]) (hf2 : Frm [gx] w1 w2) (hm : news.length = m) (hle : out.length + m ≤ most) (hlt : ∀ x ∈ news, x < 256) :
  IsX w2 gx gr Ar bs p A' c' (out ++ news) most ∧ Frm (gx :: ob A) w w2 ∧ ∀ x ∈ ob A', x ∈ ob A ∨ w.heap.size ≤ x := by
 have hl : (out ++ news).length = out.length + m := by rw [zb, hm]
 have hu : ∀ x ∈ ob A', x ∈ ob A ∨ w.heap.size ≤ x := fun x hx => by
  rcases hob with h5 | h5 <;> rw [h5] at hx
  · exact .inl hx
  simp at hx; exact .inr jo
 have hlw := h.lt
 have hfr : Frm (gx :: ob A) w w2 := (hf1.mono (T := gx :: ob A) (fun x hx => .inl (by simp [hx]))).trans hf2 (fun x hx => .inl (by simp at hx; simp [hx]))
 refine ⟨⟨by rw [hl]; exact hb, ?_, ?_, ?_, h.2.2.2.2.1, by rw [hl]; exact hle, fun x hx => ?_⟩, hfr, hu⟩
 ·
  refine h.2.1.frm hfr (fun x hx h5 => ?_)
  rcases zcq.1 hx with rfl | hx
  ·
   rcases zcq.1 h5 with h6 | h6
   · exact h.gxr h6.symm
   exact h.grA h6
  rcases zcq.1 h5 with h6 | h6
  · subst h6; exact h.gxAr hx
  exact h.2.2.2.1 x h6 hx
 ·
  rw [hl, qSc]
  refine ho.frm hf2 (fun x hx h5 => ?_)
  simp at h5
  subst h5
  rcases hu x hx with h6 | h6
  · exact h.gxA h6
  omega
 ·
  intro x hx h5
  rcases hu x hx with h6 | h6
  · exact h.2.2.2.1 x h6 h5
  have := hlw.2.2.2 x h5; omega
 rcases List.mem_append.1 hx with h5 | h5
 · exact h.2.2.2.2.2.2 x h5
 exact hlt x h5
theorem uH (w : World) : Calls Tryz.prog 56 #[] w fun e w' => ∃ A c B d, e = .returned (.tuple #[.slice A 288 c, .slice B 32 d]) ∧ Own w' 3 1 A 288 c (IB cK) ∧ Own w' 3 1 B 32 d (IB cH) ∧ Frm [] w w' := by
 refine VC.calls (nt := 36) (res := #[.tmp 0, .tmp 1]) Tryz.func56 rfl Tryz.ntmps56 Tryz.results56 rfl ?_
 refine jS (jR (ja rfl (ja rfl (jO (jN ?_)))))
 refine VC.sub [] .nil ?_
 refine jS (jR (ja rfl (ja rfl (jO (jN (jS (jS (jR ?_))))))))
 refine jx .i64 0 ?_
 refine jO (jN (jB ?_))
 refine VC.loop (σ := Nat × Option Addr × Nat) (fun s => [(2, .slice s.2.1 s.1 s.2.2), (3, .slice none 0 0), (6, .int .i64 ((s.1 : Nat) : Int))]) (fun s wr => s.1 ≤ 288 ∧ Own wr 3 1 s.2.1 s.1 s.2.2 (IB (cK.take s.1)) ∧ Frm [] w wr ∧ ∀ x ∈ ob s.2.1, w.heap.size ≤ x) (fun s => 288 - s.1) (0, none, 0) (js3 rfl rfl rfl) ⟨jo, Own.nil _ _ _, Frm.refl _ _, lE⟩ ?_
 rintro ⟨i, A, c⟩ wr ⟨hi, hor, hfr, hu⟩
 dsimp only at hi hor hfr hu ⊢
 refine jS (jR (jb rfl rfl (Bin.lssN _ 288) (jO (jN (jS ?_)))))
 refine jD rfl (fun hc1 => ?_) fun hc1 => ?_
 ·
  refine jQ (jN (jv3 2 3 6 ?_))
  refine jS (jB (jS (jR (jm rfl (ja rfl (jO (jN (jv4 2 3 4 6 ?_))))))))
  refine jS (jR (jz 8 (jO (jN (jS (jB (jS ?_)))))))
  refine VC.split1 [(2, _), (3, _), (4, _), (5, _), (6, _)] (js5 rfl rfl rfl rfl rfl) 9 (.bool (decide ((144 ≤ i) ∧ (i < 256)))) ?_ ?_
  ·
   by_cases hs0 : 144 ≤ i
   ·
    refine jR (jm rfl (jb rfl rfl (Bin.geqN _ 144) (jM ?_)))
    refine jG ?_
    refine jk (Run.bin rfl rfl (Bin.lssN _ 256)) ?_
    refine je (Run.pickT rfl rfl au) (ja rfl (jO ?_))
    refine jN ⟨(js6 (by rw [qQp hs0]; rfl) rfl rfl rfl rfl rfl), rfl⟩
   refine jR (jm rfl (jb rfl rfl (Bin.geqN _ 144) (jM ?_)))
   refine jU ?_
   refine jU ?_
   refine je (Run.pickF rfl rfl au) (ja rfl (jO ?_))
   refine jN ⟨(js6 (by rw [qQq hs0]; rfl) rfl rfl rfl rfl rfl), rfl⟩
  intro Γ hΓ
  refine jN (VC.sub _ hΓ ?_)
  refine jD rfl (fun hc2 => ?_) fun hc2 => ?_
  ·
   refine jR (jz 9 (jO ?_))
   refine qK (jN ?_)
   refine jv4 2 3 5 6 ?_
   refine jR (jm rfl (jM ?_))
   refine Ops.m (qJ.buildS1 rfl zf zd gF jd jd rfl rfl) rfl ?_
   rintro _ w3 ⟨rfl, hF3⟩
   have hrd3 : Rd w3 1 (some ⟨_, 0, none⟩) 1 [.int .i64 9] := Rd.of_blk (n := 1) (size := 1) hF3.blk rfl
   refine Ops.m (qJ.app rfl rfl zf (fT) rfl jd (hor.frm hF3.frm jp) hrd3 (by simp [Value.oneCell']) jo jo) rfl ?_
   rintro _ w4 ⟨B4, c4, rfl, ho4, hf4, hob4⟩
   have hsz := (hfr.own hF3.frm jp).size
   have hfr4 : Frm [] w w4 := (hfr.own hF3.frm jp).own hf4 hu
   refine ja rfl (jO ?_)
   refine qK (jN ?_)
   refine jv3 2 3 6 ?_
   refine jR (jb rfl rfl (Bin.add_i64 _ 1 jo) (jm rfl (jO ?_)))
   refine jN ⟨(i + 1, B4, c4), (js3 rfl rfl rfl), ?_, ?_⟩
   ·
    refine ⟨by dsimp only; omega, ?_, hfr4, cO hu hob4 hsz⟩
    dsimp only
    rw [pS i hc1, if_pos hc2, oI]
    exact ho4
   first | omega | (dsimp only; omega)
  refine jS ?_
  refine VC.split1 [(2, _), (3, _), (5, _), (6, _)] (js4 rfl rfl rfl rfl) 16 (.bool (decide ((256 ≤ i) ∧ (i < 280)))) ?_ ?_
  ·
   by_cases hs0 : 256 ≤ i
   ·
    refine jR (jm rfl (jb rfl rfl (Bin.geqN _ 256) (jM ?_)))
    refine jG ?_
    refine jk (Run.bin rfl rfl (Bin.lssN _ 280)) ?_
    refine je (Run.pickT rfl rfl au) (ja rfl (jO ?_))
    refine jN ⟨(js5 (by rw [qQp hs0]; rfl) rfl rfl rfl rfl), rfl⟩
   refine jR (jm rfl (jb rfl rfl (Bin.geqN _ 256) (jM ?_)))
   refine jU ?_
   refine jU ?_
   refine je (Run.pickF rfl rfl au) (ja rfl (jO ?_))
   refine jN ⟨(js5 (by rw [qQq hs0]; rfl) rfl rfl rfl rfl), rfl⟩
  intro Γ hΓ
  refine jN (VC.sub _ hΓ ?_)
  refine jD rfl (fun hc3 => ?_) fun hc3 => ?_
  ·
   refine jR (jz 7 (jO ?_))
   refine qK (jN ?_)
   refine jv4 2 3 5 6 ?_
   refine jR (jm rfl (jM ?_))
   refine Ops.m (qJ.buildS1 rfl zf zd gF jd jd rfl rfl) rfl ?_
   rintro _ w3 ⟨rfl, hF3⟩
   have hrd3 : Rd w3 1 (some ⟨_, 0, none⟩) 1 [.int .i64 7] := Rd.of_blk (n := 1) (size := 1) hF3.blk rfl
   refine Ops.m (qJ.app rfl rfl zf (fT) rfl jd (hor.frm hF3.frm jp) hrd3 (by simp [Value.oneCell']) jo jo) rfl ?_
   rintro _ w4 ⟨B4, c4, rfl, ho4, hf4, hob4⟩
   have hsz := (hfr.own hF3.frm jp).size
   have hfr4 : Frm [] w w4 := (hfr.own hF3.frm jp).own hf4 hu
   refine ja rfl (jO ?_)
   refine qK (jN ?_)
   refine jv3 2 3 6 ?_
   refine jR (jb rfl rfl (Bin.add_i64 _ 1 jo) (jm rfl (jO ?_)))
   refine jN ⟨(i + 1, B4, c4), (js3 rfl rfl rfl), ?_, ?_⟩
   ·
    refine ⟨by dsimp only; omega, ?_, hfr4, cO hu hob4 hsz⟩
    dsimp only
    rw [pS i hc1, if_neg hc2, if_pos hc3, oI]
    exact ho4
   first | omega | (dsimp only; omega)
  refine jQ ?_
  refine qK (jN ?_)
  refine jv4 2 3 5 6 ?_
  refine jR (jm rfl (jM ?_))
  refine Ops.m (qJ.buildS1 rfl zf zd gF jd jd rfl rfl) rfl ?_
  rintro _ w3 ⟨rfl, hF3⟩
  have hrd3 : Rd w3 1 (some ⟨_, 0, none⟩) 1 [.int .i64 8] := Rd.of_blk (n := 1) (size := 1) hF3.blk rfl
  refine Ops.m (qJ.app rfl rfl zf (fT) rfl jd (hor.frm hF3.frm jp) hrd3 (by simp [Value.oneCell']) jo jo) rfl ?_
  rintro _ w4 ⟨B4, c4, rfl, ho4, hf4, hob4⟩
  have hsz := (hfr.own hF3.frm jp).size
  have hfr4 : Frm [] w w4 := (hfr.own hF3.frm jp).own hf4 hu
  refine ja rfl (jO ?_)
  refine qK (jN ?_)
  refine jv3 2 3 6 ?_
  refine jR (jb rfl rfl (Bin.add_i64 _ 1 jo) (jm rfl (jO ?_)))
  refine jN ⟨(i + 1, B4, c4), (js3 rfl rfl rfl), ?_, ?_⟩
  ·
   refine ⟨by dsimp only; omega, ?_, hfr4, cO hu hob4 hsz⟩
   dsimp only
   rw [pS i hc1, if_neg hc2, if_neg hc3, oI]
   exact ho4
  first | omega | (dsimp only; omega)
 have hin : i = 288 := jo
 subst hin
 have hb : Own wr 3 1 none 0 0 (IB (cH.take 0)) := Own.nil _ _ _
 rw [show cK.take 288 = cK from rfl] at hor
 refine jX ?_
 refine qZ (qZ (qP ?_))
 refine jN (jv2 2 3 ?_)
 refine jS (jS (jR ?_))
 refine jx .i64 0 ?_
 refine jO (jN (jB ?_))
 refine VC.loop (σ := Nat × Option Addr × Nat) (fun s => [(2, .slice A 288 c), (3, .slice s.2.1 s.1 s.2.2), (28, .int .i64 ((s.1 : Nat) : Int))]) (fun s wr => s.1 ≤ 32 ∧ Own wr 3 1 A 288 c (IB cK) ∧ Own wr 3 1 s.2.1 s.1 s.2.2 (IB (cH.take s.1)) ∧ Frm [] w wr ∧ (∀ x ∈ ob s.2.1, w.heap.size ≤ x) ∧ ∀ x ∈ ob s.2.1, x ∉ ob A) (fun s => 32 - s.1) (0, none, 0) (js3 rfl rfl rfl) ⟨jo, hor, hb, hfr, lE, by simp [ob]⟩ ?_
 rintro ⟨i, B, d⟩ wr2 ⟨hi, hoa, hor, hfr, hu, hne⟩
 dsimp only at hi hoa hor hfr hu hne ⊢
 have hltA := hoa.lt
 refine jS (jR (jb rfl rfl (Bin.lssN _ 32) (jO (jN (jS ?_)))))
 refine jD rfl (fun hc4 => ?_) fun hc4 => ?_
 ·
  refine jQ (jN (jv3 2 3 28 ?_))
  refine jS (jB (jR (jM ?_)))
  refine Ops.m (qJ.buildS1 rfl zf zd gF jd jd rfl rfl) rfl ?_
  rintro _ w3 ⟨rfl, hF3⟩
  have hrd3 : Rd w3 1 (some ⟨_, 0, none⟩) 1 [.int .i64 5] := Rd.of_blk (n := 1) (size := 1) hF3.blk rfl
  refine Ops.m (qJ.app rfl rfl zf (fT) rfl jd (hor.frm hF3.frm jp) hrd3 (by simp [Value.oneCell']) jo jo) rfl ?_
  rintro _ w4 ⟨B4, c4, rfl, ho4, hf4, hob4⟩
  have hsz := (hfr.own hF3.frm jp).size
  have hfr4 : Frm [] w w4 := (hfr.own hF3.frm jp).own hf4 hu
  refine ja rfl (jO ?_)
  refine qK (jN ?_)
  refine jv3 2 3 28 ?_
  refine jR (jb rfl rfl (Bin.add_i64 _ 1 jo) (jm rfl (jO ?_)))
  refine jN ⟨(i + 1, B4, c4), (js3 rfl rfl rfl), ?_, ?_⟩
  ·
   have hs3 := hF3.frm.size
   refine ⟨by dsimp only; omega, (hoa.frm hF3.frm jp).frm hf4 (fun x hx h5 => hne x h5 hx), ?_, hfr4, cO hu hob4 hsz, fun x hx h5 => ?_⟩
   ·
    dsimp only
    rw [qJc i jo, oI]
    exact ho4
   rcases hob4 with h6 | h6 <;> rw [h6] at hx
   · exact hne x hx h5
   simp at hx
   have := hltA x h5
   omega
  first | omega | (dsimp only; omega)
 have hin : i = 32 := jo
 subst hin
 rw [show cH.take 32 = cH from rfl] at hor
 refine jX ?_
 refine qZ (qZ (qP ?_))
 refine jN (jv2 2 3 ?_)
 refine jS (jR (jm rfl (jm rfl (ja rfl (ja rfl (jO (jN (jv2 0 1 ?_))))))))
 refine jT ?_
 refine cG rfl rfl ?_
 exact ⟨A, c, B, d, rfl, hoa, hor, hfr⟩
theorem qXr (gx gr p : Nat) (Ar A : Option Addr) (bs : List Nat) (c : Nat) (out : List Nat) (most : Nat) (w : World) (hmo : most ≤ 1000000) (hbs : bs.length ≤ 1000000) (hB : ∀ b ∈ bs, b < 256) (hX : IsX w gx gr Ar bs p A c out most) :
  Calls Tryz.prog 115 #[.pointer (some ⟨gx, 0, none⟩)] w fun e w' => Frm (gx :: gr :: ob A) w w' ∧ match kR bs most p out with
   | .error k => e = .panicked (Pan k)
   | .ok x => ∃ A' c', e = .returned (.tuple #[]) ∧ IsX w' gx gr Ar bs x.1 A' c' x.2 most ∧ ∀ y ∈ ob A', y ∈ ob A ∨ w.heap.size ≤ y := by
 generalize hF : kR bs most p out = F
 unfold kR at hF
 have hp := hX.2.2.2.2.1
 have hom := hX.2.2.2.2.2.1
 refine VC.calls (nt := 53) (res := #[]) Tryz.func115 rfl Tryz.ntmps115 Tryz.results115 rfl ?_
 refine jS (jR (jm rfl (je (Run.nilck rfl) (jf rfl zak rfl zgb (jl rfl Tryz.isAgg147 (hX.1.cell 0) ?_)))))
 refine Ops.cl (jE1 Tryz.call133) (mH gr p Ar bs _ hp jo hX.2.1) rfl ?_
 rintro e w1 ⟨rfl, hR1, hf1⟩
 refine ⟨_, rfl, ?_⟩
 have hX1 := hX.turn hR1 hf1 jo
 refine jO (jN (jv1 0 ?_))
 refine jS (jR (jM ?_))
 refine Ops.clp (jE2 zdi) (cS gx gr 16 ((p + 7) / 8 * 8) Ar A bs c out most _ jo hbs hB hX1) rfl ?_
 rintro e w2 ⟨hf2, he⟩
 have hfr2 := hf1.trans hf2 (fun x hx => .inl hx)
 rcases hT2 : bZ (ofB bs) 16 ((p + 7) / 8 * 8) with kk | ⟨v2, p2⟩
 ·
  rw [hT2] at he
  simp only [hT2, cB] at hF
  subst hF
  exact .inr ⟨_, he, qT (bY ⟨hfr2.mono jp, rfl⟩)⟩
 rw [hT2] at he
 simp only [hT2, qS] at hF
 obtain ⟨rfl, hX2⟩ := he
 obtain ⟨hp2, hpl2, hv2, _⟩ := bC hT2
 refine .inl ⟨_, rfl, ?_⟩
 refine jM ?_
 refine Ops.clp (jE2 zdi) (cS gx gr 16 p2 Ar A bs c out most _ jo hbs hB hX2) rfl ?_
 rintro e w3 ⟨hf3, he⟩
 have hfr3 := hfr2.trans hf3 (fun x hx => .inl hx)
 rcases hT3 : bZ (ofB bs) 16 p2 with kk | ⟨v3, p3⟩
 ·
  rw [hT3] at he
  simp only [hT3, cB] at hF
  subst hF
  exact .inr ⟨_, he, qT (bY ⟨hfr3.mono jp, rfl⟩)⟩
 rw [hT3] at he
 simp only [hT3, qS] at hF
 obtain ⟨rfl, hX3⟩ := he
 obtain ⟨hp3, hpl3, hv3, _⟩ := bC hT3
 refine .inl ⟨_, rfl, ?_⟩
 rw [cW] at hpl2 hpl3
 refine ja rfl (ja rfl (jO (jN (jv3 0 2 3 ?_))))
 refine jS (jR (jm rfl (jm rfl (jb rfl rfl (Bin.xor_i64 _ _ jo jo) (jb rfl rfl (Bin.eqlN _ 65535) ?_)))))
 refine Ops.clp (jE2 zcy) (cC (decide (v2 ^^^ v3 = 65535)) 3 _) rfl ?_
 rintro e _ ⟨rfl, rfl⟩
 by_cases hN1 : v2 ^^^ v3 = 65535
 rotate_left
 ·
  refine .inr ⟨_, by rw [if_neg (by simpa using hN1)], qT (bY ?_)⟩
  rw [if_pos hN1] at hF
  subst hF
  exact ⟨hfr3.mono jp, rfl⟩
 refine .inl ⟨_, by rw [if_pos (by simpa using hN1)], ?_⟩
 refine jO (jN (jv2 0 2 ?_))
 refine jS (jR (jm rfl (je (Run.nilck rfl) (jf rfl zak rfl zgb (jl rfl Tryz.isAgg147 (hX3.1.cell 0) (jM ?_))))))
 refine Ops.cl (jE2 Tryz.call134) (qVj gr p3 v2 Ar bs _ jo jo hX3.2.1) rfl ?_
 rintro e w4 ⟨B4, nl, c4, k, p4, rfl, hO, hp4, hR4, hf4⟩
 refine ⟨_, rfl, ?_⟩
 have hX4 := hX3.turn hR4 hf4 hp4
 have hfr4 := hfr3.trans hf4 (fun x hx => .inl hx)
 rw [if_neg (by simpa using hN1)] at hF
 have hO2 : (k = 2 ∧ (8 * bs.length - p3) / 8 < v2) ∨ (k = 0 ∧ nl = v2 ∧ ¬ (8 * bs.length - p3) / 8 < v2 ∧ p4 = p3 + 8 * v2 ∧ Own w4 5 1 B4 v2 c4 (NB ((bs.drop (p3 / 8)).take v2))) := by
  have h8 : (p3 + 7) / 8 * 8 = p3 := jo
  have h9 : (p3 + 7) / 8 = p3 / 8 := jo
  rcases hO with ⟨h, _⟩ | ⟨m, hm, h⟩
  · omega
  obtain rfl : v2 = m := jo
  rw [h8, h9] at h
  rcases h with ⟨h1, _, h2, _⟩ | ⟨h1, h2, h3, h4, h5⟩
  · exact .inl ⟨h2, h1⟩
  exact .inr ⟨h3, h2, jo, h4, h5⟩
 refine jm rfl (je (Run.extract rfl rfl) (je (Run.extract rfl rfl) (ja rfl (ja rfl (jO (jN (jv4 0 2 4 5 ?_)))))))
 refine jS (jR (jM ?_))
 refine Ops.clp (jE1 Tryz.call132) (sM k _) rfl ?_
 rintro e _ ⟨rfl, rfl⟩
 rcases hO2 with ⟨rfl, hO3⟩ | ⟨rfl, hnl, hO3, rfl, ho4⟩
 ·
  refine .inr ⟨_, by rw [if_neg jd], qT (bY ?_)⟩
  rw [if_pos hO3] at hF
  subst hF
  exact ⟨hfr4.mono jp, rfl⟩
 obtain rfl : v2 = nl := hnl.symm
 refine .inl ⟨_, by rw [if_pos rfl], ?_⟩
 rw [if_neg hO3] at hF
 have hd5 := qQ.drew w4
 have hXd := hX4.frm0 hd5.frm
 have hlb : ((bs.drop (p3 / 8)).take v2).length = v2 := by rw [zi, zp]; omega
 refine jO (jN (jv3 0 2 4 ?_))
 refine jS ?_
 refine VC.tail 12 jK jK ?_
 simp only [zac, zdo, zdr, zcd]
 refine qM ?_
 refine qM ?_
 refine qE (Run.nilck rfl) ?_
 refine qE (Run.fieldAddr rfl zak rfl zd jd) ?_
 refine qE (Run.load rfl zg (hXd.1.cell 2)) ?_
 refine qM ?_
 refine qE (Run.nilck rfl) ?_
 refine qE (Run.fieldAddr rfl zak rfl zl jd) ?_
 refine qE (Run.load rfl zt (hXd.1.cell 1)) ?_
 refine qE (Run.lenS rfl ze) ?_
 refine qE (Run.bin rfl rfl (Bin.sub_i64 _ _ jo jo)) ?_
 refine qE (Run.bin rfl rfl (Bin.leqN _ _)) ?_
 refine qW.nil ?_
 refine Ops.clp (jE2 zcy) (cC (decide (v2 ≤ most - out.length)) 13 _) rfl ?_
 rintro e _ ⟨rfl, rfl⟩
 by_cases hN2 : v2 ≤ most - out.length
 rotate_left
 ·
  refine .inr ⟨_, by rw [if_neg (by simpa using hN2)], qT (bY ?_)⟩
  rw [if_pos jo] at hF
  subst hF
  exact ⟨(hfr4.drawn hd5).mono jp, rfl⟩
 refine .inl ⟨_, by rw [if_pos (by simpa using hN2)], ?_⟩
 rw [if_neg jo] at hF
 refine jO (jN (jv2 0 4 ?_))
 refine jR (jm rfl (jm rfl (je (Run.nilck rfl) (jf rfl zak rfl zl (jl rfl zt (hXd.1.cell 1) (jM ?_))))))
 refine Ops.m (qJ.app rfl rfl ze (dD) rfl jd hXd.2.2.1 (ho4.drawn hd5).rd (dH _) jo jo) rfl ?_
 rintro _ w6 ⟨B6, c6, rfl, ho6, hf6, hob6⟩
 have hb6 := hXd.1.frm hf6 hXd.gxA
 refine je (Run.nilck rfl) (jf rfl zak rfl zl ?_)
 refine Ops.st (qR.store (i := 1) rfl rfl zl hb6 rfl rfl) ?_
 rintro w7 ⟨hb7, hf7, hs7⟩
 obtain ⟨hX7, hf67, hu7⟩ := hXd.app ho6 hf6 hob6 hb7 hf7 hlb jo (fun x hx => hB x (zbn (zag hx)))
 have hsz4 := hfr4.size
 have hfr7 : Frm (gx :: gr :: ob A) w w7 := ((hfr4.drawn hd5).mono (T := gx :: gr :: ob A) jp).trans hf67 (fun x hx => .inl (by rcases zcq.1 hx with rfl | hx <;> simp_all))
 refine jO ?_
 refine eV ?_
 subst hF
 refine ⟨hfr7, B6, c6, rfl, hX7, fun y hy => (hu7 y hy).imp id (fun h => zo hsz4 h)⟩
end
section
open Go.RowKit
theorem qXs (A : Option Addr) (c sz : Nat) : cP A c 0 sz = A := by
 unfold cP
 split
 · rfl
 cases A with
 | none => rfl
 | some a => simp [Addr.add]
theorem qVq (gx gr p gd : Nat) (Ar A Bd : Option Addr) (cd : Nat) (l : List Int) (bs : List Nat) (c : Nat) (out : List Nat) (most : Nat) (Al : Option Addr) (cl : Nat) (all : List Int) (M : Nat) (w : World) (hl : l.length ≤ 320) (hm : bM l ≤ 15) (hbs : bs.length ≤ 1000000) (hB : ∀ b ∈ bs, b < 256) (hM : M ≤ 1000) (hal : all.length ≤ M) (hX : IsX w gx gr Ar bs p A c out most)
  (hD : IsD w gd Bd cd (cn l) (bU l) (cJ l) (bM l)) (hO : Own w 3 1 Al all.length cl (IB all)) :
  Calls Tryz.prog 138 #[.pointer (some ⟨gx, 0, none⟩), .pointer (some ⟨gd, 0, none⟩), .slice Al all.length cl, .int .i64 ((M : Nat) : Int)] w fun e w' => Frm (gr :: ob Al) w w' ∧ match lC (ofB bs) l p all M with
   | .error k => e = .panicked (Pan k)
   | .ok x => ∃ A' c', e = .returned (.slice A' x.2.length c') ∧ IsX w' gx gr Ar bs x.1 A c out most ∧ Own w' 3 1 A' x.2.length c' (IB x.2) ∧ ∀ y ∈ ob A', y ∈ ob Al ∨ w.heap.size ≤ y := by
 generalize hF : lC (ofB bs) l p all M = F
 unfold lC at hF
 have hgrl : gr ∉ ob Al := hO.ne_blk hX.2.1.choose_spec.1 jd
 have hgxl : gx ∉ ob Al := hO.ne_blk hX.1 jd
 have hlA : ∀ x ∈ ob A, x ∉ ob Al := hX.2.2.1.ne_own hO jd
 have hlAr : ∀ x ∈ ob Ar, x ∉ ob Al := hX.2.1.choose_spec.2.ne_own hO jd
 have hS0 : ∀ x ∈ gx :: gr :: (ob A ++ ob Ar), x ∉ ob Al := fun x hx => by
  rcases zcq.1 hx with rfl | hx
  · exact hgxl
  rcases zcq.1 hx with rfl | hx
  · exact hgrl
  rcases List.mem_append.1 hx with hx | hx
  · exact hlA x hx
  exact hlAr x hx
 refine VC.calls (nt := 58) (res := #[.tmp 8]) Tryz.func138 rfl Tryz.ntmps138 Tryz.results138 rfl ?_
 refine jS (jR (ja rfl (jO (jN (jv4 0 1 2 3 ?_)))))
 refine jS (jR (jm rfl (jM ?_)))
 refine Ops.clp (jE2 Tryz.call144) (sN gx gr p gd Ar A _ _ l bs c out most _ hl hm hbs hB hX hD) rfl ?_
 rintro e w1 ⟨hf1, he⟩
 have hfr1 := hf1
 rcases hT1 : gJ (ofB bs) l p with kk | ⟨v1, p1⟩
 ·
  rw [hT1] at he
  simp only [hT1, cB] at hF
  subst hF
  exact .inr ⟨_, he, qT (bY ⟨hfr1.mono jp, rfl⟩)⟩
 rw [hT1] at he
 simp only [hT1, qS] at hF
 obtain ⟨rfl, hX1⟩ := he
 obtain ⟨hp1, hpl1, hv1⟩ := mL hm (by rw [cW]; exact hX.2.2.2.2.1) hT1
 refine .inl ⟨_, rfl, ?_⟩
 have hO1 := hO.frm hf1 (fun x hx h5 => hgrl (by simp at h5; subst h5; exact hx))
 rw [cW] at hpl1
 refine ja rfl (jO (jN (jv4 0 2 3 9 ?_)))
 refine jS (jR (jm rfl (ja rfl (jz 1 (jO (jN (jv6 0 2 3 9 10 11 ?_)))))))
 refine jS (jS (jR (jm rfl (jO (jN (jv6 0 2 3 10 11 16 ?_))))))
 refine jB (jS (jR (jb rfl rfl (Bin.eqlN _ 16) (ja rfl (jO (jN (jv7 0 2 3 10 11 16 17 ?_)))))))
 refine VC.meet (σ := Nat × Int × Nat) (fun s => [(2, .slice Al all.length cl), (3, .int .i64 ((M : Nat) : Int)), (10, .int .i64 s.2.1), (11, .int .i64 ((s.2.2 : Nat) : Int))]) (fun s wr => IsX wr gx gr Ar bs s.1 A c out most ∧ Frm [gr] w wr ∧ (if M < all.length + s.2.2 then .error 11 else .ok (s.1, all ++ List.replicate s.2.2 s.2.1)) = F ∧ s.2.2 ≤ 200) ?_ ?_
 ·
  refine jD rfl (fun hc1 => ?_) fun hc1 => ?_
  ·
   rw [if_pos hc1] at hF
   refine jS (jR (jm rfl (je (Run.lenS rfl zf) (jb rfl rfl (Bin.gtrN _ 0) ?_))))
   refine Ops.clp (jE2 zcy) (cC (decide (0 < all.length)) 11 _) rfl ?_
   rintro e _ ⟨rfl, rfl⟩
   by_cases hN1 : 0 < all.length
   rotate_left
   ·
    refine .inr ⟨_, by rw [if_neg (by simpa using hN1)], qT (qT (dK (qT (bY ?_))))⟩
    rw [if_pos jo, cB] at hF
    subst hF
    exact ⟨hfr1.mono jp, rfl⟩
   refine .inl ⟨_, by rw [if_pos (by simpa using hN1)], ?_⟩
   rw [if_neg jo] at hF
   have hal2 : all.length - 1 < all.length := jo
   obtain ⟨adl, rfl, hcl⟩ := tE hO1.rd hal2
   have hgetD : all.getD (all.length - 1) 0 = all[all.length - 1] := by simp [List.getD, za hal2]
   rw [hgetD] at hF
   generalize all[all.length - 1] = xl at *
   have hgla : adl.block ≠ gr := fun h => hgrl (by simp [ob, h])
   refine jO (jN (jv3 0 2 3 ?_))
   refine VC.held (fun v => v.cell? (adl.add (all.length - 1)) = some (.int .i64 xl)) jK ?_
   have hd1 := qQ.drew w1
   have hX1d := hX1.frm0 hd1.frm
   have hfr1d := hfr1.drawn hd1
   have hS : (fun v : World => v.cell? (adl.add (all.length - 1)) = some (.int .i64 xl)) w1.drew := hcl
   refine jH 0 rfl hS (fun w0 hw0 => Run.mv rfl) ?_
   refine jH 1 rfl hS (fun w0 hw0 => Run.mv rfl) ?_
   refine jH 2 rfl hS (fun w0 hw0 => Run.lenS rfl zf) ?_
   refine jH 3 rfl hS (fun w0 hw0 => Run.bin rfl rfl (Bin.sub_i64 _ 1 jo jo)) ?_
   refine jH 4 rfl hS (fun w0 hw0 => Run.index1 _ rfl rfl zf zd jo) ?_
   refine jH 5 rfl hS (fun w0 hw0 => Run.load rfl zg hw0) ?_
   refine jH 6 rfl hS (fun w0 hw0 => Run.mv rfl) ?_
   refine qV.clp 7 rfl jK (jE2 zdi) (cS gx gr 2 p1 Ar A bs c out most _ jo hbs hB hX1d) trivial rfl rfl ?_
   rintro e w2 ⟨hf2, he⟩
   have hfr2 := hfr1d.trans hf2 (fun x hx => .inl hx)
   rcases hT2 : bZ (ofB bs) 2 p1 with kk | ⟨v2, p2⟩
   ·
    rw [hT2] at he
    simp only [hT2, cB] at hF
    subst hF
    exact .inr ⟨_, he, qT (dK (qT (bY ⟨hfr2.mono jp, rfl⟩)))⟩
   rw [hT2] at he
   simp only [hT2, qS] at hF
   obtain ⟨rfl, hX2⟩ := he
   obtain ⟨hp2, hpl2, hv2, _⟩ := bC hT2
   have hS : (fun v : World => v.cell? (adl.add (all.length - 1)) = some (.int .i64 xl)) w2 := hf2.cell hcl (by rw [kH]; simp; exact hgla)
   refine .inl ⟨_, rfl, hS, ?_⟩
   refine jH 8 rfl hS (fun w0 hw0 => Run.bin rfl rfl (Bin.add_i64 3 _ jo)) ?_
   refine jH 9 rfl hS (fun w0 hw0 => Run.asg rfl) ?_
   refine jH 10 rfl hS (fun w0 hw0 => Run.asg rfl) ?_
   refine qV.done jK ?_
   refine jN ⟨(p2, xl, 3 + v2), (js4 rfl rfl rfl rfl), ?_⟩
   exact ⟨hX2, hfr2, hF, by dsimp only; omega⟩
  rw [if_neg hc1] at hF
  refine jS (jR (jb rfl rfl (Bin.eqlN _ 17) (ja rfl (jO (jN (jv7 0 2 3 10 11 16 32 ?_))))))
  refine jD rfl (fun hc2 => ?_) fun hc2 => ?_
  ·
   rw [if_pos hc2] at hF
   refine jR (jM ?_)
   refine Ops.clp (jE2 zdi) (cS gx gr 3 p1 Ar A bs c out most _ jo hbs hB hX1) rfl ?_
   rintro e w2 ⟨hf2, he⟩
   have hfr2 := hfr1.trans hf2 (fun x hx => .inl hx)
   rcases hT2 : bZ (ofB bs) 3 p1 with kk | ⟨v2, p2⟩
   ·
    rw [hT2] at he
    simp only [hT2, cB] at hF
    subst hF
    exact .inr ⟨_, he, qT (dK (qT (bY ⟨hfr2.mono jp, rfl⟩)))⟩
   rw [hT2] at he
   simp only [hT2, qS] at hF
   obtain ⟨rfl, hX2⟩ := he
   obtain ⟨hp2, hpl2, hv2, _⟩ := bC hT2
   refine .inl ⟨_, rfl, ?_⟩
   refine jb rfl rfl (Bin.add_i64 3 _ jo) (jz 0 (ja rfl (jO ?_)))
   refine jN ⟨(p2, 0, 3 + v2), (js4 rfl rfl rfl rfl), ?_⟩
   exact ⟨hX2, hfr2, hF, by dsimp only; omega⟩
  rw [if_neg hc2] at hF
  refine jS (jR (jb rfl rfl (Bin.eqlN _ 18) (ja rfl (jO (jN (jv6 0 2 3 10 11 37 ?_))))))
  refine jD rfl (fun hc3 => ?_) fun hc3 => ?_
  ·
   rw [if_pos hc3] at hF
   refine jR (jM ?_)
   refine Ops.clp (jE2 zdi) (cS gx gr 7 p1 Ar A bs c out most _ jo hbs hB hX1) rfl ?_
   rintro e w2 ⟨hf2, he⟩
   have hfr2 := hfr1.trans hf2 (fun x hx => .inl hx)
   rcases hT2 : bZ (ofB bs) 7 p1 with kk | ⟨v2, p2⟩
   ·
    rw [hT2] at he
    simp only [hT2, cB] at hF
    subst hF
    exact .inr ⟨_, he, qT (dK (qT (bY ⟨hfr2.mono jp, rfl⟩)))⟩
   rw [hT2] at he
   simp only [hT2, qS] at hF
   obtain ⟨rfl, hX2⟩ := he
   obtain ⟨hp2, hpl2, hv2, _⟩ := bC hT2
   refine .inl ⟨_, rfl, ?_⟩
   refine jb rfl rfl (Bin.add_i64 11 _ jo) (jz 0 (ja rfl (jO ?_)))
   refine jN ⟨(p2, 0, 11 + v2), (js4 rfl rfl rfl rfl), ?_⟩
   exact ⟨hX2, hfr2, hF, by dsimp only; omega⟩
  rw [if_neg hc3, qS] at hF
  refine jQ ?_
  refine jN ⟨(p1, (v1 : Int), 1), (js4 rfl rfl rfl rfl), ?_⟩
  exact ⟨hX1, hfr1, hF, by dsimp only; omega⟩
 clear hF
 rintro ⟨p2, n, times⟩ w2 ⟨hX2, hfr2, hF, ht⟩ Γ hΓ
 dsimp only at hX2 hfr2 hF ht
 have hO2 := hO.frm hfr2 (fun x hx h5 => hgrl (by simp at h5; subst h5; exact hx))
 have hsz2 := hfr2.size
 refine qK (jN (VC.sub _ hΓ ?_))
 refine jS (jR (jm rfl (jm rfl (jm rfl (je (Run.lenS rfl zf) (jb rfl rfl (Bin.sub_i64 _ _ jo jo) (jb rfl rfl (Bin.leqN _ _) ?_)))))))
 refine Ops.clp (jE2 zcy) (cC (decide (times ≤ M - all.length)) 11 _) rfl ?_
 rintro e _ ⟨rfl, rfl⟩
 by_cases hN2 : times ≤ M - all.length
 rotate_left
 ·
  refine .inr ⟨_, by rw [if_neg (by simpa using hN2)], qT (bY ?_)⟩
  rw [if_pos jo] at hF
  subst hF
  exact ⟨hfr2.mono jp, rfl⟩
 refine .inl ⟨_, by rw [if_pos (by simpa using hN2)], ?_⟩
 rw [if_neg jo] at hF
 refine jO (jN (jv3 2 10 11 ?_))
 refine jS (jS (jR (jM ?_)))
 refine jx .i64 0 ?_
 refine jO (jN (jv4 2 10 49 50 ?_))
 refine jB ?_
 refine VC.loop (σ := Nat × Option Addr × Nat) (fun s => [(2, .slice s.2.1 (all.length + s.1) s.2.2), (10, .int .i64 n), (49, .int .i64 ((times : Nat) : Int)), (50, .int .i64 ((s.1 : Nat) : Int))]) (fun s wr => s.1 ≤ times ∧ Own wr 3 1 s.2.1 (all.length + s.1) s.2.2 (IB (all ++ List.replicate s.1 n)) ∧ Frm (ob Al) w2 wr ∧ ∀ x ∈ ob s.2.1, x ∈ ob Al ∨ w2.heap.size ≤ x) (fun s => times - s.1) (0, Al, cl) (js4 rfl rfl rfl rfl) ⟨jo, by simpa using hO2, Frm.refl _ _, fun x hx => .inl hx⟩ ?_
 rintro ⟨i, B, d⟩ wr ⟨hi, hor, hfr, hu⟩
 dsimp only at hi hor hfr hu ⊢
 refine jS (jR (jb rfl rfl (Bin.lssN _ _) (jO (jN (jS ?_)))))
 refine jD rfl (fun hc4 => ?_) fun hc4 => ?_
 ·
  refine jQ (jN (jv4 2 10 49 50 ?_))
  refine jS (jB (jR (jm rfl (jM ?_))))
  refine Ops.m (qJ.buildS1 rfl zf zd gF jd jd rfl rfl) rfl ?_
  rintro _ w3 ⟨rfl, hF3⟩
  have hrd3 : Rd w3 1 (some ⟨_, 0, none⟩) 1 [.int .i64 n] := Rd.of_blk (n := 1) (size := 1) hF3.blk rfl
  refine Ops.m (qJ.app rfl rfl zf (fT) rfl jd (hor.frm hF3.frm jp) hrd3 (by simp [Value.oneCell']) jo jo) rfl ?_
  rintro _ w4 ⟨B4, c4, rfl, ho4, hf4, hob4⟩
  have hs3 := hfr.size
  have hs4 := hF3.frm.size
  have hfr4 : Frm (ob Al) w2 w4 := (hfr.trans hF3.frm jp).trans hf4 (fun x hx => (hu x hx))
  refine ja rfl (jO ?_)
  refine qK (jN ?_)
  refine jv4 2 10 49 50 ?_
  refine jR (jb rfl rfl (Bin.add_i64 _ 1 jo) (jm rfl (jO ?_)))
  refine jN ⟨(i + 1, B4, c4), (js4 rfl rfl rfl rfl), ?_, ?_⟩
  ·
   refine ⟨by dsimp only; omega, ?_, hfr4, fun x hx => ?_⟩
   ·
    dsimp only
    rw [List.replicate_succ', ← zj, oI]
    exact ho4
   rcases hob4 with h6 | h6 <;> rw [h6] at hx
   · exact hu x hx
   simp at hx; exact .inr jo
  first | omega | (dsimp only; omega)
 have hit : i = times := jo
 subst hit
 refine jX ?_
 refine qZ (qZ (qP ?_))
 refine jN (jv1 2 ?_)
 refine jS (jR (jm rfl (ja rfl (jO (jN (jv1 8 ?_))))))
 refine jT ?_
 refine qC rfl ?_
 subst hF
 refine ⟨(hfr2.mono (T := gr :: ob Al) jp).trans hfr (fun x hx => .inl (by simp [hx])), B, d, ?_, hX2.frm hfr hS0, ?_, fun x hx => (hu x hx).imp id (fun h => zo hsz2 h)⟩
 · rw [zb, zba]
 rw [zb, zba]; exact hor
end
section
open Go.RowKit
theorem qMi {v b k : Nat} (hv : v < 2 ^ k) : v ||| (b * 2 ^ k) = v + 2 ^ k * b := by
 rw [Nat.or_comm, zcf b, zfy, ← zgh hv]
theorem qYr (a : List Nat) (b : Nat) : dI (a ++ [b]) = dI a + 256 ^ a.length * b := by rw [uG]; simp [dI]
theorem qYs (i : Nat) : (256 : Nat) ^ i = 2 ^ (8 * i) := by rw [show (256 : Nat) = 2 ^ 8 from rfl, ← Nat.pow_mul]
def numAt (bs : List Nat) (a n : Nat) : Nat := dI ((bs.drop a).take n)
theorem qVr (bs : List Nat) (a i : Nat) (h : a + i < bs.length) : numAt bs a (i + 1) = numAt bs a i + 2 ^ (8 * i) * bs.getD (a + i) 0 := by
 have e : (bs.drop a).take (i + 1) = (bs.drop a).take i ++ [bs.getD (a + i) 0] := by
  rw [qXm (L := bs.drop a) (by rw [zp]; omega)]
  congr 2
  rw [zc, zda, ← zc]
 unfold numAt
 rw [e, qYr, zi, zp, zbb jo, qYs]
theorem vJ (bs : List Nat) (hB : ∀ b ∈ bs, b < 256) (a i : Nat) : numAt bs a i < 2 ^ (8 * i) := by
 have h := qJ9 ((bs.drop a).take i) (fun b hb => hB b (zbn (zag hb)))
 have h2 : ((bs.drop a).take i).length ≤ i := by rw [zi]; omega
 unfold numAt
 rw [← qYs]
 exact zat h (zae jo h2)
theorem qVs (v n : Nat) (w : World) (hn1 : 1 ≤ n) (hn8 : n ≤ 8) (hv : v < 256 ^ n) :
  Calls Tryz.prog 29 #[.int .u64 ((v : Nat) : Int), .int .i64 ((n : Nat) : Int)] w fun e w' => ∃ B d, e = .returned (.tuple #[.slice B n d, .int .i64 ((0 : Nat) : Int)]) ∧ Own w' 5 1 B n d (NB (qI v n)) ∧ Frm [] w w' ∧ ∀ x ∈ ob B, w.heap.size ≤ x := by
 have hv64 : v < 18446744073709551616 := zat hv (by
  have : (256 : Nat) ^ n ≤ 256 ^ 8 := zae jo hn8
  exact this)
 refine VC.calls (nt := 29) (res := #[.tmp 4, .tmp 5]) Tryz.func29 rfl Tryz.ntmps29 Tryz.results29 rfl ?_
 refine jS (jR (ja rfl (jz 0 (jO (jN (jv2 0 1 ?_))))))
 refine jS (jS ?_)
 refine VC.split1 [(0, _), (1, _)] (js2 rfl rfl) 12 (.bool (decide (n < 1 ∨ 8 < n))) ?_ ?_
 ·
  refine jR ?_
  refine jm rfl (jb rfl rfl (Bin.lssN _ 1) ?_)
  by_cases hs8 : n < 1
  ·
   refine jM ?_
   refine jU ?_
   refine jU ?_
   refine je (Run.pickT rfl rfl au) (jO ?_)
   refine jN ⟨(js3 (jC (by first | (simp [*]; done) | (simp; omega))) rfl rfl), rfl⟩
  refine jM ?_
  refine jG ?_
  refine jk (Run.bin rfl rfl (Bin.gtrN _ 8)) ?_
  by_cases hs11 : 8 < n
  ·
   refine je (Run.pickF rfl rfl au) (jO ?_)
   refine jN ⟨(js3 (jC (by first | (simp [*]; done) | (simp; omega))) rfl rfl), rfl⟩
  refine je (Run.pickF rfl rfl au) (jO ?_)
  refine jN ⟨(js3 (jC (by first | (simp [*]; done) | (simp; omega))) rfl rfl), rfl⟩
 intro Γ hΓ
 refine jN (VC.sub _ hΓ ?_)
 refine VC.condF rfl (decide_eq_false jo) ?_
 refine jQ (jN (jv2 0 1 ?_))
 refine jS (jR (jM ?_))
 refine Ops.m (qJ.make0 rfl rfl ze (dD) jo jo) rfl ?_
 rintro _ w1 ⟨rfl, ho1, hf1, hs1⟩
 refine ja rfl (jO (jN (jv3 0 1 6 ?_)))
 refine jS (jS (jR (jM ?_)))
 refine jx .i64 0 ?_
 refine jO (jN (jv4 0 6 15 16 ?_))
 refine jB ?_
 refine VC.loop (σ := Nat × Option Addr × Nat) (fun s => [(0, .int .u64 ((v / 256 ^ s.1 : Nat) : Int)), (6, .slice s.2.1 s.1 s.2.2), (15, .int .i64 ((n : Nat) : Int)), (16, .int .i64 ((s.1 : Nat) : Int))]) (fun s wr => s.1 ≤ n ∧ Own wr 5 1 s.2.1 s.1 s.2.2 (NB (qI v s.1)) ∧ Frm [] w wr ∧ ∀ x ∈ ob s.2.1, w.heap.size ≤ x) (fun s => n - s.1) (0, _, n) (js4 (by rw [Nat.pow_zero, Nat.div_one]; rfl) rfl rfl rfl) ⟨jo, ho1, hf1, by simp [ob]⟩ ?_
 rintro ⟨i, B, d⟩ wr ⟨hi, ho, K, hu⟩
 dsimp only at hi ho hu ⊢
 have hvl : v / 256 ^ i ≤ v := zcs _ _
 refine jS (jR (jb rfl rfl (Bin.lssN _ _) (jO (jN (jS ?_)))))
 refine jD rfl (fun hc2 => ?_) fun hc2 => ?_
 ·
  refine jQ (jN (jv4 0 6 15 16 ?_))
  refine jS (jB (jS (jR (jm rfl (jm rfl (je (Run.conv8 _ rfl zab zbh) ?_))))))
  refine Ops.m (qJ.buildS1 rfl ze zad tU jd jd rfl rfl) rfl ?_
  rintro _ w2 ⟨rfl, hF2⟩
  have ho2 := ho.frm hF2.frm jp
  have hrd2 : Rd w2 1 (some ⟨_, 0, none⟩) 1 (NB [v / 256 ^ i % 256]) := Rd.of_blk (n := 1) (size := 1) hF2.blk rfl
  refine Ops.m (qJ.app rfl rfl ze (dD) rfl jd ho2 hrd2 (dH _) jo jo) rfl ?_
  rintro _ w3 ⟨B3, d3, rfl, ho3, hf3, hob3⟩
  rw [← eA, ← zQ] at ho3
  have K3 := (K.trans hF2.frm jp).own hf3 hu
  have hu3 := cO hu hob3 (by have := K.size; have := hF2.size; omega)
  refine ja rfl (jO (jN (jv4 0 6 15 16 ?_)))
  refine jR (jm rfl (jb rfl rfl (Bin.shr_u64 _ 8 jo) ?_))
  rw [zfu, show (256 : Nat) ^ i * 2 ^ 8 = 256 ^ (i + 1) from (zbt ..).symm]
  refine ja rfl (jO ?_)
  refine qK (jN ?_)
  refine jv4 0 6 15 16 ?_
  refine jR (jb rfl rfl (Bin.add_i64 _ 1 jo) (jm rfl (jO ?_)))
  refine jN ⟨(i + 1, B3, d3), (js4 rfl rfl rfl rfl), ?_, ?_⟩
  · exact ⟨jo, ho3, K3, hu3⟩
  first | omega | (dsimp only; omega)
 refine jX ?_
 refine qZ (qZ (qP ?_))
 refine jN (jv2 0 6 ?_)
 refine jS (jS (jR (jm rfl (jb rfl rfl (Bin.neqN _ 0) (jO (jN (jv2 6 27 ?_)))))))
 refine VC.condF rfl (decide_eq_false (by rw [show i = n by omega, zeq hv]; simp)) ?_
 refine jQ (jN (jv1 6 ?_))
 refine jS (jR (jm rfl (ja rfl (jz 0 (jO (jN (jv2 4 5 ?_)))))))
 refine jT ?_
 refine cG rfl rfl ?_
 obtain rfl : i = n := jo
 exact ⟨B, d, rfl, ho, K, hu⟩
def numE (L a n : Nat) : Nat := if L < a then 4 else if L - a < n then 2 else 0
def numV (bs : List Nat) (a n : Nat) : Nat := if numE bs.length a n = 0 then numAt bs a n else 0
theorem qSd {b i : Nat} (hb : b < 256) (hi : i < 8) : b * 2 ^ (8 * i) ≤ 18446744073709551615 := by
 have h1 : 2 ^ (8 * i) ≤ 2 ^ 56 := zae jo jo
 have h2 : b * 2 ^ (8 * i) ≤ 255 * 2 ^ 56 := zgw jo h1
 omega
theorem qMj (bs : List Nat) (hB : ∀ b ∈ bs, b < 256) (a i : Nat) (hi : i ≤ 8) : numAt bs a i < 18446744073709551616 := by
 have h1 : 2 ^ (8 * i) ≤ 2 ^ 64 := zae jo jo
 exact zat (vJ bs hB a i) h1
theorem sR (A : Option Addr) (c L a n : Nat) (bs : List Nat) (w : World) (hL : bs.length = L) (hl : L ≤ 1000000000) (ha : a ≤ 1000000000) (hn1 : 1 ≤ n) (hn8 : n ≤ 8) (hB : ∀ b ∈ bs, b < 256) (hr : Rd w 1 A L (NB bs)) :
  Calls Tryz.prog 23 #[.slice A L c, .int .i64 ((a : Nat) : Int), .int .i64 ((n : Nat) : Int)] w fun e w' => e = .returned (.tuple #[.int .u64 ((numV bs a n : Nat) : Int), .int .i64 ((numE L a n : Nat) : Int)]) ∧ w = w' := by
 refine VC.calls (nt := 51) (res := #[.tmp 6, .tmp 7]) Tryz.func23 rfl Tryz.ntmps23 Tryz.results23 rfl ?_
 refine jS (jR ?_)
 refine jy .u64 0 ?_
 refine jz 0 (jO (jN (jv3 0 1 2 ?_)))
 refine jS (jB (jS ?_))
 refine VC.split1 [(0, _), (1, _), (2, _)] (js3 rfl rfl rfl) 10 (.bool (decide (n < 1 ∨ 8 < n))) ?_ ?_
 ·
  refine jR ?_
  refine jm rfl (jb rfl rfl (Bin.lssN _ 1) ?_)
  by_cases hs12 : n < 1
  ·
   refine jM ?_
   refine jU ?_
   refine jU ?_
   refine je (Run.pickT rfl rfl au) (ja rfl (jO ?_))
   refine jN ⟨(js4 (jC (by first | (simp [*]; done) | (simp; omega))) rfl rfl rfl), rfl⟩
  refine jM ?_
  refine jG ?_
  refine jk (Run.bin rfl rfl (Bin.gtrN _ 8)) ?_
  by_cases hs15 : 8 < n
  ·
   refine je (Run.pickF rfl rfl au) (ja rfl (jO ?_))
   refine jN ⟨(js4 (jC (by first | (simp [*]; done) | (simp; omega))) rfl rfl rfl), rfl⟩
  refine je (Run.pickF rfl rfl au) (ja rfl (jO ?_))
  refine jN ⟨(js4 (jC (by first | (simp [*]; done) | (simp; omega))) rfl rfl rfl), rfl⟩
 intro Γ hΓ
 refine jN (VC.sub _ hΓ ?_)
 refine VC.condF rfl (decide_eq_false jo) ?_
 refine jS ?_
 refine VC.split1 [(0, _), (1, _), (2, _)] (js3 rfl rfl rfl) 17 (.bool (decide (a < 0 ∨ L < a))) ?_ ?_
 ·
  refine jR ?_
  refine jm rfl (jb rfl rfl (Bin.lssN _ 0) ?_)
  by_cases hs19 : a < 0
  ·
   refine jM ?_
   refine jU ?_
   refine jU ?_
   refine jU ?_
   refine jU ?_
   refine je (Run.pickT rfl rfl au) (ja rfl (jO ?_))
   refine jN ⟨(js4 (jC (by first | (simp [*]; done) | (simp; omega))) rfl rfl rfl), rfl⟩
  refine jM ?_
  refine jG ?_
  refine jG ?_
  refine jk (Run.lenS rfl ze) ?_
  refine jk (Run.bin rfl rfl (Bin.gtrN _ _)) ?_
  by_cases hs24 : L < a
  ·
   refine je (Run.pickF rfl rfl au) (ja rfl (jO ?_))
   refine jN ⟨(js4 (jC (by first | (simp [*]; done) | (simp; omega))) rfl rfl rfl), rfl⟩
  refine je (Run.pickF rfl rfl au) (ja rfl (jO ?_))
  refine jN ⟨(js4 (jC (by first | (simp [*]; done) | (simp; omega))) rfl rfl rfl), rfl⟩
 intro Γ hΓ
 refine jN (VC.sub _ hΓ ?_)
 refine jD rfl (fun hc2 => ?_) fun hc2 => ?_
 ·
  refine jS (jR ?_)
  refine jy .u64 0 ?_
  refine jz 4 (jO (jN (jv2 6 7 ?_)))
  refine jT ?_
  refine qD (qN (cG rfl rfl ?_))
  have e1 : numE L a n = 4 := by unfold numE; rw [if_pos jo]
  have e2 : numV bs a n = 0 := by unfold numV; rw [hL, e1, if_neg jd]
  rw [e1, e2]
  exact ⟨rfl, rfl⟩
 refine jS (jR (jm rfl (je (Run.lenS rfl ze) (jm rfl (jb rfl rfl (Bin.sub_i64 _ _ jo jo) (jm rfl (jb rfl rfl (Bin.lssN _ _) (ja rfl (jO (jN (jv4 0 1 2 26 ?_)))))))))))
 refine jD rfl (fun hc3 => ?_) fun hc3 => ?_
 ·
  refine jS (jR ?_)
  refine jy .u64 0 ?_
  refine jz 2 (jO (jN (jv2 6 7 ?_)))
  refine jT ?_
  refine qD (qN (cG rfl rfl ?_))
  have e1 : numE L a n = 2 := by unfold numE; rw [if_neg jo, if_pos hc3]
  have e2 : numV bs a n = 0 := by unfold numV; rw [hL, e1, if_neg jd]
  rw [e1, e2]
  exact ⟨rfl, rfl⟩
 refine jQ ?_
 refine qK (jN ?_)
 refine jv3 0 1 2 ?_
 refine jS (jR ?_)
 refine jy .u64 0 ?_
 refine jO (jN (jS (jS (jR (jM ?_)))))
 refine jx .i64 0 ?_
 refine jO (jN (jv5 0 1 8 33 34 ?_))
 refine jB ?_
 refine VC.loop (σ := Nat) (fun s => [(0, .slice A L c), (1, .int .i64 ((a : Nat) : Int)), (8, .int .u64 ((numAt bs a s : Nat) : Int)), (33, .int .i64 ((n : Nat) : Int)), (34, .int .i64 ((s : Nat) : Int))]) (fun s wr => s ≤ n ∧ w = wr) (fun s => n - s) 0 (js5 rfl rfl rfl rfl rfl) ⟨jo, rfl⟩ ?_
 rintro i _ ⟨hi, rfl⟩
 have hlt := vJ bs hB a i
 have h64 := qMj bs hB a i jo
 refine jS (jR (jb rfl rfl (Bin.lssN _ _) (jO (jN (jS ?_)))))
 refine jD rfl (fun hc4 => ?_) fun hc4 => ?_
 ·
  obtain ⟨ad, rfl, hcell⟩ := lW hr hL (jo : a + i < L)
  have hsn := qVr bs a i jo
  have hb8 := fE hB (a + i)
  generalize bs.getD (a + i) 0 = b at hcell hsn hb8
  have hsh := qSd hb8 (jo : i < 8)
  refine jQ (jN (jv5 0 1 8 33 34 ?_))
  refine jS (jB (jS (jR (jm rfl (ja rfl (jO (jN (jv6 0 1 8 9 33 34 ?_))))))))
  refine jR (jm rfl (jm rfl (jm rfl (jm rfl (jb rfl rfl (Bin.add_i64 _ _ jo) (je (Run.index1 _ rfl rfl ze zad jo) (jl rfl zdn hcell (je (Run.convN _ rfl zbh zab (by simp only [bmax]; omega)) ?_))))))))
  refine jm rfl (jb rfl rfl (Bin.mul_i64 8 _ jo) (jb rfl rfl (Bin.shl_u64 _ _ jo hsh) (jb rfl rfl (Bin.or_u64 _ _ jo jo) ?_)))
  rw [qMi hlt, ← hsn]
  refine ja rfl (jO ?_)
  refine qK (jN ?_)
  refine jv5 0 1 8 33 34 ?_
  refine jR (jb rfl rfl (Bin.add_i64 _ 1 jo) (jm rfl (jO ?_)))
  refine jN ⟨i + 1, (js5 rfl rfl rfl rfl rfl), ?_, ?_⟩
  · exact ⟨jo, rfl⟩
  first | omega | (dsimp only; omega)
 refine jX ?_
 refine qZ (qZ (qP ?_))
 refine jN (jv1 8 ?_)
 refine jS (jR (jm rfl (ja rfl (jz 0 (jO (jN (jv2 6 7 ?_)))))))
 refine jT ?_
 refine cG rfl rfl ?_
 obtain rfl : i = n := jo
 have e1 : numE L a i = 0 := by unfold numE; rw [if_neg jo, if_neg hc3]
 have e2 : numV bs a i = numAt bs a i := by unfold numV; rw [hL, e1, if_pos rfl]
 rw [e1, e2]
 exact ⟨rfl, rfl⟩
def jY (w : World) (g : Nat) (A : Option Addr) (c : Nat) (bs : List Nat) (a e wh : Nat) : Prop := Blk w g 144 #[.slice A bs.length c, .int .i64 ((a : Nat) : Int), .int .i64 ((e : Nat) : Int), .int .i64 ((wh : Nat) : Int)] ∧ Own w 5 1 A bs.length c (NB bs)
theorem jY.frm {w w' : World} {g : Nat} {A : Option Addr} {c : Nat} {bs : List Nat} {a e wh : Nat} {S : List Nat} (h : jY w g A c bs a e wh) (k : Frm S w w') (hS : ∀ x ∈ g :: ob A, x ∉ S) : jY w' g A c bs a e wh := ⟨h.1.frm k (hS g jp), h.2.frm k (fun x hx => hS x (by simp [hx]))⟩
theorem jY.upd {w w' : World} {g : Nat} {A : Option Addr} {c : Nat} {bs : List Nat} {a e wh a' e' wh' : Nat} (h : jY w g A c bs a e wh) (hb : Blk w' g 144 #[.slice A bs.length c, .int .i64 ((a' : Nat) : Int), .int .i64 ((e' : Nat) : Int), .int .i64 ((wh' : Nat) : Int)]) (k : Frm [g] w w') : jY w' g A c bs a' e' wh' :=
 ⟨hb, h.2.frm k (fun x hx hx2 => by rw [zh] at hx2; subst hx2; exact h.2.ne_blk h.1 jd hx)⟩
def rdN (bs : List Nat) (a e wh n : Nat) : Nat × Nat × Nat × Nat := if e ≠ 0 then (0, a, e, wh) else if bs.length - a < n then (0, a, 2, a) else (numAt bs a n, a + n, 0, wh)
theorem qVt (A : Option Addr) (c n : Nat) (bs : List Nat) (w : World) (hn : bs.length = n) (hl : n ≤ 1000000000) (hr : Rd w 1 A n (NB bs)) :
  Calls Tryz.prog 40 #[.slice A n c] w fun e w' => ∃ g B d, e = .returned (.pointer (some ⟨g, 0, none⟩)) ∧ jY w' g B d bs 0 0 0 ∧ Frm [] w w' ∧ (∀ x ∈ g :: ob B, w.heap.size ≤ x) := by
 subst hn
 refine VC.calls (nt := 7) (res := #[.tmp 2]) Tryz.func40 rfl Tryz.ntmps40 Tryz.results40 rfl ?_
 refine jS (jR (ja rfl (jO (jN (jv1 0 ?_)))))
 refine jS (jR (jM ?_))
 refine Ops.m (qJ.app rfl rfl ze (dD) rfl jd (Own.nil _ _ _) hr (dH _) jo jo) rfl ?_
 rintro _ w1 ⟨B, d, rfl, ho, hf, hob⟩
 have hf : Frm [] w w1 := hf
 rw [zbo, zan] at ho
 rw [zan]
 refine je (Run.build (evs.cons rfl evs.nil) qPd (yM).choose_spec.1 (yM).choose_spec.2 rfl) ?_
 refine Ops.m (qJ.box rfl) rfl ?_
 rintro _ w2 ⟨rfl, hF2⟩
 have hs1 := hf.size
 have hu : ∀ x ∈ ob B, w.heap.size ≤ x := fun x hx => by
  rcases hob with h | h
  · rw [h] at hx; cases hx
  rw [h, zh] at hx; omega
 refine ja rfl (jO (jN (jv1 2 ?_)))
 refine jT ?_
 refine qC rfl ?_
 refine ⟨w1.heap.size, B, d, rfl, ⟨hF2.blk, ho.frm hF2.frm jp⟩, hf.trans hF2.frm jp, fun x hx => ?_⟩
 rcases zcq.1 hx with rfl | hx
 · exact hs1
 exact hu x hx
theorem qVu (g : Nat) (A : Option Addr) (c : Nat) (bs : List Nat) (a wh k x : Nat) (w : World) (hO : jY w g A c bs a 0 wh) :
  Calls Tryz.prog 82 #[.pointer (some ⟨g, 0, none⟩), .int .i64 ((k : Nat) : Int), .int .i64 ((x : Nat) : Int)] w fun e w' => e = .returned (.tuple #[]) ∧ jY w' g A c bs x k x ∧ Frm [g] w w' := by
 refine VC.calls (nt := 23) (res := #[]) Tryz.func82 rfl Tryz.ntmps82 Tryz.results82 rfl ?_
 refine jS (jR (jm rfl (je (Run.nilck rfl) (jf rfl zbe rfl zef (jl rfl zfz (hO.1.cell 2) (jb rfl rfl (Bin.eqlN _ 0) (jO (jN (jv4 0 1 2 10 ?_)))))))))
 refine VC.condT rfl (by rfl) ?_
 refine jS (jR (jm rfl (jm rfl (jm rfl (jm rfl (je (Run.nilck rfl) (jf rfl zbe rfl zef ?_)))))))
 refine Ops.st (qR.store rfl rfl zef hO.1 rfl rfl) ?_
 rintro w1 ⟨hb1, hf1, hs1⟩
 refine je (Run.nilck rfl) (jf rfl zbe rfl zd ?_)
 refine Ops.st (qR.store rfl rfl zd hb1 rfl rfl) ?_
 rintro w2 ⟨hb2, hf2, hs2⟩
 refine jO (jN (jv2 0 2 ?_))
 refine jR (jm rfl (jm rfl (je (Run.nilck rfl) (jf rfl zbe rfl zd ?_))))
 refine Ops.st (qR.store rfl rfl zd hb2 rfl rfl) ?_
 rintro w3 ⟨hb3, hf3, hs3⟩
 have K : Frm [g] w w3 := (hf1.trans hf2 (fun x hx => .inl hx)).trans hf3 (fun x hx => .inl hx)
 refine jO ?_
 refine eV ?_
 exact ⟨rfl, hO.upd hb3 K, K⟩
theorem gL (g : Nat) (A : Option Addr) (c : Nat) (bs : List Nat) (a e0 wh n : Nat) (w : World) (hl : bs.length ≤ 1000000000) (ha : a ≤ bs.length) (hn1 : 1 ≤ n) (hn8 : n ≤ 8) (hB : ∀ b ∈ bs, b < 256) (hO : jY w g A c bs a e0 wh) :
  Calls Tryz.prog 41 #[.pointer (some ⟨g, 0, none⟩), .int .i64 ((n : Nat) : Int)] w fun e w' => e = .returned (.int .u64 (((rdN bs a e0 wh n).1 : Nat) : Int)) ∧ jY w' g A c bs (rdN bs a e0 wh n).2.1 (rdN bs a e0 wh n).2.2.1 (rdN bs a e0 wh n).2.2.2 ∧ Frm [g] w w' := by
 refine VC.calls (nt := 43) (res := #[.tmp 4]) Tryz.func41 rfl Tryz.ntmps41 Tryz.results41 rfl ?_
 refine jS (jR ?_)
 refine jy .u64 0 ?_
 refine jO (jN (jv2 0 1 ?_))
 refine jS (jS (jR (jm rfl (je (Run.nilck rfl) (jf rfl zbe rfl zef (jl rfl zfz (hO.1.cell 2) (jb rfl rfl (Bin.neqN _ 0) (jO (jN (jv3 0 1 11 ?_))))))))))
 refine jD rfl (fun hc1 => ?_) fun hc1 => ?_
 ·
  have hR : rdN bs a e0 wh n = (0, a, e0, wh) := by unfold rdN; rw [if_pos hc1]
  refine jS (jR ?_)
  refine jy .u64 0 ?_
  refine jO (jN (jv1 4 ?_))
  refine jT ?_
  refine qN (qC rfl ?_)
  rw [hR]
  exact ⟨rfl, hO, Frm.refl _ _⟩
 obtain rfl : e0 = 0 := jo
 have hEn := show numE bs.length a n = if bs.length - a < n then 2 else 0 by unfold numE; rw [if_neg jo]
 refine jQ (jN (jv2 0 1 ?_))
 refine jS ?_
 refine VC.held (fun v => Blk v g 144 #[.slice A bs.length c, .int .i64 ((a : Nat) : Int), .int .i64 ((0 : Nat) : Int), .int .i64 ((wh : Nat) : Int)]) jK ?_
 have hS : (fun v => Blk v g 144 #[.slice A bs.length c, .int .i64 ((a : Nat) : Int), .int .i64 ((0 : Nat) : Int), .int .i64 ((wh : Nat) : Int)]) w.drew := hO.1.drawn (qQ.drew _)
 have hO := hO.frm (qQ.drew w).frm jp
 refine jH 0 rfl hS (fun w0 hw0 => Run.mv rfl) ?_
 refine jH 1 rfl hS (fun w0 hw0 => Run.nilck rfl) ?_
 refine jH 2 rfl hS (fun w0 hw0 => Run.fieldAddr rfl zbe rfl zl jd) ?_
 refine jH 3 rfl hS (fun w0 hw0 => Run.load rfl zt (hw0.cell 0)) ?_
 refine jH 4 rfl hS (fun w0 hw0 => Run.mv rfl) ?_
 refine jH 5 rfl hS (fun w0 hw0 => Run.nilck rfl) ?_
 refine jH 6 rfl hS (fun w0 hw0 => Run.fieldAddr rfl zbe rfl zd jd) ?_
 refine jH 7 rfl hS (fun w0 hw0 => Run.load rfl zg (hw0.cell 1)) ?_
 refine jH 8 rfl hS (fun w0 hw0 => Run.mv rfl) ?_
 refine qV.cl 9 rfl jK (jE3 Tryz.call23) (sR A c bs.length a n bs _ rfl hl jo hn1 hn8 hB hO.2.rd) trivial rfl rfl ?_
 rintro e _ ⟨rfl, rfl⟩
 refine ⟨_, rfl, hS, ?_⟩
 refine jH 10 rfl hS (fun w0 hw0 => Run.mv rfl) ?_
 refine jH 11 rfl hS (fun w0 hw0 => Run.extract rfl rfl) ?_
 refine jH 12 rfl hS (fun w0 hw0 => Run.extract rfl rfl) ?_
 refine jH 13 rfl hS (fun w0 hw0 => Run.asg rfl) ?_
 refine jH 14 rfl hS (fun w0 hw0 => Run.asg rfl) ?_
 refine qV.done jK ?_
 refine jN (jv4 0 1 5 6 ?_)
 refine jS (jS (jR (jm rfl (jb rfl rfl (Bin.neqN _ 0) (jO (jN (jv5 0 1 5 6 26 ?_)))))))
 refine jD rfl (fun hc2 => ?_) fun hc2 => ?_
 ·
  have hsh : bs.length - a < n := by
   by_cases h : bs.length - a < n
   · exact h
   rw [hEn, if_neg h] at hc2; exact absurd rfl hc2
  have hR : rdN bs a 0 wh n = (0, a, 2, a) := by unfold rdN; rw [if_neg jp, if_pos hsh]
  rw [if_pos hsh] at hEn
  refine jS (jR (jm rfl (jm rfl (jm rfl (je (Run.nilck rfl) (jf rfl zbe rfl zd (jl rfl zg (hO.1.cell 1) ?_)))))))
  refine Ops.cl (jE3 Tryz.call82) (qVu g A c bs a wh _ a _ hO) rfl ?_
  rintro e w2 ⟨rfl, hO2, hf2⟩
  refine ⟨_, rfl, ?_⟩
  rw [hEn] at hO2
  refine jO (jN ?_)
  refine VC.sub [] .nil ?_
  refine jS (jR ?_)
  refine jy .u64 0 ?_
  refine jO (jN (jT ?_))
  refine qN (qC rfl ?_)
  rw [hR]
  exact ⟨rfl, hO2, ((qQ.drew w).frm.mono jp).trans hf2 (fun x hx => .inl hx)⟩
 have hsh : ¬ bs.length - a < n := fun h => by
  rw [hEn, if_pos h] at hc2; omega
 have hR : rdN bs a 0 wh n = (numAt bs a n, a + n, 0, wh) := by unfold rdN; rw [if_neg jp, if_neg hsh]
 rw [if_neg hsh] at hEn
 have hNv : numV bs a n = numAt bs a n := by unfold numV; rw [hEn, if_pos rfl]
 refine jQ (jN (jv3 0 1 5 ?_))
 refine jS (jR (jm rfl (je (Run.nilck rfl) (jf rfl zbe rfl zd (jl rfl zg (hO.1.cell 1) (jm rfl (jb rfl rfl (Bin.add_i64 _ _ jo) (je (Run.nilck rfl) (jf rfl zbe rfl zd ?_)))))))))
 refine Ops.st (qR.store rfl rfl zd hO.1 rfl rfl) ?_
 rintro w3 ⟨hb3, hf3, hs3⟩
 have hO3 := hO.upd hb3 hf3
 refine jO (jN (jv1 5 ?_))
 refine jS (jR (jm rfl (ja rfl (jO (jN (jv1 4 ?_))))))
 refine jT ?_
 refine qC rfl ?_
 rw [hR, hNv]
 exact ⟨rfl, hO3, ((qQ.drew w).frm.mono jp).trans hf3 (fun x hx => .inl hx)⟩
theorem qYt (g : Nat) (A : Option Addr) (c : Nat) (bs : List Nat) (a e0 wh : Nat) (w : World) (hO : jY w g A c bs a e0 wh) :
  Calls Tryz.prog 83 #[.pointer (some ⟨g, 0, none⟩)] w fun e w' => e = .returned (.tuple #[.int .i64 ((e0 : Nat) : Int), .int .i64 ((wh : Nat) : Int)]) ∧ qQ w w' := by
 refine VC.calls (nt := 12) (res := #[.tmp 2, .tmp 3]) Tryz.func83 rfl Tryz.ntmps83 Tryz.results83 rfl ?_
 refine jS (jR (jz 0 (jz 0 (jO (jN (jv1 0 ?_))))))
 refine jS ?_
 refine VC.held (fun v => Blk v g 144 #[.slice A bs.length c, .int .i64 ((a : Nat) : Int), .int .i64 ((e0 : Nat) : Int), .int .i64 ((wh : Nat) : Int)]) jK ?_
 have hS : (fun v => Blk v g 144 #[.slice A bs.length c, .int .i64 ((a : Nat) : Int), .int .i64 ((e0 : Nat) : Int), .int .i64 ((wh : Nat) : Int)]) w.drew := hO.1.drawn (qQ.drew _)
 refine jH 0 rfl hS (fun w0 hw0 => Run.mv rfl) ?_
 refine jH 1 rfl hS (fun w0 hw0 => Run.nilck rfl) ?_
 refine jH 2 rfl hS (fun w0 hw0 => Run.fieldAddr rfl zbe rfl zef jd) ?_
 refine jH 3 rfl hS (fun w0 hw0 => Run.load rfl zfz (hw0.cell 2)) ?_
 refine jH 4 rfl hS (fun w0 hw0 => Run.mv rfl) ?_
 refine jH 5 rfl hS (fun w0 hw0 => Run.nilck rfl) ?_
 refine jH 6 rfl hS (fun w0 hw0 => Run.fieldAddr rfl zbe rfl zd jd) ?_
 refine jH 7 rfl hS (fun w0 hw0 => Run.load rfl zg (hw0.cell 3)) ?_
 refine jH 8 rfl hS (fun w0 hw0 => Run.asg rfl) ?_
 refine jH 9 rfl hS (fun w0 hw0 => Run.asg rfl) ?_
 refine qV.done jK ?_
 refine jN (jv2 2 3 ?_)
 refine jT ?_
 refine cG rfl rfl ?_
 exact ⟨rfl, qQ.drew w⟩
theorem qYu (g : Nat) (A : Option Addr) (c : Nat) (bs : List Nat) (a e0 wh : Nat) (w : World) (hl : bs.length ≤ 1000000000) (ha : a ≤ bs.length) (hO : jY w g A c bs a e0 wh) :
  Calls Tryz.prog 43 #[.pointer (some ⟨g, 0, none⟩)] w fun e w' => e = .returned (.tuple #[.int .i64 ((if e0 = 0 ∧ a < bs.length then 7 else e0 : Nat) : Int), .int .i64 ((if e0 = 0 ∧ a < bs.length then a else wh : Nat) : Int)]) ∧ qQ w w' := by
 refine VC.calls (nt := 29) (res := #[.tmp 2, .tmp 3]) Tryz.func43 rfl Tryz.ntmps43 Tryz.results43 rfl ?_
 refine jS (jR (jz 0 (jz 0 (jO (jN (jv1 0 ?_))))))
 refine jS (jS ?_)
 refine VC.splitR [(0, .pointer (some ⟨g, 0, none⟩))] (qQ w) 20 (.bool (decide (e0 = 0 ∧ a < bs.length))) ?_ ?_
 ·
  refine VC.still jK jK ?_
  refine qM ?_
  refine qE (Run.nilck rfl) ?_
  refine qE (Run.fieldAddr rfl zbe rfl zef jd) ?_
  refine qE (Run.load rfl zfz ((hO.1.drawn (qQ.drew w)).cell 2)) ?_
  refine qE (Run.bin rfl rfl (Bin.eqlN _ 0)) ?_
  by_cases hs8 : e0 = 0
  ·
   refine qM ?_
   refine qG (Run.mv rfl) ?_
   refine qG (Run.nilck rfl) ?_
   refine qG (Run.fieldAddr rfl zbe rfl zd jd) ?_
   refine qG (Run.load rfl zg ((hO.1.drawn (qQ.drew w)).cell 1)) ?_
   refine qG (Run.mv rfl) ?_
   refine qG (Run.nilck rfl) ?_
   refine qG (Run.fieldAddr rfl zbe rfl zl jd) ?_
   refine qG (Run.load rfl zt ((hO.1.drawn (qQ.drew w)).cell 0)) ?_
   refine qG (Run.lenS rfl ze) ?_
   refine qG (Run.bin rfl rfl (Bin.lssN _ _)) ?_
   by_cases hs19 : a < bs.length
   ·
    refine qE (Run.pickT rfl rfl au) ?_
    refine qW.nil ?_
    refine jN ⟨(js2 (jC (by first | (simp [*]; done) | (simp; omega))) rfl), (qQ.drew _)⟩
   refine qE (Run.pickT rfl rfl au) ?_
   refine qW.nil ?_
   refine jN ⟨(js2 (jC (by first | (simp [*]; done) | (simp; omega))) rfl), (qQ.drew _)⟩
  refine qM ?_
  refine qU ?_
  refine qU ?_
  refine qU ?_
  refine qU ?_
  refine qU ?_
  refine qU ?_
  refine qU ?_
  refine qU ?_
  refine qU ?_
  refine qU ?_
  refine qE (Run.pickF rfl rfl au) ?_
  refine qW.nil ?_
  refine jN ⟨(js2 (jC (by first | (simp [*]; done) | (simp; omega))) rfl), (qQ.drew _)⟩
 intro Γ wr2 hΓ hd2
 refine jN (VC.sub _ hΓ ?_)
 refine jD rfl (fun hc1 => ?_) fun hc1 => ?_
 ·
  refine jS ?_
  refine VC.held (fun v => Blk v g 144 #[.slice A bs.length c, .int .i64 ((a : Nat) : Int), .int .i64 ((e0 : Nat) : Int), .int .i64 ((wh : Nat) : Int)]) jK ?_
  have hS : (fun v => Blk v g 144 #[.slice A bs.length c, .int .i64 ((a : Nat) : Int), .int .i64 ((e0 : Nat) : Int), .int .i64 ((wh : Nat) : Int)]) wr2.drew := (hO.1.drawn hd2).drawn (qQ.drew _)
  refine jH 0 rfl hS (fun w0 hw0 => Run.mv rfl) ?_
  refine jH 1 rfl hS (fun w0 hw0 => Run.nilck rfl) ?_
  refine jH 2 rfl hS (fun w0 hw0 => Run.fieldAddr rfl zbe rfl zd jd) ?_
  refine jH 3 rfl hS (fun w0 hw0 => Run.load rfl zg (hw0.cell 1)) ?_
  refine qV.take (v := .int .i64 ((7 : Nat) : Int)) 4 rfl jK jK jK hS (fun w0 hw0 => Run.asg rfl) trivial rfl rfl ?_
  refine jH 5 rfl hS (fun w0 hw0 => Run.asg rfl) ?_
  refine qV.done jK ?_
  refine jN (jv2 2 3 ?_)
  refine jT ?_
  refine qN (cG rfl rfl ?_)
  rw [if_pos hc1, if_pos hc1]
  exact ⟨rfl, hd2.trans (qQ.drew _)⟩
 refine jQ (jN (jv1 0 ?_))
 refine jS (jR (jM ?_))
 refine Ops.cl (jE1 Tryz.call83) (qYt g A c bs a e0 wh wr2 (hO.frm hd2.frm jp)) rfl ?_
 rintro e w3 ⟨rfl, hd3⟩
 refine ⟨_, rfl, ?_⟩
 refine je (Run.extract rfl rfl) (je (Run.extract rfl rfl) (ja rfl (ja rfl (jO (jN (jv2 2 3 ?_))))))
 refine jT ?_
 refine cG rfl rfl ?_
 rw [if_neg hc1, if_neg hc1]
 exact ⟨rfl, hd2.trans hd3⟩
theorem qJd (A : Option Addr) (c n : Nat) (bs : List Nat) (w : World) (hn : bs.length = n) (hl : n ≤ 1000000000) (hr : Rd w 1 A n (NB bs)) :
  Calls Tryz.prog 28 #[.slice A n c] w fun e w' => ∃ B d, e = .returned (.slice B n d) ∧ Own w' 5 1 B n d (NB bs) ∧ Frm [] w w' ∧ ∀ x ∈ ob B, w.heap.size ≤ x := by
 refine VC.calls (nt := 8) (res := #[.tmp 2]) Tryz.func28 rfl Tryz.ntmps28 Tryz.results28 rfl ?_
 refine jS (jR (ja rfl (jO (jN (jv1 0 ?_)))))
 refine jS (jS (jR (jm rfl (je (Run.eqNilS rfl rfl ze) (jO (jN (jv2 0 4 ?_)))))))
 refine VC.condB rfl (fun hc1 => ?_) (fun hc1 => ?_)
 ·
  refine jS (jR (ja rfl (jO (jN (jv1 2 ?_)))))
  refine jT ?_
  refine qN (qC rfl ?_)
  obtain rfl : A = none := by cases A with | none => rfl | some a => cases hc1
  have hn0 : n = 0 := by
   rcases zcg n with h | h
   · exact h
   obtain ⟨_, h1, _⟩ := hr.2 h; cases h1
  subst hn0
  obtain rfl : bs = [] := zz hn
  exact ⟨none, 0, rfl, Own.nil _ _ _, Frm.refl _ _, by simp [ob]⟩
 refine jQ (jN (jv1 0 ?_))
 refine jS (jR ?_)
 refine Ops.m (qJ.buildS0 ze zad) rfl ?_
 rintro _ w1 ⟨rfl, hF1⟩
 have ho1 : Own w1 5 1 (some ⟨w.heap.size, 0, none⟩) 0 0 (NB []) := Own.of_blk hF1.blk rfl (by simp [maxLen])
 refine jM ?_
 refine Ops.m (qJ.app rfl rfl ze (dD) rfl jd ho1 (hr.frm hF1.frm jp) (dH _) jo jo) rfl ?_
 rintro _ w2 ⟨B, d, rfl, ho2, hf2, hob⟩
 rw [zan] at ho2
 rw [zan]
 have hs1 := hF1.size
 refine ja rfl (jO (jN (jv1 2 ?_)))
 refine jT ?_
 refine qC rfl ?_
 refine ⟨B, d, rfl, ho2, hF1.frm.own hf2 (by simp [ob]), fun x hx => ?_⟩
 rcases hob with h | h
 · rw [h] at hx; simp [ob] at hx; omega
 rw [h, zh] at hx; omega
theorem qJe (A : Option Addr) (c n : Nat) (bs : List Nat) (w : World) (hn : bs.length = n) (hl : n ≤ 1000000000) (hr : Rd w 1 A n (NB bs)) :
  Calls Tryz.prog 24 #[.slice A n c] w fun e w' => ∃ B d, e = .returned (.slice B n d) ∧ Own w' 5 1 B n d (NB bs) ∧ Frm [] w w' ∧ ∀ x ∈ ob B, w.heap.size ≤ x := by
 refine VC.calls (nt := 8) (res := #[.tmp 2]) Tryz.func24 rfl Tryz.ntmps24 Tryz.results24 rfl ?_
 refine jS (jR (ja rfl (jO (jN (jv1 0 ?_)))))
 refine jS (jS (jR (jm rfl (je (Run.eqNilS rfl rfl ze) (jO (jN (jv2 0 4 ?_)))))))
 refine VC.condB rfl (fun hc1 => ?_) (fun hc1 => ?_)
 ·
  refine jS (jR (ja rfl (jO (jN (jv1 2 ?_)))))
  refine jT ?_
  refine qN (qC rfl ?_)
  obtain rfl : A = none := by cases A with | none => rfl | some a => cases hc1
  have hn0 : n = 0 := by
   rcases zcg n with h | h
   · exact h
   obtain ⟨_, h1, _⟩ := hr.2 h; cases h1
  subst hn0
  obtain rfl : bs = [] := zz hn
  exact ⟨none, 0, rfl, Own.nil _ _ _, Frm.refl _ _, by simp [ob]⟩
 refine jQ (jN (jv1 0 ?_))
 refine jS (jR ?_)
 refine Ops.m (qJ.buildS0 ze zad) rfl ?_
 rintro _ w1 ⟨rfl, hF1⟩
 have ho1 : Own w1 5 1 (some ⟨w.heap.size, 0, none⟩) 0 0 (NB []) := Own.of_blk hF1.blk rfl (by simp [maxLen])
 refine jM ?_
 refine Ops.m (qJ.app rfl rfl ze (dD) rfl jd ho1 (hr.frm hF1.frm jp) (dH _) jo jo) rfl ?_
 rintro _ w2 ⟨B, d, rfl, ho2, hf2, hob⟩
 rw [zan] at ho2
 rw [zan]
 have hs1 := hF1.size
 refine ja rfl (jO (jN (jv1 2 ?_)))
 refine jT ?_
 refine qC rfl ?_
 refine ⟨B, d, rfl, ho2, hF1.frm.own hf2 (by simp [ob]), fun x hx => ?_⟩
 rcases hob with h | h
 · rw [h] at hx; simp [ob] at hx; omega
 rw [h, zh] at hx; omega
end
section
open Go.RowKit
theorem qYv (f : Nat → Nat) : ∀ n, n ≤ 15 → fstF f n * 2 ^ (15 - n) = KC f n
 | 0, _ => by simp [fstF, KC]
 | n + 1, h => by
  have ih := qYv f n jo
  have e : 2 ^ (15 - n) = 2 * 2 ^ (15 - (n + 1)) := by rw [show 15 - n = (15 - (n + 1)) + 1 by omega, zbt, zcf]
  rw [KC, ← ih, fstF, e, zdu, zfr]
theorem qKa (f : Nat → Nat) : ∀ d n, KC f n ≤ KC f (n + d)
 | 0, n => zk _
 | d + 1, n => by
  have := qKa f d n
  show _ ≤ KC f (n + d + 1)
  rw [KC]
  omega
theorem qMk (l : List Int) (n : Nat) (hn : n ≤ 15) (hk : KC (cn l) 16 ≤ 32768) : bU l n + cn l n ≤ 2 ^ n := by
 have h1 := qYv (cn l) n hn
 have h2 := qKa (cn l) (15 - n) (n + 1)
 rw [show n + 1 + (15 - n) = 16 by omega, KC, ← h1, ← zfr] at h2
 have h3 : 2 ^ n * 2 ^ (15 - n) = 32768 := by rw [← Nat.pow_add, show n + (15 - n) = 15 by omega]
 have h4 : (fstF (cn l) n + cn l n) * 2 ^ (15 - n) ≤ 2 ^ n * 2 ^ (15 - n) := jo
 exact Nat.le_of_mul_le_mul_right h4 (zfm _)
def bK (l : List Int) (s : Nat) : List Bool := (bitsL (cE l s).1 (cE l s).2.toNat).reverse
theorem pT {l : List Int} {s : Nat} (hg : fC l) (hk : KC (cn l) 16 ≤ 32768) (hs : s < l.length) : cE l s = (0, 0) ∨ ∃ n : Nat, cE l s = (cY l s, (n : Int)) ∧ l.getD s 0 = (n : Int) ∧ 1 ≤ n ∧ n ≤ 15 ∧ cY l s < 2 ^ n := by
 unfold cE
 split
 · exact .inl rfl
 rename_i h
 have hx : l.getD s 0 ∈ l := by rw [zc, za hs]; exact zw hs
 obtain ⟨h1, h2⟩ := hg.2 _ hx
 obtain ⟨n, hn⟩ : ∃ n : Nat, l.getD s 0 = (n : Int) := ⟨(l.getD s 0).toNat, jo⟩
 have h3 := pN l s n hs jo hn
 have h4 := qMk l n jo hk
 refine .inr ⟨n, by rw [hn], hn, jo, jo, ?_⟩
 unfold cY
 rw [hn, zal]
 omega
theorem qYw {l : List Int} {s : Nat} (h : cE l s = (0, 0)) : bK l s = [] := by unfold bK; rw [h]; rfl
theorem fH {l : List Int} {s : Nat} (hg : fC l) (hk : KC (cn l) 16 ≤ 32768) (hs : s < l.length) : (bK l s).length ≤ 15 := by
 unfold bK
 rw [zgn, qH]
 rcases pT hg hk hs with h | ⟨n, h, _, _, h2, _⟩
 · rw [h]; simp
 rw [h]; simp; omega
def lY (T : List (Nat × Nat)) (n : Nat) : Nat → Nat
 | 0 => 0
 | k + 1 => if (T.getD k (0, 0)).1 ≤ n then k else lY T n k
theorem xC {T : List (Nat × Nat)} {n i : Nat} (h1 : (T.getD i (0, 0)).1 ≤ n) : ∀ k, i < k → (∀ j, i < j → j < k → n < (T.getD j (0, 0)).1) → lY T n k = i
 | 0, h, _ => jo
 | k + 1, h, h2 => by
  unfold lY
  by_cases hk : i = k
  ·
   subst hk
   rw [if_pos h1]
  rw [if_neg (by have := h2 k jo jo; omega)]
  exact xC h1 k jo (fun j hj1 hj2 => h2 j hj1 jo)
def lenS (n : Nat) : Nat := lY longT n 29
def wayS (n : Nat) : Nat := lY wayT n 30
def lG (l : List Int) (n : Nat) : List Bool := bK l (257 + lenS n) ++ bitsL (n - (longT.getD (lenS n) (0, 0)).1) (longT.getD (lenS n) (0, 0)).2
def mV (l : List Int) (n : Nat) : List Bool := bK l (wayS n) ++ bitsL (n - (wayT.getD (wayS n) (0, 0)).1) (wayT.getD (wayS n) (0, 0)).2
def gK (a b : List Int) (t : Tk) : List Bool := if t.2.1 = 0 then bK a t.1 else lG a t.2.1 ++ mV b t.2.2
def cN (a b : List Int) (l : List Tk) : List Bool := l.flatMap (gK a b) ++ bK a 256
def pU (t : Tk) : Prop := (t.2.1 = 0 ∧ t.2.2 = 0 ∧ t.1 < 256) ∨ (t.1 = 0 ∧ 3 ≤ t.2.1 ∧ t.2.1 ≤ 258 ∧ 1 ≤ t.2.2 ∧ t.2.2 ≤ 32768)
theorem zZ {T : List (Nat × Nat)} {n : Nat} (h0 : (T.getD 0 (0, 0)).1 ≤ n) : ∀ k, 0 < k → lY T n k < k ∧ (T.getD (lY T n k) (0, 0)).1 ≤ n ∧ ∀ j, lY T n k < j → j < k → n < (T.getD j (0, 0)).1
 | 0, h => jo
 | 1, _ => by
  unfold lY
  rw [if_pos h0]
  exact ⟨jo, h0, fun j h1 h2 => jo⟩
 | k + 2, _ => by
  have ih := zZ h0 (k + 1) jo
  rw [lY]
  split
  ·
   rename_i h
   exact ⟨jo, h, fun j h1 h2 => jo⟩
  rename_i h
  refine ⟨jo, ih.2.1, fun j h1 h2 => ?_⟩
  by_cases hj : j = k + 1
  · subst hj; omega
  exact ih.2.2 j h1 jo
theorem hZ {n : Nat} (h1 : 3 ≤ n) (h2 : n ≤ 258) : lenS n < 29 ∧ (longT.getD (lenS n) (0, 0)).1 ≤ n ∧ n - (longT.getD (lenS n) (0, 0)).1 < 2 ^ (longT.getD (lenS n) (0, 0)).2 ∧ (longT.getD (lenS n) (0, 0)).2 ≤ 5 := by
 have h : ∀ n, n < 259 → 3 ≤ n → lenS n < 29 ∧ (longT.getD (lenS n) (0, 0)).1 ≤ n ∧ n - (longT.getD (lenS n) (0, 0)).1 < 2 ^ (longT.getD (lenS n) (0, 0)).2 ∧ (longT.getD (lenS n) (0, 0)).2 ≤ 5 := by decide +kernel
 exact h n jo h1
theorem qYx : ∀ i, i < 29 → (wayT.getD (i + 1) (0, 0)).1 = (wayT.getD i (0, 0)).1 + 2 ^ (wayT.getD i (0, 0)).2 := by decide +kernel
theorem qVv : ∀ i, i < 30 → (wayT.getD i (0, 0)).2 ≤ 13 := by decide +kernel
theorem jZ {n : Nat} (h1 : 1 ≤ n) (h2 : n ≤ 32768) : wayS n < 30 ∧ (wayT.getD (wayS n) (0, 0)).1 ≤ n ∧ n - (wayT.getD (wayS n) (0, 0)).1 < 2 ^ (wayT.getD (wayS n) (0, 0)).2 ∧ (wayT.getD (wayS n) (0, 0)).2 ≤ 13 := by
 obtain ⟨h3, h4, h5⟩ := zZ (T := wayT) (n := n) h1 30 jo
 refine ⟨h3, h4, ?_, qVv _ h3⟩
 show n - (wayT.getD (lY wayT n 30) (0, 0)).1 < 2 ^ (wayT.getD (lY wayT n 30) (0, 0)).2
 generalize lY wayT n 30 = s at h3 h4 h5
 by_cases h : s = 29
 ·
  subst h
  have e0 : (wayT.getD 29 (0, 0)).1 = 24577 := rfl
  have e1 : (wayT.getD 29 (0, 0)).2 = 13 := rfl
  rw [e0, e1]
  omega
 have := qYx s jo
 have := h5 (s + 1) jo jo
 omega
def LOk (l : List Int) : Prop := fC l ∧ KC (cn l) 16 ≤ 32768
theorem qMl {a b : List Int} (ha : LOk a) (hb : LOk b) (hna : 286 ≤ a.length) (hnb : 30 ≤ b.length) {t : Tk} (ht : pU t) : (gK a b t).length ≤ 48 := by
 unfold gK
 rcases ht with ⟨h1, h2, h3⟩ | ⟨h1, h2, h3, h4, h5⟩
 ·
  rw [if_pos h1]
  have := fH ha.1 ha.2 (jo : t.1 < a.length)
  omega
 rw [if_neg jo]
 obtain ⟨h6, _, _, h7⟩ := hZ h2 h3
 obtain ⟨h8, _, _, h9⟩ := jZ h4 h5
 have h10 := fH ha.1 ha.2 (jo : 257 + lenS t.2.1 < a.length)
 have h11 := fH hb.1 hb.2 (jo : wayS t.2.2 < b.length)
 unfold lG mV
 simp only [zb, qH]
 omega
theorem nA {a b : List Int} (ha : LOk a) (hb : LOk b) (hna : 286 ≤ a.length) (hnb : 30 ≤ b.length) : ∀ L : List Tk, (∀ t ∈ L, pU t) → (L.flatMap (gK a b)).length ≤ 48 * L.length
 | [], _ => jp
 | t :: L, h => by
  have h1 := qMl ha hb hna hnb (h t jp)
  have h2 := nA ha hb hna hnb L (fun x hx => h x (by simp [hx]))
  rw [zm, zb, zq]
  omega
end
section
open Go.RowKit
theorem qKb (a b : Nat × Int) (w : World) : (Op.eqFields 9999 (CB a).toArray (CB b).toArray (Tryz.prog.fieldsOf 179).toList).run Tryz.prog w = .ok (decide (a = b)) w := by
 obtain ⟨f0, f1, hf, ⟨n0, t0, o0⟩, n1, t1, o1⟩ := qWq
 rw [hf]
 have h := qJx (P := Tryz.prog) (w := w) (d := 9998) (xs := (CB a).toArray) (ys := (CB b).toArray) (f := f0) (fs := [f1]) (k := .u64) (k' := .u64) (a := a.1) (b := b.1) (by rw [n0]; decide) (by rw [t0]; exact zcc) (by rw [t0]; exact zab) (by rw [o0]; rfl) (by rw [o0]; rfl)
  (qJx (k := .i64) (k' := .i64) (a := a.2) (b := b.2) (by rw [n1]; decide) (by rw [t1]; exact zg) (by rw [t1]; exact zx) (by rw [o1]; rfl) (by rw [o1]; rfl) qPc)
 have e : decide (a = b) = (decide ((a.1 : Int) = (b.1 : Int)) && (decide (a.2 = b.2) && true)) := by
  obtain ⟨a1, a2⟩ := a
  obtain ⟨b1, b2⟩ := b
  rw [zgo]
  simp
  intro _
  omega
 rw [e]
 exact h
end
section
open Go.RowKit
def WR (w w' : World) (g : Nat) (A : Option Addr) (l : List Bool) : Prop := ∃ A', IsW w' g A' l ∧ Frm (g :: ob A) w w' ∧ ∀ x ∈ ob A', x ∈ ob A ∨ w.heap.size ≤ x
theorem WR.refl {w : World} {g : Nat} {A : Option Addr} {l : List Bool} (h : IsW w g A l) : WR w w g A l := ⟨A, h, Frm.refl _ _, fun _ hx => .inl hx⟩
theorem qN0 : ∀ (L : List (Nat × Int)) (s : Nat) (h : s < L.length), ((L.flatMap CB).drop (s * 2)).take 2 = CB L[s]
 | a :: L, 0, _ => rfl
 | a :: L, s + 1, h => by
  have := qN0 L s (by simpa using h)
  rw [show (a :: L).flatMap CB = CB a ++ L.flatMap CB from rfl, show (s + 1) * 2 = (CB a).length + s * 2 by rw [qYa]; omega, zcp]
  exact this
theorem wR (l : List Int) (s : Nat) (hs : s < l.length) : (((eZ l).flatMap CB).drop (s * 2)).take 2 = CB (cE l s) := by
 rw [qN0 _ s (by simpa [eZ] using hs)]
 simp [eZ]
theorem qYy (g s c : Nat) (A B : Option Addr) (l : List Bool) (ls : List Int) (w : World) (hl3 : ls.length ≤ 320) (hs : s < ls.length) (hl : l.length ≤ 1000000000) (hW : IsW w g A l) (hr : Rd w 2 B ls.length ((eZ ls).flatMap CB)) (h0 : cE ls s = (0, 0)) :
  Calls Tryz.prog 92 #[.pointer (some ⟨g, 0, none⟩), .slice B ls.length c, .int .i64 ((s : Nat) : Int)] w fun e w' => (∃ k : Int, e = .returned (.int .i64 k)) ∧ WR w w' g A (l ++ bK ls s) := by
 obtain ⟨ad, rfl, hel⟩ := hr.elem hs
 rw [wR ls s hs, h0] at hel
 refine VC.calls (nt := 39) (res := #[.tmp 6]) Tryz.func92 rfl Tryz.ntmps92 Tryz.results92 rfl ?_
 refine jS (jR (jz 0 (jO (jN (jv3 0 1 2 ?_)))))
 refine jS (jS (jR (jm rfl (jb rfl rfl (Bin.lssN _ 0) (jM ?_)))))
 refine jG ?_
 refine jG ?_
 refine jk (Run.lenS rfl zet) ?_
 refine jk (Run.bin rfl rfl (Bin.geqN _ _)) ?_
 refine je (Run.pickF rfl rfl au) (jO (jN (jv4 0 1 2 15 ?_)))
 refine VC.condF rfl (by first | rfl | (simp; omega)) ?_
 refine jQ (jN (jv3 0 1 2 ?_))
 refine jS (jR (jm rfl (jm rfl (je (Run.indexS _ rfl rfl zet zdv jo) (je (Run.loadA rfl Tryz.isAgg179 zdv hel (by first | rfl | (simp; done))) ?_)))))
 refine Ops.m (qJ.alloc oB) rfl ?_
 rintro _ w1 ⟨rfl, hF1⟩
 have hg1 : g ≠ w.heap.size := by have := hW.lt g jp; omega
 have hW1 := hW.frm hF1.frm jp
 have hAl := fun x hx => hW.lt x hx
 refine Ops.st (qR.storeA rfl rfl zdv hF1.blk rfl (qXc _)) ?_
 rintro w2 ⟨hb2, hf12, hs12⟩
 have hW2 := hW1.frm hf12 (fun x hx => by have := hAl x hx; simp; omega)
 have hf2 : Frm [] w w2 := hF1.frm.own hf12 jp
 have hb2 : Blk w2 w.heap.size 179 (CB (0, 0)).toArray := hb2
 refine jO (jN (jv2 0 7 ?_))
 refine jS (jB (jS (jR (je (Run.loadA rfl Tryz.isAgg179 zdv (fun j v hj => hb2.cells j v (by simpa using hj)) (by first | rfl | (simp; done))) (je (Run.build evs.nil oB (kM).choose_spec.1 (kM).choose_spec.2 rfl) (je (Run.eqlAgg rfl rfl jK jK jK ((qKb (0, 0) (0, 0) _))) (ja rfl (jO (jN (jv3 0 7 20 ?_))))))))))
 refine VC.condT rfl (rfl) ?_
 refine jS (jR (jz 11 (jO (jN (jv1 6 ?_)))))
 refine jT ?_
 refine qD (qN (qC rfl ?_))
 exact ⟨⟨_, rfl⟩, by rw [qYw h0, zcz]; exact ⟨A, hW2, hf2.mono jp, fun x hx => .inl hx⟩⟩
theorem qYz (g s c : Nat) (A B : Option Addr) (l : List Bool) (ls : List Int) (w : World) (hl3 : ls.length ≤ 320) (hs : s < ls.length) (hl : l.length ≤ 1000000000) (hW : IsW w g A l) (hr : Rd w 2 B ls.length ((eZ ls).flatMap CB)) (n : Nat) (h0 : cE ls s = (cY ls s, (n : Int))) (h1 : 1 ≤ n) (h2 : n ≤ 15) (h3 : cY ls s < 2 ^ n) :
  Calls Tryz.prog 92 #[.pointer (some ⟨g, 0, none⟩), .slice B ls.length c, .int .i64 ((s : Nat) : Int)] w fun e w' => (∃ k : Int, e = .returned (.int .i64 k)) ∧ WR w w' g A (l ++ bK ls s) := by
 obtain ⟨ad, rfl, hel⟩ := hr.elem hs
 rw [wR ls s hs, h0] at hel
 have hpw : 2 ^ n ≤ 2 ^ 15 := zae jo h2
 have hne : ¬ ((cY ls s, (n : Int)) = ((0, 0) : Nat × Int)) := fun h => by have := (Prod.mk.inj h).2; omega
 refine VC.calls (nt := 39) (res := #[.tmp 6]) Tryz.func92 rfl Tryz.ntmps92 Tryz.results92 rfl ?_
 refine jS (jR (jz 0 (jO (jN (jv3 0 1 2 ?_)))))
 refine jS (jS (jR (jm rfl (jb rfl rfl (Bin.lssN _ 0) (jM ?_)))))
 refine jG ?_
 refine jG ?_
 refine jk (Run.lenS rfl zet) ?_
 refine jk (Run.bin rfl rfl (Bin.geqN _ _)) ?_
 refine je (Run.pickF rfl rfl au) (jO (jN (jv4 0 1 2 15 ?_)))
 refine VC.condF rfl (by first | rfl | (simp; omega)) ?_
 refine jQ (jN (jv3 0 1 2 ?_))
 refine jS (jR (jm rfl (jm rfl (je (Run.indexS _ rfl rfl zet zdv jo) (je (Run.loadA rfl Tryz.isAgg179 zdv hel (by first | rfl | (simp; done))) ?_)))))
 refine Ops.m (qJ.alloc oB) rfl ?_
 rintro _ w1 ⟨rfl, hF1⟩
 have hg1 : g ≠ w.heap.size := by have := hW.lt g jp; omega
 have hW1 := hW.frm hF1.frm jp
 have hAl := fun x hx => hW.lt x hx
 refine Ops.st (qR.storeA rfl rfl zdv hF1.blk rfl (qXc _)) ?_
 rintro w2 ⟨hb2, hf12, hs12⟩
 have hW2 := hW1.frm hf12 (fun x hx => by have := hAl x hx; simp; omega)
 have hf2 : Frm [] w w2 := hF1.frm.own hf12 jp
 have hb2 : Blk w2 w.heap.size 179 (CB (cY ls s, (n : Int))).toArray := hb2
 refine jO (jN (jv2 0 7 ?_))
 refine jS (jB (jS (jR (je (Run.loadA rfl Tryz.isAgg179 zdv (fun j v hj => hb2.cells j v (by simpa using hj)) (by first | rfl | (simp; done))) (je (Run.build evs.nil oB (kM).choose_spec.1 (kM).choose_spec.2 rfl) (je (Run.eqlAgg rfl rfl jK jK jK ((qKb (cY ls s, (n : Int)) (0, 0) _))) (ja rfl (jO (jN (jv3 0 7 20 ?_))))))))))
 refine VC.condF rfl (decide_eq_false hne) ?_
 refine jS (jR (jf rfl zer rfl zd (jl rfl zg (hb2.cell 1) (jb rfl rfl (Bin.lssN _ 1) (jM ?_)))))
 refine jk (Run.fieldAddr rfl zer rfl zd jd) ?_
 refine jk (Run.load rfl zg (hb2.cell 1)) ?_
 refine jk (Run.bin rfl rfl (Bin.gtrN _ 15)) ?_
 refine je (Run.pickF rfl rfl au) (ja rfl (jO (jN (jv3 0 7 24 ?_))))
 refine VC.condF rfl (by first | rfl | (simp; omega)) ?_
 refine jQ ?_
 refine qK (jN ?_)
 refine jv2 0 7 ?_
 refine jS (jR (jm rfl (jf rfl zer rfl zbd (jl rfl zcc (hb2.cell 0) (jf rfl zer rfl zd (jl rfl zg (hb2.cell 1) ?_))))))
 refine Ops.cl (jE3 Tryz.call122) (qW4 g (cY ls s) n A l _ h3 jo hl hW2) rfl ?_
 rintro e w3 ⟨rfl, A3, hW3, hf3, hA3⟩
 refine ⟨_, rfl, ?_⟩
 refine ja rfl (jO (jN (jv1 6 ?_)))
 refine jT ?_
 refine qC rfl ?_
 refine ⟨⟨_, rfl⟩, A3, ?_, (hf2.mono jp).trans hf3 (fun x hx => .inl hx), fun x hx => ?_⟩
 ·
  unfold bK
  rw [h0]
  exact hW3
 rcases hA3 x hx with h | h
 · exact .inl h
 exact .inr (zo hf2.size h)
theorem sS (g s c : Nat) (A B : Option Addr) (l : List Bool) (ls : List Int) (w : World) (hg : fC ls) (hk : KC (cn ls) 16 ≤ 32768) (hs : s < ls.length) (hl : l.length ≤ 1000000000) (hW : IsW w g A l) (hr : Rd w 2 B ls.length ((eZ ls).flatMap CB)) :
  Calls Tryz.prog 92 #[.pointer (some ⟨g, 0, none⟩), .slice B ls.length c, .int .i64 ((s : Nat) : Int)] w fun e w' => (∃ k : Int, e = .returned (.int .i64 k)) ∧ WR w w' g A (l ++ bK ls s) := by
 rcases pT hg hk hs with h | ⟨n, h1, _, h2, h3, h4⟩
 · exact qYy g s c A B l ls w hg.1 hs hl hW hr h
 exact qYz g s c A B l ls w hg.1 hs hl hW hr n h1 h2 h3 h4
theorem IsW.keepB {w w' : World} {g x : Nat} {A : Option Addr} {l : List Bool} {t : TypeId} {cs : Array Value} (h : IsW w g A l) (f : Frm (g :: ob A) w w') (hb : Blk w x t cs) (h1 : 154 ≠ t) (h2 : 5 ≠ t) : Blk w' x t cs := by
 obtain ⟨c, h3, h4⟩ := h
 refine hb.frm f (fun hx => ?_)
 rcases zcq.1 hx with rfl | hx
 · exact h3.ne hb h1 rfl
 exact h4.ne_blk hb h2 hx
theorem IsW.keepO {w w' : World} {g e size n c : Nat} {A B : Option Addr} {l : List Bool} {xs : List Value} (h : IsW w g A l) (f : Frm (g :: ob A) w w') (ho : Own w e size B n c xs) (h1 : 154 ≠ e) (h2 : 5 ≠ e) : Own w' e size B n c xs := by
 obtain ⟨c2, h3, h4⟩ := h
 refine ho.frm f (fun x hx hx2 => ?_)
 rcases zcq.1 hx2 with rfl | hx2
 · exact ho.ne_blk h3 (Ne.symm h1) hx
 exact h4.ne_own ho h2 x hx2 hx
theorem WR.trans {w w1 w2 : World} {g : Nat} {A A1 : Option Addr} {l2 : List Bool} (f : Frm (g :: ob A) w w1) (hA : ∀ x ∈ ob A1, x ∈ ob A ∨ w.heap.size ≤ x) (h : WR w1 w2 g A1 l2) : WR w w2 g A l2 := by
 obtain ⟨A2, h1, h2, h3⟩ := h
 refine ⟨A2, h1, f.trans h2 (fun x hx => ?_), fun x hx => ?_⟩
 ·
  rcases zcq.1 hx with rfl | hx
  · exact .inl jp
  rcases hA x hx with h | h
  · exact .inl (by simp [h])
  exact .inr h
 rcases h3 x hx with h | h
 · exact hA x h
 exact .inr (zo f.size h)
theorem sT (v1 v2 : Value) (h1 : v1.cells = #[v1]) (h2 : v2.cells = #[v2]) (w : World) :
  Calls Tryz.prog 64 #[v1, v2] w fun e w' => ∃ g2 g3, e = .returned (.func (.func 99) #[] #[.pointer (some ⟨g2, 0, none⟩), .pointer (some ⟨g3, 0, none⟩)]) ∧ Blk w' g2 88 #[v1] ∧ Blk w' g3 117 #[v2] ∧ Frm [] w w' := by
 refine VC.calls (nt := 6) (res := #[.tmp 4]) Tryz.func64 rfl Tryz.ntmps64 Tryz.results64 rfl ?_
 refine jS (jR ?_)
 refine Ops.m (qJ.box rfl) rfl ?_
 rintro _ w1 ⟨rfl, hF1⟩
 refine Ops.m (qJ.box rfl) rfl ?_
 rintro _ w2 ⟨rfl, hF2⟩
 refine ja rfl (jO (jN (jv2 2 3 ?_)))
 refine jS (jR (je (Run.mkFunc evs.nil (evs.cons rfl (evs.cons rfl evs.nil))) (ja rfl (jO (jN (jv1 4 ?_))))))
 refine jT ?_
 refine qC rfl ?_
 have hb1 := hF1.blk
 have hb2 := hF2.blk
 rw [h1] at hb1
 rw [h2] at hb2
 exact ⟨_, _, rfl, hb1.frm hF2.frm jp, hb2, hF1.frm.trans hF2.frm jp⟩
theorem pB (g g2 g3 s n v c : Nat) (A B : Option Addr) (l : List Bool) (ls : List Int) (w : World) (hg : fC ls) (hk : KC (cn ls) 16 ≤ 32768) (hs : s < ls.length) (hv : v < 2 ^ n) (hn : n ≤ 32) (hl : l.length ≤ 900000000) (hW : IsW w g A l) (ho : Own w 179 2 B ls.length c ((eZ ls).flatMap CB))
  (hb2 : Blk w g2 88 #[.pointer (some ⟨g, 0, none⟩)]) (hb3 : Blk w g3 117 #[.slice B ls.length c]) :
  Calls Tryz.prog 99 #[.int .i64 ((s : Nat) : Int), .int .i64 ((n : Nat) : Int), .int .i64 ((v : Nat) : Int), .pointer (some ⟨g2, 0, none⟩), .pointer (some ⟨g3, 0, none⟩)] w fun e w' => e = .returned (.tuple #[]) ∧ WR w w' g A (l ++ bK ls s ++ bitsL v n) := by
 have hpw : 2 ^ n ≤ 2 ^ 32 := zae jo hn
 have hcl := fH hg hk hs
 refine VC.calls (nt := 17) (res := #[]) Tryz.func99 rfl Tryz.ntmps99 Tryz.results99 rfl ?_
 refine jS (jR (jl rfl Tryz.isAgg88 (hb2.cell 0) (jl rfl Tryz.isAgg117 (hb3.cell 0) (jM ?_))))
 refine Ops.cl (jE3 Tryz.call92) (sS g s c A B l ls w hg hk hs jo hW ho.rd) rfl ?_
 rintro e w1 ⟨⟨k, rfl⟩, A1, hW1, hf1, hA1⟩
 refine ⟨_, rfl, ?_⟩
 have hb2 := hW.keepB hf1 hb2 jd jd
 refine jO (jN (jv3 1 2 3 ?_))
 refine jR (jl rfl Tryz.isAgg88 (hb2.cell 0) (jm rfl (je (Run.convN _ rfl zx zab (by simp only [bmax]; omega)) (jM ?_))))
 refine Ops.cl (jE3 zea) (gQ g v n A1 (l ++ bK ls s) w1 hv hn (by rw [zb]; omega) hW1) rfl ?_
 rintro e w2 ⟨rfl, h2⟩
 refine ⟨_, rfl, ?_⟩
 refine jO ?_
 refine eV ?_
 exact ⟨rfl, WR.trans hf1 hA1 h2⟩
end
section
open Go.RowKit
theorem qVw (k i : Nat) (h : i < k) (hk : k ≤ 19) : (bQ.take k).drop i = bQ.getD i 0 :: (bQ.take k).drop (i + 1) ∧ bQ.getD i 0 < 19 := by
 have hl : bQ.length = 19 := rfl
 refine ⟨?_, ?_⟩
 ·
  rw [zcl (by rw [zi]; omega), List.getElem_take]
  simp [List.getD, za (jo : i < bQ.length)]
 have : ∀ i, i < 19 → bQ.getD i 0 < 19 := jd
 exact this i jo
theorem qSe (l : List Int) (k : Nat) (x : Int) : (IB l).set k (.int .i64 x) = IB (l.set k x) := by simp [IB, List.map_set]
theorem oL (A : Option Addr) (c0 : Nat) (l : List Int) (n : Nat) (w : World) (hl : l.length ≤ 1000000) (hn : l.length = n) (hr : Rd w 1 A n (IB l)) :
  Calls Tryz.prog 117 #[.slice A n c0] w fun e w' => Frm [] w w' ∧ if newE l = 0 then ∃ g B c, e = .returned (.pointer (some ⟨g, 0, none⟩)) ∧ IsD w' g B c (cn l) (bU l) (cJ l) (bM l) ∧ ∀ x ∈ g :: ob B, w.heap.size ≤ x
   else e = .panicked (Pan 11) := by
 subst hn
 exact qYp A c0 l w hl hr
theorem qPs {w : World} {A : Option Addr} {c : Nat} {l : List Int} (h : Rd w 1 A l.length (IB l)) (k : Nat) (hk : k ≤ l.length) (hc : l.length ≤ c) : Rd w 1 (cP A c 0 1) (k - 0) (IB (l.take k)) := by
 have e := h.cut (l := 0) (r := k) (cap := c) jo hk hc
 have e2 : IB (l.take k) = ((IB l).drop (0 * 1)).take ((k - 0) * 1) := by simp [IB, zeg]
 rw [e2]
 exact e
theorem qPt {w : World} {A : Option Addr} {c : Nat} {l : List Int} (h : Rd w 1 A l.length (IB l)) (k : Nat) (hk : k ≤ l.length) (hc : l.length ≤ c) : Rd w 1 (cP A c k 1) (l.length - k) (IB (l.drop k)) := by
 have e := h.cut (l := k) (r := l.length) (cap := c) hk (zk _) hc
 have e2 : IB (l.drop k) = ((IB l).drop (k * 1)).take ((l.length - k) * 1) := by
  rw [zdm, zdm, zn (by simp [IB])]
  simp [IB, List.map_drop]
 rw [e2]
 exact e
theorem fM {l : List Int} (h : newE l = 0) : l.length ≤ 320 ∧ bM l ≤ 15 := by
 have hch : chk l ≠ 1 := by
  intro h1
  unfold newE at h
  rw [h1, if_neg jo] at h
  omega
 have hg := nJ hch
 refine ⟨hg.1, ?_⟩
 unfold bM
 split
 ·
  rename_i h2
  unfold newE at h
  split at h
  ·
   rename_i h3
   rcases h3.2 with h4 | h4 <;> omega
  omega
 exact zk _
theorem qY0 (gx gr p : Nat) (Ar A : Option Addr) (bs : List Nat) (c : Nat) (out : List Nat) (most : Nat) (w : World) (hbs : bs.length ≤ 1000000) (hB : ∀ b ∈ bs, b < 256) (hX : IsX w gx gr Ar bs p A c out most) :
  Calls Tryz.prog 118 #[.pointer (some ⟨gx, 0, none⟩)] w fun e w' => Frm [gr] w w' ∧ match oM (ofB bs) p with
   | .error k => e = .panicked (Pan k)
   | .ok x => ∃ ga Ba ca gb Bb cb, e = .returned (.tuple #[.pointer (some ⟨ga, 0, none⟩), .pointer (some ⟨gb, 0, none⟩)]) ∧ IsX w' gx gr Ar bs x.1 A c out most ∧ IsD w' ga Ba ca (cn x.2.1) (bU x.2.1) (cJ x.2.1) (bM x.2.1) ∧ IsD w' gb Bb cb (cn x.2.2) (bU x.2.2) (cJ x.2.2) (bM x.2.2) ∧ newE x.2.1 = 0 ∧ newE x.2.2 = 0 := by
 generalize hF : oM (ofB bs) p = F
 unfold oM at hF
 refine VC.calls (nt := 72) (res := #[.tmp 2, .tmp 3]) Tryz.func118 rfl Tryz.ntmps118 Tryz.results118 rfl ?_
 refine jS (jR (ja rfl (ja rfl (jO (jN (jv1 0 ?_))))))
 refine jS (jR (jM ?_))
 refine Ops.clp (jE2 zdi) (cS gx gr 5 p Ar A bs c out most _ jo hbs hB hX) rfl ?_
 rintro e w1 ⟨hf1, he⟩
 have hfr1 := hf1
 rcases hT1 : bZ (ofB bs) 5 p with kk | ⟨v1, p1⟩
 ·
  rw [hT1] at he
  simp only [hT1, cB] at hF
  subst hF
  exact .inr ⟨_, he, qT (bY ⟨hfr1, rfl⟩)⟩
 rw [hT1] at he
 simp only [hT1, qS] at hF
 obtain ⟨rfl, hX1⟩ := he
 obtain ⟨hp1, hpl1, hv1, _⟩ := bC hT1
 refine .inl ⟨_, rfl, ?_⟩
 refine jb rfl rfl (Bin.add_i64 257 _ jo) (jM ?_)
 refine Ops.clp (jE2 zdi) (cS gx gr 5 p1 Ar A bs c out most _ jo hbs hB hX1) rfl ?_
 rintro e w2 ⟨hf2, he⟩
 have hfr2 := hfr1.trans hf2 (fun x hx => .inl hx)
 rcases hT2 : bZ (ofB bs) 5 p1 with kk | ⟨v2, p2⟩
 ·
  rw [hT2] at he
  simp only [hT2, cB] at hF
  subst hF
  exact .inr ⟨_, he, qT (bY ⟨hfr2, rfl⟩)⟩
 rw [hT2] at he
 simp only [hT2, qS] at hF
 obtain ⟨rfl, hX2⟩ := he
 obtain ⟨hp2, hpl2, hv2, _⟩ := bC hT2
 refine .inl ⟨_, rfl, ?_⟩
 refine jb rfl rfl (Bin.add_i64 1 _ jo) (jM ?_)
 refine Ops.clp (jE2 zdi) (cS gx gr 4 p2 Ar A bs c out most _ jo hbs hB hX2) rfl ?_
 rintro e w3 ⟨hf3, he⟩
 have hfr3 := hfr2.trans hf3 (fun x hx => .inl hx)
 rcases hT3 : bZ (ofB bs) 4 p2 with kk | ⟨v3, p3⟩
 ·
  rw [hT3] at he
  simp only [hT3, cB] at hF
  subst hF
  exact .inr ⟨_, he, qT (bY ⟨hfr3, rfl⟩)⟩
 rw [hT3] at he
 simp only [hT3, qS] at hF
 obtain ⟨rfl, hX3⟩ := he
 obtain ⟨hp3, hpl3, hv3, _⟩ := bC hT3
 refine .inl ⟨_, rfl, ?_⟩
 rw [cW] at hpl1 hpl2 hpl3
 refine jb rfl rfl (Bin.add_i64 4 _ jo) (ja rfl (ja rfl (ja rfl (jO (jN (jv4 0 4 5 6 ?_))))))
 refine jS (jR (jm rfl (jb rfl rfl (Bin.leqN _ 286) (jM ?_))))
 by_cases hs24 : 257 + v1 ≤ 286
 rotate_left
 ·
  refine jU ?_
  refine jU ?_
  refine je (Run.pickF rfl rfl au) ?_
  refine Ops.clp (jE2 zcy) (cC false 3 _) rfl ?_
  rintro e _ ⟨rfl, rfl⟩
  refine .inr ⟨_, by rw [if_neg jd], qT (bY ?_)⟩
  rw [if_pos (fun h => hs24 h.1)] at hF
  subst hF
  exact ⟨hfr3, rfl⟩
 refine jG ?_
 refine jk (Run.bin rfl rfl (Bin.leqN _ 30)) ?_
 refine je (Run.pickT rfl rfl au) ?_
 refine Ops.clp (jE2 zcy) (cC (decide (1 + v2 ≤ 30)) 3 _) rfl ?_
 rintro e _ ⟨rfl, rfl⟩
 by_cases hN1 : 1 + v2 ≤ 30
 rotate_left
 ·
  refine .inr ⟨_, by rw [if_neg (by simpa using hN1)], qT (bY ?_)⟩
  rw [if_pos (fun h => hN1 h.2)] at hF
  subst hF
  exact ⟨hfr3, rfl⟩
 refine .inl ⟨_, by rw [if_pos (by simpa using hN1)], ?_⟩
 refine jO (jN (jv4 0 4 5 6 ?_))
 refine jS (jR ?_)
 refine Ops.m (qJ.makeS (n := 19) rfl rfl zf (fT) rfl jd jd) rfl ?_
 rintro _ w4 ⟨rfl, ho4, hf4, hs4⟩
 have hX4 := hX3.frm0 hf4
 have hfr4 := hfr3.trans hf4 jp
 have ho4 : Own w4 3 1 (some ⟨w3.heap.size, 0, none⟩) 19 19 (IB (List.replicate 19 0)) := ho4
 have hg3 := hfr3.size
 have hlt3 := hX3.lt
 generalize hgl : w3.heap.size = gl at *
 refine ja rfl (jO (jN (jv5 0 4 5 6 7 ?_)))
 refine jS (jR ?_)
 refine Ops.cl (jE0 Tryz.call137) (qJb _) rfl ?_
 rintro e w5 ⟨rfl, hf5⟩
 refine ⟨_, rfl, ?_⟩
 have hX5 := hX4.frm0 hf5
 have ho5 := ho4.frm hf5 jp
 have hfr5 := hfr4.trans hf5 jp
 refine Ops.m (qJ.alloc oS) rfl ?_
 rintro _ w6 ⟨rfl, hF6⟩
 have hX6 := hX5.frm0 hF6.frm
 have ho6 := ho5.frm hF6.frm jp
 have hfr6 := hfr5.trans hF6.frm jp
 have hg5 := hfr5.size
 have hlt5 := hX5.lt
 have hb6 := hF6.blk
 refine Ops.st (qR.storeA rfl rfl Tryz.sizeOf111 hb6 rfl (gN bQ)) ?_
 rintro w7 ⟨hb7, hf7, hs7⟩
 have hb7 : Blk w7 w5.heap.size 111 (NI bQ).toArray := hb7
 have hX7 := hX6.frm hf7 (fun x hx h5 => by
  simp at h5
  subst h5
  rcases zcq.1 hx with h6 | hx
  · have := hlt5.1; omega
  rcases zcq.1 hx with h6 | hx
  · have := hlt5.2.1; omega
  rcases List.mem_append.1 hx with hx | hx
  · have := hlt5.2.2.1 _ hx; omega
  have := hlt5.2.2.2 _ hx; omega)
 have hfr7 : Frm [gr] w w7 := hfr6.trans hf7 (fun x hx => .inr (by simp at hx; omega))
 have hltl := ho5.lt gl (by simp [ob])
 have ho7 := ho6.frm hf7 (fun x hx h5 => by simp [ob] at hx h5; omega)
 rw [if_neg (fun h => h ⟨hs24, hN1⟩)] at hF
 generalize hgo : w5.heap.size = go at *
 refine jO (jN (jv6 0 4 5 6 7 8 ?_))
 refine jS (jS (jR (jm rfl (je (Run.sliceA 0 _ rfl zej zd evB.none_ (evB.some_ rfl) jo jo) ?_))))
 rw [qXs, zcn, zcn]
 refine je (Run.lenS rfl zf) ?_
 refine jx .i64 0 ?_
 refine jO (jN (jv7 0 4 5 7 32 33 34 ?_))
 refine jB ?_
 refine VC.loop (σ := Nat × Nat × List Int) (fun s => [(0, .pointer (some ⟨gx, 0, none⟩)), (4, .int .i64 ((257 + v1 : Nat) : Int)), (5, .int .i64 ((1 + v2 : Nat) : Int)), (7, .slice (some ⟨gl, 0, none⟩) 19 19), (32, .slice (some ⟨go, 0, none⟩) (4 + v3) 19), (33, .int .i64 ((4 + v3 : Nat) : Int)), (34, .int .i64 ((s.1 : Nat) : Int))]) (fun s wr => s.1 ≤ 4 + v3 ∧ bnd (gP (ofB bs) ((bQ.take (4 + v3)).drop s.1) s.2.1 s.2.2) (xB (ofB bs) (257 + v1) (1 + v2)) = F ∧ s.2.2.length = 19 ∧ IsX wr gx gr Ar bs s.2.1 A c out most ∧ Own wr 3 1 (some ⟨gl, 0, none⟩) 19 19 (IB s.2.2) ∧ Blk wr go 111 (NI bQ).toArray ∧ Frm [gr] w wr) (fun s => 4 + v3 - s.1) (0, p3, List.replicate 19 0) (js7 rfl rfl rfl rfl rfl rfl rfl) ⟨jo, hF, rfl, hX7, ho7, hb7, hfr7⟩ ?_
 clear hF hX7 ho7 hb7 hfr7
 rintro ⟨i, q, l⟩ w8 ⟨hi, hF, hll, hX8, ho8, hb8, hfr8⟩
 dsimp only at hi hF hll hX8 ho8 hb8 hfr8 ⊢
 refine jS (jR (jb rfl rfl (Bin.lssN _ _) (jO (jN (jS ?_)))))
 refine jD rfl (fun hc1 => ?_) fun hc1 => ?_
 ·
  obtain ⟨htk, hs19⟩ := qVw (4 + v3) i hc1 jo
  rw [htk] at hF
  simp only [gP] at hF
  have hcell : w8.cell? ((⟨go, 0, none⟩ : Addr).add i) = some (.int .i64 ((bQ.getD i 0 : Nat) : Int)) := by
   rw [kT, hb8.cell]
   have h5 : i < bQ.length := by have : bQ.length = 19 := rfl; omega
   simp [NI, List.getD, za h5]
  generalize bQ.getD i 0 = si at *
  refine jQ (jN (jv7 0 4 5 7 32 33 34 ?_))
  refine jS (jB (jS (jR (je (Run.index1 _ rfl rfl zf zd jo) (jl rfl zg hcell (ja rfl (jO (jN (jv8 0 4 5 7 10 32 33 34 ?_)))))))))
  refine jR (jm rfl (jm rfl (jM ?_)))
  refine Ops.clp (jE2 zdi) (cS gx gr 3 q Ar A bs c out most _ jo hbs hB hX8) rfl ?_
  rintro e w9 ⟨hf9, he⟩
  have hfr9 := hfr8.trans hf9 (fun x hx => .inl hx)
  rcases hT9 : bZ (ofB bs) 3 q with kk | ⟨v9, p9⟩
  ·
   rw [hT9] at he
   rw [hT9] at hF
   simp only [cB] at hF
   subst hF
   exact .inr ⟨_, he, dK (qT (qT (dK (qT (bY ⟨hfr9, rfl⟩)))))⟩
  rw [hT9] at he
  rw [hT9] at hF
  simp only [qS] at hF
  obtain ⟨rfl, hX9⟩ := he
  obtain ⟨hp9, hpl9, hv9, _⟩ := bC hT9
  refine .inl ⟨_, rfl, ?_⟩
  have hgrl : gr ≠ gl := fun h => by have := hlt3.2.1; omega
  have hgro : gr ≠ go := fun h => by have := hlt5.2.1; omega
  have ho9 := ho8.frm hf9 (fun x hx h5 => by simp [ob] at hx h5; omega)
  have hb9 := hb8.frm hf9 (by simp; omega)
  refine je (Run.index1 _ rfl rfl zf zd jo) ?_
  refine Ops.st (qR.storeOwn si rfl rfl zd ho9 rfl jo rfl) ?_
  rintro w10 ⟨ho10, hf10, hs10⟩
  rw [qSe] at ho10
  have hX10 := hX9.frm hf10 (fun x hx h5 => by
   simp [ob] at h5
   subst h5
   rcases zcq.1 hx with h6 | hx
   · have := hlt3.1; omega
   rcases zcq.1 hx with h6 | hx
   · have := hlt3.2.1; omega
   rcases List.mem_append.1 hx with hx | hx
   · have := hlt3.2.2.1 _ hx; omega
   have := hlt3.2.2.2 _ hx; omega)
  refine jO ?_
  refine qK (jN ?_)
  refine jv7 0 4 5 7 32 33 34 ?_
  refine jR (jb rfl rfl (Bin.add_i64 _ 1 jo) (jm rfl (jO ?_)))
  refine jN ⟨(i + 1, p9, l.set si (v9 : Int)), (js7 rfl rfl rfl rfl rfl rfl rfl), ?_, ?_⟩
  · refine ⟨by dsimp only; omega, hF, by dsimp only; rw [zci]; exact hll, hX10, ho10, hb9.frm hf10 (by simp [ob]; omega), hfr9.trans hf10 (fun x hx => .inr (by simp [ob] at hx; omega))⟩
  first | omega | (dsimp only; omega)
 have hiv : i = 4 + v3 := jo
 subst hiv
 rw [zdp (by rw [zi]; omega)] at hF
 simp only [gP, qS] at hF
 refine jX ?_
 refine qZ (qZ (qP ?_))
 refine jN (jv4 0 4 5 7 ?_)
 refine jS (jR (jM ?_))
 refine Ops.clp (jE1 Tryz.call117) (oL _ 19 l 19 _ jo hll ho8.rd) rfl ?_
 rintro e w11 ⟨hf11, he⟩
 by_cases hn11 : newE l = 0
 rotate_left
 ·
  rw [if_neg hn11] at he
  refine .inr ⟨_, he, qT (bY ?_)⟩
  simp only [xB] at hF
  rw [if_pos hn11] at hF
  subst hF
  exact ⟨hfr8.trans hf11 jp, rfl⟩
 rw [if_pos hn11] at he
 obtain ⟨gd11, Bd11, cd11, rfl, hD11, hgd11⟩ := he
 refine .inl ⟨_, rfl, ?_⟩
 simp only [xB] at hF
 rw [if_neg (by simpa using hn11)] at hF
 have hX11 := hX8.frm0 hf11
 have hfr11 := hfr8.trans hf11 jp
 obtain ⟨hl11, hm11⟩ := fM hn11
 rw [cW] at hF
 refine ja rfl (jO (jN (jv4 0 4 5 11 ?_)))
 refine jS (jR (ja rfl (jO (jN (jS (jB ?_))))))
 refine VC.loop (σ := Nat × Nat × List Int × Option Addr × Nat) (fun s => [(0, .pointer (some ⟨gx, 0, none⟩)), (4, .int .i64 ((257 + v1 : Nat) : Int)), (5, .int .i64 ((1 + v2 : Nat) : Int)), (11, .pointer (some ⟨gd11, 0, none⟩)), (12, .slice s.2.2.2.1 s.2.2.1.length s.2.2.2.2)]) (fun s wr => bnd (kC (ofB bs) l (257 + v1 + (1 + v2)) s.1 s.2.1 s.2.2.1) (xU (257 + v1)) = F ∧ 8 * bs.length < s.1 + s.2.1 ∧ s.2.2.1.length ≤ 257 + v1 + (1 + v2) ∧ IsX wr gx gr Ar bs s.2.1 A c out most ∧ IsD wr gd11 Bd11 cd11 (cn l) (bU l) (cJ l) (bM l) ∧ Own wr 3 1 s.2.2.2.1 s.2.2.1.length s.2.2.2.2 (IB s.2.2.1) ∧ Frm [gr] w wr ∧ (∀ x ∈ ob s.2.2.2.1, w.heap.size ≤ x) ∧ ∀ x ∈ gd11 :: ob Bd11, x ∉ ob s.2.2.2.1) (fun s => 8 * bs.length + 1 - s.2.1) (8 * bs.length + 1, q, [], none, 0) (js5 rfl rfl rfl rfl rfl) ⟨hF, by dsimp only; omega, jp, hX11, hD11, Own.nil _ _ _, hfr11, lE, by simp [ob]⟩ ?_
 clear hF hX11 hfr11
 rintro ⟨f, q2, all, Al, cl⟩ w12 ⟨hF, hfq, hal, hX12, hD12, hO12, hfr, hul, hdl⟩
 dsimp only at hF hfq hal hX12 hD12 hO12 hfr hul hdl ⊢
 have hp12 := hX12.2.2.2.2.1
 obtain ⟨f, rfl⟩ : ∃ f', f = f' + 1 := ⟨f - 1, jo⟩
 simp only [kC] at hF
 have hs12 := hfr.size
 have hltD := hD12.2.lt
 have hltd := hD12.1.lt
 refine jS (jS (jR (jm rfl (je (Run.lenS rfl zf) (jm rfl (jm rfl (jb rfl rfl (Bin.add_i64 _ _ jo) (jb rfl rfl (Bin.lssN _ _) (jO (jN (jv6 0 4 5 11 12 51 ?_)))))))))))
 refine jD rfl (fun hc2 => ?_) fun hc2 => ?_
 ·
  rw [if_pos hc2] at hF
  refine jQ (jN (jv5 0 4 5 11 12 ?_))
  refine jB (jR (jm rfl (jm rfl (jm rfl (jm rfl (jm rfl (jb rfl rfl (Bin.add_i64 _ _ jo) ?_)))))))
  refine Ops.clp (jE4 Tryz.call138) (qVq gx gr q2 gd11 Ar A Bd11 cd11 l bs c out most Al cl all (257 + v1 + (1 + v2)) _ hl11 hm11 hbs hB jo hal hX12 hD12 hO12) rfl ?_
  rintro e w13 ⟨hf13, he⟩
  have hfr13 : Frm [gr] w w13 := hfr.trans hf13 (fun x hx => by rcases zcq.1 hx with rfl | hx; exact .inl jp; exact .inr (hul x hx))
  rcases hT13 : lC (ofB bs) l q2 all (257 + v1 + (1 + v2)) with kk | ⟨q3, all3⟩
  ·
   rw [hT13] at he hF
   simp only [cB] at hF
   subst hF
   exact .inr ⟨_, he, dK (qT (dK (qT (bY ⟨hfr13, rfl⟩))))⟩
  rw [hT13] at he hF
  simp only [qS] at hF
  obtain ⟨B13, c13, rfl, hX13, hO13, hu13⟩ := he
  dsimp only at hX13 hO13 hu13
  obtain ⟨hq1, hq2, hq3, hq4⟩ := qXp hm11 (by rw [cW]; exact hp12) hT13
  refine .inl ⟨_, rfl, ?_⟩
  refine ja rfl (jO ?_)
  refine qK (jN ⟨(f, q3, all3, B13, c13), (js5 rfl rfl rfl rfl rfl), ?_, ?_⟩)
  ·
   have hgrd : ∀ x ∈ gd11 :: ob Bd11, x ∉ gr :: ob Al := fun x hx h5 => by
    rcases zcq.1 h5 with rfl | h5
    ·
     rcases zcq.1 hx with h6 | hx
     · exact hD12.1.ne hX12.2.1.choose_spec.1 jd h6.symm
     exact hD12.2.ne_blk hX12.2.1.choose_spec.1 jd hx
    exact hdl x hx h5
   refine ⟨hF, by dsimp only; omega, hq3, hX13, hD12.frm hf13 hgrd, hO13, hfr13, fun x hx => (hu13 x hx).elim (hul x) (fun h => zo hs12 h), fun x hx h5 => ?_⟩
   rcases hu13 x h5 with h6 | h6
   · exact hdl x hx h6
   rcases zcq.1 hx with rfl | hx
   · omega
   have := hltD x hx; omega
  dsimp only; rw [cW] at hq2; omega
 rw [if_neg hc2] at hF
 simp only [qS] at hF
 have hle : all.length = 257 + v1 + (1 + v2) := jo
 obtain ⟨ad, rfl, hc256⟩ := tE hO12.rd (k := 256) jo
 have hg256 : all.getD 256 0 = all[256] := by simp [List.getD, za (jo : 256 < all.length)]
 refine jX ?_
 refine qZ (qZ (qP ?_))
 refine jN (jv2 4 12 ?_)
 refine jS (jR (jm rfl (je (Run.index1 256 rfl rfl zf zd jo) (jl rfl zg hc256 (jb rfl rfl (Bin.gtr _ 0) ?_)))))
 refine Ops.clp (jE2 zcy) (cC (decide (0 < all[256])) 11 _) rfl ?_
 rintro e _ ⟨rfl, rfl⟩
 by_cases hN2 : 0 < all[256]
 rotate_left
 ·
  refine .inr ⟨_, by rw [if_neg (by simpa using hN2)], qT (bY ?_)⟩
  simp only [xU, hg256] at hF
  rw [if_pos (by simpa using hN2)] at hF
  subst hF
  exact ⟨hfr, rfl⟩
 refine .inl ⟨_, by rw [if_pos (by simpa using hN2)], ?_⟩
 simp only [xU, hg256] at hF
 rw [if_neg (by simpa using hN2)] at hF
 have hcap := hO12.le
 refine jO (jN (jv2 4 12 ?_))
 refine jS ?_
 refine VC.held (fun _ => True) jK ?_
 refine jH 0 rfl trivial (fun w0 hw0 => Run.mv rfl) ?_
 refine jH 1 rfl trivial (fun w0 hw0 => Run.mv rfl) ?_
 refine jH 2 rfl trivial (fun w0 hw0 => Run.sliceS 0 _ rfl zf zd evB.none_ (evB.some_ rfl) jo jo) ?_
 refine jH 4 rfl trivial (fun w0 hw0 => Run.mv rfl) ?_
 refine jH 5 rfl trivial (fun w0 hw0 => Run.mv rfl) ?_
 refine jH 6 rfl trivial (fun w0 hw0 => Run.sliceS _ _ rfl zf zd (evB.some_ rfl) evB.none_ jo jo) ?_
 refine qV.clp 3 rfl jK (jE1 Tryz.call117) (oL _ _ (all.take (257 + v1)) _ _ (by simp; omega) (by first | (simp; done) | (simp; omega)) (qPs ((hO12.rd).drawn (qQ.drew w12)) (257 + v1) jo hcap)) trivial rfl rfl ?_
 rintro e w14 ⟨hf14, he⟩
 have hfr14 := (hfr.drawn (qQ.drew w12)).trans hf14 jp
 by_cases hn14 : newE (all.take (257 + v1)) = 0
 rotate_left
 ·
  rw [if_neg hn14] at he
  refine .inr ⟨_, he, qT (bY ?_)⟩
  rw [if_pos hn14] at hF
  subst hF
  exact ⟨hfr14, rfl⟩
 rw [if_pos hn14] at he
 rw [if_neg (by simpa using hn14)] at hF
 obtain ⟨gd14, Bd14, cd14, rfl, hD14, hgd14⟩ := he
 refine .inl ⟨_, rfl, trivial, ?_⟩
 refine qV.clp 7 rfl jK (jE1 Tryz.call117) (oL _ _ (all.drop (257 + v1)) _ _ (by simp; omega) (by first | (simp; done) | (simp; omega)) ((qPt ((hO12.rd).drawn (qQ.drew w12)) (257 + v1) jo hcap).frm hf14 jp)) trivial rfl rfl ?_
 rintro e w15 ⟨hf15, he⟩
 have hfr15 := (hfr14).trans hf15 jp
 by_cases hn15 : newE (all.drop (257 + v1)) = 0
 rotate_left
 ·
  rw [if_neg hn15] at he
  refine .inr ⟨_, he, qT (bY ?_)⟩
  rw [if_pos hn15] at hF
  subst hF
  exact ⟨hfr15, rfl⟩
 rw [if_pos hn15] at he
 rw [if_neg (by simpa using hn15)] at hF
 obtain ⟨gd15, Bd15, cd15, rfl, hD15, hgd15⟩ := he
 refine .inl ⟨_, rfl, trivial, ?_⟩
 refine jH 8 rfl trivial (fun w0 hw0 => Run.asg rfl) ?_
 refine jH 9 rfl trivial (fun w0 hw0 => Run.asg rfl) ?_
 refine qV.done jK ?_
 refine jN (jv2 2 3 ?_)
 refine jT ?_
 refine cG rfl rfl ?_
 subst hF
 exact ⟨hfr15, gd14, Bd14, cd14, gd15, Bd15, cd15, rfl, (hX12.frm0 (qQ.drew w12).frm).frm0 (hf14.trans hf15 jp), hD14.frm hf15 jp, hD15, hn14, hn15⟩
end
section
open Go.RowKit
theorem qSf : ∀ i, i < 29 → (longT.getD i (0, 0)).2 ≤ 5 ∧ (longT.getD i (0, 0)).1 ≤ 258 := jd
theorem qSy : ∀ i, i < 30 → (wayT.getD i (0, 0)).2 ≤ 13 ∧ 1 ≤ (wayT.getD i (0, 0)).1 ∧ (wayT.getD i (0, 0)).1 ≤ 24577 := jd
theorem qSz {w : World} {A : Option Addr} {l : List Nat} {k : Nat} (h : Rd w 1 A l.length (NB l)) (hk : k < l.length) : ∃ ad, A = some ad ∧ w.cell? (ad.add k) = some (.int .u8 ((l.getD k 0 : Nat) : Int)) := by
 obtain ⟨ad, u, hA, hu, hc⟩ := h.at1 hk
 refine ⟨ad, hA, ?_⟩
 rw [hc]
 simp [NB, hk] at hu
 rw [← hu]
 simp [List.getD, za hk]
theorem sU : ∀ (n d : Nat) (out : List Nat), (cF n d out).length = out.length + n
 | 0, _, _ => rfl
 | n + 1, d, out => by rw [cF, sU n d]; simp; omega
theorem IsX.ob_ne {w : World} {gx gr : Nat} {Ar : Option Addr} {bs : List Nat} {p : Nat} {A : Option Addr} {c : Nat} {out : List Nat} {most g : Nat} (h : IsX w gx gr Ar bs p A c out most) (hg : w.heap.size ≤ g) : ∀ x ∈ gx :: gr :: (ob A ++ ob Ar), x ∉ [g] := fun x hx h5 => by
 have hl := h.lt
 simp at h5
 subst h5
 rcases zcq.1 hx with h6 | hx
 · have := hl.1; omega
 rcases zcq.1 hx with h6 | hx
 · have := hl.2.1; omega
 rcases List.mem_append.1 hx with hx | hx
 · have := hl.2.2.1 _ hx; omega
 have := hl.2.2.2 _ hx; omega
theorem qJf (gx gr p ga gb : Nat) (Ar A Ba Bb : Option Addr) (ca cb : Nat) (a b : List Int) (bs : List Nat) (c : Nat) (out : List Nat) (most : Nat) (w : World) (hna : newE a = 0) (hnb : newE b = 0) (hmo : most ≤ 1000000) (hbs : bs.length ≤ 1000000) (hB : ∀ b ∈ bs, b < 256) (hX : IsX w gx gr Ar bs p A c out most)
  (hDa : IsD w ga Ba ca (cn a) (bU a) (cJ a) (bM a)) (hDb : IsD w gb Bb cb (cn b) (bU b) (cJ b) (bM b)) :
  Calls Tryz.prog 135 #[.pointer (some ⟨gx, 0, none⟩), .pointer (some ⟨ga, 0, none⟩), .pointer (some ⟨gb, 0, none⟩)] w fun e w' => Frm (gx :: gr :: ob A) w w' ∧ match eL (ofB bs) a b most p out with
   | .error k => e = .panicked (Pan k)
   | .ok x => ∃ A' c', e = .returned (.bool x.1) ∧ IsX w' gx gr Ar bs x.2.1 A' c' x.2.2 most ∧ ∀ y ∈ ob A', y ∈ ob A ∨ w.heap.size ≤ y := by
 generalize hF : eL (ofB bs) a b most p out = F
 unfold eL at hF
 obtain ⟨hal, ham⟩ := fM hna
 obtain ⟨hbl, hbm⟩ := fM hnb
 have hom := hX.2.2.2.2.2.1
 have hgbr : ∀ x ∈ gb :: ob Bb, x ∉ [gr] := fun x hx h5 => by
  simp at h5
  rcases zcq.1 hx with h6 | hx
  · exact hDb.1.ne hX.2.1.choose_spec.1 jd jo
  subst h5; exact hDb.2.ne_blk hX.2.1.choose_spec.1 jd hx
 refine VC.calls (nt := 119) (res := #[.tmp 6]) Tryz.func135 rfl Tryz.ntmps135 Tryz.results135 rfl ?_
 refine jS (jR (ja rfl (jO (jN (jv3 0 1 2 ?_)))))
 refine jS (jR (jm rfl (jM ?_)))
 refine Ops.clp (jE2 Tryz.call144) (sN gx gr p ga Ar A _ _ a bs c out most _ hal ham hbs hB hX hDa) rfl ?_
 rintro e w1 ⟨hf1, he⟩
 have hfr1 := hf1
 rcases hT1 : gJ (ofB bs) a p with kk | ⟨v1, p1⟩
 ·
  rw [hT1] at he
  simp only [hT1, cB] at hF
  subst hF
  exact .inr ⟨_, he, qT (bY ⟨hfr1.mono jp, rfl⟩)⟩
 rw [hT1] at he
 simp only [hT1, qS] at hF
 obtain ⟨rfl, hX1⟩ := he
 obtain ⟨hp1, hpl1, hv1⟩ := mL ham (by rw [cW]; exact hX.2.2.2.2.1) hT1
 refine .inl ⟨_, rfl, ?_⟩
 have hDb1 := hDb.frm hf1 hgbr
 have hd1 := qQ.drew w1
 refine ja rfl (jO (jN (jv3 0 2 7 ?_)))
 refine jS (jS (jR (jm rfl (jb rfl rfl (Bin.lssN _ 256) (jO (jN (jv4 0 2 7 17 ?_)))))))
 refine jD rfl (fun hc1 => ?_) fun hc1 => ?_
 ·
  rw [if_pos hc1] at hF
  have hXd := hX1.frm0 hd1.frm
  have hfrd := hfr1.drawn hd1
  refine jS ?_
  refine VC.tail 10 jK jK ?_
  simp only [zac, zdo, zdr, zcd]
  refine qM ?_
  refine qE (Run.nilck rfl) ?_
  refine qE (Run.fieldAddr rfl zak rfl zl jd) ?_
  refine qE (Run.load rfl zt (hXd.1.cell 1)) ?_
  refine qE (Run.lenS rfl ze) ?_
  refine qM ?_
  refine qE (Run.nilck rfl) ?_
  refine qE (Run.fieldAddr rfl zak rfl zd jd) ?_
  refine qE (Run.load rfl zg (hXd.1.cell 2)) ?_
  refine qE (Run.bin rfl rfl (Bin.lssN _ _)) ?_
  refine qW.nil ?_
  refine Ops.clp (jE2 zcy) (cC (decide (out.length < most)) 13 _) rfl ?_
  rintro e _ ⟨rfl, rfl⟩
  by_cases hN1 : out.length < most
  rotate_left
  ·
   refine .inr ⟨_, by rw [if_neg (by simpa using hN1)], qT (qT (bY ?_))⟩
   rw [if_neg hN1] at hF
   subst hF
   exact ⟨hfrd.mono jp, rfl⟩
  refine .inl ⟨_, by rw [if_pos (by simpa using hN1)], ?_⟩
  rw [if_pos hN1] at hF
  refine jO (jN (jv2 0 7 ?_))
  refine jS (jR (jm rfl (jm rfl (je (Run.nilck rfl) (jf rfl zak rfl zl (jl rfl zt (hXd.1.cell 1) (jm rfl (je (Run.conv8 _ rfl zx zbh) ?_))))))))
  refine Ops.m (qJ.buildS1 rfl ze zad tU jd jd rfl rfl) rfl ?_
  rintro _ w3 ⟨rfl, hF3⟩
  have hm : ((v1 % 256 : Nat) : Int) = ((v1 : Nat) : Int) := by rw [zde hc1]
  have hrd3 : Rd w3 1 (some ⟨w1.drew.heap.size, 0, none⟩) 1 (NB [v1]) := by
   have h5 : Rd w3 1 (some ⟨w1.drew.heap.size, 0, none⟩) 1 [.int .u8 ((v1 % 256 : Nat) : Int)] := Rd.of_blk (n := 1) (size := 1) hF3.blk rfl
   rw [hm] at h5
   exact h5
  have hX3 := hXd.frm0 hF3.frm
  have hfr3 := hfrd.trans hF3.frm jp
  refine Ops.m (qJ.app rfl rfl ze (dD) rfl jd hX3.2.2.1 hrd3 (dH _) jo jo) rfl ?_
  rintro _ w4 ⟨B4, c4, rfl, ho4, hf4, hob4⟩
  have hb4 := hX3.1.frm hf4 hX3.gxA
  refine je (Run.nilck rfl) (jf rfl zak rfl zl ?_)
  refine Ops.st (qR.store (i := 1) rfl rfl zl hb4 rfl rfl) ?_
  rintro w5 ⟨hb5, hf5, hs5⟩
  obtain ⟨hX5, hf35, hu5⟩ := hX3.app ho4 hf4 hob4 hb5 hf5 rfl jo (fun x hx => by simp at hx; omega)
  have hsz3 := hfr3.size
  have hfr5 : Frm (gx :: gr :: ob A) w w5 := (hfr3.mono (T := gx :: gr :: ob A) jp).trans hf35 (fun x hx => .inl (by rcases zcq.1 hx with rfl | hx <;> simp_all))
  refine jO (jN ?_)
  refine VC.sub [] .nil ?_
  refine jS (jR (ja rfl (jO (jN (jT ?_)))))
  refine qN (qC rfl ?_)
  subst hF
  exact ⟨hfr5, B4, c4, rfl, hX5, fun y hy => (hu5 y hy).imp id (fun h => zo hsz3 h)⟩
 rw [if_neg hc1] at hF
 refine jQ (jN (jv3 0 2 7 ?_))
 refine jS (jS (jR (jm rfl (jb rfl rfl (Bin.eqlN _ 256) (jO (jN (jv4 0 2 7 41 ?_)))))))
 refine jD rfl (fun hc2 => ?_) fun hc2 => ?_
 ·
  rw [if_pos hc2] at hF
  refine jS (jR (ja rfl (jO (jN (jv1 6 ?_)))))
  refine jT ?_
  refine qN (qC rfl ?_)
  subst hF
  exact ⟨hfr1.mono jp, A, c, rfl, hX1, fun y hy => .inl hy⟩
 rw [if_neg hc2] at hF
 refine jQ (jN (jv3 0 2 7 ?_))
 refine jS (jR (jm rfl (jb rfl rfl (Bin.leqN _ 285) ?_)))
 refine Ops.clp (jE2 zcy) (cC (decide (v1 ≤ 285)) 11 _) rfl ?_
 rintro e _ ⟨rfl, rfl⟩
 by_cases hN2 : v1 ≤ 285
 rotate_left
 ·
  refine .inr ⟨_, by rw [if_neg (by simpa using hN2)], qT (bY ?_)⟩
  rw [if_pos jo] at hF
  subst hF
  exact ⟨hfr1.mono jp, rfl⟩
 refine .inl ⟨_, by rw [if_pos (by simpa using hN2)], ?_⟩
 rw [if_neg jo] at hF
 have hi29 : v1 - 257 < 29 := jo
 obtain ⟨hlb, hll⟩ := qSf (v1 - 257) hi29
 have hlg : longT[v1 - 257]'(by have : longT.length = 29 := rfl; omega) = longT.getD (v1 - 257) (0, 0) := by simp [List.getD, za (show v1 - 257 < longT.length by have : longT.length = 29 := rfl; omega)]
 refine jO (jN (jv3 0 2 7 ?_))
 refine jS (jR ?_)
 refine Ops.cl (jE0 Tryz.call123) (rC _) rfl ?_
 rintro e w2 ⟨rfl, hf2⟩
 refine ⟨_, rfl, ?_⟩
 have hX2 := hX1.frm0 hf2
 have hDb2 := hDb1.frm hf2 jp
 have hfr2 := hfr1.trans hf2 jp
 refine jm rfl (jb rfl rfl (Bin.sub_i64 _ 257 jo jo) (je (Run.indexArrA LC (v1 - 257) rfl rfl zev Tryz.isAgg203 zce sP rfl (by have : longT.length = 29 := rfl; omega)) ?_))
 rw [hlg]
 generalize longT.getD (v1 - 257) (0, 0) = lg at *
 refine Ops.m (qJ.alloc oC) rfl ?_
 rintro _ w3 ⟨rfl, hF3⟩
 have hb3 := hF3.blk
 have hX3 := hX2.frm0 hF3.frm
 have hDb3 := hDb2.frm hF3.frm jp
 have hfr3 := hfr2.trans hF3.frm jp
 have hlt2 := hX2.lt
 have hs2 := hfr2.size
 refine Ops.st (qR.storeA rfl rfl zce hb3 rfl (kD lg)) ?_
 rintro w4 ⟨hb4, hf4, hs4⟩
 have hb4 : Blk w4 w2.heap.size 203 (LC lg).toArray := hb4
 have hX4 := hX3.frm hf4 (hX2.ob_ne (zk _))
 have hDb4 := hDb3.frm hf4 (fun x hx h5 => by have := (hDb2.1.lt); have h7 := hDb2.2.lt; simp at h5; rcases zcq.1 hx with h6 | hx; omega; have := h7 x hx; omega)
 have hfr4 : Frm [gr] w w4 := hfr3.trans hf4 (fun x hx => .inr (by simp at hx; omega))
 generalize hg2 : w2.heap.size = g2 at *
 refine jO (jN (jv3 0 2 8 ?_))
 refine jS ?_
 refine VC.held (fun v => Blk v g2 203 (LC lg).toArray) jK ?_
 have hd4 := qQ.drew w4
 have hX4d := hX4.frm0 hd4.frm
 have hfr4d := hfr4.drawn hd4
 have hDb4d := hDb4.frm hd4.frm jp
 have hS : (fun v => Blk v g2 203 (LC lg).toArray) w4.drew := hb4.drawn hd4
 refine jH 0 rfl hS (fun w0 hw0 => Run.fieldAddr rfl zcm rfl zd jd) ?_
 refine jH 1 rfl hS (fun w0 hw0 => Run.load rfl zg (hw0.cell 0)) ?_
 refine jH 2 rfl hS (fun w0 hw0 => Run.mv rfl) ?_
 refine jH 3 rfl hS (fun w0 hw0 => Run.fieldAddr rfl zcm rfl zd jd) ?_
 refine jH 4 rfl hS (fun w0 hw0 => Run.load rfl zg (hw0.cell 1)) ?_
 refine qV.clp 5 rfl jK (jE2 zdi) (cS gx gr lg.2 p1 Ar A bs c out most _ jo hbs hB hX4d) trivial rfl rfl ?_
 rintro e w5 ⟨hf5, he⟩
 have hfr5 := hfr4d.trans hf5 (fun x hx => .inl hx)
 rcases hT5 : bZ (ofB bs) lg.2 p1 with kk | ⟨v5, p5⟩
 ·
  rw [hT5] at he
  simp only [hT5, cB] at hF
  subst hF
  exact .inr ⟨_, he, qT (bY ⟨hfr5.mono jp, rfl⟩)⟩
 rw [hT5] at he
 simp only [hT5, qS] at hF
 obtain ⟨rfl, hX5⟩ := he
 obtain ⟨hp5, hpl5, hv5, _⟩ := bC hT5
 have hS : (fun v => Blk v g2 203 (LC lg).toArray) w5 := (hb4.drawn hd4).frm hf5 (by simp; omega)
 have hv5b : 2 ^ lg.2 ≤ 2 ^ 5 := zae jo hlb
 have hDb5 := hDb4d.frm hf5 hgbr
 refine .inl ⟨_, rfl, hS, ?_⟩
 refine jH 6 rfl hS (fun w0 hw0 => Run.bin rfl rfl (Bin.add_i64 _ _ jo)) ?_
 refine jH 7 rfl hS (fun w0 hw0 => Run.asg rfl) ?_
 refine qV.done jK ?_
 refine jN (jv3 0 2 9 ?_)
 refine jS (jR (jm rfl (jM ?_)))
 refine Ops.clp (jE2 Tryz.call144) (sN gx gr p5 gb Ar A _ _ b bs c out most _ hbl hbm hbs hB hX5 hDb5) rfl ?_
 rintro e w6 ⟨hf6, he⟩
 have hfr6 := hfr5.trans hf6 (fun x hx => .inl hx)
 rcases hT6 : gJ (ofB bs) b p5 with kk | ⟨v6, p6⟩
 ·
  rw [hT6] at he
  simp only [hT6, cB] at hF
  subst hF
  exact .inr ⟨_, he, qT (bY ⟨hfr6.mono jp, rfl⟩)⟩
 rw [hT6] at he
 simp only [hT6, qS] at hF
 obtain ⟨rfl, hX6⟩ := he
 obtain ⟨hp6, hpl6, hv6⟩ := mL hbm (by rw [cW]; exact hX5.2.2.2.2.1) hT6
 refine .inl ⟨_, rfl, ?_⟩
 refine ja rfl (jO (jN (jv3 0 9 10 ?_)))
 refine jS (jR (jm rfl (jb rfl rfl (Bin.lssN _ 30) ?_)))
 refine Ops.clp (jE2 zcy) (cC (decide (v6 < 30)) 11 _) rfl ?_
 rintro e _ ⟨rfl, rfl⟩
 by_cases hN3 : v6 < 30
 rotate_left
 ·
  refine .inr ⟨_, by rw [if_neg (by simpa using hN3)], qT (bY ?_)⟩
  rw [if_pos jo] at hF
  subst hF
  exact ⟨hfr6.mono jp, rfl⟩
 refine .inl ⟨_, by rw [if_pos (by simpa using hN3)], ?_⟩
 rw [if_neg jo] at hF
 obtain ⟨hwb, hw1, hwl⟩ := qSy v6 hN3
 have hwg : wayT[v6]'(by have : wayT.length = 30 := rfl; omega) = wayT.getD v6 (0, 0) := by simp [List.getD, za (show v6 < wayT.length by have : wayT.length = 30 := rfl; omega)]
 refine jO (jN (jv3 0 9 10 ?_))
 refine jS (jR ?_)
 refine Ops.cl (jE0 Tryz.call124) (wN _) rfl ?_
 rintro e w7 ⟨rfl, hf7⟩
 refine ⟨_, rfl, ?_⟩
 have hX7 := hX6.frm0 hf7
 have hfr7 := hfr6.trans hf7 jp
 refine jm rfl (je (Run.indexArrA LC v6 rfl rfl zfq Tryz.isAgg203 zce sP rfl (by have : wayT.length = 30 := rfl; omega)) ?_)
 rw [hwg]
 generalize wayT.getD v6 (0, 0) = wg at *
 refine Ops.m (qJ.alloc oC) rfl ?_
 rintro _ w8 ⟨rfl, hF8⟩
 have hb8 := hF8.blk
 have hX8 := hX7.frm0 hF8.frm
 have hfr8 := hfr7.trans hF8.frm jp
 have hlt7 := hX7.lt
 have hs7 := hfr7.size
 refine Ops.st (qR.storeA rfl rfl zce hb8 rfl (kD wg)) ?_
 rintro w9 ⟨hb9, hf9, hs9⟩
 have hb9 : Blk w9 w7.heap.size 203 (LC wg).toArray := hb9
 have hX9 := hX8.frm hf9 (hX7.ob_ne (zk _))
 have hfr9 : Frm [gr] w w9 := hfr8.trans hf9 (fun x hx => .inr (by simp at hx; omega))
 generalize hg7 : w7.heap.size = g7 at *
 refine jO (jN (jv3 0 9 11 ?_))
 refine jS ?_
 refine VC.held (fun v => Blk v g7 203 (LC wg).toArray) jK ?_
 have hd9 := qQ.drew w9
 have hX9d := hX9.frm0 hd9.frm
 have hfr9d := hfr9.drawn hd9
 have hS : (fun v => Blk v g7 203 (LC wg).toArray) w9.drew := hb9.drawn hd9
 refine jH 0 rfl hS (fun w0 hw0 => Run.fieldAddr rfl zcm rfl zd jd) ?_
 refine jH 1 rfl hS (fun w0 hw0 => Run.load rfl zg (hw0.cell 0)) ?_
 refine jH 2 rfl hS (fun w0 hw0 => Run.mv rfl) ?_
 refine jH 3 rfl hS (fun w0 hw0 => Run.fieldAddr rfl zcm rfl zd jd) ?_
 refine jH 4 rfl hS (fun w0 hw0 => Run.load rfl zg (hw0.cell 1)) ?_
 refine qV.clp 5 rfl jK (jE2 zdi) (cS gx gr wg.2 p6 Ar A bs c out most _ jo hbs hB hX9d) trivial rfl rfl ?_
 rintro e w10 ⟨hf10, he⟩
 have hfr10 := hfr9d.trans hf10 (fun x hx => .inl hx)
 rcases hT10 : bZ (ofB bs) wg.2 p6 with kk | ⟨v10, p10⟩
 ·
  rw [hT10] at he
  simp only [hT10, cB] at hF
  subst hF
  exact .inr ⟨_, he, qT (bY ⟨hfr10.mono jp, rfl⟩)⟩
 rw [hT10] at he
 simp only [hT10, qS] at hF
 obtain ⟨rfl, hX10⟩ := he
 obtain ⟨hp10, hpl10, hv10, _⟩ := bC hT10
 have hS : (fun v => Blk v g7 203 (LC wg).toArray) w10 := (hb9.drawn hd9).frm hf10 (by simp; omega)
 have hv10b : 2 ^ wg.2 ≤ 2 ^ 13 := zae jo hwb
 refine .inl ⟨_, rfl, hS, ?_⟩
 refine jH 6 rfl hS (fun w0 hw0 => Run.bin rfl rfl (Bin.add_i64 _ _ jo)) ?_
 refine jH 7 rfl hS (fun w0 hw0 => Run.asg rfl) ?_
 refine qV.done jK ?_
 refine jN (jv3 0 9 12 ?_)
 refine jS (jR (jm rfl (jm rfl (je (Run.nilck rfl) (jf rfl zak rfl zl (jl rfl zt (hX10.1.cell 1) (je (Run.lenS rfl ze) (jb rfl rfl (Bin.leqN _ _) ?_))))))))
 refine Ops.clp (jE2 zcy) (cC (decide (wg.1 + v10 ≤ out.length)) 12 _) rfl ?_
 rintro e _ ⟨rfl, rfl⟩
 by_cases hN4 : wg.1 + v10 ≤ out.length
 rotate_left
 ·
  refine .inr ⟨_, by rw [if_neg (by simpa using hN4)], qT (bY ?_)⟩
  rw [if_pos jo] at hF
  subst hF
  exact ⟨hfr10.mono jp, rfl⟩
 refine .inl ⟨_, by rw [if_pos (by simpa using hN4)], ?_⟩
 rw [if_neg jo] at hF
 have hd10 := qQ.drew w10
 have hX10d := hX10.frm0 hd10.frm
 have hfr10d := hfr10.drawn hd10
 refine jO (jN (jv3 0 9 12 ?_))
 refine jS ?_
 refine VC.tail 12 jK jK ?_
 simp only [zac, zdo, zdr, zcd]
 refine qM ?_
 refine qM ?_
 refine qE (Run.nilck rfl) ?_
 refine qE (Run.fieldAddr rfl zak rfl zd jd) ?_
 refine qE (Run.load rfl zg (hX10d.1.cell 2)) ?_
 refine qM ?_
 refine qE (Run.nilck rfl) ?_
 refine qE (Run.fieldAddr rfl zak rfl zl jd) ?_
 refine qE (Run.load rfl zt (hX10d.1.cell 1)) ?_
 refine qE (Run.lenS rfl ze) ?_
 refine qE (Run.bin rfl rfl (Bin.sub_i64 _ _ jo jo)) ?_
 refine qE (Run.bin rfl rfl (Bin.leqN _ _)) ?_
 refine qW.nil ?_
 refine Ops.clp (jE2 zcy) (cC (decide (lg.1 + v5 ≤ most - out.length)) 13 _) rfl ?_
 rintro e _ ⟨rfl, rfl⟩
 by_cases hN5 : lg.1 + v5 ≤ most - out.length
 rotate_left
 ·
  refine .inr ⟨_, by rw [if_neg (by simpa using hN5)], qT (bY ?_)⟩
  rw [if_pos jo] at hF
  subst hF
  exact ⟨hfr10d.mono jp, rfl⟩
 refine .inl ⟨_, by rw [if_pos (by simpa using hN5)], ?_⟩
 rw [if_neg jo] at hF
 have hs10 := hfr10d.size
 have hfr11 : Frm (gx :: gr :: ob A) w w10.drew := hfr10d.mono jp
 refine jO (jN (jv3 0 9 12 ?_))
 refine jS (jS (jR (jM ?_)))
 refine jx .i64 0 ?_
 refine jO (jN (jv4 0 12 93 94 ?_))
 refine jB ?_
 refine VC.loop (σ := Nat × List Nat × Option Addr × Nat) (fun s => [(0, .pointer (some ⟨gx, 0, none⟩)), (12, .int .i64 ((wg.1 + v10 : Nat) : Int)), (93, .int .i64 ((lg.1 + v5 : Nat) : Int)), (94, .int .i64 ((s.1 : Nat) : Int))]) (fun s wr => s.1 ≤ lg.1 + v5 ∧ cF (lg.1 + v5 - s.1) (wg.1 + v10) s.2.1 = cF (lg.1 + v5) (wg.1 + v10) out ∧ s.2.1.length = out.length + s.1 ∧ IsX wr gx gr Ar bs p10 s.2.2.1 s.2.2.2 s.2.1 most ∧ Frm (gx :: gr :: ob A) w wr ∧ ∀ y ∈ ob s.2.2.1, y ∈ ob A ∨ w.heap.size ≤ y) (fun s => lg.1 + v5 - s.1) (0, out, A, c) (js4 rfl rfl rfl rfl) ⟨jo, rfl, rfl, hX10d, hfr11, fun y hy => .inl hy⟩ ?_
 rintro ⟨i, o, A2, c2⟩ wr ⟨hi, hcp, hol, hXr, hfr, hu⟩
 dsimp only at hi hcp hol hXr hfr hu ⊢
 have hdr := qQ.drew wr
 have hXs := hXr.frm0 hdr.frm
 have hfrs := hfr.drawn hdr
 refine jS (jR (jb rfl rfl (Bin.lssN _ _) (jO (jN (jS ?_)))))
 refine jD rfl (fun hc3 => ?_) fun hc3 => ?_
 ·
  obtain ⟨adk, hAk, hck⟩ := qSz hXs.2.2.1.rd (k := o.length - (wg.1 + v10)) jo
  subst hAk
  obtain ⟨k, hk⟩ : ∃ k, lg.1 + v5 - i = k + 1 := ⟨lg.1 + v5 - i - 1, jo⟩
  have hlo : o.getD (o.length - (wg.1 + v10)) 0 < 256 := by
   have h5 : o.length - (wg.1 + v10) < o.length := jo
   simp only [List.getD, za h5, zaz]
   exact hXs.2.2.2.2.2.2 _ (zw _)
  rw [hk, cF] at hcp
  generalize o.getD (o.length - (wg.1 + v10)) 0 = xo at *
  refine jQ (jN (jv4 0 12 93 94 ?_))
  refine jS (jB ?_)
  refine VC.heldL 22 (fun v => Blk v gx 150 #[.pointer (some ⟨gr, 0, none⟩), .slice (some adk) o.length c2, .int .i64 ((most : Nat) : Int)]) jK ?_
  have hS : (fun v => Blk v gx 150 #[.pointer (some ⟨gr, 0, none⟩), .slice (some adk) o.length c2, .int .i64 ((most : Nat) : Int)]) wr.drew := hXs.1
  refine jH 0 rfl hS (fun w0 hw0 => Run.mv rfl) ?_
  refine jH 1 rfl hS (fun w0 hw0 => Run.mv rfl) ?_
  refine jH 2 rfl hS (fun w0 hw0 => Run.nilck rfl) ?_
  refine jH 3 rfl hS (fun w0 hw0 => Run.fieldAddr rfl zak rfl zl jd) ?_
  refine jH 4 rfl hS (fun w0 hw0 => Run.load rfl zt (hw0.cell 1)) ?_
  refine jH 5 rfl hS (fun w0 hw0 => Run.mv rfl) ?_
  refine jH 6 rfl hS (fun w0 hw0 => Run.nilck rfl) ?_
  refine jH 7 rfl hS (fun w0 hw0 => Run.fieldAddr rfl zak rfl zl jd) ?_
  refine jH 8 rfl hS (fun w0 hw0 => Run.load rfl zt (hw0.cell 1)) ?_
  refine jH 9 rfl hS (fun w0 hw0 => Run.mv rfl) ?_
  refine jH 10 rfl hS (fun w0 hw0 => Run.nilck rfl) ?_
  refine jH 11 rfl hS (fun w0 hw0 => Run.fieldAddr rfl zak rfl zl jd) ?_
  refine jH 12 rfl hS (fun w0 hw0 => Run.load rfl zt (hw0.cell 1)) ?_
  refine jH 13 rfl hS (fun w0 hw0 => Run.lenS rfl ze) ?_
  refine qV.r1 14 rfl jK hS (Run.mv rfl) trivial rfl rfl ?_
  refine qV.r1 15 rfl jK hS (Run.bin rfl rfl (Bin.sub_i64 _ _ jo jo)) trivial rfl rfl ?_
  refine qV.r1 16 rfl jK hS (Run.index1 _ rfl rfl ze zad jo) trivial rfl rfl ?_
  refine qV.r1 17 rfl jK hS (Run.load rfl zdn hck) trivial rfl rfl ?_
  refine qV.m 18 rfl jK (qJ.buildS1 rfl ze zad tU jd jd rfl rfl) trivial rfl rfl ?_
  rintro _ w3 ⟨rfl, hF3⟩
  have hrd3 : Rd w3 1 (some ⟨wr.drew.heap.size, 0, none⟩) 1 (NB [xo]) := Rd.of_blk (n := 1) (size := 1) hF3.blk rfl
  have hX3 := hXs.frm0 hF3.frm
  have hfr3 := hfrs.trans hF3.frm jp
  have hS : (fun v => Blk v gx 150 #[.pointer (some ⟨gr, 0, none⟩), .slice (some adk) o.length c2, .int .i64 ((most : Nat) : Int)]) w3 := hX3.1
  refine ⟨hS, ?_⟩
  refine qV.m 19 rfl jK (qJ.app rfl rfl ze (dD) rfl jd hX3.2.2.1 hrd3 (dH _) jo jo) trivial rfl rfl ?_
  rintro _ w4 ⟨B4, c4, rfl, ho4, hf4, hob4⟩
  have hb4 := hX3.1.frm hf4 hX3.gxA
  have hS := hb4
  refine ⟨hS, ?_⟩
  refine qV.r1 20 rfl jK hS (Run.nilck rfl) trivial rfl rfl ?_
  refine qV.r1 21 rfl jK hS (Run.fieldAddr rfl zak rfl zl jd) trivial rfl rfl ?_
  refine qV.stL rfl jK (qR.store (i := 1) rfl rfl zl hb4 rfl rfl) trivial rfl ?_
  rintro w5 ⟨hb5, hf5, hs5⟩
  obtain ⟨hX5, hf35, hu5⟩ := hX3.app ho4 hf4 hob4 hb5 hf5 rfl jo (fun x hx => by simp at hx; omega)
  have hsz3 := hfr3.size
  have hfr5 : Frm (gx :: gr :: ob A) w w5 := hfr3.trans hf35 (fun x hx => by rcases zcq.1 hx with rfl | hx; exact .inl jp; rcases hu x hx with h6 | h6; exact .inl (by simp [h6]); exact .inr h6)
  refine qV.done jK ?_
  refine qK (jN ?_)
  refine jv4 0 12 93 94 ?_
  refine jR (jb rfl rfl (Bin.add_i64 _ 1 jo) (jm rfl (jO ?_)))
  refine jN ⟨(i + 1, o ++ [xo], B4, c4), (js4 rfl rfl rfl rfl), ?_, ?_⟩
  ·
   refine ⟨by dsimp only; omega, ?_, by dsimp only; rw [zb]; simp; omega, hX5, hfr5, fun y hy => (hu5 y hy).elim (hu y) (fun h => .inr (zo hsz3 h))⟩
   dsimp only
   rw [← hcp, show lg.1 + v5 - (i + 1) = k by omega]
  first | omega | (dsimp only; omega)
 have hin : i = lg.1 + v5 := jo
 subst hin
 rw [Nat.sub_self] at hcp
 simp only [cF] at hcp
 refine jX ?_
 refine qZ (qZ (qP ?_))
 refine jN ?_
 refine VC.sub [] .nil ?_
 refine jS (jR (ja rfl (jO (jN (jT ?_)))))
 refine qC rfl ?_
 subst hF
 exact ⟨hfr, A2, c2, rfl, by rw [← hcp]; exact hXr, hu⟩
end
section
open Go.RowKit
theorem zJ {L : List Bool} {a b : List Int} {most p : Nat} {out : List Nat} {x : Bool × Nat × List Nat} (hm : bM a ≤ 15) (hm2 : bM b ≤ 15) (hp : p ≤ L.length) (h : eL L a b most p out = .ok x) : p < x.2.1 ∧ x.2.1 ≤ L.length := by
 unfold eL at h
 rcases hS : gJ L a p with k | ⟨s, p1⟩
 · rw [hS] at h; cases h
 rw [hS, qS] at h
 obtain ⟨h1, h2, _⟩ := mL hm hp hS
 dsimp only at h
 split at h
 ·
  split at h
  · injection h with h; subst h; exact ⟨h1, h2⟩
  cases h
 split at h
 · injection h with h; subst h; exact ⟨h1, h2⟩
 split at h
 · cases h
 generalize longT.getD (s - 257) (0, 0) = lg at h
 rcases hT : bZ L lg.2 p1 with k | ⟨v, p2⟩
 · rw [hT] at h; cases h
 rw [hT, qS] at h
 obtain ⟨h3, h4, _, _⟩ := bC hT
 dsimp only at h
 rcases hS2 : gJ L b p2 with k | ⟨s2, p3⟩
 · rw [hS2] at h; cases h
 rw [hS2, qS] at h
 obtain ⟨h5, h6, _⟩ := mL hm2 jo hS2
 dsimp only at h
 split at h
 · cases h
 generalize wayT.getD s2 (0, 0) = wg at h
 rcases hT2 : bZ L wg.2 p3 with k | ⟨v2, p4⟩
 · rw [hT2] at h; cases h
 rw [hT2, qS] at h
 obtain ⟨h7, h8, _, _⟩ := bC hT2
 dsimp only at h
 split at h
 · cases h
 split at h
 · cases h
 injection h with h; subst h
 show p < p4 ∧ p4 ≤ L.length
 omega
theorem IsX.ofD {w : World} {gx gr : Nat} {Ar : Option Addr} {bs : List Nat} {p : Nat} {A : Option Addr} {c : Nat} {out : List Nat} {most g : Nat} {B : Option Addr} {d : Nat} {f F : Nat → Nat} {sy : List Nat} {m : Nat} (h : IsX w gx gr Ar bs p A c out most) (hD : IsD w g B d f F sy m) : ∀ x ∈ g :: ob B, x ∉ gx :: gr :: ob A := fun x hx h5 => by
 rcases zcq.1 h5 with rfl | h5
 ·
  rcases zcq.1 hx with h6 | hx
  · exact hD.1.ne h.1 jd h6.symm
  exact hD.2.ne_blk h.1 jd hx
 rcases zcq.1 h5 with rfl | h5
 ·
  rcases zcq.1 hx with h6 | hx
  · exact hD.1.ne h.2.1.choose_spec.1 jd h6.symm
  exact hD.2.ne_blk h.2.1.choose_spec.1 jd hx
 rcases zcq.1 hx with h6 | hx
 · subst h6; exact h.2.2.1.ne_blk hD.1 jd h5
 exact hD.2.ne_own h.2.2.1 jd x hx h5
theorem sB (gx gr p ga gb f : Nat) (Ar A Ba Bb : Option Addr) (ca cb : Nat) (a b : List Int) (bs : List Nat) (c : Nat) (out : List Nat) (most : Nat) (w : World) (hna : newE a = 0) (hnb : newE b = 0) (hfp : 8 * bs.length < f + p) (hmo : most ≤ 1000000) (hbs : bs.length ≤ 1000000) (hB : ∀ b ∈ bs, b < 256) (hX : IsX w gx gr Ar bs p A c out most)
  (hDa : IsD w ga Ba ca (cn a) (bU a) (cJ a) (bM a)) (hDb : IsD w gb Bb cb (cn b) (bU b) (cJ b) (bM b)) :
  Calls Tryz.prog 116 #[.pointer (some ⟨gx, 0, none⟩), .pointer (some ⟨ga, 0, none⟩), .pointer (some ⟨gb, 0, none⟩)] w fun e w' => Frm (gx :: gr :: ob A) w w' ∧ match dQ (ofB bs) a b most f p out with
   | .error k => e = .panicked (Pan k)
   | .ok x => ∃ A' c', e = .returned (.tuple #[]) ∧ IsX w' gx gr Ar bs x.1 A' c' x.2 most ∧ ∀ y ∈ ob A', y ∈ ob A ∨ w.heap.size ≤ y := by
 generalize hF : dQ (ofB bs) a b most f p out = F
 obtain ⟨hal, ham⟩ := fM hna
 obtain ⟨hbl, hbm⟩ := fM hnb
 refine VC.calls (nt := 10) (res := #[]) Tryz.func116 rfl Tryz.ntmps116 Tryz.results116 rfl ?_
 refine jB ?_
 refine VC.loop (σ := Nat × Nat × List Nat × Option Addr × Nat) (fun s => [(0, .pointer (some ⟨gx, 0, none⟩)), (1, .pointer (some ⟨ga, 0, none⟩)), (2, .pointer (some ⟨gb, 0, none⟩))]) (fun s wr => dQ (ofB bs) a b most s.1 s.2.1 s.2.2.1 = F ∧ 8 * bs.length < s.1 + s.2.1 ∧ IsX wr gx gr Ar bs s.2.1 s.2.2.2.1 s.2.2.2.2 s.2.2.1 most ∧ IsD wr ga Ba ca (cn a) (bU a) (cJ a) (bM a) ∧ IsD wr gb Bb cb (cn b) (bU b) (cJ b) (bM b) ∧ Frm (gx :: gr :: ob A) w wr ∧ ∀ y ∈ ob s.2.2.2.1, y ∈ ob A ∨ w.heap.size ≤ y) (fun s => 8 * bs.length + 1 - s.2.1) (f, p, out, A, c) (js3 rfl rfl rfl) ⟨hF, hfp, hX, hDa, hDb, Frm.refl _ _, fun y hy => .inl hy⟩ ?_
 clear hF hX hDa hDb
 rintro ⟨f, q, o, A2, c2⟩ wr ⟨hF, hfq, hX, hDa, hDb, hfr, hu⟩
 dsimp only at hF hfq hX hDa hDb hfr hu ⊢
 have hp := hX.2.2.2.2.1
 have hp2 : q ≤ (ofB bs).length := by rw [cW]; exact hp
 obtain ⟨f, rfl⟩ : ∃ f', f = f' + 1 := ⟨f - 1, jo⟩
 simp only [dQ] at hF
 have hs := hfr.size
 refine jS (jS (jR (jm rfl (jm rfl (jM ?_)))))
 refine Ops.clp (jE3 Tryz.call135) (qJf gx gr q ga gb Ar A2 Ba Bb ca cb a b bs c2 o most _ hna hnb hmo hbs hB hX hDa hDb) rfl ?_
 rintro e w1 ⟨hf1, he⟩
 have hfr1 : Frm (gx :: gr :: ob A) w w1 := hfr.trans hf1 (fun x hx => by
  rcases zcq.1 hx with rfl | hx
  · exact .inl jp
  rcases zcq.1 hx with rfl | hx
  · exact .inl jp
  rcases hu x hx with h6 | h6
  · exact .inl (by simp [h6])
  exact .inr h6)
 rcases hT : eL (ofB bs) a b most q o with kk | ⟨go, q2, o2⟩
 ·
  rw [hT] at he hF
  simp only [cB] at hF
  subst hF
  exact .inr ⟨_, he, qT (qT (qT (dK (bY ⟨hfr1, rfl⟩))))⟩
 have hlt := (zJ ham hbm hp2 hT).1
 rw [hT] at he hF
 simp only [qS] at hF
 obtain ⟨A3, c3, rfl, hX1, hu1⟩ := he
 dsimp only at hX1 hu1 hF hlt
 have hDa1 := hDa.frm hf1 (hX.ofD hDa)
 have hDb1 := hDb.frm hf1 (hX.ofD hDb)
 have hp3 := hX1.2.2.2.2.1
 refine .inl ⟨_, rfl, ?_⟩
 refine jO (jN (jv4 0 1 2 9 ?_))
 refine VC.condB rfl (fun hc1 => ?_) (fun hc1 => ?_)
 ·
  refine jQ (jN (jv3 0 1 2 ?_))
  refine jB (jQ ?_)
  refine qK (jN ⟨(f, q2, o2, A3, c3), (js3 rfl rfl rfl), ?_, ?_⟩)
  ·
   rw [if_pos hc1] at hF
   exact ⟨hF, by dsimp only; omega, hX1, hDa1, hDb1, hfr1, fun y hy => (hu1 y hy).elim (hu y) (fun h => .inr (zo hs h))⟩
  dsimp only; omega
 refine jX ?_
 refine qZ (qZ (qP ?_))
 refine eV ?_
 rw [if_neg (by simpa using hc1)] at hF
 subst hF
 exact ⟨hfr1, A3, c3, rfl, hX1, fun y hy => (hu1 y hy).elim (hu y) (fun h => .inr (zo hs h))⟩
end
section
open Go.RowKit
theorem qVx {bs : List Nat} {most p : Nat} {out : List Nat} {x : Nat × List Nat} (h : kR bs most p out = .ok x) : p < x.1 := by
 unfold kR at h
 rcases hT : bZ (ofB bs) 16 ((p + 7) / 8 * 8) with k | ⟨v, p2⟩
 · rw [hT] at h; cases h
 rw [hT, qS] at h
 obtain ⟨h3, h4, _, _⟩ := bC hT
 dsimp only at h
 rcases hT2 : bZ (ofB bs) 16 p2 with k | ⟨v2, p3⟩
 · rw [hT2] at h; cases h
 rw [hT2, qS] at h
 obtain ⟨h7, h8, _, _⟩ := bC hT2
 dsimp only at h
 split at h
 · cases h
 split at h
 · cases h
 split at h
 · cases h
 simp only [Except.ok.injEq] at h
 subst h
 show p < p3 + 8 * v
 omega
theorem mN : cK.length = 288 := by decide +kernel
theorem mP : cH.length = 32 := by decide +kernel
theorem qJg (gx gr p : Nat) (Ar A : Option Addr) (bs : List Nat) (c : Nat) (out : List Nat) (most : Nat) (w : World) (hmo : most ≤ 1000000) (hbs : bs.length ≤ 1000000) (hB : ∀ b ∈ bs, b < 256) (hX : IsX w gx gr Ar bs p A c out most) :
  Calls Tryz.prog 86 #[.pointer (some ⟨gx, 0, none⟩)] w fun e w' => Frm (gx :: gr :: ob A) w w' ∧ match gR bs most p out with
   | .error k => e = .panicked (Pan k)
   | .ok x => ∃ A' c', e = .returned (.bool x.1) ∧ IsX w' gx gr Ar bs x.2.1 A' c' x.2.2 most ∧ ∀ y ∈ ob A', y ∈ ob A ∨ w.heap.size ≤ y := by
 generalize hF : gR bs most p out = F
 unfold gR at hF
 refine VC.calls (nt := 43) (res := #[.tmp 2]) Tryz.func86 rfl Tryz.ntmps86 Tryz.results86 rfl ?_
 refine jS (jR (ja rfl (jO (jN (jv1 0 ?_)))))
 refine jS (jR (jM ?_))
 refine Ops.clp (jE2 zdi) (cS gx gr 1 p Ar A bs c out most _ jo hbs hB hX) rfl ?_
 rintro e w1 ⟨hf1, he⟩
 have hfr1 := hf1
 rcases hT1 : bZ (ofB bs) 1 p with kk | ⟨v1, p1⟩
 ·
  rw [hT1] at he
  simp only [hT1, cB] at hF
  subst hF
  exact .inr ⟨_, he, qT (bY ⟨hfr1.mono jp, rfl⟩)⟩
 rw [hT1] at he
 simp only [hT1, qS] at hF
 obtain ⟨rfl, hX1⟩ := he
 obtain ⟨hp1, hpl1, hv1, _⟩ := bC hT1
 refine .inl ⟨_, rfl, ?_⟩
 refine jM ?_
 refine Ops.clp (jE2 zdi) (cS gx gr 2 p1 Ar A bs c out most _ jo hbs hB hX1) rfl ?_
 rintro e w2 ⟨hf2, he⟩
 have hfr2 := hfr1.trans hf2 (fun x hx => .inl hx)
 rcases hT2 : bZ (ofB bs) 2 p1 with kk | ⟨v2, p2⟩
 ·
  rw [hT2] at he
  simp only [hT2, cB] at hF
  subst hF
  exact .inr ⟨_, he, qT (bY ⟨hfr2.mono jp, rfl⟩)⟩
 rw [hT2] at he
 simp only [hT2, qS] at hF
 obtain ⟨rfl, hX2⟩ := he
 obtain ⟨hp2, hpl2, hv2, _⟩ := bC hT2
 refine .inl ⟨_, rfl, ?_⟩
 rw [cW] at hpl1 hpl2
 have hs2 := hfr2.size
 refine ja rfl (ja rfl (jO (jN (jv3 0 3 4 ?_))))
 refine jS (jR (jm rfl (jb rfl rfl (Bin.lssN _ 3) ?_)))
 refine Ops.clp (jE2 zcy) (cC (decide (v2 < 3)) 3 _) rfl ?_
 rintro e _ ⟨rfl, rfl⟩
 by_cases hN1 : v2 < 3
 rotate_left
 ·
  refine .inr ⟨_, by rw [if_neg (by simpa using hN1)], qT (bY ?_)⟩
  rw [if_pos hN1] at hF
  subst hF
  exact ⟨hfr2.mono jp, rfl⟩
 refine .inl ⟨_, by rw [if_pos (by simpa using hN1)], ?_⟩
 rw [if_neg (by simpa using hN1)] at hF
 refine jO (jN (jv3 0 3 4 ?_))
 refine jS (jS (jR (jm rfl (jO (jN (jv3 0 3 14 ?_))))))
 refine jB (jS (jR (jb rfl rfl (Bin.eqlN _ 0) (ja rfl (jO (jN (jv4 0 3 14 15 ?_)))))))
 refine jD rfl (fun hc1 => ?_) fun hc1 => ?_
 ·
  rw [if_pos hc1] at hF
  refine jS (jR (jM ?_))
  refine Ops.clp (jE1 Tryz.call115) (qXr gx gr p2 Ar A bs c out most _ hmo hbs hB hX2) rfl ?_
  rintro e w3 ⟨hf3, he⟩
  have hfr3 : Frm (gx :: gr :: ob A) w w3 := (hfr2.mono (T := gx :: gr :: ob A) jp).trans hf3 (fun x hx => .inl hx)
  rcases hT3 : kR bs most p2 out with kk | ⟨q3, o3⟩
  ·
   rw [hT3] at he hF
   simp only [cB] at hF
   subst hF
   exact .inr ⟨_, he, qT (dK (qT (bY ⟨hfr3, rfl⟩)))⟩
  rw [hT3] at he hF
  simp only [qS] at hF
  obtain ⟨A3, c3, rfl, hX3, hu3⟩ := he
  dsimp only at hX3 hu3 hF
  subst hF
  refine .inl ⟨_, rfl, ?_⟩
  refine jO (jN (jv1 3 ?_))
  refine jS (jR (jm rfl (jb rfl rfl (Bin.eqlN _ 0) (ja rfl (jO (jN (jv1 2 ?_)))))))
  refine jT ?_
  refine qD (qN (qC rfl ?_))
  exact ⟨hfr3, A3, c3, rfl, hX3, fun y hy => (hu3 y hy).imp id (fun h => zo hs2 h)⟩
 rw [if_neg hc1] at hF
 refine jS (jR (jb rfl rfl (Bin.eqlN _ 1) (ja rfl (jO (jN (jv4 0 3 14 21 ?_))))))
 refine jD rfl (fun hc2 => ?_) fun hc2 => ?_
 ·
  rw [if_pos hc2] at hF
  obtain ⟨hg1, hg2, _⟩ := wP
  refine jS (jR ?_)
  refine Ops.cl (jE0 Tryz.call56) (uH _) rfl ?_
  rintro e w3 ⟨A3, c3, B3, d3, rfl, hO3, hQ3, hf3⟩
  refine ⟨_, rfl, ?_⟩
  have hX3 := hX2.frm0 hf3
  have hfr3 := hfr2.trans hf3 jp
  refine jm rfl (je (Run.extract rfl rfl) (je (Run.extract rfl rfl) (ja rfl (ja rfl (jO (jN (jv4 0 3 5 6 ?_)))))))
  refine jR (jm rfl (jM ?_))
  refine Ops.clp (jE1 Tryz.call117) (oL _ _ cK 288 _ (by rw [mN]; omega) mN hO3.rd) rfl ?_
  rintro e w4 ⟨hf4, he⟩
  have hfr4 := (hfr3).trans hf4 jp
  rw [if_pos hg1] at he
  obtain ⟨gd4, Bd4, cd4, rfl, hD4, hgd4⟩ := he
  refine .inl ⟨_, rfl, ?_⟩
  have hX4 := hX3.frm0 hf4
  have hQ4 := hQ3.frm hf4 jp
  refine jM ?_
  refine Ops.clp (jE1 Tryz.call117) (oL _ _ cH 32 _ (by rw [mP]; omega) mP hQ4.rd) rfl ?_
  rintro e w5 ⟨hf5, he⟩
  have hfr5 := (hfr4).trans hf5 jp
  rw [if_pos hg2] at he
  obtain ⟨gd5, Bd5, cd5, rfl, hD5, hgd5⟩ := he
  refine .inl ⟨_, rfl, ?_⟩
  have hX5 := hX4.frm0 hf5
  have hD45 := hD4.frm hf5 jp
  refine Ops.clp (jE3 Tryz.call116) (sB gx gr p2 gd4 gd5 (8 * bs.length + 1) Ar A Bd4 Bd5 _ _ cK cH bs c out most _ hg1 hg2 jo hmo hbs hB hX5 hD45 hD5) rfl ?_
  rintro e w6 ⟨hf6, he⟩
  have hfr6 : Frm (gx :: gr :: ob A) w w6 := (hfr5.mono (T := gx :: gr :: ob A) jp).trans hf6 (fun x hx => .inl hx)
  rcases hT6 : dQ (ofB bs) cK cH most (8 * bs.length + 1) p2 out with kk | ⟨q6, o6⟩
  ·
   rw [hT6] at he hF
   simp only [cB] at hF
   subst hF
   exact .inr ⟨_, he, dK (qT (bY ⟨hfr6, rfl⟩))⟩
  rw [hT6] at he hF
  simp only [qS] at hF
  obtain ⟨A6, c6, rfl, hX6, hu6⟩ := he
  dsimp only at hX6 hu6 hF
  subst hF
  refine .inl ⟨_, rfl, ?_⟩
  refine jO ?_
  refine qK (jN ?_)
  refine jv1 3 ?_
  refine jS (jR (jm rfl (jb rfl rfl (Bin.eqlN _ 0) (ja rfl (jO (jN (jv1 2 ?_)))))))
  refine jT ?_
  refine qC rfl ?_
  exact ⟨hfr6, A6, c6, rfl, hX6, fun y hy => (hu6 y hy).imp id (fun h => zo hfr5.size h)⟩
 rw [if_neg hc2] at hF
 refine jS (jR (jb rfl rfl (Bin.eqlN _ 2) (ja rfl (jO (jN (jv3 0 3 33 ?_))))))
 refine jD rfl (fun hc3 => ?_) fun hc3 => ?_
 ·
  refine jR (jm rfl (jM ?_))
  refine Ops.clp (jE1 Tryz.call118) (qY0 gx gr p2 Ar A bs c out most _ hbs hB hX2) rfl ?_
  rintro e w3 ⟨hf3, he⟩
  have hfr3 := hfr2.trans hf3 (fun x hx => .inl hx)
  rcases hT3 : oM (ofB bs) p2 with kk | ⟨q3, la, lb⟩
  ·
   rw [hT3] at he hF
   simp only [cB] at hF
   subst hF
   exact .inr ⟨_, he, dK (qT (bY ⟨hfr3.mono jp, rfl⟩))⟩
  rw [hT3] at he hF
  simp only [qS] at hF
  obtain ⟨ga, Ba, ca, gb, Bb, cb, rfl, hX3, hDa, hDb, hna, hnb⟩ := he
  dsimp only at hX3 hDa hDb hna hnb hF
  refine .inl ⟨_, rfl, ?_⟩
  refine je (Run.extract rfl rfl) (je (Run.extract rfl rfl) ?_)
  refine Ops.clp (jE3 Tryz.call116) (sB gx gr q3 ga gb (8 * bs.length + 1) Ar A Ba Bb _ _ la lb bs c out most _ hna hnb jo hmo hbs hB hX3 hDa hDb) rfl ?_
  rintro e w6 ⟨hf6, he⟩
  have hfr6 : Frm (gx :: gr :: ob A) w w6 := (hfr3.mono (T := gx :: gr :: ob A) jp).trans hf6 (fun x hx => .inl hx)
  rcases hT6 : dQ (ofB bs) la lb most (8 * bs.length + 1) q3 out with kk | ⟨q6, o6⟩
  ·
   rw [hT6] at he hF
   simp only [cB] at hF
   subst hF
   exact .inr ⟨_, he, dK (qT (bY ⟨hfr6, rfl⟩))⟩
  rw [hT6] at he hF
  simp only [qS] at hF
  obtain ⟨A6, c6, rfl, hX6, hu6⟩ := he
  dsimp only at hX6 hu6 hF
  subst hF
  refine .inl ⟨_, rfl, ?_⟩
  refine jO ?_
  refine qK (jN ?_)
  refine jv1 3 ?_
  refine jS (jR (jm rfl (jb rfl rfl (Bin.eqlN _ 0) (ja rfl (jO (jN (jv1 2 ?_)))))))
  refine jT ?_
  refine qC rfl ?_
  exact ⟨hfr6, A6, c6, rfl, hX6, fun y hy => (hu6 y hy).imp id (fun h => zo hfr3.size h)⟩
 omega
end
section
open Go.RowKit
theorem pC {L : List Bool} {a b : List Int} {most : Nat} (hm : bM a ≤ 15) (hm2 : bM b ≤ 15) : ∀ f p out x, p ≤ L.length → dQ L a b most f p out = .ok x → p ≤ x.1 ∧ x.1 ≤ L.length
 | 0, _, _, _, _, h => by cases h
 | f + 1, p, out, x, hp, h => by
  unfold dQ at h
  rcases hT : eL L a b most p out with k | y
  · rw [hT] at h; cases h
  rw [hT, qS] at h
  obtain ⟨h1, h2⟩ := zJ hm hm2 hp hT
  split at h
  ·
   obtain ⟨h3, h4⟩ := pC hm hm2 f _ _ x h2 h
   exact ⟨jo, h4⟩
  simp only [Except.ok.injEq] at h
  rw [← h]
  exact ⟨jo, h2⟩
theorem zK {L : List Bool} : ∀ r p l x, p ≤ L.length → gP L r p l = .ok x → p ≤ x.1 ∧ x.1 ≤ L.length
 | [], p, l, x, hp, h => by simp only [gP, Except.ok.injEq] at h; rw [← h]; exact ⟨zk _, hp⟩
 | s :: r, p, l, x, hp, h => by
  unfold gP at h
  rcases hT : bZ L 3 p with k | ⟨v, q⟩
  · rw [hT] at h; cases h
  rw [hT, qS] at h
  obtain ⟨h1, h2, _, _⟩ := bC hT
  obtain ⟨h3, h4⟩ := zK r q _ x jo h
  exact ⟨jo, h4⟩
theorem zV {L : List Bool} {l : List Int} {most : Nat} (hm : bM l ≤ 15) : ∀ f p all x, p ≤ L.length → kC L l most f p all = .ok x → p ≤ x.1 ∧ x.1 ≤ L.length
 | 0, _, _, _, _, h => by cases h
 | f + 1, p, all, x, hp, h => by
  unfold kC at h
  split at h
  ·
   rcases hT : lC L l p all most with k | ⟨q, all2⟩
   · rw [hT] at h; cases h
   rw [hT, qS] at h
   obtain ⟨h1, h2, _, _⟩ := qXp hm hp hT
   obtain ⟨h3, h4⟩ := zV hm f q _ x h2 h
   exact ⟨jo, h4⟩
  simp only [Except.ok.injEq] at h
  rw [← h]
  exact ⟨zk _, hp⟩
theorem qPu {L : List Bool} {p : Nat} {x : Nat × List Int × List Int} (hp : p ≤ L.length) (h : oM L p = .ok x) : p ≤ x.1 ∧ x.1 ≤ L.length ∧ newE x.2.1 = 0 ∧ newE x.2.2 = 0 := by
 unfold oM at h
 rcases hT : bZ L 5 p with k | ⟨v, q⟩
 · rw [hT] at h; cases h
 rw [hT, qS] at h
 obtain ⟨h1, h2, _, _⟩ := bC hT
 dsimp only at h
 rcases hT2 : bZ L 5 q with k | ⟨v2, q2⟩
 · rw [hT2] at h; cases h
 rw [hT2, qS] at h
 obtain ⟨h3, h4, _, _⟩ := bC hT2
 dsimp only at h
 rcases hT3 : bZ L 4 q2 with k | ⟨v3, q3⟩
 · rw [hT3] at h; cases h
 rw [hT3, qS] at h
 obtain ⟨h5, h6, _, _⟩ := bC hT3
 dsimp only at h
 split at h
 · cases h
 rcases hT4 : gP L (bQ.take (4 + v3)) q3 (List.replicate 19 0) with k | t
 · rw [hT4] at h; cases h
 rw [hT4, qS] at h
 obtain ⟨h7, h8⟩ := zK _ _ _ _ jo hT4
 unfold xB at h
 split at h
 · cases h
 rename_i hn
 rcases hT5 : kC L t.2 (257 + v + (1 + v2)) (L.length + 1) t.1 [] with k | u
 · rw [hT5] at h; cases h
 rw [hT5, qS] at h
 obtain ⟨h9, h10⟩ := zV (fM (by simpa using hn)).2 _ _ _ _ h8 hT5
 unfold xU at h
 split at h
 · cases h
 split at h
 · cases h
 split at h
 · cases h
 rename_i hn1 hn2
 simp only [Except.ok.injEq] at h
 rw [← h]
 exact ⟨by dsimp only; omega, h10, by simpa using hn1, by simpa using hn2⟩
theorem qY1 {bs : List Nat} {most p : Nat} {out : List Nat} {x : Bool × Nat × List Nat} (h : gR bs most p out = .ok x) : p < x.2.1 := by
 unfold gR at h
 rcases hT : bZ (ofB bs) 1 p with k | ⟨v, q⟩
 · rw [hT] at h; cases h
 rw [hT, qS] at h
 obtain ⟨h1, h2, _, _⟩ := bC hT
 dsimp only at h
 rcases hT2 : bZ (ofB bs) 2 q with k | ⟨v2, q2⟩
 · rw [hT2] at h; cases h
 rw [hT2, qS] at h
 obtain ⟨h3, h4, _, _⟩ := bC hT2
 dsimp only at h
 split at h
 · cases h
 have key : ∀ E : Except Nat (Nat × List Nat), (∀ r, E = .ok r → q2 ≤ r.1) → (bnd E fun r => (.ok (decide (v = 0), r) : Except Nat (Bool × Nat × List Nat))) = .ok x → p < x.2.1 := by
  intro E hE h
  cases E with
  | error k => cases h
  | ok r =>
   rw [qS] at h
   simp only [Except.ok.injEq] at h
   have := hE r rfl
   rw [← h]
   dsimp only
   omega
 refine key _ ?_ h
 intro r hr
 split at hr
 · exact Nat.le_of_lt (qVx hr)
 split at hr
 ·
  obtain ⟨_, _, h5, h6⟩ := wP
  exact (pC jo jo _ _ _ _ jo hr).1
 rcases hT3 : oM (ofB bs) q2 with k | c
 · rw [hT3] at hr; cases hr
 rw [hT3, qS] at hr
 obtain ⟨h5, h6, h7, h8⟩ := qPu jo hT3
 have := (pC (fM h7).2 (fM h8).2 _ _ _ _ h6 hr).1
 omega
end
section
open Go.RowKit
def IsO (w : World) (g4 g5 g6 : Nat) (v4 v5 v6 : Value) : Prop := Blk w g4 24 #[v4] ∧ Blk w g5 3 #[v5] ∧ Blk w g6 25 #[v6]
theorem IsO.frm {w w' : World} {g4 g5 g6 : Nat} {v4 v5 v6 : Value} {S : List Nat} (h : IsO w g4 g5 g6 v4 v5 v6) (hf : Frm S w w') (hS : ∀ x ∈ S, x ≠ g4 ∧ x ≠ g5 ∧ x ≠ g6) : IsO w' g4 g5 g6 v4 v5 v6 :=
 ⟨h.1.frm hf (fun h2 => (hS _ h2).1 rfl), h.2.1.frm hf (fun h2 => (hS _ h2).2.1 rfl), h.2.2.frm hf (fun h2 => (hS _ h2).2.2 rfl)⟩
theorem IsO.ne {w : World} {g4 g5 g6 : Nat} {v4 v5 v6 : Value} (h : IsO w g4 g5 g6 v4 v5 v6) : g4 ≠ g5 ∧ g4 ≠ g6 ∧ g5 ≠ g6 := ⟨h.1.ne h.2.1 jd, h.1.ne h.2.2 jd, h.2.1.ne h.2.2 jd⟩
theorem IsO.ofX {w : World} {g4 g5 g6 : Nat} {v4 v5 v6 : Value} {gx gr : Nat} {Ar : Option Addr} {bs : List Nat} {p : Nat} {A : Option Addr} {c : Nat} {out : List Nat} {most : Nat} (h : IsO w g4 g5 g6 v4 v5 v6) (hX : IsX w gx gr Ar bs p A c out most) : ∀ x ∈ gx :: gr :: ob A, x ≠ g4 ∧ x ≠ g5 ∧ x ≠ g6 := fun x hx => by
 rcases zcq.1 hx with rfl | hx
 · exact ⟨hX.1.ne h.1 jd, hX.1.ne h.2.1 jd, hX.1.ne h.2.2 jd⟩
 rcases zcq.1 hx with rfl | hx
 ·
  have hb := hX.2.1.choose_spec.1
  exact ⟨hb.ne h.1 jd, hb.ne h.2.1 jd, hb.ne h.2.2 jd⟩
 have hO := hX.2.2.1
 exact ⟨fun e => hO.ne_blk h.1 jd (e ▸ hx), fun e => hO.ne_blk h.2.1 jd (e ▸ hx), fun e => hO.ne_blk h.2.2 jd (e ▸ hx)⟩
theorem IsO.ofXx {w : World} {g4 g5 g6 : Nat} {v4 v5 v6 : Value} {gx gr : Nat} {Ar : Option Addr} {bs : List Nat} {p : Nat} {A : Option Addr} {c : Nat} {out : List Nat} {most : Nat} (h : IsO w g4 g5 g6 v4 v5 v6) (hX : IsX w gx gr Ar bs p A c out most) : ∀ x ∈ gx :: gr :: (ob A ++ ob Ar), x ≠ g4 ∧ x ≠ g5 ∧ x ≠ g6 := fun x hx => by
 have h0 := h.ofX hX
 rcases zcq.1 hx with rfl | hx
 · exact h0 _ jp
 rcases zcq.1 hx with rfl | hx
 · exact h0 _ jp
 rcases List.mem_append.1 hx with hx | hx
 · exact h0 _ (by simp [hx])
 have hO := hX.2.1.choose_spec.2
 exact ⟨fun e => hO.ne_blk h.1 jd (e ▸ hx), fun e => hO.ne_blk h.2.1 jd (e ▸ hx), fun e => hO.ne_blk h.2.2 jd (e ▸ hx)⟩
theorem qMm {Γ : Env} {w : World} {R : Ending → World → Prop} {g4 g5 g6 : Nat} {v4 v5 v6 : Value} (e4 : get? Γ 4 = some (.pointer (some ⟨g4, 0, none⟩))) (e5 : get? Γ 5 = some (.pointer (some ⟨g5, 0, none⟩))) (e6 : get? Γ 6 = some (.pointer (some ⟨g6, 0, none⟩)))
  (h : IsO w g4 g5 g6 v4 v5 v6) (k : R (.returned (.tuple #[v4, v5, v6])) w) : fP Tryz.prog #[.cell 4 24, .cell 5 3, .cell 6 25] R .ret Γ w :=
 lJ (fS e4 zt (h.1.cell 0) (fS e5 zg (h.2.1.cell 0) (fS e6 zfz (h.2.2.cell 0) (eM k))))
theorem qVy (g4 g5 g6 k : Nat) (v4 v5 v6 : Value) (w : World) (hO : IsO w g4 g5 g6 v4 v5 v6) :
  CallsD Tryz.prog 84 #[.pointer (some ⟨g4, 0, none⟩), .pointer (some ⟨g5, 0, none⟩), .pointer (some ⟨g6, 0, none⟩)] (.panicking (Pan k)) w fun e u w' => (∃ v, e = .returned v) ∧ settle u = .returning ∧ IsO w' g4 g5 g6 (.slice none 0 0) (.int .i64 ((0 : Nat) : Int)) (.int .i64 ((k : Nat) : Int)) ∧ Frm [g4, g5, g6] w w' := by
 obtain ⟨hn1, hn2, hn3⟩ := hO.ne
 obtain ⟨hb4, hb5, hb6⟩ := hO
 refine VC.recovered (nt := 9) (res := #[]) (u' := .panicking [{ v := .iface 25 (.int .i64 ((k : Nat) : Int)), recovered := true }]) (v := .iface 25 (.int .i64 ((k : Nat) : Int))) Tryz.func84 rfl Tryz.ntmps84 Tryz.results84 rfl (.inl ⟨[], rfl, rfl⟩) rfl rfl rfl rfl rfl rfl rfl rfl ?_
 refine jS (jR (jm rfl (je (Run.neqNilI rfl rfl Tryz.underlying20 rfl) (jO (jN (jv5 0 1 2 3 6 ?_))))))
 refine VC.condT rfl (rfl) ?_
 refine VC.held (fun _ => True) jK ?_
 refine jH 0 rfl trivial (fun w0 hw0 => Run.mv rfl) ?_
 refine jH 1 rfl trivial (fun w0 hw0 => Run.assertT rfl Tryz.underlying25 rfl) ?_
 have hd := qQ.drew w
 have hb4 := hb4.drawn hd
 have hb5 := hb5.drawn hd
 have hb6 := hb6.drawn hd
 refine qV.st 2 rfl jK (qR.store (i := 0) (v := .slice none 0 0) rfl rfl zl hb4 rfl rfl) trivial rfl ?_
 rintro w1 ⟨hb1, hf1, hs1⟩
 refine ⟨trivial, ?_⟩
 refine qV.st 3 rfl jK (qR.store (i := 0) (v := .int .i64 ((0 : Nat) : Int)) rfl rfl zd (hb5.frm hf1 (by simp; omega)) rfl rfl) trivial rfl ?_
 rintro w2 ⟨hb2, hf2, hs2⟩
 refine ⟨trivial, ?_⟩
 refine qV.st 4 rfl jK (qR.store (i := 0) (v := .int .i64 ((k : Nat) : Int)) rfl rfl zef ((hb6.frm hf1 (by simp; omega)).frm hf2 (by simp; omega)) rfl rfl) trivial rfl ?_
 rintro w3 ⟨hb3, hf3, hs3⟩
 refine ⟨trivial, ?_⟩
 refine qV.done jK ?_
 refine eV ?_
 exact ⟨⟨_, rfl⟩, rfl, ⟨(hb1.frm hf2 (by simp; omega)).frm hf3 (by simp; omega), hb2.frm hf3 (by simp; omega), hb3⟩, (hd.frm.mono (T := [g4, g5, g6]) jp).trans ((hf1.mono (T := [g4, g5, g6]) jp).trans ((hf2.mono (T := [g4, g5, g6]) jp).trans (hf3.mono (T := [g4, g5, g6]) jp) (fun x hx => .inl hx)) (fun x hx => .inl hx)) (fun x hx => .inl hx)⟩
theorem qVz (g4 g5 g6 : Nat) (w : World) :
  CallsD Tryz.prog 84 #[.pointer (some ⟨g4, 0, none⟩), .pointer (some ⟨g5, 0, none⟩), .pointer (some ⟨g6, 0, none⟩)] .returning w fun e u w' => (∃ v, e = .returned v) ∧ settle u = .returning ∧ w' = w := by
 refine VC.recovered (nt := 9) (res := #[]) (u' := .returning) (v := .nilIface) Tryz.func84 rfl Tryz.ntmps84 Tryz.results84 rfl (.inr ⟨rfl, rfl, rfl⟩) rfl rfl rfl rfl rfl rfl rfl rfl ?_
 refine jS (jR (jm rfl (je (Run.neqNil2 rfl Tryz.underlying20 rfl) (jO (jN (jv5 0 1 2 3 6 ?_))))))
 refine VC.condF rfl (rfl) ?_
 refine jQ ?_
 refine eV ?_
 exact ⟨⟨_, rfl⟩, rfl, rfl⟩
end
section
open Go.RowKit
theorem qY2 (B : Option Addr) (c0 : Nat) (bs : List Nat) (most : Int) (w : World) (hmo : most ≤ 1000000) (hbs : bs.length ≤ 1000000) (hB : ∀ b ∈ bs, b < 256) (hr : Rd w 1 B bs.length (NB bs)) :
  Calls Tryz.prog 48 #[.slice B bs.length c0, .int .i64 most] w fun e w' => Frm [] w w' ∧ match gV bs most with
   | .error k => e = .returned (.tuple #[.slice none 0 0, .int .i64 ((0 : Nat) : Int), .int .i64 ((k : Nat) : Int)])
   | .ok x => ∃ A' c', e = .returned (.tuple #[.slice A' x.1.length c', .int .i64 ((x.2 : Nat) : Int), .int .i64 ((0 : Nat) : Int)]) ∧ Own w' 5 1 A' x.1.length c' (NB x.1) ∧ (∀ y ∈ ob A', w.heap.size ≤ y) ∧ (∀ y ∈ x.1, y < 256) ∧ (x.1.length : Int) ≤ most ∧ x.2 ≤ bs.length := by
 generalize hF : gV bs most = F
 unfold gV at hF
 refine LW.calls (nt := 29) Tryz.func48 rfl Tryz.ntmps48 rfl ?_
 refine LW.seq ?_
 refine jR ?_
 refine Ops.m (qJ.alloc qQx) rfl ?_
 rintro _ w1 ⟨rfl, hF1⟩
 refine Ops.m (qJ.alloc gF) rfl ?_
 rintro _ w2 ⟨rfl, hF2⟩
 refine Ops.m (qJ.alloc qRy) rfl ?_
 rintro _ w3 ⟨rfl, hF3⟩
 have hO : IsO w3 w.heap.size w1.heap.size w2.heap.size (.slice none 0 0) (.int .i64 ((0 : Nat) : Int)) (.int .i64 ((0 : Nat) : Int)) := ⟨(hF1.blk.frm hF2.frm jp).frm hF3.frm jp, hF2.blk.frm hF3.frm jp, hF3.blk⟩
 have hfr3 : Frm [] w w3 := (hF1.frm.trans hF2.frm jp).trans hF3.frm jp
 have hge5 := hF1.frm.size
 have hge6 := zo hge5 hF2.frm.size
 have hr3 := ((hr.frm hF1.frm jp).frm hF2.frm jp).frm hF3.frm jp
 generalize hg5 : w1.heap.size = g5 at hO hge5 ⊢
 generalize hg6 : w2.heap.size = g6 at hO hge6 ⊢
 generalize hg4 : w.heap.size = g4 at hO ⊢
 have hge4 : w.heap.size ≤ g4 := jo
 obtain ⟨hn1, hn2, hn3⟩ := hO.ne
 refine jO (jN ?_)
 refine LW.seq ?_
 refine jS (jR (jm rfl (jb rfl rfl (Bin.lss _ 0) (jO (jN (jv6 0 1 4 5 6 9 ?_))))))
 refine jD rfl (fun hc1 => ?_) fun hc1 => ?_
 ·
  rw [if_pos hc1] at hF
  refine jS (jR ?_)
  refine Ops.st (qR.store (i := 0) (v := .slice none 0 0) rfl rfl zl hO.1 rfl rfl) ?_
  rintro w4 ⟨hb4, hf4, hs4⟩
  refine Ops.st (qR.store (i := 0) (v := .int .i64 ((0 : Nat) : Int)) rfl rfl zd (hO.2.1.frm hf4 (by simp; omega)) rfl rfl) ?_
  rintro w5 ⟨hb5, hf5, hs5⟩
  refine Ops.st (qR.store (i := 0) (v := .int .i64 ((1 : Nat) : Int)) rfl rfl zef ((hO.2.2.frm hf4 (by simp; omega)).frm hf5 (by simp; omega)) rfl rfl) ?_
  rintro w6 ⟨hb6, hf6, hs6⟩
  refine jO (jN (jv3 4 5 6 ?_))
  refine jT ?_
  refine qN (qHv Tryz.results48 ?_)
  refine lJ ?_
  refine fS rfl zt (((hb4.frm hf5 (by simp; omega)).frm hf6 (by simp; omega)).cell 0) ?_
  refine fS rfl zg ((hb5.frm hf6 (by simp; omega)).cell 0) ?_
  refine fS rfl zfz (hb6.cell 0) ?_
  refine eM ?_
  subst hF
  exact ⟨((hfr3.trans hf4 (fun x hx => .inr (by simp at hx; omega))).trans hf5 (fun x hx => .inr (by simp at hx; omega))).trans hf6 (fun x hx => .inr (by simp at hx; omega)), rfl⟩
 rw [if_neg hc1] at hF
 obtain ⟨m, rfl⟩ : ∃ m : Nat, most = m := ⟨most.toNat, jo⟩
 simp only [zal] at hF
 generalize hG : gI bs m (8 * bs.length + 1) 0 [] = G at hF
 refine jQ (jN ?_)
 refine LW.dfr (us := [_, _, _]) (Run.mkFunc evs.nil (evs.cons rfl (evs.cons rfl (evs.cons rfl evs.nil)))) rfl rfl rfl rfl rfl rfl rfl ?_
 refine LW.vc ?_
 refine jS (jR (jM ?_))
 refine Ops.cl (jE1 Tryz.call85) (qW5 B c0 bs _ jo hr3) rfl ?_
 rintro e w4 ⟨gr, Ar, rfl, hR4, hf4, hA4⟩
 refine ⟨_, rfl, ?_⟩
 have hO4 := hO.frm hf4 jp
 have hfr4 := hfr3.trans hf4 jp
 have hs3 := hfr3.size
 have hs4 := hfr4.size
 refine jm rfl (je (Run.build (evs.cons rfl (evs.cons rfl evs.nil)) qPe (yN).choose_spec.1 (yN).choose_spec.2 rfl) ?_)
 refine Ops.m (qJ.box rfl) rfl ?_
 rintro _ w5 ⟨rfl, hF5⟩
 have hb5 : Blk w5 w4.heap.size 150 #[.pointer (some ⟨gr, 0, none⟩), .slice none 0 0, .int .i64 ((m : Nat) : Int)] := hF5.blk
 have hO5 := hO4.frm hF5.frm jp
 have hfr5 := hfr4.trans hF5.frm jp
 generalize w4.heap.size = gx at hb5 hs4 ⊢
 have hX5 : IsX w5 gx gr Ar bs 0 none 0 [] m := ⟨hb5, hR4.frm hF5.frm jp, Own.nil _ _ _, by simp [ob], jo, jp, jp⟩
 have hgr : w.heap.size ≤ gr := zo hs3 (hA4 gr jp)
 refine ja rfl (jO (jN (jv4 4 5 6 7 ?_)))
 refine jS (jB ?_)
 refine VC.loop (σ := Nat × Nat × List Nat × Option Addr × Nat) (fun s => [(4, .pointer (some ⟨g4, 0, none⟩)), (5, .pointer (some ⟨g5, 0, none⟩)), (6, .pointer (some ⟨g6, 0, none⟩)), (7, .pointer (some ⟨gx, 0, none⟩))]) (fun s wr => gI bs m s.1 s.2.1 s.2.2.1 = G ∧ 8 * bs.length < s.1 + s.2.1 ∧ IsX wr gx gr Ar bs s.2.1 s.2.2.2.1 s.2.2.2.2 s.2.2.1 m ∧ IsO wr g4 g5 g6 (.slice none 0 0) (.int .i64 ((0 : Nat) : Int)) (.int .i64 ((0 : Nat) : Int)) ∧ Frm [] w wr ∧ ∀ y ∈ ob s.2.2.2.1, w.heap.size ≤ y) (fun s => 8 * bs.length + 1 - s.2.1) (8 * bs.length + 1, 0, [], none, 0) (js4 rfl rfl rfl rfl) ⟨hG, by dsimp only; omega, hX5, hO5, hfr5, by simp [ob]⟩ ?_
 clear hG hX5
 rintro ⟨f, q, o, A2, c2⟩ wr ⟨hG, hfq, hX, hOr, hfr, hu⟩
 dsimp only at hG hfq hX hOr hfr hu ⊢
 have hp := hX.2.2.2.2.1
 obtain ⟨f, rfl⟩ : ∃ f', f = f' + 1 := ⟨f - 1, jo⟩
 simp only [gI] at hG
 have hsr := hfr.size
 refine jS (jS (jR (jM ?_)))
 refine Ops.clp (jE1 Tryz.call86) (qJg gx gr q Ar A2 bs c2 o m _ jo hbs hB hX) rfl ?_
 rintro e w1 ⟨hf1, he⟩
 have hfr1 : Frm [] w w1 := hfr.trans hf1 (fun x hx => .inr (by
  rcases zcq.1 hx with h6 | hx
  · omega
  rcases zcq.1 hx with h6 | hx
  · omega
  exact hu x hx))
 have hO1 := hOr.frm hf1 (hOr.ofX hX)
 rcases hT : gR bs m q o with kk | ⟨go, q2, o2⟩
 ·
  rw [hT] at he hG
  simp only [cB] at hG
  subst hG
  simp only [cB] at hF
  subst hF
  refine .inr ⟨_, he, qT (qT (qT (dK (qT (qHx Tryz.results48 Tryz.call84 ?_)))))⟩
  refine (qVy g4 g5 g6 kk _ _ _ _ hO1).mono ?_
  rintro e u w' ⟨hv, hu2, hO', hf'⟩
  exact ⟨hv, hu2, qMm rfl rfl rfl hO' ⟨hfr1.trans hf' (fun x hx => .inr (by simp at hx; omega)), rfl⟩⟩
 have hlt := qY1 hT
 rw [hT] at he hG
 simp only [qS] at hG
 obtain ⟨A3, c3, rfl, hX1, hu1⟩ := he
 dsimp only at hX1 hu1 hG hlt
 have hu3 : ∀ y ∈ ob A3, w.heap.size ≤ y := fun y hy => (hu1 y hy).elim (hu y) (fun h => zo hsr h)
 have hp3 := hX1.2.2.2.2.1
 refine .inl ⟨_, rfl, ?_⟩
 refine jO (jN (jv5 4 5 6 7 17 ?_))
 refine VC.condB rfl (fun hc2 => ?_) (fun hc2 => ?_)
 ·
  refine jQ (jN (jv4 4 5 6 7 ?_))
  refine jB (jQ ?_)
  refine qK (jN ⟨(f, q2, o2, A3, c3), (js4 rfl rfl rfl rfl), ?_, ?_⟩)
  ·
   rw [if_pos hc2] at hG
   exact ⟨hG, by dsimp only; omega, hX1, hO1, hfr1, hu3⟩
  dsimp only; omega
 rw [if_neg (by simpa using hc2)] at hG
 subst hG
 simp only [qS] at hF
 subst hF
 have hd1 := qQ.drew w1
 have hX6 := hX1.frm0 hd1.frm
 have hO6 := hO1.frm hd1.frm jp
 have hfr6 := hfr1.drawn hd1
 generalize hw6 : w1.drew = w6 at *
 obtain ⟨hx4, hx5, hx6⟩ := hO6.ofX hX6 gx jp
 refine jX ?_
 refine qZ (qZ (qP ?_))
 refine jN (jv4 4 5 6 7 ?_)
 refine jS ?_
 refine VC.held (fun v => Blk v gx 150 #[.pointer (some ⟨gr, 0, none⟩), .slice A3 o2.length c3, .int .i64 ((m : Nat) : Int)]) jK ?_
 rw [hw6]
 have hS : (fun v => Blk v gx 150 #[.pointer (some ⟨gr, 0, none⟩), .slice A3 o2.length c3, .int .i64 ((m : Nat) : Int)]) w6 := hX6.1
 refine jH 0 rfl hS (fun w0 hw0 => Run.mv rfl) ?_
 refine jH 1 rfl hS (fun w0 hw0 => Run.nilck rfl) ?_
 refine jH 2 rfl hS (fun w0 hw0 => Run.fieldAddr rfl zak rfl zl jd) ?_
 refine jH 3 rfl hS (fun w0 hw0 => Run.load rfl zt (hw0.cell 1)) ?_
 refine jH 4 rfl hS (fun w0 hw0 => Run.mv rfl) ?_
 refine jH 5 rfl hS (fun w0 hw0 => Run.nilck rfl) ?_
 refine jH 6 rfl hS (fun w0 hw0 => Run.fieldAddr rfl zak rfl zgb jd) ?_
 refine jH 7 rfl hS (fun w0 hw0 => Run.load rfl Tryz.isAgg147 (hw0.cell 0)) ?_
 refine qV.cl 8 rfl jK (jE1 Tryz.call87) (qPo gr q2 Ar bs _ hX6.2.1) trivial rfl rfl ?_
 rintro e _ ⟨rfl, rfl⟩
 refine ⟨_, rfl, hS, ?_⟩
 refine jH 9 rfl hS (fun w0 hw0 => Run.bin rfl rfl (Bin.add_i64 _ 7 jo)) ?_
 refine jH 10 rfl hS (fun w0 hw0 => Run.bin rfl rfl (Bin.quo_i64 _ 8 jo jo)) ?_
 refine qV.st 11 rfl jK (qR.store (i := 0) (v := .slice A3 o2.length c3) rfl rfl zl hO6.1 rfl rfl) trivial rfl ?_
 rintro w7 ⟨hb7, hf7, hs7⟩
 have hS := Blk.frm hS hf7 (by simp; omega)
 refine ⟨hS, ?_⟩
 refine qV.st 12 rfl jK (qR.store (i := 0) (v := .int .i64 (((q2 + 7) / 8 : Nat) : Int)) rfl rfl zd (hO6.2.1.frm hf7 (by simp; omega)) rfl rfl) trivial rfl ?_
 rintro w8 ⟨hb8, hf8, hs8⟩
 have hS := Blk.frm hS hf8 (by simp; omega)
 refine ⟨hS, ?_⟩
 refine qV.st 13 rfl jK (qR.store (i := 0) (v := .int .i64 ((0 : Nat) : Int)) rfl rfl zef ((hO6.2.2.frm hf7 (by simp; omega)).frm hf8 (by simp; omega)) rfl rfl) trivial rfl ?_
 rintro w9 ⟨hb9, hf9, hs9⟩
 have hS := Blk.frm hS hf9 (by simp; omega)
 refine ⟨hS, ?_⟩
 have hf79 : Frm [g4, g5, g6] w6 w9 := ((hf7.mono (T := [g4, g5, g6]) jp).trans (hf8.mono (T := [g4, g5, g6]) jp) (fun x hx => .inl hx)).trans (hf9.mono (T := [g4, g5, g6]) jp) (fun x hx => .inl hx)
 have hX9 := hX6.frm hf79 (fun x hx h5 => by have := hO6.ofXx hX6 x hx; simp at h5; omega)
 have hfr9 := hfr6.trans hf79 (fun x hx => .inr (by simp at hx; omega))
 refine qV.done jK ?_
 refine jN (jv3 4 5 6 ?_)
 refine jT ?_
 refine qHw Tryz.results48 Tryz.call84 ?_
 refine (qVz g4 g5 g6 _).mono ?_
 rintro e u _ ⟨hv, hu2, rfl⟩
 refine ⟨hv, hu2, ?_⟩
 refine lJ ?_
 refine fS rfl zt (((hb7.frm hf8 (by simp; omega)).frm hf9 (by simp; omega)).cell 0) ?_
 refine fS rfl zg ((hb8.frm hf9 (by simp; omega)).cell 0) ?_
 refine fS rfl zfz (hb9.cell 0) ?_
 refine eM ?_
 exact ⟨hfr9, A3, c3, rfl, hX9.2.2.1, fun y hy => hg4 ▸ hu3 y hy, hX9.2.2.2.2.2.2, by have := hX9.2.2.2.2.2.1; dsimp only; omega, by have := hX9.2.2.2.2.1; dsimp only; omega⟩
end
section
open Go.RowKit
section
variable {w w' : World} {gx : Nat} {Ab : Option Addr} {cb : Nat} {L : List Bool} {p : Nat} {A : Option Addr} {c : Nat} {out : List Nat} {most e : Nat} {S : List Nat}
end
def qMn (L : List Bool) (n p e v p' e' : Nat) : Prop := (e ≠ 0 ∧ v = 0 ∧ p' = p ∧ e' = e) ∨ (e = 0 ∧ bZ L n p = .ok (v, p') ∧ e' = 0) ∨ (e = 0 ∧ bZ L n p = .error 2 ∧ v = 0 ∧ p' = p ∧ e' = 2)
theorem qMn.lt {L : List Bool} {n p e v p' e' : Nat} (h : qMn L n p e v p' e') : v < 2 ^ n ∧ p ≤ p' := by
 rcases h with ⟨_, rfl, rfl, _⟩ | ⟨_, h, _⟩ | ⟨_, _, rfl, rfl, _⟩
 · exact ⟨zfm n, zk _⟩
 ·
  obtain ⟨h1, h2, h3, _⟩ := bC h
  exact ⟨h3, jo⟩
 exact ⟨zfm n, zk _⟩
end
section
open Go.RowKit
theorem qPv {a b : Nat} (ha : a < 2 ^ 16) (hb : b < 2 ^ 16) : a ^^^ b = 65535 ↔ a + b = 65535 := by
 have h1 : ∀ a, a < 2 ^ 16 → a ^^^ 65535 = 65535 - a := fun a ha => by
  have h := congrArg BitVec.toNat (BitVec.xor_allOnes (x := BitVec.ofNat 16 a))
  rw [BitVec.toNat_xor, BitVec.toNat_not, BitVec.toNat_ofNat, BitVec.toNat_allOnes, zde ha] at h
  have e : (2 ^ 16 - 1 : Nat) = 65535 := jd
  rw [show (2 ^ 16 - 1 - a : Nat) = 65535 - a by omega, e] at h
  exact h
 constructor
 ·
  intro h
  have h2 : b = a ^^^ 65535 := by rw [← h, ← zdj, zfg, Nat.zero_xor]
  rw [h1 a ha] at h2
  omega
 intro h
 have h2 : b = a ^^^ 65535 := by rw [h1 a ha]; omega
 rw [h2, ← zdj, zfg, Nat.zero_xor]
def ResR (F : Except Nat (Nat × List Nat)) (p' : Nat) (out' : List Nat) (e' : Nat) : Prop := match F with
 | .ok x => e' = 0 ∧ p' = x.1 ∧ out' = x.2
 | .error k => e' = k ∧ k ≠ 0
end
section
open Go.RowKit
def Stg {α : Type} (F : Except Nat α) (e : Nat) (G : Except Nat α) : Prop := (e ≠ 0 ∧ F = .error e) ∨ (e = 0 ∧ F = G)
theorem Stg.left {α : Type} {F G G' : Except Nat α} {e : Nat} (h : Stg F e G) (he : e ≠ 0) : Stg F e G' := h.elim .inl (fun h => absurd h.1 he)
theorem Stg.right {α : Type} {F G : Except Nat α} (h : Stg F 0 G) : F = G := h.elim (fun h => absurd rfl h.1) (·.2)
theorem Stg.mk0 {α : Type} {F G : Except Nat α} (h : F = G) : Stg F 0 G := .inr ⟨rfl, h⟩
theorem Stg.num {α : Type} {F : Except Nat α} {L : List Bool} {n p e v p' e' : Nat} {f : Nat × Nat → Except Nat α} (h : Stg F e (bnd (bZ L n p) f)) (hN : qMn L n p e v p' e') : Stg F e' (f (v, p')) := by
 rcases hN with ⟨h1, rfl, rfl, rfl⟩ | ⟨rfl, h1, rfl⟩ | ⟨rfl, h1, _, _, rfl⟩
 · exact h.left h1
 · have := h.right; rw [h1, qS] at this; exact .mk0 this
 have := h.right; rw [h1, cB] at this; exact .inl ⟨jd, this⟩
theorem Stg.res {α : Type} {F : Except Nat α} {G : Except Nat (Nat × List Nat)} {K : Nat × List Nat → Except Nat α} {p' e' : Nat} {out' : List Nat} (h : Stg F 0 (bnd G K)) (hR : ResR G p' out' e') : Stg F e' (K (p', out')) := by
 have h := h.right
 cases G with
 | error k => obtain ⟨rfl, hk⟩ := hR; exact .inl ⟨hk, h⟩
 | ok x => obtain ⟨rfl, rfl, rfl⟩ := hR; exact .mk0 h
theorem zW {α β γ : Type} (x : Except Nat α) (f : α → Except Nat β) (g : β → Except Nat γ) : bnd (bnd x f) g = bnd x fun y => bnd (f y) g := by cases x <;> rfl
theorem wS : ∀ (n d : Nat) (out : List Nat), cF (n + 1) d out = cF n d out ++ [(cF n d out).getD ((cF n d out).length - d) 0]
 | 0, _, _ => rfl
 | n + 1, d, out => by rw [cF, wS n d]; rfl
theorem wT : ∀ (n d : Nat) (out : List Nat), cF n d out = out ++ (cF n d out).drop out.length
 | 0, _, out => by simp [cF]
 | n + 1, d, out => by
  rw [wS]
  have ih := wT n d out
  have hl := sU n d out
  rw [zca jo, ← zj, ← ih]
def tokD (most : Nat) (out : List Nat) (n d0 : Nat) (u : Nat × Nat) : Except Nat (Bool × Nat × List Nat) :=
 if out.length < d0 + u.1 then .error 12 else if most < out.length + n then .error 13 else .ok (true, u.2, cF n (d0 + u.1) out)
def tokW (L : List Bool) (most : Nat) (out : List Nat) (n : Nat) (y : Nat × Nat) : Except Nat (Bool × Nat × List Nat) :=
 if 30 ≤ y.1 then .error 11 else bnd (bZ L (wayT.getD y.1 (0, 0)).2 y.2) (tokD most out n (wayT.getD y.1 (0, 0)).1)
def tokR (L : List Bool) (b : List Int) (most : Nat) (out : List Nat) (x : Nat × Nat) : Except Nat (Bool × Nat × List Nat) :=
 if x.1 < 256 then (if out.length < most then .ok (true, x.2, out ++ [x.1]) else .error 13)
 else if x.1 = 256 then .ok (false, x.2, out)
 else if 285 < x.1 then .error 11
 else bnd (bZ L (longT.getD (x.1 - 257) (0, 0)).2 x.2) fun v => bnd (gJ L b v.2) (tokW L most out ((longT.getD (x.1 - 257) (0, 0)).1 + v.1))
def qMo {α : Type} (L : List Bool) (a b : List Int) (most f : Nat) (K : Nat × List Nat → Except Nat α) (x : Bool × Nat × List Nat) : Except Nat α := bnd (if x.1 then dQ L a b most f x.2.1 x.2.2 else .ok x.2) K
section
variable {α : Type} {F : Except Nat α} {K : Nat × List Nat → Except Nat α} {L : List Bool} {a b : List Int} {most f : Nat} {o : List Nat}
theorem Stg.len {s p : Nat} (h : Stg F 0 (bnd (tokR L b most o (s, p)) (qMo L a b most f K))) (h1 : ¬ s < 256) (h2 : s ≠ 256) (h3 : ¬ 285 < s) :
  Stg F 0 (bnd (bZ L (longT.getD (s - 257) (0, 0)).2 p) fun v => bnd (gJ L b v.2) fun y => bnd (tokW L most o ((longT.getD (s - 257) (0, 0)).1 + v.1) y) (qMo L a b most f K)) := by
 have h := h.right
 unfold tokR at h
 rw [if_neg h1, if_neg h2, if_neg h3, zW] at h
 refine .mk0 (h.trans ?_)
 congr 1
 funext v
 rw [zW]
theorem Stg.come {n d p e' : Nat} {o' : List Nat} (h : Stg F 0 (bnd (if most < o.length + n then .error 13 else .ok (true, p, cF n d o)) (qMo L a b most f K))) (hp : (0 ≠ 0 ∧ e' = 0) ∨ (0 = 0 ∧ most < o.length + ((cF n d o).drop o.length).length ∧ e' = 13) ∨ (0 = 0 ∧ ¬ most < o.length + ((cF n d o).drop o.length).length ∧ e' = 0 ∧ o' = o ++ (cF n d o).drop o.length)) : Stg F e' (bnd (dQ L a b most f p o') K) := by
 have h := h.right
 rw [zp, sU, zdd, ← wT] at hp
 rcases hp with ⟨h0, _⟩ | ⟨_, hm, rfl⟩ | ⟨_, hm, rfl, rfl⟩
 · exact absurd rfl h0
 ·
  rw [if_pos hm] at h
  exact .inl ⟨jd, h⟩
 rw [if_neg hm] at h
 exact .mk0 h
end
end
section
open Go.RowKit
section
variable {α : Type} {F : Except Nat α} {bs : List Nat} {m f q v e : Nat} {o : List Nat} {K : Nat × List Nat → Except Nat α}
theorem Stg.dir {G : Except Nat (Nat × List Nat)} {x : Nat × List Nat} (h : Stg F 0 (bnd G K)) (hG : Stg G e (.ok x)) : Stg F e (K x) := by
 have h := h.right
 rcases hG with ⟨he, rfl⟩ | ⟨rfl, rfl⟩
 · exact .inl ⟨he, h⟩
 exact .mk0 h
theorem Stg.own (G : Except Nat (Nat × List Nat)) : Stg G 0 (bnd G .ok) := .mk0 (by cases G <;> rfl)
end
end
section
open Go.RowKit
theorem qPw : ∀ i, i < 29 → 3 ≤ (longT.getD i (0, 0)).1 ∧ (longT.getD i (0, 0)).1 ≤ 258 ∧ (longT.getD i (0, 0)).2 ≤ 5 := by decide +kernel
theorem qSg : ∀ i, i < 30 → 1 ≤ (wayT.getD i (0, 0)).1 ∧ (wayT.getD i (0, 0)).1 ≤ 24577 ∧ (wayT.getD i (0, 0)).2 ≤ 13 := by decide +kernel
theorem qS0 (t : List (Nat × Nat)) : ∀ i, i < t.length → (t.flatMap LC)[i * 2]? = some (.int .i64 (((t.getD i (0, 0)).1 : Nat) : Int)) ∧ (t.flatMap LC)[i * 2 + 1]? = some (.int .i64 (((t.getD i (0, 0)).2 : Nat) : Int)) := by
 induction t with
 | nil => intro i h; cases h
 | cons a r ih =>
  intro i h
  cases i with
  | zero => simp [LC]
  | succ i =>
   have := ih i (by simpa using h)
   rw [zm]
   have e1 : (i + 1) * 2 = 2 + i * 2 := jo
   have e2 : (i + 1) * 2 + 1 = 2 + (i * 2 + 1) := jo
   rw [e1, show 2 + i * 2 + 1 = 2 + (i * 2 + 1) by omega]
   rw [zah (by simp [LC]), zah (by simp [LC])]
   simpa [LC] using this
theorem qXt {w : World} {g : Nat} {t : TypeId} {l : List (Nat × Nat)} (h : Blk w g t (l.flatMap LC).toArray) {i : Nat} (hi : i < l.length) :
  w.cell? ((⟨g, 0, none⟩ : Addr).add (i * 2)) = some (.int .i64 (((l.getD i (0, 0)).1 : Nat) : Int)) ∧ w.cell? (((⟨g, 0, none⟩ : Addr).add (i * 2)).add 1) = some (.int .i64 (((l.getD i (0, 0)).2 : Nat) : Int)) := by
 obtain ⟨h1, h2⟩ := qS0 l i hi
 have e1 := h.cells (i * 2) _ (by simpa using h1)
 have e2 := h.cells (i * 2 + 1) _ (by simpa using h2)
 refine ⟨e1, ?_⟩
 have : ((⟨g, 0, none⟩ : Addr).add (i * 2)).add 1 = (⟨g, 0, none⟩ : Addr).add (i * 2 + 1) := by unfold Addr.add; by_cases h : i * 2 = 0 <;> simp [h]
 rw [this]
 exact e2
theorem qPx (n : Nat) (w : World) (h1 : 3 ≤ n) (h2 : n ≤ 258) : Calls Tryz.prog 93 #[.int .i64 ((n : Nat) : Int)] w fun e w' => (∃ i, i < 29 ∧ (longT.getD i (0, 0)).1 ≤ n ∧ (∀ j, i < j → j < 29 → n < (longT.getD j (0, 0)).1) ∧ e = .returned (.tuple #[.int .i64 ((257 + i : Nat) : Int), .int .i64 (((longT.getD i (0, 0)).2 : Nat) : Int), .int .i64 ((n - (longT.getD i (0, 0)).1 : Nat) : Int)])) ∧ Frm [] w w' := by
 refine VC.calls (nt := 34) (res := #[.tmp 2, .tmp 3, .tmp 4]) Tryz.func93 rfl Tryz.ntmps93 Tryz.results93 rfl ?_
 refine jS (jR (jz 0 (jz 0 (jz 0 (jO (jN (jv1 0 ?_)))))))
 refine jS (jS (jR (jm rfl (jb rfl rfl (Bin.lssN _ 3) (jM ?_)))))
 refine jG ?_
 refine jk (Run.bin rfl rfl (Bin.gtrN _ 258)) ?_
 refine je (Run.pickF rfl rfl (by first | rfl | assumption | (simp; done) | (simp [*]; done) | (simp; omega))) (jO (jN (jv2 0 12 ?_)))
 refine VC.condF rfl (by first | rfl | assumption | (simp; done) | (simp [*]; done) | (simp; omega)) ?_
 refine jQ (jN (jv1 0 ?_))
 refine jS (jR ?_)
 refine Ops.cl (jE0 Tryz.call123) (rC _) rfl ?_
 rintro e w1 ⟨rfl, hf1⟩
 refine ⟨_, rfl, ?_⟩
 refine Ops.m (qJ.alloc xP) rfl ?_
 rintro _ w2 ⟨rfl, hF2⟩
 refine Ops.st (qR.storeA rfl rfl Tryz.sizeOf204 hF2.blk rfl (pW LC kD longT)) ?_
 rintro w3 ⟨hb3, hf3, hs3⟩
 have hfr3 : Frm [] w w3 := (hf1.trans hF2.frm jp).trans hf3 (fun x hx => .inr (by have := hf1.size; simp at hx; omega))
 have hb3 : Blk w3 w1.heap.size 204 (longT.flatMap LC).toArray := hb3
 generalize w1.heap.size = g at *
 refine jO (jN (jv2 0 5 ?_))
 refine jS (jR (jz 28 (jO (jN (jB ?_)))))
 refine VC.loop (σ := Nat) (fun s => [(0, _), (5, _), (6, .int .i64 ((s : Nat) : Int))]) (fun s wr => s < 29 ∧ (∀ j, s < j → j < 29 → n < (longT.getD j (0, 0)).1) ∧ wr = w3) (fun s => s) 28 (js3 rfl rfl rfl) ⟨jo, fun j h1 h2 => jo, rfl⟩ ?_
 rintro i wr ⟨hi, hlast, rfl⟩
 obtain ⟨hc0, hc1⟩ := qXt hb3 (i := i) hi
 obtain ⟨hl1, hl2, hl3⟩ := qPw i hi
 refine jS (jB (jS (jR (jm rfl (je (Run.indexA i rfl rfl zev zce jo) (jf rfl zcm rfl zd (jl rfl zg hc0 (jm rfl (jb rfl rfl (Bin.leqN _ _) (jO (jN (jv4 0 5 6 21 ?_))))))))))))
 refine jD rfl (fun hc2 => ?_) fun hc2 => ?_
 ·
  refine jS ?_
  refine VC.still jK jK ?_
  refine qM ?_
  refine qE (Run.bin rfl rfl (Bin.add_i64 257 _ jo)) ?_
  refine qM ?_
  refine qE (Run.indexA i rfl rfl zev zce jo) ?_
  refine qE (Run.fieldAddr rfl zcm rfl zd jd) ?_
  refine qE (Run.load rfl zg hc1) ?_
  refine qM ?_
  refine qM ?_
  refine qE (Run.indexA i rfl rfl zev zce jo) ?_
  refine qE (Run.fieldAddr rfl zcm rfl zd jd) ?_
  refine qE (Run.load rfl zg hc0) ?_
  refine qE (Run.bin rfl rfl (Bin.sub_i64 _ _ jo jo)) ?_
  refine qA ?_
  refine qA ?_
  refine qA ?_
  refine qW.nil ?_
  refine jN (jv3 2 3 4 ?_)
  refine jT ?_
  refine qD (qN (qN (qD (qK4 rfl rfl rfl ?_))))
  exact ⟨⟨i, hi, hc2, hlast, rfl⟩, hfr3.drawn (qQ.drew _)⟩
 have hi1 : 1 ≤ i := by rcases zcg i with h | h; (subst h; exact absurd (show (longT.getD 0 (0, 0)).1 ≤ n from h1) hc2); exact h
 refine jQ ?_
 refine qK (jN ?_)
 refine jv3 0 5 6 ?_
 refine jR (jm rfl (jb rfl rfl (Bin.sub_i64 _ 1 jo jo) (ja rfl (jO ?_))))
 refine jN ⟨(i - 1), (js3 rfl rfl rfl), ?_, ?_⟩
 ·
  refine ⟨jo, fun j h3 h4 => ?_, rfl⟩
  by_cases hj : j = i
  · subst hj; omega
  exact hlast j jo h4
 first | omega | (dsimp only; omega)
theorem qPy (n : Nat) (w : World) (h1 : 1 ≤ n) (h2 : n ≤ 32768) : Calls Tryz.prog 94 #[.int .i64 ((n : Nat) : Int)] w fun e w' => (∃ i, i < 30 ∧ (wayT.getD i (0, 0)).1 ≤ n ∧ (∀ j, i < j → j < 30 → n < (wayT.getD j (0, 0)).1) ∧ e = .returned (.tuple #[.int .i64 ((i : Nat) : Int), .int .i64 (((wayT.getD i (0, 0)).2 : Nat) : Int), .int .i64 ((n - (wayT.getD i (0, 0)).1 : Nat) : Int)])) ∧ Frm [] w w' := by
 refine VC.calls (nt := 33) (res := #[.tmp 2, .tmp 3, .tmp 4]) Tryz.func94 rfl Tryz.ntmps94 Tryz.results94 rfl ?_
 refine jS (jR (jz 0 (jz 0 (jz 0 (jO (jN (jv1 0 ?_)))))))
 refine jS (jS (jR (jm rfl (jb rfl rfl (Bin.lssN _ 1) (jM ?_)))))
 refine jG ?_
 refine jk (Run.bin rfl rfl (Bin.gtrN _ 32768)) ?_
 refine je (Run.pickF rfl rfl (by first | rfl | assumption | (simp; done) | (simp [*]; done) | (simp; omega))) (jO (jN (jv2 0 12 ?_)))
 refine VC.condF rfl (by first | rfl | assumption | (simp; done) | (simp [*]; done) | (simp; omega)) ?_
 refine jQ (jN (jv1 0 ?_))
 refine jS (jR ?_)
 refine Ops.cl (jE0 Tryz.call124) (wN _) rfl ?_
 rintro e w1 ⟨rfl, hf1⟩
 refine ⟨_, rfl, ?_⟩
 refine Ops.m (qJ.alloc xR) rfl ?_
 rintro _ w2 ⟨rfl, hF2⟩
 refine Ops.st (qR.storeA rfl rfl Tryz.sizeOf206 hF2.blk rfl (pW LC kD wayT)) ?_
 rintro w3 ⟨hb3, hf3, hs3⟩
 have hfr3 : Frm [] w w3 := (hf1.trans hF2.frm jp).trans hf3 (fun x hx => .inr (by have := hf1.size; simp at hx; omega))
 have hb3 : Blk w3 w1.heap.size 206 (wayT.flatMap LC).toArray := hb3
 generalize w1.heap.size = g at *
 refine jO (jN (jv2 0 5 ?_))
 refine jS (jR (jz 29 (jO (jN (jB ?_)))))
 refine VC.loop (σ := Nat) (fun s => [(0, _), (5, _), (6, .int .i64 ((s : Nat) : Int))]) (fun s wr => s < 30 ∧ (∀ j, s < j → j < 30 → n < (wayT.getD j (0, 0)).1) ∧ wr = w3) (fun s => s) 29 (js3 rfl rfl rfl) ⟨jo, fun j h1 h2 => jo, rfl⟩ ?_
 rintro i wr ⟨hi, hlast, rfl⟩
 obtain ⟨hc0, hc1⟩ := qXt hb3 (i := i) hi
 obtain ⟨hl1, hl2, hl3⟩ := qSg i hi
 refine jS (jB (jS (jR (jm rfl (je (Run.indexA i rfl rfl zfq zce jo) (jf rfl zcm rfl zd (jl rfl zg hc0 (jm rfl (jb rfl rfl (Bin.leqN _ _) (jO (jN (jv4 0 5 6 21 ?_))))))))))))
 refine jD rfl (fun hc2 => ?_) fun hc2 => ?_
 ·
  refine jS ?_
  refine VC.still jK jK ?_
  refine qM ?_
  refine qM ?_
  refine qE (Run.indexA i rfl rfl zfq zce jo) ?_
  refine qE (Run.fieldAddr rfl zcm rfl zd jd) ?_
  refine qE (Run.load rfl zg hc1) ?_
  refine qM ?_
  refine qM ?_
  refine qE (Run.indexA i rfl rfl zfq zce jo) ?_
  refine qE (Run.fieldAddr rfl zcm rfl zd jd) ?_
  refine qE (Run.load rfl zg hc0) ?_
  refine qE (Run.bin rfl rfl (Bin.sub_i64 _ _ jo jo)) ?_
  refine qA ?_
  refine qA ?_
  refine qA ?_
  refine qW.nil ?_
  refine jN (jv3 2 3 4 ?_)
  refine jT ?_
  refine qD (qN (qN (qD (qK4 rfl rfl rfl ?_))))
  exact ⟨⟨i, hi, hc2, hlast, rfl⟩, hfr3.drawn (qQ.drew _)⟩
 have hi1 : 1 ≤ i := by rcases zcg i with h | h; (subst h; exact absurd (show (wayT.getD 0 (0, 0)).1 ≤ n from h1) hc2); exact h
 refine jQ ?_
 refine qK (jN ?_)
 refine jv3 0 5 6 ?_
 refine jR (jm rfl (jb rfl rfl (Bin.sub_i64 _ 1 jo jo) (ja rfl (jO ?_))))
 refine jN ⟨(i - 1), (js3 rfl rfl rfl), ?_, ?_⟩
 ·
  refine ⟨jo, fun j h3 h4 => ?_, rfl⟩
  by_cases hj : j = i
  · subst hj; omega
  exact hlast j jo h4
 first | omega | (dsimp only; omega)
end
section
open Go.RowKit
theorem qXu (n : Nat) (w : World) (h1 : 3 ≤ n) (h2 : n ≤ 258) : Calls Tryz.prog 93 #[.int .i64 ((n : Nat) : Int)] w fun e w' => e = .returned (.tuple #[.int .i64 ((257 + lenS n : Nat) : Int), .int .i64 (((longT.getD (lenS n) (0, 0)).2 : Nat) : Int), .int .i64 ((n - (longT.getD (lenS n) (0, 0)).1 : Nat) : Int)]) ∧ Frm [] w w' := by
 refine (qPx n w h1 h2).mono ?_
 rintro e w' ⟨⟨i, hi, h3, h4, rfl⟩, hf⟩
 have e1 : lenS n = i := xC h3 29 hi h4
 rw [e1]
 exact ⟨rfl, hf⟩
theorem qXv (n : Nat) (w : World) (h1 : 1 ≤ n) (h2 : n ≤ 32768) : Calls Tryz.prog 94 #[.int .i64 ((n : Nat) : Int)] w fun e w' => e = .returned (.tuple #[.int .i64 ((wayS n : Nat) : Int), .int .i64 (((wayT.getD (wayS n) (0, 0)).2 : Nat) : Int), .int .i64 ((n - (wayT.getD (wayS n) (0, 0)).1 : Nat) : Int)]) ∧ Frm [] w w' := by
 refine (qPy n w h1 h2).mono ?_
 rintro e w' ⟨⟨i, hi, h3, h4, rfl⟩, hf⟩
 have e1 : wayS n = i := xC h3 30 hi h4
 rw [e1]
 exact ⟨rfl, hf⟩
theorem qV0 : ∀ (L : List Tk) (s : Nat) (_ : s < L.length), ((TC L).drop (s * 3)).take 3 = oH (L.getD s (0, 0, 0))
 | a :: L, 0, _ => rfl
 | a :: L, s + 1, h => by
  have := qV0 L s (by simpa using h)
  rw [show TC (a :: L) = oH a ++ TC L from rfl, show (s + 1) * 3 = (oH a).length + s * 3 by simp [oH]; omega, zcp, zdz]
  exact this
theorem vK {L : List Tk} {i : Nat} (h : i < L.length) : L.take (i + 1) = L.take i ++ [L.getD i (0, 0, 0)] := by
 rw [zaj, za h, zc, za h]
 rfl
theorem vV (A : Option Addr) (c0 : Nat) (l : List Int) (w : World) (h : LOk l) (hr : Rd w 1 A l.length (IB l)) :
  Calls Tryz.prog 66 #[.slice A l.length c0] w fun e w' => Frm [] w w' ∧ ∃ B c, e = .returned (.tuple #[.slice B l.length c, .int .i64 ((0 : Nat) : Int)]) ∧ Own w' 179 2 B l.length c ((eZ l).flatMap CB) := by
 have h1 : ¬ (chk l = 1 ∨ chk l = 8) := by
  unfold chk
  rw [if_neg (fun hn => hn h.1), if_neg (by have := h.2; omega)]
  split <;> omega
 refine (qVi A c0 l w (by have := h.1.1; omega) hr).mono ?_
 rintro e w' ⟨hf, h2⟩
 rw [if_neg h1] at h2
 obtain ⟨B, c, h3, h4, _⟩ := h2
 exact ⟨hf, B, c, h3, h4⟩
theorem IsW.new {w w' : World} {g : Nat} {A : Option Addr} {l : List Bool} (h : IsW w g A l) (f : Frm [] w w') : IsW w' g A l := h.frm f jp
theorem pD (v : Value) (k : Value) (w : World) : Calls Tryz.prog 59 #[v, k] w fun e w' => e = .returned v ∧ w = w' := by
 refine VC.calls (nt := 6) (res := #[.tmp 4]) Tryz.func59 rfl Tryz.ntmps59 Tryz.results59 rfl ?_
 refine jS (jR (ja rfl (jO (jN (jv1 0 ?_)))))
 refine jS (jR (jm rfl (ja rfl (jO (jN (jv1 4 ?_))))))
 refine jT ?_
 refine qC rfl ?_
 exact ⟨rfl, rfl⟩
theorem pE (v : Value) (k : Value) (w : World) : Calls Tryz.prog 65 #[v, k] w fun e w' => e = .returned v ∧ w = w' := by
 refine VC.calls (nt := 6) (res := #[.tmp 4]) Tryz.func65 rfl Tryz.ntmps65 Tryz.results65 rfl ?_
 refine jS (jR (ja rfl (jO (jN (jv1 0 ?_)))))
 refine jS (jR (jm rfl (ja rfl (jO (jN (jv1 4 ?_))))))
 refine jT ?_
 refine qC rfl ?_
 exact ⟨rfl, rfl⟩
theorem qMp {w w1 : World} {g : Nat} {A A1 : Option Addr} (hA : ∀ x ∈ ob A1, x ∈ ob A ∨ w.heap.size ≤ x) (_ : w.heap.size ≤ w1.heap.size) : ∀ x ∈ g :: ob A1, x ∈ g :: ob A ∨ w.heap.size ≤ x := fun x hx => by
 rcases zcq.1 hx with rfl | hx
 · exact .inl jp
 rcases hA x hx with h | h
 · exact .inl (by simp [h])
 exact .inr h
theorem qMq {w w1 : World} {A A1 A2 : Option Addr} (hA : ∀ x ∈ ob A1, x ∈ ob A ∨ w.heap.size ≤ x) (hs : w.heap.size ≤ w1.heap.size) (h2 : ∀ x ∈ ob A2, x ∈ ob A1 ∨ w1.heap.size ≤ x) : ∀ x ∈ ob A2, x ∈ ob A ∨ w.heap.size ≤ x := fun x hx => by
 rcases h2 x hx with h | h
 · exact hA x h
 exact .inr (zo hs h)
theorem uM (g ct c1 c2 : Nat) (A Bt La Lb : Option Addr) (l : List Bool) (lt : List Tk) (a b : List Int) (w : World) (ha : LOk a) (hb : LOk b) (hna : 286 ≤ a.length) (hnb : 30 ≤ b.length) (hlt : ∀ t ∈ lt, pU t) (hll : lt.length ≤ 1000000) (hl : l.length ≤ 100000000) (hW : IsW w g A l) (hot : Own w 132 3 Bt lt.length ct (TC lt)) (hra : Rd w 1 La a.length (IB a)) (hrb : Rd w 1 Lb b.length (IB b)) :
  Calls Tryz.prog 57 #[.pointer (some ⟨g, 0, none⟩), .slice Bt lt.length ct, .slice La a.length c1, .slice Lb b.length c2] w fun e w' => e = .returned (.tuple #[]) ∧ WR w w' g A (l ++ cN a b lt) := by
 have hfl := nA ha hb hna hnb
 refine VC.calls (nt := 61) (res := #[]) Tryz.func57 rfl Tryz.ntmps57 Tryz.results57 rfl ?_
 refine jS (jR (jM ?_))
 refine Ops.cl (jE1 Tryz.call66) (vV La c1 a w ha hra) rfl ?_
 rintro e w1 ⟨hf1, Ba, ca, rfl, hoa⟩
 refine ⟨_, rfl, ?_⟩
 refine je (Run.extract rfl rfl) (je (Run.extract rfl rfl) ?_)
 refine Ops.cl (jE2 Tryz.call65) (pE _ _ _) rfl ?_
 rintro e _ ⟨rfl, rfl⟩
 refine ⟨_, rfl, ?_⟩
 refine jM ?_
 refine Ops.cl (jE1 Tryz.call66) (vV Lb c2 b w1 hb (hrb.frm hf1 jp)) rfl ?_
 rintro e w2 ⟨hf2, Bb, cb, rfl, hob⟩
 refine ⟨_, rfl, ?_⟩
 refine je (Run.extract rfl rfl) (je (Run.extract rfl rfl) ?_)
 refine Ops.cl (jE2 Tryz.call65) (pE _ _ _) rfl ?_
 rintro e _ ⟨rfl, rfl⟩
 refine ⟨_, rfl, ?_⟩
 have hoa := hoa.frm hf2 jp
 have hf0 := hf1.trans hf2 jp
 have hW0 := hW.new hf0
 have hot := hot.frm hf0 jp
 refine ja rfl (ja rfl (jO (jN (jv4 0 1 8 9 ?_))))
 refine jS (jS (jR (jm rfl (je (Run.lenS rfl zdx) ?_))))
 refine jx .i64 0 ?_
 refine jO (jN (jv6 0 8 9 22 23 24 ?_))
 refine jB ?_
 refine VC.loop (σ := Nat × Option Addr) (fun s => [(0, .pointer (some ⟨g, 0, none⟩)), (8, .slice Ba a.length ca), (9, .slice Bb b.length cb), (22, .slice Bt lt.length ct), (23, .int .i64 ((lt.length : Nat) : Int)), (24, .int .i64 ((s.1 : Nat) : Int))]) (fun s wr => s.1 ≤ lt.length ∧ IsW wr g s.2 (l ++ (lt.take s.1).flatMap (gK a b)) ∧ Own wr 179 2 Ba a.length ca ((eZ a).flatMap CB) ∧ Own wr 179 2 Bb b.length cb ((eZ b).flatMap CB) ∧ Own wr 132 3 Bt lt.length ct (TC lt) ∧ Frm (g :: ob A) w wr ∧ ∀ x ∈ ob s.2, x ∈ ob A ∨ w.heap.size ≤ x) (fun s => lt.length - s.1) (0, A) (js6 rfl rfl rfl rfl rfl rfl) ⟨zas _, by simpa using hW0, hoa, hob, hot, hf0.mono jp, fun x hx => .inl hx⟩ ?_
 rintro ⟨i, A1⟩ wr ⟨hi, hW, hoa, hob, hot, hfr, hA1⟩
 dsimp only at hi hW hA1 ⊢
 have hfi := hfl (lt.take i) (fun t ht => hlt t (zag ht))
 rw [zi, zbb hi] at hfi
 refine jS (jR (jb rfl rfl (Bin.lssN _ _) (jO (jN (jS ?_)))))
 refine jD rfl (fun hc1 => ?_) fun hc1 => ?_
 ·
  obtain ⟨ad, rfl, hel⟩ := hot.rd.elem hc1
  rw [qV0 lt i hc1] at hel
  have hsn := vK hc1
  have hqok := hlt (lt.getD i (0, 0, 0)) (by rw [zc, za hc1]; exact zw hc1)
  generalize lt.getD i (0, 0, 0) = q at hel hsn hqok
  refine jQ (jN (jv6 0 8 9 22 23 24 ?_))
  refine jS (jB (jS (jR (je (Run.indexS _ rfl rfl zdx zen jo) (je (Run.loadA rfl Tryz.isAgg132 zen hel (by first | rfl | (simp; done))) ?_)))))
  refine Ops.m (qJ.alloc mA) rfl ?_
  rintro _ w1 ⟨rfl, hF1⟩
  refine Ops.st (qR.storeA rfl rfl zen hF1.blk rfl (by intro v hv; exact TC_one [q] v (by simpa [TC] using hv))) ?_
  rintro w2 ⟨hb11, hf12, hs12⟩
  have hf2 : Frm [] wr w2 := hF1.frm.own hf12 jp
  have hW := hW.new hf2
  have hoa := hoa.frm hf2 jp
  have hob := hob.frm hf2 jp
  have hot := hot.frm hf2 jp
  have hfr0 := hfr
  have hfr := hfr.trans hf2 jp
  refine jO (jN (jv7 0 8 9 11 22 23 24 ?_))
  refine jS (jS (jR (jf rfl zdb rfl zd (jl rfl zg (hb11.cell 1) (jb rfl rfl (Bin.eqlN _ 0) (jO (jN (jv8 0 8 9 11 22 23 24 30 ?_))))))))
  refine jD rfl (fun hc2 => ?_) fun hc2 => ?_
  ·
   have hq8 : q.1 < 256 := by rcases hqok with ⟨_, _, h⟩ | ⟨_, h, _⟩ <;> omega
   have etok : gK a b q = bK a q.1 := by unfold gK; rw [if_pos hc2]
   refine jS (jR (jm rfl (jm rfl (jf rfl zdb rfl zad (jl rfl zdn (hb11.cell 0) (je (Run.convN _ rfl zbh zx (by simp only [bmax]; omega)) ?_))))))
   refine Ops.cl (jE3 Tryz.call92) (sS g q.1 ca A1 Ba _ a w2 ha.1 ha.2 jo (by rw [zb]; omega) hW hoa.rd) rfl ?_
   rintro e w3 ⟨⟨k, rfl⟩, A2, hW3, hf7, hA3⟩
   refine ⟨_, rfl, ?_⟩
   have hoa := hW.keepO hf7 hoa jd jd
   have hob := hW.keepO hf7 hob jd jd
   have hot := hW.keepO hf7 hot jd jd
   have hfr' := hfr.trans hf7 (fun x hx => qMp hA1 hfr.size x hx)
   have hA1 := qMq hA1 hfr.size hA3
   refine jO (jN (jv6 0 8 9 22 23 24 ?_))
   refine jX ?_
   refine qZ (qP ?_)
   refine jN (jR (jb rfl rfl (Bin.add_i64 _ 1 jo) (jm rfl (jO ?_))))
   refine jN ⟨(i + 1, A2), (js6 rfl rfl rfl rfl rfl rfl), ?_, ?_⟩
   · exact ⟨hc1, by rw [hsn, zaa, zdq, etok, ← zj]; exact hW3, hoa, hob, hot, hfr', hA1⟩
   first | omega | (dsimp only; omega)
  obtain ⟨q1, q3, q4, q5, q6⟩ : q.1 = 0 ∧ 3 ≤ q.2.1 ∧ q.2.1 ≤ 258 ∧ 1 ≤ q.2.2 ∧ q.2.2 ≤ 32768 := by
   rcases hqok with ⟨h, _⟩ | h
   · exact absurd h hc2
   exact h
  have etok : gK a b q = lG a q.2.1 ++ mV b q.2.2 := by unfold gK; rw [if_neg hc2]
  have hlf := hZ q3 q4
  have hwf := jZ q5 q6
  have hc11 := fH ha.1 ha.2 (jo : 257 + lenS q.2.1 < a.length)
  refine jQ (jN (jv7 0 8 9 11 22 23 24 ?_))
  refine jS ?_
  refine VC.held (fun v => Blk v wr.heap.size 132 (oH q).toArray) jK ?_
  have hS : (fun v => Blk v wr.heap.size 132 (oH q).toArray) w2.drew := hb11.drawn (qQ.drew _)
  have hW := hW.new (qQ.drew w2).frm
  have hoa := hoa.frm (qQ.drew w2).frm jp
  have hob := hob.frm (qQ.drew w2).frm jp
  have hot := hot.frm (qQ.drew w2).frm jp
  have hfr := hfr.drawn (qQ.drew w2)
  refine jH 0 rfl hS (fun w0 hw0 => Run.mv rfl) ?_
  refine jH 1 rfl hS (fun w0 hw0 => Run.mv rfl) ?_
  refine jH 3 rfl hS (fun w0 hw0 => Run.fieldAddr rfl zdb rfl zd jd) ?_
  refine jH 4 rfl hS (fun w0 hw0 => Run.load rfl zg (hw0.cell 1)) ?_
  refine qV.cl 2 rfl jK (jE2 Tryz.call64) (sT (.pointer (some ⟨g, 0, none⟩)) (.slice Ba a.length ca) rfl rfl _) trivial rfl rfl ?_
  rintro e w5 ⟨g2, g3, rfl, hg2, hg3, hf5⟩
  have hS := hS.frm hf5 jp
  have hW := hW.new hf5
  have hoa := hoa.frm hf5 jp
  have hob := hob.frm hf5 jp
  have hot := hot.frm hf5 jp
  have hfr := hfr.trans hf5 jp
  refine ⟨_, rfl, hS, ?_⟩
  refine qV.cl 5 rfl jK (jE1 Tryz.call93) (qXu _ _ q3 q4) trivial rfl rfl ?_
  rintro e w6 ⟨rfl, hf6⟩
  have hS := hS.frm hf6 jp
  have hW := hW.new hf6
  have hoa := hoa.frm hf6 jp
  have hob := hob.frm hf6 jp
  have hot := hot.frm hf6 jp
  have hfr := hfr.trans hf6 jp
  have hg2 := hg2.frm hf6 jp
  have hg3 := hg3.frm hf6 jp
  refine ⟨_, rfl, hS, ?_⟩
  refine jH 6 rfl hS (fun w0 hw0 => Run.extract rfl rfl) ?_
  refine jH 7 rfl hS (fun w0 hw0 => Run.extract rfl rfl) ?_
  refine jH 8 rfl hS (fun w0 hw0 => Run.extract rfl rfl) ?_
  refine qV.cl 9 rfl jK (bW.dyn rfl (evs.cons rfl (evs.cons rfl (evs.cons rfl evs.nil))) Tryz.call99) (pB g g2 g3 (257 + lenS q.2.1) (longT.getD (lenS q.2.1) (0, 0)).2 (q.2.1 - (longT.getD (lenS q.2.1) (0, 0)).1) ca A1 Ba _ a w6 ha.1 ha.2 jo hlf.2.2.1 jo (by rw [zb]; omega) hW hoa hg2 hg3) trivial rfl rfl ?_
  rintro e w7 ⟨rfl, A2, hW3, hf7, hA3⟩
  have hS := hW.keepB hf7 hS jd jd
  have hoa := hW.keepO hf7 hoa jd jd
  have hob := hW.keepO hf7 hob jd jd
  have hot := hW.keepO hf7 hot jd jd
  have hA1n := qMq hA1 hfr.size hA3
  have hfr := hfr.trans hf7 (fun x hx => qMp hA1 hfr.size x hx)
  have hA1 := hA1n
  have hW := hW3
  refine ⟨_, rfl, hS, ?_⟩
  refine qV.done jK ?_
  refine jN (jv7 0 8 9 11 22 23 24 ?_)
  refine VC.held (fun v => Blk v wr.heap.size 132 (oH q).toArray) jK ?_
  have hS : (fun v => Blk v wr.heap.size 132 (oH q).toArray) w7.drew := hS.drawn (qQ.drew _)
  have hW := hW.new (qQ.drew w7).frm
  have hoa := hoa.frm (qQ.drew w7).frm jp
  have hob := hob.frm (qQ.drew w7).frm jp
  have hot := hot.frm (qQ.drew w7).frm jp
  have hfr := hfr.drawn (qQ.drew w7)
  refine jH 0 rfl hS (fun w0 hw0 => Run.mv rfl) ?_
  refine jH 1 rfl hS (fun w0 hw0 => Run.mv rfl) ?_
  refine jH 3 rfl hS (fun w0 hw0 => Run.fieldAddr rfl zdb rfl zd jd) ?_
  refine jH 4 rfl hS (fun w0 hw0 => Run.load rfl zg (hw0.cell 2)) ?_
  refine qV.cl 2 rfl jK (jE2 Tryz.call64) (sT (.pointer (some ⟨g, 0, none⟩)) (.slice Bb b.length cb) rfl rfl _) trivial rfl rfl ?_
  rintro e w8 ⟨g2, g3, rfl, hg2, hg3, hf5⟩
  have hS := hS.frm hf5 jp
  have hW := hW.new hf5
  have hoa := hoa.frm hf5 jp
  have hob := hob.frm hf5 jp
  have hot := hot.frm hf5 jp
  have hfr := hfr.trans hf5 jp
  refine ⟨_, rfl, hS, ?_⟩
  refine qV.cl 5 rfl jK (jE1 Tryz.call94) (qXv _ _ q5 q6) trivial rfl rfl ?_
  rintro e w9 ⟨rfl, hf6⟩
  have hS := hS.frm hf6 jp
  have hW := hW.new hf6
  have hoa := hoa.frm hf6 jp
  have hob := hob.frm hf6 jp
  have hot := hot.frm hf6 jp
  have hfr := hfr.trans hf6 jp
  have hg2 := hg2.frm hf6 jp
  have hg3 := hg3.frm hf6 jp
  refine ⟨_, rfl, hS, ?_⟩
  refine jH 6 rfl hS (fun w0 hw0 => Run.extract rfl rfl) ?_
  refine jH 7 rfl hS (fun w0 hw0 => Run.extract rfl rfl) ?_
  refine jH 8 rfl hS (fun w0 hw0 => Run.extract rfl rfl) ?_
  refine qV.cl 9 rfl jK (bW.dyn rfl (evs.cons rfl (evs.cons rfl (evs.cons rfl evs.nil))) Tryz.call99) (pB g g2 g3 (wayS q.2.2) (wayT.getD (wayS q.2.2) (0, 0)).2 (q.2.2 - (wayT.getD (wayS q.2.2) (0, 0)).1) cb A2 Bb _ b w9 hb.1 hb.2 jo hwf.2.2.1 jo (by simp only [zb, qH]; omega) hW hob hg2 hg3) trivial rfl rfl ?_
  rintro e w10 ⟨rfl, A3, hW3, hf7, hA3⟩
  have hS := hW.keepB hf7 hS jd jd
  have hoa := hW.keepO hf7 hoa jd jd
  have hob := hW.keepO hf7 hob jd jd
  have hot := hW.keepO hf7 hot jd jd
  have hA1n := qMq hA1 hfr.size hA3
  have hfr := hfr.trans hf7 (fun x hx => qMp hA1 hfr.size x hx)
  have hA1 := hA1n
  have hW := hW3
  refine ⟨_, rfl, hS, ?_⟩
  refine qV.done jK ?_
  refine qK (jN ?_)
  refine jv6 0 8 9 22 23 24 ?_
  refine jR (jb rfl rfl (Bin.add_i64 _ 1 jo) (jm rfl (jO ?_)))
  refine jN ⟨(i + 1, A3), (js6 rfl rfl rfl rfl rfl rfl), ?_, ?_⟩
  · exact ⟨hc1, by rw [hsn, zaa, zdq, etok]; unfold lG mV; simpa [zj] using hW, hoa, hob, hot, hfr, hA1⟩
  first | omega | (dsimp only; omega)
 refine jX ?_
 refine qZ (qZ (qP ?_))
 refine jN (jv2 0 8 ?_)
 refine jR (jm rfl (jM ?_))
 refine Ops.cl (jE3 Tryz.call92) (sS g 256 ca A1 Ba _ a wr ha.1 ha.2 jo (by rw [zb]; omega) hW hoa.rd) rfl ?_
 rintro e w3 ⟨⟨k, rfl⟩, h60⟩
 refine ⟨_, rfl, ?_⟩
 refine jO ?_
 refine eV ?_
 have ei : i = lt.length := jo
 subst ei
 rw [zbl, zj] at h60
 exact ⟨rfl, WR.trans hfr hA1 h60⟩
end
section
open Go.RowKit
theorem vW (bs : List Nat) (hl : bs.length ≤ 32768) (hB : ∀ b ∈ bs, b < 256) : ∀ m a, ∀ t ∈ fD bs m a, pU t
 | 0, a, t, h => by simp [fD] at h
 | m + 1, a, t, h => by
  unfold fD at h
  split at h
  · cases h
  rename_i h1
  split at h
  ·
   rcases zcq.1 h with rfl | h
   · exact .inl ⟨rfl, rfl, kP hB a⟩
   exact vW bs hl hB m _ t h
  rename_i h2
  rcases zcq.1 h with rfl | h
  ·
   rcases lB bs a jo with h3 | ⟨h3, h4, h5, h6, _⟩
   · rw [h3] at h2; exact absurd rfl h2
   exact .inr ⟨rfl, h3, h4, h5, by dsimp only; omega⟩
  exact vW bs hl hB m _ t h
theorem oO (bs : List Nat) (a : Nat) (hl : bs.length ≤ 32768) (hB : ∀ b ∈ bs, b < 256) : ∀ t ∈ bJ bs a, pU t := vW bs hl hB _ a
theorem sC (bs : List Nat) : (bJ bs 0).length ≤ bs.length := pR bs bs.length 0
theorem lI : LOk cK := by
 refine ⟨⟨by decide +kernel, by decide +kernel⟩, by decide +kernel⟩
theorem sD : LOk cH := by
 refine ⟨⟨by decide +kernel, by decide +kernel⟩, by decide +kernel⟩
theorem qPz (w : World) : Calls Tryz.prog 56 #[] w fun e w' => ∃ A c B d, e = .returned (.tuple #[.slice A cK.length c, .slice B cH.length d]) ∧ Own w' 3 1 A cK.length c (IB cK) ∧ Own w' 3 1 B cH.length d (IB cH) ∧ Frm [] w w' := by
 rw [mN, mP]
 exact uH w
def fW (bs : List Nat) : List Bool := bitsL 1 1 ++ bitsL 1 2 ++ cN cK cH (bJ bs 0)
theorem qMr (bs : List Nat) (hl : bs.length ≤ 32768) (hB : ∀ b ∈ bs, b < 256) : (fW bs).length ≤ 2000000 := by
 have h1 := nA lI sD (by decide +kernel) (by decide +kernel) _ (oO bs 0 hl hB)
 have h2 := sC bs
 have h3 := fH lI.1 lI.2 (show 256 < cK.length by decide +kernel)
 unfold fW cN
 simp only [zb, qH]
 omega
theorem qY3 (A : Option Addr) (c : Nat) (bs : List Nat) (w : World) (hl : bs.length ≤ 32768) (hc : bs.length ≤ c) (hB : ∀ b ∈ bs, b < 256) (hr : Rd w 1 A bs.length (NB bs)) :
  Calls Tryz.prog 33 #[.slice A bs.length c] w fun e w' => ∃ B d, e = .returned (.tuple #[.slice B (qL (fW bs)).length d, .int .i64 ((0 : Nat) : Int)]) ∧ Own w' 5 1 B (qL (fW bs)).length d (NB (qL (fW bs))) ∧ Frm [] w w' ∧ ∀ x ∈ ob B, w.heap.size ≤ x := by
 have htl := sC bs
 have hfl := qMr bs hl hB
 refine VC.calls (nt := 33) (res := #[.tmp 2, .tmp 3]) Tryz.func33 rfl Tryz.ntmps33 Tryz.results33 rfl ?_
 refine jS (jR (ja rfl (jz 0 (jO (jN (jv1 0 ?_))))))
 refine jS (jR (jM ?_))
 refine Ops.cl (jE1 Tryz.call55) (wH A c bs w hl hc hB hr) rfl ?_
 rintro e w1 ⟨Bt, dt, rfl, hot, hf1, _⟩
 refine ⟨_, rfl, ?_⟩
 refine jm rfl (je (Run.extract rfl rfl) (je (Run.extract rfl rfl) (ja rfl (ja rfl (jO (jN (jv2 4 5 ?_)))))))
 refine jS (jS (jR (jm rfl (jb rfl rfl (Bin.neqN _ 0) (jO (jN (jv3 4 5 15 ?_)))))))
 refine VC.condF rfl jd ?_
 refine jQ (jN (jv1 4 ?_))
 refine jS (jR ?_)
 refine Ops.cl (jE0 Tryz.call50) (uA _) rfl ?_
 rintro e w2 ⟨rfl, hW, hf2, _⟩
 refine ⟨_, rfl, ?_⟩
 have hot := hot.frm hf2 jp
 have K := hf1.trans hf2 jp
 have hgg : w.heap.size ≤ w1.heap.size := hf1.size
 generalize w1.heap.size = g at hW hgg ⊢
 refine ja rfl (jO (jN (jv2 4 6 ?_)))
 refine jS (jR (jM ?_))
 refine Ops.cl (jE3 zea) (gQ g 1 1 none [] w2 jd jo jp hW) rfl ?_
 rintro e w3 ⟨rfl, A1, hW1, hf3, hA1⟩
 refine ⟨_, rfl, ?_⟩
 have hot := hW.keepO hf3 hot jd jd
 have K := K.own hf3 (by simp [ob]; exact hgg)
 have hA1 : ∀ x ∈ ob A1, w.heap.size ≤ x := fun x hx => by rcases hA1 x hx with h | h; cases h; have := hf1.size; have := hf2.size; omega
 refine jO (jN (jv2 4 6 ?_))
 refine jS (jR (jM ?_))
 refine Ops.cl (jE3 zea) (gQ g 1 2 A1 _ w3 jd jo (by simp [qH]) hW1) rfl ?_
 rintro e w4 ⟨rfl, A2, hW2, hf4, hA2⟩
 refine ⟨_, rfl, ?_⟩
 have hot := hW1.keepO hf4 hot jd jd
 have hA2 : ∀ x ∈ ob A2, w.heap.size ≤ x := fun x hx => by rcases hA2 x hx with h | h; exact hA1 x h; have := K.size; omega
 have K := K.own hf4 (fun x hx => by rcases zcq.1 hx with rfl | hx; exact hgg; exact hA1 x hx)
 refine jO (jN (jv2 4 6 ?_))
 refine jS (jR ?_)
 refine Ops.cl (jE0 Tryz.call56) (qPz _) rfl ?_
 rintro e w5 ⟨La, c1, Lb, c2, rfl, hoa, hob, hf5⟩
 refine ⟨_, rfl, ?_⟩
 have hot := hot.frm hf5 jp
 have hW2 := hW2.new hf5
 have K := K.trans hf5 jp
 refine jm rfl (je (Run.extract rfl rfl) (je (Run.extract rfl rfl) (ja rfl (ja rfl (jO (jN (jv4 4 6 7 8 ?_)))))))
 refine jS (jR (jm rfl (jm rfl (jm rfl (jM ?_)))))
 refine Ops.cl (jE4 Tryz.call57) (uM g dt c1 c2 A2 Bt La Lb _ (bJ bs 0) cK cH w5 lI sD (by rw [mN]; omega) (by rw [mP]; omega) (oO bs 0 hl hB) jo (by simp [qH]) hW2 hot hoa.rd hob.rd) rfl ?_
 rintro e w6 ⟨rfl, A3, hW3, hf6, hA3⟩
 refine ⟨_, rfl, ?_⟩
 have K := K.own hf6 (fun x hx => by rcases zcq.1 hx with rfl | hx; exact hgg; exact hA2 x hx)
 have hW3 : IsW w6 g A3 (fW bs) := hW3
 refine jO (jN (jv1 6 ?_))
 refine jS (jR (jM ?_))
 refine Ops.cl (jE1 Tryz.call54) (pH g A3 (fW bs) w6 jo hW3) rfl ?_
 rintro e w7 ⟨B, d, rfl, hB7, hf7, hu7⟩
 refine ⟨_, rfl, ?_⟩
 refine ja rfl (jz 0 (jO (jN (jv2 2 3 ?_))))
 refine jT ?_
 refine cG rfl rfl ?_
 exact ⟨B, d, rfl, hB7, K.trans hf7 jp, fun x hx => zo K.size (hu7 x hx)⟩
end
section
open Go.RowKit
def fX (l : List Nat) (least : Nat) : Nat → Nat
 | 0 => 0
 | n + 1 => if least < n + 1 ∧ l.getD n 0 = 0 then fX l least n else n + 1
theorem pQ (l : List Nat) (least : Nat) : ∀ n, fX l least n ≤ n
 | 0 => zk _
 | n + 1 => by
  unfold fX
  split
  · have := pQ l least n; omega
  exact zk _
theorem qKc (l : List Nat) (least : Nat) : ∀ n, least ≤ n → least ≤ fX l least n
 | 0, h => h
 | n + 1, h => by
  unfold fX
  split
  · rename_i h1; exact qKc l least n jo
  exact h
theorem qY4 {l : List Nat} {least n : Nat} (h : ¬ (least < n ∧ l.getD (n - 1) 0 = 0)) : fX l least n = n := by
 cases n with
 | zero => rfl
 | succ n => rw [fX, if_neg (by simpa using h)]
theorem qP0 {l : List Nat} {least n : Nat} (h1 : least < n) (h2 : l.getD (n - 1) 0 = 0) : fX l least n = fX l least (n - 1) := by
 cases n with
 | zero => omega
 | succ n => rw [fX, if_pos ⟨h1, by simpa using h2⟩]; rfl
def cM (l : List Nat) (least : Nat) : List Nat := l.take (fX l least l.length)
theorem fF (l : List Nat) (least : Nat) : (cM l least).length = fX l least l.length := by
 unfold cM
 rw [zi, zbb (pQ l least _)]
def mW (l : List Nat) (v : Nat) : Nat → Nat → Nat
 | 0, _ => 0
 | m + 1, n => if n < l.length ∧ l.getD n 0 = v then mW l v m (n + 1) + 1 else 0
def runN (l : List Nat) (a : Nat) : Nat := mW l (l.getD a 0) (l.length - a) a
theorem qKd (l : List Nat) (v : Nat) : ∀ m n, mW l v m n ≤ m
 | 0, _ => zk _
 | m + 1, n => by
  unfold mW
  split
  · have := qKd l v m (n + 1); omega
  omega
theorem zY {l : List Nat} {v m n : Nat} (h : ¬ (n < l.length ∧ l.getD n 0 = v)) : mW l v m n = 0 := by
 cases m with
 | zero => rfl
 | succ m => rw [mW, if_neg h]
theorem xD {l : List Nat} {v m n : Nat} (h1 : n < l.length) (h2 : l.getD n 0 = v) (hm : 0 < m) : mW l v m n = mW l v (m - 1) (n + 1) + 1 := by
 obtain ⟨k, rfl⟩ : ∃ k, m = k + 1 := ⟨m - 1, jo⟩
 rw [mW, if_pos ⟨h1, h2⟩]
 rfl
theorem qXw {l : List Nat} {a : Nat} (h : a < l.length) : 1 ≤ runN l a := by
 unfold runN
 rw [xD h rfl jo]
 omega
theorem qKe {l : List Nat} {a : Nat} : runN l a ≤ l.length - a := qKd l _ _ _
abbrev Sd := Nat × Nat × Nat
def bT (l : List Nat) (a : Nat) : Sd × Nat :=
 if l.getD a 0 = 0 ∧ 11 ≤ runN l a then ((18, 7, min (runN l a) 138 - 11), min (runN l a) 138)
 else if l.getD a 0 = 0 ∧ 3 ≤ runN l a then ((17, 3, min (runN l a) 10 - 3), min (runN l a) 10)
 else if 0 < a ∧ l.getD (a - 1) 0 = l.getD a 0 ∧ 3 ≤ runN l a then ((16, 2, min (runN l a) 6 - 3), min (runN l a) 6)
 else ((l.getD a 0, 0, 0), 1)
theorem sE {l : List Nat} {a : Nat} : 1 ≤ (bT l a).2 := by
 unfold bT
 split
 · dsimp only; omega
 split
 · dsimp only; omega
 split
 · dsimp only; omega
 exact zk _
theorem qXx {l : List Nat} {a : Nat} (h : a < l.length) : a + (bT l a).2 ≤ l.length := by
 have := qKe (l := l) (a := a)
 unfold bT
 split
 · dsimp only; omega
 split
 · dsimp only; omega
 split
 · dsimp only; omega
 dsimp only; omega
def lH (l : List Nat) : Nat → Nat → List Sd
 | 0, _ => []
 | m + 1, a => if l.length ≤ a then [] else (bT l a).1 :: lH l m (a + (bT l a).2)
theorem vY (l : List Nat) (m a : Nat) (h : l.length ≤ a) : lH l m a = [] := by
 cases m with
 | zero => rfl
 | succ m => rw [lH, if_pos h]
theorem zG (l : List Nat) : ∀ m n a, l.length ≤ a + m → l.length ≤ a + n → lH l m a = lH l n a
 | 0, n, a, h1, _ => by rw [vY l n a jo]; rfl
 | m + 1, 0, a, h1, h2 => by rw [vY l (m + 1) a jo]; rfl
 | m + 1, n + 1, a, h1, h2 => by
  have hp := sE (l := l) (a := a)
  unfold lH
  split
  · rfl
  rw [zG l m n _ jo jo]
def dL (l : List Nat) (a : Nat) : List Sd := lH l (l.length - a) a
theorem qXy {l : List Nat} {a : Nat} (h : l.length ≤ a) : dL l a = [] := vY l _ a h
theorem lL {l : List Nat} {a : Nat} (h : a < l.length) : dL l a = (bT l a).1 :: dL l (a + (bT l a).2) := by
 have hp := sE (l := l) (a := a)
 unfold dL
 rw [show l.length - a = (l.length - a - 1) + 1 by omega, lH, if_neg jo, zG l (l.length - a - 1) (l.length - (a + (bT l a).2)) _ jo jo]
theorem qXz (l : List Nat) : ∀ m a, (lH l m a).length ≤ m
 | 0, a => zk _
 | m + 1, a => by
  unfold lH
  split
  · simp
  have := qXz l m (a + (bT l a).2); simp; omega
def cU (l : List Nat) : List Nat := bQ.map fun s => l.getD s 0
end
end Go.Proofs.YtndjgmbfkkgpdaaGreat
