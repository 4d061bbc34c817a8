/-
  Lemmas on the way, joined: SrtC, SrtD, SrtE, SrtF, SrtG, SrtH, SrtI, StoZs, StoQM.
-/
import Derived.Shelf.Slices.CompactI
import Derived.Test.YtgmbmfpfhcekiaaGreatPk3
set_option maxRecDepth 100000
set_option linter.unusedVariables false
set_option linter.unusedSimpArgs false
namespace Go.Proofs.YtgmbmfpfhcekiaaGreat
section
open Go.RowKit Go.Sort
theorem lF {p : Nat → Bool} {d : Array Nat} {i j : Nat} (h : i ≤ j ∧ p d[i]! = true) : scanUp p d j i = scanUp p d j (i + 1) := by
 conv => lhs; unfold scanUp
 rw [if_pos (by simp [h.1, h.2])]
theorem gF {p : Nat → Bool} {d : Array Nat} {i j : Nat} (h : ¬ (i ≤ j ∧ p d[i]! = true)) : scanUp p d j i = i := by
 unfold scanUp
 rw [if_neg (by simpa using h)]
theorem gA {p : Nat → Bool} {d : Array Nat} {i j : Nat} (h0 : 0 < j) (h : i ≤ j ∧ p d[j]! = true) : scanDown p d i j = scanDown p d i (j - 1) := by
 obtain ⟨k, rfl⟩ : ∃ k, j = k + 1 := ⟨j - 1, jo⟩
 conv => lhs; unfold scanDown
 rw [if_pos (by simp [h.1, h.2])]
 rfl
theorem fT {p : Nat → Bool} {d : Array Nat} {i j : Nat} (h : ¬ (i ≤ j ∧ p d[j]! = true)) : scanDown p d i j = j := by
 cases j with
 | zero => rfl
 | succ k =>
  unfold scanDown
  rw [if_neg (by simpa using h)]
theorem pP {a i j i2 j2 : Nat} {d : Array Nat} (h1 : scanUp (fun x => ltN x d[a]!) d j i = i2) (h2 : scanDown (fun x => !ltN x d[a]!) d i2 j = j2) (h : j2 < i2) : partLoop ltN a i j d = (j2, d) := by
 unfold partLoop
 rw [h1]
 dsimp only
 rw [h2]
 try dsimp only
 rw [if_pos h]
theorem tX {a i j i2 j2 : Nat} {d : Array Nat} (h1 : scanUp (fun x => ltN x d[a]!) d j i = i2) (h2 : scanDown (fun x => !ltN x d[a]!) d i2 j = j2) (h : ¬ j2 < i2) (hi : i ≤ i2) (hj : j2 ≤ j) (h0 : 0 < j2) : partLoop ltN a i j d = partLoop ltN a (i2 + 1) (j2 - 1) (swp d i2 j2) := by
 conv => lhs; unfold partLoop
 rw [h1]
 dsimp only
 rw [h2]
 try dsimp only
 rw [if_neg h, dif_pos jo]
theorem tZ {a i j i2 j2 : Nat} {d : Array Nat} (h1 : scanUp (fun x => !ltN d[a]! x) d j i = i2) (h2 : scanDown (fun x => ltN d[a]! x) d i2 j = j2) (h : j2 < i2) : partEqLoop ltN a i j d = (i2, d) := by
 unfold partEqLoop
 rw [h1]
 dsimp only
 rw [h2]
 try dsimp only
 rw [if_pos h]
theorem yI {a i j i2 j2 : Nat} {d : Array Nat} (h1 : scanUp (fun x => !ltN d[a]! x) d j i = i2) (h2 : scanDown (fun x => ltN d[a]! x) d i2 j = j2) (h : ¬ j2 < i2) (hi : i ≤ i2) (hj : j2 ≤ j) (h0 : 0 < j2) : partEqLoop ltN a i j d = partEqLoop ltN a (i2 + 1) (j2 - 1) (swp d i2 j2) := by
 conv => lhs; unfold partEqLoop
 rw [h1]
 dsimp only
 rw [h2]
 try dsimp only
 rw [if_neg h, dif_pos jo]
theorem qQu {a b pivot i j : Nat} {d d1 : Array Nat} (hd : swp d a pivot = d1) (h1 : scanUp (fun x => ltN x d1[a]!) d1 (b - 1) (a + 1) = i) (h2 : scanDown (fun x => !ltN x d1[a]!) d1 i (b - 1) = j) (h : j < i) : partition ltN d a b pivot = (j, true, swp d1 j a) := by
 subst hd h1 h2
 unfold partition
 dsimp only
 rw [if_pos h]
theorem qQv {a b pivot i j : Nat} {d d1 : Array Nat} (hd : swp d a pivot = d1) (h1 : scanUp (fun x => ltN x d1[a]!) d1 (b - 1) (a + 1) = i) (h2 : scanDown (fun x => !ltN x d1[a]!) d1 i (b - 1) = j) (h : ¬ j < i) {r : Nat × Array Nat} (hr : partLoop ltN a (i + 1) (j - 1) (swp d1 i j) = r) : partition ltN d a b pivot = (r.1, false, swp r.2 r.1 a) := by
 subst hd h1 h2 hr
 unfold partition
 dsimp only
 rw [if_neg h]
set_option maxHeartbeats 1000000 in
theorem wJ (B : Option Addr) (c N : Nat) (d : Array Nat) (w : World) (h : AO w B c N d) (hN : N ≤ 1000000) (a b pivot : Nat) (hp1 : a ≤ pivot) (hp2 : pivot < b) (hb : b ≤ N) :
  Calls Tryz.prog 149 #[.slice B N c, .int .i64 ((a : Nat) : Int), .int .i64 ((b : Nat) : Int), .int .i64 ((pivot : Nat) : Int)] w fun e w' => e = .returned (.tuple #[.int .i64 (((partition ltN d a b pivot).1 : Nat) : Int), .bool (partition ltN d a b pivot).2.1]) ∧ AO w' B c N (partition ltN d a b pivot).2.2 ∧ Frm (ob B) w w' := by
 obtain ⟨ad, rfl⟩ := h.adr jo
 have hA := h
 refine VC.calls (nt := 168) (res := #[.tmp 8, .tmp 9]) Tryz.func149 rfl Tryz.ntmps149 Tryz.results149 rfl ?_
 refine jS (jR (jz 0 (ja rfl (jO (jN (jv4 0 1 2 3 ?_))))))
 refine jS ?_
 refine VC.held (fun _ => True) jK ?_
 refine jH 0 rfl trivial (fun w0 hw0 => Run.mv rfl) ?_
 refine jH 1 rfl trivial (fun w0 hw0 => Run.mv rfl) ?_
 refine jH 2 rfl trivial (fun w0 hw0 => Run.mv rfl) ?_
 refine jH 3 rfl trivial (fun w0 hw0 => Run.mv rfl) ?_
 refine jH 4 rfl trivial (fun w0 hw0 => Run.mv rfl) ?_
 refine jH 5 rfl trivial (fun w0 hw0 => Run.mv rfl) ?_
 refine jH 6 rfl trivial (fun w0 hw0 => Run.index1 _ rfl rfl zd zc jo) ?_
 refine jH 8 rfl trivial (fun w0 hw0 => Run.mv rfl) ?_
 refine jH 9 rfl trivial (fun w0 hw0 => Run.mv rfl) ?_
 refine jH 10 rfl trivial (fun w0 hw0 => Run.index1 _ rfl rfl zd zc jo) ?_
 refine qQ.r2 7 11 rfl rfl jK jK jK jK trivial rfl rfl (Run.load rfl zh ((hA.nil (qV.drew _).frm).at (i := pivot) jo)) (Run.load rfl zh ((hA.nil (qV.drew _).frm).at (i := a) jo)) (Run.load rfl zh ((hA.nil (qV.drew _).frm).at (i := a) jo)) (Run.load rfl zh ((hA.nil (qV.drew _).frm).at (i := pivot) jo)) rfl rfl rfl rfl rfl ?_
 refine jH 12 rfl trivial (fun w0 hw0 => Run.index1 _ rfl rfl zd zc jo) ?_
 refine qQ.st 13 rfl jK (qW.storeOwn (a) rfl rfl zc (hA.nil (qV.drew _).frm).2 rfl jo rfl) trivial rfl ?_
 rintro w1a ⟨ho_a, hf_a, hs_a⟩
 refine ⟨trivial, ?_⟩
 refine jH 14 rfl trivial (fun w0 hw0 => Run.index1 _ rfl rfl zd zc jo) ?_
 refine qQ.st 15 rfl jK (qW.storeOwn (pivot) rfl rfl zc ho_a rfl jo rfl) trivial rfl ?_
 rintro w1 ⟨ho_b, hf_b, hs_b⟩
 have hAs := AO.swp hA.1 ho_b
 have hKs := ((qV.drew _).frm.mono (T := ob (some ad)) jp).trans (hf_a.trans hf_b (fun x hx => .inl hx)) (fun x hx => .inl hx)
 refine ⟨trivial, ?_⟩
 refine qQ.done jK ?_
 refine jN (jv3 0 1 2 ?_)
 refine jS (jR (jm rfl (jb rfl rfl (Bin.add_i64 _ 1 jo) (jm rfl (jb rfl rfl (Bin.sub_i64 _ 1 jo jo) (ja rfl (ja rfl (jO (jN (jv4 0 1 10 11 ?_))))))))))
 refine jS (jB ?_)
 have hA := hAs
 have K := hKs
 obtain ⟨d1, hd1⟩ : ∃ d1, swp d a pivot = d1 := ⟨_, rfl⟩
 rw [hd1] at hA
 refine VC.loop (σ := Nat) (fun s => [(0, .slice (some ad) N c), (1, .int .i64 ((a : Nat) : Int)), (10, .int .i64 ((s : Nat) : Int)), (11, .int .i64 (((b - 1) : Nat) : Int))]) (fun s wr => a + 1 ≤ s ∧ s ≤ b ∧ AO wr (some ad) c N d1 ∧ scanUp (fun x => ltN x d1[a]!) d1 (b - 1) s = scanUp (fun x => ltN x d1[a]!) d1 (b - 1) (a + 1) ∧ Frm (ob (some ad)) w wr) (fun s => b - s) (a + 1) (js4 rfl rfl rfl rfl) ⟨zv _, jo, hA, rfl, K⟩ ?_
 rintro i wr ⟨hi, hi2, hA, he, K⟩
 refine jS (jS ?_)
 refine VC.meet (σ := Unit) (fun s => [(0, .slice (some ad) N c), (1, .int .i64 ((a : Nat) : Int)), (10, .int .i64 ((i : Nat) : Int)), (11, .int .i64 (((b - 1) : Nat) : Int)), (43, .bool (decide (i ≤ b - 1 ∧ d1[i]! < d1[a]!)))]) (fun s wz => Frm [] wr wz) ?_ ?_
 ·
  refine VC.held (fun W => Frm [] wr W) jK ?_
  have hS : Frm [] wr wr.drew := (Frm.refl _ _).drew
  refine jH 0 rfl hS (fun w0 hw0 => Run.mv rfl) ?_
  refine jH 1 rfl hS (fun w0 hw0 => Run.mv rfl) ?_
  refine jH 2 rfl hS (fun w0 hw0 => Run.bin rfl rfl (Bin.leqN _ _)) ?_
  by_cases hs32 : i ≤ b - 1
  ·
   refine jH 3 rfl hS (fun w0 hw0 => Run.mv rfl) ?_
   refine qQ.take 4 rfl jK jK jK hS (fun w0 hw0 => Run.mv rfl) (Up.g rfl (by first | rfl | exact decide_eq_true hs32 | (simp [hs32]; done))) rfl rfl ?_
   refine qQ.take 5 rfl jK jK jK hS (fun w0 hw0 => Run.mv rfl) (Up.g rfl (by first | rfl | exact decide_eq_true hs32 | (simp [hs32]; done))) rfl rfl ?_
   refine qQ.take 6 rfl jK jK jK hS (fun w0 hw0 => Run.index1 _ rfl rfl zd zc jo) (Up.g rfl (by first | rfl | exact decide_eq_true hs32 | (simp [hs32]; done))) rfl rfl ?_
   refine qQ.take 7 rfl jK jK jK hS (fun w0 hw0 => Run.load rfl zh ((hA.nil hw0).at (i := i) jo)) (Up.g rfl (by first | rfl | exact decide_eq_true hs32 | (simp [hs32]; done))) rfl rfl ?_
   refine qQ.take 8 rfl jK jK jK hS (fun w0 hw0 => Run.mv rfl) (Up.g rfl (by first | rfl | exact decide_eq_true hs32 | (simp [hs32]; done))) rfl rfl ?_
   refine qQ.take 9 rfl jK jK jK hS (fun w0 hw0 => Run.mv rfl) (Up.g rfl (by first | rfl | exact decide_eq_true hs32 | (simp [hs32]; done))) rfl rfl ?_
   refine qQ.take 10 rfl jK jK jK hS (fun w0 hw0 => Run.index1 _ rfl rfl zd zc jo) (Up.g rfl (by first | rfl | exact decide_eq_true hs32 | (simp [hs32]; done))) rfl rfl ?_
   refine qQ.take 11 rfl jK jK jK hS (fun w0 hw0 => Run.load rfl zh ((hA.nil hw0).at (i := a) jo)) (Up.g rfl (by first | rfl | exact decide_eq_true hs32 | (simp [hs32]; done))) rfl rfl ?_
   refine qQ.cl 12 rfl jK (jE2 zcc) (bL _ _ _) (Up.g rfl (by first | rfl | exact decide_eq_true hs32 | (simp [hs32]; done))) rfl rfl ?_
   rintro e _ ⟨rfl, rfl⟩
   refine ⟨_, rfl, hS, ?_⟩
   by_cases hs42 : d1[i]! < d1[a]!
   ·
    refine jH 13 rfl hS (fun w0 hw0 => Run.pickT rfl rfl (by first | rfl | exact decide_eq_true hs32 | exact decide_eq_true hs42 | (simp [hs32]; done) | (simp [hs42]; done))) ?_
    refine qQ.done jK ?_
    refine jN ⟨(), (js5 rfl rfl rfl rfl (jC (by grind))), ?_⟩
    exact hS
   refine jH 13 rfl hS (fun w0 hw0 => Run.pickT rfl rfl (by first | rfl | exact decide_eq_true hs32 | exact decide_eq_false hs42 | (simp [hs32]; done) | (simp [hs42]; done))) ?_
   refine qQ.done jK ?_
   refine jN ⟨(), (js5 rfl rfl rfl rfl (jC (by grind))), ?_⟩
   exact hS
  refine jH 3 rfl hS (fun w0 hw0 => Run.mv rfl) ?_
  refine qQ.skip 4 rfl jK jK jK hS rfl rfl (by first | rfl | exact decide_eq_false hs32 | (simp [hs32]; done)) rfl rfl ?_
  refine qQ.skip 5 rfl jK jK jK hS rfl rfl (by first | rfl | exact decide_eq_false hs32 | (simp [hs32]; done)) rfl rfl ?_
  refine qQ.skip 6 rfl jK jK jK hS rfl rfl (by first | rfl | exact decide_eq_false hs32 | (simp [hs32]; done)) rfl rfl ?_
  refine qQ.skip 7 rfl jK jK jK hS rfl rfl (by first | rfl | exact decide_eq_false hs32 | (simp [hs32]; done)) rfl rfl ?_
  refine qQ.skip 8 rfl jK jK jK hS rfl rfl (by first | rfl | exact decide_eq_false hs32 | (simp [hs32]; done)) rfl rfl ?_
  refine qQ.skip 9 rfl jK jK jK hS rfl rfl (by first | rfl | exact decide_eq_false hs32 | (simp [hs32]; done)) rfl rfl ?_
  refine qQ.skip 10 rfl jK jK jK hS rfl rfl (by first | rfl | exact decide_eq_false hs32 | (simp [hs32]; done)) rfl rfl ?_
  refine qQ.skip 11 rfl jK jK jK hS rfl rfl (by first | rfl | exact decide_eq_false hs32 | (simp [hs32]; done)) rfl rfl ?_
  refine qQ.skip 12 rfl jK jK jK hS rfl rfl (by first | rfl | exact decide_eq_false hs32 | (simp [hs32]; done)) rfl rfl ?_
  refine jH 13 rfl hS (fun w0 hw0 => Run.pickF rfl rfl (by first | rfl | exact decide_eq_false hs32 | (simp [hs32]; done))) ?_
  refine qQ.done jK ?_
  refine jN ⟨(), (js5 rfl rfl rfl rfl (jC (by grind))), ?_⟩
  exact hS
 rintro _ wz hfz Γ hΓ
 have hA := hA.nil hfz
 have K := K.trans hfz jp
 refine jN (VC.sub _ hΓ ?_)
 refine jD rfl (fun hc1 => ?_) fun hc1 => ?_
 ·
  refine jQ (jN (jv4 0 1 10 11 ?_))
  refine jB (jR (jm rfl (jb rfl rfl (Bin.add_i64 _ 1 jo) (ja rfl (jO ?_)))))
  refine qN (jN ⟨(i + 1), (js4 rfl rfl rfl rfl), ?_, ?_⟩)
  · exact ⟨jo, jo, hA, by rw [← he]; exact (lF ⟨hc1.1, by simp [ltN]; exact hc1.2⟩).symm, K⟩
  first | omega | (dsimp only; omega)
 have hI : scanUp (fun x => ltN x d1[a]!) d1 (b - 1) (a + 1) = i := by rw [← he]; exact gF (fun h => hc1 ⟨h.1, by simpa [ltN] using h.2⟩)
 refine jX ?_
 refine qK (qK (qS ?_))
 refine jN (jv4 0 1 10 11 ?_)
 refine jS (jB ?_)
 refine VC.loop (σ := Nat) (fun s => [(0, .slice (some ad) N c), (1, .int .i64 ((a : Nat) : Int)), (10, .int .i64 ((i : Nat) : Int)), (11, .int .i64 ((s : Nat) : Int))]) (fun s wr => a ≤ s ∧ s ≤ b - 1 ∧ AO wr (some ad) c N d1 ∧ scanDown (fun x => !ltN x d1[a]!) d1 i s = scanDown (fun x => !ltN x d1[a]!) d1 i (b - 1) ∧ Frm (ob (some ad)) w wr) (fun s => s) (b - 1) (js4 rfl rfl rfl rfl) ⟨jo, zv _, hA, rfl, K⟩ ?_
 rintro j wr ⟨hj, hj2, hA, he2, K⟩
 refine jS (jS ?_)
 refine VC.meet (σ := Unit) (fun s => [(0, .slice (some ad) N c), (1, .int .i64 ((a : Nat) : Int)), (10, .int .i64 ((i : Nat) : Int)), (11, .int .i64 ((j : Nat) : Int)), (60, .bool (decide (i ≤ j ∧ ¬ d1[j]! < d1[a]!)))]) (fun s wz => Frm [] wr wz) ?_ ?_
 ·
  refine VC.held (fun W => Frm [] wr W) jK ?_
  have hS : Frm [] wr wr.drew := (Frm.refl _ _).drew
  refine jH 0 rfl hS (fun w0 hw0 => Run.mv rfl) ?_
  refine jH 1 rfl hS (fun w0 hw0 => Run.mv rfl) ?_
  refine jH 2 rfl hS (fun w0 hw0 => Run.bin rfl rfl (Bin.leqN _ _)) ?_
  by_cases hs48 : i ≤ j
  ·
   refine jH 3 rfl hS (fun w0 hw0 => Run.mv rfl) ?_
   refine qQ.take 4 rfl jK jK jK hS (fun w0 hw0 => Run.mv rfl) (Up.g rfl (by first | rfl | exact decide_eq_true hs48 | (simp [hs48]; done))) rfl rfl ?_
   refine qQ.take 5 rfl jK jK jK hS (fun w0 hw0 => Run.mv rfl) (Up.g rfl (by first | rfl | exact decide_eq_true hs48 | (simp [hs48]; done))) rfl rfl ?_
   refine qQ.take 6 rfl jK jK jK hS (fun w0 hw0 => Run.index1 _ rfl rfl zd zc jo) (Up.g rfl (by first | rfl | exact decide_eq_true hs48 | (simp [hs48]; done))) rfl rfl ?_
   refine qQ.take 7 rfl jK jK jK hS (fun w0 hw0 => Run.load rfl zh ((hA.nil hw0).at (i := j) jo)) (Up.g rfl (by first | rfl | exact decide_eq_true hs48 | (simp [hs48]; done))) rfl rfl ?_
   refine qQ.take 8 rfl jK jK jK hS (fun w0 hw0 => Run.mv rfl) (Up.g rfl (by first | rfl | exact decide_eq_true hs48 | (simp [hs48]; done))) rfl rfl ?_
   refine qQ.take 9 rfl jK jK jK hS (fun w0 hw0 => Run.mv rfl) (Up.g rfl (by first | rfl | exact decide_eq_true hs48 | (simp [hs48]; done))) rfl rfl ?_
   refine qQ.take 10 rfl jK jK jK hS (fun w0 hw0 => Run.index1 _ rfl rfl zd zc jo) (Up.g rfl (by first | rfl | exact decide_eq_true hs48 | (simp [hs48]; done))) rfl rfl ?_
   refine qQ.take 11 rfl jK jK jK hS (fun w0 hw0 => Run.load rfl zh ((hA.nil hw0).at (i := a) jo)) (Up.g rfl (by first | rfl | exact decide_eq_true hs48 | (simp [hs48]; done))) rfl rfl ?_
   refine qQ.cl 12 rfl jK (jE2 zcc) (bL _ _ _) (Up.g rfl (by first | rfl | exact decide_eq_true hs48 | (simp [hs48]; done))) rfl rfl ?_
   rintro e _ ⟨rfl, rfl⟩
   refine ⟨_, rfl, hS, ?_⟩
   by_cases hs58 : d1[j]! < d1[a]!
   ·
    refine qQ.take 13 rfl jK jK jK hS (fun w0 hw0 => Run.not rfl) (Up.g rfl (by first | rfl | exact decide_eq_true hs48 | exact decide_eq_true hs58 | (simp [hs48]; done) | (simp [hs58]; done))) rfl rfl ?_
    refine jH 14 rfl hS (fun w0 hw0 => Run.pickT rfl rfl (by first | rfl | exact decide_eq_true hs48 | exact decide_eq_true hs58 | (simp [hs48]; done) | (simp [hs58]; done))) ?_
    refine qQ.done jK ?_
    refine jN ⟨(), (js5 rfl rfl rfl rfl (jC (by grind))), ?_⟩
    exact hS
   refine qQ.take 13 rfl jK jK jK hS (fun w0 hw0 => Run.not rfl) (Up.g rfl (by first | rfl | exact decide_eq_true hs48 | exact decide_eq_false hs58 | (simp [hs48]; done) | (simp [hs58]; done))) rfl rfl ?_
   refine jH 14 rfl hS (fun w0 hw0 => Run.pickT rfl rfl (by first | rfl | exact decide_eq_true hs48 | exact decide_eq_false hs58 | (simp [hs48]; done) | (simp [hs58]; done))) ?_
   refine qQ.done jK ?_
   refine jN ⟨(), (js5 rfl rfl rfl rfl (jC (by grind))), ?_⟩
   exact hS
  refine jH 3 rfl hS (fun w0 hw0 => Run.mv rfl) ?_
  refine qQ.skip 4 rfl jK jK jK hS rfl rfl (by first | rfl | exact decide_eq_false hs48 | (simp [hs48]; done)) rfl rfl ?_
  refine qQ.skip 5 rfl jK jK jK hS rfl rfl (by first | rfl | exact decide_eq_false hs48 | (simp [hs48]; done)) rfl rfl ?_
  refine qQ.skip 6 rfl jK jK jK hS rfl rfl (by first | rfl | exact decide_eq_false hs48 | (simp [hs48]; done)) rfl rfl ?_
  refine qQ.skip 7 rfl jK jK jK hS rfl rfl (by first | rfl | exact decide_eq_false hs48 | (simp [hs48]; done)) rfl rfl ?_
  refine qQ.skip 8 rfl jK jK jK hS rfl rfl (by first | rfl | exact decide_eq_false hs48 | (simp [hs48]; done)) rfl rfl ?_
  refine qQ.skip 9 rfl jK jK jK hS rfl rfl (by first | rfl | exact decide_eq_false hs48 | (simp [hs48]; done)) rfl rfl ?_
  refine qQ.skip 10 rfl jK jK jK hS rfl rfl (by first | rfl | exact decide_eq_false hs48 | (simp [hs48]; done)) rfl rfl ?_
  refine qQ.skip 11 rfl jK jK jK hS rfl rfl (by first | rfl | exact decide_eq_false hs48 | (simp [hs48]; done)) rfl rfl ?_
  refine qQ.skip 12 rfl jK jK jK hS rfl rfl (by first | rfl | exact decide_eq_false hs48 | (simp [hs48]; done)) rfl rfl ?_
  refine qQ.skip 13 rfl jK jK jK hS rfl rfl (by first | rfl | exact decide_eq_false hs48 | (simp [hs48]; done)) rfl rfl ?_
  refine jH 14 rfl hS (fun w0 hw0 => Run.pickF rfl rfl (by first | rfl | exact decide_eq_false hs48 | (simp [hs48]; done))) ?_
  refine qQ.done jK ?_
  refine jN ⟨(), (js5 rfl rfl rfl rfl (jC (by grind))), ?_⟩
  exact hS
 rintro _ wz hfz Γ hΓ
 have hA := hA.nil hfz
 have K := K.trans hfz jp
 refine jN (VC.sub _ hΓ ?_)
 refine jD rfl (fun hc2 => ?_) fun hc2 => ?_
 ·
  refine jQ (jN (jv4 0 1 10 11 ?_))
  refine jB (jR (jm rfl (jb rfl rfl (Bin.sub_i64 _ 1 jo jo) (ja rfl (jO ?_)))))
  refine qN (jN ⟨(j - 1), (js4 rfl rfl rfl rfl), ?_, ?_⟩)
  · exact ⟨jo, jo, hA, by rw [← he2]; exact (gA jo ⟨hc2.1, by simp [ltN]; omega⟩).symm, K⟩
  first | omega | (dsimp only; omega)
 have hJ : scanDown (fun x => !ltN x d1[a]!) d1 i (b - 1) = j := by rw [← he2]; exact fT (fun h => hc2 ⟨h.1, by simpa [ltN] using h.2⟩)
 refine jX ?_
 refine qK (qK (qS ?_))
 refine jN (jv4 0 1 10 11 ?_)
 refine jS (jS (jR (jm rfl (jm rfl (jb rfl rfl (Bin.gtrN _ _) (jO (jN (jv5 0 1 10 11 65 ?_))))))))
 refine jD rfl (fun hc3 => ?_) fun hc3 => ?_
 ·
  have hF := qQu hd1 hI hJ hc3
  refine jS ?_
  refine VC.held (fun _ => True) jK ?_
  refine jH 0 rfl trivial (fun w0 hw0 => Run.mv rfl) ?_
  refine jH 1 rfl trivial (fun w0 hw0 => Run.mv rfl) ?_
  refine jH 2 rfl trivial (fun w0 hw0 => Run.mv rfl) ?_
  refine jH 3 rfl trivial (fun w0 hw0 => Run.mv rfl) ?_
  refine jH 4 rfl trivial (fun w0 hw0 => Run.mv rfl) ?_
  refine jH 5 rfl trivial (fun w0 hw0 => Run.mv rfl) ?_
  refine jH 6 rfl trivial (fun w0 hw0 => Run.index1 _ rfl rfl zd zc jo) ?_
  refine jH 8 rfl trivial (fun w0 hw0 => Run.mv rfl) ?_
  refine jH 9 rfl trivial (fun w0 hw0 => Run.mv rfl) ?_
  refine jH 10 rfl trivial (fun w0 hw0 => Run.index1 _ rfl rfl zd zc jo) ?_
  refine qQ.r2 7 11 rfl rfl jK jK jK jK trivial rfl rfl (Run.load rfl zh ((hA.nil (qV.drew _).frm).at (i := a) jo)) (Run.load rfl zh ((hA.nil (qV.drew _).frm).at (i := j) jo)) (Run.load rfl zh ((hA.nil (qV.drew _).frm).at (i := j) jo)) (Run.load rfl zh ((hA.nil (qV.drew _).frm).at (i := a) jo)) rfl rfl rfl rfl rfl ?_
  refine jH 12 rfl trivial (fun w0 hw0 => Run.index1 _ rfl rfl zd zc jo) ?_
  refine qQ.st 13 rfl jK (qW.storeOwn (j) rfl rfl zc (hA.nil (qV.drew _).frm).2 rfl jo rfl) trivial rfl ?_
  rintro w3a ⟨ho_a, hf_a, hs_a⟩
  refine ⟨trivial, ?_⟩
  refine jH 14 rfl trivial (fun w0 hw0 => Run.index1 _ rfl rfl zd zc jo) ?_
  refine qQ.st 15 rfl jK (qW.storeOwn (a) rfl rfl zc ho_a rfl jo rfl) trivial rfl ?_
  rintro w3 ⟨ho_b, hf_b, hs_b⟩
  have hAs := AO.swp hA.1 ho_b
  have hKs := ((qV.drew _).frm.mono (T := ob (some ad)) jp).trans (hf_a.trans hf_b (fun x hx => .inl hx)) (fun x hx => .inl hx)
  refine ⟨trivial, ?_⟩
  refine qQ.done jK ?_
  refine jN (jv1 11 ?_)
  refine jS (jR (jm rfl (ja rfl (ja rfl (jO (jN (jv2 8 9 ?_)))))))
  refine jT ?_
  refine qZ (dQ rfl rfl ?_)
  rw [hF]
  exact ⟨rfl, hAs, K.trans hKs (fun x hx => .inl hx)⟩
 have hF := fun r => qQv (r := r) hd1 hI hJ hc3
 refine jQ (jN (jv4 0 1 10 11 ?_))
 refine jS ?_
 refine VC.held (fun _ => True) jK ?_
 refine jH 0 rfl trivial (fun w0 hw0 => Run.mv rfl) ?_
 refine jH 1 rfl trivial (fun w0 hw0 => Run.mv rfl) ?_
 refine jH 2 rfl trivial (fun w0 hw0 => Run.mv rfl) ?_
 refine jH 3 rfl trivial (fun w0 hw0 => Run.mv rfl) ?_
 refine jH 4 rfl trivial (fun w0 hw0 => Run.mv rfl) ?_
 refine jH 5 rfl trivial (fun w0 hw0 => Run.mv rfl) ?_
 refine jH 6 rfl trivial (fun w0 hw0 => Run.index1 _ rfl rfl zd zc jo) ?_
 refine jH 8 rfl trivial (fun w0 hw0 => Run.mv rfl) ?_
 refine jH 9 rfl trivial (fun w0 hw0 => Run.mv rfl) ?_
 refine jH 10 rfl trivial (fun w0 hw0 => Run.index1 _ rfl rfl zd zc jo) ?_
 refine qQ.r2 7 11 rfl rfl jK jK jK jK trivial rfl rfl (Run.load rfl zh ((hA.nil (qV.drew _).frm).at (i := j) jo)) (Run.load rfl zh ((hA.nil (qV.drew _).frm).at (i := i) jo)) (Run.load rfl zh ((hA.nil (qV.drew _).frm).at (i := i) jo)) (Run.load rfl zh ((hA.nil (qV.drew _).frm).at (i := j) jo)) rfl rfl rfl rfl rfl ?_
 refine jH 12 rfl trivial (fun w0 hw0 => Run.index1 _ rfl rfl zd zc jo) ?_
 refine qQ.st 13 rfl jK (qW.storeOwn (i) rfl rfl zc (hA.nil (qV.drew _).frm).2 rfl jo rfl) trivial rfl ?_
 rintro w4a ⟨ho_a, hf_a, hs_a⟩
 refine ⟨trivial, ?_⟩
 refine jH 14 rfl trivial (fun w0 hw0 => Run.index1 _ rfl rfl zd zc jo) ?_
 refine qQ.st 15 rfl jK (qW.storeOwn (j) rfl rfl zc ho_a rfl jo rfl) trivial rfl ?_
 rintro w4 ⟨ho_b, hf_b, hs_b⟩
 have hAs := AO.swp hA.1 ho_b
 have hKs := ((qV.drew _).frm.mono (T := ob (some ad)) jp).trans (hf_a.trans hf_b (fun x hx => .inl hx)) (fun x hx => .inl hx)
 refine ⟨trivial, ?_⟩
 refine qQ.done jK ?_
 refine jN (jv4 0 1 10 11 ?_)
 refine jS (jR (jm rfl (jb rfl rfl (Bin.add_i64 _ 1 jo) (ja rfl (jO (jN (jv4 0 1 10 11 ?_)))))))
 refine jS (jR (jm rfl (jb rfl rfl (Bin.sub_i64 _ 1 jo jo) (ja rfl (jO (jN (jv4 0 1 10 11 ?_)))))))
 refine jS (jB ?_)
 refine VC.loop (σ := Nat × Nat × Array Nat) (fun s => [(0, .slice (some ad) N c), (1, .int .i64 ((a : Nat) : Int)), (10, .int .i64 ((s.1 : Nat) : Int)), (11, .int .i64 ((s.2.1 : Nat) : Int))]) (fun s wr => a + 1 ≤ s.1 ∧ s.1 ≤ b ∧ a ≤ s.2.1 ∧ s.2.1 ≤ b - 1 ∧ AO wr (some ad) c N s.2.2 ∧ partLoop ltN a s.1 s.2.1 s.2.2 = partLoop ltN a (i + 1) (j - 1) (swp d1 i j) ∧ Frm (ob (some ad)) w wr) (fun s => s.2.1 + 1 - s.1) (i + 1, j - 1, swp d1 i j) (js4 rfl rfl rfl rfl) ⟨by dsimp only; omega, by dsimp only; omega, by dsimp only; omega, by dsimp only; omega, hAs, rfl, K.trans hKs (fun x hx => .inl hx)⟩ ?_
 rintro ⟨i3, j3, d3⟩ wr ⟨q1, q2, q3, q4, hA, he3, K⟩
 dsimp only at *
 refine jB (jS (jB ?_))
 refine VC.loop (σ := Nat) (fun s => [(0, .slice (some ad) N c), (1, .int .i64 ((a : Nat) : Int)), (10, .int .i64 ((s : Nat) : Int)), (11, .int .i64 ((j3 : Nat) : Int))]) (fun s wr => i3 ≤ s ∧ s ≤ b ∧ AO wr (some ad) c N d3 ∧ scanUp (fun x => ltN x d3[a]!) d3 j3 s = scanUp (fun x => ltN x d3[a]!) d3 j3 i3 ∧ Frm (ob (some ad)) w wr) (fun s => b - s) i3 (js4 rfl rfl rfl rfl) ⟨zv _, q2, hA, rfl, K⟩ ?_
 rintro i4 wr ⟨q5, q6, hA, he4, K⟩
 refine jS (jS ?_)
 refine VC.meet (σ := Unit) (fun s => [(0, .slice (some ad) N c), (1, .int .i64 ((a : Nat) : Int)), (10, .int .i64 ((i4 : Nat) : Int)), (11, .int .i64 ((j3 : Nat) : Int)), (112, .bool (decide (i4 ≤ j3 ∧ d3[i4]! < d3[a]!)))]) (fun s wz => Frm [] wr wz) ?_ ?_
 ·
  refine VC.held (fun W => Frm [] wr W) jK ?_
  have hS : Frm [] wr wr.drew := (Frm.refl _ _).drew
  refine jH 0 rfl hS (fun w0 hw0 => Run.mv rfl) ?_
  refine jH 1 rfl hS (fun w0 hw0 => Run.mv rfl) ?_
  refine jH 2 rfl hS (fun w0 hw0 => Run.bin rfl rfl (Bin.leqN _ _)) ?_
  by_cases hs101 : i4 ≤ j3
  ·
   refine jH 3 rfl hS (fun w0 hw0 => Run.mv rfl) ?_
   refine qQ.take 4 rfl jK jK jK hS (fun w0 hw0 => Run.mv rfl) (Up.g rfl (by first | rfl | exact decide_eq_true hs101 | (simp [hs101]; done))) rfl rfl ?_
   refine qQ.take 5 rfl jK jK jK hS (fun w0 hw0 => Run.mv rfl) (Up.g rfl (by first | rfl | exact decide_eq_true hs101 | (simp [hs101]; done))) rfl rfl ?_
   refine qQ.take 6 rfl jK jK jK hS (fun w0 hw0 => Run.index1 _ rfl rfl zd zc jo) (Up.g rfl (by first | rfl | exact decide_eq_true hs101 | (simp [hs101]; done))) rfl rfl ?_
   refine qQ.take 7 rfl jK jK jK hS (fun w0 hw0 => Run.load rfl zh ((hA.nil hw0).at (i := i4) jo)) (Up.g rfl (by first | rfl | exact decide_eq_true hs101 | (simp [hs101]; done))) rfl rfl ?_
   refine qQ.take 8 rfl jK jK jK hS (fun w0 hw0 => Run.mv rfl) (Up.g rfl (by first | rfl | exact decide_eq_true hs101 | (simp [hs101]; done))) rfl rfl ?_
   refine qQ.take 9 rfl jK jK jK hS (fun w0 hw0 => Run.mv rfl) (Up.g rfl (by first | rfl | exact decide_eq_true hs101 | (simp [hs101]; done))) rfl rfl ?_
   refine qQ.take 10 rfl jK jK jK hS (fun w0 hw0 => Run.index1 _ rfl rfl zd zc jo) (Up.g rfl (by first | rfl | exact decide_eq_true hs101 | (simp [hs101]; done))) rfl rfl ?_
   refine qQ.take 11 rfl jK jK jK hS (fun w0 hw0 => Run.load rfl zh ((hA.nil hw0).at (i := a) jo)) (Up.g rfl (by first | rfl | exact decide_eq_true hs101 | (simp [hs101]; done))) rfl rfl ?_
   refine qQ.cl 12 rfl jK (jE2 zcc) (bL _ _ _) (Up.g rfl (by first | rfl | exact decide_eq_true hs101 | (simp [hs101]; done))) rfl rfl ?_
   rintro e _ ⟨rfl, rfl⟩
   refine ⟨_, rfl, hS, ?_⟩
   by_cases hs111 : d3[i4]! < d3[a]!
   ·
    refine jH 13 rfl hS (fun w0 hw0 => Run.pickT rfl rfl (by first | rfl | exact decide_eq_true hs101 | exact decide_eq_true hs111 | (simp [hs101]; done) | (simp [hs111]; done))) ?_
    refine qQ.done jK ?_
    refine jN ⟨(), (js5 rfl rfl rfl rfl (jC (by grind))), ?_⟩
    exact hS
   refine jH 13 rfl hS (fun w0 hw0 => Run.pickT rfl rfl (by first | rfl | exact decide_eq_true hs101 | exact decide_eq_false hs111 | (simp [hs101]; done) | (simp [hs111]; done))) ?_
   refine qQ.done jK ?_
   refine jN ⟨(), (js5 rfl rfl rfl rfl (jC (by grind))), ?_⟩
   exact hS
  refine jH 3 rfl hS (fun w0 hw0 => Run.mv rfl) ?_
  refine qQ.skip 4 rfl jK jK jK hS rfl rfl (by first | rfl | exact decide_eq_false hs101 | (simp [hs101]; done)) rfl rfl ?_
  refine qQ.skip 5 rfl jK jK jK hS rfl rfl (by first | rfl | exact decide_eq_false hs101 | (simp [hs101]; done)) rfl rfl ?_
  refine qQ.skip 6 rfl jK jK jK hS rfl rfl (by first | rfl | exact decide_eq_false hs101 | (simp [hs101]; done)) rfl rfl ?_
  refine qQ.skip 7 rfl jK jK jK hS rfl rfl (by first | rfl | exact decide_eq_false hs101 | (simp [hs101]; done)) rfl rfl ?_
  refine qQ.skip 8 rfl jK jK jK hS rfl rfl (by first | rfl | exact decide_eq_false hs101 | (simp [hs101]; done)) rfl rfl ?_
  refine qQ.skip 9 rfl jK jK jK hS rfl rfl (by first | rfl | exact decide_eq_false hs101 | (simp [hs101]; done)) rfl rfl ?_
  refine qQ.skip 10 rfl jK jK jK hS rfl rfl (by first | rfl | exact decide_eq_false hs101 | (simp [hs101]; done)) rfl rfl ?_
  refine qQ.skip 11 rfl jK jK jK hS rfl rfl (by first | rfl | exact decide_eq_false hs101 | (simp [hs101]; done)) rfl rfl ?_
  refine qQ.skip 12 rfl jK jK jK hS rfl rfl (by first | rfl | exact decide_eq_false hs101 | (simp [hs101]; done)) rfl rfl ?_
  refine jH 13 rfl hS (fun w0 hw0 => Run.pickF rfl rfl (by first | rfl | exact decide_eq_false hs101 | (simp [hs101]; done))) ?_
  refine qQ.done jK ?_
  refine jN ⟨(), (js5 rfl rfl rfl rfl (jC (by grind))), ?_⟩
  exact hS
 rintro _ wz hfz Γ hΓ
 have hA := hA.nil hfz
 have K := K.trans hfz jp
 refine jN (VC.sub _ hΓ ?_)
 refine jD rfl (fun hc4 => ?_) fun hc4 => ?_
 ·
  refine jQ (jN (jv4 0 1 10 11 ?_))
  refine jB (jR (jm rfl (jb rfl rfl (Bin.add_i64 _ 1 jo) (ja rfl (jO ?_)))))
  refine qN (jN ⟨(i4 + 1), (js4 rfl rfl rfl rfl), ?_, ?_⟩)
  · exact ⟨jo, jo, hA, by rw [← he4]; exact (lF ⟨hc4.1, by simp [ltN]; exact hc4.2⟩).symm, K⟩
  first | omega | (dsimp only; omega)
 have hI3 : scanUp (fun x => ltN x d3[a]!) d3 j3 i3 = i4 := by rw [← he4]; exact gF (fun h => hc4 ⟨h.1, by simpa [ltN] using h.2⟩)
 refine jX ?_
 refine qK (qK (qS ?_))
 refine jN (jv4 0 1 10 11 ?_)
 refine jS (jB ?_)
 refine VC.loop (σ := Nat) (fun s => [(0, .slice (some ad) N c), (1, .int .i64 ((a : Nat) : Int)), (10, .int .i64 ((i4 : Nat) : Int)), (11, .int .i64 ((s : Nat) : Int))]) (fun s wr => a ≤ s ∧ s ≤ j3 ∧ AO wr (some ad) c N d3 ∧ scanDown (fun x => !ltN x d3[a]!) d3 i4 s = scanDown (fun x => !ltN x d3[a]!) d3 i4 j3 ∧ Frm (ob (some ad)) w wr) (fun s => s) j3 (js4 rfl rfl rfl rfl) ⟨q3, zv _, hA, rfl, K⟩ ?_
 rintro j4 wr ⟨q7, q8, hA, he5, K⟩
 refine jS (jS ?_)
 refine VC.meet (σ := Unit) (fun s => [(0, .slice (some ad) N c), (1, .int .i64 ((a : Nat) : Int)), (10, .int .i64 ((i4 : Nat) : Int)), (11, .int .i64 ((j4 : Nat) : Int)), (129, .bool (decide (i4 ≤ j4 ∧ ¬ d3[j4]! < d3[a]!)))]) (fun s wz => Frm [] wr wz) ?_ ?_
 ·
  refine VC.held (fun W => Frm [] wr W) jK ?_
  have hS : Frm [] wr wr.drew := (Frm.refl _ _).drew
  refine jH 0 rfl hS (fun w0 hw0 => Run.mv rfl) ?_
  refine jH 1 rfl hS (fun w0 hw0 => Run.mv rfl) ?_
  refine jH 2 rfl hS (fun w0 hw0 => Run.bin rfl rfl (Bin.leqN _ _)) ?_
  by_cases hs117 : i4 ≤ j4
  ·
   refine jH 3 rfl hS (fun w0 hw0 => Run.mv rfl) ?_
   refine qQ.take 4 rfl jK jK jK hS (fun w0 hw0 => Run.mv rfl) (Up.g rfl (by first | rfl | exact decide_eq_true hs117 | (simp [hs117]; done))) rfl rfl ?_
   refine qQ.take 5 rfl jK jK jK hS (fun w0 hw0 => Run.mv rfl) (Up.g rfl (by first | rfl | exact decide_eq_true hs117 | (simp [hs117]; done))) rfl rfl ?_
   refine qQ.take 6 rfl jK jK jK hS (fun w0 hw0 => Run.index1 _ rfl rfl zd zc jo) (Up.g rfl (by first | rfl | exact decide_eq_true hs117 | (simp [hs117]; done))) rfl rfl ?_
   refine qQ.take 7 rfl jK jK jK hS (fun w0 hw0 => Run.load rfl zh ((hA.nil hw0).at (i := j4) jo)) (Up.g rfl (by first | rfl | exact decide_eq_true hs117 | (simp [hs117]; done))) rfl rfl ?_
   refine qQ.take 8 rfl jK jK jK hS (fun w0 hw0 => Run.mv rfl) (Up.g rfl (by first | rfl | exact decide_eq_true hs117 | (simp [hs117]; done))) rfl rfl ?_
   refine qQ.take 9 rfl jK jK jK hS (fun w0 hw0 => Run.mv rfl) (Up.g rfl (by first | rfl | exact decide_eq_true hs117 | (simp [hs117]; done))) rfl rfl ?_
   refine qQ.take 10 rfl jK jK jK hS (fun w0 hw0 => Run.index1 _ rfl rfl zd zc jo) (Up.g rfl (by first | rfl | exact decide_eq_true hs117 | (simp [hs117]; done))) rfl rfl ?_
   refine qQ.take 11 rfl jK jK jK hS (fun w0 hw0 => Run.load rfl zh ((hA.nil hw0).at (i := a) jo)) (Up.g rfl (by first | rfl | exact decide_eq_true hs117 | (simp [hs117]; done))) rfl rfl ?_
   refine qQ.cl 12 rfl jK (jE2 zcc) (bL _ _ _) (Up.g rfl (by first | rfl | exact decide_eq_true hs117 | (simp [hs117]; done))) rfl rfl ?_
   rintro e _ ⟨rfl, rfl⟩
   refine ⟨_, rfl, hS, ?_⟩
   by_cases hs127 : d3[j4]! < d3[a]!
   ·
    refine qQ.take 13 rfl jK jK jK hS (fun w0 hw0 => Run.not rfl) (Up.g rfl (by first | rfl | exact decide_eq_true hs117 | exact decide_eq_true hs127 | (simp [hs117]; done) | (simp [hs127]; done))) rfl rfl ?_
    refine jH 14 rfl hS (fun w0 hw0 => Run.pickT rfl rfl (by first | rfl | exact decide_eq_true hs117 | exact decide_eq_true hs127 | (simp [hs117]; done) | (simp [hs127]; done))) ?_
    refine qQ.done jK ?_
    refine jN ⟨(), (js5 rfl rfl rfl rfl (jC (by grind))), ?_⟩
    exact hS
   refine qQ.take 13 rfl jK jK jK hS (fun w0 hw0 => Run.not rfl) (Up.g rfl (by first | rfl | exact decide_eq_true hs117 | exact decide_eq_false hs127 | (simp [hs117]; done) | (simp [hs127]; done))) rfl rfl ?_
   refine jH 14 rfl hS (fun w0 hw0 => Run.pickT rfl rfl (by first | rfl | exact decide_eq_true hs117 | exact decide_eq_false hs127 | (simp [hs117]; done) | (simp [hs127]; done))) ?_
   refine qQ.done jK ?_
   refine jN ⟨(), (js5 rfl rfl rfl rfl (jC (by grind))), ?_⟩
   exact hS
  refine jH 3 rfl hS (fun w0 hw0 => Run.mv rfl) ?_
  refine qQ.skip 4 rfl jK jK jK hS rfl rfl (by first | rfl | exact decide_eq_false hs117 | (simp [hs117]; done)) rfl rfl ?_
  refine qQ.skip 5 rfl jK jK jK hS rfl rfl (by first | rfl | exact decide_eq_false hs117 | (simp [hs117]; done)) rfl rfl ?_
  refine qQ.skip 6 rfl jK jK jK hS rfl rfl (by first | rfl | exact decide_eq_false hs117 | (simp [hs117]; done)) rfl rfl ?_
  refine qQ.skip 7 rfl jK jK jK hS rfl rfl (by first | rfl | exact decide_eq_false hs117 | (simp [hs117]; done)) rfl rfl ?_
  refine qQ.skip 8 rfl jK jK jK hS rfl rfl (by first | rfl | exact decide_eq_false hs117 | (simp [hs117]; done)) rfl rfl ?_
  refine qQ.skip 9 rfl jK jK jK hS rfl rfl (by first | rfl | exact decide_eq_false hs117 | (simp [hs117]; done)) rfl rfl ?_
  refine qQ.skip 10 rfl jK jK jK hS rfl rfl (by first | rfl | exact decide_eq_false hs117 | (simp [hs117]; done)) rfl rfl ?_
  refine qQ.skip 11 rfl jK jK jK hS rfl rfl (by first | rfl | exact decide_eq_false hs117 | (simp [hs117]; done)) rfl rfl ?_
  refine qQ.skip 12 rfl jK jK jK hS rfl rfl (by first | rfl | exact decide_eq_false hs117 | (simp [hs117]; done)) rfl rfl ?_
  refine qQ.skip 13 rfl jK jK jK hS rfl rfl (by first | rfl | exact decide_eq_false hs117 | (simp [hs117]; done)) rfl rfl ?_
  refine jH 14 rfl hS (fun w0 hw0 => Run.pickF rfl rfl (by first | rfl | exact decide_eq_false hs117 | (simp [hs117]; done))) ?_
  refine qQ.done jK ?_
  refine jN ⟨(), (js5 rfl rfl rfl rfl (jC (by grind))), ?_⟩
  exact hS
 rintro _ wz hfz Γ hΓ
 have hA := hA.nil hfz
 have K := K.trans hfz jp
 refine jN (VC.sub _ hΓ ?_)
 refine jD rfl (fun hc5 => ?_) fun hc5 => ?_
 ·
  refine jQ (jN (jv4 0 1 10 11 ?_))
  refine jB (jR (jm rfl (jb rfl rfl (Bin.sub_i64 _ 1 jo jo) (ja rfl (jO ?_)))))
  refine qN (jN ⟨(j4 - 1), (js4 rfl rfl rfl rfl), ?_, ?_⟩)
  · exact ⟨jo, jo, hA, by rw [← he5]; exact (gA jo ⟨hc5.1, by simp [ltN]; omega⟩).symm, K⟩
  first | omega | (dsimp only; omega)
 have hJ3 : scanDown (fun x => !ltN x d3[a]!) d3 i4 j3 = j4 := by rw [← he5]; exact fT (fun h => hc5 ⟨h.1, by simpa [ltN] using h.2⟩)
 refine jX ?_
 refine qK (qK (qS ?_))
 refine jN (jv4 0 1 10 11 ?_)
 refine jS (jS (jR (jm rfl (jm rfl (jb rfl rfl (Bin.gtrN _ _) (jO (jN (jv5 0 1 10 11 134 ?_))))))))
 refine jD rfl (fun hc6 => ?_) fun hc6 => ?_
 ·
  have hst := pP hI3 hJ3 hc6
  rw [hst] at he3
  have hF := hF _ he3.symm
  refine jX ?_
  refine qK (fF rfl (qK (qS ?_)))
  refine jN (jv3 0 1 11 ?_)
  refine jS ?_
  refine VC.held (fun _ => True) jK ?_
  refine jH 0 rfl trivial (fun w0 hw0 => Run.mv rfl) ?_
  refine jH 1 rfl trivial (fun w0 hw0 => Run.mv rfl) ?_
  refine jH 2 rfl trivial (fun w0 hw0 => Run.mv rfl) ?_
  refine jH 3 rfl trivial (fun w0 hw0 => Run.mv rfl) ?_
  refine jH 4 rfl trivial (fun w0 hw0 => Run.mv rfl) ?_
  refine jH 5 rfl trivial (fun w0 hw0 => Run.mv rfl) ?_
  refine jH 6 rfl trivial (fun w0 hw0 => Run.index1 _ rfl rfl zd zc jo) ?_
  refine jH 8 rfl trivial (fun w0 hw0 => Run.mv rfl) ?_
  refine jH 9 rfl trivial (fun w0 hw0 => Run.mv rfl) ?_
  refine jH 10 rfl trivial (fun w0 hw0 => Run.index1 _ rfl rfl zd zc jo) ?_
  refine qQ.r2 7 11 rfl rfl jK jK jK jK trivial rfl rfl (Run.load rfl zh ((hA.nil (qV.drew _).frm).at (i := a) jo)) (Run.load rfl zh ((hA.nil (qV.drew _).frm).at (i := j4) jo)) (Run.load rfl zh ((hA.nil (qV.drew _).frm).at (i := j4) jo)) (Run.load rfl zh ((hA.nil (qV.drew _).frm).at (i := a) jo)) rfl rfl rfl rfl rfl ?_
  refine jH 12 rfl trivial (fun w0 hw0 => Run.index1 _ rfl rfl zd zc jo) ?_
  refine qQ.st 13 rfl jK (qW.storeOwn (j4) rfl rfl zc (hA.nil (qV.drew _).frm).2 rfl jo rfl) trivial rfl ?_
  rintro w7a ⟨ho_a, hf_a, hs_a⟩
  refine ⟨trivial, ?_⟩
  refine jH 14 rfl trivial (fun w0 hw0 => Run.index1 _ rfl rfl zd zc jo) ?_
  refine qQ.st 15 rfl jK (qW.storeOwn (a) rfl rfl zc ho_a rfl jo rfl) trivial rfl ?_
  rintro w7 ⟨ho_b, hf_b, hs_b⟩
  have hAs := AO.swp hA.1 ho_b
  have hKs := ((qV.drew _).frm.mono (T := ob (some ad)) jp).trans (hf_a.trans hf_b (fun x hx => .inl hx)) (fun x hx => .inl hx)
  refine ⟨trivial, ?_⟩
  refine qQ.done jK ?_
  refine jN (jv1 11 ?_)
  refine jS (jR (jm rfl (ja rfl (ja rfl (jO (jN (jv2 8 9 ?_)))))))
  refine jT ?_
  refine dQ rfl rfl ?_
  rw [hF]
  exact ⟨rfl, hAs, K.trans hKs (fun x hx => .inl hx)⟩
 have hst := tX hI3 hJ3 hc6 q5 q8 jo
 refine jQ (jN (jv4 0 1 10 11 ?_))
 refine jS ?_
 refine VC.held (fun _ => True) jK ?_
 refine jH 0 rfl trivial (fun w0 hw0 => Run.mv rfl) ?_
 refine jH 1 rfl trivial (fun w0 hw0 => Run.mv rfl) ?_
 refine jH 2 rfl trivial (fun w0 hw0 => Run.mv rfl) ?_
 refine jH 3 rfl trivial (fun w0 hw0 => Run.mv rfl) ?_
 refine jH 4 rfl trivial (fun w0 hw0 => Run.mv rfl) ?_
 refine jH 5 rfl trivial (fun w0 hw0 => Run.mv rfl) ?_
 refine jH 6 rfl trivial (fun w0 hw0 => Run.index1 _ rfl rfl zd zc jo) ?_
 refine jH 8 rfl trivial (fun w0 hw0 => Run.mv rfl) ?_
 refine jH 9 rfl trivial (fun w0 hw0 => Run.mv rfl) ?_
 refine jH 10 rfl trivial (fun w0 hw0 => Run.index1 _ rfl rfl zd zc jo) ?_
 refine qQ.r2 7 11 rfl rfl jK jK jK jK trivial rfl rfl (Run.load rfl zh ((hA.nil (qV.drew _).frm).at (i := j4) jo)) (Run.load rfl zh ((hA.nil (qV.drew _).frm).at (i := i4) jo)) (Run.load rfl zh ((hA.nil (qV.drew _).frm).at (i := i4) jo)) (Run.load rfl zh ((hA.nil (qV.drew _).frm).at (i := j4) jo)) rfl rfl rfl rfl rfl ?_
 refine jH 12 rfl trivial (fun w0 hw0 => Run.index1 _ rfl rfl zd zc jo) ?_
 refine qQ.st 13 rfl jK (qW.storeOwn (i4) rfl rfl zc (hA.nil (qV.drew _).frm).2 rfl jo rfl) trivial rfl ?_
 rintro w6a ⟨ho_a, hf_a, hs_a⟩
 refine ⟨trivial, ?_⟩
 refine jH 14 rfl trivial (fun w0 hw0 => Run.index1 _ rfl rfl zd zc jo) ?_
 refine qQ.st 15 rfl jK (qW.storeOwn (j4) rfl rfl zc ho_a rfl jo rfl) trivial rfl ?_
 rintro w6 ⟨ho_b, hf_b, hs_b⟩
 have hAs := AO.swp hA.1 ho_b
 have hKs := ((qV.drew _).frm.mono (T := ob (some ad)) jp).trans (hf_a.trans hf_b (fun x hx => .inl hx)) (fun x hx => .inl hx)
 refine ⟨trivial, ?_⟩
 refine qQ.done jK ?_
 refine jN (jv4 0 1 10 11 ?_)
 refine jS (jR (jm rfl (jb rfl rfl (Bin.add_i64 _ 1 jo) (ja rfl (jO (jN (jv4 0 1 10 11 ?_)))))))
 refine jR (jm rfl (jb rfl rfl (Bin.sub_i64 _ 1 jo jo) (ja rfl (jO ?_))))
 refine qN (jN ⟨(i4 + 1, j4 - 1, swp d3 i4 j4), (js4 rfl rfl rfl rfl), ?_, ?_⟩)
 · exact ⟨by dsimp only; omega, by dsimp only; omega, by dsimp only; omega, by dsimp only; omega, hAs, by rw [← he3, hst], K.trans hKs (fun x hx => .inl hx)⟩
 first | omega | (dsimp only; omega)
set_option maxHeartbeats 1000000 in
theorem yL (B : Option Addr) (c N : Nat) (d : Array Nat) (w : World) (h : AO w B c N d) (hN : N ≤ 1000000) (a b pivot : Nat) (hp1 : a ≤ pivot) (hp2 : pivot < b) (hb : b ≤ N) :
  Calls Tryz.prog 148 #[.slice B N c, .int .i64 ((a : Nat) : Int), .int .i64 ((b : Nat) : Int), .int .i64 ((pivot : Nat) : Int)] w fun e w' => e = .returned (.int .i64 (((partitionEqual ltN d a b pivot).1 : Nat) : Int)) ∧ AO w' B c N (partitionEqual ltN d a b pivot).2 ∧ Frm (ob B) w w' := by
 obtain ⟨ad, rfl⟩ := h.adr jo
 have hA := h
 refine VC.calls (nt := 84) (res := #[.tmp 8]) Tryz.func148 rfl Tryz.ntmps148 Tryz.results148 rfl ?_
 refine jS (jR (jz 0 (jO (jN (jv4 0 1 2 3 ?_)))))
 refine jS ?_
 refine VC.held (fun _ => True) jK ?_
 refine jH 0 rfl trivial (fun w0 hw0 => Run.mv rfl) ?_
 refine jH 1 rfl trivial (fun w0 hw0 => Run.mv rfl) ?_
 refine jH 2 rfl trivial (fun w0 hw0 => Run.mv rfl) ?_
 refine jH 3 rfl trivial (fun w0 hw0 => Run.mv rfl) ?_
 refine jH 4 rfl trivial (fun w0 hw0 => Run.mv rfl) ?_
 refine jH 5 rfl trivial (fun w0 hw0 => Run.mv rfl) ?_
 refine jH 6 rfl trivial (fun w0 hw0 => Run.index1 _ rfl rfl zd zc jo) ?_
 refine jH 8 rfl trivial (fun w0 hw0 => Run.mv rfl) ?_
 refine jH 9 rfl trivial (fun w0 hw0 => Run.mv rfl) ?_
 refine jH 10 rfl trivial (fun w0 hw0 => Run.index1 _ rfl rfl zd zc jo) ?_
 refine qQ.r2 7 11 rfl rfl jK jK jK jK trivial rfl rfl (Run.load rfl zh ((hA.nil (qV.drew _).frm).at (i := pivot) jo)) (Run.load rfl zh ((hA.nil (qV.drew _).frm).at (i := a) jo)) (Run.load rfl zh ((hA.nil (qV.drew _).frm).at (i := a) jo)) (Run.load rfl zh ((hA.nil (qV.drew _).frm).at (i := pivot) jo)) rfl rfl rfl rfl rfl ?_
 refine jH 12 rfl trivial (fun w0 hw0 => Run.index1 _ rfl rfl zd zc jo) ?_
 refine qQ.st 13 rfl jK (qW.storeOwn (a) rfl rfl zc (hA.nil (qV.drew _).frm).2 rfl jo rfl) trivial rfl ?_
 rintro w1a ⟨ho_a, hf_a, hs_a⟩
 refine ⟨trivial, ?_⟩
 refine jH 14 rfl trivial (fun w0 hw0 => Run.index1 _ rfl rfl zd zc jo) ?_
 refine qQ.st 15 rfl jK (qW.storeOwn (pivot) rfl rfl zc ho_a rfl jo rfl) trivial rfl ?_
 rintro w1 ⟨ho_b, hf_b, hs_b⟩
 have hAs := AO.swp hA.1 ho_b
 have hKs := ((qV.drew _).frm.mono (T := ob (some ad)) jp).trans (hf_a.trans hf_b (fun x hx => .inl hx)) (fun x hx => .inl hx)
 refine ⟨trivial, ?_⟩
 refine qQ.done jK ?_
 refine jN (jv3 0 1 2 ?_)
 refine jS (jR (jm rfl (jb rfl rfl (Bin.add_i64 _ 1 jo) (jm rfl (jb rfl rfl (Bin.sub_i64 _ 1 jo jo) (ja rfl (ja rfl (jO (jN (jv4 0 1 9 10 ?_))))))))))
 refine jS (jB ?_)
 have hA := hAs
 have K := hKs
 refine VC.loop (σ := Nat × Nat × Array Nat) (fun s => [(0, .slice (some ad) N c), (1, .int .i64 ((a : Nat) : Int)), (9, .int .i64 ((s.1 : Nat) : Int)), (10, .int .i64 ((s.2.1 : Nat) : Int))]) (fun s wr => a + 1 ≤ s.1 ∧ s.1 ≤ b ∧ a ≤ s.2.1 ∧ s.2.1 ≤ b - 1 ∧ AO wr (some ad) c N s.2.2 ∧ partEqLoop ltN a s.1 s.2.1 s.2.2 = partitionEqual ltN d a b pivot ∧ Frm (ob (some ad)) w wr) (fun s => s.2.1 + 1 - s.1) (a + 1, b - 1, swp d a pivot) (js4 rfl rfl rfl rfl) ⟨by dsimp only; omega, by dsimp only; omega, by dsimp only; omega, by dsimp only; omega, hA, rfl, K⟩ ?_
 rintro ⟨i3, j3, d3⟩ wr ⟨q1, q2, q3, q4, hA, he3, K⟩
 dsimp only at *
 refine jB (jS (jB ?_))
 refine VC.loop (σ := Nat) (fun s => [(0, .slice (some ad) N c), (1, .int .i64 ((a : Nat) : Int)), (9, .int .i64 ((s : Nat) : Int)), (10, .int .i64 ((j3 : Nat) : Int))]) (fun s wr => i3 ≤ s ∧ s ≤ b ∧ AO wr (some ad) c N d3 ∧ scanUp (fun x => !ltN d3[a]! x) d3 j3 s = scanUp (fun x => !ltN d3[a]! x) d3 j3 i3 ∧ Frm (ob (some ad)) w wr) (fun s => b - s) i3 (js4 rfl rfl rfl rfl) ⟨zv _, q2, hA, rfl, K⟩ ?_
 rintro i4 wr ⟨q5, q6, hA, he4, K⟩
 refine jS (jS ?_)
 refine VC.meet (σ := Unit) (fun s => [(0, .slice (some ad) N c), (1, .int .i64 ((a : Nat) : Int)), (9, .int .i64 ((i4 : Nat) : Int)), (10, .int .i64 ((j3 : Nat) : Int)), (43, .bool (decide (i4 ≤ j3 ∧ ¬ d3[a]! < d3[i4]!)))]) (fun s wz => Frm [] wr wz) ?_ ?_
 ·
  refine VC.held (fun W => Frm [] wr W) jK ?_
  have hS : Frm [] wr wr.drew := (Frm.refl _ _).drew
  refine jH 0 rfl hS (fun w0 hw0 => Run.mv rfl) ?_
  refine jH 1 rfl hS (fun w0 hw0 => Run.mv rfl) ?_
  refine jH 2 rfl hS (fun w0 hw0 => Run.bin rfl rfl (Bin.leqN _ _)) ?_
  by_cases hs31 : i4 ≤ j3
  ·
   refine jH 3 rfl hS (fun w0 hw0 => Run.mv rfl) ?_
   refine qQ.take 4 rfl jK jK jK hS (fun w0 hw0 => Run.mv rfl) (Up.g rfl (by first | rfl | exact decide_eq_true hs31 | (simp [hs31]; done))) rfl rfl ?_
   refine qQ.take 5 rfl jK jK jK hS (fun w0 hw0 => Run.mv rfl) (Up.g rfl (by first | rfl | exact decide_eq_true hs31 | (simp [hs31]; done))) rfl rfl ?_
   refine qQ.take 6 rfl jK jK jK hS (fun w0 hw0 => Run.index1 _ rfl rfl zd zc jo) (Up.g rfl (by first | rfl | exact decide_eq_true hs31 | (simp [hs31]; done))) rfl rfl ?_
   refine qQ.take 7 rfl jK jK jK hS (fun w0 hw0 => Run.load rfl zh ((hA.nil hw0).at (i := a) jo)) (Up.g rfl (by first | rfl | exact decide_eq_true hs31 | (simp [hs31]; done))) rfl rfl ?_
   refine qQ.take 8 rfl jK jK jK hS (fun w0 hw0 => Run.mv rfl) (Up.g rfl (by first | rfl | exact decide_eq_true hs31 | (simp [hs31]; done))) rfl rfl ?_
   refine qQ.take 9 rfl jK jK jK hS (fun w0 hw0 => Run.mv rfl) (Up.g rfl (by first | rfl | exact decide_eq_true hs31 | (simp [hs31]; done))) rfl rfl ?_
   refine qQ.take 10 rfl jK jK jK hS (fun w0 hw0 => Run.index1 _ rfl rfl zd zc jo) (Up.g rfl (by first | rfl | exact decide_eq_true hs31 | (simp [hs31]; done))) rfl rfl ?_
   refine qQ.take 11 rfl jK jK jK hS (fun w0 hw0 => Run.load rfl zh ((hA.nil hw0).at (i := i4) jo)) (Up.g rfl (by first | rfl | exact decide_eq_true hs31 | (simp [hs31]; done))) rfl rfl ?_
   refine qQ.cl 12 rfl jK (jE2 zcc) (bL _ _ _) (Up.g rfl (by first | rfl | exact decide_eq_true hs31 | (simp [hs31]; done))) rfl rfl ?_
   rintro e _ ⟨rfl, rfl⟩
   refine ⟨_, rfl, hS, ?_⟩
   by_cases hs41 : d3[a]! < d3[i4]!
   ·
    refine qQ.take 13 rfl jK jK jK hS (fun w0 hw0 => Run.not rfl) (Up.g rfl (by first | rfl | exact decide_eq_true hs31 | exact decide_eq_true hs41 | (simp [hs31]; done) | (simp [hs41]; done))) rfl rfl ?_
    refine jH 14 rfl hS (fun w0 hw0 => Run.pickT rfl rfl (by first | rfl | exact decide_eq_true hs31 | exact decide_eq_true hs41 | (simp [hs31]; done) | (simp [hs41]; done))) ?_
    refine qQ.done jK ?_
    refine jN ⟨(), (js5 rfl rfl rfl rfl (jC (by grind))), ?_⟩
    exact hS
   refine qQ.take 13 rfl jK jK jK hS (fun w0 hw0 => Run.not rfl) (Up.g rfl (by first | rfl | exact decide_eq_true hs31 | exact decide_eq_false hs41 | (simp [hs31]; done) | (simp [hs41]; done))) rfl rfl ?_
   refine jH 14 rfl hS (fun w0 hw0 => Run.pickT rfl rfl (by first | rfl | exact decide_eq_true hs31 | exact decide_eq_false hs41 | (simp [hs31]; done) | (simp [hs41]; done))) ?_
   refine qQ.done jK ?_
   refine jN ⟨(), (js5 rfl rfl rfl rfl (jC (by grind))), ?_⟩
   exact hS
  refine jH 3 rfl hS (fun w0 hw0 => Run.mv rfl) ?_
  refine qQ.skip 4 rfl jK jK jK hS rfl rfl (by first | rfl | exact decide_eq_false hs31 | (simp [hs31]; done)) rfl rfl ?_
  refine qQ.skip 5 rfl jK jK jK hS rfl rfl (by first | rfl | exact decide_eq_false hs31 | (simp [hs31]; done)) rfl rfl ?_
  refine qQ.skip 6 rfl jK jK jK hS rfl rfl (by first | rfl | exact decide_eq_false hs31 | (simp [hs31]; done)) rfl rfl ?_
  refine qQ.skip 7 rfl jK jK jK hS rfl rfl (by first | rfl | exact decide_eq_false hs31 | (simp [hs31]; done)) rfl rfl ?_
  refine qQ.skip 8 rfl jK jK jK hS rfl rfl (by first | rfl | exact decide_eq_false hs31 | (simp [hs31]; done)) rfl rfl ?_
  refine qQ.skip 9 rfl jK jK jK hS rfl rfl (by first | rfl | exact decide_eq_false hs31 | (simp [hs31]; done)) rfl rfl ?_
  refine qQ.skip 10 rfl jK jK jK hS rfl rfl (by first | rfl | exact decide_eq_false hs31 | (simp [hs31]; done)) rfl rfl ?_
  refine qQ.skip 11 rfl jK jK jK hS rfl rfl (by first | rfl | exact decide_eq_false hs31 | (simp [hs31]; done)) rfl rfl ?_
  refine qQ.skip 12 rfl jK jK jK hS rfl rfl (by first | rfl | exact decide_eq_false hs31 | (simp [hs31]; done)) rfl rfl ?_
  refine qQ.skip 13 rfl jK jK jK hS rfl rfl (by first | rfl | exact decide_eq_false hs31 | (simp [hs31]; done)) rfl rfl ?_
  refine jH 14 rfl hS (fun w0 hw0 => Run.pickF rfl rfl (by first | rfl | exact decide_eq_false hs31 | (simp [hs31]; done))) ?_
  refine qQ.done jK ?_
  refine jN ⟨(), (js5 rfl rfl rfl rfl (jC (by grind))), ?_⟩
  exact hS
 rintro _ wz hfz Γ hΓ
 have hA := hA.nil hfz
 have K := K.trans hfz jp
 refine jN (VC.sub _ hΓ ?_)
 refine jD rfl (fun hc1 => ?_) fun hc1 => ?_
 ·
  refine jQ (jN (jv4 0 1 9 10 ?_))
  refine jB (jR (jm rfl (jb rfl rfl (Bin.add_i64 _ 1 jo) (ja rfl (jO ?_)))))
  refine qN (jN ⟨(i4 + 1), (js4 rfl rfl rfl rfl), ?_, ?_⟩)
  · exact ⟨jo, jo, hA, by rw [← he4]; exact (lF ⟨hc1.1, by simp [ltN]; omega⟩).symm, K⟩
  first | omega | (dsimp only; omega)
 have hI3 : scanUp (fun x => !ltN d3[a]! x) d3 j3 i3 = i4 := by rw [← he4]; exact gF (fun h => hc1 ⟨h.1, by simpa [ltN] using h.2⟩)
 refine jX ?_
 refine qK (qK (qS ?_))
 refine jN (jv4 0 1 9 10 ?_)
 refine jS (jB ?_)
 refine VC.loop (σ := Nat) (fun s => [(0, .slice (some ad) N c), (1, .int .i64 ((a : Nat) : Int)), (9, .int .i64 ((i4 : Nat) : Int)), (10, .int .i64 ((s : Nat) : Int))]) (fun s wr => a ≤ s ∧ s ≤ j3 ∧ AO wr (some ad) c N d3 ∧ scanDown (fun x => ltN d3[a]! x) d3 i4 s = scanDown (fun x => ltN d3[a]! x) d3 i4 j3 ∧ Frm (ob (some ad)) w wr) (fun s => s) j3 (js4 rfl rfl rfl rfl) ⟨q3, zv _, hA, rfl, K⟩ ?_
 rintro j4 wr ⟨q7, q8, hA, he5, K⟩
 refine jS (jS ?_)
 refine VC.meet (σ := Unit) (fun s => [(0, .slice (some ad) N c), (1, .int .i64 ((a : Nat) : Int)), (9, .int .i64 ((i4 : Nat) : Int)), (10, .int .i64 ((j4 : Nat) : Int)), (59, .bool (decide (i4 ≤ j4 ∧ d3[a]! < d3[j4]!)))]) (fun s wz => Frm [] wr wz) ?_ ?_
 ·
  refine VC.held (fun W => Frm [] wr W) jK ?_
  have hS : Frm [] wr wr.drew := (Frm.refl _ _).drew
  refine jH 0 rfl hS (fun w0 hw0 => Run.mv rfl) ?_
  refine jH 1 rfl hS (fun w0 hw0 => Run.mv rfl) ?_
  refine jH 2 rfl hS (fun w0 hw0 => Run.bin rfl rfl (Bin.leqN _ _)) ?_
  by_cases hs48 : i4 ≤ j4
  ·
   refine jH 3 rfl hS (fun w0 hw0 => Run.mv rfl) ?_
   refine qQ.take 4 rfl jK jK jK hS (fun w0 hw0 => Run.mv rfl) (Up.g rfl (by first | rfl | exact decide_eq_true hs48 | (simp [hs48]; done))) rfl rfl ?_
   refine qQ.take 5 rfl jK jK jK hS (fun w0 hw0 => Run.mv rfl) (Up.g rfl (by first | rfl | exact decide_eq_true hs48 | (simp [hs48]; done))) rfl rfl ?_
   refine qQ.take 6 rfl jK jK jK hS (fun w0 hw0 => Run.index1 _ rfl rfl zd zc jo) (Up.g rfl (by first | rfl | exact decide_eq_true hs48 | (simp [hs48]; done))) rfl rfl ?_
   refine qQ.take 7 rfl jK jK jK hS (fun w0 hw0 => Run.load rfl zh ((hA.nil hw0).at (i := a) jo)) (Up.g rfl (by first | rfl | exact decide_eq_true hs48 | (simp [hs48]; done))) rfl rfl ?_
   refine qQ.take 8 rfl jK jK jK hS (fun w0 hw0 => Run.mv rfl) (Up.g rfl (by first | rfl | exact decide_eq_true hs48 | (simp [hs48]; done))) rfl rfl ?_
   refine qQ.take 9 rfl jK jK jK hS (fun w0 hw0 => Run.mv rfl) (Up.g rfl (by first | rfl | exact decide_eq_true hs48 | (simp [hs48]; done))) rfl rfl ?_
   refine qQ.take 10 rfl jK jK jK hS (fun w0 hw0 => Run.index1 _ rfl rfl zd zc jo) (Up.g rfl (by first | rfl | exact decide_eq_true hs48 | (simp [hs48]; done))) rfl rfl ?_
   refine qQ.take 11 rfl jK jK jK hS (fun w0 hw0 => Run.load rfl zh ((hA.nil hw0).at (i := j4) jo)) (Up.g rfl (by first | rfl | exact decide_eq_true hs48 | (simp [hs48]; done))) rfl rfl ?_
   refine qQ.cl 12 rfl jK (jE2 zcc) (bL _ _ _) (Up.g rfl (by first | rfl | exact decide_eq_true hs48 | (simp [hs48]; done))) rfl rfl ?_
   rintro e _ ⟨rfl, rfl⟩
   refine ⟨_, rfl, hS, ?_⟩
   by_cases hs58 : d3[a]! < d3[j4]!
   ·
    refine jH 13 rfl hS (fun w0 hw0 => Run.pickT rfl rfl (by first | rfl | exact decide_eq_true hs48 | exact decide_eq_true hs58 | (simp [hs48]; done) | (simp [hs58]; done))) ?_
    refine qQ.done jK ?_
    refine jN ⟨(), (js5 rfl rfl rfl rfl (jC (by grind))), ?_⟩
    exact hS
   refine jH 13 rfl hS (fun w0 hw0 => Run.pickT rfl rfl (by first | rfl | exact decide_eq_true hs48 | exact decide_eq_false hs58 | (simp [hs48]; done) | (simp [hs58]; done))) ?_
   refine qQ.done jK ?_
   refine jN ⟨(), (js5 rfl rfl rfl rfl (jC (by grind))), ?_⟩
   exact hS
  refine jH 3 rfl hS (fun w0 hw0 => Run.mv rfl) ?_
  refine qQ.skip 4 rfl jK jK jK hS rfl rfl (by first | rfl | exact decide_eq_false hs48 | (simp [hs48]; done)) rfl rfl ?_
  refine qQ.skip 5 rfl jK jK jK hS rfl rfl (by first | rfl | exact decide_eq_false hs48 | (simp [hs48]; done)) rfl rfl ?_
  refine qQ.skip 6 rfl jK jK jK hS rfl rfl (by first | rfl | exact decide_eq_false hs48 | (simp [hs48]; done)) rfl rfl ?_
  refine qQ.skip 7 rfl jK jK jK hS rfl rfl (by first | rfl | exact decide_eq_false hs48 | (simp [hs48]; done)) rfl rfl ?_
  refine qQ.skip 8 rfl jK jK jK hS rfl rfl (by first | rfl | exact decide_eq_false hs48 | (simp [hs48]; done)) rfl rfl ?_
  refine qQ.skip 9 rfl jK jK jK hS rfl rfl (by first | rfl | exact decide_eq_false hs48 | (simp [hs48]; done)) rfl rfl ?_
  refine qQ.skip 10 rfl jK jK jK hS rfl rfl (by first | rfl | exact decide_eq_false hs48 | (simp [hs48]; done)) rfl rfl ?_
  refine qQ.skip 11 rfl jK jK jK hS rfl rfl (by first | rfl | exact decide_eq_false hs48 | (simp [hs48]; done)) rfl rfl ?_
  refine qQ.skip 12 rfl jK jK jK hS rfl rfl (by first | rfl | exact decide_eq_false hs48 | (simp [hs48]; done)) rfl rfl ?_
  refine jH 13 rfl hS (fun w0 hw0 => Run.pickF rfl rfl (by first | rfl | exact decide_eq_false hs48 | (simp [hs48]; done))) ?_
  refine qQ.done jK ?_
  refine jN ⟨(), (js5 rfl rfl rfl rfl (jC (by grind))), ?_⟩
  exact hS
 rintro _ wz hfz Γ hΓ
 have hA := hA.nil hfz
 have K := K.trans hfz jp
 refine jN (VC.sub _ hΓ ?_)
 refine jD rfl (fun hc2 => ?_) fun hc2 => ?_
 ·
  refine jQ (jN (jv4 0 1 9 10 ?_))
  refine jB (jR (jm rfl (jb rfl rfl (Bin.sub_i64 _ 1 jo jo) (ja rfl (jO ?_)))))
  refine qN (jN ⟨(j4 - 1), (js4 rfl rfl rfl rfl), ?_, ?_⟩)
  · exact ⟨jo, jo, hA, by rw [← he5]; exact (gA jo ⟨hc2.1, by simp [ltN]; exact hc2.2⟩).symm, K⟩
  first | omega | (dsimp only; omega)
 have hJ3 : scanDown (fun x => ltN d3[a]! x) d3 i4 j3 = j4 := by rw [← he5]; exact fT (fun h => hc2 ⟨h.1, by simpa [ltN] using h.2⟩)
 refine jX ?_
 refine qK (qK (qS ?_))
 refine jN (jv4 0 1 9 10 ?_)
 refine jS (jS (jR (jm rfl (jm rfl (jb rfl rfl (Bin.gtrN _ _) (jO (jN (jv5 0 1 9 10 64 ?_))))))))
 refine jD rfl (fun hc3 => ?_) fun hc3 => ?_
 ·
  have hst := tZ hI3 hJ3 hc3
  rw [hst] at he3
  refine jX ?_
  refine qK (fF rfl (qK (qS ?_)))
  refine jN (jv1 9 ?_)
  refine jS (jR (jm rfl (ja rfl (jO (jN (jv1 8 ?_))))))
  refine jT ?_
  refine qF rfl ?_
  rw [← he3]
  exact ⟨rfl, hA, K⟩
 have hst := yI hI3 hJ3 hc3 q5 q8 jo
 refine jQ (jN (jv4 0 1 9 10 ?_))
 refine jS ?_
 refine VC.held (fun _ => True) jK ?_
 refine jH 0 rfl trivial (fun w0 hw0 => Run.mv rfl) ?_
 refine jH 1 rfl trivial (fun w0 hw0 => Run.mv rfl) ?_
 refine jH 2 rfl trivial (fun w0 hw0 => Run.mv rfl) ?_
 refine jH 3 rfl trivial (fun w0 hw0 => Run.mv rfl) ?_
 refine jH 4 rfl trivial (fun w0 hw0 => Run.mv rfl) ?_
 refine jH 5 rfl trivial (fun w0 hw0 => Run.mv rfl) ?_
 refine jH 6 rfl trivial (fun w0 hw0 => Run.index1 _ rfl rfl zd zc jo) ?_
 refine jH 8 rfl trivial (fun w0 hw0 => Run.mv rfl) ?_
 refine jH 9 rfl trivial (fun w0 hw0 => Run.mv rfl) ?_
 refine jH 10 rfl trivial (fun w0 hw0 => Run.index1 _ rfl rfl zd zc jo) ?_
 refine qQ.r2 7 11 rfl rfl jK jK jK jK trivial rfl rfl (Run.load rfl zh ((hA.nil (qV.drew _).frm).at (i := j4) jo)) (Run.load rfl zh ((hA.nil (qV.drew _).frm).at (i := i4) jo)) (Run.load rfl zh ((hA.nil (qV.drew _).frm).at (i := i4) jo)) (Run.load rfl zh ((hA.nil (qV.drew _).frm).at (i := j4) jo)) rfl rfl rfl rfl rfl ?_
 refine jH 12 rfl trivial (fun w0 hw0 => Run.index1 _ rfl rfl zd zc jo) ?_
 refine qQ.st 13 rfl jK (qW.storeOwn (i4) rfl rfl zc (hA.nil (qV.drew _).frm).2 rfl jo rfl) trivial rfl ?_
 rintro w6a ⟨ho_a, hf_a, hs_a⟩
 refine ⟨trivial, ?_⟩
 refine jH 14 rfl trivial (fun w0 hw0 => Run.index1 _ rfl rfl zd zc jo) ?_
 refine qQ.st 15 rfl jK (qW.storeOwn (j4) rfl rfl zc ho_a rfl jo rfl) trivial rfl ?_
 rintro w6 ⟨ho_b, hf_b, hs_b⟩
 have hAs := AO.swp hA.1 ho_b
 have hKs := ((qV.drew _).frm.mono (T := ob (some ad)) jp).trans (hf_a.trans hf_b (fun x hx => .inl hx)) (fun x hx => .inl hx)
 refine ⟨trivial, ?_⟩
 refine qQ.done jK ?_
 refine jN (jv4 0 1 9 10 ?_)
 refine jS (jR (jm rfl (jb rfl rfl (Bin.add_i64 _ 1 jo) (ja rfl (jO (jN (jv4 0 1 9 10 ?_)))))))
 refine jR (jm rfl (jb rfl rfl (Bin.sub_i64 _ 1 jo jo) (ja rfl (jO ?_))))
 refine qN (jN ⟨(i4 + 1, j4 - 1, swp d3 i4 j4), (js4 rfl rfl rfl rfl), ?_, ?_⟩)
 · exact ⟨by dsimp only; omega, by dsimp only; omega, by dsimp only; omega, by dsimp only; omega, hAs, by rw [← he3, hst], K.trans hKs (fun x hx => .inl hx)⟩
 first | omega | (dsimp only; omega)
end
section
open Go.RowKit Go.Sort
theorem pR {b i : Nat} {d : Array Nat} (h : i < b ∧ ¬ d[i]! < d[i - 1]!) : scanSorted ltN d b i = scanSorted ltN d b (i + 1) := by
 conv => lhs; unfold scanSorted
 rw [if_pos (by simp [ltN]; omega)]
theorem oK {b i : Nat} {d : Array Nat} (h : ¬ (i < b ∧ ¬ d[i]! < d[i - 1]!)) : scanSorted ltN d b i = i := by
 unfold scanSorted
 rw [if_neg (by simp [ltN]; omega)]
theorem rI {j : Nat} {d : Array Nat} (h0 : 0 < j) (h : d[j]! < d[j - 1]!) : shiftDown ltN j d = shiftDown ltN (j - 1) (swp d j (j - 1)) := by
 obtain ⟨k, rfl⟩ : ∃ k, j = k + 1 := ⟨j - 1, jo⟩
 rw [shiftDown, if_neg (by simp [ltN] at *; omega)]
 rfl
theorem oB {j : Nat} {d : Array Nat} (h : ¬ d[j]! < d[j - 1]!) : shiftDown ltN j d = d := by
 cases j with
 | zero => rfl
 | succ k => rw [shiftDown, if_pos (by simp [ltN] at *; omega)]
theorem wK {b j : Nat} {d : Array Nat} (h0 : j < b) (h : d[j]! < d[j - 1]!) : shiftUp ltN b j d = shiftUp ltN b (j + 1) (swp d j (j - 1)) := by
 conv => lhs; unfold shiftUp
 rw [if_pos h0, if_neg (by simp [ltN]; omega)]
theorem lA {b j : Nat} {d : Array Nat} (h : ¬ (j < b ∧ d[j]! < d[j - 1]!)) : shiftUp ltN b j d = d := by
 unfold shiftUp
 split
 ·
  rename_i h1
  rw [if_pos (by simp [ltN]; omega)]
 rfl
theorem yO {a b s i : Nat} {d : Array Nat} (h : scanSorted ltN d b i = b) : partialIns ltN a b (s + 1) i d = (d, true) := by
 rw [partialIns]
 dsimp only
 rw [h, if_pos rfl]
theorem wV {a b s i i2 : Nat} {d : Array Nat} (h : scanSorted ltN d b i = i2) (h2 : i2 ≠ b) (h3 : b - a < 50) : partialIns ltN a b (s + 1) i d = (d, false) := by
 rw [partialIns]
 dsimp only
 rw [h, if_neg h2, if_pos h3]
theorem qX7 {a b s i i2 : Nat} {d d2 d3 : Array Nat} (h : scanSorted ltN d b i = i2) (h2 : i2 ≠ b) (h3 : ¬ b - a < 50) (e2 : d2 = if 2 ≤ i2 - a then shiftDown ltN (i2 - 1) (swp d i2 (i2 - 1)) else swp d i2 (i2 - 1)) (e3 : d3 = if 2 ≤ b - i2 then shiftUp ltN b (i2 + 1) d2 else d2) : partialIns ltN a b (s + 1) i d = partialIns ltN a b s i2 d3 := by
 conv => lhs; rw [partialIns]
 dsimp only
 rw [h, if_neg h2, if_neg h3, e3, e2]
set_option maxHeartbeats 1000000 in
theorem wW (B : Option Addr) (c N : Nat) (d : Array Nat) (w : World) (h : AO w B c N d) (hN : N ≤ 1000000) (a b : Nat) (ha : a < b) (hb : b ≤ N) :
  Calls Tryz.prog 146 #[.slice B N c, .int .i64 ((a : Nat) : Int), .int .i64 ((b : Nat) : Int)] w fun e w' => e = .returned (.bool (partialInsertionSort ltN d a b).2) ∧ AO w' B c N (partialInsertionSort ltN d a b).1 ∧ Frm (ob B) w w' := by
 obtain ⟨ad, rfl⟩ := h.adr jo
 have hA := h
 refine VC.calls (nt := 133) (res := #[.tmp 6]) Tryz.func146 rfl Tryz.ntmps146 Tryz.results146 rfl ?_
 refine jS (jR (ja rfl (jO (jN (jv3 0 1 2 ?_)))))
 refine jS (jR (jm rfl (jb rfl rfl (Bin.add_i64 _ 1 jo) (ja rfl (jO (jN (jv4 0 1 2 7 ?_)))))))
 refine jS (jS (jR (jz 0 (jO (jN (jB ?_))))))
 refine VC.loop (σ := Nat × Nat × Array Nat) (fun s => [(0, .slice (some ad) N c), (1, .int .i64 ((a : Nat) : Int)), (2, .int .i64 ((b : Nat) : Int)), (7, .int .i64 ((s.2.1 : Nat) : Int)), (8, .int .i64 ((s.1 : Nat) : Int))]) (fun s wr => s.1 ≤ 5 ∧ a + 1 ≤ s.2.1 ∧ s.2.1 ≤ b ∧ AO wr (some ad) c N s.2.2 ∧ partialIns ltN a b (5 - s.1) s.2.1 s.2.2 = partialInsertionSort ltN d a b ∧ Frm (ob (some ad)) w wr) (fun s => 5 - s.1) (0, a + 1, d) (js5 rfl rfl rfl rfl rfl) ⟨by dsimp only; omega, by dsimp only; omega, by dsimp only; omega, hA, rfl, Frm.refl _ _⟩ ?_
 rintro ⟨n, i, di⟩ wr ⟨q1, q2, q3, hA, he, K⟩
 dsimp only at *
 refine jS (jS (jR (jm rfl (jb rfl rfl (Bin.lssN _ 5) (jO (jN (jv6 0 1 2 7 8 14 ?_)))))))
 refine jD rfl (fun hc1 => ?_) fun hc1 => ?_
 ·
  obtain ⟨s, hs⟩ : ∃ s, 5 - n = s + 1 := ⟨5 - n - 1, jo⟩
  rw [hs] at he
  have hs2 : 5 - (n + 1) = s := jo
  refine jQ (jN (jv5 0 1 2 7 8 ?_))
  refine jS (jB (jS (jB ?_)))
  refine VC.loop (σ := Nat) (fun s => [(0, .slice (some ad) N c), (1, .int .i64 ((a : Nat) : Int)), (2, .int .i64 ((b : Nat) : Int)), (7, .int .i64 ((s : Nat) : Int)), (8, .int .i64 ((n : Nat) : Int))]) (fun s wr => i ≤ s ∧ s ≤ b ∧ AO wr (some ad) c N di ∧ scanSorted ltN di b s = scanSorted ltN di b i ∧ Frm (ob (some ad)) w wr) (fun s => b - s) i (js5 rfl rfl rfl rfl rfl) ⟨zv _, q3, hA, rfl, K⟩ ?_
  rintro k wr ⟨q4, q5, hA, he2, K⟩
  refine jS (jS ?_)
  refine VC.meet (σ := Unit) (fun s => [(0, .slice (some ad) N c), (1, .int .i64 ((a : Nat) : Int)), (2, .int .i64 ((b : Nat) : Int)), (7, .int .i64 ((k : Nat) : Int)), (8, .int .i64 ((n : Nat) : Int)), (32, .bool (decide (k < b ∧ ¬ di[k]! < di[k - 1]!)))]) (fun s wz => Frm [] wr wz) ?_ ?_
  ·
   refine VC.held (fun W => Frm [] wr W) jK ?_
   have hS : Frm [] wr wr.drew := (Frm.refl _ _).drew
   refine jH 0 rfl hS (fun w0 hw0 => Run.mv rfl) ?_
   refine jH 1 rfl hS (fun w0 hw0 => Run.mv rfl) ?_
   refine jH 2 rfl hS (fun w0 hw0 => Run.bin rfl rfl (Bin.lssN _ _)) ?_
   by_cases hs19 : k < b
   ·
    refine jH 3 rfl hS (fun w0 hw0 => Run.mv rfl) ?_
    refine qQ.take 4 rfl jK jK jK hS (fun w0 hw0 => Run.mv rfl) (Up.g rfl (by first | rfl | exact decide_eq_true hs19 | (simp [hs19]; done))) rfl rfl ?_
    refine qQ.take 5 rfl jK jK jK hS (fun w0 hw0 => Run.mv rfl) (Up.g rfl (by first | rfl | exact decide_eq_true hs19 | (simp [hs19]; done))) rfl rfl ?_
    refine qQ.take 6 rfl jK jK jK hS (fun w0 hw0 => Run.index1 _ rfl rfl zd zc jo) (Up.g rfl (by first | rfl | exact decide_eq_true hs19 | (simp [hs19]; done))) rfl rfl ?_
    refine qQ.take 7 rfl jK jK jK hS (fun w0 hw0 => Run.load rfl zh ((hA.nil hw0).at (i := k) jo)) (Up.g rfl (by first | rfl | exact decide_eq_true hs19 | (simp [hs19]; done))) rfl rfl ?_
    refine qQ.take 8 rfl jK jK jK hS (fun w0 hw0 => Run.mv rfl) (Up.g rfl (by first | rfl | exact decide_eq_true hs19 | (simp [hs19]; done))) rfl rfl ?_
    refine qQ.take 9 rfl jK jK jK hS (fun w0 hw0 => Run.mv rfl) (Up.g rfl (by first | rfl | exact decide_eq_true hs19 | (simp [hs19]; done))) rfl rfl ?_
    refine qQ.take 10 rfl jK jK jK hS (fun w0 hw0 => Run.bin rfl rfl (Bin.sub_i64 _ 1 jo jo)) (Up.g rfl (by first | rfl | exact decide_eq_true hs19 | (simp [hs19]; done))) rfl rfl ?_
    refine qQ.take 11 rfl jK jK jK hS (fun w0 hw0 => Run.index1 _ rfl rfl zd zc jo) (Up.g rfl (by first | rfl | exact decide_eq_true hs19 | (simp [hs19]; done))) rfl rfl ?_
    refine qQ.take 12 rfl jK jK jK hS (fun w0 hw0 => Run.load rfl zh ((hA.nil hw0).at (i := k - 1) jo)) (Up.g rfl (by first | rfl | exact decide_eq_true hs19 | (simp [hs19]; done))) rfl rfl ?_
    refine qQ.cl 13 rfl jK (jE2 zcc) (bL _ _ _) (Up.g rfl (by first | rfl | exact decide_eq_true hs19 | (simp [hs19]; done))) rfl rfl ?_
    rintro e _ ⟨rfl, rfl⟩
    refine ⟨_, rfl, hS, ?_⟩
    by_cases hs30 : di[k]! < di[k - 1]!
    ·
     refine qQ.take 14 rfl jK jK jK hS (fun w0 hw0 => Run.not rfl) (Up.g rfl (by first | rfl | exact decide_eq_true hs19 | exact decide_eq_true hs30 | (simp [hs19]; done) | (simp [hs30]; done))) rfl rfl ?_
     refine jH 15 rfl hS (fun w0 hw0 => Run.pickT rfl rfl (by first | rfl | exact decide_eq_true hs19 | exact decide_eq_true hs30 | (simp [hs19]; done) | (simp [hs30]; done))) ?_
     refine qQ.done jK ?_
     refine jN ⟨(), (js6 rfl rfl rfl rfl rfl (jC (by grind))), ?_⟩
     exact hS
    refine qQ.take 14 rfl jK jK jK hS (fun w0 hw0 => Run.not rfl) (Up.g rfl (by first | rfl | exact decide_eq_true hs19 | exact decide_eq_false hs30 | (simp [hs19]; done) | (simp [hs30]; done))) rfl rfl ?_
    refine jH 15 rfl hS (fun w0 hw0 => Run.pickT rfl rfl (by first | rfl | exact decide_eq_true hs19 | exact decide_eq_false hs30 | (simp [hs19]; done) | (simp [hs30]; done))) ?_
    refine qQ.done jK ?_
    refine jN ⟨(), (js6 rfl rfl rfl rfl rfl (jC (by grind))), ?_⟩
    exact hS
   refine jH 3 rfl hS (fun w0 hw0 => Run.mv rfl) ?_
   refine qQ.skip 4 rfl jK jK jK hS rfl rfl (by first | rfl | exact decide_eq_false hs19 | (simp [hs19]; done)) rfl rfl ?_
   refine qQ.skip 5 rfl jK jK jK hS rfl rfl (by first | rfl | exact decide_eq_false hs19 | (simp [hs19]; done)) rfl rfl ?_
   refine qQ.skip 6 rfl jK jK jK hS rfl rfl (by first | rfl | exact decide_eq_false hs19 | (simp [hs19]; done)) rfl rfl ?_
   refine qQ.skip 7 rfl jK jK jK hS rfl rfl (by first | rfl | exact decide_eq_false hs19 | (simp [hs19]; done)) rfl rfl ?_
   refine qQ.skip 8 rfl jK jK jK hS rfl rfl (by first | rfl | exact decide_eq_false hs19 | (simp [hs19]; done)) rfl rfl ?_
   refine qQ.skip 9 rfl jK jK jK hS rfl rfl (by first | rfl | exact decide_eq_false hs19 | (simp [hs19]; done)) rfl rfl ?_
   refine qQ.skip 10 rfl jK jK jK hS rfl rfl (by first | rfl | exact decide_eq_false hs19 | (simp [hs19]; done)) rfl rfl ?_
   refine qQ.skip 11 rfl jK jK jK hS rfl rfl (by first | rfl | exact decide_eq_false hs19 | (simp [hs19]; done)) rfl rfl ?_
   refine qQ.skip 12 rfl jK jK jK hS rfl rfl (by first | rfl | exact decide_eq_false hs19 | (simp [hs19]; done)) rfl rfl ?_
   refine qQ.skip 13 rfl jK jK jK hS rfl rfl (by first | rfl | exact decide_eq_false hs19 | (simp [hs19]; done)) rfl rfl ?_
   refine qQ.skip 14 rfl jK jK jK hS rfl rfl (by first | rfl | exact decide_eq_false hs19 | (simp [hs19]; done)) rfl rfl ?_
   refine jH 15 rfl hS (fun w0 hw0 => Run.pickF rfl rfl (by first | rfl | exact decide_eq_false hs19 | (simp [hs19]; done))) ?_
   refine qQ.done jK ?_
   refine jN ⟨(), (js6 rfl rfl rfl rfl rfl (jC (by grind))), ?_⟩
   exact hS
  rintro _ wz hfz Γ hΓ
  have hA := hA.nil hfz
  have K := K.trans hfz jp
  refine jN (VC.sub _ hΓ ?_)
  refine jD rfl (fun hc2 => ?_) fun hc2 => ?_
  ·
   refine jQ (jN (jv5 0 1 2 7 8 ?_))
   refine jB (jR (jm rfl (jb rfl rfl (Bin.add_i64 _ 1 jo) (ja rfl (jO ?_)))))
   refine qN (jN ⟨(k + 1), (js5 rfl rfl rfl rfl rfl), ?_, ?_⟩)
   · exact ⟨jo, jo, hA, by rw [← he2]; exact (pR hc2).symm, K⟩
   first | omega | (dsimp only; omega)
  have hI : scanSorted ltN di b i = k := by rw [← he2]; exact oK hc2
  refine jX ?_
  refine qK (qK (qS ?_))
  refine jN (jv5 0 1 2 7 8 ?_)
  refine jS (jS (jR (jm rfl (jm rfl (jb rfl rfl (Bin.eqlN _ _) (jO (jN (jv6 0 1 2 7 8 37 ?_))))))))
  refine jD rfl (fun hc3 => ?_) fun hc3 => ?_
  ·
   have hF := yO (a := a) (s := s) (hI.trans hc3)
   rw [hF] at he
   rw [← he]
   refine jS (jR (ja rfl (jO (jN (jv1 6 ?_)))))
   refine jT ?_
   refine qZ (qP (qZ (qZ (qP (qZ (qF rfl ?_))))))
   exact ⟨rfl, hA, K⟩
  refine jQ (jN (jv5 0 1 2 7 8 ?_))
  refine jS (jS (jR (jm rfl (jm rfl (jb rfl rfl (Bin.sub_i64 _ _ jo jo) (jb rfl rfl (Bin.lssN _ 50) (jO (jN (jv6 0 1 2 7 8 41 ?_)))))))))
  refine jD rfl (fun hc4 => ?_) fun hc4 => ?_
  ·
   have hF := wV (a := a) (s := s) hI hc3 hc4
   rw [hF] at he
   rw [← he]
   refine jS (jR (ja rfl (jO (jN (jv1 6 ?_)))))
   refine jT ?_
   refine qZ (qP (qZ (qZ (qP (qZ (qF rfl ?_))))))
   exact ⟨rfl, hA, K⟩
  refine jQ (jN (jv5 0 1 2 7 8 ?_))
  refine jS ?_
  refine VC.held (fun _ => True) jK ?_
  refine jH 0 rfl trivial (fun w0 hw0 => Run.mv rfl) ?_
  refine jH 1 rfl trivial (fun w0 hw0 => Run.mv rfl) ?_
  refine jH 2 rfl trivial (fun w0 hw0 => Run.mv rfl) ?_
  refine jH 3 rfl trivial (fun w0 hw0 => Run.mv rfl) ?_
  refine jH 4 rfl trivial (fun w0 hw0 => Run.bin rfl rfl (Bin.sub_i64 _ 1 jo jo)) ?_
  refine jH 5 rfl trivial (fun w0 hw0 => Run.mv rfl) ?_
  refine jH 6 rfl trivial (fun w0 hw0 => Run.mv rfl) ?_
  refine jH 7 rfl trivial (fun w0 hw0 => Run.bin rfl rfl (Bin.sub_i64 _ 1 jo jo)) ?_
  refine jH 8 rfl trivial (fun w0 hw0 => Run.index1 _ rfl rfl zd zc jo) ?_
  refine jH 10 rfl trivial (fun w0 hw0 => Run.mv rfl) ?_
  refine jH 11 rfl trivial (fun w0 hw0 => Run.mv rfl) ?_
  refine jH 12 rfl trivial (fun w0 hw0 => Run.index1 _ rfl rfl zd zc jo) ?_
  refine qQ.r2 9 13 rfl rfl jK jK jK jK trivial rfl rfl (Run.load rfl zh ((hA.nil (qV.drew _).frm).at (i := k - 1) jo)) (Run.load rfl zh ((hA.nil (qV.drew _).frm).at (i := k) jo)) (Run.load rfl zh ((hA.nil (qV.drew _).frm).at (i := k) jo)) (Run.load rfl zh ((hA.nil (qV.drew _).frm).at (i := k - 1) jo)) rfl rfl rfl rfl rfl ?_
  refine jH 14 rfl trivial (fun w0 hw0 => Run.index1 _ rfl rfl zd zc jo) ?_
  refine qQ.st 15 rfl jK (qW.storeOwn (k) rfl rfl zc (hA.nil (qV.drew _).frm).2 rfl jo rfl) trivial rfl ?_
  rintro w1a ⟨ho_a, hf_a, hs_a⟩
  refine ⟨trivial, ?_⟩
  refine jH 16 rfl trivial (fun w0 hw0 => Run.index1 _ rfl rfl zd zc jo) ?_
  refine qQ.st 17 rfl jK (qW.storeOwn (k - 1) rfl rfl zc ho_a rfl jo rfl) trivial rfl ?_
  rintro w1 ⟨ho_b, hf_b, hs_b⟩
  have hAs := AO.swp hA.1 ho_b
  have hKs := ((qV.drew _).frm.mono (T := ob (some ad)) jp).trans (hf_a.trans hf_b (fun x hx => .inl hx)) (fun x hx => .inl hx)
  refine ⟨trivial, ?_⟩
  refine qQ.done jK ?_
  refine jN (jv5 0 1 2 7 8 ?_)
  refine jS (jS (jR (jm rfl (jm rfl (jb rfl rfl (Bin.sub_i64 _ _ jo jo) (jb rfl rfl (Bin.geqN _ 2) (jO (jN (jv6 0 1 2 7 8 61 ?_)))))))))
  refine VC.meet (σ := Array Nat) (fun s => [(0, .slice (some ad) N c), (1, .int .i64 ((a : Nat) : Int)), (2, .int .i64 ((b : Nat) : Int)), (7, .int .i64 ((k : Nat) : Int)), (8, .int .i64 ((n : Nat) : Int))]) (fun s wm => s = (if 2 ≤ k - a then shiftDown ltN (k - 1) (swp di k (k - 1)) else swp di k (k - 1)) ∧ AO wm (some ad) c N s ∧ Frm (ob (some ad)) w wm) ?_ ?_
  ·
   refine jD rfl (fun hc5 => ?_) fun hc5 => ?_
   ·
    refine jS (jR (jm rfl (jb rfl rfl (Bin.sub_i64 _ 1 jo jo) (ja rfl (jO (jN (jv6 0 1 2 7 8 9 ?_)))))))
    refine jB ?_
    have hA := hAs
    have K := K.trans hKs (fun x hx => .inl hx)
    refine VC.loop (σ := Nat × Array Nat) (fun s => [(0, .slice (some ad) N c), (1, .int .i64 ((a : Nat) : Int)), (2, .int .i64 ((b : Nat) : Int)), (7, .int .i64 ((k : Nat) : Int)), (8, .int .i64 ((n : Nat) : Int)), (9, .int .i64 ((s.1 : Nat) : Int))]) (fun s wr => s.1 ≤ k - 1 ∧ AO wr (some ad) c N s.2 ∧ shiftDown ltN s.1 s.2 = shiftDown ltN (k - 1) (swp di k (k - 1)) ∧ Frm (ob (some ad)) w wr) (fun s => s.1) (k - 1, swp di k (k - 1)) (js6 rfl rfl rfl rfl rfl rfl) ⟨zv _, hA, rfl, K⟩ ?_
    rintro ⟨j, dj⟩ wr ⟨q6, hA, he3, K⟩
    dsimp only at *
    refine jS (jS (jR (jm rfl (jb rfl rfl (Bin.geqN _ 1) (jO (jN (jv7 0 1 2 7 8 9 65 ?_)))))))
    refine jD rfl (fun hc6 => ?_) fun hc6 => ?_
    ·
     refine jQ (jN (jv6 0 1 2 7 8 9 ?_))
     refine jS (jB (jS (jS ?_)))
     refine VC.held (fun W => Frm [] wr W) jK ?_
     have hS : Frm [] wr wr.drew := (Frm.refl _ _).drew
     refine jH 0 rfl hS (fun w0 hw0 => Run.mv rfl) ?_
     refine jH 1 rfl hS (fun w0 hw0 => Run.mv rfl) ?_
     refine jH 2 rfl hS (fun w0 hw0 => Run.index1 _ rfl rfl zd zc jo) ?_
     refine jH 3 rfl hS (fun w0 hw0 => Run.load rfl zh ((hA.nil hw0).at (i := j) jo)) ?_
     refine jH 4 rfl hS (fun w0 hw0 => Run.mv rfl) ?_
     refine jH 5 rfl hS (fun w0 hw0 => Run.mv rfl) ?_
     refine jH 6 rfl hS (fun w0 hw0 => Run.bin rfl rfl (Bin.sub_i64 _ 1 jo jo)) ?_
     refine jH 7 rfl hS (fun w0 hw0 => Run.index1 _ rfl rfl zd zc jo) ?_
     refine jH 8 rfl hS (fun w0 hw0 => Run.load rfl zh ((hA.nil hw0).at (i := j - 1) jo)) ?_
     refine qQ.cl 9 rfl jK (jE2 zcc) (bL _ _ _) trivial rfl rfl ?_
     rintro e _ ⟨rfl, rfl⟩
     refine ⟨_, rfl, hS, ?_⟩
     refine jH 10 rfl hS (fun w0 hw0 => Run.not rfl) ?_
     refine qQ.done jK ?_
     refine jN (jv7 0 1 2 7 8 9 78 ?_)
     refine VC.condB rfl (fun hc7 => ?_) (fun hc7 => ?_)
     ·
      have hc7 : ¬ dj[j]! < dj[j - 1]! := by simpa using hc7
      have hA := hA.nil hS
      have K := K.trans hS jp
      refine jX ?_
      refine qK (fF rfl (qK (qK (qS ?_))))
      refine jN ⟨dj, (js5 rfl rfl rfl rfl rfl), ?_⟩
      exact ⟨by rw [if_pos hc5, ← he3, oB hc7], hA, K⟩
     have hc7 : dj[j]! < dj[j - 1]! := by simpa using hc7
     have hA := hA.nil hS
     have K := K.trans hS jp
     refine jQ (jN (jv6 0 1 2 7 8 9 ?_))
     refine VC.held (fun _ => True) jK ?_
     refine jH 0 rfl trivial (fun w0 hw0 => Run.mv rfl) ?_
     refine jH 1 rfl trivial (fun w0 hw0 => Run.mv rfl) ?_
     refine jH 2 rfl trivial (fun w0 hw0 => Run.mv rfl) ?_
     refine jH 3 rfl trivial (fun w0 hw0 => Run.mv rfl) ?_
     refine jH 4 rfl trivial (fun w0 hw0 => Run.bin rfl rfl (Bin.sub_i64 _ 1 jo jo)) ?_
     refine jH 5 rfl trivial (fun w0 hw0 => Run.mv rfl) ?_
     refine jH 6 rfl trivial (fun w0 hw0 => Run.mv rfl) ?_
     refine jH 7 rfl trivial (fun w0 hw0 => Run.bin rfl rfl (Bin.sub_i64 _ 1 jo jo)) ?_
     refine jH 8 rfl trivial (fun w0 hw0 => Run.index1 _ rfl rfl zd zc jo) ?_
     refine jH 10 rfl trivial (fun w0 hw0 => Run.mv rfl) ?_
     refine jH 11 rfl trivial (fun w0 hw0 => Run.mv rfl) ?_
     refine jH 12 rfl trivial (fun w0 hw0 => Run.index1 _ rfl rfl zd zc jo) ?_
     refine qQ.r2 9 13 rfl rfl jK jK jK jK trivial rfl rfl (Run.load rfl zh ((hA.nil (qV.drew _).frm).at (i := j - 1) jo)) (Run.load rfl zh ((hA.nil (qV.drew _).frm).at (i := j) jo)) (Run.load rfl zh ((hA.nil (qV.drew _).frm).at (i := j) jo)) (Run.load rfl zh ((hA.nil (qV.drew _).frm).at (i := j - 1) jo)) rfl rfl rfl rfl rfl ?_
     refine jH 14 rfl trivial (fun w0 hw0 => Run.index1 _ rfl rfl zd zc jo) ?_
     refine qQ.st 15 rfl jK (qW.storeOwn (j) rfl rfl zc (hA.nil (qV.drew _).frm).2 rfl jo rfl) trivial rfl ?_
     rintro w2a ⟨ho_a, hf_a, hs_a⟩
     refine ⟨trivial, ?_⟩
     refine jH 16 rfl trivial (fun w0 hw0 => Run.index1 _ rfl rfl zd zc jo) ?_
     refine qQ.st 17 rfl jK (qW.storeOwn (j - 1) rfl rfl zc ho_a rfl jo rfl) trivial rfl ?_
     rintro w2 ⟨ho_b, hf_b, hs_b⟩
     have hAs := AO.swp hA.1 ho_b
     have hKs := ((qV.drew _).frm.mono (T := ob (some ad)) jp).trans (hf_a.trans hf_b (fun x hx => .inl hx)) (fun x hx => .inl hx)
     refine ⟨trivial, ?_⟩
     refine qQ.done jK ?_
     refine qN (jN ?_)
     refine jv6 0 1 2 7 8 9 ?_
     refine jR (jm rfl (jb rfl rfl (Bin.sub_i64 _ 1 jo jo) (ja rfl (jO ?_))))
     refine jN ⟨(j - 1, swp dj j (j - 1)), (js6 rfl rfl rfl rfl rfl rfl), ?_, ?_⟩
     · exact ⟨by dsimp only; omega, hAs, by rw [← he3, rI jo hc7], K.trans hKs (fun x hx => .inl hx)⟩
     first | omega | (dsimp only; omega)
    refine jX ?_
    refine qK (qK (qS ?_))
    refine jN ⟨dj, (js5 rfl rfl rfl rfl rfl), ?_⟩
    exact ⟨by rw [if_pos hc5, ← he3, show j = 0 by omega]; rfl, hA, K⟩
   refine jQ ?_
   refine jN ⟨(swp di k (k - 1)), (js5 rfl rfl rfl rfl rfl), ?_⟩
   exact ⟨by rw [if_neg hc5], hAs, K.trans hKs (fun x hx => .inl hx)⟩
  rintro d2 wm ⟨e2, hA, K⟩ Γ hΓ
  refine jN (VC.sub _ hΓ (jS (jR (jm rfl (jm rfl (jb rfl rfl (Bin.sub_i64 _ _ jo jo) (jb rfl rfl (Bin.geqN _ 2) (jO (jN (jv6 0 1 2 7 8 98 ?_))))))))))
  refine VC.meet (σ := Array Nat) (fun s => [(0, .slice (some ad) N c), (1, .int .i64 ((a : Nat) : Int)), (2, .int .i64 ((b : Nat) : Int)), (7, .int .i64 ((k : Nat) : Int)), (8, .int .i64 ((n : Nat) : Int))]) (fun s wm2 => s = (if 2 ≤ b - k then shiftUp ltN b (k + 1) d2 else d2) ∧ AO wm2 (some ad) c N s ∧ Frm (ob (some ad)) w wm2) ?_ ?_
  ·
   refine jD rfl (fun hc8 => ?_) fun hc8 => ?_
   ·
    refine jS (jR (jm rfl (jb rfl rfl (Bin.add_i64 _ 1 jo) (ja rfl (jO (jN (jv6 0 1 2 7 8 10 ?_)))))))
    refine jB ?_
    refine VC.loop (σ := Nat × Array Nat) (fun s => [(0, .slice (some ad) N c), (1, .int .i64 ((a : Nat) : Int)), (2, .int .i64 ((b : Nat) : Int)), (7, .int .i64 ((k : Nat) : Int)), (8, .int .i64 ((n : Nat) : Int)), (10, .int .i64 ((s.1 : Nat) : Int))]) (fun s wr => k + 1 ≤ s.1 ∧ s.1 ≤ b ∧ AO wr (some ad) c N s.2 ∧ shiftUp ltN b s.1 s.2 = shiftUp ltN b (k + 1) d2 ∧ Frm (ob (some ad)) w wr) (fun s => b - s.1) (k + 1, d2) (js6 rfl rfl rfl rfl rfl rfl) ⟨zv _, by dsimp only; omega, hA, rfl, K⟩ ?_
    rintro ⟨j, dj⟩ wr ⟨q6, q7, hA, he3, K⟩
    dsimp only at *
    refine jS (jS (jR (jm rfl (jm rfl (jb rfl rfl (Bin.lssN _ _) (jO (jN (jv7 0 1 2 7 8 10 103 ?_))))))))
    refine jD rfl (fun hc9 => ?_) fun hc9 => ?_
    ·
     refine jQ (jN (jv6 0 1 2 7 8 10 ?_))
     refine jS (jB (jS (jS ?_)))
     refine VC.held (fun W => Frm [] wr W) jK ?_
     have hS : Frm [] wr wr.drew := (Frm.refl _ _).drew
     refine jH 0 rfl hS (fun w0 hw0 => Run.mv rfl) ?_
     refine jH 1 rfl hS (fun w0 hw0 => Run.mv rfl) ?_
     refine jH 2 rfl hS (fun w0 hw0 => Run.index1 _ rfl rfl zd zc jo) ?_
     refine jH 3 rfl hS (fun w0 hw0 => Run.load rfl zh ((hA.nil hw0).at (i := j) jo)) ?_
     refine jH 4 rfl hS (fun w0 hw0 => Run.mv rfl) ?_
     refine jH 5 rfl hS (fun w0 hw0 => Run.mv rfl) ?_
     refine jH 6 rfl hS (fun w0 hw0 => Run.bin rfl rfl (Bin.sub_i64 _ 1 jo jo)) ?_
     refine jH 7 rfl hS (fun w0 hw0 => Run.index1 _ rfl rfl zd zc jo) ?_
     refine jH 8 rfl hS (fun w0 hw0 => Run.load rfl zh ((hA.nil hw0).at (i := j - 1) jo)) ?_
     refine qQ.cl 9 rfl jK (jE2 zcc) (bL _ _ _) trivial rfl rfl ?_
     rintro e _ ⟨rfl, rfl⟩
     refine ⟨_, rfl, hS, ?_⟩
     refine jH 10 rfl hS (fun w0 hw0 => Run.not rfl) ?_
     refine qQ.done jK ?_
     refine jN (jv7 0 1 2 7 8 10 116 ?_)
     refine VC.condB rfl (fun hc10 => ?_) (fun hc10 => ?_)
     ·
      have hc10 : ¬ dj[j]! < dj[j - 1]! := by simpa using hc10
      have hA := hA.nil hS
      have K := K.trans hS jp
      refine jX ?_
      refine qK (fF rfl (qK (qK (qS ?_))))
      refine jN ⟨dj, (js5 rfl rfl rfl rfl rfl), ?_⟩
      exact ⟨by rw [if_pos hc8, ← he3, lA (fun h => hc10 h.2)], hA, K⟩
     have hc10 : dj[j]! < dj[j - 1]! := by simpa using hc10
     have hA := hA.nil hS
     have K := K.trans hS jp
     refine jQ (jN (jv6 0 1 2 7 8 10 ?_))
     refine VC.held (fun _ => True) jK ?_
     refine jH 0 rfl trivial (fun w0 hw0 => Run.mv rfl) ?_
     refine jH 1 rfl trivial (fun w0 hw0 => Run.mv rfl) ?_
     refine jH 2 rfl trivial (fun w0 hw0 => Run.mv rfl) ?_
     refine jH 3 rfl trivial (fun w0 hw0 => Run.mv rfl) ?_
     refine jH 4 rfl trivial (fun w0 hw0 => Run.bin rfl rfl (Bin.sub_i64 _ 1 jo jo)) ?_
     refine jH 5 rfl trivial (fun w0 hw0 => Run.mv rfl) ?_
     refine jH 6 rfl trivial (fun w0 hw0 => Run.mv rfl) ?_
     refine jH 7 rfl trivial (fun w0 hw0 => Run.bin rfl rfl (Bin.sub_i64 _ 1 jo jo)) ?_
     refine jH 8 rfl trivial (fun w0 hw0 => Run.index1 _ rfl rfl zd zc jo) ?_
     refine jH 10 rfl trivial (fun w0 hw0 => Run.mv rfl) ?_
     refine jH 11 rfl trivial (fun w0 hw0 => Run.mv rfl) ?_
     refine jH 12 rfl trivial (fun w0 hw0 => Run.index1 _ rfl rfl zd zc jo) ?_
     refine qQ.r2 9 13 rfl rfl jK jK jK jK trivial rfl rfl (Run.load rfl zh ((hA.nil (qV.drew _).frm).at (i := j - 1) jo)) (Run.load rfl zh ((hA.nil (qV.drew _).frm).at (i := j) jo)) (Run.load rfl zh ((hA.nil (qV.drew _).frm).at (i := j) jo)) (Run.load rfl zh ((hA.nil (qV.drew _).frm).at (i := j - 1) jo)) rfl rfl rfl rfl rfl ?_
     refine jH 14 rfl trivial (fun w0 hw0 => Run.index1 _ rfl rfl zd zc jo) ?_
     refine qQ.st 15 rfl jK (qW.storeOwn (j) rfl rfl zc (hA.nil (qV.drew _).frm).2 rfl jo rfl) trivial rfl ?_
     rintro w3a ⟨ho_a, hf_a, hs_a⟩
     refine ⟨trivial, ?_⟩
     refine jH 16 rfl trivial (fun w0 hw0 => Run.index1 _ rfl rfl zd zc jo) ?_
     refine qQ.st 17 rfl jK (qW.storeOwn (j - 1) rfl rfl zc ho_a rfl jo rfl) trivial rfl ?_
     rintro w3 ⟨ho_b, hf_b, hs_b⟩
     have hAs := AO.swp hA.1 ho_b
     have hKs := ((qV.drew _).frm.mono (T := ob (some ad)) jp).trans (hf_a.trans hf_b (fun x hx => .inl hx)) (fun x hx => .inl hx)
     refine ⟨trivial, ?_⟩
     refine qQ.done jK ?_
     refine qN (jN ?_)
     refine jv6 0 1 2 7 8 10 ?_
     refine jR (jm rfl (jb rfl rfl (Bin.add_i64 _ 1 jo) (ja rfl (jO ?_))))
     refine jN ⟨(j + 1, swp dj j (j - 1)), (js6 rfl rfl rfl rfl rfl rfl), ?_, ?_⟩
     · exact ⟨by dsimp only; omega, by dsimp only; omega, hAs, by rw [← he3, wK hc9 hc10], K.trans hKs (fun x hx => .inl hx)⟩
     first | omega | (dsimp only; omega)
    refine jX ?_
    refine qK (qK (qS ?_))
    refine jN ⟨dj, (js5 rfl rfl rfl rfl rfl), ?_⟩
    exact ⟨by rw [if_pos hc8, ← he3, lA (fun h => hc9 h.1)], hA, K⟩
   refine jQ ?_
   refine jN ⟨d2, (js5 rfl rfl rfl rfl rfl), ?_⟩
   exact ⟨by rw [if_neg hc8], hA, K⟩
  rintro d3 wm2 ⟨e3, hA, K⟩ Γ hΓ
  refine qN (jN (VC.sub _ hΓ ?_))
  refine jR (jm rfl (jb rfl rfl (Bin.add_i64 _ 1 jo) (ja rfl (jO ?_))))
  refine jN ⟨(n + 1, k, d3), (js5 rfl rfl rfl rfl rfl), ?_, ?_⟩
  · exact ⟨by dsimp only; omega, by dsimp only; omega, by dsimp only; omega, hA, by rw [← he, hs2, qX7 hI hc3 hc4 e2 e3], K⟩
  first | omega | (dsimp only; omega)
 rw [show 5 - n = 0 by omega] at he
 have he : (di, false) = partialInsertionSort ltN d a b := he
 rw [← he]
 refine jX ?_
 refine qK (qK (qS ?_))
 refine jN ?_
 refine VC.sub [] .nil ?_
 refine jS (jR (ja rfl (jO (jN (jT ?_)))))
 refine qF rfl ?_
 exact ⟨rfl, hA, K⟩
end
section
open Go.RowKit Go.Sort
theorem oV : ∀ f x, x < 2 ^ f → 0 < x → x < 2 ^ Go.Lib.bitLenAux f x ∧ 2 ^ Go.Lib.bitLenAux f x ≤ 2 * x ∧ Go.Lib.bitLenAux f x ≤ f
 | 0, x, h, h0 => by rw [Nat.pow_zero] at h; omega
 | f + 1, x, h, h0 => by
  rw [Go.Lib.bitLenAux, if_neg jo, zdj, Nat.pow_succ]
  by_cases h1 : x / 2 = 0
  ·
   have e : Go.Lib.bitLenAux f (x / 2) = 0 := by rw [h1]; cases f <;> simp [Go.Lib.bitLenAux]
   rw [e]
   omega
  have ih := oV f (x / 2) (by rw [Nat.pow_succ] at h; omega) jo
  omega
theorem kF {n : Nat} (h : n ≤ 1000000) (h0 : 0 < n) : n < 2 ^ Go.Lib.bitLen n ∧ 2 ^ Go.Lib.bitLen n ≤ 2 * n ∧ Go.Lib.bitLen n ≤ 64 := oV 64 n (Nat.lt_of_le_of_lt h jd) h0
theorem wY {a b : Nat} (ha : a ≤ 18446744073709551615) (hb : b ≤ 18446744073709551615) : a ^^^ b ≤ 18446744073709551615 := by
 have := Nat.xor_lt_two_pow (n := 64) (x := a) (y := b) jo jo
 omega
theorem qQ9 {a k : Nat} (ha : a ≤ 18446744073709551615) : a / k ≤ 18446744073709551615 := zay (Nat.div_le_self _ _) ha
theorem pB (a : Nat) : a % 18446744073709551616 ≤ 18446744073709551615 := jo
theorem AO.one {w w' : World} {B : Option Addr} {c N g : Nat} {d : Array Nat} {t : TypeId} {cs : Array Value} (h : AO w B c N d) (k : Frm [g] w w') (hb : Blk w g t cs) (h1 : 40 ≠ t) : AO w' B c N d := h.frm k (fun y hy h2 => by rw [za] at h2; subst h2; exact h.2.ne_blk hb h1 hy)
theorem wG (g v : Nat) (w : World) (hv : v ≤ 18446744073709551615) (hb : Blk w g 182 #[.int .u64 ((v : Nat) : Int)]) :
  Calls Tryz.prog 169 #[.pointer (some ⟨g, 0, none⟩)] w fun e w' => ∃ v' : Nat, e = .returned (.int .u64 ((v' : Nat) : Int)) ∧ v' ≤ 18446744073709551615 ∧ Blk w' g 182 #[.int .u64 ((v' : Nat) : Int)] ∧ Frm [g] w w' := by
 have K := Frm.refl [g] w
 refine VC.calls (nt := 33) (res := #[.tmp 2]) Tryz.func169 rfl Tryz.ntmps169 Tryz.results169 rfl ?_
 refine jS (jR ?_)
 refine jy .u64 0 ?_
 refine jO (jN (jv1 0 ?_))
 refine jS ?_
 refine VC.heldL 9 (fun W => Blk W g 182 #[.int .u64 ((v : Nat) : Int)]) jK ?_
 have hS : (fun W => Blk W g 182 #[.int .u64 ((v : Nat) : Int)]) w.drew := hb.drawn (qV.drew _)
 have hb := hb.drawn (qV.drew w)
 have K := K.trans (qV.drew w).frm jp
 refine jH 0 rfl hS (fun w0 hw0 => Run.mv rfl) ?_
 refine jH 1 rfl hS (fun w0 hw0 => Run.nilck rfl) ?_
 refine jH 2 rfl hS (fun w0 hw0 => Run.load rfl zdn (by first | exact Blk.cell hw0 0 | exact Blk.cell hS 0)) ?_
 refine qQ.r1 3 rfl jK hS (Run.mv rfl) trivial rfl rfl ?_
 refine qQ.r1 4 rfl jK hS (Run.nilck rfl) trivial rfl rfl ?_
 refine qQ.r1 5 rfl jK hS (Run.load rfl zdn (by first | exact Blk.cell hw0 0 | exact Blk.cell hS 0)) trivial rfl rfl ?_
 refine qQ.r1 6 rfl jK hS (Run.bin rfl rfl (Bin.shlU v 13)) trivial rfl rfl ?_
 refine qQ.r1 7 rfl jK hS (Run.bin rfl rfl (Bin.xorN (k := .u64) v (v * 2 ^ 13 % 18446744073709551616) hv (pB _))) trivial rfl rfl ?_
 refine qQ.r1 8 rfl jK hS (Run.nilck rfl) trivial rfl rfl ?_
 refine qQ.stL rfl jK (qW.store rfl rfl zex hb rfl rfl) trivial rfl ?_
 rintro w1 ⟨hbn, (hfw1 : Frm [g] _ _), hsw1⟩
 have hb : Blk w1 g 182 #[.int .u64 (((v ^^^ (v * 2 ^ 13 % 18446744073709551616)) : Nat) : Int)] := hbn
 have K := K.trans hfw1 (fun x hx => .inl hx)
 obtain ⟨v1, hv1⟩ : ∃ v1, v1 = (v ^^^ (v * 2 ^ 13 % 18446744073709551616)) := ⟨_, rfl⟩
 have hv1l : v1 ≤ 18446744073709551615 := by rw [hv1]; exact wY hv (pB _)
 rw [← hv1] at hb
 refine qQ.done jK ?_
 refine jN (jv1 0 ?_)
 refine jS ?_
 refine VC.heldL 9 (fun W => Blk W g 182 #[.int .u64 ((v1 : Nat) : Int)]) jK ?_
 have hS : (fun W => Blk W g 182 #[.int .u64 ((v1 : Nat) : Int)]) w1.drew := hb.drawn (qV.drew _)
 have hb := hb.drawn (qV.drew w1)
 have K := K.trans (qV.drew w1).frm jp
 refine jH 0 rfl hS (fun w0 hw0 => Run.mv rfl) ?_
 refine jH 1 rfl hS (fun w0 hw0 => Run.nilck rfl) ?_
 refine jH 2 rfl hS (fun w0 hw0 => Run.load rfl zdn (by first | exact Blk.cell hw0 0 | exact Blk.cell hS 0)) ?_
 refine qQ.r1 3 rfl jK hS (Run.mv rfl) trivial rfl rfl ?_
 refine qQ.r1 4 rfl jK hS (Run.nilck rfl) trivial rfl rfl ?_
 refine qQ.r1 5 rfl jK hS (Run.load rfl zdn (by first | exact Blk.cell hw0 0 | exact Blk.cell hS 0)) trivial rfl rfl ?_
 refine qQ.r1 6 rfl jK hS (Run.bin rfl rfl (Bin.shrN (k := .u64) v1 7 hv1l)) trivial rfl rfl ?_
 refine qQ.r1 7 rfl jK hS (Run.bin rfl rfl (Bin.xorN (k := .u64) v1 (v1 / 2 ^ 7) hv1l (qQ9 hv1l))) trivial rfl rfl ?_
 refine qQ.r1 8 rfl jK hS (Run.nilck rfl) trivial rfl rfl ?_
 refine qQ.stL rfl jK (qW.store rfl rfl zex hb rfl rfl) trivial rfl ?_
 rintro w2 ⟨hbn, (hfw2 : Frm [g] _ _), hsw2⟩
 have hb : Blk w2 g 182 #[.int .u64 (((v1 ^^^ (v1 / 2 ^ 7)) : Nat) : Int)] := hbn
 have K := K.trans hfw2 (fun x hx => .inl hx)
 obtain ⟨v2, hv2⟩ : ∃ v2, v2 = (v1 ^^^ (v1 / 2 ^ 7)) := ⟨_, rfl⟩
 have hv2l : v2 ≤ 18446744073709551615 := by rw [hv2]; exact wY hv1l (qQ9 hv1l)
 rw [← hv2] at hb
 refine qQ.done jK ?_
 refine jN (jv1 0 ?_)
 refine jS ?_
 refine VC.heldL 9 (fun W => Blk W g 182 #[.int .u64 ((v2 : Nat) : Int)]) jK ?_
 have hS : (fun W => Blk W g 182 #[.int .u64 ((v2 : Nat) : Int)]) w2.drew := hb.drawn (qV.drew _)
 have hb := hb.drawn (qV.drew w2)
 have K := K.trans (qV.drew w2).frm jp
 refine jH 0 rfl hS (fun w0 hw0 => Run.mv rfl) ?_
 refine jH 1 rfl hS (fun w0 hw0 => Run.nilck rfl) ?_
 refine jH 2 rfl hS (fun w0 hw0 => Run.load rfl zdn (by first | exact Blk.cell hw0 0 | exact Blk.cell hS 0)) ?_
 refine qQ.r1 3 rfl jK hS (Run.mv rfl) trivial rfl rfl ?_
 refine qQ.r1 4 rfl jK hS (Run.nilck rfl) trivial rfl rfl ?_
 refine qQ.r1 5 rfl jK hS (Run.load rfl zdn (by first | exact Blk.cell hw0 0 | exact Blk.cell hS 0)) trivial rfl rfl ?_
 refine qQ.r1 6 rfl jK hS (Run.bin rfl rfl (Bin.shlU v2 17)) trivial rfl rfl ?_
 refine qQ.r1 7 rfl jK hS (Run.bin rfl rfl (Bin.xorN (k := .u64) v2 (v2 * 2 ^ 17 % 18446744073709551616) hv2l (pB _))) trivial rfl rfl ?_
 refine qQ.r1 8 rfl jK hS (Run.nilck rfl) trivial rfl rfl ?_
 refine qQ.stL rfl jK (qW.store rfl rfl zex hb rfl rfl) trivial rfl ?_
 rintro w3 ⟨hbn, (hfw3 : Frm [g] _ _), hsw3⟩
 have hb : Blk w3 g 182 #[.int .u64 (((v2 ^^^ (v2 * 2 ^ 17 % 18446744073709551616)) : Nat) : Int)] := hbn
 have K := K.trans hfw3 (fun x hx => .inl hx)
 obtain ⟨v3, hv3⟩ : ∃ v3, v3 = (v2 ^^^ (v2 * 2 ^ 17 % 18446744073709551616)) := ⟨_, rfl⟩
 have hv3l : v3 ≤ 18446744073709551615 := by rw [hv3]; exact wY hv2l (pB _)
 rw [← hv3] at hb
 refine qQ.done jK ?_
 refine jN (jv1 0 ?_)
 refine jS (jR (jm rfl (je (Run.nilck rfl) (jl rfl zdn (hb.cell 0) (ja rfl (jO (jN (jv1 2 ?_))))))))
 refine jT ?_
 refine qF rfl ?_
 exact ⟨v3, rfl, hv3l, hb, K⟩
theorem zQ (n : Nat) (w : World) (hn : n ≤ 1000000) (h0 : 0 < n) :
  Calls Tryz.prog 168 #[.int .i64 ((n : Nat) : Int)] w fun e w' => e = .returned (.int .u64 ((2 ^ Go.Lib.bitLen n : Nat) : Int)) ∧ w = w' := by
 obtain ⟨h1, h2, h3⟩ := kF hn h0
 refine VC.calls (nt := 7) (res := #[.tmp 2]) Tryz.func168 rfl Tryz.ntmps168 Tryz.results168 rfl ?_
 refine jS (jR ?_)
 refine jy .u64 0 ?_
 refine jO (jN (jv1 0 ?_))
 refine jS (jR (jm rfl (je (Run.convN _ rfl zad zce (by simp only [bmax]; omega)) ?_)))
 refine Ops.cl (jE1 Tryz.call115) (Tryz.bits_Len ((n : Nat) : Int) _ jo jo) rfl ?_
 rintro e _ ⟨rfl, rfl⟩
 rw [zdq]
 refine ⟨_, rfl, ?_⟩
 refine jb rfl rfl (Bin.shlN (k := .u64) 1 (Go.Lib.bitLen n) h3 (by simp only [bmax]; omega)) ?_
 rw [Nat.one_mul]
 refine ja rfl (jO (jN (jv1 2 ?_)))
 refine jT ?_
 refine qF rfl ?_
 exact ⟨rfl, rfl⟩
theorem lI (B : Option Addr) (c N : Nat) (d : Array Nat) (w : World) (h : AO w B c N d) (hN : N ≤ 1000000) (a b g k : Nat) (ha : a < N) (hb2 : b < N) (hk : k ≤ 1000) (hb : Blk w g 3 #[.int .i64 ((k : Nat) : Int)]) :
  Calls Tryz.prog 184 #[.slice B N c, .int .i64 ((a : Nat) : Int), .int .i64 ((b : Nat) : Int), .pointer (some ⟨g, 0, none⟩)] w fun e w' => ∃ x y k' : Nat, e = .returned (.tuple #[.int .i64 ((x : Nat) : Int), .int .i64 ((y : Nat) : Int)]) ∧ ((x = a ∧ y = b) ∨ (x = b ∧ y = a)) ∧ k' ≤ k + 1 ∧ Blk w' g 3 #[.int .i64 ((k' : Nat) : Int)] ∧ Frm [g] w w' := by
 obtain ⟨ad, rfl⟩ := h.adr jo
 have hA := h
 refine VC.calls (nt := 28) (res := #[.tmp 8, .tmp 9]) Tryz.func184 rfl Tryz.ntmps184 Tryz.results184 rfl ?_
 refine jS (jR (jz 0 (jz 0 (jO (jN (jv4 0 1 2 3 ?_))))))
 refine jS (jS ?_)
 refine VC.held (fun W => Frm [] w W) jK ?_
 have hS : Frm [] w w.drew := (Frm.refl _ _).drew
 refine jH 0 rfl hS (fun w0 hw0 => Run.mv rfl) ?_
 refine jH 1 rfl hS (fun w0 hw0 => Run.mv rfl) ?_
 refine jH 2 rfl hS (fun w0 hw0 => Run.index1 _ rfl rfl zd zc jo) ?_
 refine jH 3 rfl hS (fun w0 hw0 => Run.load rfl zh ((hA.nil hw0).at (i := b) jo)) ?_
 refine jH 4 rfl hS (fun w0 hw0 => Run.mv rfl) ?_
 refine jH 5 rfl hS (fun w0 hw0 => Run.mv rfl) ?_
 refine jH 6 rfl hS (fun w0 hw0 => Run.index1 _ rfl rfl zd zc jo) ?_
 refine jH 7 rfl hS (fun w0 hw0 => Run.load rfl zh ((hA.nil hw0).at (i := a) jo)) ?_
 refine qQ.cl 8 rfl jK (jE2 zcc) (bL _ _ _) trivial rfl rfl ?_
 rintro e _ ⟨rfl, rfl⟩
 refine ⟨_, rfl, hS, ?_⟩
 refine qQ.done jK ?_
 refine jN (jv4 1 2 3 18 ?_)
 refine VC.condB rfl (fun hc1 => ?_) (fun hc1 => ?_)
 ·
  have hb := hb.frm hS jp
  refine jS (jR (jm rfl (je (Run.nilck rfl) (jl rfl zy (hb.cell 0) (jb rfl rfl (Bin.add_i64 _ 1 jo) (je (Run.nilck rfl) ?_))))))
  refine Ops.st (qW.store rfl rfl zq hb rfl rfl) ?_
  rintro w1 ⟨hbn, (hf1 : Frm [g] _ _), hs1⟩
  have hb : Blk w1 g 3 #[.int .i64 (((k + 1) : Nat) : Int)] := hbn
  refine jO (jN (jv2 1 2 ?_))
  refine jS (jR (jm rfl (jm rfl (ja rfl (ja rfl (jO (jN (jv2 8 9 ?_))))))))
  refine jT ?_
  refine qZ (dQ rfl rfl ?_)
  exact ⟨b, a, k + 1, rfl, .inr ⟨rfl, rfl⟩, zv _, hb, (hS.mono jp).trans hf1 (fun x hx => .inl hx)⟩
 refine jQ (jN (jv2 1 2 ?_))
 refine jS (jR (jm rfl (jm rfl (ja rfl (ja rfl (jO (jN (jv2 8 9 ?_))))))))
 refine jT ?_
 refine dQ rfl rfl ?_
 exact ⟨a, b, k, rfl, .inl ⟨rfl, rfl⟩, jo, hb.frm hS jp, hS.mono jp⟩
theorem pV (B : Option Addr) (c N : Nat) (d : Array Nat) (w : World) (h : AO w B c N d) (hN : N ≤ 1000000) (a b e2 g k : Nat) (ha : a < N) (hb2 : b < N) (he2 : e2 < N) (hk : k ≤ 900) (hb : Blk w g 3 #[.int .i64 ((k : Nat) : Int)]) :
  Calls Tryz.prog 171 #[.slice B N c, .int .i64 ((a : Nat) : Int), .int .i64 ((b : Nat) : Int), .int .i64 ((e2 : Nat) : Int), .pointer (some ⟨g, 0, none⟩)] w fun e w' => ∃ m k' : Nat, e = .returned (.int .i64 ((m : Nat) : Int)) ∧ (m = a ∨ m = b ∨ m = e2) ∧ k' ≤ k + 3 ∧ Blk w' g 3 #[.int .i64 ((k' : Nat) : Int)] ∧ Frm [g] w w' := by
 obtain ⟨ad, rfl⟩ := h.adr jo
 have hA := h
 have K := Frm.refl [g] w
 have hbo := hb
 refine VC.calls (nt := 36) (res := #[.tmp 10]) Tryz.func171 rfl Tryz.ntmps171 Tryz.results171 rfl ?_
 refine jS (jR (jz 0 (jO (jN (jv5 0 1 2 3 4 ?_)))))
 refine jS (jR (jm rfl (jm rfl (jm rfl (jM ?_)))))
 refine Ops.cl (jE4 Tryz.call184) (lI (some ad) c N d _ hA hN (a) (b) g k jo jo jo hb) rfl ?_
 rintro e w1 ⟨x1, y1, k1, rfl, hok1, hkk1, hb, hfw1⟩
 have K := K.trans hfw1 (fun x hx => .inl hx)
 have hA := hA.one hfw1 hbo jd
 have hbo := hb
 refine ⟨_, rfl, ?_⟩
 refine jm rfl (je (Run.extract rfl rfl) (je (Run.extract rfl rfl) (ja rfl (ja rfl (jO (jN (jv5 0 1 2 3 4 ?_)))))))
 refine jS (jR (jm rfl (jm rfl (jm rfl (jM ?_)))))
 refine Ops.cl (jE4 Tryz.call184) (lI (some ad) c N d _ hA hN (y1) (e2) g k1 jo jo jo hb) rfl ?_
 rintro e w2 ⟨x2, y2, k2, rfl, hok2, hkk2, hb, hfw2⟩
 have K := K.trans hfw2 (fun x hx => .inl hx)
 have hA := hA.one hfw2 hbo jd
 have hbo := hb
 refine ⟨_, rfl, ?_⟩
 refine jm rfl (je (Run.extract rfl rfl) (je (Run.extract rfl rfl) (ja rfl (ja rfl (jO (jN (jv4 0 1 2 4 ?_)))))))
 refine jS (jR (jm rfl (jm rfl (jm rfl (jM ?_)))))
 refine Ops.cl (jE4 Tryz.call184) (lI (some ad) c N d _ hA hN (x1) (x2) g k2 jo jo jo hb) rfl ?_
 rintro e w3 ⟨x3, y3, k3, rfl, hok3, hkk3, hb, hfw3⟩
 have K := K.trans hfw3 (fun x hx => .inl hx)
 have hA := hA.one hfw3 hbo jd
 have hbo := hb
 refine ⟨_, rfl, ?_⟩
 refine jm rfl (je (Run.extract rfl rfl) (je (Run.extract rfl rfl) (ja rfl (ja rfl (jO (jN (jv1 2 ?_)))))))
 refine jS (jR (jm rfl (ja rfl (jO (jN (jv1 10 ?_))))))
 refine jT ?_
 refine qF rfl ?_
 exact ⟨y3, k3, rfl, jo, jo, hb, K⟩
theorem kA (B : Option Addr) (c N : Nat) (d : Array Nat) (w : World) (h : AO w B c N d) (hN : N ≤ 1000000) (a g k : Nat) (ha0 : 0 < a) (ha : a + 1 < N) (hk : k ≤ 900) (hb : Blk w g 3 #[.int .i64 ((k : Nat) : Int)]) :
  Calls Tryz.prog 170 #[.slice B N c, .int .i64 ((a : Nat) : Int), .pointer (some ⟨g, 0, none⟩)] w fun e w' => ∃ m k' : Nat, e = .returned (.int .i64 ((m : Nat) : Int)) ∧ (a - 1 ≤ m ∧ m ≤ a + 1) ∧ k' ≤ k + 3 ∧ Blk w' g 3 #[.int .i64 ((k' : Nat) : Int)] ∧ Frm [g] w w' := by
 refine VC.calls (nt := 15) (res := #[.tmp 6]) Tryz.func170 rfl Tryz.ntmps170 Tryz.results170 rfl ?_
 refine jS (jR (jz 0 (jO (jN (jv3 0 1 2 ?_)))))
 refine jS (jR (jm rfl (jm rfl (jb rfl rfl (Bin.sub_i64 _ 1 jo jo) (jm rfl (jm rfl (jb rfl rfl (Bin.add_i64 _ 1 jo) (jM ?_))))))))
 refine Ops.cl (jE5 Tryz.call171) (pV B c N d _ h hN (a - 1) a (a + 1) g k jo jo jo hk hb) rfl ?_
 rintro e w1 ⟨m, k', rfl, hm, hk', hb, hf⟩
 refine ⟨_, rfl, ?_⟩
 refine ja rfl (jO (jN (jv1 6 ?_)))
 refine jT ?_
 refine qF rfl ?_
 exact ⟨m, k', rfl, jo, hk', hb, hf⟩
end
section
open Go.RowKit Go.Sort
theorem zX (B : Option Addr) (c N : Nat) (d : Array Nat) (w : World) (h : AO w B c N d) (hN : N ≤ 1000000) (a b : Nat) (ha : a < b) (hb2 : b ≤ N) :
  Calls Tryz.prog 144 #[.slice B N c, .int .i64 ((a : Nat) : Int), .int .i64 ((b : Nat) : Int)] w fun e w' => ∃ p q : Nat, e = .returned (.tuple #[.int .i64 ((p : Nat) : Int), .int .i64 ((q : Nat) : Int)]) ∧ (a ≤ p ∧ p < b) ∧ q ≤ 2 ∧ Frm [] w w' := by
 refine VC.calls (nt := 57) (res := #[.tmp 6, .tmp 7]) Tryz.func144 rfl Tryz.ntmps144 Tryz.results144 rfl ?_
 refine jS (jR (jz 0 (jz 0 (jO (jN (jv3 0 1 2 ?_))))))
 refine jS (jR (jm rfl (jm rfl (jb rfl rfl (Bin.sub_i64 _ _ jo jo) (ja rfl (jO (jN (jv3 0 1 8 ?_))))))))
 refine jS (jR ?_)
 refine Ops.m (qH.alloc qZw) rfl ?_
 rintro _ w1 ⟨rfl, hF1⟩
 have hb : Blk w1 w.heap.size 3 #[.int .i64 ((0 : Nat) : Int)] := hF1.blk
 have K := hF1.frm
 have hA := h.nil hF1.frm
 have hg9 : w.heap.size ≤ w.heap.size := zv _
 generalize hg9e : w.heap.size = g9 at hb hg9 ⊢
 have hbo := hb
 obtain ⟨l, hl⟩ : ∃ l, l = b - a := ⟨_, rfl⟩
 rw [← hl]
 refine jO (jN (jS (jR (jm rfl (jm rfl (jb rfl rfl (Bin.quo_i64 _ 4 jo jo) (jb rfl rfl (Bin.mul_i64 _ 1 jo) (jb rfl rfl (Bin.add_i64 _ _ jo) (ja rfl (jO (jN (jv5 0 1 8 9 10 ?_))))))))))))
 refine jS (jR (jm rfl (jm rfl (jb rfl rfl (Bin.quo_i64 _ 4 jo jo) (jb rfl rfl (Bin.mul_i64 _ 2 jo) (jb rfl rfl (Bin.add_i64 _ _ jo) (ja rfl (jO (jN (jv6 0 1 8 9 10 11 ?_))))))))))
 refine jS (jR (jm rfl (jm rfl (jb rfl rfl (Bin.quo_i64 _ 4 jo jo) (jb rfl rfl (Bin.mul_i64 _ 3 jo) (jb rfl rfl (Bin.add_i64 _ _ jo) (ja rfl (jO (jN (jv6 0 8 9 10 11 12 ?_))))))))))
 refine jS (jS (jR (jm rfl (jb rfl rfl (Bin.geqN _ 8) (jO (jN (jv7 0 8 9 10 11 12 32 ?_)))))))
 refine VC.meet (σ := Nat × Nat) (fun s => [(9, .pointer (some ⟨g9, 0, none⟩)), (11, .int .i64 ((s.1 : Nat) : Int))]) (fun s wm1 => (a ≤ s.1 ∧ s.1 < b) ∧ Blk wm1 g9 3 #[.int .i64 ((s.2 : Nat) : Int)] ∧ Frm [] w wm1) ?_ ?_
 ·
  refine jD rfl (fun hc1 => ?_) fun hc1 => ?_
  ·
   refine jS (jS (jR (jm rfl (jb rfl rfl (Bin.geqN _ 50) (jO (jN (jv6 0 9 10 11 12 34 ?_)))))))
   refine VC.meet (σ := Nat × Nat × Nat × Nat) (fun s => [(0, .slice B N c), (9, .pointer (some ⟨g9, 0, none⟩)), (10, .int .i64 ((s.1 : Nat) : Int)), (11, .int .i64 ((s.2.1 : Nat) : Int)), (12, .int .i64 ((s.2.2.1 : Nat) : Int))]) (fun s wm => ((a ≤ s.1 ∧ s.1 < b) ∧ (a ≤ s.2.1 ∧ s.2.1 < b) ∧ (a ≤ s.2.2.1 ∧ s.2.2.1 < b) ∧ s.2.2.2 ≤ 900) ∧ AO wm B c N d ∧ Blk wm g9 3 #[.int .i64 ((s.2.2.2 : Nat) : Int)] ∧ Frm [] w wm) ?_ ?_
   ·
    refine jD rfl (fun hc2 => ?_) fun hc2 => ?_
    ·
     refine jS (jR (jm rfl (jM ?_)))
     refine Ops.cl (jE3 Tryz.call170) (kA B c N d _ hA hN (a + l / 4 * 1) g9 0 jo jo jo hb) rfl ?_
     rintro e w2 ⟨m1, k1, rfl, hmm1, hkk1, hb, hfw2⟩
     have K := K.own hfw2 (fun y hy => by rw [za] at hy; omega)
     have hA := hA.one hfw2 hbo jd
     have hbo := hb
     refine ⟨_, rfl, ?_⟩
     refine ja rfl (jO (jN (jv5 0 9 10 11 12 ?_)))
     refine jS (jR (jm rfl (jM ?_)))
     refine Ops.cl (jE3 Tryz.call170) (kA B c N d _ hA hN (a + l / 4 * 2) g9 k1 jo jo jo hb) rfl ?_
     rintro e w3 ⟨m2, k2, rfl, hmm2, hkk2, hb, hfw3⟩
     have K := K.own hfw3 (fun y hy => by rw [za] at hy; omega)
     have hA := hA.one hfw3 hbo jd
     have hbo := hb
     refine ⟨_, rfl, ?_⟩
     refine ja rfl (jO (jN (jv5 0 9 10 11 12 ?_)))
     refine jR (jm rfl (jM ?_))
     refine Ops.cl (jE3 Tryz.call170) (kA B c N d _ hA hN (a + l / 4 * 3) g9 k2 jo jo jo hb) rfl ?_
     rintro e w4 ⟨m3, k3, rfl, hmm3, hkk3, hb, hfw4⟩
     have K := K.own hfw4 (fun y hy => by rw [za] at hy; omega)
     have hA := hA.one hfw4 hbo jd
     have hbo := hb
     refine ⟨_, rfl, ?_⟩
     refine ja rfl (jO ?_)
     refine jN ⟨(m1, m2, m3, k3), (js5 rfl rfl rfl rfl rfl), ?_⟩
     exact ⟨⟨by dsimp only; omega, by dsimp only; omega, by dsimp only; omega, by dsimp only; omega⟩, hA, hb, K⟩
    refine jQ ?_
    refine jN ⟨(a + l / 4 * 1, a + l / 4 * 2, a + l / 4 * 3, 0), (js5 rfl rfl rfl rfl rfl), ?_⟩
    exact ⟨⟨by dsimp only; omega, by dsimp only; omega, by dsimp only; omega, by dsimp only; omega⟩, hA, hb, K⟩
   rintro ⟨i, j, k, sw⟩ wm ⟨⟨q1, q2, q3, q4⟩, hA, hb, K⟩ Γ hΓ
   dsimp only at *
   refine jN (VC.sub _ hΓ (jR (jm rfl (jm rfl (jm rfl (jM ?_))))))
   refine Ops.cl (jE5 Tryz.call171) (pV B c N d _ hA hN i j k g9 sw jo jo jo jo hb) rfl ?_
   rintro e w5 ⟨m, k5, rfl, hm, hk5, hb5, hf5⟩
   have K := K.own hf5 (fun y hy => by rw [za] at hy; omega)
   refine ⟨_, rfl, ?_⟩
   refine ja rfl (jO ?_)
   refine jN ⟨(m, k5), (js2 rfl rfl), ?_⟩
   exact ⟨by dsimp only; omega, hb5, K⟩
  refine jQ ?_
  refine jN ⟨(a + l / 4 * 2, 0), (js2 rfl rfl), ?_⟩
  exact ⟨by dsimp only; omega, hb, K⟩
 rintro ⟨p, sw⟩ wm1 ⟨hp, hb, K⟩ Γ hΓ
 dsimp only at *
 refine jN (VC.sub _ hΓ (jS (jR (jl rfl zy (hb.cell 0) (jO (jN (jv2 11 49 ?_)))))))
 refine jB (jS (jR (jb rfl rfl (Bin.eqlN _ 0) (ja rfl (jO (jN (jv3 11 49 51 ?_)))))))
 refine jD rfl (fun hc3 => ?_) fun hc3 => ?_
 ·
  refine jS (jR (jm rfl (ja rfl (jz 1 (jO (jN (jv2 6 7 ?_)))))))
  refine jT ?_
  refine qP (dQ rfl rfl ?_)
  exact ⟨p, 1, rfl, hp, jo, K⟩
 refine jS (jR (jb rfl rfl (Bin.eqlN _ 12) (ja rfl (jO (jN (jv2 11 54 ?_))))))
 refine jD rfl (fun hc4 => ?_) fun hc4 => ?_
 ·
  refine jS (jR (jm rfl (ja rfl (jz 2 (jO (jN (jv2 6 7 ?_)))))))
  refine jT ?_
  refine qP (dQ rfl rfl ?_)
  exact ⟨p, 2, rfl, hp, jo, K⟩
 refine jS (jR (jm rfl (ja rfl (jz 0 (jO (jN (jv2 6 7 ?_)))))))
 refine jT ?_
 refine qP (dQ rfl rfl ?_)
 exact ⟨p, 0, rfl, hp, jo, K⟩
set_option maxHeartbeats 1000000 in
theorem zZ (B : Option Addr) (c N : Nat) (d : Array Nat) (w : World) (h : AO w B c N d) (hN : N ≤ 1000000) (a b : Nat) (ha : a < b) (hb2 : b ≤ N) :
  Calls Tryz.prog 143 #[.slice B N c, .int .i64 ((a : Nat) : Int), .int .i64 ((b : Nat) : Int)] w fun e w' => ∃ d', e = .returned (.tuple #[]) ∧ AO w' B c N d' ∧ PermIn a b d d' ∧ Frm (ob B) w w' := by
 obtain ⟨ad, rfl⟩ := h.adr jo
 obtain ⟨l, hl⟩ : ∃ l, l = b - a := ⟨_, rfl⟩
 obtain ⟨hw1, hw2, hw3⟩ := kF (n := l) jo jo
 refine VC.calls (nt := 65) (res := #[]) Tryz.func143 rfl Tryz.ntmps143 Tryz.results143 rfl ?_
 refine jS (jR (jm rfl (jm rfl (jb rfl rfl (Bin.sub_i64 _ _ jo jo) ?_))))
 rw [← hl]
 refine ja rfl (jO (jN (jv3 0 1 6 ?_)))
 refine jS (jR (jm rfl (jb rfl rfl (Bin.geqN _ 8) (jO (jN (jv4 0 1 6 15 ?_))))))
 refine jD rfl (fun hc1 => ?_) fun hc1 => ?_
 ·
  refine jS (jR (jm rfl (je (Run.convN _ rfl zad Tryz.underlying182 (by simp only [bmax]; omega)) ?_)))
  refine Ops.m (qH.alloc qXd) rfl ?_
  rintro _ w1 ⟨rfl, hF1⟩
  have hb := hF1.blk
  have K : Frm (ob (some ad)) w w1 := hF1.frm.mono jp
  have hA := h.nil hF1.frm
  have hg7 : w.heap.size ≤ w.heap.size := zv _
  generalize hg7e : w.heap.size = g7 at hb hg7 ⊢
  have hbo := hb
  refine Ops.st (qW.store rfl rfl zex hb rfl rfl) ?_
  rintro w2 ⟨hbn, (hf2 : Frm [g7] _ _), hs2⟩
  have hb : Blk w2 g7 182 #[.int .u64 ((l : Nat) : Int)] := hbn
  have hA := hA.one hf2 hbo jd
  have K := K.trans hf2 (fun y hy => .inr (by rw [za] at hy; omega))
  refine jO (jN (jv4 0 1 6 7 ?_))
  refine jS (jR (jM ?_))
  refine Ops.cl (jE1 Tryz.call168) (zQ l _ jo jo) rfl ?_
  rintro e _ ⟨rfl, rfl⟩
  refine ⟨_, rfl, ?_⟩
  have hone : 1 ≤ 2 ^ Go.Lib.bitLen l := Nat.one_le_two_pow
  have hmx : 2 ^ Go.Lib.bitLen l ≤ 18446744073709551615 := jo
  refine ja rfl (jO (jN (jv5 0 1 6 7 8 ?_)))
  refine jS (jR (jm rfl (jm rfl (jb rfl rfl (Bin.quo_i64 _ 4 jo jo) (jb rfl rfl (Bin.mul_i64 _ 2 jo) (jb rfl rfl (Bin.add_i64 _ _ jo) (jb rfl rfl (Bin.sub_i64 _ 1 jo jo) (ja rfl (jO (jN (jv6 0 1 6 7 8 9 ?_)))))))))))
  refine jB ?_
  refine VC.loop (σ := Nat × Nat × Array Nat) (fun s => [(0, .slice (some ad) N c), (1, .int .i64 ((a : Nat) : Int)), (6, .int .i64 ((l : Nat) : Int)), (7, .pointer (some ⟨g7, 0, none⟩)), (8, .int .u64 ((2 ^ Go.Lib.bitLen l : Nat) : Int)), (9, .int .i64 (((a + l / 4 * 2 - 1 + s.1) : Nat) : Int))]) (fun s wr => s.1 ≤ 3 ∧ s.2.1 ≤ 18446744073709551615 ∧ AO wr (some ad) c N s.2.2 ∧ Blk wr g7 182 #[.int .u64 ((s.2.1 : Nat) : Int)] ∧ PermIn a b d s.2.2 ∧ Frm (ob (some ad)) w wr) (fun s => 3 - s.1) (0, l, d) (js6 rfl rfl rfl rfl rfl rfl) ⟨by dsimp only; omega, by dsimp only; omega, hA, hb, permIn_refl _ _ _, K⟩ ?_
  rintro ⟨t, v, dt⟩ wr ⟨q1, q2, hA, hb, hP, K⟩
  dsimp only at *
  refine jS (jS (jR (jm rfl (jm rfl (jm rfl (jb rfl rfl (Bin.quo_i64 _ 4 jo jo) (jb rfl rfl (Bin.mul_i64 _ 2 jo) (jb rfl rfl (Bin.add_i64 _ _ jo) (jb rfl rfl (Bin.add_i64 _ 1 jo) (jb rfl rfl (Bin.leqN _ _) (jO (jN (jv7 0 1 6 7 8 9 33 ?_)))))))))))))
  refine jD rfl (fun hc2 => ?_) fun hc2 => ?_
  ·
   refine jQ (jN (jv6 0 1 6 7 8 9 ?_))
   refine jS (jB (jS (jR ?_)))
   refine Ops.cl (jE1 Tryz.call169) (wG g7 v _ q2 hb) rfl ?_
   rintro e w3 ⟨v2, rfl, hv2, hb3, hf3⟩
   have hA := hA.one hf3 hb jd
   have K := K.trans hf3 (fun y hy => .inr (by rw [za] at hy; omega))
   refine ⟨_, rfl, ?_⟩
   refine jm rfl (jb rfl rfl (Bin.sub_u64 _ 1 jo jo) (jb rfl rfl (Bin.andN (k := .u64) v2 (2 ^ Go.Lib.bitLen l - 1) hv2 (by simp only [bmax]; omega)) ?_))
   obtain ⟨o, ho⟩ : ∃ o, o = v2 &&& (2 ^ Go.Lib.bitLen l - 1) := ⟨_, rfl⟩
   have hol : o ≤ 2 ^ Go.Lib.bitLen l - 1 := by rw [ho]; exact Nat.and_le_right
   rw [← ho]
   refine je (Run.convN _ rfl zce zad (by simp only [bmax]; omega)) (ja rfl (jO (jN (jv7 0 1 6 7 8 9 10 ?_))))
   refine jS (jS (jR (jm rfl (jm rfl (jb rfl rfl (Bin.geqN _ _) (jO (jN (jv8 0 1 6 7 8 9 10 43 ?_))))))))
   refine VC.meet (σ := Nat) (fun s => [(0, .slice (some ad) N c), (1, .int .i64 ((a : Nat) : Int)), (6, .int .i64 ((l : Nat) : Int)), (7, .pointer (some ⟨g7, 0, none⟩)), (8, .int .u64 ((2 ^ Go.Lib.bitLen l : Nat) : Int)), (9, .int .i64 (((a + l / 4 * 2 - 1 + t) : Nat) : Int)), (10, .int .i64 ((s : Nat) : Int))]) (fun s wm => s < l ∧ wm = w3) ?_ ?_
   ·
    refine jD rfl (fun hc3 => ?_) fun hc3 => ?_
    ·
     refine jR (jm rfl (jm rfl (jb rfl rfl (Bin.sub_i64 _ _ jo jo) (ja rfl (jO ?_)))))
     refine jN ⟨(o - l), (js7 rfl rfl rfl rfl rfl rfl rfl), ?_⟩
     exact ⟨jo, rfl⟩
    refine jQ ?_
    refine jN ⟨o, (js7 rfl rfl rfl rfl rfl rfl rfl), ?_⟩
    exact ⟨jo, rfl⟩
   rintro o2 _ ⟨ho2, rfl⟩ Γ hΓ
   refine jN (VC.sub _ hΓ ?_)
   refine VC.held (fun _ => True) jK ?_
   refine jH 0 rfl trivial (fun w0 hw0 => Run.mv rfl) ?_
   refine jH 1 rfl trivial (fun w0 hw0 => Run.mv rfl) ?_
   refine jH 2 rfl trivial (fun w0 hw0 => Run.mv rfl) ?_
   refine jH 3 rfl trivial (fun w0 hw0 => Run.mv rfl) ?_
   refine jH 4 rfl trivial (fun w0 hw0 => Run.mv rfl) ?_
   refine jH 5 rfl trivial (fun w0 hw0 => Run.bin rfl rfl (Bin.add_i64 _ _ jo)) ?_
   refine jH 6 rfl trivial (fun w0 hw0 => Run.mv rfl) ?_
   refine jH 7 rfl trivial (fun w0 hw0 => Run.mv rfl) ?_
   refine jH 8 rfl trivial (fun w0 hw0 => Run.mv rfl) ?_
   refine jH 9 rfl trivial (fun w0 hw0 => Run.bin rfl rfl (Bin.add_i64 _ _ jo)) ?_
   refine jH 10 rfl trivial (fun w0 hw0 => Run.index1 _ rfl rfl zd zc jo) ?_
   refine jH 12 rfl trivial (fun w0 hw0 => Run.mv rfl) ?_
   refine jH 13 rfl trivial (fun w0 hw0 => Run.mv rfl) ?_
   refine jH 14 rfl trivial (fun w0 hw0 => Run.index1 _ rfl rfl zd zc jo) ?_
   refine qQ.r2 11 15 rfl rfl jK jK jK jK trivial rfl rfl (Run.load rfl zh ((hA.nil (qV.drew _).frm).at (i := a + o2) jo)) (Run.load rfl zh ((hA.nil (qV.drew _).frm).at (i := a + l / 4 * 2 - 1 + t) jo)) (Run.load rfl zh ((hA.nil (qV.drew _).frm).at (i := a + l / 4 * 2 - 1 + t) jo)) (Run.load rfl zh ((hA.nil (qV.drew _).frm).at (i := a + o2) jo)) rfl rfl rfl rfl rfl ?_
   refine jH 16 rfl trivial (fun w0 hw0 => Run.index1 _ rfl rfl zd zc jo) ?_
   refine qQ.st 17 rfl jK (qW.storeOwn (a + l / 4 * 2 - 1 + t) rfl rfl zc (hA.nil (qV.drew _).frm).2 rfl jo rfl) trivial rfl ?_
   rintro w4a ⟨ho_a, hf_a, hs_a⟩
   refine ⟨trivial, ?_⟩
   refine jH 18 rfl trivial (fun w0 hw0 => Run.index1 _ rfl rfl zd zc jo) ?_
   refine qQ.st 19 rfl jK (qW.storeOwn (a + o2) rfl rfl zc ho_a rfl jo rfl) trivial rfl ?_
   rintro w4 ⟨ho_b, hf_b, hs_b⟩
   have hAs := AO.swp hA.1 ho_b
   have hKs := ((qV.drew _).frm.mono (T := ob (some ad)) jp).trans (hf_a.trans hf_b (fun x hx => .inl hx)) (fun x hx => .inl hx)
   refine ⟨trivial, ?_⟩
   refine qQ.done jK ?_
   refine qN (jN ?_)
   refine jv6 0 1 6 7 8 9 ?_
   refine jR (jm rfl (jb rfl rfl (Bin.add_i64 _ 1 jo) (ja rfl (jO ?_))))
   refine jN ⟨(t + 1, v2, swp dt (a + l / 4 * 2 - 1 + t) (a + o2)), (js6 rfl rfl rfl rfl rfl rfl), ?_, ?_⟩
   · exact ⟨by dsimp only; omega, hv2, hAs, hb3.frm hKs (hA.2.ne_blk hb3 jd), permIn_trans _ _ _ a b hP (swp_permIn dt a b _ _ jo jo jo jo (by rw [hA.1]; exact hb2)), K.trans hKs (fun x hx => .inl hx)⟩
   first | omega | (dsimp only; omega)
  refine jX ?_
  refine qK (qK (qS ?_))
  refine jL ?_
  exact ⟨dt, rfl, hA, hP, K⟩
 refine jQ ?_
 refine jL ?_
 exact ⟨d, rfl, h, permIn_refl _ _ _, Frm.refl _ _⟩
end
section
open Go.RowKit Go.Sort
def rL (a0 b0 : Nat) (d0 : Array Nat) (a b : Nat) (d : Array Nat) : Prop := ∀ R, PermIn a b d R → SortedIn ltN a b R → PermIn a0 b0 d0 R ∧ SortedIn ltN a0 b0 R
theorem rL.perm {a0 b0 a b : Nat} {d0 d d' : Array Nat} (h : rL a0 b0 d0 a b d) (hp : PermIn a b d d') : rL a0 b0 d0 a b d' := fun R h1 h2 => h R (permIn_trans _ _ _ a b hp h1) h2
def wH (M : Nat) : Prop := ∀ (B : Option Addr) (c N : Nat) (d : Array Nat) (w : World) (a b lim : Nat), AO w B c N d → N ≤ 1000000 → a ≤ b → b ≤ N → Below ltN a b d → b - a < M → lim ≤ 1000 →
  Calls Tryz.prog 114 #[.slice B N c, .int .i64 ((a : Nat) : Int), .int .i64 ((b : Nat) : Int), .int .i64 ((lim : Nat) : Int)] w fun e w' => ∃ R, e = .returned (.tuple #[]) ∧ AO w' B c N R ∧ PermIn a b d R ∧ SortedIn ltN a b R ∧ Frm (ob B) w w'
set_option maxHeartbeats 2000000 in
theorem zJ (M : Nat) (hrec : wH M) : wH (M + 1) := by
 intro B c N d0 w a0 b0 lim0 h hN hab0 hb0 hB0 hM hlim0
 have hA := h
 refine VC.calls (nt := 134) (res := #[]) Tryz.func114 rfl Tryz.ntmps114 Tryz.results114 rfl ?_
 refine jS (jR (ja rfl (jO (jN (jS (jR (ja rfl (jO (jN (jB ?_))))))))))
 refine VC.loop (σ := Nat × Nat × Nat × Bool × Bool × Array Nat) (fun s => [(0, .slice B N c), (1, .int .i64 ((s.1 : Nat) : Int)), (2, .int .i64 ((s.2.1 : Nat) : Int)), (3, .int .i64 ((s.2.2.1 : Nat) : Int)), (8, .bool s.2.2.2.1), (9, .bool s.2.2.2.2.1)]) (fun s wr => (s.1 ≤ s.2.1 ∧ s.2.1 ≤ N ∧ s.2.1 - s.1 ≤ b0 - a0 ∧ s.2.2.1 ≤ 1000) ∧ AO wr B c N s.2.2.2.2.2 ∧ Below ltN s.1 s.2.1 s.2.2.2.2.2 ∧ rL a0 b0 d0 s.1 s.2.1 s.2.2.2.2.2 ∧ Frm (ob B) w wr) (fun s => s.2.1 - s.1) (a0, b0, lim0, true, true, d0) (js6 rfl rfl rfl rfl rfl rfl) ⟨⟨hab0, hb0, zv _, hlim0⟩, hA, hB0, fun R h1 h2 => ⟨h1, h2⟩, Frm.refl _ _⟩ ?_
 rintro ⟨a, b, lim, wb, wp, d⟩ wr ⟨⟨q1, q2, q3, q4⟩, hA, hB, hG, K⟩
 dsimp only at *
 refine jB (jS (jR (jm rfl (jm rfl (jb rfl rfl (Bin.sub_i64 _ _ jo jo) (ja rfl (jO (jN (jv7 0 1 2 3 8 9 10 ?_)))))))))
 refine jS (jS (jR (jm rfl (jb rfl rfl (Bin.leqN _ 12) (jO (jN (jv8 0 1 2 3 8 9 10 23 ?_)))))))
 refine jD rfl (fun hc1 => ?_) fun hc1 => ?_
 ·
  refine jS (jR (jm rfl (jm rfl (jM ?_))))
  refine Ops.cl (jE3 Tryz.call141) (yC B c N d _ hA hN a b jo jo) rfl ?_
  rintro e w1 ⟨rfl, hA1, hf1⟩
  have K := K.trans hf1 (fun x hx => .inl hx)
  obtain ⟨hp, hs⟩ := insertionSort_holds jE d a b q1 (by rw [hA.1]; exact q2)
  obtain ⟨hp, hs⟩ := hG _ hp hs
  refine ⟨_, rfl, ?_⟩
  refine jO (jN ?_)
  refine VC.sub [] .nil ?_
  refine jT ?_
  refine qZ (qP (qZ (qP (uQ ?_))))
  exact ⟨_, rfl, hA1, hp, hs, K⟩
 refine jQ (jN (jv7 0 1 2 3 8 9 10 ?_))
 refine jS (jS (jR (jm rfl (jb rfl rfl (Bin.eqlN _ 0) (jO (jN (jv8 0 1 2 3 8 9 10 29 ?_)))))))
 refine jD rfl (fun hc2 => ?_) fun hc2 => ?_
 ·
  refine jS (jR (jm rfl (jm rfl (jM ?_))))
  refine Ops.cl (jE3 Tryz.call142) (wZ B c N d _ hA hN a b jo jo) rfl ?_
  rintro e w1 ⟨rfl, hA1, hf1⟩
  have K := K.trans hf1 (fun x hx => .inl hx)
  obtain ⟨hp, hs⟩ := heapSort_holds jE d a b q1 (by rw [hA.1]; exact q2)
  obtain ⟨hp, hs⟩ := hG _ hp hs
  refine ⟨_, rfl, ?_⟩
  refine jO (jN ?_)
  refine VC.sub [] .nil ?_
  refine jT ?_
  refine qZ (qP (qZ (qP (uQ ?_))))
  exact ⟨_, rfl, hA1, hp, hs, K⟩
 refine jQ (jN (jv7 0 1 2 3 8 9 10 ?_))
 refine jS (jS (jR (jm rfl (je (Run.not rfl) (jO (jN (jv8 0 1 2 3 8 9 10 35 ?_)))))))
 refine VC.meet (σ := Nat × Array Nat) (fun s => [(0, .slice B N c), (1, .int .i64 ((a : Nat) : Int)), (2, .int .i64 ((b : Nat) : Int)), (3, .int .i64 ((s.1 : Nat) : Int)), (8, .bool wb), (9, .bool wp), (10, .int .i64 (((b - a) : Nat) : Int))]) (fun s wm => s.1 ≤ 1000 ∧ AO wm B c N s.2 ∧ PermIn a b d s.2 ∧ Frm (ob B) w wm) ?_ ?_
 ·
  refine VC.condB rfl (fun hc3 => ?_) (fun hc3 => ?_)
  ·
   refine jS (jR (jm rfl (jm rfl (jM ?_))))
   refine Ops.cl (jE3 Tryz.call143) (zZ B c N d _ hA hN a b jo jo) rfl ?_
   rintro e w1 ⟨d1, rfl, hA1, hp1, hf1⟩
   have K := K.trans hf1 (fun x hx => .inl hx)
   refine ⟨_, rfl, ?_⟩
   refine jO (jN (jv7 0 1 2 3 8 9 10 ?_))
   refine jR (jm rfl (jb rfl rfl (Bin.sub_i64 _ 1 jo jo) (ja rfl (jO ?_))))
   refine jN ⟨(lim - 1, d1), (js7 rfl rfl rfl rfl rfl rfl rfl), ?_⟩
   exact ⟨by dsimp only; omega, hA1, hp1, K⟩
  refine jQ ?_
  refine jN ⟨(lim, d), (js7 rfl rfl rfl rfl rfl rfl rfl), ?_⟩
  exact ⟨q4, hA, permIn_refl _ _ _, K⟩
 rintro ⟨lim3, d1⟩ wm ⟨hl3, hA1, hp1, K⟩ Γ hΓ
 dsimp only at *
 have hsz : b ≤ d.size := by rw [hA.1]; exact q2
 have hB := hB.permA permIn_all hsz hp1
 have hG := hG.perm hp1
 have hA := hA1
 refine jN (VC.sub _ hΓ (jS (jR (jm rfl (jm rfl (jM ?_))))))
 refine Ops.cl (jE3 Tryz.call144) (zX B c N d1 _ hA hN a b jo jo) rfl ?_
 rintro e w2 ⟨p, q, rfl, hp, hq, hf2⟩
 have hA := hA.nil hf2
 have K := K.trans hf2 jp
 refine ⟨_, rfl, ?_⟩
 refine jm rfl (je (Run.extract rfl rfl) (je (Run.extract rfl rfl) (ja rfl (ja rfl (jO (jN (jv9 0 1 2 3 8 9 10 11 12 ?_)))))))
 refine jS (jS (jR (jm rfl (jb rfl rfl (Bin.eqlN _ 2) (jO (jN (jv10 0 1 2 3 8 9 10 11 12 50 ?_)))))))
 refine VC.meet (σ := Nat × Nat × Array Nat) (fun s => [(0, .slice B N c), (1, .int .i64 ((a : Nat) : Int)), (2, .int .i64 ((b : Nat) : Int)), (3, .int .i64 ((lim3 : Nat) : Int)), (8, .bool wb), (9, .bool wp), (10, .int .i64 (((b - a) : Nat) : Int)), (11, .int .i64 ((s.1 : Nat) : Int)), (12, .int .i64 ((s.2.1 : Nat) : Int))]) (fun s wm2 => (a ≤ s.1 ∧ s.1 < b) ∧ AO wm2 B c N s.2.2 ∧ PermIn a b d1 s.2.2 ∧ Frm (ob B) w wm2) ?_ ?_
 ·
  refine jD rfl (fun hc4 => ?_) fun hc4 => ?_
  ·
   refine jS (jR (jm rfl (jm rfl (jM ?_))))
   refine Ops.cl (jE3 Tryz.call145) (yA B c N d1 _ hA hN a b jo jo) rfl ?_
   rintro e w3 ⟨rfl, hA2, hf3⟩
   have K := K.trans hf3 (fun x hx => .inl hx)
   refine ⟨_, rfl, ?_⟩
   refine jO (jN (jv8 0 1 2 3 8 9 10 11 ?_))
   refine jS (jR (jm rfl (jb rfl rfl (Bin.sub_i64 _ 1 jo jo) (jm rfl (jm rfl (jb rfl rfl (Bin.sub_i64 _ _ jo jo) (jb rfl rfl (Bin.sub_i64 _ _ jo jo) (ja rfl (jO (jN (jv8 0 1 2 3 8 9 10 11 ?_)))))))))))
   refine jR (jz 1 (jO ?_))
   refine jN ⟨(b - 1 - (p - a), 1, reverseRange d1 a b), (js9 rfl rfl rfl rfl rfl rfl rfl rfl rfl), ?_⟩
   exact ⟨by dsimp only; omega, hA2, reverseRange_holds d1 a b jo (by rw [hA.1]; exact q2), K⟩
  refine jQ ?_
  refine jN ⟨(p, q, d1), (js9 rfl rfl rfl rfl rfl rfl rfl rfl rfl), ?_⟩
  exact ⟨hp, hA, permIn_refl _ _ _, K⟩
 rintro ⟨pv, hi, d2⟩ wm2 ⟨hpv, hA2, hp2, K⟩ Γ hΓ
 dsimp only at *
 have hsz : b ≤ d1.size := by rw [hA1.1]; exact q2
 have hB := hB.permA permIn_all hsz hp2
 have hG := hG.perm hp2
 have hA := hA2
 refine jN (VC.sub _ hΓ (jS (jS ?_)))
 refine VC.split1 [(0, _), (1, _), (2, _), (3, _), (8, _), (9, _), (10, _), (11, _)] (js8 rfl rfl rfl rfl rfl rfl rfl rfl) 68 (.bool (decide (wb = true ∧ wp = true ∧ hi = 1))) ?_ ?_
 ·
  refine jR (jM ?_)
  by_cases hs61 : wb = true
  ·
   refine jM ?_
   refine jG ?_
   by_cases hs63 : wp = true
   ·
    refine je (Run.pickT rfl rfl au) (jM ?_)
    refine jG ?_
    refine jk (Run.bin rfl rfl (Bin.eqlN _ 1)) ?_
    by_cases hs67 : hi = 1
    ·
     refine je (Run.pickT rfl rfl au) (jO ?_)
     refine jN ⟨(js9 (jC (by grind)) rfl rfl rfl rfl rfl rfl rfl rfl), rfl⟩
    refine je (Run.pickT rfl rfl au) (jO ?_)
    refine jN ⟨(js9 (jC (by grind)) rfl rfl rfl rfl rfl rfl rfl rfl), rfl⟩
   refine je (Run.pickT rfl rfl au) (jM ?_)
   refine jU ?_
   refine jU ?_
   refine je (Run.pickF rfl rfl au) (jO ?_)
   refine jN ⟨(js9 (jC (by grind)) rfl rfl rfl rfl rfl rfl rfl rfl), rfl⟩
  refine jM ?_
  refine jU ?_
  refine je (Run.pickF rfl rfl au) (jM ?_)
  refine jU ?_
  refine jU ?_
  refine je (Run.pickF rfl rfl au) (jO ?_)
  refine jN ⟨(js9 (jC (by grind)) rfl rfl rfl rfl rfl rfl rfl rfl), rfl⟩
 intro Γ hΓ
 refine jN (VC.sub _ hΓ ?_)
 refine VC.meet (σ := Array Nat) (fun s => [(0, .slice B N c), (1, .int .i64 ((a : Nat) : Int)), (2, .int .i64 ((b : Nat) : Int)), (3, .int .i64 ((lim3 : Nat) : Int)), (8, .bool wb), (9, .bool wp), (10, .int .i64 (((b - a) : Nat) : Int)), (11, .int .i64 ((pv : Nat) : Int))]) (fun s wm3 => AO wm3 B c N s ∧ PermIn a b d2 s ∧ Frm (ob B) w wm3) ?_ ?_
 ·
  refine jD rfl (fun hc5 => ?_) fun hc5 => ?_
  ·
   refine jS (jR (jm rfl (jm rfl (jM ?_))))
   refine Ops.cl (jE3 Tryz.call146) (wW B c N d2 _ hA hN a b jo jo) rfl ?_
   rintro e w4 ⟨rfl, hA3, hf4⟩
   have K := K.trans hf4 (fun x hx => .inl hx)
   obtain ⟨hp3, hs3⟩ := partialInsertionSort_holds jE d2 a b jo (by rw [hA.1]; exact q2) hB
   obtain ⟨d3, ok, hpi⟩ : ∃ d3 ok, partialInsertionSort ltN d2 a b = (d3, ok) := ⟨_, _, rfl⟩
   rw [hpi] at hA3 hp3 hs3
   rw [hpi]
   dsimp only at *
   refine ⟨_, rfl, ?_⟩
   refine jO (jN (jv9 0 1 2 3 8 9 10 11 72 ?_))
   refine VC.condB rfl (fun hc6 => ?_) (fun hc6 => ?_)
   ·
    obtain ⟨h1, h2⟩ := hG _ hp3 (hs3 (by first | exact hc6 | simpa using hc6))
    refine jT ?_
    refine qZ (qZ (qP (qZ (qP (uQ ?_)))))
    exact ⟨d3, rfl, hA3, h1, h2, K⟩
   refine jQ ?_
   refine jN ⟨d3, (js8 rfl rfl rfl rfl rfl rfl rfl rfl), ?_⟩
   exact ⟨hA3, hp3, K⟩
  refine jQ ?_
  refine jN ⟨d2, (js8 rfl rfl rfl rfl rfl rfl rfl rfl), ?_⟩
  exact ⟨hA, permIn_refl _ _ _, K⟩
 rintro d3 wm3 ⟨hA3, hp3, K⟩ Γ hΓ
 have hsz : b ≤ d2.size := by rw [hA2.1]; exact q2
 have hB := hB.permA permIn_all hsz hp3
 have hG := hG.perm hp3
 have hA := hA3
 have hsz3 : b ≤ d3.size := by rw [hA.1]; exact q2
 obtain ⟨ad, rfl⟩ := hA.adr jo
 refine jN (VC.sub _ hΓ (jS (jS ?_)))
 refine VC.meet (σ := Unit) (fun s => [(0, .slice (some ad) N c), (1, .int .i64 ((a : Nat) : Int)), (2, .int .i64 ((b : Nat) : Int)), (3, .int .i64 ((lim3 : Nat) : Int)), (8, .bool wb), (9, .bool wp), (10, .int .i64 (((b - a) : Nat) : Int)), (11, .int .i64 ((pv : Nat) : Int)), (87, .bool (decide (0 < a ∧ ¬ d3[a - 1]! < d3[pv]!)))]) (fun s wz => Frm [] wm3 wz) ?_ ?_
 ·
  refine VC.held (fun W => Frm [] wm3 W) jK ?_
  have hS : Frm [] wm3 wm3.drew := (Frm.refl _ _).drew
  refine jH 0 rfl hS (fun w0 hw0 => Run.mv rfl) ?_
  refine jH 1 rfl hS (fun w0 hw0 => Run.bin rfl rfl (Bin.gtrN _ 0)) ?_
  by_cases hs74 : 0 < a
  ·
   refine jH 2 rfl hS (fun w0 hw0 => Run.mv rfl) ?_
   refine qQ.take 3 rfl jK jK jK hS (fun w0 hw0 => Run.mv rfl) (Up.g rfl (by first | rfl | exact decide_eq_true hs74 | (simp [hs74]; done))) rfl rfl ?_
   refine qQ.take 4 rfl jK jK jK hS (fun w0 hw0 => Run.mv rfl) (Up.g rfl (by first | rfl | exact decide_eq_true hs74 | (simp [hs74]; done))) rfl rfl ?_
   refine qQ.take 5 rfl jK jK jK hS (fun w0 hw0 => Run.bin rfl rfl (Bin.sub_i64 _ 1 jo jo)) (Up.g rfl (by first | rfl | exact decide_eq_true hs74 | (simp [hs74]; done))) rfl rfl ?_
   refine qQ.take 6 rfl jK jK jK hS (fun w0 hw0 => Run.index1 _ rfl rfl zd zc jo) (Up.g rfl (by first | rfl | exact decide_eq_true hs74 | (simp [hs74]; done))) rfl rfl ?_
   refine qQ.take 7 rfl jK jK jK hS (fun w0 hw0 => Run.load rfl zh ((hA.nil hw0).at (i := a - 1) jo)) (Up.g rfl (by first | rfl | exact decide_eq_true hs74 | (simp [hs74]; done))) rfl rfl ?_
   refine qQ.take 8 rfl jK jK jK hS (fun w0 hw0 => Run.mv rfl) (Up.g rfl (by first | rfl | exact decide_eq_true hs74 | (simp [hs74]; done))) rfl rfl ?_
   refine qQ.take 9 rfl jK jK jK hS (fun w0 hw0 => Run.mv rfl) (Up.g rfl (by first | rfl | exact decide_eq_true hs74 | (simp [hs74]; done))) rfl rfl ?_
   refine qQ.take 10 rfl jK jK jK hS (fun w0 hw0 => Run.index1 _ rfl rfl zd zc jo) (Up.g rfl (by first | rfl | exact decide_eq_true hs74 | (simp [hs74]; done))) rfl rfl ?_
   refine qQ.take 11 rfl jK jK jK hS (fun w0 hw0 => Run.load rfl zh ((hA.nil hw0).at (i := pv) jo)) (Up.g rfl (by first | rfl | exact decide_eq_true hs74 | (simp [hs74]; done))) rfl rfl ?_
   refine qQ.cl 12 rfl jK (jE2 zcc) (bL _ _ _) (Up.g rfl (by first | rfl | exact decide_eq_true hs74 | (simp [hs74]; done))) rfl rfl ?_
   rintro e _ ⟨rfl, rfl⟩
   refine ⟨_, rfl, hS, ?_⟩
   by_cases hs85 : d3[a - 1]! < d3[pv]!
   ·
    refine qQ.take 13 rfl jK jK jK hS (fun w0 hw0 => Run.not rfl) (Up.g rfl (by first | rfl | exact decide_eq_true hs74 | exact decide_eq_true hs85 | (simp [hs74]; done) | (simp [hs85]; done))) rfl rfl ?_
    refine jH 14 rfl hS (fun w0 hw0 => Run.pickT rfl rfl (by first | rfl | exact decide_eq_true hs74 | exact decide_eq_true hs85 | (simp [hs74]; done) | (simp [hs85]; done))) ?_
    refine qQ.done jK ?_
    refine jN ⟨(), (js9 rfl rfl rfl rfl rfl rfl rfl rfl (jC (by grind))), ?_⟩
    exact hS
   refine qQ.take 13 rfl jK jK jK hS (fun w0 hw0 => Run.not rfl) (Up.g rfl (by first | rfl | exact decide_eq_true hs74 | exact decide_eq_false hs85 | (simp [hs74]; done) | (simp [hs85]; done))) rfl rfl ?_
   refine jH 14 rfl hS (fun w0 hw0 => Run.pickT rfl rfl (by first | rfl | exact decide_eq_true hs74 | exact decide_eq_false hs85 | (simp [hs74]; done) | (simp [hs85]; done))) ?_
   refine qQ.done jK ?_
   refine jN ⟨(), (js9 rfl rfl rfl rfl rfl rfl rfl rfl (jC (by grind))), ?_⟩
   exact hS
  refine jH 2 rfl hS (fun w0 hw0 => Run.mv rfl) ?_
  refine qQ.skip 3 rfl jK jK jK hS rfl rfl (by first | rfl | exact decide_eq_false hs74 | (simp [hs74]; done)) rfl rfl ?_
  refine qQ.skip 4 rfl jK jK jK hS rfl rfl (by first | rfl | exact decide_eq_false hs74 | (simp [hs74]; done)) rfl rfl ?_
  refine qQ.skip 5 rfl jK jK jK hS rfl rfl (by first | rfl | exact decide_eq_false hs74 | (simp [hs74]; done)) rfl rfl ?_
  refine qQ.skip 6 rfl jK jK jK hS rfl rfl (by first | rfl | exact decide_eq_false hs74 | (simp [hs74]; done)) rfl rfl ?_
  refine qQ.skip 7 rfl jK jK jK hS rfl rfl (by first | rfl | exact decide_eq_false hs74 | (simp [hs74]; done)) rfl rfl ?_
  refine qQ.skip 8 rfl jK jK jK hS rfl rfl (by first | rfl | exact decide_eq_false hs74 | (simp [hs74]; done)) rfl rfl ?_
  refine qQ.skip 9 rfl jK jK jK hS rfl rfl (by first | rfl | exact decide_eq_false hs74 | (simp [hs74]; done)) rfl rfl ?_
  refine qQ.skip 10 rfl jK jK jK hS rfl rfl (by first | rfl | exact decide_eq_false hs74 | (simp [hs74]; done)) rfl rfl ?_
  refine qQ.skip 11 rfl jK jK jK hS rfl rfl (by first | rfl | exact decide_eq_false hs74 | (simp [hs74]; done)) rfl rfl ?_
  refine qQ.skip 12 rfl jK jK jK hS rfl rfl (by first | rfl | exact decide_eq_false hs74 | (simp [hs74]; done)) rfl rfl ?_
  refine qQ.skip 13 rfl jK jK jK hS rfl rfl (by first | rfl | exact decide_eq_false hs74 | (simp [hs74]; done)) rfl rfl ?_
  refine jH 14 rfl hS (fun w0 hw0 => Run.pickF rfl rfl (by first | rfl | exact decide_eq_false hs74 | (simp [hs74]; done))) ?_
  refine qQ.done jK ?_
  refine jN ⟨(), (js9 rfl rfl rfl rfl rfl rfl rfl rfl (jC (by grind))), ?_⟩
  exact hS
 rintro _ wz hfz Γ hΓ
 have hA := hA.nil hfz
 have K := K.trans hfz jp
 refine jN (VC.sub _ hΓ ?_)
 refine jD rfl (fun hc7 => ?_) fun hc7 => ?_
 ·
  refine jS (jR (jm rfl (jm rfl (jm rfl (jM ?_)))))
  refine Ops.cl (jE4 Tryz.call148) (yL (some ad) c N d3 _ hA hN a b pv hpv.1 hpv.2 q2) rfl ?_
  rintro e w5 ⟨rfl, hA, hf5⟩
  have K := K.trans hf5 (fun x hx => .inl hx)
  obtain ⟨mid, d4, hpe⟩ : ∃ mid d4, partitionEqual ltN d3 a b pv = (mid, d4) := ⟨_, _, rfl⟩
  obtain ⟨m1, m2, msz, mB, mG⟩ := round_eq jE (partitionEqual_holds ltN) hc7.1 hpv.1 hpv.2 hsz3 hB (by simp [ltN]; omega) hpe
  rw [hpe] at hA ⊢
  dsimp only at *
  refine ⟨_, rfl, ?_⟩
  refine ja rfl (jO (jN (jv6 0 2 3 8 9 13 ?_)))
  refine jS (jR (jm rfl (ja rfl (jO (jN (jv6 0 1 2 3 8 9 ?_))))))
  refine jX ?_
  refine qK (qS ?_)
  refine jN ⟨(mid, b, lim3, wb, wp, d4), (js6 rfl rfl rfl rfl rfl rfl), ?_, ?_⟩
  · exact ⟨⟨m2, q2, by dsimp only; omega, hl3⟩, hA, mB, fun R h1 h2 => by obtain ⟨h3, h4⟩ := mG R h1 h2; exact hG R h3 h4, K⟩
  first | omega | (dsimp only; omega)
 refine jQ (jN (jv6 0 1 2 3 10 11 ?_))
 refine jS (jR (jm rfl (jm rfl (jm rfl (jM ?_)))))
 refine Ops.cl (jE4 Tryz.call149) (wJ (some ad) c N d3 _ hA hN a b pv hpv.1 hpv.2 q2) rfl ?_
 rintro e w5 ⟨rfl, hA, hf5⟩
 have K := K.trans hf5 (fun x hx => .inl hx)
 obtain ⟨mid, ap, d4, hpt⟩ : ∃ mid ap d4, partition ltN d3 a b pv = (mid, ap, d4) := ⟨_, _, _, rfl⟩
 obtain ⟨m1, m2, msz, mBl, mBr, mL, mR⟩ := round_part jE (partition_holds ltN) hpv.1 hpv.2 hsz3 hB hpt
 rw [hpt] at hA ⊢
 dsimp only at *
 refine ⟨_, rfl, ?_⟩
 refine jm rfl (je (Run.extract rfl rfl) (je (Run.extract rfl rfl) (ja rfl (ja rfl (jO (jN (jv7 0 1 2 3 10 14 15 ?_)))))))
 refine jS (jR (jm rfl (ja rfl (jO (jN (jv7 0 1 2 3 9 10 14 ?_))))))
 refine jS (jR (jm rfl (jm rfl (jb rfl rfl (Bin.sub_i64 _ _ jo jo) (jm rfl (jm rfl (jb rfl rfl (Bin.sub_i64 _ _ jo jo) (ja rfl (ja rfl (jO (jN (jv9 0 1 2 3 9 10 14 16 17 ?_))))))))))))
 refine jS (jR (jm rfl (jb rfl rfl (Bin.quo_i64 _ 8 jo jo) (ja rfl (jO (jN (jv9 0 1 2 3 9 14 16 17 18 ?_)))))))
 refine jS (jR (jm rfl (jm rfl (jb rfl rfl (Bin.lssN _ _) (jO (jN (jv10 0 1 2 3 9 14 16 17 18 113 ?_)))))))
 refine VC.meet (σ := Nat × Nat × Bool × Array Nat) (fun s => [(0, .slice (some ad) N c), (1, .int .i64 ((s.1 : Nat) : Int)), (2, .int .i64 ((s.2.1 : Nat) : Int)), (3, .int .i64 ((lim3 : Nat) : Int)), (8, .bool s.2.2.1), (9, .bool ap)]) (fun s wm8 => (s.1 ≤ s.2.1 ∧ s.2.1 ≤ N ∧ s.2.1 - s.1 < b - a) ∧ AO wm8 (some ad) c N s.2.2.2 ∧ Below ltN s.1 s.2.1 s.2.2.2 ∧ rL a b d3 s.1 s.2.1 s.2.2.2 ∧ Frm (ob (some ad)) w wm8) ?_ ?_
 ·
  refine jD rfl (fun hc8 => ?_) fun hc8 => ?_
  ·
   refine jS (jR (jm rfl (jm rfl (jb rfl rfl (Bin.geqN _ _) (ja rfl (jO (jN (jv7 0 1 2 3 8 9 14 ?_))))))))
   refine jS (jR (jm rfl (jm rfl (jm rfl (jM ?_)))))
   refine Ops.cl (jE4 Tryz.call114) (hrec (some ad) c N d4 _ a mid lim3 hA hN jo jo mBl jo jo) rfl ?_
   rintro e w6 ⟨R, rfl, hA, hPR, hSR, hf6⟩
   have K := K.trans hf6 (fun x hx => .inl hx)
   obtain ⟨hBl, hGl⟩ := mL R hPR hSR
   refine ⟨_, rfl, ?_⟩
   refine jO (jN (jv6 0 2 3 8 9 14 ?_))
   refine jR (jm rfl (jb rfl rfl (Bin.add_i64 _ 1 jo) (ja rfl (jO ?_))))
   refine jN ⟨(mid + 1, b, _, R), (js6 rfl rfl rfl rfl rfl rfl), ?_⟩
   exact ⟨⟨by dsimp only; omega, q2, by dsimp only; omega⟩, hA, hBl, hGl, K⟩
  refine jS (jR (jm rfl (jm rfl (jb rfl rfl (Bin.geqN _ _) (ja rfl (jO (jN (jv7 0 1 2 3 8 9 14 ?_))))))))
  refine jS (jR (jm rfl (jm rfl (jb rfl rfl (Bin.add_i64 _ 1 jo) (jm rfl (jM ?_))))))
  refine Ops.cl (jE4 Tryz.call114) (hrec (some ad) c N d4 _ (mid + 1) b lim3 hA hN jo jo mBr jo jo) rfl ?_
  rintro e w6 ⟨R, rfl, hA, hPR, hSR, hf6⟩
  have K := K.trans hf6 (fun x hx => .inl hx)
  obtain ⟨hBl, hGl⟩ := mR R hPR hSR
  refine ⟨_, rfl, ?_⟩
  refine jO (jN (jv6 0 1 3 8 9 14 ?_))
  refine jR (jm rfl (ja rfl (jO ?_)))
  refine jN ⟨(a, mid, _, R), (js6 rfl rfl rfl rfl rfl rfl), ?_⟩
  exact ⟨⟨m1, by dsimp only; omega, by dsimp only; omega⟩, hA, hBl, hGl, K⟩
 rintro ⟨a2, b2, wb2, R⟩ wm8 ⟨⟨z1, z2, z3⟩, hA, hBl, hGl, K⟩ Γ hΓ
 dsimp only at *
 refine qN (jN ⟨(a2, b2, lim3, wb2, ap, R), (js6 (hΓ.get _ _ rfl) (hΓ.get _ _ rfl) (hΓ.get _ _ rfl) (hΓ.get _ _ rfl) (hΓ.get _ _ rfl) (hΓ.get _ _ rfl)), ?_, ?_⟩)
 · exact ⟨⟨z1, z2, by dsimp only; omega, hl3⟩, hA, hBl, fun R2 h1 h2 => by obtain ⟨h3, h4⟩ := hGl R2 h1 h2; exact hG R2 h3 h4, K⟩
 first | omega | (dsimp only; omega)
theorem rO : ∀ M, wH M
 | 0 => fun B c N d w a b lim _ _ _ _ _ h => jo
 | M + 1 => zJ M (rO M)
theorem wM (B : Option Addr) (c N : Nat) (d : Array Nat) (w : World) (h : AO w B c N d) (hN : N ≤ 1000000) :
  Calls Tryz.prog 64 #[.slice B N c] w fun e w' => ∃ R, e = .returned (.tuple #[]) ∧ AO w' B c N R ∧ PermIn 0 N d R ∧ SortedIn ltN 0 N R ∧ Frm (ob B) w w' := by
 refine VC.calls (nt := 11) (res := #[]) Tryz.func64 rfl Tryz.ntmps64 Tryz.results64 rfl ?_
 refine jS (jR (jm rfl (je (Run.lenS rfl zd) (ja rfl (jO (jN (jv2 0 2 ?_)))))))
 refine jR (jm rfl (jm rfl (jm rfl (je (Run.convN _ rfl zad zce (by simp only [bmax]; omega)) ?_))))
 refine Ops.cl (jE1 Tryz.call115) (Tryz.bits_Len ((N : Nat) : Int) _ jo jo) rfl ?_
 rintro e _ ⟨rfl, rfl⟩
 rw [zdq]
 have hbl : Go.Lib.bitLen N ≤ 64 := by
  rcases zbu N with h0 | h0
  · rw [h0]; decide
  exact (kF hN h0).2.2
 refine ⟨_, rfl, ?_⟩
 refine Ops.cl (jE4 Tryz.call114) (rO (N + 1) B c N d _ 0 N (Go.Lib.bitLen N) h hN jo jo (Or.inl rfl) jo jo) rfl ?_
 rintro e w1 ⟨R, rfl, hA, hP, hS, hf⟩
 refine ⟨_, rfl, ?_⟩
 refine jO ?_
 refine jL ?_
 exact ⟨R, rfl, hA, hP, hS, hf⟩
end
section
open Go.RowKit Go.Sort
def dP (x : Nat) : Value := .int .u64 ((x : Nat) : Int)
theorem qQw {w : World} {base g cap n : Nat} {e : TypeId} {os : Array Obj} {cur : Array Value} {ss ts : List Nat} (hl : ts.length = ss.length) (hbase : base ≤ g) (hb : w.heap[g]? = some (.cells cur e (0, 0)))
  (h1 : ss.length ≤ cap) (h2 : cap ≤ maxLen) (h3 : cur.size = cap * 1) :
  (grow (putRow dP (Sort.ahead w n) g 0 ts.toArray) os).ownsRow base e 1 (.slice (some ⟨g, 0, none⟩) ss.length cap) ss.length (UB ts) := by
 have ht : (putCells dP 0 ts.toArray cur).toList.take ts.length = UB ts := by
  apply zbz
  intro j
  by_cases hj : j < ts.length
  ·
   rw [zbh hj, zel]
   simp [putCells, UB, dP, hj, show j < cur.size by omega]
  rw [List.getElem?_take_eq_none jo, zbe (by simp [UB]; omega)]
 have hh : (grow (putRow dP (Sort.ahead w n) g 0 ts.toArray) os).heap[g]? = some (.cells (putCells dP 0 ts.toArray cur) e (0, 0)) := by
  have hlt : g < w.heap.size := Array.getElem?_eq_some_iff.1 hb |>.1
  rw [heap_grow_old _ _ (by simpa using hlt)]
  simp [putRow, mapBlock, Sort.ahead, zek, hb, onCells]
 exact ⟨by simp [UB, hl], .inr ⟨g, cap, _, rfl, hbase, hh, h1, h2, by simp [putCells, h3], by rw [zbj, ← hl]; exact ht⟩⟩
theorem qQx {w : World} {g n : Nat} {os : Array Obj} (d : Array Nat) : w.grownBy (grow (putRow dP (Sort.ahead w n) g 0 d) os) (some g) := by
 refine ⟨rfl, rfl, rfl, jp, fun k hk hne => ?_⟩
 rw [heap_grow_old _ _ (by simpa using hk)]
 have : g ≠ k := fun e => hne (by rw [e])
 simp [putRow, mapBlock, Sort.ahead, zek, this]
theorem Own.putU {w : World} {g c m : Nat} {e : TypeId} {os : Array Obj} {ss ts : List Nat} (h : Own w e 1 (some ⟨g, 0, none⟩) ss.length c (UB ss)) (hl : ts.length = ss.length) :
  Own (grow (putRow dP (Sort.ahead w m) g 0 ts.toArray) os) e 1 (some ⟨g, 0, none⟩) ss.length c (UB ts) ∧ Frm [g] w (grow (putRow dP (Sort.ahead w m) g 0 ts.toArray) os) := by
 rcases h.cases with ⟨h0, _⟩ | ⟨g', cur, hA, hb, h1, h2, h3, h4⟩
 · cases h0
 cases hA
 refine ⟨qQw hl (zah _) hb h1 h2 (by simpa using h3), ?_⟩
 have := Frm.grown (qQx (w := w) (g := g) (n := m) (os := os) ts.toArray)
 simpa using this
theorem Own.holdsU {w : World} {g c : Nat} {e : TypeId} {ss : List Nat} (h : Own w e 1 (some ⟨g, 0, none⟩) ss.length c (UB ss)) : Holds dP w g 0 ss.toArray ∧ g < w.heap.size := by
 rcases h.cases with ⟨h0, _⟩ | ⟨g', cur, hA, hb, h1, h2, h3, h4⟩
 · cases h0
 cases hA
 refine ⟨?_, hb.lt⟩
 rw [zbj] at h4
 intro j hj
 have hj' : j < ss.length := by simpa using hj
 have hb' : w.heap[g]? = some (.cells cur e (0, 0)) := hb
 refine ⟨?_, by simp [World.frozen?, hb']⟩
 have h5 : (cur.toList.take ss.length)[j]? = (UB ss)[j]? := by rw [h4]
 rw [zbh hj'] at h5
 simp only [World.cell?, hb', zeg]
 simp only [Option.isSome_none, zba, if_false]
 rw [← zel, h5]
 simp [UB, dP, hj']
theorem tE (x y : Nat) : ((x : Int) == (y : Int)) = decide (x = y) := by
 rw [zck]
 simp only [beq_iff_eq, decide_eq_true_eq]
 omega
theorem eqlU (P : Program) (T : TypeId) : EqlAt P T dP (fun x y => decide (x = y)) := ⟨fun x y w => by simp [binOp, Op.intCmp, dP, tE], fun op a b x y w => GuardAt.int P T .u64 op a b x y w⟩
theorem neqU (P : Program) (T : TypeId) : NeqAt P T dP (fun x y => decide (x = y)) := ⟨fun x y w => by simp [binOp, Op.intCmp, dP, bne, tE], fun op a b x y w => GuardAt.int P T .u64 op a b x y w⟩
theorem oneU : OneCell dP := fun _ => rfl
theorem tJ (ss : List Nat) : (Lib.compact ss).length ≤ ss.length := by
 unfold Lib.compact Lib.compactUpTo
 rw [zaj]
 refine zay (zdc _ _) ?_
 simp
theorem qZ9 (w : World) : (zeroValue 40).run Tryz.prog w = .ok (dP 0) w := wF w
theorem pS (g c : Nat) (ss : List Nat) (w : World) (h : Own w 40 1 (some ⟨g, 0, none⟩) ss.length c (UB ss)) (hs : ss.length ≤ 1000000) :
  Calls Tryz.prog 65 #[.slice (some ⟨g, 0, none⟩) ss.length c] w fun e w' => e = .returned (.slice (some ⟨g, 0, none⟩) (Lib.compact ss).length c) ∧ Own w' 40 1 (some ⟨g, 0, none⟩) (Lib.compact ss).length c (UB (Lib.compact ss)) ∧ Frm [g] w w' := by
 obtain ⟨h1, h2⟩ := h.holdsU
 have hsz : ss.toArray.size = ss.length := jp
 have key := Tryz.slices_Compact_f65 dP oneU (eqlU _ _) (neqU _ _) 0 qZ9 g 0 c ss.toArray w h1 (by rw [hsz]; omega) (by rw [hsz]; exact h.le)
 rw [hsz] at key
 refine key.mono fun e w' ⟨he, m, hw⟩ => ?_
 have hle := tJ ss
 have hcp : Lib.compactUpTo ss.toArray ss.length = Lib.compact ss := rfl
 rw [hcp] at he hw
 obtain ⟨h3, h4⟩ := h.putU (m := m) (os := #[]) (ts := Lib.compact ss ++ List.replicate (ss.length - (Lib.compact ss).length) 0) (by simp; omega)
 have hg : grow (putRow dP (Sort.ahead w m) g 0 (Lib.compact ss ++ List.replicate (ss.length - (Lib.compact ss).length) 0).toArray) #[] = w' := by rw [hw, pE]
 rw [hg] at h3 h4
 refine ⟨he, ?_, h4⟩
 have h5 := h3.short (k := (Lib.compact ss).length) hle
 simpa [pK, UB, List.take_append] using h5
end
section
open Go.RowKit Go.Sort
theorem gS {d : Array Nat} (hd : ∀ i j, i ≤ j → j < d.size → d[i]! ≤ d[j]!) : ∀ m, m ≤ d.size →
  (Lib.compactUpTo d m).Pairwise (· < ·) ∧ (∀ x, x ∈ Lib.compactUpTo d m ↔ ∃ j, j < m ∧ d[j]! = x)
 | 0, _ => by simp [Lib.compactUpTo]
 | m + 1, hm => by
  obtain ⟨h1, h2⟩ := gS hd m jo
  rw [Lib.compactUpTo_succ]
  by_cases hk : Lib.keeps d m = true
  ·
   rw [if_pos hk]
   refine ⟨List.pairwise_append.2 ⟨h1, jp, fun x hx y hy => ?_⟩, fun x => ?_⟩
   ·
    simp only [za] at hy
    subst hy
    obtain ⟨j, hj, rfl⟩ := (h2 x).1 hx
    have h3 := hd j (m - 1) jo jo
    have h4 := hd (m - 1) m jo jo
    unfold Lib.keeps at hk
    rw [decide_eq_true_eq] at hk
    have h5 : d[m - 1]! < d[m]! := Nat.lt_of_le_of_ne h4 (by rcases hk with h | h; omega; exact fun e => h e.symm)
    omega
   rw [List.mem_append, h2, za]
   constructor
   ·
    rintro (⟨j, hj, rfl⟩ | rfl)
    · exact ⟨j, jo, rfl⟩
    exact ⟨m, jo, rfl⟩
   rintro ⟨j, hj, rfl⟩
   rcases zbs j m with h | h
   · exact .inl ⟨j, h, rfl⟩
   have : j = m := jo
   subst this
   exact .inr rfl
  rw [if_neg hk, zbq]
  refine ⟨h1, fun x => ?_⟩
  rw [h2]
  unfold Lib.keeps at hk
  rw [decide_eq_true_eq] at hk
  constructor
  ·
   rintro ⟨j, hj, rfl⟩
   exact ⟨j, jo, rfl⟩
  rintro ⟨j, hj, rfl⟩
  rcases zbs j m with h | h
  · exact ⟨j, h, rfl⟩
  have : j = m := jo
  subst this
  have hne : j ≠ 0 := fun h => hk (.inl h)
  have heq : d[j]! = d[j - 1]! := Classical.not_not.1 fun h => hk (.inr h)
  exact ⟨j - 1, jo, heq.symm⟩
theorem tF : ∀ {a b : List Nat}, a.Pairwise (· < ·) → b.Pairwise (· < ·) → (∀ x, x ∈ a ↔ x ∈ b) → a = b
 | [], [], _, _, _ => rfl
 | [], y :: b, _, _, h => absurd ((h y).2 jp) jp
 | x :: a, [], _, _, h => absurd ((h x).1 jp) jp
 | x :: a, y :: b, ha, hb, h => by
  have ha := List.pairwise_cons.1 ha
  have hb := List.pairwise_cons.1 hb
  have hxy : x = y := by
   rcases zbc.1 ((h x).1 jp) with h1 | h1
   · exact h1
   rcases zbc.1 ((h y).2 jp) with h2 | h2
   · exact h2.symm
   have := hb.1 x h1
   have := ha.1 y h2
   omega
  subst hxy
  rw [tF ha.2 hb.2]
  intro z
  constructor
  ·
   intro hz
   rcases zbc.1 ((h z).1 (zcg _ hz)) with h1 | h1
   · subst h1; have := ha.1 z hz; omega
   exact h1
  intro hz
  rcases zbc.1 ((h z).2 (zcg _ hz)) with h1 | h1
  · subst h1; have := hb.1 z hz; omega
  exact h1
def kI (l out : List Nat) : Prop := out.Pairwise (· < ·) ∧ ∀ x, x ∈ out ↔ x ∈ l
theorem kI.ext {l a b : List Nat} (h : kI l a) (k : kI l b) : a = b := tF h.1 k.1 (fun x => (h.2 x).trans (k.2 x).symm)
theorem qZt {l : List Nat} {R : Array Nat} (hP : Go.Sort.PermIn 0 l.length l.toArray R) (hS : Go.Sort.SortedIn ltN 0 l.length R) : R.toList.length = l.length ∧ kI l (Lib.compact R.toList) := by
 have hsz : R.size = l.length := by rw [hP.1]; simp
 have hlen : R.toList.length = l.length := by simp [hsz]
 have hd : ∀ i j, i ≤ j → j < R.size → R[i]! ≤ R[j]! := fun i j hij hj => by
  rcases zbs i j with h | h
  ·
   have := hS i j (zah _) h jo
   simp [ltN] at this
   exact this
  rw [show i = j by omega]
  exact zv _
 obtain ⟨h1, h2⟩ := gS hd R.size (zv _)
 have hperm : R.toList.Perm l := by
  have h3 := hP.2.2
  have e1 : (R.extract 0 l.length).toList = R.toList := by rw [← hsz]; simp
  have e2 : (l.toArray.extract 0 l.length).toList = l := jp
  rw [e1, e2] at h3
  exact h3
 have hc : Lib.compact R.toList = Lib.compactUpTo R R.size := by unfold Lib.compact; rw [Array.toArray_toList, hlen, hsz]
 refine ⟨hlen, by rw [hc]; exact h1, fun x => ?_⟩
 rw [hc, h2, ← hperm.mem_iff]
 constructor
 ·
  rintro ⟨j, hj, rfl⟩
  rw [getElem!_pos _ j hj]
  exact Array.getElem_mem_toList hj
 intro hx
 obtain ⟨j, hj, rfl⟩ := zu hx
 have hj' : j < R.size := by simpa using hj
 exact ⟨j, hj', by rw [getElem!_pos _ j hj']; simp⟩
def fQ (m : MailP) : List Nat := m.l.flatMap fun x => x.2.l.map MsgP.blob
theorem tK (A : Option Addr) (c n : Nat) (w : World) (hn : n < 2) :
  Calls Tryz.prog 65 #[.slice A n c] w fun e w' => e = .returned (.slice A n c) ∧ w = w' := by
 refine VC.calls (nt := 61) (res := #[.tmp 2]) Tryz.func65 rfl Tryz.ntmps65 Tryz.results65 rfl ?_
 refine jS (jR (ja rfl (jO (jN (jv1 0 ?_)))))
 refine jS (jS (jR (jm rfl (je (Run.lenS rfl zd) (jb rfl rfl (Bin.lssN _ 2) (jO (jN (jv2 0 8 ?_))))))))
 refine VC.condT rfl (decide_eq_true jo) ?_
 refine jS (jR (jm rfl (ja rfl (jO (jN (jv1 2 ?_))))))
 refine jT ?_
 refine qZ (qF rfl ?_)
 exact ⟨rfl, rfl⟩
theorem pT (A : Option Addr) (c : Nat) (ss : List Nat) (w : World) (h : Own w 40 1 A ss.length c (UB ss)) (hs : ss.length ≤ 1000000) :
  Calls Tryz.prog 65 #[.slice A ss.length c] w fun e w' => e = .returned (.slice A (Lib.compact ss).length c) ∧ Own w' 40 1 A (Lib.compact ss).length c (UB (Lib.compact ss)) ∧ Frm (ob A) w w' := by
 cases A with
 | none =>
  have h0 : ss = [] := by
   rcases h.cases with ⟨_, h1, _⟩ | ⟨g, cur, h1, _⟩
   · exact zaa h1
   cases h1
  subst h0
  refine Calls.mono (tK none c 0 w jd) (fun e w' hq => ?_)
  obtain ⟨he, rfl⟩ := hq
  exact ⟨he, h, Frm.refl _ _⟩
 | some ad =>
  obtain ⟨g, rfl⟩ : ∃ g, ad = ⟨g, 0, none⟩ := by
   rcases h.cases with ⟨h1, _⟩ | ⟨g, cur, h1, _⟩
   · cases h1
   cases h1; exact ⟨g, rfl⟩
  exact pS g c ss w h hs
set_option maxHeartbeats 1000000 in
theorem mF (m : MlC) (w : World) (hm : RdL w m) (hv : cZ w) :
  Calls Tryz.prog 20 #[m.val] w fun e w' => ∃ B c ls, e = .returned (.slice B ls.length c) ∧ Own w' 40 1 B ls.length c (UB ls) ∧ (bZ m.p → kI (fQ m.p) ls) ∧ (¬ bZ m.p → ls = []) ∧ Frm [] w w' := by
 refine VC.calls (nt := 37) (res := #[.tmp 2]) Tryz.func20 rfl Tryz.ntmps20 Tryz.results20 rfl ?_
 refine jS (jR ?_)
 refine Ops.m (qH.box rfl) rfl ?_
 rintro _ w1 ⟨rfl, hF_w1⟩
 have hb1 : Blk w1 w.heap.size 25 #[.slice m.A m.l.length m.c, .slice m.S m.ss.length m.d, .int .i64 m.v, .int .i64 m.b] := hF_w1.blk
 have K := hF_w1.frm
 generalize hg1 : w.heap.size = g1 at hb1 ⊢
 refine ja rfl (jO (jN (jv1 1 ?_)))
 refine jS (jS (jR (je (Run.loadA rfl zi zb hb1.cells (by first | rfl | (simp; done))) ?_)))
 refine Ops.cl (jE1 zed) (dJ m _ (hm.frm K) (hv.frm K)) rfl ?_
 rintro e w2 ⟨rfl, hf2⟩
 refine ⟨_, rfl, ?_⟩
 have hb1 := hb1.frm hf2 jp
 have K := K.trans hf2 jp
 refine je (Run.not rfl) (jO (jN (jv2 1 10 ?_)))
 refine VC.condB rfl (fun hc1 => ?_) (fun hc1 => ?_)
 ·
  have hc1 : ¬ bZ m.p := by simpa using hc1
  refine jS (jR (ja rfl (jO (jN (jv1 2 ?_)))))
  refine jT ?_
  refine qZ (qF rfl ?_)
  exact ⟨none, 0, [], rfl, Own.nil _ _ _, fun h => absurd h hc1, fun _ => rfl, K⟩
 have hc1 : bZ m.p := by simpa using hc1
 obtain ⟨hm24, _⟩ := cB hc1
 have hpl := cA m
 refine jQ (jN (jv1 1 ?_))
 refine jS (jR (ja rfl (jO (jN (jS (jS (jR (jf rfl zg rfl zab (jl rfl zan (hb1.cell 0) (je (Run.lenS rfl zf) ?_))))))))))
 refine jx .i64 0 ?_
 refine jO (jN (jv4 3 12 13 14 ?_))
 refine jB ?_
 refine VC.loop (σ := Nat × Option Addr × Nat × List Nat) (fun s => [(3, .slice s.2.1 s.2.2.2.length s.2.2.1), (12, .slice m.A m.l.length m.c), (13, .int .i64 ((m.l.length : Nat) : Int)), (14, .int .i64 ((s.1 : Nat) : Int))]) (fun s wr => s.1 ≤ m.l.length ∧ Own wr 40 1 s.2.1 s.2.2.2.length s.2.2.1 (UB s.2.2.2) ∧ s.2.2.2 = (m.l.take s.1).flatMap (fun x => (Ms x.l).map MsgP.blob) ∧ s.2.2.2.length ≤ 128 * s.1 ∧ (∀ b ∈ ob s.2.1, w.heap.size ≤ b) ∧ Frm [] w wr) (fun s => m.l.length - s.1) (0, none, 0, []) (js4 rfl rfl rfl rfl) ⟨zah _, Own.nil _ _ _, rfl, jp, by simp [ob], K⟩ ?_
 rintro ⟨i, B, d, L⟩ wr ⟨hi, ho, hL, hLl, hob, K⟩
 dsimp only at *
 refine jS (jR (jb rfl rfl (Bin.lssN _ _) (jO (jN (jS ?_)))))
 refine jD rfl (fun hc2 => ?_) fun hc2 => ?_
 ·
  obtain ⟨ad, hA, hel⟩ := (hm.l.frm K).elem hc2
  have hxa := hm.l.el _ (zm hc2)
  have hxl : (m.l[i]).l.length ≤ 128 := by
   have h1 := (hc1.2 i jo).1.1.2.2.2.2
   rw [cS m hc2 jo] at h1
   rwa [show (m.l[i]).p.2.l.length = (m.l[i]).l.length from zaj _] at h1
  have hts : (m.l.take (i + 1)).flatMap (fun x => (Ms x.l).map MsgP.blob) = L ++ (Ms (m.l[i]).l).map MsgP.blob := by rw [zao, ze hc2, List.flatMap_append, hL]; simp
  generalize hx : m.l[i] = x at *
  refine jQ (jN (jv4 3 12 13 14 ?_))
  refine jS (jB (jS (jR (je (Run.indexS i (show _ = some (Value.slice (some ad) m.l.length m.c) by rw [← hA]; rfl) rfl zf zn hc2) (je (Run.loadA rfl zdy zn hel (by first | rfl | (simp; done))) ?_)))))
  refine Ops.m (qH.alloc cE) rfl ?_
  rintro _ w3 ⟨rfl, hF3⟩
  refine Ops.st (qW.storeA rfl rfl zn hF3.blk rfl x.cells_one) ?_
  rintro w4 ⟨hb5, hf4, hs4⟩
  have hb5 : Blk w4 wr.heap.size 45 x.cells.toArray := hb5
  have K4 : Frm [] wr w4 := hF3.frm.trans hf4 jp
  have hkk := K.size
  have K := K.trans K4 jp
  have ho := ho.frm K4 jp
  generalize hg5e : wr.heap.size = g5 at hb5 hkk ⊢
  refine jO (jN (jv5 3 5 12 13 14 ?_))
  refine jS (jR (jf rfl zae rfl zp (jf rfl zw rfl zap (jl rfl zbd (hb5.cell 3) (je (Run.lenS rfl zaf) ?_)))))
  refine jx .i64 0 ?_
  refine jO (jN (jv7 3 12 13 14 20 21 22 ?_))
  refine jB ?_
  refine VC.loop (σ := Nat × Option Addr × Nat × List Nat) (fun s => [(3, .slice s.2.1 s.2.2.2.length s.2.2.1), (12, .slice m.A m.l.length m.c), (13, .int .i64 ((m.l.length : Nat) : Int)), (14, .int .i64 ((i : Nat) : Int)), (20, .slice x.A x.l.length x.c), (21, .int .i64 ((x.l.length : Nat) : Int)), (22, .int .i64 ((s.1 : Nat) : Int))]) (fun s wr => s.1 ≤ x.l.length ∧ Own wr 40 1 s.2.1 s.2.2.2.length s.2.2.1 (UB s.2.2.2) ∧ s.2.2.2 = L ++ ((Ms x.l).take s.1).map MsgP.blob ∧ (∀ b ∈ ob s.2.1, w.heap.size ≤ b) ∧ Frm [] w wr) (fun s => x.l.length - s.1) (0, B, d, L) (js7 rfl rfl rfl rfl rfl rfl rfl) ⟨zah _, ho, jp, hob, K⟩ ?_
  rintro ⟨k, B2, d2, L2⟩ wr2 ⟨hk, ho, hL2, hob, K⟩
  dsimp only at *
  have hL2l : L2.length = L.length + k := by rw [hL2, zl, zaj, zk, zaj]; omega
  refine jS (jR (jb rfl rfl (Bin.lssN _ _) (jO (jN (jS ?_)))))
  refine jD rfl (fun hc3 => ?_) fun hc3 => ?_
  ·
   obtain ⟨ad2, hA2, hel2⟩ := (hxa.rd.frm K).elem hc3
   have hts2 : L ++ ((Ms x.l).take (k + 1)).map MsgP.blob = L2 ++ [(x.l[k]).m.blob] := by rw [hL2, zao, zca, ze hc3, zbm, zci]; rfl
   generalize hy : x.l[k] = y at *
   refine jQ (jN (jv7 3 12 13 14 20 21 22 ?_))
   refine jS (jB (jS (jR (je (Run.indexS k (show _ = some (Value.slice (some ad2) x.l.length x.c) by rw [← hA2]; rfl) rfl zaf zar hc3) (je (Run.loadA rfl zdx zar hel2 (by first | rfl | (simp; done))) ?_)))))
   refine Ops.m (qH.alloc fP) rfl ?_
   rintro _ w5 ⟨rfl, hF5⟩
   refine Ops.st (qW.storeA rfl rfl zar hF5.blk rfl y.cells_one) ?_
   rintro w6 ⟨hb7, hf6, hs6⟩
   have hb7 : Blk w6 wr2.heap.size 60 y.cells.toArray := hb7
   have K6 : Frm [] wr2 w6 := hF5.frm.trans hf6 jp
   have K := K.trans K6 jp
   have ho := ho.frm K6 jp
   refine jO (jN (jv8 3 7 12 13 14 20 21 22 ?_))
   refine jR (jm rfl (jf rfl zak rfl zc (jl rfl zh (hb7.cell 4) ?_)))
   refine Ops.m (qH.buildS1 rfl zd zc wF jd jd rfl rfl) rfl ?_
   rintro _ w7 ⟨rfl, hF7⟩
   have hr7 : Rd w7 1 (some ⟨w6.heap.size, 0, none⟩) 1 (UB [y.m.blob]) := Rd.of_blk (n := 1) (size := 1) hF7.blk rfl
   have hk7 := K.size
   have K := K.trans hF7.frm jp
   have ho := ho.frm hF7.frm jp
   refine Ops.m (qH.app rfl rfl zd (qX9) rfl jd ho hr7 (qZs _) jo jo) rfl ?_
   rintro _ w8 ⟨B5, d5, rfl, ho5, hf5, hob5⟩
   rw [← pK] at ho5
   have hk8 := hF7.size
   have K5 := K.own hf5 hob
   have hob6 : ∀ b ∈ ob B5, w.heap.size ≤ b := fun b hb => by
    rcases hob5 with h | h
    · rw [h] at hb; exact hob b hb
    rw [h, za] at hb; omega
   refine ja rfl (jO ?_)
   refine qN (jN ?_)
   refine jv7 3 12 13 14 20 21 22 ?_
   refine jR (jb rfl rfl (Bin.add_i64 _ 1 jo) (jm rfl (jO ?_)))
   refine jN ⟨(k + 1, B5, d5, L2 ++ [y.m.blob]), (js7 (by rw [zl]; rfl) rfl rfl rfl rfl rfl rfl), ?_, ?_⟩
   · exact ⟨hc3, by rw [zl]; exact ho5, hts2.symm, hob6, K5⟩
   first | omega | (dsimp only; omega)
  refine jX ?_
  refine qK (qK (qS ?_))
  refine qN (jN ?_)
  refine jv4 3 12 13 14 ?_
  refine jR (jb rfl rfl (Bin.add_i64 _ 1 jo) (jm rfl (jO ?_)))
  refine jN ⟨(i + 1, B2, d2, L2), (js4 rfl rfl rfl rfl), ?_, ?_⟩
  ·
   obtain rfl : k = x.l.length := jo
   rw [zt (by rw [zaj]; omega)] at hL2
   exact ⟨hc2, ho, by rw [hts, hL2], by dsimp only; omega, hob, K⟩
  first | omega | (dsimp only; omega)
 obtain rfl : i = m.l.length := jo
 rw [zt (zv _)] at hL
 have hbl : fQ m.p = L := by rw [hL]; unfold fQ; rw [show m.p.l = m.l.map Nc.p from rfl, List.flatMap_map]; rfl
 refine jX ?_
 refine qK (qK (qS ?_))
 refine jN (jv1 3 ?_)
 refine jS (jR (jM ?_))
 refine Ops.cl (jE1 Tryz.call64) (wM B d L.length L.toArray _ (show AO _ B d L.length L.toArray from ⟨jp, by simpa using ho⟩) jo) rfl ?_
 rintro e w9 ⟨R, rfl, hAR, hPR, hSR, hf9⟩
 obtain ⟨hRl, hnub⟩ := qZt hPR hSR
 have hoR := hAR.2
 rw [← hRl] at hoR
 have K := K.own hf9 hob
 refine ⟨_, rfl, ?_⟩
 rw [← hRl]
 refine jO (jN (jv1 3 ?_))
 refine jS (jR (jM ?_))
 refine Ops.cl (jE1 Tryz.call65) (pT B d R.toList _ hoR jo) rfl ?_
 rintro e w10 ⟨rfl, hoC, hf10⟩
 have K := K.own hf10 hob
 refine ⟨_, rfl, ?_⟩
 refine ja rfl (jO (jN (jv1 2 ?_)))
 refine jT ?_
 refine qF rfl ?_
 exact ⟨B, d, Lib.compact R.toList, rfl, hoC, fun _ => by rw [hbl]; exact hnub, fun h => absurd hc1 h, K⟩
end
section
open Go.RowKit
def wN (l0 l : List NmP) : Prop := (∀ z ∈ l0, z ∈ l) ∧ ∀ z ∈ l, z ∈ l0 ∨ z.2.l = []
theorem oW (l0 : List NmP) : ∀ (ns : List Tx) (m : MailP), (∀ x ∈ ns, qJ x ∉ l0.map Prod.fst) → wN l0 m.l → wN l0 (ns.foldl bU m).l
 | [], _, _, h => h
 | x :: ns, m, hn, h => by
  refine oW l0 ns (bU m x) (fun y hy => hn y (zcg _ hy)) ⟨fun z hz => fG (h.1 z hz) (fun e => hn x zdm ?_), fun z hz => ?_⟩
  ·
   rw [← e]
   exact zaq hz
  rcases dF hz with rfl | ⟨q, _⟩
  · exact .inr rfl
  exact h.2 z q
theorem oY (m : MailP) (s : Tx) : wN m.l (bX m s).l := oW m.l _ m (fun x hx => by
 unfold qO at hx
 rw [List.mem_reverse, List.mem_filter] at hx
 exact of_decide_eq_true hx.2) ⟨fun _ h => h, fun _ h => .inl h⟩
theorem wP {m : MailP} {f t : Tx} (h : bZ m) (hf : isN f) (ht : isN t) (hfi : qJ f ≠ qT) (hall : ∀ j (hj : j < (goF f m.l).length), eH (stF f m.l) f t (goF f m.l)[j]) (hroom : cV m (qO (stF f m.l) (upN t)).length (qO (stF f m.l) (upN t)).length = 0) :
  ∀ j, j ≤ (goF f m.l).length → ∀ o, (((goF f m.l).map (bC f t)).take j).foldl fR (bX { m with l := stF f m.l } (upN t)) = o →
   (∀ z ∈ o.l, z ∈ stF f m.l ∨ z.2.l = [] ∨ ∃ i, ∃ hi : i < (goF f m.l).length, i < j ∧ z = bC f t (goF f m.l)[i]) ∧ (∀ z ∈ stF f m.l, z ∈ o.l) ∧ ∀ i (hi : i < (goF f m.l).length), i < j → bC f t (goF f m.l)[i] ∈ o.l := by
 have hfl := (cJ m).1 h
 have hgo : (goF f m.l).Sublist m.l := zcj
 have hgt : ∀ x ∈ goF f m.l, dG x.1 ∧ goP f x.1 := fun x hx => ⟨hfl.1.2.2.1 x (hgo.subset hx), of_decide_eq_true (List.mem_filter.1 hx).2⟩
 have hgr : bK (goF f m.l) := hfl.1.2.1.sublist (hgo.map _)
 have hname := fun j (hj : j < (goF f m.l).length) => nR (hgt _ (zm hj)).1 (hgt _ (zm hj)).2 hf ht (hall j hj)
 intro j
 induction j with
 | zero =>
  rintro _ o rfl
  obtain ⟨k1, k2⟩ := oY { m with l := stF f m.l } (upN t)
  exact ⟨fun z hz => (k2 z hz).imp id .inl, k1, fun i hi h0 => jo⟩
 | succ j ih =>
  intro hj o ho
  have hj' : j < (goF f m.l).length := jo
  obtain ⟨o', ho', om, ov, ob, ol, oz⟩ := lE h hf ht hfi hall hroom j jo
  obtain ⟨i1, i2, i3⟩ := ih jo o' ho'
  obtain ⟨n1, n2, n3⟩ := hname j hj'
  have hxg := hgt _ (zm hj')
  have hxr := jP hxg.1 hxg.2
  have hne : ∀ i (hi : i < (goF f m.l).length), i < j → ((goF f m.l)[i]).1 ≠ ((goF f m.l)[j]).1 := fun i hi hij e => by
   have := dE hgr hi hj' hij
   rw [e] at this
   exact bN _ this
  have hnew : (bC f t (goF f m.l)[j]).1 ∉ o'.l.map Prod.fst := by
   intro hin
   obtain ⟨z, hz, hze⟩ := List.mem_map.1 hin
   rcases oz z hz with q | ⟨_, q⟩ | ⟨i, hi, hij, rfl⟩
   · exact n3 (by rw [← hze]; exact zaq q)
   ·
    rw [hze, n1, zl, bT] at q
    omega
   obtain ⟨p1, _, _⟩ := hname i hi
   rw [p1, n1] at hze
   have hze := List.append_cancel_left hze
   have hig := hgt _ (zm hi)
   have := (jP hig.1 hig.2).1
   exact hne i hi hij (by rw [this, hze, ← hxr.1])
  have hstep : o = { o' with l := bV o'.l (bC f t (goF f m.l)[j]).1 (bC f t (goF f m.l)[j]).2 } := by
   rw [← ho, zao, zdg, ho', zca, ze hj']
   exact rD n2.2 hnew
  have keep : ∀ z ∈ o'.l, z ∈ o.l := fun z hz => by
   rw [hstep]
   exact fG hz (fun e => hnew (by rw [← e]; exact zaq hz))
  refine ⟨fun z hz => ?_, fun z hz => keep z (i2 z hz), fun i hi hij => ?_⟩
  ·
   rw [hstep] at hz
   rcases dF hz with rfl | ⟨q, _⟩
   · exact .inr (.inr ⟨j, hj', jo, rfl⟩)
   rcases i1 z q with q | q | ⟨i, hi, hij, q⟩
   · exact .inl q
   · exact .inr (.inl q)
   exact .inr (.inr ⟨i, hi, jo, q⟩)
  rcases zbs i j with q | q
  · exact keep _ (i3 i hi q)
  obtain rfl : i = j := jo
  rw [hstep]
  exact lT
def mY (m y : MailP) (t : Tx) : Prop := (∀ b, b ∈ fQ y ↔ b ∈ fQ m) ∧ (∀ x ∈ m.l, x.1 = qT ∨ ∃ z ∈ y.l, z.2 = x.2) ∧ qJ t ∈ qD y
theorem gT {m : MailP} {b : Nat} : b ∈ fQ m ↔ ∃ x ∈ m.l, ∃ y ∈ x.2.l, y.blob = b := by
 unfold fQ
 rw [List.mem_flatMap]
 constructor
 ·
  rintro ⟨x, hx, hb⟩
  obtain ⟨y, hy, rfl⟩ := List.mem_map.1 hb
  exact ⟨x, hx, y, hy, rfl⟩
 rintro ⟨x, hx, y, hy, rfl⟩
 exact ⟨x, hx, zaq hy⟩
theorem tV {m y : MailP} {f t : Tx} (h : bZ m) (hf : isN f) (ht : isN t) (hin : qJ f ∈ qD m) (hfi : qJ f ≠ qT) (hy : dM m f t = .ok y) : mY m y t := by
 unfold dM at hy
 cases hg : dY (stF f m.l) f t (goF f m.l) with
 | error e => rw [hg] at hy; cases hy
 | ok g =>
  rw [hg] at hy
  dsimp only at hy
  split at hy
  · cases hy
  rename_i hr
  have hr := Classical.not_not.1 hr
  injection hy with hy
  have hall := oU hg
  rw [kD hall] at hg
  injection hg with hg
  obtain ⟨k1, k2, k3⟩ := wP h hf ht hfi hall hr _ (zv _) y (by rw [zt (by rw [zaj]; exact zv _), hg, hy])
  have hst : (stF f m.l).Sublist m.l := zcj
  have hgo : (goF f m.l).Sublist m.l := zcj
  have hfl := (cJ m).1 h
  have hbox : ∀ x ∈ m.l, ∃ z ∈ y.l, z.2 = x.2 := fun x hx => by
   by_cases hgx : goP f x.1
   ·
    have hxg : x ∈ goF f m.l := List.mem_filter.2 ⟨hx, decide_eq_true hgx⟩
    obtain ⟨i, hi, rfl⟩ := zu hxg
    exact ⟨_, k3 i hi hi, rfl⟩
   exact ⟨x, k2 x (List.mem_filter.2 ⟨hx, by rw [decide_eq_false hgx]; rfl⟩), rfl⟩
  refine ⟨fun b => ?_, fun x hx => .inr (hbox x hx), ?_⟩
  ·
   rw [gT, gT]
   constructor
   ·
    rintro ⟨z, hz, q, hq, rfl⟩
    rcases k1 z hz with p | p | ⟨i, hi, _, rfl⟩
    · exact ⟨z, hst.subset p, q, hq, rfl⟩
    · rw [p] at hq; cases hq
    exact ⟨_, hgo.subset (zm hi), q, hq, rfl⟩
   rintro ⟨x, hx, q, hq, rfl⟩
   obtain ⟨z, hz, e⟩ := hbox x hx
   exact ⟨z, hz, q, by rw [e]; exact hq, rfl⟩
  obtain ⟨x, hx, hxe⟩ := List.mem_map.1 hin
  have hgx : goP f x.1 := .inl hxe.symm
  have hxg : x ∈ goF f m.l := List.mem_filter.2 ⟨hx, decide_eq_true hgx⟩
  obtain ⟨i, hi, rfl⟩ := zu hxg
  obtain ⟨n1, _, _⟩ := nR (hfl.1.2.2.1 _ hx) hgx hf ht (hall i hi)
  rw [hxe, zas (by rw [bT]; exact zv _), zbq] at n1
  rw [← n1]
  exact zaq (k3 i hi hi)
theorem pW {m : MailP} (h : bZ m) {x : NmP} (hx : x ∈ m.l) (he : x.1 = qT) : eP m.l qT = x.2 := by
 obtain ⟨i, hi, rfl⟩ := zu hx
 unfold eP
 rw [fV (dD h) hi he]
 rfl
theorem tW {m : MailP} {t : Tx} (h : bZ m) (ht : isN t) (htn : qJ t ∉ qD m) : mY m (dA m t) t := by
 have hfl := (cJ m).1 h
 obtain ⟨y, hy, hye⟩ := hfl.1.2.2.2
 have hti : qJ t ≠ qT := fun e => htn (by rw [e, ← hye]; exact zaq hy)
 obtain ⟨k1, k2⟩ := oY m t
 have hby := pW h hy hye
 have hnew : (qJ t, (⟨(eP (bX m t).l (qJ t)).valid, (eP m.l qT).next, (eP m.l qT).l⟩ : BoxV)) ∈ (dA m t).l := fG lT hti
 have hold : ∀ x ∈ m.l, x.1 ≠ qT → x ∈ (dA m t).l := fun x hx hxi => fG (fG (k1 x hx) (fun e => htn (by rw [← e]; exact zaq hx))) hxi
 refine ⟨fun b => ?_, fun x hx => ?_, List.mem_map.2 ⟨_, hnew, rfl⟩⟩
 ·
  rw [gT, gT]
  constructor
  ·
   rintro ⟨z, hz, q, hq, rfl⟩
   rcases dF hz with rfl | ⟨hz, _⟩
   · cases hq
   rcases dF hz with rfl | ⟨hz, _⟩
   · exact ⟨y, hy, q, by rw [← hby]; exact hq, rfl⟩
   rcases k2 z hz with p | p
   · exact ⟨z, p, q, hq, rfl⟩
   rw [p] at hq; cases hq
  rintro ⟨x, hx, q, hq, rfl⟩
  by_cases hxi : x.1 = qT
  · exact ⟨_, hnew, q, by show q ∈ (eP m.l qT).l; rw [pW h hx hxi]; exact hq, rfl⟩
  exact ⟨x, hold x hx hxi, q, hq, rfl⟩
 by_cases hxi : x.1 = qT
 · exact .inl hxi
 exact .inr ⟨x, hold x hx hxi, rfl⟩
theorem sQ {m y : MailP} {f t : Tx} (h : bP m f t (cL m t) = .ok y) : mY m y t := by
 unfold bP at h
 split at h
 · cases h
 rename_i h1
 have h1 := Classical.not_not.1 h1
 split at h
 · cases h
 rename_i h2
 obtain ⟨h2a, h2b⟩ : isN f ∧ isN t := ⟨Classical.not_not.1 (fun q => h2 (.inl q)), Classical.not_not.1 (fun q => h2 (.inr q))⟩
 split at h
 · cases h
 rename_i h3
 have h3 := Classical.not_not.1 h3
 split at h
 · cases h
 rename_i h4
 split at h
 ·
  unfold cL at h
  split at h
  · cases h
  injection h with h
  subst h
  exact tW h1 h2b h4
 rename_i h5
 split at h
 · cases h
 exact tV h1 h2a h2b h3 h5 h
end
section
open Go.RowKit Go.Sort
theorem qXa {w : World} {A : Option Addr} {c : Nat} {l : List Nat} {i : Nat} (h : Own w 40 1 A l.length c (UB l)) (hi : i < l.length) : ∃ ad, A = some ad ∧ ∀ W, Frm [] w W → W.cell? (ad.add i) = some (.int .u64 ((l[i] : Nat) : Int)) := by
 have hr : Rd w 1 A l.length (UB l) := h.rd
 obtain ⟨ad, h1, _, _⟩ := hr.2 jo
 refine ⟨ad, h1, fun W hW => ?_⟩
 have hr2 : Rd W 1 A l.length (UB l) := (h.frm hW jp).rd
 obtain ⟨ad2, h2, _, hc⟩ := hr2.2 jo
 rw [h1] at h2
 cases h2
 exact hc i _ (by simp [UB, hi])
theorem qZu (z y : Nc) : (z.v = y.v ∧ z.n = y.n ∧ Ms z.l = Ms y.l) ↔ z.p.2 = y.p.2 := by
 constructor
 ·
  rintro ⟨h1, h2, h3⟩
  show (⟨z.v, z.n, Ms z.l⟩ : BoxV) = ⟨y.v, y.n, Ms y.l⟩
  rw [h1, h2, h3]
 intro h
 have h : (⟨z.v, z.n, Ms z.l⟩ : BoxV) = ⟨y.v, y.n, Ms y.l⟩ := h
 injection h with h1 h2 h3
 exact ⟨h1, h2, h3⟩
theorem qQy {m y : MailP} {t : Tx} {a b : List Nat} (h : mY m y t) (ha : kI (fQ m) a) (hb : kI (fQ y) b) : a = b := ha.ext ⟨hb.1, fun x => (hb.2 x).trans (h.1 x)⟩
set_option maxHeartbeats 2000000 in
theorem wS (m : MlC) (q t : Tx) (w : World) (hm : RawL w m) (hbb : m.b ≤ 9223372036854775807) (hv : cZ w) :
  Calls Tryz.prog 5 #[m.val, encStr q, encStr t] w fun e w' => e = .returned (.bool true) ∧ Frm [] w w' := by
 have hq70 : (q.take 70).length ≤ 70 := zdh _ _
 have ht70 : (t.take 70).length ≤ 70 := zdh _ _
 refine VC.calls (nt := 116) (res := #[.tmp 6]) Tryz.func5 rfl Tryz.ntmps5 Tryz.results5 rfl ?_
 refine jS (jR ?_)
 refine Ops.m (qH.box rfl) rfl ?_
 rintro _ w1 ⟨rfl, hF1⟩
 have hb3 : Blk w1 w.heap.size 25 m.cells.toArray := hF1.blk
 have hk3 : w.heap.size ≤ w.heap.size := zv _
 have K := hF1.frm
 have hl3 := hb3.lt
 generalize hg3e : w.heap.size = g3 at hb3 hk3 hl3 ⊢
 refine ja rfl (jO (jN (jv3 1 2 3 ?_)))
 refine jS (jR (je (Run.loadA rfl zi zb (fun j v hj => hb3.cells j v hj) (by first | rfl | (simp; done))) ?_))
 refine Ops.cl (jE1 Tryz.call11) (vC m _ (hm.frm K)) rfl ?_
 rintro e w2 ⟨m1, rfl, hp1, hO1, hv1, _, hf2⟩
 have hb3 := hb3.frm hf2 jp
 have K := K.trans hf2 jp
 refine ⟨_, rfl, ?_⟩
 refine jM ?_
 refine Ops.cl (jE1 Tryz.call12) (fN q _) rfl ?_
 rintro e _ ⟨rfl, rfl⟩
 refine ⟨_, rfl, ?_⟩
 refine jM ?_
 refine Ops.cl (jE1 Tryz.call12) (fN t _) rfl ?_
 rintro e _ ⟨rfl, rfl⟩
 refine ⟨_, rfl, ?_⟩
 have hbo := hb3
 refine Ops.st (qW.storeA rfl rfl zb hb3 rfl (MlC.cells_one m1)) ?_
 rintro w3 ⟨hbn, (hf3 : Frm [g3] _ _), hs3⟩
 have hb3 : Blk w3 g3 25 m1.cells.toArray := hbn
 have hO1 := hO1.blk hf3 hbo jd jd jd
 have K := K.own hf3 (fun y hy => by rw [za] at hy; omega)
 refine ja rfl (ja rfl (jO (jN (jv3 1 2 3 ?_))))
 refine jS (jR (je (Run.loadA rfl zi zb (fun j v hj => hb3.cells j v hj) (by first | rfl | (simp; done))) (jm rfl (jM ?_))))
 refine Ops.cl (jE3 Tryz.call19) (vO m1 (q.take 70) (t.take 70) _ hO1.rdl jo jo (hv.frm K)) rfl ?_
 rintro e w4 ⟨x, k, rfl, hI, hf4⟩
 have hb3 := hb3.frm hf4 jp
 have hO1 := hO1.frm hf4
 have K := K.trans hf4 jp
 have hR4 := hO1.rdl
 have hx := hI.rdl (Frm.refl _ _) hR4
 obtain ⟨_, hIk⟩ := hI
 have K7 := Frm.refl [] w4
 refine ⟨_, rfl, ?_⟩
 refine jm rfl (je (Run.extract rfl rfl) (je (Run.extract rfl rfl) ?_))
 refine Ops.m (qH.alloc bQ) rfl ?_
 rintro _ w5 ⟨rfl, hF5⟩
 have hb7 := hF5.blk
 have hl3 := hb3.lt
 have hk7 := K.size
 have hb3 := hb3.frm hF5.frm jp
 have hO1 := hO1.frm hF5.frm
 have K := K.trans hF5.frm jp
 have hxs := fun W (k : Frm [] w4 W) => hx.frm k
 generalize hg7e : w4.heap.size = g7 at hb7 hk7 hl3 ⊢
 have hbo := hb7
 refine Ops.st (qW.storeA rfl rfl zb hb7 rfl (MlC.cells_one x)) ?_
 rintro w6 ⟨hbn, (hf6 : Frm [g7] _ _), hs6⟩
 have hb7 : Blk w6 g7 25 x.cells.toArray := hbn
 have hb3 := hb3.frm hf6 (by simp; omega)
 have hO1 := hO1.blk hf6 hbo jd jd jd
 have hx0 : RdL w6 x := hxs w6 ((hF5.frm).own hf6 (fun y hy => by rw [za] at hy; omega))
 have hx := hx0
 have K := K.own hf6 (fun y hy => by rw [za] at hy; omega)
 refine ja rfl (jO (jN (jv4 2 3 7 8 ?_)))
 refine jS (jS (jR (jm rfl (jb rfl rfl (Bin.neqN _ 0) (jO (jN (jv4 2 3 7 31 ?_)))))))
 refine jD rfl (fun hc1 => ?_) fun hc1 => ?_
 ·
  obtain ⟨_, rfl⟩ : k ≠ 0 ∧ x = qR := by
   rcases hIk with ⟨h, _⟩ | ⟨h, _, h2⟩
   · exact absurd h hc1
   exact ⟨h, h2⟩
  refine jS (jR (je (Run.loadA rfl zi zb (fun j v hj => hb7.cells j v hj) (by first | rfl | (simp; done))) (je (Run.build evs.nil bQ (qB).choose_spec.1 (qB).choose_spec.2 rfl) ?_)))
  refine Ops.cl (jE2 Tryz.call15) (sF qR qR _ (RdL.zero _) (RdL.zero _)) rfl ?_
  rintro e w7 ⟨rfl, hf7⟩
  have K := K.trans hf7 jp
  rw [decide_eq_true (show qR.p = qR.p from rfl)]
  refine ⟨_, rfl, ?_⟩
  refine jM ?_
  refine Ops.clg rfl au (jE0 Tryz.call16) (lR _ (hv.frm K)) rfl ?_
  rintro e w8 ⟨rfl, hf8⟩
  have K := K.trans hf8 jp
  refine ⟨_, rfl, ?_⟩
  refine je (Run.pickT rfl rfl au) (ja rfl (jO (jN (jv1 6 ?_))))
  refine jT ?_
  refine qZ (qF rfl ?_)
  exact ⟨rfl, K⟩
 obtain ⟨rfl, hF⟩ : k = 0 ∧ bP m1.p (q.take 70) (t.take 70) (cL m1.p (t.take 70)) = .ok x.p := by
  rcases hIk with ⟨h, h2⟩ | ⟨h, _, _⟩
  · exact ⟨h, h2⟩
  exact absurd (Classical.not_not.1 hc1) h
 obtain ⟨hm1, hxm, _, _⟩ := vL hF
 have hmv := sQ hF
 refine jQ (jN (jv3 2 3 7 ?_))
 refine jS ?_
 refine VC.held (fun W => Frm [] w6 W) jK ?_
 have hS : Frm [] w6 w6.drew := (Frm.refl _ _).drew
 refine jH 0 rfl hS (fun w0 hw0 => Run.loadA rfl zi zb (fun j v hj => (hb3.frm hw0 jp).cells j v hj) (by first | rfl | (simp; done))) ?_
 refine jH 2 rfl hS (fun w0 hw0 => Run.loadA rfl zi zb (fun j v hj => (hb7.frm hw0 jp).cells j v hj) (by first | rfl | (simp; done))) ?_
 refine qQ.cl 1 rfl jK (jE1 Tryz.call20) (mF m1 _ (hO1.rdl.frm hS) ((hv.frm K).frm hS)) trivial rfl rfl ?_
 rintro e w9 ⟨B1, c1, l1, rfl, hB1, n1, _, hf9⟩
 have hS := hS.trans hf9 jp
 have n1 := n1 hm1
 refine ⟨_, rfl, hS, ?_⟩
 refine qQ.cl 3 rfl jK (jE1 Tryz.call20) (mF x _ (hx.frm hS) ((hv.frm K).frm hS)) trivial rfl rfl ?_
 rintro e w10 ⟨B2, c2, l2, rfl, hB2, n2, _, hf10⟩
 have hS := hS.trans hf10 jp
 have hB1 := hB1.frm hf10 jp
 have n2 := n2 hxm
 obtain rfl := qQy hmv n1 n2
 have hl1b : l1.length ≤ 9223372036854775807 := by
  rcases hB1.cases with ⟨_, h0, _⟩ | ⟨_, _, _, _, h1, h2, _⟩
  · omega
  unfold maxLen at h2; omega
 refine ⟨_, rfl, hS, ?_⟩
 refine jH 4 rfl hS (fun w0 hw0 => Run.asg rfl) ?_
 refine jH 5 rfl hS (fun w0 hw0 => Run.asg rfl) ?_
 refine qQ.done jK ?_
 refine jN (jv5 2 3 7 9 10 ?_)
 refine jS (jS (jR (jm rfl (je (Run.lenS rfl zd) ?_))))
 have hb3 := hb3.frm hS jp
 have hb7 := hb7.frm hS jp
 have hO1 := hO1.frm hS
 have hx := hx.frm hS
 have K := K.trans hS jp
 refine jm rfl (je (Run.lenS rfl zd) (jb rfl rfl (Bin.neqN _ _) (jM ?_)))
 refine jk (Run.loadA rfl zi zb (fun j v hj => hb7.cells j v hj) (by first | rfl | (simp; done))) ?_
 refine Ops.clg rfl au (jE1 zed) (dJ x _ hx (hv.frm K)) rfl ?_
 rintro e w11 ⟨rfl, hf11⟩
 have hb3 := hb3.frm hf11 jp
 have hO1 := hO1.frm hf11
 have K := K.trans hf11 jp
 have hb7 := hb7.frm hf11 jp
 have hx := hx.frm hf11
 have hB1 := hB1.frm hf11 jp
 have hB2 := hB2.frm hf11 jp
 rw [decide_eq_true hxm]
 refine ⟨_, rfl, ?_⟩
 refine jk (Run.not rfl) ?_
 refine je (Run.pickF rfl rfl au) (jO (jN (jv6 2 3 7 9 10 51 ?_)))
 refine VC.condF rfl jp ?_
 refine jQ (jN (jv5 2 3 7 9 10 ?_))
 refine jS (jS (jR (jz 0 (jO (jN (jB ?_))))))
 refine VC.loop (σ := Nat) (fun s => [(2, encStr (t.take 70)), (3, .pointer (some ⟨g3, 0, none⟩)), (7, .pointer (some ⟨g7, 0, none⟩)), (9, .slice B1 l1.length c1), (10, .slice B2 l1.length c2), (11, .int .i64 ((s : Nat) : Int))]) (fun s wr => s ≤ l1.length ∧ Own wr 40 1 B1 l1.length c1 (UB l1) ∧ Own wr 40 1 B2 l1.length c2 (UB l1) ∧ Blk wr g3 25 m1.cells.toArray ∧ Blk wr g7 25 x.cells.toArray ∧ OwL wr m1 ∧ RdL wr x ∧ Frm [] w wr) (fun s => l1.length - s) 0 (js6 rfl rfl rfl rfl rfl rfl) ⟨zah _, hB1, hB2, hb3, hb7, hO1, hx, K⟩ ?_
 rintro i wr ⟨hi, hB1, hB2, hb3, hb7, hO1, hx, K⟩
 refine jS (jS (jR (jm rfl (jm rfl (je (Run.lenS rfl zd) (jb rfl rfl (Bin.lssN _ _) (jO (jN (jv7 2 3 7 9 10 11 55 ?_)))))))))
 refine jD rfl (fun hc3 => ?_) fun hc3 => ?_
 ·
  obtain ⟨ad1, rfl, hc1a⟩ := qXa hB1 hc3
  obtain ⟨ad2, rfl, hc2a⟩ := qXa hB2 hc3
  refine jQ (jN (jv6 2 3 7 9 10 11 ?_))
  refine jS (jB (jS ?_))
  refine VC.held (fun W => Frm [] wr W) jK ?_
  have hS : Frm [] wr wr.drew := (Frm.refl _ _).drew
  refine jH 0 rfl hS (fun w0 hw0 => Run.mv rfl) ?_
  refine jH 1 rfl hS (fun w0 hw0 => Run.mv rfl) ?_
  refine jH 2 rfl hS (fun w0 hw0 => Run.index1 _ rfl rfl zd zc jo) ?_
  refine jH 3 rfl hS (fun w0 hw0 => Run.load rfl zh (hc1a _ hw0)) ?_
  refine jH 4 rfl hS (fun w0 hw0 => Run.mv rfl) ?_
  refine jH 5 rfl hS (fun w0 hw0 => Run.mv rfl) ?_
  refine jH 6 rfl hS (fun w0 hw0 => Run.index1 _ rfl rfl zd zc jo) ?_
  refine jH 7 rfl hS (fun w0 hw0 => Run.load rfl zh (hc2a _ hw0)) ?_
  refine jH 8 rfl hS (fun w0 hw0 => Run.bin rfl rfl (Bin.neqN _ _)) ?_
  refine qQ.done jK ?_
  refine jN (jv7 2 3 7 9 10 11 66 ?_)
  refine VC.condF rfl jp ?_
  refine jQ ?_
  refine qN (jN ?_)
  refine jv6 2 3 7 9 10 11 ?_
  refine jR (jm rfl (jb rfl rfl (Bin.add_i64 _ 1 jo) (ja rfl (jO ?_))))
  refine jN ⟨(i + 1), (js6 rfl rfl rfl rfl rfl rfl), ?_, ?_⟩
  · exact ⟨hc3, hB1.frm hS jp, hB2.frm hS jp, hb3.frm hS jp, hb7.frm hS jp, hO1.frm hS, hx.frm hS, K.trans hS jp⟩
  first | omega | (dsimp only; omega)
 refine jX ?_
 refine qK (qK (qS ?_))
 refine jN (jv3 2 3 7 ?_)
 refine jS (jS (jR (jz 0 (jO (jN (jB ?_))))))
 refine VC.loop (σ := Nat) (fun s => [(2, encStr (t.take 70)), (3, .pointer (some ⟨g3, 0, none⟩)), (7, .pointer (some ⟨g7, 0, none⟩)), (12, .int .i64 ((s : Nat) : Int))]) (fun s wr => s ≤ m1.l.length ∧ Blk wr g3 25 m1.cells.toArray ∧ Blk wr g7 25 x.cells.toArray ∧ OwL wr m1 ∧ RdL wr x ∧ Frm [] w wr) (fun s => m1.l.length - s) 0 (js4 rfl rfl rfl rfl) ⟨zah _, hb3, hb7, hO1, hx, K⟩ ?_
 rintro i2 wr ⟨hi2, hb3, hb7, hO1, hx, K⟩
 have hxln := hx.ln
 have hmln := hO1.ln
 refine jS (jS (jR (jm rfl (jf rfl zg rfl zab (jl rfl zan (hb3.cell 0) (je (Run.lenS rfl zf) (jb rfl rfl (Bin.lssN _ _) (jO (jN (jv5 2 3 7 12 71 ?_))))))))))
 refine jD rfl (fun hc5 => ?_) fun hc5 => ?_
 ·
  obtain ⟨ad, hA, hel⟩ := hO1.rdl.l.elem hc5
  have hmem : (m1.l[i2]).p ∈ m1.p.l := zaq (zm hc5)
  have hyA := fun W (k : Frm [] w W) => hO1.rdl.l.el _ (zm hc5)
  generalize hy : m1.l[i2] = y at *
  refine jQ (jN (jv4 2 3 7 12 ?_))
  refine jS (jB (jS (jR (jf rfl zg rfl zab (jl rfl zan (hb3.cell 0) (jm rfl (je (Run.indexS i2 (show _ = some (Value.slice (some ad) m1.l.length m1.c) by rw [← hA]; rfl) rfl zf zn hc5) (jf rfl zae rfl zx (jl rfl zac (hel 0 (encStr y.nm) rfl) (je (Run.eqlT rfl rfl) ?_))))))))))
  refine ja rfl (jO (jN (jv5 2 3 7 12 13 ?_)))
  refine jS (jS (jR (jz 0 (jO (jN (jB ?_))))))
  refine VC.loop (σ := Nat × Bool) (fun s => [(2, encStr (t.take 70)), (3, .pointer (some ⟨g3, 0, none⟩)), (7, .pointer (some ⟨g7, 0, none⟩)), (12, .int .i64 ((i2 : Nat) : Int)), (13, .bool s.2), (14, .int .i64 ((s.1 : Nat) : Int))]) (fun s wr => s.1 ≤ x.l.length ∧ (s.2 = true ↔ (y.nm = qT ∨ ∃ j, ∃ h : j < x.l.length, j < s.1 ∧ (x.l[j]).p.2 = y.p.2)) ∧ Blk wr g3 25 m1.cells.toArray ∧ Blk wr g7 25 x.cells.toArray ∧ OwL wr m1 ∧ RdL wr x ∧ Frm [] w wr) (fun s => x.l.length - s.1) (0, decide (y.nm = qT)) (js6 rfl rfl rfl rfl rfl rfl) ⟨zah _, jp, hb3, hb7, hO1, hx, K⟩ ?_
  rintro ⟨k, kb⟩ wr2 ⟨hk, hkb, hb3, hb7, hO1, hx, K⟩
  dsimp only at *
  refine jS (jS (jR (jm rfl (jf rfl zg rfl zab (jl rfl zan (hb7.cell 0) (je (Run.lenS rfl zf) (jb rfl rfl (Bin.lssN _ _) (jO (jN (jv7 2 3 7 12 13 14 85 ?_))))))))))
  refine jD rfl (fun hc6 => ?_) fun hc6 => ?_
  ·
   obtain ⟨adx, hAx, helx⟩ := hx.l.elem hc6
   have hzA := hx.l.el _ (zm hc6)
   have helm : ∀ W, Frm [] wr2 W → ∀ j v, y.cells[j]? = some v → W.cell? ((ad.add (i2 * 4)).add j) = some v := fun W hW j v hj => by
    obtain ⟨ad', hA', h⟩ := (hO1.rdl.frm hW).l.elem hc5
    rw [hA] at hA'
    cases hA'
    rw [hy] at h
    exact h j v hj
   have hyA2 : y.At wr2 := by rw [← hy]; exact hO1.rdl.l.el _ (zm hc5)
   have helx2 : ∀ W, Frm [] wr2 W → ∀ j v, (x.l[k]).cells[j]? = some v → W.cell? ((adx.add (k * 4)).add j) = some v := fun W hW j v hj => by
    obtain ⟨ad', hA', h⟩ := (hx.frm hW).l.elem hc6
    rw [hAx] at hA'
    cases hA'
    exact h j v hj
   have hstep : (∃ j, ∃ h : j < x.l.length, j < k + 1 ∧ (x.l[j]).p.2 = y.p.2) ↔ (∃ j, ∃ h : j < x.l.length, j < k ∧ (x.l[j]).p.2 = y.p.2) ∨ (x.l[k]).p.2 = y.p.2 := by
    constructor
    ·
     rintro ⟨j, h, hj, e⟩
     rcases zbs j k with h1 | h1
     · exact .inl ⟨j, h, h1, e⟩
     obtain rfl : j = k := jo
     exact .inr e
    rintro (⟨j, h, hj, e⟩ | e)
    · exact ⟨j, h, jo, e⟩
    exact ⟨k, hc6, jo, e⟩
   generalize hz : x.l[k] = z at *
   refine jQ (jN (jv6 2 3 7 12 13 14 ?_))
   refine jS (jB ?_)
   refine VC.meet (σ := Unit) (fun s => [(2, encStr (t.take 70)), (3, .pointer (some ⟨g3, 0, none⟩)), (7, .pointer (some ⟨g7, 0, none⟩)), (12, .int .i64 ((i2 : Nat) : Int)), (13, .bool (decide (kb = true ∨ z.p.2 = y.p.2))), (14, .int .i64 ((k : Nat) : Int))]) (fun s wz => Frm [] wr2 wz) ?_ ?_
   ·
    refine VC.held (fun W => Frm [] wr2 W) jK ?_
    have hS : Frm [] wr2 wr2.drew := (Frm.refl _ _).drew
    refine jH 0 rfl hS (fun w0 hw0 => Run.mv rfl) ?_
    refine jH 1 rfl hS (fun w0 hw0 => Run.mv rfl) ?_
    by_cases hs89 : kb = true
    ·
     refine qQ.skip 2 rfl jK jK jK hS rfl rfl (by first | rfl | exact decide_eq_true hs89 | (simp [hs89]; done)) rfl rfl ?_
     refine qQ.skip 3 rfl jK jK jK hS rfl rfl (by first | rfl | exact decide_eq_true hs89 | (simp [hs89]; done)) rfl rfl ?_
     refine qQ.skip 4 rfl jK jK jK hS rfl rfl (by first | rfl | exact decide_eq_true hs89 | (simp [hs89]; done)) rfl rfl ?_
     refine qQ.skip 5 rfl jK jK jK hS rfl rfl (by first | rfl | exact decide_eq_true hs89 | (simp [hs89]; done)) rfl rfl ?_
     refine qQ.skip 6 rfl jK jK jK hS rfl rfl (by first | rfl | exact decide_eq_true hs89 | (simp [hs89]; done)) rfl rfl ?_
     refine qQ.skip 7 rfl jK jK jK hS rfl rfl (by first | rfl | exact decide_eq_true hs89 | (simp [hs89]; done)) rfl rfl ?_
     refine qQ.skip 8 rfl jK jK jK hS rfl rfl (by first | rfl | exact decide_eq_true hs89 | (simp [hs89]; done)) rfl rfl ?_
     refine qQ.skip 9 rfl jK jK jK hS rfl rfl (by first | rfl | exact decide_eq_true hs89 | (simp [hs89]; done)) rfl rfl ?_
     refine qQ.skip 10 rfl jK jK jK hS rfl rfl (by first | rfl | exact decide_eq_true hs89 | (simp [hs89]; done)) rfl rfl ?_
     refine qQ.skip 11 rfl jK jK jK hS rfl rfl (by first | rfl | exact decide_eq_true hs89 | (simp [hs89]; done)) rfl rfl ?_
     refine qQ.skip 12 rfl jK jK jK hS rfl rfl (by first | rfl | exact decide_eq_true hs89 | (simp [hs89]; done)) rfl rfl ?_
     refine qQ.skip 13 rfl jK jK jK hS rfl rfl (by first | rfl | exact decide_eq_true hs89 | (simp [hs89]; done)) rfl rfl ?_
     refine qQ.skip 14 rfl jK jK jK hS rfl rfl (by first | rfl | exact decide_eq_true hs89 | (simp [hs89]; done)) rfl rfl ?_
     refine jH 15 rfl hS (fun w0 hw0 => Run.pickT rfl rfl (by first | rfl | exact decide_eq_true hs89 | (simp [hs89]; done))) ?_
     refine jH 16 rfl hS (fun w0 hw0 => Run.asg rfl) ?_
     refine qQ.done jK ?_
     refine jN ⟨(), (js6 rfl rfl rfl rfl (jC (by grind)) rfl), ?_⟩
     exact hS
    refine qQ.take 2 rfl jK jK jK hS (fun w0 hw0 => Run.fieldAddr rfl zg rfl zab jd) (Up.g rfl (by first | rfl | exact decide_eq_false hs89 | (simp [hs89]; done))) rfl rfl ?_
    refine qQ.take 3 rfl jK jK jK hS (fun w0 hw0 => Run.load rfl zan ((hb7.frm hw0 jp).cell 0)) (Up.g rfl (by first | rfl | exact decide_eq_false hs89 | (simp [hs89]; done))) rfl rfl ?_
    refine qQ.take 4 rfl jK jK jK hS (fun w0 hw0 => Run.mv rfl) (Up.g rfl (by first | rfl | exact decide_eq_false hs89 | (simp [hs89]; done))) rfl rfl ?_
    refine qQ.take 5 rfl jK jK jK hS (fun w0 hw0 => Run.indexS k (show _ = some (Value.slice (some adx) x.l.length x.c) by rw [← hAx]; rfl) rfl zf zn hc6) (Up.g rfl (by first | rfl | exact decide_eq_false hs89 | (simp [hs89]; done))) rfl rfl ?_
    refine qQ.take 6 rfl jK jK jK hS (fun w0 hw0 => Run.fieldAddr rfl zae rfl zp jd) (Up.g rfl (by first | rfl | exact decide_eq_false hs89 | (simp [hs89]; done))) rfl rfl ?_
    refine qQ.take 7 rfl jK jK jK hS (fun w0 hw0 => Run.loadA rfl zat zp (cs := BVc z.v z.n z.A z.l.length z.c) (fun j v hj => by rw [Go.Proofs.YtgmbmfpfhcekiaaGreat.add_add]; exact helx2 _ hw0 (1 + j) v (by rw [zdj]; exact hj)) (by first | rfl | (simp; done))) (Up.g rfl (by first | rfl | exact decide_eq_false hs89 | (simp [hs89]; done))) rfl rfl ?_
    refine qQ.take 8 rfl jK jK jK hS (fun w0 hw0 => Run.fieldAddr rfl zg rfl zab jd) (Up.g rfl (by first | rfl | exact decide_eq_false hs89 | (simp [hs89]; done))) rfl rfl ?_
    refine qQ.take 9 rfl jK jK jK hS (fun w0 hw0 => Run.load rfl zan ((hb3.frm hw0 jp).cell 0)) (Up.g rfl (by first | rfl | exact decide_eq_false hs89 | (simp [hs89]; done))) rfl rfl ?_
    refine qQ.take 10 rfl jK jK jK hS (fun w0 hw0 => Run.mv rfl) (Up.g rfl (by first | rfl | exact decide_eq_false hs89 | (simp [hs89]; done))) rfl rfl ?_
    refine qQ.take 11 rfl jK jK jK hS (fun w0 hw0 => Run.indexS i2 (show _ = some (Value.slice (some ad) m1.l.length m1.c) by rw [← hA]; rfl) rfl zf zn hc5) (Up.g rfl (by first | rfl | exact decide_eq_false hs89 | (simp [hs89]; done))) rfl rfl ?_
    refine qQ.take 12 rfl jK jK jK hS (fun w0 hw0 => Run.fieldAddr rfl zae rfl zp jd) (Up.g rfl (by first | rfl | exact decide_eq_false hs89 | (simp [hs89]; done))) rfl rfl ?_
    refine qQ.take 13 rfl jK jK jK hS (fun w0 hw0 => Run.loadA rfl zat zp (cs := BVc y.v y.n y.A y.l.length y.c) (fun j v hj => by rw [Go.Proofs.YtgmbmfpfhcekiaaGreat.add_add]; exact helm _ hw0 (1 + j) v (by rw [zdj]; exact hj)) (by first | rfl | (simp; done))) (Up.g rfl (by first | rfl | exact decide_eq_false hs89 | (simp [hs89]; done))) rfl rfl ?_
    refine qQ.cl 14 rfl jK (jE2 Tryz.call22) (mC z.v z.n y.v y.n z.A y.A z.c y.c z.l y.l _ (hzA.rd.frm hS) (hyA2.rd.frm hS) (by have := hzA.n; omega) (by have := hyA2.n; omega)) (Up.g rfl (by first | rfl | exact decide_eq_false hs89 | (simp [hs89]; done))) rfl rfl ?_
    rintro e w12 ⟨rfl, hf12⟩
    rw [show decide (z.v = y.v ∧ z.n = y.n ∧ Ms z.l = Ms y.l) = decide (z.p.2 = y.p.2) from decide_eq_decide.2 (qZu z y)]
    have hS := hS.trans hf12 jp
    refine ⟨_, rfl, hS, ?_⟩
    by_cases hs102 : z.p.2 = y.p.2
    ·
     refine jH 15 rfl hS (fun w0 hw0 => Run.pickF rfl rfl (by first | rfl | exact decide_eq_false hs89 | exact decide_eq_true hs102 | (simp [hs89]; done) | (simp [hs102]; done))) ?_
     refine jH 16 rfl hS (fun w0 hw0 => Run.asg rfl) ?_
     refine qQ.done jK ?_
     refine jN ⟨(), (js6 rfl rfl rfl rfl (jC (by grind)) rfl), ?_⟩
     exact hS
    refine jH 15 rfl hS (fun w0 hw0 => Run.pickF rfl rfl (by first | rfl | exact decide_eq_false hs89 | exact decide_eq_false hs102 | (simp [hs89]; done) | (simp [hs102]; done))) ?_
    refine jH 16 rfl hS (fun w0 hw0 => Run.asg rfl) ?_
    refine qQ.done jK ?_
    refine jN ⟨(), (js6 rfl rfl rfl rfl (jC (by grind)) rfl), ?_⟩
    exact hS
   rintro _ wz hfz Γ hΓ
   have hb3 := hb3.frm hfz jp
   have hb7 := hb7.frm hfz jp
   have hO1 := hO1.frm hfz
   have hx := hx.frm hfz
   have K := K.trans hfz jp
   refine qN (jN (VC.sub _ hΓ ?_))
   refine jR (jm rfl (jb rfl rfl (Bin.add_i64 _ 1 jo) (ja rfl (jO ?_))))
   refine jN ⟨(k + 1, decide (kb = true ∨ z.p.2 = y.p.2)), (js6 rfl rfl rfl rfl rfl rfl), ?_, ?_⟩
   · exact ⟨hc6, decide_eq_true_iff.trans ((or_congr_left hkb).trans (by rw [hstep, or_assoc])), hb3, hb7, hO1, hx, K⟩
   first | omega | (dsimp only; omega)
  obtain rfl : kb = true := hkb.2 (by
   rcases hmv.2.1 _ hmem with h | ⟨z, hz, e⟩
   · exact .inl h
   obtain ⟨j, hj, rfl⟩ := zu hz
   have hj2 : j < x.l.length := by rw [← cA x]; exact hj
   exact .inr ⟨j, hj2, jo, by rw [← cS x hj2 hj]; exact e⟩)
  refine jX ?_
  refine qK (qK (qS ?_))
  refine jN (jv5 2 3 7 12 13 ?_)
  refine jS (jR (jm rfl (je (Run.not rfl) (jO (jN (jv5 2 3 7 12 105 ?_))))))
  refine VC.condF rfl jp ?_
  refine jQ ?_
  refine qN (jN ?_)
  refine jv4 2 3 7 12 ?_
  refine jR (jm rfl (jb rfl rfl (Bin.add_i64 _ 1 jo) (ja rfl (jO ?_))))
  refine jN ⟨(i2 + 1), (js4 rfl rfl rfl rfl), ?_, ?_⟩
  · exact ⟨hc5, hb3, hb7, hO1, hx, K⟩
  first | omega | (dsimp only; omega)
 refine jX ?_
 refine qK (qK (qS ?_))
 refine jN (jv2 2 7 ?_)
 refine jS (jR (je (Run.loadA rfl zi zb (fun j v hj => hb7.cells j v hj) (by first | rfl | (simp; done))) (jM ?_)))
 refine Ops.cl (jE2 Tryz.call23) (kS x (t.take 70) _ hx jo (hv.frm K)) rfl ?_
 rintro e w13 ⟨v, n, B, d, lm, b, rfl, hoM, hfd, hf13⟩
 have K := K.trans hf13 jp
 obtain rfl : b = true := by
  rcases hfd with ⟨h, _⟩ | ⟨_, h, _⟩
  · exact h
  exfalso
  unfold gN at h
  rw [if_pos hxm] at h
  obtain ⟨z, hz, e⟩ := List.mem_map.1 hmv.2.2
  obtain ⟨j, hj, rfl⟩ := zu hz
  rw [fV (dD hxm) hj e] at h
  cases h
 refine ⟨_, rfl, ?_⟩
 refine jm rfl (je (Run.extract rfl rfl) (je (Run.extract rfl rfl) ?_))
 refine Ops.m (qH.alloc cP) rfl ?_
 rintro _ w14 ⟨rfl, hF14⟩
 have hk14 := K.size
 have K := K.trans hF14.frm jp
 refine Ops.st (qW.storeA rfl rfl zp hF14.blk rfl (cW v n B lm.length d)) ?_
 rintro w15 ⟨hbn, (hf15 : Frm [_] _ _), hs15⟩
 have K := K.own hf15 (fun y hy => by rw [za] at hy; omega)
 refine ja rfl (jO (jN (jv1 16 ?_)))
 refine jS (jR (jm rfl (jM ?_)))
 refine Ops.clg rfl au (jE0 Tryz.call16) (lR _ (hv.frm K)) rfl ?_
 rintro e w16 ⟨rfl, hf16⟩
 have K := K.trans hf16 jp
 refine ⟨_, rfl, ?_⟩
 refine je (Run.pickT rfl rfl au) (ja rfl (jO (jN (jv1 6 ?_))))
 refine jT ?_
 refine qF rfl ?_
 exact ⟨rfl, K⟩
end
end Go.Proofs.YtgmbmfpfhcekiaaGreat
