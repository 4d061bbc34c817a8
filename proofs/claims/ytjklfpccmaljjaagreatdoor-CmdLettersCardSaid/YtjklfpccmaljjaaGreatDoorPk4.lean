/-
  Lemmas on the way, joined: CmdT, CmdU, CmdX, SecM, KeyQ, CmdLw.
-/
import Derived.Test.YtjklfpccmaljjaaGreatDoorPk3
set_option maxRecDepth 100000
set_option linter.unusedVariables false
set_option linter.unusedSimpArgs false
set_option maxHeartbeats 8000000
namespace Go.Proofs.YtjklfpccmaljjaaGreatDoor
section
open Go.RowKit
def Sgn (c : UInt8) : Prop := 33 ≤ c.toNat ∧ c.toNat ≤ 126 ∧ c.toNat ≠ 40 ∧ c.toNat ≠ 41 ∧ c.toNat ≠ 34
instance (c : UInt8) : Decidable (Sgn c) := by unfold Sgn; infer_instance
def mU : Tx → Option Nat
 | [] => none
 | c :: r => if c.toNat = 34 then some 0 else if c.toNat < 32 ∨ c.toNat = 127 ∨ c.toNat = 92 then none else (mU r).map (· + 1)
def atF : Bool → Tx → Option Nat
 | b, [] => if b = true then none else some 0
 | b, c :: r => if b = true ∧ (c.toNat < 32 ∨ 126 < c.toNat) then none else if b = false ∧ ¬ Sgn c then some 0 else (atF (if c.toNat = 93 then false else if c.toNat = 91 then true else b) r).map (· + 1)
def mB (s : Tx) (a : Nat) : Option (Tk × Nat) := match s[a]? with
 | none => none
 | some c => if c.toNat = 40 then some ((2, [40]), a + 1) else if c.toNat = 41 then some ((3, [41]), a + 1) else if c.toNat = 34 then (mU (s.drop (a + 1))).map fun k => ((1, (s.drop (a + 1)).take k), a + 1 + k + 1) else (atF false (s.drop a)).bind fun k => if k = 0 then none else some ((0, (s.drop a).take k), a + k)
theorem qX1 {s : Tx} {i m : Nat} (h : mU (s.drop i) = some m) : ∃ hi : i < s.length, (s[i].toNat = 34 ∧ m = 0) ∨ (s[i].toNat ≠ 34 ∧ ¬ (s[i].toNat < 32) ∧ s[i].toNat ≠ 127 ∧ s[i].toNat ≠ 92 ∧ ∃ m', m = m' + 1 ∧ mU (s.drop (i + 1)) = some m') := by
 by_cases hi : i < s.length
 ·
  refine ⟨hi, ?_⟩
  rw [zao hi] at h
  unfold mU at h
  split at h
  · injection h with h; exact .inl ⟨by assumption, h.symm⟩
  split at h
  · cases h
  obtain ⟨m', h1, h2⟩ := Option.map_eq_some_iff.1 h
  exact .inr ⟨by assumption, jo, jo, jo, m', h2.symm, h1⟩
 rw [zbq jo] at h; cases h
theorem qJd {s : Tx} {b : Bool} {i m : Nat} (h : atF b (s.drop i) = some m) : (m = 0 ∧ b = false ∧ (s.length ≤ i ∨ ∃ hi : i < s.length, ¬ Sgn s[i])) ∨ (∃ hi : i < s.length, ¬ (b = true ∧ (s[i].toNat < 32 ∨ 126 < s[i].toNat)) ∧ (b = false → Sgn s[i]) ∧ ∃ m', m = m' + 1 ∧ atF (if s[i].toNat = 93 then false else if s[i].toNat = 91 then true else b) (s.drop (i + 1)) = some m') := by
 by_cases hi : i < s.length
 ·
  rw [zao hi] at h
  unfold atF at h
  split at h
  · cases h
  split at h
  · rename_i h1; injection h with h; exact .inl ⟨h.symm, h1.1, .inr ⟨hi, h1.2⟩⟩
  rename_i h0 h1
  obtain ⟨m', h2, h3⟩ := Option.map_eq_some_iff.1 h
  exact .inr ⟨hi, h0, fun hb => Classical.byContradiction fun h4 => h1 ⟨hb, h4⟩, m', h3.symm, h2⟩
 rw [zbq jo] at h
 unfold atF at h
 split at h
 · cases h
 injection h with h; exact .inl ⟨h.symm, by cases b <;> simp_all, .inl jo⟩
theorem qJe {s : Tx} {a j : Nat} (h : a + j < s.length) : (s.drop a).take (j + 1) = (s.drop a).take j ++ (s.drop (a + j)).take 1 := by
 rw [List.take_add, List.drop_drop]
theorem qX2 (c : UInt8) (w : World) : Calls Tryz.prog 90 #[.int .u8 ((c.toNat : Nat) : Int)] w fun e w' => e = .returned (.bool (decide (Sgn c))) ∧ w' = w := by
 refine jV Tryz.func90 Tryz.ntmps90 Tryz.results90 ?_
 refine jS (jR (ja rfl (jO (jN (jv1 0 ?_)))))
 refine jS ?_
 refine VC.split1 [] .nil 2 (.bool (decide (Sgn c))) ?_ ?_
 ·
  refine jR ?_
  refine jm rfl (jb rfl rfl (Bin.leqN 33 _) ?_)
  by_cases hs4 : 33 ≤ c.toNat
  ·
   refine jM ?_
   refine jG ?_
   refine jk (Run.bin rfl rfl (Bin.leqN _ 126)) ?_
   by_cases hs7 : c.toNat ≤ 126
   ·
    refine jW rfl rfl au (jM ?_)
    refine jG ?_
    refine jk (Run.bin rfl rfl (Bin.neqN _ 40)) ?_
    by_cases hs11 : c.toNat ≠ 40
    ·
     refine jW rfl rfl au (jM ?_)
     refine jG ?_
     refine jk (Run.bin rfl rfl (Bin.neqN _ 41)) ?_
     by_cases hs15 : c.toNat ≠ 41
     ·
      refine jW rfl rfl au (jM ?_)
      refine jG ?_
      refine jk (Run.bin rfl rfl (Bin.neqN _ 34)) ?_
      by_cases hs19 : c.toNat ≠ 34
      ·
       refine jW rfl rfl au (ja rfl (jO ?_))
       refine jN ⟨(js1 (jC (by unfold Sgn; grind))), rfl⟩
      refine jW rfl rfl au (ja rfl (jO ?_))
      refine jN ⟨(js1 (jC (by unfold Sgn; grind))), rfl⟩
     refine jW rfl rfl au (jM ?_)
     refine jU ?_
     refine jU ?_
     refine jF rfl rfl au (ja rfl (jO ?_))
     refine jN ⟨(js1 (jC (by unfold Sgn; grind))), rfl⟩
    refine jW rfl rfl au (jM ?_)
    refine jU ?_
    refine jU ?_
    refine jF rfl rfl au (jM ?_)
    refine jU ?_
    refine jU ?_
    refine jF rfl rfl au (ja rfl (jO ?_))
    refine jN ⟨(js1 (jC (by unfold Sgn; grind))), rfl⟩
   refine jW rfl rfl au (jM ?_)
   refine jU ?_
   refine jU ?_
   refine jF rfl rfl au (jM ?_)
   refine jU ?_
   refine jU ?_
   refine jF rfl rfl au (jM ?_)
   refine jU ?_
   refine jU ?_
   refine jF rfl rfl au (ja rfl (jO ?_))
   refine jN ⟨(js1 (jC (by unfold Sgn; grind))), rfl⟩
  refine jM ?_
  refine jU ?_
  refine jU ?_
  refine jF rfl rfl au (jM ?_)
  refine jU ?_
  refine jU ?_
  refine jF rfl rfl au (jM ?_)
  refine jU ?_
  refine jU ?_
  refine jF rfl rfl au (jM ?_)
  refine jU ?_
  refine jU ?_
  refine jF rfl rfl au (ja rfl (jO ?_))
  refine jN ⟨(js1 (jC (by unfold Sgn; grind))), rfl⟩
 intro Γ hΓ
 refine jN (VC.sub _ hΓ ?_)
 refine jT ?_
 refine qD rfl ?_
 exact ⟨rfl, rfl⟩
theorem vW (q : Tx) (a : Nat) (t : Tk) (nx : Nat) (w : World) (hs : q.length ≤ 1000000) (h : mB q a = some (t, nx)) : Calls Tryz.prog 60 #[encStr q, jI1 a] w fun e w' => e = .returned (.tuple #[.agg (tkC t).toArray, jI1 nx]) ∧ Frm [] w w' := by
 have ha : a < q.length := by
  by_cases h1 : a < q.length
  · exact h1
  unfold mB at h; rw [zcg jo] at h; cases h
 unfold mB at h
 rw [zb ha] at h
 dsimp only at h
 refine jV Tryz.func60 Tryz.ntmps60 Tryz.results60 ?_
 refine jS (jR ?_)
 refine Ops.m (qH.alloc eK) rfl ?_
 rintro _ w1 ⟨rfl, hF1⟩
 obtain ⟨g4, hg4⟩ : ∃ g, g = w.heap.size := ⟨_, rfl⟩
 have hb1 := hF1.blk
 have s1 := hF1.size
 rw [← hg4] at hb1 ⊢
 have K := hF1.frm
 refine jz 0 (jO (jN (jv3 0 1 4 ?_)))
 refine jS (jS (jR (jm rfl (jM ?_))))
 refine je (Run.indexT _ rfl rfl za (zb ha)) ?_
 refine jb rfl rfl (Bin.eqlN _ 40) (jO (jN (jv4 0 1 4 14 ?_)))
 refine jD rfl (fun hc1 => ?_) fun hc1 => ?_
 ·
  rw [if_pos hc1] at h
  injection h with h
  injection h with h1 h2
  subst h1 h2
  refine jS (jR (je (Run.build (evs.cons rfl (evs.cons rfl evs.nil)) eK (cO).choose_spec.1 (cO).choose_spec.2 (cells := (tkC (2, [40])).toArray) rfl) (jm rfl (jb rfl rfl (Bin.add_i64 _ 1 jo) ?_))))
  refine Ops.st (qJ.storeA rfl rfl zw hb1 rfl (eW _)) ?_
  rintro w2 ⟨hb2, hf2, hs2⟩
  refine ja rfl (jO (jN (jv2 4 5 ?_)))
  refine jT ?_
  refine qZ (bM ?_)
  refine qB rfl zdi zw ((hb2.cells)) (by first | rfl | (simp; done) | (simp [*]; done)) ?_
  refine cW rfl ?_
  refine qF ?_
  exact ⟨rfl, K.own hf2 (by simp; omega)⟩
 rw [if_neg hc1] at h
 refine jQ (jN (jv3 0 1 4 ?_))
 refine jS (jS (jR (jm rfl (jM ?_))))
 refine je (Run.indexT _ rfl rfl za (zb ha)) ?_
 refine jb rfl rfl (Bin.eqlN _ 41) (jO (jN (jv4 0 1 4 21 ?_)))
 refine jD rfl (fun hc2 => ?_) fun hc2 => ?_
 ·
  rw [if_pos hc2] at h
  injection h with h
  injection h with h1 h2
  subst h1 h2
  refine jS (jR (je (Run.build (evs.cons rfl (evs.cons rfl evs.nil)) eK (cO).choose_spec.1 (cO).choose_spec.2 (cells := (tkC (3, [41])).toArray) rfl) (jm rfl (jb rfl rfl (Bin.add_i64 _ 1 jo) ?_))))
  refine Ops.st (qJ.storeA rfl rfl zw hb1 rfl (eW _)) ?_
  rintro w2 ⟨hb2, hf2, hs2⟩
  refine ja rfl (jO (jN (jv2 4 5 ?_)))
  refine jT ?_
  refine qZ (bM ?_)
  refine qB rfl zdi zw ((hb2.cells)) (by first | rfl | (simp; done) | (simp [*]; done)) ?_
  refine cW rfl ?_
  refine qF ?_
  exact ⟨rfl, K.own hf2 (by simp; omega)⟩
 rw [if_neg hc2] at h
 refine jQ (jN (jv3 0 1 4 ?_))
 refine jS (jS (jR (jm rfl (jM ?_))))
 refine je (Run.indexT _ rfl rfl za (zb ha)) ?_
 refine jb rfl rfl (Bin.eqlN _ 34) (jO (jN (jv4 0 1 4 28 ?_)))
 refine jD rfl (fun hc3 => ?_) fun hc3 => ?_
 ·
  rw [if_pos hc3] at h
  obtain ⟨Q, hQ, h⟩ := Option.map_eq_some_iff.1 h
  injection h with h1 h2
  subst h1 h2
  refine jS (jR (ja rfl (jO (jN (jv4 0 1 4 6 ?_)))))
  refine jS (jS (jR (jm rfl (jb rfl rfl (Bin.add_i64 _ 1 jo) (ja rfl (jO (jN (jv4 0 4 6 7 ?_))))))))
  refine jB ?_
  refine VC.loop (σ := Nat × Nat) (fun s => [(0, encStr q), (4, jI0 g4), (6, encStr ((q.drop (a + 1)).take s.1)), (7, jI1 (a + 1 + s.1))]) (fun s wr => s.1 + s.2 = Q ∧ mU (q.drop (a + 1 + s.1)) = some s.2 ∧ wr = w1) (fun s => s.2) (0, Q) (js4 rfl rfl rfl rfl) ⟨jp, hQ, rfl⟩ ?_
  rintro ⟨j, m⟩ wr ⟨hjm, hq, rfl⟩
  dsimp only at hjm hq ⊢
  obtain ⟨hi, hst⟩ := qX1 hq
  refine jS (jS (jR (jm rfl (jm rfl (je (Run.lenT rfl za) (jb rfl rfl (Bin.lssN _ _) (jO (jN (jv5 0 4 6 7 34 ?_)))))))))
  refine VC.condT rfl (decide_eq_true hi) ?_
  refine jQ (jN (jv4 0 4 6 7 ?_))
  refine jS (jB (jS (jR (jm rfl (jM ?_)))))
  refine je (Run.indexT _ rfl rfl za (zb hi)) ?_
  refine ja rfl (jO (jN (jv5 0 4 6 7 8 ?_)))
  refine jS (jS (jR (jm rfl (jb rfl rfl (Bin.eqlN _ 34) (jO (jN (jv6 0 4 6 7 8 41 ?_)))))))
  refine jD rfl (fun hc5 => ?_) fun hc5 => ?_
  ·
   have hm : m = 0 := by
    rcases hst with h | h
    · exact h.2
    exact absurd hc5 h.1
   have hjQ : j = Q := jo
   subst hjQ
   refine jS (jR (jm rfl (je (Run.build (evs.cons rfl (evs.cons rfl evs.nil)) eK (cO).choose_spec.1 (cO).choose_spec.2 (cells := (tkC (1, (q.drop (a + 1)).take j)).toArray) rfl) (jm rfl (jb rfl rfl (Bin.add_i64 _ 1 jo) ?_)))))
   refine Ops.st (qJ.storeA rfl rfl zw hb1 rfl (eW _)) ?_
   rintro w2 ⟨hb2, hf2, hs2⟩
   refine ja rfl (jO (jN (jv2 4 5 ?_)))
   refine jT ?_
   refine qZ (qN (qZ (qZ (qN (qZ (qZ (bM ?_)))))))
   refine qB rfl zdi zw ((hb2.cells)) (by first | rfl | (simp; done) | (simp [*]; done)) ?_
   refine cW rfl ?_
   refine qF ?_
   exact ⟨rfl, K.own hf2 (by simp; omega)⟩
  obtain ⟨h51, h52, h53, h54, m', rfl, hq'⟩ : q[a + 1 + j].toNat ≠ 34 ∧ ¬ (q[a + 1 + j].toNat < 32) ∧ q[a + 1 + j].toNat ≠ 127 ∧ q[a + 1 + j].toNat ≠ 92 ∧ ∃ m', m = m' + 1 ∧ mU (q.drop (a + 1 + j + 1)) = some m' := by
   rcases hst with h | h
   · exact absurd h.1 hc5
   exact h
  refine jQ (jN (jv5 0 4 6 7 8 ?_))
  refine jS (jS ?_)
  refine VC.split1 [(0, _), (4, _), (6, _), (7, _), (8, _)] (js5 rfl rfl rfl rfl rfl) 51 (.bool (decide (False))) ?_ ?_
  ·
   refine jR ?_
   refine jm rfl (jb rfl rfl (Bin.lssN _ 32) ?_)
   by_cases hs47 : q[a + 1 + j].toNat < 32
   ·
    refine jM ?_
    refine jU ?_
    refine jU ?_
    refine jW rfl rfl au (jO ?_)
    refine jN ⟨(js6 (jC (by grind)) rfl rfl rfl rfl rfl), rfl⟩
   refine jM ?_
   refine jG ?_
   refine jk (Run.bin rfl rfl (Bin.eqlN _ 127)) ?_
   by_cases hs50 : q[a + 1 + j].toNat = 127
   ·
    refine jF rfl rfl au (jO ?_)
    refine jN ⟨(js6 (jC (by grind)) rfl rfl rfl rfl rfl), rfl⟩
   refine jF rfl rfl au (jO ?_)
   refine jN ⟨(js6 (jC (by grind)) rfl rfl rfl rfl rfl), rfl⟩
  intro Γ hΓ
  refine jN (VC.sub _ hΓ ?_)
  refine VC.condF rfl (rfl) ?_
  refine jQ (jN (jv5 0 4 6 7 8 ?_))
  refine jS (jS (jR (jm rfl (jb rfl rfl (Bin.eqlN _ 92) (jO (jN (jv5 0 4 6 7 54 ?_)))))))
  refine VC.condF rfl (decide_eq_false h54) ?_
  refine jQ (jN (jv4 0 4 6 7 ?_))
  refine jR (jm rfl (jm rfl (jm rfl (jm rfl (jb rfl rfl (Bin.add_i64 _ 1 jo) (je (Run.sliceT _ _ rfl za (evB.some_ rfl) (evB.some_ rfl) jo jo) (je (Run.addT rfl rfl (by simp only [zbd, zbl]; omega)) (ja rfl (jO ?_)))))))))
  refine qS (jN ?_)
  refine jv4 0 4 6 7 ?_
  refine jR (jm rfl (jb rfl rfl (Bin.add_i64 _ 1 jo) (ja rfl (jO ?_))))
  refine jN ⟨(j + 1, m'), (js4 rfl rfl (by show some (encStr _) = some (encStr _); rw [qJe jo, show a + 1 + j + 1 - (a + 1 + j) = 1 by omega]) rfl), ?_, ?_⟩
  · exact ⟨jo, by rw [← zcx]; exact hq', rfl⟩
  exact jq
 rw [if_neg hc3] at h
 obtain ⟨Q, hQ, h⟩ := Option.bind_eq_some_iff.1 h
 split at h
 · cases h
 rename_i hQ0
 injection h with h
 injection h with h1 h2
 subst h1 h2
 refine jQ (jN (jv3 0 1 4 ?_))
 refine jS (jR (jm rfl (ja rfl (jO (jN (jv4 0 1 4 9 ?_))))))
 refine jS (jR (ja rfl (jO (jN (jS (jB ?_))))))
 refine VC.loop (σ := Nat × Nat × Bool) (fun s => [(0, encStr q), (1, jI1 a), (4, jI0 g4), (9, jI1 (a + s.1)), (10, .bool s.2.2)]) (fun s wr => s.1 + s.2.1 = Q ∧ atF s.2.2 (q.drop (a + s.1)) = some s.2.1 ∧ a + s.1 ≤ q.length ∧ wr = w1) (fun s => s.2.1) (0, Q, false) (js5 rfl rfl rfl rfl rfl) ⟨jp, hQ, jo, rfl⟩ ?_
 rintro ⟨j, m, b⟩ wr ⟨hjm, hq, hjl, rfl⟩
 dsimp only at hjm hq hjl ⊢
 have hst := qJd hq
 refine jS (jS (jR (jm rfl (jm rfl (je (Run.lenT rfl za) (jb rfl rfl (Bin.lssN _ _) (jO (jN (jv6 0 1 4 9 10 86 ?_)))))))))
 refine jD rfl (fun hc9 => ?_) fun hc9 => ?_
 ·
  have hnb : ¬ (b = true ∧ (q[a + j].toNat < 32 ∨ 126 < q[a + j].toNat)) := by
   rcases hst with ⟨_, h, _⟩ | ⟨_, h, _⟩
   · simp [h]
   exact h
  refine jQ (jN (jv5 0 1 4 9 10 ?_))
  refine jB (jS (jS ?_))
  refine VC.split1 [(0, _), (1, _), (4, _), (9, _), (10, _)] (js5 rfl rfl rfl rfl rfl) 99 (.bool (decide (False))) ?_ ?_
  ·
   refine jR (jM ?_)
   by_cases hs87 : b = true
   ·
    refine jM ?_
    refine jG ?_
    refine jG ?_
    refine jk (Run.indexT _ rfl rfl za (zb hc9)) ?_
    refine jk (Run.bin rfl rfl (Bin.lssN _ 32)) ?_
    by_cases hs92 : q[a + j].toNat < 32
    ·
     refine jG ?_
     refine jU ?_
     refine jU ?_
     refine jU ?_
     refine jU ?_
     refine jk (Run.pickT rfl rfl au) ?_
     refine jW rfl rfl au (jO ?_)
     refine jN ⟨(js6 (jC (by grind)) rfl rfl rfl rfl rfl), rfl⟩
    refine jG ?_
    refine jG ?_
    refine jG ?_
    refine jk (Run.indexT _ rfl rfl za (zb hc9)) ?_
    refine jk (Run.bin rfl rfl (Bin.gtrN _ 126)) ?_
    by_cases hs97 : 126 < q[a + j].toNat
    ·
     refine jk (Run.pickF rfl rfl au) ?_
     refine jW rfl rfl au (jO ?_)
     refine jN ⟨(js6 (jC (by grind)) rfl rfl rfl rfl rfl), rfl⟩
    refine jk (Run.pickF rfl rfl au) ?_
    refine jW rfl rfl au (jO ?_)
    refine jN ⟨(js6 (jC (by grind)) rfl rfl rfl rfl rfl), rfl⟩
   refine jM ?_
   refine jU ?_
   refine jU ?_
   refine jU ?_
   refine jU ?_
   refine jU ?_
   refine Ops.skU rfl rfl ?_
   refine Ops.skU rfl rfl ?_
   refine Ops.skU rfl rfl ?_
   refine Ops.skU rfl rfl ?_
   refine jU ?_
   refine jF rfl rfl au (jO ?_)
   refine jN ⟨(js6 (jC (by grind)) rfl rfl rfl rfl rfl), rfl⟩
  intro Γ hΓ
  refine jN (VC.sub _ hΓ ?_)
  refine VC.condF rfl (rfl) ?_
  refine jQ (jN (jv5 0 1 4 9 10 ?_))
  refine jS (jS ?_)
  refine VC.split1 [(0, _), (1, _), (4, _), (9, _), (10, _)] (js5 rfl rfl rfl rfl rfl) 109 (.bool (decide (b = false ∧ ¬ Sgn q[a + j]))) ?_ ?_
  ·
   refine jR (jM ?_)
   by_cases hs101 : b = true
   ·
    refine je (Run.not rfl) (jM ?_)
    refine jU ?_
    refine jU ?_
    refine jU ?_
    refine jU ?_
    refine jU ?_
    refine jF rfl rfl au (jO ?_)
    refine jN ⟨(js6 (jC (by grind)) rfl rfl rfl rfl rfl), rfl⟩
   refine je (Run.not rfl) (jM ?_)
   refine jG ?_
   refine jG ?_
   refine jk (Run.indexT _ rfl rfl za (zb hc9)) ?_
   refine Ops.clg rfl au (jE1 Tryz.call90) (qX2 _ _) rfl ?_
   rintro e _ ⟨rfl, rfl⟩
   refine ⟨_, rfl, ?_⟩
   by_cases hs107 : Sgn q[a + j]
   ·
    refine jk (Run.not rfl) ?_
    refine jW rfl rfl au (jO ?_)
    refine jN ⟨(js6 (jC (by grind)) rfl rfl rfl rfl rfl), rfl⟩
   refine jk (Run.not rfl) ?_
   refine jW rfl rfl au (jO ?_)
   refine jN ⟨(js6 (jC (by grind)) rfl rfl rfl rfl rfl), rfl⟩
  intro Γ hΓ
  refine jN (VC.sub _ hΓ ?_)
  refine jD rfl (fun hc11 => ?_) fun hc11 => ?_
  ·
   obtain ⟨rfl, rfl⟩ : m = 0 ∧ b = false := by
    rcases hst with ⟨h1, h2, _⟩ | ⟨_, _, h, _⟩
    · exact ⟨h1, h2⟩
    exact absurd (h hc11.1) hc11.2
   have hjQ : j = Q := jo
   subst hjQ
   refine jX ?_
   refine qV (kM rfl (qV (qC ?_)))
   refine jN (jv5 0 1 4 9 10 ?_)
   refine jS (jS ?_)
   refine VC.split1 [(0, _), (1, _), (4, _), (9, _)] (js4 rfl rfl rfl rfl) 125 (.bool (decide (False))) ?_ ?_
   ·
    refine jR ?_
    refine jm rfl (jM ?_)
    refine jG ?_
    refine jG ?_
    refine jk (Run.bin rfl rfl (Bin.eqlN _ _)) ?_
    by_cases hs124 : a + j = a
    ·
     refine jF rfl rfl au (jO ?_)
     refine jN ⟨(js5 (jC (by grind)) rfl rfl rfl rfl), rfl⟩
    refine jF rfl rfl au (jO ?_)
    refine jN ⟨(js5 (jC (by grind)) rfl rfl rfl rfl), rfl⟩
   intro Γ hΓ
   refine jN (VC.sub _ hΓ ?_)
   refine VC.condF rfl (rfl) ?_
   refine jQ (jN (jv4 0 1 4 9 ?_))
   refine jS (jR (jm rfl (jm rfl (jm rfl (je (Run.sliceT _ _ rfl za (evB.some_ rfl) (evB.some_ rfl) jo jo) (je (Run.build (evs.cons rfl (evs.cons rfl evs.nil)) eK (cO).choose_spec.1 (cO).choose_spec.2 (cells := (tkC (0, (q.drop a).take (a + j - a))).toArray) rfl) (jM ?_)))))))
   refine Ops.st (qJ.storeA rfl rfl zw hb1 rfl (eW _)) ?_
   rintro w2 ⟨hb2, hf2, hs2⟩
   refine ja rfl (jO (jN (jv2 4 5 ?_)))
   refine jT ?_
   refine bM ?_
   refine qB rfl zdi zw ((hb2.cells)) (by first | rfl | (simp; done) | (simp [*]; done)) ?_
   refine cW rfl ?_
   refine qF ?_
   exact ⟨by rw [show a + j - a = j by omega]; rfl, K.own hf2 (by simp; omega)⟩
  obtain ⟨m', rfl, hq'⟩ : ∃ m', m = m' + 1 ∧ atF (if q[a + j].toNat = 93 then false else if q[a + j].toNat = 91 then true else b) (q.drop (a + j + 1)) = some m' := by
   rcases hst with ⟨_, h, h2 | ⟨_, h2⟩⟩ | ⟨_, _, _, h⟩
   · omega
   · exact absurd ⟨h, h2⟩ hc11
   exact h
  refine jQ (jN (jv5 0 1 4 9 10 ?_))
  refine jS (jS (jR (jm rfl (jM ?_))))
  refine je (Run.indexT _ rfl rfl za (zb hc9)) ?_
  refine jb rfl rfl (Bin.eqlN _ 91) (jO (jN (jv6 0 1 4 9 10 113 ?_)))
  refine jD rfl (fun hc12 => ?_) fun hc12 => ?_
  ·
   refine jR (ja rfl (jO (jN (jv5 0 1 4 9 10 ?_))))
   refine jS (jS (jR (jm rfl (jM ?_))))
   refine je (Run.indexT _ rfl rfl za (zb hc9)) ?_
   refine jb rfl rfl (Bin.eqlN _ 93) (jO (jN (jv6 0 1 4 9 10 117 ?_)))
   refine jD rfl (fun hc13 => ?_) fun hc13 => ?_
   ·
    refine jR (ja rfl (jO (jN (jv5 0 1 4 9 10 ?_))))
    refine jR (jm rfl (jb rfl rfl (Bin.add_i64 _ 1 jo) (ja rfl (jO ?_))))
    refine qS (jN ⟨(j + 1, m', false), (js5 rfl rfl rfl rfl rfl), ?_, ?_⟩)
    · exact ⟨by show j + 1 + m' = _; omega, by rw [← zcx, ← hq', if_pos hc13], by show a + (j + 1) ≤ _; omega, rfl⟩
    exact jq
   refine jQ (jN (jv5 0 1 4 9 10 ?_))
   refine jR (jm rfl (jb rfl rfl (Bin.add_i64 _ 1 jo) (ja rfl (jO ?_))))
   refine qS (jN ⟨(j + 1, m', true), (js5 rfl rfl rfl rfl rfl), ?_, ?_⟩)
   · exact ⟨by show j + 1 + m' = _; omega, by rw [← zcx, ← hq', if_neg hc13, if_pos hc12], by show a + (j + 1) ≤ _; omega, rfl⟩
   exact jq
  refine jQ (jN (jv5 0 1 4 9 10 ?_))
  refine jS (jS (jR (jm rfl (jM ?_))))
  refine je (Run.indexT _ rfl rfl za (zb hc9)) ?_
  refine jb rfl rfl (Bin.eqlN _ 93) (jO (jN (jv6 0 1 4 9 10 117 ?_)))
  refine jD rfl (fun hc13 => ?_) fun hc13 => ?_
  ·
   refine jR (ja rfl (jO (jN (jv5 0 1 4 9 10 ?_))))
   refine jR (jm rfl (jb rfl rfl (Bin.add_i64 _ 1 jo) (ja rfl (jO ?_))))
   refine qS (jN ⟨(j + 1, m', false), (js5 rfl rfl rfl rfl rfl), ?_, ?_⟩)
   · exact ⟨by show j + 1 + m' = _; omega, by rw [← zcx, ← hq', if_pos hc13], by show a + (j + 1) ≤ _; omega, rfl⟩
   exact jq
  refine jQ (jN (jv5 0 1 4 9 10 ?_))
  refine jR (jm rfl (jb rfl rfl (Bin.add_i64 _ 1 jo) (ja rfl (jO ?_))))
  refine qS (jN ⟨(j + 1, m', b), (js5 rfl rfl rfl rfl rfl), ?_, ?_⟩)
  · exact ⟨by show j + 1 + m' = _; omega, by rw [← zcx, ← hq', if_neg hc13, if_neg hc12], by show a + (j + 1) ≤ _; omega, rfl⟩
  exact jq
 obtain ⟨rfl, rfl⟩ : m = 0 ∧ b = false := by
  rcases hst with ⟨h1, h2, _⟩ | ⟨h, _⟩
  · exact ⟨h1, h2⟩
  omega
 have hjQ : j = Q := jo
 subst hjQ
 refine jX ?_
 refine qV (qV (qC ?_))
 refine jN (jv5 0 1 4 9 10 ?_)
 refine jS (jS ?_)
 refine VC.split1 [(0, _), (1, _), (4, _), (9, _)] (js4 rfl rfl rfl rfl) 125 (.bool (decide (False))) ?_ ?_
 ·
  refine jR ?_
  refine jm rfl (jM ?_)
  refine jG ?_
  refine jG ?_
  refine jk (Run.bin rfl rfl (Bin.eqlN _ _)) ?_
  by_cases hs124 : a + j = a
  ·
   refine jF rfl rfl au (jO ?_)
   refine jN ⟨(js5 (jC (by grind)) rfl rfl rfl rfl), rfl⟩
  refine jF rfl rfl au (jO ?_)
  refine jN ⟨(js5 (jC (by grind)) rfl rfl rfl rfl), rfl⟩
 intro Γ hΓ
 refine jN (VC.sub _ hΓ ?_)
 refine VC.condF rfl (rfl) ?_
 refine jQ (jN (jv4 0 1 4 9 ?_))
 refine jS (jR (jm rfl (jm rfl (jm rfl (je (Run.sliceT _ _ rfl za (evB.some_ rfl) (evB.some_ rfl) jo jo) (je (Run.build (evs.cons rfl (evs.cons rfl evs.nil)) eK (cO).choose_spec.1 (cO).choose_spec.2 (cells := (tkC (0, (q.drop a).take (a + j - a))).toArray) rfl) (jM ?_)))))))
 refine Ops.st (qJ.storeA rfl rfl zw hb1 rfl (eW _)) ?_
 rintro w2 ⟨hb2, hf2, hs2⟩
 refine ja rfl (jO (jN (jv2 4 5 ?_)))
 refine jT ?_
 refine bM ?_
 refine qB rfl zdi zw ((hb2.cells)) (by first | rfl | (simp; done) | (simp [*]; done)) ?_
 refine cW rfl ?_
 refine qF ?_
 exact ⟨by rw [show a + j - a = j by omega]; rfl, K.own hf2 (by simp; omega)⟩
theorem qQr : ∀ (s : Tx) {k : Nat}, mU s = some k → k < s.length
 | [], _, h => by cases h
 | c :: r, k, h => by
  unfold mU at h
  split at h
  · injection h with h; subst h; simp
  split at h
  · cases h
  obtain ⟨m, h1, rfl⟩ := Option.map_eq_some_iff.1 h
  have := qQr r h1
  simp; omega
theorem qZf : ∀ (s : Tx) {b : Bool} {k : Nat}, atF b s = some k → k ≤ s.length
 | [], b, k, h => by
  unfold atF at h
  split at h
  · cases h
  injection h with h; subst h; simp
 | c :: r, b, k, h => by
  unfold atF at h
  split at h
  · cases h
  split at h
  · injection h with h; subst h; simp
  obtain ⟨m, h1, rfl⟩ := Option.map_eq_some_iff.1 h
  have := qZf r h1
  simp; omega
theorem qKd {q : Tx} {a : Nat} {t : Tk} {nx : Nat} (h : mB q a = some (t, nx)) : a < nx ∧ nx ≤ q.length := by
 unfold mB at h
 split at h
 · cases h
 rename_i c hc
 have ha := (List.getElem?_eq_some_iff.1 hc).1
 split at h
 · injection h with h; injection h with h1 h2; omega
 split at h
 · injection h with h; injection h with h1 h2; omega
 split at h
 ·
  obtain ⟨Q, hQ, h⟩ := Option.map_eq_some_iff.1 h
  have := qQr _ hQ
  rw [zbl] at this
  injection h with h1 h2; omega
 obtain ⟨Q, hQ, h⟩ := Option.bind_eq_some_iff.1 h
 have := qZf _ hQ
 rw [zbl] at this
 split at h
 · cases h
 injection h with h; injection h with h1 h2; omega
def fP (q : Tx) : Nat → Nat → Nat → Option (List (Tk × Nat))
 | 0, _, _ => none
 | f + 1, a, gap => match q[a]? with
  | none => if gap = 0 then some [] else none
  | some c => if c.toNat = 32 then fP q f (a + 1) (gap + 1) else match mB q a with
   | none => none
   | some p => (fP q f p.2 0).map ((p.1, gap) :: ·)
theorem qX3 {q : Tx} {f a gap : Nat} {R : List (Tk × Nat)} (h : fP q f a gap = some R) : (q.length ≤ a ∧ gap = 0 ∧ R = []) ∨ ∃ ha : a < q.length, ∃ f', f = f' + 1 ∧ ((q[a].toNat = 32 ∧ fP q f' (a + 1) (gap + 1) = some R) ∨ (q[a].toNat ≠ 32 ∧ ∃ t nx R', mB q a = some (t, nx) ∧ fP q f' nx 0 = some R' ∧ R = (t, gap) :: R')) := by
 cases f with
 | zero => cases h
 | succ f =>
  unfold fP at h
  split at h
  ·
   rename_i hn
   split at h
   · injection h with h; exact .inl ⟨by simpa using hn, by assumption, h.symm⟩
   cases h
  rename_i c hc
  obtain ⟨ha, rfl⟩ := List.getElem?_eq_some_iff.1 hc
  refine .inr ⟨ha, f, rfl, ?_⟩
  split at h
  · exact .inl ⟨by assumption, h⟩
  split at h
  · cases h
  rename_i p hp
  obtain ⟨R', h1, h2⟩ := Option.map_eq_some_iff.1 h
  exact .inr ⟨by assumption, p.1, p.2, R', hp, h1, h2.symm⟩
def bD (L : List (Tk × Nat)) : List Tk := L.map (·.1)
def pI (L : List (Tk × Nat)) : List Int := L.map fun x => ((x.2 : Nat) : Int)
def mC (L : List (Tk × Nat)) : Prop := ∀ i < L.length, (pI L).getD i 0 = if i = 0 ∨ ((bD L).getD (i - 1) tk0).1 = 2 ∨ ((bD L).getD i tk0).1 = 3 then 0 else 1
instance (L : List (Tk × Nat)) : Decidable (mC L) := by unfold mC; infer_instance
structure TokR (w wr : World) (L : List (Tk × Nat)) (A : Option Addr) (d : Nat) (G : Option Addr) (e : Nat) : Prop where
 out : Own wr 41 2 A L.length d ((bD L).flatMap tkC)
 gap : Own wr 3 1 G L.length e (IB (pI L))
 up : (∀ x ∈ ob A, w.heap.size ≤ x) ∧ ∀ x ∈ ob G, w.heap.size ≤ x
 frm : Frm [] w wr
theorem TokR.step {w wr wx : World} {L : List (Tk × Nat)} {A G : Option Addr} {d e : Nat} (h : TokR w wr L A d G e) (k : Frm [] wr wx) : TokR w wx L A d G e := ⟨h.out.frm k jp, h.gap.frm k jp, h.up, h.frm.trans k jp⟩
theorem hrdK {w w' : World} {t : TypeId} {x : Tk} (h : Fresh w w' t (Value.agg (tkC x).toArray).cells) : Rd w' 2 (some ⟨w.heap.size, 0, none⟩) 1 ([x].flatMap tkC) := Rd.of_blk (n := 1) (size := 2) h.blk rfl
theorem hrdI {w w' : World} {t : TypeId} {q : Int} (h : Fresh w w' t #[.int .i64 q]) : Rd w' 1 (some ⟨w.heap.size, 0, none⟩) 1 (IB [q]) := Rd.of_blk (n := 1) (size := 1) h.blk rfl
theorem yZ (q : Tx) (L : List (Tk × Nat)) (F : Nat) (P : Option Addr) (pc : Nat) (w : World) (hs : q.length ≤ 1000000) (hP : Rd w 2 P 1 [.bool false, encStr q]) (hF : fP q F 0 0 = some L) (hG : mC L) : Calls Tryz.prog 29 #[.slice P 1 pc] w fun e w' => ∃ A d, e = .returned (.tuple #[.slice A L.length d, .int .i64 0]) ∧ RdT w' A L.length (bD L) ∧ Frm [] w w' := by
 obtain ⟨pad, rfl, _, hpc⟩ := hP.2 jo
 have hp1 : ∀ W, Frm [] w W → W.cell? ((pad.add (0 * 2)).add 0) = some (.bool false) := fun W hW => by
  obtain ⟨ad, h1, _, h2⟩ := (hP.frm hW jp).2 jo
  cases h1
  have := h2 0 _ rfl
  rw [show (0 * 2) = 0 from rfl, show pad.add 0 = pad by cases pad; simp [Addr.add]]
  simpa using this
 have hp2 : ∀ W, Frm [] w W → W.cell? ((pad.add (0 * 2)).add 1) = some (encStr q) := fun W hW => by
  obtain ⟨ad, h1, _, h2⟩ := (hP.frm hW jp).2 jo
  cases h1
  have := h2 1 _ rfl
  rw [show (0 * 2) = 0 from rfl, show pad.add 0 = pad by cases pad; simp [Addr.add]]
  simpa using this
 refine jV Tryz.func29 Tryz.ntmps29 Tryz.results29 ?_
 refine jS (jR (ja rfl (jz 0 (jO (jN (jv1 0 ?_))))))
 refine jS (jR (ja rfl (jO (jN (jS (jR (ja rfl (jO (jN (jS (jR (jz 0 (jO (jN (jS (jS (jR (jz 0 (jO (jN (jB ?_)))))))))))))))))))))
 refine VC.loop (σ := Nat × List (Tk × Nat) × Option Addr × Nat × Option Addr × Nat) (fun s => [(0, .slice (some pad) 1 pc), (4, .slice s.2.2.1 s.2.1.length s.2.2.2.1), (5, .slice s.2.2.2.2.1 s.2.1.length s.2.2.2.2.2), (6, jI1 0), (7, jI1 s.1)]) (fun s wr => (s.1 = 0 ∧ s.2.1 = [] ∨ s.1 = 1 ∧ s.2.1 = L) ∧ s.2.1.length ≤ q.length ∧ TokR w wr s.2.1 s.2.2.1 s.2.2.2.1 s.2.2.2.2.1 s.2.2.2.2.2) (fun s => 1 - s.1) (0, [], none, 0, none, 0) (js5 rfl rfl rfl rfl rfl) ⟨.inl ⟨rfl, rfl⟩, jp, Own.nil _ _ _, Own.nil _ _ _, ⟨by simp [ob], by simp [ob]⟩, Frm.refl _ _⟩ ?_
 rintro ⟨i, pre, A, d, G, e⟩ wr ⟨hip, hpq, hT⟩
 dsimp only at hip hpq hT ⊢
 refine jS (jS (jR (jm rfl (jm rfl (jL rfl zdb (jb rfl rfl (Bin.lssN _ _) (jO (jN (jv6 0 4 5 6 7 16 ?_)))))))))
 refine jD rfl (fun hc1 => ?_) fun hc1 => ?_
 ·
  obtain ⟨rfl, rfl⟩ : i = 0 ∧ pre = [] := by
   rcases hip with h | ⟨h, _⟩
   · exact h
   omega
  refine jQ (jN (jv5 0 4 5 6 7 ?_))
  refine jS (jB (jS (jS (jR (jm rfl (jm rfl (je (Run.indexS 0 rfl rfl zdb Tryz.sizeOf82 jo) (jf rfl zds rfl zq (jl rfl zaq (hp1 _ hT.frm) (jO (jN (jv6 0 4 5 6 7 23 ?_))))))))))))
  refine VC.condF rfl (rfl) ?_
  refine jQ (jN (jv5 0 4 5 6 7 ?_))
  refine jS (jR (jz 0 (jO (jN (jB ?_)))))
  refine VC.loop (σ := (Nat × Nat × Nat × List (Tk × Nat)) × List (Tk × Nat) × Option Addr × Nat × Option Addr × Nat) (fun s => [(0, .slice (some pad) 1 pc), (4, .slice s.2.2.1 s.2.1.length s.2.2.2.1), (5, .slice s.2.2.2.2.1 s.2.1.length s.2.2.2.2.2), (6, jI1 s.1.2.1), (7, jI1 0), (8, jI1 s.1.1)]) (fun s wr => s.1.1 ≤ q.length ∧ s.1.2.1 ≤ s.1.1 ∧ s.2.1.length ≤ s.1.1 ∧ fP q s.1.2.2.1 s.1.1 s.1.2.1 = some s.1.2.2.2 ∧ s.2.1 ++ s.1.2.2.2 = L ∧ TokR w wr s.2.1 s.2.2.1 s.2.2.2.1 s.2.2.2.2.1 s.2.2.2.2.2) (fun s => s.1.2.2.1) ((0, 0, F, L), [], A, d, G, e) (js6 rfl rfl rfl rfl rfl rfl) ⟨jp, jp, jp, hF, jp, hT⟩ ?_
  rintro ⟨⟨a, gap, f, R⟩, pre, A, d, G, e⟩ wr ⟨hal, hga, hpl, htk, hL, hT⟩
  dsimp only at hal hga hpl htk hL hT ⊢
  have hst := qX3 htk
  refine jS (jS (jR (jm rfl (jm rfl (jm rfl (je (Run.indexS 0 rfl rfl zdb Tryz.sizeOf82 jo) (jf rfl zds rfl zd (jl rfl zj (hp2 _ hT.frm) (je (Run.lenT rfl za) (jb rfl rfl (Bin.lssN _ _) (jO (jN (jv7 0 4 5 6 7 8 44 ?_)))))))))))))
  refine jD rfl (fun hc3 => ?_) fun hc3 => ?_
  ·
   obtain ⟨f, rfl, hst2⟩ : ∃ f', f = f' + 1 ∧ ((q[a].toNat = 32 ∧ fP q f' (a + 1) (gap + 1) = some R) ∨ (q[a].toNat ≠ 32 ∧ ∃ t nx R', mB q a = some (t, nx) ∧ fP q f' nx 0 = some R' ∧ R = (t, gap) :: R')) := by
    rcases hst with ⟨h, _⟩ | ⟨_, h⟩
    · omega
    exact h
   refine jQ (jN (jv6 0 4 5 6 7 8 ?_))
   refine jB (jS (jS (jR (jm rfl (jm rfl (je (Run.indexS 0 rfl rfl zdb Tryz.sizeOf82 jo) (jf rfl zds rfl zd (jl rfl zj (hp2 _ hT.frm) (jM ?_)))))))))
   refine je (Run.indexT _ rfl rfl za (zb hc3)) ?_
   refine jb rfl rfl (Bin.eqlN _ 32) (jO (jN (jv7 0 4 5 6 7 8 52 ?_)))
   refine jD rfl (fun hc4 => ?_) fun hc4 => ?_
   ·
    have hst3 : fP q f (a + 1) (gap + 1) = some R := by
     rcases hst2 with ⟨_, h⟩ | ⟨h, _⟩
     · exact h
     exact absurd hc4 h
    refine jS (jR (jm rfl (jb rfl rfl (Bin.add_i64 _ 1 jo) (ja rfl (jO (jN (jv6 0 4 5 6 7 8 ?_)))))))
    refine jS (jR (jm rfl (jb rfl rfl (Bin.add_i64 _ 1 jo) (ja rfl (jO (jN (jv6 0 4 5 6 7 8 ?_)))))))
    refine jX ?_
    refine qV (qC ?_)
    refine jN ⟨((a + 1, gap + 1, f, R), pre, A, d, G, e), (js6 rfl rfl rfl rfl rfl rfl), ?_, ?_⟩
    · exact ⟨by show a + 1 ≤ _; omega, by show gap + 1 ≤ a + 1; omega, by show pre.length ≤ a + 1; omega, hst3, hL, hT⟩
    exact jq
   obtain ⟨t, nx, R', hct, hst3, rfl⟩ : ∃ t nx R', mB q a = some (t, nx) ∧ fP q f nx 0 = some R' ∧ R = (t, gap) :: R' := by
    rcases hst2 with ⟨h, _⟩ | ⟨_, h⟩
    · exact absurd h hc4
    exact h
   have hnx := qKd hct
   refine jQ (jN (jv6 0 4 5 6 7 8 ?_))
   refine jS (jR (jm rfl (jm rfl (je (Run.indexS 0 rfl rfl zdb Tryz.sizeOf82 jo) (jf rfl zds rfl zd (jl rfl zj (hp2 _ hT.frm) (jM ?_)))))))
   refine jc (jE2 Tryz.call60) (vW q a t nx _ hs hct) ?_
   rintro _ w1 ⟨rfl, hf1⟩
   refine ⟨_, rfl, ?_⟩
   have hT := hT.step hf1
   refine jm rfl (jY rfl rfl (jY rfl rfl ?_))
   refine Ops.m (qH.alloc eK) rfl ?_
   rintro _ w2 ⟨rfl, hF2⟩
   obtain ⟨g9, hg9⟩ : ∃ g, g = w1.heap.size := ⟨_, rfl⟩
   have hb2 := hF2.blk
   have s2 := hF2.size
   rw [← hg9] at hb2 ⊢
   have s1 := hT.frm.size
   have hAlt : ∀ y ∈ ob A, y < g9 := fun y hy => by have := hT.out.lt y hy; omega
   have hGlt : ∀ y ∈ ob G, y < g9 := fun y hy => by have := hT.gap.lt y hy; omega
   have hT := hT.step hF2.frm
   refine Ops.st (qJ.storeA rfl rfl zw hb2 rfl (eW _)) ?_
   rintro w3 ⟨hb3, hf3, hs3⟩
   have hT : TokR w w3 pre A d G e := ⟨hT.out.frm hf3 (fun y hy h => by have := hAlt y hy; simp at h; omega), hT.gap.frm hf3 (fun y hy h => by have := hGlt y hy; simp at h; omega), hT.up, hT.frm.own hf3 (by simp; omega)⟩
   refine ja rfl (jO (jN (jv7 0 4 5 6 7 9 10 ?_)))
   refine jS (jS (jR (jm rfl (jb rfl rfl (Bin.eqlN _ 0) (jO (jN (jv8 0 4 5 6 7 9 10 68 ?_)))))))
   refine VC.condF rfl jdf ?_
   refine jQ (jN (jv7 0 4 5 6 7 9 10 ?_))
   refine jS (jR (jm rfl (je (Run.loadA rfl zdi zw (hb3.cells) (by first | rfl | (simp; done))) ?_)))
   refine Ops.m (qH.buildS1 rfl zs zw eK jd jd rfl rfl) rfl ?_
   rintro _ w4 ⟨rfl, hF4⟩
   have hT := hT.step hF4.frm
   have s4 := hF4.size
   refine Ops.m (qH.app rfl rfl zs (sA) rfl jd hT.out (hrdK hF4) (eW _) jo jo) rfl ?_
   rintro _ w5 ⟨A5, d5, rfl, hA5, hf5, hob5⟩
   have hA5 : Own w5 41 2 A5 (pre ++ [(t, gap)]).length d5 ((bD (pre ++ [(t, gap)])).flatMap tkC) := by simpa [bD] using hA5
   have hupA : ∀ x ∈ ob A5, w.heap.size ≤ x := oD hT.up.1 hob5 hT.frm.size
   have hGp := hT.gap.frm hf5 (hT.gap.ne_own hT.out jd)
   have hK5 := hT.frm.own hf5 hT.up.1
   have s5 := hf5.size
   refine ja rfl (jO (jN (jv6 0 4 5 6 7 10 ?_)))
   refine jS (jR (jm rfl (jM ?_)))
   refine Ops.m (qH.buildS1 rfl zl zc dH jd jd rfl rfl) rfl ?_
   rintro _ w6 ⟨rfl, hF6⟩
   have hA6 := hA5.frm hF6.frm jp
   have hGp := hGp.frm hF6.frm jp
   have hK6 := hK5.trans hF6.frm jp
   have s6 := hF6.size
   refine Ops.m (qH.app rfl rfl zl (wT) rfl jd hGp (hrdI hF6) (yV _) jo jo) rfl ?_
   rintro _ w7 ⟨G7, e7, rfl, hG7, hf7, hob7⟩
   have hG7 : Own w7 3 1 G7 (pre ++ [(t, gap)]).length e7 (IB (pI (pre ++ [(t, gap)]))) := by simpa [pI, IB] using hG7
   have hT7 : TokR w w7 (pre ++ [(t, gap)]) A5 d5 G7 e7 := ⟨hA6.frm hf7 (hA6.ne_own hGp jd), hG7, ⟨hupA, oD hT.up.2 hob7 hK6.size⟩, hK6.own hf7 hT.up.2⟩
   have el : pre.length + 1 = (pre ++ [(t, gap)]).length := jp
   refine ja rfl (jO (jN (jv5 0 4 5 7 10 ?_)))
   refine jS (jR (jz 0 (jO (jN (jR (jm rfl (ja rfl (jO ?_))))))))
   refine qS (jN ⟨((nx, 0, f, R'), pre ++ [(t, gap)], A5, d5, G7, e7), (js6 rfl (by rw [← el]; rfl) (by rw [← el]; rfl) rfl rfl rfl), ?_, ?_⟩)
   · exact ⟨by show nx ≤ _; omega, by show 0 ≤ nx; omega, by simp; omega, hst3, by simpa using hL, hT7⟩
   exact jq
  obtain ⟨rfl, rfl⟩ : gap = 0 ∧ R = [] := by
   rcases hst with ⟨_, h⟩ | ⟨h, _⟩
   · exact h
   omega
  rw [zdq] at hL
  subst hL
  refine jX ?_
  refine qV (qV (qC ?_))
  refine qS (jN ?_)
  refine jv5 0 4 5 6 7 ?_
  refine jR (jm rfl (jb rfl rfl (Bin.add_i64 _ 1 jo) (ja rfl (jO ?_))))
  refine jN ⟨(1, pre, A, d, G, e), (js5 rfl rfl rfl rfl rfl), ?_, ?_⟩
  · exact ⟨.inr ⟨rfl, rfl⟩, by show pre.length ≤ _; omega, hT⟩
  exact jq
 obtain ⟨rfl, rfl⟩ : i = 1 ∧ pre = L := by
  rcases hip with ⟨h, _⟩ | h
  · omega
  exact h
 rename World => wq
 have hR : RdT wq A pre.length (bD pre) := ⟨by simp [bD], hT.out.rd⟩
 refine jX ?_
 refine qV (qV (qC ?_))
 refine jN (jv3 4 5 6 ?_)
 refine jS (jS (jR (jm rfl (jb rfl rfl (Bin.gtrN _ 0) (jO (jN (jv3 4 5 79 ?_)))))))
 refine VC.condF rfl (rfl) ?_
 refine jQ (jN (jv2 4 5 ?_))
 refine jS (jS (jR (jz 0 (jO (jN (jB ?_))))))
 refine VC.loop (σ := Nat) (fun s => [(4, .slice A pre.length d), (5, .slice G pre.length e), (11, jI1 s)]) (fun s wr => s ≤ pre.length ∧ wr = wq) (fun s => pre.length - s) 0 (js3 rfl rfl rfl) ⟨jo, rfl⟩ ?_
 rintro i wr ⟨hi, rfl⟩
 refine jS (jS (jR (jm rfl (jm rfl (jL rfl zs (jb rfl rfl (Bin.lssN _ _) (jO (jN (jv4 4 5 11 83 ?_)))))))))
 refine jD rfl (fun hc7 => ?_) fun hc7 => ?_
 ·
  have hGi := hG i hc7
  obtain ⟨oad, rfl, hoc⟩ := hR.cell hc7
  have hoc2 : ∀ W, Frm [] wr W → ∀ j v, (tkC ((bD pre).getD (i - 1) tk0))[j]? = some v → W.cell? ((oad.add ((i - 1) * 2)).add j) = some v := by
   obtain ⟨ad, h1, h2⟩ := hR.cell (k := i - 1) jo
   cases h1
   exact h2
  obtain ⟨gad, rfl, hgc⟩ := wC hT.gap.rd (by simp [pI]) hc7
  refine jQ (jN (jv3 4 5 11 ?_))
  refine jS (jB (jS (jR (jz 1 (jO (jN (jS (jS ?_))))))))
  refine VC.split1 [(4, _), (5, _), (11, _), (12, _)] (js4 rfl rfl rfl rfl) 104 (.bool (decide (i = 0 ∨ ((bD pre).getD (i - 1) tk0).1 = 2 ∨ ((bD pre).getD i tk0).1 = 3))) ?_ ?_
  ·
   refine jR ?_
   refine jm rfl (jb rfl rfl (Bin.eqlN _ 0) ?_)
   by_cases hs87 : i = 0
   ·
    refine jM ?_
    refine jU ?_
    refine jU ?_
    refine jU ?_
    refine jU ?_
    refine jU ?_
    refine jU ?_
    refine jU ?_
    refine jW rfl rfl au (jM ?_)
    refine jU ?_
    refine jU ?_
    refine jU ?_
    refine jU ?_
    refine jU ?_
    refine jU ?_
    refine jW rfl rfl au (jO ?_)
    refine jN ⟨(js5 (jC (by grind)) rfl rfl rfl rfl), rfl⟩
   refine jM ?_
   refine jG ?_
   refine jG ?_
   refine jk (Run.bin rfl rfl (Bin.subN i 1 jo (by simp [bmax]; omega))) ?_
   refine jk (Run.indexS (i - 1) rfl rfl zs zw jo) ?_
   refine jk (Run.fieldAddr rfl zas rfl zc jd) ?_
   refine jk (Run.load rfl zi (hoc2 _ (Frm.refl _ _) 0 _ rfl)) ?_
   refine jk (Run.bin rfl rfl (Bin.eql _ 2)) ?_
   by_cases hs95 : ((bD pre).getD (i - 1) tk0).1 = 2
   ·
    refine jF rfl rfl au (jM ?_)
    refine jU ?_
    refine jU ?_
    refine jU ?_
    refine jU ?_
    refine jU ?_
    refine jU ?_
    refine jW rfl rfl au (jO ?_)
    refine jN ⟨(js5 (jC (by grind)) rfl rfl rfl rfl), rfl⟩
   refine jF rfl rfl au (jM ?_)
   refine jG ?_
   refine jG ?_
   refine jk (Run.indexS i rfl rfl zs zw hc7) ?_
   refine jk (Run.fieldAddr rfl zas rfl zc jd) ?_
   refine jk (Run.load rfl zi (hoc _ (Frm.refl _ _) 0 _ rfl)) ?_
   refine jk (Run.bin rfl rfl (Bin.eql _ 3)) ?_
   by_cases hs103 : ((bD pre).getD i tk0).1 = 3
   ·
    refine jF rfl rfl au (jO ?_)
    refine jN ⟨(js5 (jC (by grind)) rfl rfl rfl rfl), rfl⟩
   refine jF rfl rfl au (jO ?_)
   refine jN ⟨(js5 (jC (by grind)) rfl rfl rfl rfl), rfl⟩
  intro Γ hΓ
  refine jN (VC.sub _ hΓ ?_)
  refine jD rfl (fun hc8 => ?_) fun hc8 => ?_
  ·
   refine jR (jz 0 (jO (jN (jv4 4 5 11 12 ?_))))
   refine jS (jR (jm rfl (jm rfl (je (Run.index1 i rfl rfl zl zc hc7) (jl rfl zi hgc (jm rfl (jb rfl rfl (Bin.neq _ _) (jO (jN (jv4 4 5 11 110 ?_))))))))))
   refine VC.condF rfl (decide_eq_false (by rw [hGi, if_pos hc8]; simp)) ?_
   refine jQ ?_
   refine qS (jN ?_)
   refine jv3 4 5 11 ?_
   refine jR (jm rfl (jb rfl rfl (Bin.add_i64 _ 1 jo) (ja rfl (jO ?_))))
   refine jN ⟨i + 1, (js3 rfl rfl rfl), ?_, ?_⟩
   · exact ⟨jo, rfl⟩
   exact jq
  refine jQ (jN (jv4 4 5 11 12 ?_))
  refine jS (jR (jm rfl (jm rfl (je (Run.index1 i rfl rfl zl zc hc7) (jl rfl zi hgc (jm rfl (jb rfl rfl (Bin.neq _ _) (jO (jN (jv4 4 5 11 110 ?_))))))))))
  refine VC.condF rfl (decide_eq_false (by rw [hGi, if_neg hc8]; simp)) ?_
  refine jQ ?_
  refine qS (jN ?_)
  refine jv3 4 5 11 ?_
  refine jR (jm rfl (jb rfl rfl (Bin.add_i64 _ 1 jo) (ja rfl (jO ?_))))
  refine jN ⟨i + 1, (js3 rfl rfl rfl), ?_, ?_⟩
  · exact ⟨jo, rfl⟩
  exact jq
 refine jX ?_
 refine qV (qV (qC ?_))
 refine jN (jv1 4 ?_)
 refine jS (jR (jm rfl (ja rfl (jz 0 (jO (jN (jv2 2 3 ?_)))))))
 refine jT ?_
 refine fD rfl rfl ?_
 exact ⟨A, d, rfl, hR, hT.frm⟩
theorem mD (q : Tx) (L : List (Tk × Nat)) (F : Nat) (w : World) (hs : q.length ≤ 1000000) (hF : fP q F 0 0 = some L) (hG : mC L) : Calls Tryz.prog 16 #[encStr q] w fun e w' => ∃ A d, e = .returned (.slice A L.length d) ∧ RdT w' A L.length (bD L) ∧ Frm [] w w' := by
 refine jV Tryz.func16 Tryz.ntmps16 Tryz.results16 ?_
 refine jS (jR (ja rfl (jO (jN (jv1 0 ?_)))))
 refine jS (jR (jm rfl (je (Run.build (evs.cons rfl evs.nil) yG (tQ).choose_spec.1 (tQ).choose_spec.2 (cells := #[.bool false, encStr q]) rfl) ?_)))
 refine Ops.m (qH.buildS1 rfl zdb Tryz.sizeOf82 yG jd jd rfl rfl) rfl ?_
 rintro _ w1 ⟨rfl, hF1⟩
 refine jc (jE1 Tryz.call29) (yZ q L F _ _ w1 hs (Rd.of_blk (n := 1) (size := 2) hF1.blk rfl) hF hG) ?_
 rintro e w2 ⟨A, d, rfl, hR2, hf2⟩
 refine ⟨_, rfl, ?_⟩
 refine jm rfl (jY rfl rfl (jY rfl rfl (ja rfl (ja rfl (jO (jN (jv1 3 ?_)))))))
 refine jS (jR (jm rfl (ja rfl (jO (jN (jv1 2 ?_))))))
 refine jT ?_
 refine qD rfl ?_
 exact ⟨A, d, rfl, hR2, hF1.frm.trans hf2 jp⟩
def axS1 : Tx := [97, 32, 108, 111, 103, 105, 110, 32, 106, 111, 101, 32, 34, 120, 32, 121, 34]
def nS : List (Tk × Nat) := [((0, [97]), 0), ((0, [108, 111, 103, 105, 110]), 1), ((0, [106, 111, 101]), 1), ((1, [120, 32, 121]), 1)]
theorem wV : fP axS1 200 0 0 = some nS ∧ mC nS := jd
def axS2 : Tx := [97, 32, 117, 105, 100, 32, 102, 101, 116, 99, 104, 32, 49, 58, 42, 32, 40, 102, 108, 97, 103, 115, 32, 98, 111, 100, 121, 91, 49, 93, 60, 48, 46, 57, 62, 41]
def kI : List (Tk × Nat) := [((0, [97]), 0), ((0, [117, 105, 100]), 1), ((0, [102, 101, 116, 99, 104]), 1), ((0, [49, 58, 42]), 1), ((2, [40]), 1), ((0, [102, 108, 97, 103, 115]), 0), ((0, [98, 111, 100, 121, 91, 49, 93, 60, 48, 46, 57, 62]), 1), ((3, [41]), 0)]
theorem wW : fP axS2 200 0 0 = some kI ∧ mC kI := jd
def axS3 : Tx := [97, 32, 110, 111, 111, 112, 32, 120]
def rY : List (Tk × Nat) := [((0, [97]), 0), ((0, [110, 111, 111, 112]), 1), ((0, [120]), 1)]
theorem wY : fP axS3 200 0 0 = some rY ∧ mC rY := jd
theorem qX4 (A : Option Addr) (c : Nat) (w : World) (hR : RdT w A 4 (bD nS)) : Calls Tryz.prog 10 #[.slice A 4 c] w fun e w' => Frm [] w w' ∧ e = .returned (.tuple #[.agg (((nG [97] [76, 79, 71, 73, 78]).setIfInBounds 3 (encStr [106, 111, 101])).setIfInBounds 4 (encStr [120, 32, 121])), .int .i64 0]) := by
 refine (gE A 4 c _ (fun _ => some 4) (fun _ cs => ∃ s, dO (bD nS) 2 = some s ∧ cs = ((nG [97] [76, 79, 71, 73, 78]).setIfInBounds 3 (encStr s.1)).setIfInBounds 4 (encStr s.2)) w hR jd jd (fun W W' g t csx cs h _ _ _ => h) (fun s hs fv hfv => ?_)).mono ?_
 ·
  have h1 : qW (bD nS) 1 [0] = some [108, 111, 103, 105, 110] := jd
  rw [h1] at hs
  injection hs with hs
  subst hs
  have h2 : eO (qT [108, 111, 103, 105, 110]) = some (.func (.func 41) #[] #[]) := by rfl
  rw [h2] at hfv
  injection hfv with hfv
  exact ⟨_, hfv.symm, Tryz.call41, qXj _ (mG _ _) jd⟩
 rintro e w' ⟨hf, cs', code, rfl, he⟩
 have h3 : eR (bD nS) (fun _ => some 4) = some () := jd
 rw [h3] at he
 obtain ⟨rfl, _, s, hs, rfl⟩ := he
 have h4 : dO (bD nS) 2 = some ([106, 111, 101], [120, 32, 121]) := jd
 rw [h4] at hs
 injection hs with hs
 subst hs
 exact ⟨hf, rfl⟩
theorem sH : (cK (bD kI) 3).map (fun p => (p.2.1.length, (p.2.1.getD 1 it0).label, p.2.2)) = some (2, [66, 79, 68, 89, 91, 49, 93, 60, 48, 62], 8) := by decide +kernel
theorem qX5 (A : Option Addr) (c : Nat) (w : World) (hR : RdT w A 8 (bD kI)) (hv : bT w) (htb : Tab w) : Calls Tryz.prog 10 #[.slice A 8 c] w fun e w' => Frm [] w w' ∧ ∃ cs', e = .returned (.tuple #[.agg cs', .int .i64 0]) ∧ (∀ u ∈ cs'.toList, u.oneCell' = true) ∧ cs'.size = 20 ∧ cs'[1]? = some (encStr [70, 69, 84, 67, 72]) ∧ cs'[2]? = some (.bool true) ∧ ∃ ad d, cs'[9]? = some (.slice (some ad) 2 d) ∧ ∀ W, Frm [] w' W → W.cell? ((ad.add (1 * 9)).add 1) = some (encStr [66, 79, 68, 89, 91, 49, 93, 60, 48, 62]) := by
 have hA : 0 < 8 → ∀ x ∈ ob A, x < w.heap.size := fun h0 x hx => hR.rd.lt h0 x hx
 refine (gE A 8 c _ (fun _ => kT (bD kI) (fun _ => some 8)) (tU w.heap.size (bD kI) 3 (tT [97] [70, 69, 84, 67, 72])) w hR jd jd (fun W W' g t csx cs h hb ht k => h.frm hb ht k) (fun s hs fv hfv => ?_)).mono ?_
 ·
  have h1 : qW (bD kI) 1 [0] = some [117, 105, 100] := jd
  rw [h1] at hs
  injection hs with hs
  subst hs
  have h2 : eO (qT [117, 105, 100]) = some (.func (.func 38) #[] #[]) := by rfl
  rw [h2] at hfv
  injection hfv with hfv
  refine ⟨_, hfv.symm, Tryz.call38, rA A 8 c _ _ (fun _ => some 8) _ _ w jd _ rfl hA (fun s hs fv hfv => ?_)⟩
  have h3 : qW (bD kI) 2 [0] = some [102, 101, 116, 99, 104] := jd
  rw [h3] at hs
  injection hs with hs
  subst hs
  have h4 : lM (qT [102, 101, 116, 99, 104]) = some (.func (.func 35) #[] #[]) := by rfl
  rw [h4] at hfv
  injection hfv with hfv
  refine ⟨_, hfv.symm, Tryz.call35, xH _ rfl (tB _ _) hA jd hv htb ?_⟩
  have h5 := sH
  obtain ⟨p, h6, h7⟩ := Option.map_eq_some_iff.1 h5
  rw [h6]
  injection h7 with h7 h8
  injection h8 with h8 h9
  show some 8 = some p.2.2
  rw [h9]
 rintro e w' ⟨hf, cs', code, rfl, he⟩
 have h3 : eR (bD kI) (fun _ => kT (bD kI) (fun _ => some 8)) = some () := by decide +kernel
 rw [h3] at he
 obtain ⟨rfl, hsz, sp, xs, q2, Bs, ds, I, d, rs, h4, h5, h6, _, rfl⟩ := he
 have h7 := sH
 rw [h4] at h7
 simp only [Option.map_some, Option.some.injEq, Prod.mk.injEq] at h7
 obtain ⟨h7, h8, h9⟩ := h7
 have hrl : rs.length = 2 := by rw [← h7, ← h5, zbc]
 have h1 : 1 < rs.length := by omega
 obtain ⟨ad, rfl, _⟩ := h6.row.rd.elem h1
 refine ⟨hf, _, rfl, eH (eH (tB _ _) rfl) rfl, hsz, rfl, rfl, ad, d, by rw [hrl]; rfl, fun W hW => ?_⟩
 obtain ⟨ad2, h10, hc⟩ := (h6.row.frm hW jp).rd.elem h1
 cases h10
 refine hc 1 _ ?_
 unfold IRC
 rw [kN itR 9 (fun _ => rfl) rs 1 h1]
 have : (xs.getD 1 it0) = (rs[1]).x := by rw [← h5, zf, List.getElem?_map, zb h1]; rfl
 rw [this] at h8
 rw [← h8]
 rfl
theorem qX6 (A : Option Addr) (c : Nat) (w : World) (hR : RdT w A 3 (bD rY)) : Calls Tryz.prog 10 #[.slice A 3 c] w fun e w' => Frm [] w w' ∧ e = .returned (.tuple #[.agg (dJ [97]), .int .i64 20]) := by
 refine (gE A 3 c _ (fun _ => some 2) (fun _ cs => cs = nG [97] [78, 79, 79, 80]) w hR jd jd (fun W W' g t csx cs h _ _ _ => h) (fun s hs fv hfv => ?_)).mono ?_
 ·
  have h1 : qW (bD rY) 1 [0] = some [110, 111, 111, 112] := jd
  rw [h1] at hs
  injection hs with hs
  subst hs
  have h2 : eO (qT [110, 111, 111, 112]) = some (.func (.func 39) #[] #[]) := by rfl
  rw [h2] at hfv
  injection hfv with hfv
  exact ⟨_, hfv.symm, Tryz.call39, xM _ (mG _ _) rfl⟩
 rintro e w' ⟨hf, cs', code, rfl, he⟩
 have h3 : eR (bD rY) (fun _ => some 2) = none := jd
 rw [h3] at he
 obtain ⟨rfl, rfl⟩ := he
 exact ⟨hf, rfl⟩
theorem kL (w : World) (hv : bT w) (htb : Tab w) : Calls Tryz.prog 8 #[] w fun e w' => e = .returned (.bool true) ∧ Frm [] w w' := by
 refine jV Tryz.func8 Tryz.ntmps8 Tryz.results8 ?_
 refine jS (jR (ja rfl (jO (jN ?_))))
 refine VC.sub [] .nil ?_
 refine jS (jR ?_)
 refine jc (jE1 Tryz.call16) (mD axS1 nS 200 _ jd wV.1 wV.2) ?_
 rintro _ v1 ⟨A1, d1, rfl, hR1, hf1⟩
 refine ⟨_, rfl, ?_⟩
 refine jc (jE1 zed) (qX4 A1 d1 v1 hR1) ?_
 rintro _ u1 ⟨k1, rfl⟩
 refine ⟨_, rfl, ?_⟩
 refine jm rfl (jY rfl rfl (jY rfl rfl ?_))
 refine Ops.m (qH.alloc eJ) rfl ?_
 rintro _ a1 ⟨rfl, hF1⟩
 obtain ⟨g1, hg1⟩ : ∃ g, g = u1.heap.size := ⟨_, rfl⟩
 have hb1 := hF1.blk
 rw [← hg1] at hb1 ⊢
 refine Ops.st (qJ.storeA rfl rfl zba hb1 rfl (eH (eH (mG _ _) rfl) rfl)) ?_
 rintro b1 ⟨hc1, hs1, hz1⟩
 have K1 : Frm [] w b1 := ((hf1.trans k1 jp).trans hF1.frm jp).own hs1 (by have := (hf1.trans k1 jp).size; simp; omega)
 refine ja rfl (jO (jN (jv2 1 2 ?_)))
 refine jS (jR ?_)
 refine jc (jE1 Tryz.call16) (mD axS2 kI 200 _ jd wW.1 wW.2) ?_
 rintro _ v2 ⟨A2, d2, rfl, hR2, hf2⟩
 refine ⟨_, rfl, ?_⟩
 refine jc (jE1 zed) (qX5 A2 d2 v2 hR2 (hv.frm0 (K1.trans hf2 jp)) (htb.frm (K1.trans hf2 jp))) ?_
 rintro _ u2 ⟨k2, cs2, rfl, one2, sz2, n2, uid2, ad2, dd2, it2, lab2⟩
 refine ⟨_, rfl, ?_⟩
 refine jm rfl (jY rfl rfl (jY rfl rfl ?_))
 refine Ops.m (qH.alloc eJ) rfl ?_
 rintro _ a2 ⟨rfl, hF2⟩
 obtain ⟨g2, hg2⟩ : ∃ g, g = u2.heap.size := ⟨_, rfl⟩
 have hb2 := hF2.blk
 rw [← hg2] at hb2 ⊢
 refine Ops.st (qJ.storeA rfl rfl (fun w => (zba w).trans (by rw [sz2])) hb2 sz2 one2) ?_
 rintro b2 ⟨hc2, hs2, hz2⟩
 have K2 : Frm [] b1 a2 := (hf2.trans k2 jp).trans hF2.frm jp
 have K2b : Frm [] b1 b2 := K2.own hs2 (by have := (hf2.trans k2 jp).size; simp; omega)
 have hc1 := hc1.frm K2b jp
 have lab2 : ∀ W, Frm [] b2 W → W.cell? ((ad2.add (1 * 9)).add 1) = some (encStr [66, 79, 68, 89, 91, 49, 93, 60, 48, 62]) := fun W hW => lab2 W ((hF2.frm.own hs2 (by simp; omega)).trans hW jp)
 refine ja rfl (jO (jN (jv4 1 2 3 4 ?_)))
 refine jS (jR ?_)
 refine jc (jE1 Tryz.call16) (mD axS3 rY 200 _ jd wY.1 wY.2) ?_
 rintro _ v3 ⟨A3, d3, rfl, hR3, hf3⟩
 refine ⟨_, rfl, ?_⟩
 refine jc (jE1 zed) (qX6 A3 d3 v3 hR3) ?_
 rintro _ u3 ⟨k3, rfl⟩
 refine ⟨_, rfl, ?_⟩
 refine jm rfl (jY rfl rfl (jY rfl rfl ?_))
 refine Ops.m (qH.alloc eJ) rfl ?_
 rintro _ a3 ⟨rfl, hF3⟩
 obtain ⟨g3, hg3⟩ : ∃ g, g = u3.heap.size := ⟨_, rfl⟩
 have hb3 := hF3.blk
 rw [← hg3] at hb3 ⊢
 refine Ops.st (qJ.storeA rfl rfl zba hb3 rfl (kS _)) ?_
 rintro b3 ⟨hc3, hs3, hz3⟩
 have K3 : Frm [] b2 b3 := ((hf3.trans k3 jp).trans hF3.frm jp).own hs3 (by have := (hf3.trans k3 jp).size; simp; omega)
 have hc1 := hc1.frm K3 jp
 have hc2 := hc2.frm K3 jp
 have lab2 := lab2 _ K3
 refine ja rfl (jO (jN (jv6 1 2 3 4 5 6 ?_)))
 refine jS ?_
 refine VC.split1 [] .nil 0 (.bool (decide (True))) ?_ ?_
 ·
  refine jR (jf rfl ze rfl zd (jl rfl zj (hc1.cells 1 _ rfl) (je (Run.eqlT rfl rfl) (jM ?_))))
  refine jk (Run.fieldAddr rfl ze rfl zd jd) ?_
  refine jk (Run.load rfl zj (hc1.cells 3 _ rfl)) ?_
  refine jk (Run.eqlT rfl rfl) ?_
  refine jW rfl rfl au (jM ?_)
  refine jk (Run.fieldAddr rfl ze rfl zd jd) ?_
  refine jk (Run.load rfl zj (hc1.cells 4 _ rfl)) ?_
  refine jk (Run.eqlT rfl rfl) ?_
  refine jW rfl rfl au (jM ?_)
  refine jG ?_
  refine jk (Run.bin rfl rfl (Bin.eqlN _ 0)) ?_
  refine jW rfl rfl au (jM ?_)
  refine jk (Run.fieldAddr rfl ze rfl zd jd) ?_
  refine jk (Run.load rfl zj (hc2.cells 1 _ (by rw [zdx]; exact n2))) ?_
  refine jk (Run.eqlT rfl rfl) ?_
  refine jW rfl rfl au (jM ?_)
  refine jk (Run.fieldAddr rfl ze rfl zq jd) ?_
  refine jk (Run.load rfl zaq (hc2.cells 2 _ (by rw [zdx]; exact uid2))) ?_
  refine jW rfl rfl au (jM ?_)
  refine jk (Run.fieldAddr rfl ze rfl zcb jd) ?_
  refine jk (Run.load rfl zdh (hc2.cells 9 _ (by rw [zdx]; exact it2))) ?_
  refine jk (Run.lenS rfl zbv) ?_
  refine jk (Run.bin rfl rfl (Bin.eqlN _ 2)) ?_
  refine jW rfl rfl au (jM ?_)
  refine jk (Run.fieldAddr rfl ze rfl zcb jd) ?_
  refine jk (Run.load rfl zdh (hc2.cells 9 _ (by rw [zdx]; exact it2))) ?_
  refine jk (Run.indexS 1 rfl rfl zbv zar jo) ?_
  refine jk (Run.fieldAddr rfl zm rfl zd jd) ?_
  refine jk (Run.load rfl zj lab2) ?_
  refine jk (Run.eqlT rfl rfl) ?_
  refine jW rfl rfl au (jM ?_)
  refine jG ?_
  refine jk (Run.bin rfl rfl (Bin.eqlN _ 0)) ?_
  refine jW rfl rfl au (jM ?_)
  refine jG ?_
  refine jk (Run.bin rfl rfl (Bin.eqlN _ 20)) ?_
  refine jW rfl rfl au (jM ?_)
  refine jk (Run.fieldAddr rfl ze rfl zd jd) ?_
  refine jk (Run.load rfl zj (hc3.cells 0 _ rfl)) ?_
  refine jk (Run.eqlT rfl rfl) ?_
  refine jW rfl rfl au (jm rfl (jW rfl rfl au (ja rfl (jO ?_))))
  refine jN ⟨(js1 (jC jp)), rfl⟩
 intro Γ hΓ
 refine jN (VC.sub _ hΓ ?_)
 refine jT ?_
 refine qD rfl ?_
 exact ⟨rfl, (K1.trans K2b jp).trans K3 jp⟩
end
section
open Go.RowKit Go.Sort
theorem qQs {w : World} {ad : Addr} {l : List Int} {k : Nat} (h : Rd w 1 (some ad) l.length (PI l)) (hk : k < l.length) : w.cell? (ad.add (k * 1)) = some (.int .i64 l[k]) := by
 obtain ⟨ad', e, h⟩ := sT h hk
 cases e
 exact h
theorem rG {w : World} {ad : Addr} {l : List Tx} {k : Nat} (h : Rd w 1 (some ad) l.length (SB l)) (hk : k < l.length) : w.cell? (ad.add (k * 1)) = some (encStr l[k]) := by
 obtain ⟨ad', e, h⟩ := nV h hk
 cases e
 exact h
def lW (v u : Wnt) : Prop := v.what = u.what ∧ v.path = u.path ∧ v.names = u.names
instance (v u : Wnt) : Decidable (lW v u) := by unfold lW; infer_instance
theorem qX7 {v u : Wnt} (h : (v.what ≠ u.what ∨ v.path.length ≠ u.path.length) ∨ v.names.length ≠ u.names.length) : ¬ lW v u := by
 rintro ⟨h1, h2, h3⟩
 rcases h with (h | h) | h
 · exact h h1
 · exact h (by rw [h2])
 exact h (by rw [h3])
theorem rH (v u : Wnt) (A N B M : Option Addr) (c nc d mc : Nat) (w : World) (hp : Rd w 1 A v.path.length (PI v.path)) (hn : Rd w 1 N v.names.length (SB v.names)) (hq : Rd w 1 B u.path.length (PI u.path)) (hm : Rd w 1 M u.names.length (SB u.names)) (hpl : v.path.length ≤ 9223372036854775807) (hnl : v.names.length ≤ 9223372036854775807) :
  Calls Tryz.prog 15 #[.agg (WtC v A c N nc), .agg (WtC u B d M mc)] w fun e w' => e = .returned (.bool (decide (lW v u))) ∧ Frm [] w w' := by
 refine jV Tryz.func15 Tryz.ntmps15 Tryz.results15 ?_
 refine jS (jR ?_)
 refine Ops.m (qH.box rfl) rfl ?_
 rintro _ w1 ⟨rfl, hF2⟩
 have hb2 : Blk w1 w.heap.size 47 (WtC v A c N nc) := hF2.blk
 have f2 := hF2.frm
 have hp := hp.frm f2 jp
 have hn := hn.frm f2 jp
 have hq := hq.frm f2 jp
 have hm := hm.frm f2 jp
 generalize w.heap.size = g2 at hb2 ⊢
 refine Ops.m (qH.box rfl) rfl ?_
 rintro _ w2 ⟨rfl, hF3⟩
 have hb3 : Blk w2 w1.heap.size 47 (WtC u B d M mc) := hF3.blk
 have f3 := hF3.frm
 have hp := hp.frm f3 jp
 have hn := hn.frm f3 jp
 have hq := hq.frm f3 jp
 have hm := hm.frm f3 jp
 have hb2 := hb2.frm f3 jp
 generalize w1.heap.size = g3 at hb3 ⊢
 have K := f2.trans f3 jp
 have hb20 := hb2
 have hb30 := hb3
 refine ja rfl (jO (jN (jv2 2 3 ?_)))
 refine jS (jS ?_)
 refine VC.split1 [(2, _), (3, _)] (js2 rfl rfl) 29 (.bool (decide ((v.what ≠ u.what ∨ v.path.length ≠ u.path.length) ∨ v.names.length ≠ u.names.length))) ?_ ?_
 ·
  refine jR (jf rfl zo rfl zd (jl rfl zj (hb2.cell 1) (jf rfl zo rfl zd (jl rfl zj (hb3.cell 1) (je (Run.neqT rfl rfl) ?_)))))
  by_cases hs11 : v.what ≠ u.what
  ·
   refine jM ?_
   refine jU ?_
   refine jU ?_
   refine jU ?_
   refine jU ?_
   refine jU ?_
   refine jU ?_
   refine jU ?_
   refine jW rfl rfl au (jM ?_)
   refine jU ?_
   refine jU ?_
   refine jU ?_
   refine jU ?_
   refine jU ?_
   refine jU ?_
   refine jU ?_
   refine jW rfl rfl au (jO ?_)
   refine jN ⟨(js3 (jC (by first | exact (decide_eq_true (show (v.what ≠ u.what ∨ v.path.length ≠ u.path.length) ∨ v.names.length ≠ u.names.length from .inl (.inl hs11))).symm | exact (decide_eq_true hs11).trans (decide_eq_true (show (v.what ≠ u.what ∨ v.path.length ≠ u.path.length) ∨ v.names.length ≠ u.names.length from .inl (.inl hs11))).symm | exact (decide_eq_true (show (v.what ≠ u.what ∨ v.path.length ≠ u.path.length) ∨ v.names.length ≠ u.names.length from .inl (.inr hs19))).symm | exact (decide_eq_true hs19).trans (decide_eq_true (show (v.what ≠ u.what ∨ v.path.length ≠ u.path.length) ∨ v.names.length ≠ u.names.length from .inl (.inr hs19))).symm | exact (decide_eq_true hs28).trans (decide_eq_true (show (v.what ≠ u.what ∨ v.path.length ≠ u.path.length) ∨ v.names.length ≠ u.names.length from .inr hs28)).symm | exact (decide_eq_false hs28).trans (decide_eq_false (show ¬ ((v.what ≠ u.what ∨ v.path.length ≠ u.path.length) ∨ v.names.length ≠ u.names.length) from fun h => h.elim (fun h => h.elim hs11 hs19) hs28)).symm)) rfl rfl), rfl⟩
  refine jM ?_
  refine jk (Run.fieldAddr rfl zo rfl zbs jd) ?_
  refine jk (Run.load rfl zci (show _ = some (Value.slice A v.path.length c) from hb2.cell 0)) ?_
  refine jk (Run.lenS rfl zl) ?_
  refine jk (Run.fieldAddr rfl zo rfl zbs jd) ?_
  refine jk (Run.load rfl zci (show _ = some (Value.slice B u.path.length d) from hb3.cell 0)) ?_
  refine jk (Run.lenS rfl zl) ?_
  refine jk (Run.bin rfl rfl (Bin.neqN _ _)) ?_
  by_cases hs19 : v.path.length ≠ u.path.length
  ·
   refine jF rfl rfl au (jM ?_)
   refine jU ?_
   refine jU ?_
   refine jU ?_
   refine jU ?_
   refine jU ?_
   refine jU ?_
   refine jU ?_
   refine jW rfl rfl au (jO ?_)
   refine jN ⟨(js3 (jC (by first | exact (decide_eq_true (show (v.what ≠ u.what ∨ v.path.length ≠ u.path.length) ∨ v.names.length ≠ u.names.length from .inl (.inl hs11))).symm | exact (decide_eq_true hs11).trans (decide_eq_true (show (v.what ≠ u.what ∨ v.path.length ≠ u.path.length) ∨ v.names.length ≠ u.names.length from .inl (.inl hs11))).symm | exact (decide_eq_true (show (v.what ≠ u.what ∨ v.path.length ≠ u.path.length) ∨ v.names.length ≠ u.names.length from .inl (.inr hs19))).symm | exact (decide_eq_true hs19).trans (decide_eq_true (show (v.what ≠ u.what ∨ v.path.length ≠ u.path.length) ∨ v.names.length ≠ u.names.length from .inl (.inr hs19))).symm | exact (decide_eq_true hs28).trans (decide_eq_true (show (v.what ≠ u.what ∨ v.path.length ≠ u.path.length) ∨ v.names.length ≠ u.names.length from .inr hs28)).symm | exact (decide_eq_false hs28).trans (decide_eq_false (show ¬ ((v.what ≠ u.what ∨ v.path.length ≠ u.path.length) ∨ v.names.length ≠ u.names.length) from fun h => h.elim (fun h => h.elim hs11 hs19) hs28)).symm)) rfl rfl), rfl⟩
  refine jF rfl rfl au (jM ?_)
  refine jk (Run.fieldAddr rfl zo rfl zai jd) ?_
  refine jk (Run.load rfl zbi (show _ = some (Value.slice N v.names.length nc) from hb2.cell 2)) ?_
  refine jk (Run.lenS rfl zp) ?_
  refine jk (Run.fieldAddr rfl zo rfl zai jd) ?_
  refine jk (Run.load rfl zbi (show _ = some (Value.slice M u.names.length mc) from hb3.cell 2)) ?_
  refine jk (Run.lenS rfl zp) ?_
  refine jk (Run.bin rfl rfl (Bin.neqN _ _)) ?_
  by_cases hs28 : v.names.length ≠ u.names.length
  ·
   refine jF rfl rfl au (jO ?_)
   refine jN ⟨(js3 (jC (by first | exact (decide_eq_true (show (v.what ≠ u.what ∨ v.path.length ≠ u.path.length) ∨ v.names.length ≠ u.names.length from .inl (.inl hs11))).symm | exact (decide_eq_true hs11).trans (decide_eq_true (show (v.what ≠ u.what ∨ v.path.length ≠ u.path.length) ∨ v.names.length ≠ u.names.length from .inl (.inl hs11))).symm | exact (decide_eq_true (show (v.what ≠ u.what ∨ v.path.length ≠ u.path.length) ∨ v.names.length ≠ u.names.length from .inl (.inr hs19))).symm | exact (decide_eq_true hs19).trans (decide_eq_true (show (v.what ≠ u.what ∨ v.path.length ≠ u.path.length) ∨ v.names.length ≠ u.names.length from .inl (.inr hs19))).symm | exact (decide_eq_true hs28).trans (decide_eq_true (show (v.what ≠ u.what ∨ v.path.length ≠ u.path.length) ∨ v.names.length ≠ u.names.length from .inr hs28)).symm | exact (decide_eq_false hs28).trans (decide_eq_false (show ¬ ((v.what ≠ u.what ∨ v.path.length ≠ u.path.length) ∨ v.names.length ≠ u.names.length) from fun h => h.elim (fun h => h.elim hs11 hs19) hs28)).symm)) rfl rfl), rfl⟩
  refine jF rfl rfl au (jO ?_)
  refine jN ⟨(js3 (jC (by first | exact (decide_eq_true (show (v.what ≠ u.what ∨ v.path.length ≠ u.path.length) ∨ v.names.length ≠ u.names.length from .inl (.inl hs11))).symm | exact (decide_eq_true hs11).trans (decide_eq_true (show (v.what ≠ u.what ∨ v.path.length ≠ u.path.length) ∨ v.names.length ≠ u.names.length from .inl (.inl hs11))).symm | exact (decide_eq_true (show (v.what ≠ u.what ∨ v.path.length ≠ u.path.length) ∨ v.names.length ≠ u.names.length from .inl (.inr hs19))).symm | exact (decide_eq_true hs19).trans (decide_eq_true (show (v.what ≠ u.what ∨ v.path.length ≠ u.path.length) ∨ v.names.length ≠ u.names.length from .inl (.inr hs19))).symm | exact (decide_eq_true hs28).trans (decide_eq_true (show (v.what ≠ u.what ∨ v.path.length ≠ u.path.length) ∨ v.names.length ≠ u.names.length from .inr hs28)).symm | exact (decide_eq_false hs28).trans (decide_eq_false (show ¬ ((v.what ≠ u.what ∨ v.path.length ≠ u.path.length) ∨ v.names.length ≠ u.names.length) from fun h => h.elim (fun h => h.elim hs11 hs19) hs28)).symm)) rfl rfl), rfl⟩
 intro Γ hΓ
 refine jN (VC.sub _ hΓ ?_)
 refine jD rfl (fun hc1 => ?_) fun hc1 => ?_
 ·
  refine jS (jR (ja rfl (jO (jN (jv1 4 ?_)))))
  refine jT ?_
  refine qZ (qD rfl ?_)
  exact ⟨by rw [decide_eq_false (qX7 hc1)], K⟩
 have e1 : v.what = u.what := Classical.byContradiction fun h => hc1 (.inl (.inl h))
 have e2 : v.path.length = u.path.length := Classical.byContradiction fun h => hc1 (.inl (.inr h))
 have e3 : v.names.length = u.names.length := Classical.byContradiction fun h => hc1 (.inr h)
 refine jQ (jN (jv2 2 3 ?_))
 refine jS (jS (jR (jz 0 (jO (jN (jB ?_))))))
 refine VC.loop (σ := Nat) (fun s => [(2, jI0 g2), (3, jI0 g3), (5, jI1 s)]) (fun s wr => s ≤ v.path.length ∧ v.path.take s = u.path.take s ∧ Frm [] w2 wr) (fun s => v.path.length - s) 0 (js3 rfl rfl rfl) ⟨jo, jp, Frm.refl _ _⟩ ?_
 rintro i wr ⟨hi, heq, K0⟩
 have hb2 := hb20.frm K0 jp
 have hb3 := hb30.frm K0 jp
 refine jS (jS (jR (jm rfl (jf rfl zo rfl zbs (jl rfl zci (show _ = some (Value.slice A v.path.length c) from hb2.cell 0) (jL rfl zl (jb rfl rfl (Bin.lssN _ _) (jO (jN (jv4 2 3 5 34 ?_))))))))))
 refine jD rfl (fun hc2 => ?_) fun hc2 => ?_
 ·
  obtain ⟨ad1, rfl, _⟩ := sT (hp.frm K0 jp) hc2
  obtain ⟨ad2, rfl, _⟩ := sT (hq.frm K0 jp) (jo : i < u.path.length)
  have hg1 := fun {w0 : World} (k : Frm [] w2 w0) => qQs (hp.frm k jp) hc2
  have hg2 := fun {w0 : World} (k : Frm [] w2 w0) => qQs (hq.frm k jp) (jo : i < u.path.length)
  have ht1 := gQ hc2
  have ht2 := gQ (jo : i < u.path.length)
  refine jQ (jN (jv3 2 3 5 ?_))
  refine jS (jB (jS ?_))
  refine VC.held (fun V => Frm [] wr V) jK ?_
  have hS : Frm [] wr wr.drew := (Frm.refl [] wr).drew
  refine jH 0 rfl hS (fun w0 hw0 => Run.fieldAddr rfl zo rfl zbs jd) ?_
  refine jH 1 rfl hS (fun w0 hw0 => Run.load rfl zci (show _ = some (Value.slice (some ad1) v.path.length c) from (hb2.frm hw0 jp).cell 0)) ?_
  refine jh 2 hS ?_
  refine jH 3 rfl hS (fun w0 hw0 => Run.indexS i rfl rfl zl zc hc2) ?_
  refine jH 4 rfl hS (fun w0 hw0 => Run.load rfl zi (hg1 (K0.trans hw0 jp))) ?_
  refine jH 5 rfl hS (fun w0 hw0 => Run.fieldAddr rfl zo rfl zbs jd) ?_
  refine jH 6 rfl hS (fun w0 hw0 => Run.load rfl zci (show _ = some (Value.slice (some ad2) u.path.length d) from (hb3.frm hw0 jp).cell 0)) ?_
  refine jh 7 hS ?_
  refine jH 8 rfl hS (fun w0 hw0 => Run.indexS i rfl rfl zl zc jo) ?_
  refine jH 9 rfl hS (fun w0 hw0 => Run.load rfl zi (hg2 (K0.trans hw0 jp))) ?_
  refine jH 10 rfl hS (fun w0 hw0 => Run.bin rfl rfl (Bin.neq _ _)) ?_
  refine qQ.done jK ?_
  refine jN (jv4 2 3 5 47 ?_)
  refine jD rfl (fun hc3 => ?_) fun hc3 => ?_
  ·
   have hne : v.path ≠ u.path := fun h => by have h2 := hc3; simp [h] at h2
   refine jS (jR (ja rfl (jO (jN (jv1 4 ?_)))))
   refine jT ?_
   refine qN (qZ (qZ (qN (qZ (qD rfl ?_)))))
   exact ⟨by rw [decide_eq_false (show ¬ lW v u from fun h => hne h.2.1)], K.trans (K0.drew) jp⟩
  refine jQ ?_
  refine qS (jN ?_)
  refine jv3 2 3 5 ?_
  refine jR (jm rfl (jb rfl rfl (Bin.add_i64 _ 1 jo) (ja rfl (jO ?_))))
  refine jN ⟨(i + 1), (js3 rfl rfl rfl), ?_, ?_⟩
  ·
   have hxy : v.path[i] = u.path[i] := by have h2 := hc3; simpa using h2
   exact ⟨jo, by rw [ht1, ht2, heq, hxy], (K0.drew)⟩
  exact jq
 have hep : v.path = u.path := by
  have hil : i = v.path.length := jo
  rw [hil, zbp, e2, zbp] at heq
  exact heq
 refine jX ?_
 refine qV (qV (qC ?_))
 refine jN (jv2 2 3 ?_)
 refine jS (jS (jR (jz 0 (jO (jN (jB ?_))))))
 refine VC.loop (σ := Nat) (fun s => [(2, jI0 g2), (3, jI0 g3), (6, jI1 s)]) (fun s wr => s ≤ v.names.length ∧ v.names.take s = u.names.take s ∧ Frm [] w2 wr) (fun s => v.names.length - s) 0 (js3 rfl rfl rfl) ⟨jo, jp, K0⟩ ?_
 rintro i wr ⟨hi, heq, K0⟩
 have hb2 := hb20.frm K0 jp
 have hb3 := hb30.frm K0 jp
 refine jS (jS (jR (jm rfl (jf rfl zo rfl zai (jl rfl zbi (show _ = some (Value.slice N v.names.length nc) from hb2.cell 2) (jL rfl zp (jb rfl rfl (Bin.lssN _ _) (jO (jN (jv4 2 3 6 52 ?_))))))))))
 refine jD rfl (fun hc4 => ?_) fun hc4 => ?_
 ·
  obtain ⟨ad1, rfl, _⟩ := nV (hn.frm K0 jp) hc4
  obtain ⟨ad2, rfl, _⟩ := nV (hm.frm K0 jp) (jo : i < u.names.length)
  have hg1 := fun {w0 : World} (k : Frm [] w2 w0) => rG (hn.frm k jp) hc4
  have hg2 := fun {w0 : World} (k : Frm [] w2 w0) => rG (hm.frm k jp) (jo : i < u.names.length)
  have ht1 := gQ hc4
  have ht2 := gQ (jo : i < u.names.length)
  refine jQ (jN (jv3 2 3 6 ?_))
  refine jS (jB (jS ?_))
  refine VC.held (fun V => Frm [] wr V) jK ?_
  have hS : Frm [] wr wr.drew := (Frm.refl [] wr).drew
  refine jH 0 rfl hS (fun w0 hw0 => Run.fieldAddr rfl zo rfl zai jd) ?_
  refine jH 1 rfl hS (fun w0 hw0 => Run.load rfl zbi (show _ = some (Value.slice (some ad1) v.names.length nc) from (hb2.frm hw0 jp).cell 2)) ?_
  refine jh 2 hS ?_
  refine jH 3 rfl hS (fun w0 hw0 => Run.indexS i rfl rfl zp zd hc4) ?_
  refine jH 4 rfl hS (fun w0 hw0 => Run.load rfl zj (hg1 (K0.trans hw0 jp))) ?_
  refine jH 5 rfl hS (fun w0 hw0 => Run.fieldAddr rfl zo rfl zai jd) ?_
  refine jH 6 rfl hS (fun w0 hw0 => Run.load rfl zbi (show _ = some (Value.slice (some ad2) u.names.length mc) from (hb3.frm hw0 jp).cell 2)) ?_
  refine jh 7 hS ?_
  refine jH 8 rfl hS (fun w0 hw0 => Run.indexS i rfl rfl zp zd jo) ?_
  refine jH 9 rfl hS (fun w0 hw0 => Run.load rfl zj (hg2 (K0.trans hw0 jp))) ?_
  refine jH 10 rfl hS (fun w0 hw0 => Run.neqT rfl rfl) ?_
  refine qQ.done jK ?_
  refine jN (jv4 2 3 6 65 ?_)
  refine jD rfl (fun hc5 => ?_) fun hc5 => ?_
  ·
   have hne : v.names ≠ u.names := fun h => by have h2 := hc5; simp [h] at h2
   refine jS (jR (ja rfl (jO (jN (jv1 4 ?_)))))
   refine jT ?_
   refine qN (qZ (qZ (qN (qZ (qD rfl ?_)))))
   exact ⟨by rw [decide_eq_false (show ¬ lW v u from fun h => hne h.2.2)], K.trans (K0.drew) jp⟩
  refine jQ ?_
  refine qS (jN ?_)
  refine jv3 2 3 6 ?_
  refine jR (jm rfl (jb rfl rfl (Bin.add_i64 _ 1 jo) (ja rfl (jO ?_))))
  refine jN ⟨(i + 1), (js3 rfl rfl rfl), ?_, ?_⟩
  ·
   have hxy : v.names[i] = u.names[i] := by have h2 := hc5; simpa using h2
   exact ⟨jo, by rw [ht1, ht2, heq, hxy], (K0.drew)⟩
  exact jq
 have hen : v.names = u.names := by
  have hil : i = v.names.length := jo
  rw [hil, zbp, e3, zbp] at heq
  exact heq
 refine jX ?_
 refine qV (qV (qC ?_))
 refine jN ?_
 refine VC.sub [] .nil ?_
 refine jS (jR (ja rfl (jO (jN (jT ?_)))))
 refine qD rfl ?_
 exact ⟨by rw [decide_eq_true (show lW v u from ⟨e1, hep, hen⟩)], K.trans K0 jp⟩
end
section
open Go.RowKit
theorem Own.big {w : World} {e size n cap : Nat} {A : Option Addr} {xs : List Value} (h : Own w e size A n cap xs) : n ≤ 9223372036854775807 := by
 rcases h.cases with ⟨_, rfl, _⟩ | ⟨_, _, _, _, h1, h2, _⟩
 · omega
 unfold maxLen at h2; omega
theorem qZg {w : World} {A : Option Addr} {l : List Sp} {k : Nat} (h : Rd w 2 A l.length (SC l)) (hk : k < l.length) : ∃ ad, A = some ad ∧ ∀ W, Frm [] w W → ∀ j v, (SC1 l[k])[j]? = some v → W.cell? ((ad.add (k * 2)).add j) = some v := by
 have key : ∀ W, Frm [] w W → ∃ ad, A = some ad ∧ ∀ j v, (SC1 l[k])[j]? = some v → W.cell? ((ad.add (k * 2)).add j) = some v := fun W hW => by
  obtain ⟨ad, h2, hc⟩ := (h.frm hW jp).elem hk
  exact ⟨ad, h2, fun j v hj => hc j v (by rw [kN SC1 2 (fun _ => rfl) l k hk]; exact hj)⟩
 obtain ⟨ad, h1, _⟩ := key w (Frm.refl _ _)
 refine ⟨ad, h1, fun W hW => ?_⟩
 obtain ⟨a2, h2, h3⟩ := key W hW
 rw [h1] at h2
 cases h2
 exact h3
theorem qZh {w : World} {A : Option Addr} {l : List ItR} {k : Nat} (h : Rd w 9 A l.length (IRC l)) (hk : k < l.length) : ∃ ad, A = some ad ∧ ∀ W, Frm [] w W → ∀ j v, (itR l[k])[j]? = some v → W.cell? ((ad.add (k * 9)).add j) = some v := by
 have key : ∀ W, Frm [] w W → ∃ ad, A = some ad ∧ ∀ j v, (itR l[k])[j]? = some v → W.cell? ((ad.add (k * 9)).add j) = some v := fun W hW => by
  obtain ⟨ad, h2, hc⟩ := (h.frm hW jp).elem hk
  exact ⟨ad, h2, fun j v hj => hc j v (by unfold IRC; rw [kN itR 9 (fun _ => rfl) l k hk]; exact hj)⟩
 obtain ⟨ad, h1, _⟩ := key w (Frm.refl _ _)
 refine ⟨ad, h1, fun W hW => ?_⟩
 obtain ⟨a2, h2, h3⟩ := key W hW
 rw [h1] at h2
 cases h2
 exact h3
theorem Blk.sub {w : World} {g : Nat} {t : TypeId} {cs : Array Value} (h : Blk w g t cs) (i : Nat) (l : List Value) (hl : (cs.toList.drop i).take l.length = l) : ∀ j v, l[j]? = some v → w.cell? ((⟨g, i, none⟩ : Addr).add j) = some v := by
 intro j v hj
 have hlt : j < l.length := (List.getElem?_eq_some_iff.1 hj).1
 rw [show ((⟨g, i, none⟩ : Addr).add j) = ⟨g, i + j, none⟩ by unfold Addr.add; split <;> simp_all, h.cell]
 rw [← hl, zbt hlt, List.getElem?_drop] at hj
 simpa using hj
theorem qQt (x : Sp) (w : World) : (Op.eqFields 9999 (SC1 x).toArray (SC1 x).toArray (Tryz.prog.fieldsOf 96).toList).run Tryz.prog w = .ok true w := by
 obtain ⟨a, b⟩ := x
 obtain ⟨f0, f1, hf, ⟨n0, t0, o0⟩, n1, t1, o1⟩ := qQz
 rw [hf]
 have h := nC (P := Tryz.prog) (w := w) (d := 9998) (xs := #[.int .i64 a, .int .i64 b]) (ys := #[.int .i64 a, .int .i64 b]) (f := f0) (fs := [f1]) (k := .i64) (k' := .i64) (a := a) (b := a) (by rw [n0]; decide) (by rw [t0]; exact zi) (by rw [t0]; exact zam) (by rw [o0]; rfl) (by rw [o0]; rfl)
  (nC (k := .i64) (k' := .i64) (a := b) (b := b) (by rw [n1]; decide) (by rw [t1]; exact zi) (by rw [t1]; exact zam) (by rw [o1]; rfl) (by rw [o1]; rfl) vG)
 rw [show true = (decide (a = a) && (decide (b = b) && true)) by simp]
 exact h
theorem qQu (a b : Int) (w : World) : (Op.eqFields 9999 #[.int .i64 a, .int .i64 b] #[.int .i64 a, .int .i64 b] (Tryz.prog.fieldsOf 32).toList).run Tryz.prog w = .ok true w := by
 obtain ⟨f0, f1, hf, ⟨n0, t0, o0⟩, n1, t1, o1⟩ := qQy
 rw [hf]
 have h := nC (P := Tryz.prog) (w := w) (d := 9998) (xs := #[.int .i64 a, .int .i64 b]) (ys := #[.int .i64 a, .int .i64 b]) (f := f0) (fs := [f1]) (k := .i64) (k' := .i64) (a := a) (b := a) (by rw [n0]; decide) (by rw [t0]; exact Tryz.isAgg2) (by rw [t0]; exact zdy) (by rw [o0]; rfl) (by rw [o0]; rfl)
  (nC (k := .i64) (k' := .i64) (a := b) (b := b) (by rw [n1]; decide) (by rw [t1]; exact zi) (by rw [t1]; exact zam) (by rw [o1]; rfl) (by rw [o1]; rfl) vG)
 rw [show true = (decide (a = a) && (decide (b = b) && true)) by simp]
 exact h
theorem pL (A B : Option Addr) (c d : Nat) (l : List Sp) (w : World) (hA : Rd w 2 A l.length (SC l)) (hB : Rd w 2 B l.length (SC l)) (hl : l.length ≤ 9223372036854775807) : Calls Tryz.prog 24 #[.slice A l.length c, .slice B l.length d] w fun e w' => e = .returned (.bool true) ∧ Frm [] w w' := by
 refine jV Tryz.func24 Tryz.ntmps24 Tryz.results24 ?_
 refine jS (jR (ja rfl (jO (jN (jv2 0 1 ?_)))))
 refine jS (jS (jR (jm rfl (jL rfl zcc (jm rfl (jL rfl zcc (jb rfl rfl (Bin.neqN _ _) (jO (jN (jv3 0 1 10 ?_))))))))))
 refine VC.condF rfl jdp ?_
 refine jQ (jN (jv2 0 1 ?_))
 refine jS (jS (jR (jz 0 (jO (jN (jB ?_))))))
 refine VC.loop (σ := Nat) (fun s => [(0, .slice A l.length c), (1, .slice B l.length d), (5, jI1 s)]) (fun s wr => s ≤ l.length ∧ Frm [] w wr) (fun s => l.length - s) 0 (js3 rfl rfl rfl) ⟨jo, Frm.refl _ _⟩ ?_
 rintro i wr ⟨hi, K0⟩
 refine jS (jS (jR (jm rfl (jm rfl (jL rfl zcc (jb rfl rfl (Bin.lssN _ _) (jO (jN (jv4 0 1 5 14 ?_)))))))))
 refine jD rfl (fun hc2 => ?_) fun hc2 => ?_
 ·
  obtain ⟨ad1, rfl, hcA⟩ := qZg hA hc2
  obtain ⟨ad2, rfl, hcB⟩ := qZg hB hc2
  refine jQ (jN (jv3 0 1 5 ?_))
  refine jS (jB (jS ?_))
  refine VC.held (fun V => Frm [] w V) jK ?_
  have hS : Frm [] w wr.drew := K0.drew
  refine jh 0 hS ?_
  refine jh 1 hS ?_
  refine jH 2 rfl hS (fun w0 hw0 => Run.indexS i rfl rfl zcc zdn hc2) ?_
  refine jH 3 rfl hS (fun w0 hw0 => Run.loadA rfl Tryz.isAgg96 zdn (hcA _ hw0) (by first | rfl | (simp; done))) ?_
  refine jh 4 hS ?_
  refine jh 5 hS ?_
  refine jH 6 rfl hS (fun w0 hw0 => Run.indexS i rfl rfl zcc zdn hc2) ?_
  refine jH 7 rfl hS (fun w0 hw0 => Run.loadA rfl Tryz.isAgg96 zdn (hcB _ hw0) (by first | rfl | (simp; done))) ?_
  refine jH 8 rfl hS (fun w0 hw0 => Run.neqAgg rfl rfl jK jK jK (qQt _ _)) ?_
  refine qQ.done jK ?_
  refine jN (jv4 0 1 5 25 ?_)
  refine VC.condF rfl (rfl) ?_
  refine jQ ?_
  refine qS (jN ?_)
  refine jv3 0 1 5 ?_
  refine jR (jm rfl (jb rfl rfl (Bin.add_i64 _ 1 jo) (ja rfl (jO ?_))))
  refine jN ⟨(i + 1), (js3 rfl rfl rfl), ?_, ?_⟩
  · exact ⟨jo, K0.drew⟩
  exact jq
 refine jX ?_
 refine qV (qV (qC ?_))
 refine jN ?_
 refine VC.sub [] .nil ?_
 refine jS (jR (ja rfl (jO (jN (jT ?_)))))
 refine qD rfl ?_
 exact ⟨rfl, K0⟩
theorem qZi {w : World} {A : Option Addr} {l : List Tx} {k : Nat} (h : Rd w 1 A l.length (SB l)) (hk : k < l.length) : ∃ ad, A = some ad ∧ ∀ W, Frm [] w W → W.cell? (ad.add (k * 1)) = some (encStr l[k]) := by
 obtain ⟨ad, rfl, _⟩ := nV h hk
 exact ⟨ad, rfl, fun W hW => rG (h.frm hW jp) hk⟩
theorem pO (A B : Option Addr) (c d : Nat) (l : List Tx) (w : World) (hA : Rd w 1 A l.length (SB l)) (hB : Rd w 1 B l.length (SB l)) (hl : l.length ≤ 9223372036854775807) : Calls Tryz.prog 23 #[.slice A l.length c, .slice B l.length d] w fun e w' => e = .returned (.bool true) ∧ Frm [] w w' := by
 refine jV Tryz.func23 Tryz.ntmps23 Tryz.results23 ?_
 refine jS (jR (ja rfl (jO (jN (jv2 0 1 ?_)))))
 refine jS (jS (jR (jm rfl (jL rfl zp (jm rfl (jL rfl zp (jb rfl rfl (Bin.neqN _ _) (jO (jN (jv3 0 1 10 ?_))))))))))
 refine VC.condF rfl jdp ?_
 refine jQ (jN (jv2 0 1 ?_))
 refine jS (jS (jR (jz 0 (jO (jN (jB ?_))))))
 refine VC.loop (σ := Nat) (fun s => [(0, .slice A l.length c), (1, .slice B l.length d), (5, jI1 s)]) (fun s wr => s ≤ l.length ∧ Frm [] w wr) (fun s => l.length - s) 0 (js3 rfl rfl rfl) ⟨jo, Frm.refl _ _⟩ ?_
 rintro i wr ⟨hi, K0⟩
 refine jS (jS (jR (jm rfl (jm rfl (jL rfl zp (jb rfl rfl (Bin.lssN _ _) (jO (jN (jv4 0 1 5 14 ?_)))))))))
 refine jD rfl (fun hc2 => ?_) fun hc2 => ?_
 ·
  obtain ⟨ad1, rfl, hcA⟩ := qZi hA hc2
  obtain ⟨ad2, rfl, hcB⟩ := qZi hB hc2
  refine jQ (jN (jv3 0 1 5 ?_))
  refine jS (jB (jS ?_))
  refine VC.held (fun V => Frm [] w V) jK ?_
  have hS : Frm [] w wr.drew := K0.drew
  refine jh 0 hS ?_
  refine jh 1 hS ?_
  refine jH 2 rfl hS (fun w0 hw0 => Run.indexS i rfl rfl zp zd hc2) ?_
  refine jH 3 rfl hS (fun w0 hw0 => Run.load rfl zj (hcA _ hw0)) ?_
  refine jh 4 hS ?_
  refine jh 5 hS ?_
  refine jH 6 rfl hS (fun w0 hw0 => Run.indexS i rfl rfl zp zd hc2) ?_
  refine jH 7 rfl hS (fun w0 hw0 => Run.load rfl zj (hcB _ hw0)) ?_
  refine jH 8 rfl hS (fun w0 hw0 => (Run.neqT rfl rfl)) ?_
  rw [decide_eq_false (show ¬ (l[i] ≠ l[i]) by simp)]
  refine qQ.done jK ?_
  refine jN (jv4 0 1 5 25 ?_)
  refine VC.condF rfl (rfl) ?_
  refine jQ ?_
  refine qS (jN ?_)
  refine jv3 0 1 5 ?_
  refine jR (jm rfl (jb rfl rfl (Bin.add_i64 _ 1 jo) (ja rfl (jO ?_))))
  refine jN ⟨(i + 1), (js3 rfl rfl rfl), ?_, ?_⟩
  · exact ⟨jo, K0.drew⟩
  exact jq
 refine jX ?_
 refine qV (qV (qC ?_))
 refine jN ?_
 refine VC.sub [] .nil ?_
 refine jS (jR (ja rfl (jO (jN (jT ?_)))))
 refine qD rfl ?_
 exact ⟨rfl, K0⟩
theorem qQv (dk : Nat) (ih : ∀ (csA csB : List Value) (k : KeyV) (w : World) (B B' : Nat → Prop), RdK dk w B csA k → RdK dk w B' csB k → Calls Tryz.prog 25 #[.agg csA.toArray, .agg csB.toArray] w fun e w' => e = .returned (.bool true) ∧ Frm [] w w')
  (csA csB : List Value) (k : KeyV) (w : World) (B B' : Nat → Prop) (hA : RdK (dk + 1) w B csA k) (hB : RdK (dk + 1) w B' csB k) : Calls Tryz.prog 25 #[.agg csA.toArray, .agg csB.toArray] w fun e w' => e = .returned (.bool true) ∧ Frm [] w w' := by
 obtain ⟨SAa, sca, LAa, lca, ca, rfl, hS1, hL1, -, hn1, hk1⟩ := hA
 obtain ⟨SAb, scb, LAb, lcb, cb, rfl, hS2, hL2, -, hn2, hk2⟩ := hB
 have hr1 : eX dk w B ca k.l := ⟨hn1, hk1⟩
 have hr2 : eX dk w B' cb k.l := ⟨hn2, hk2⟩
 have hlb := hL1.big
 have hsb := hS1.big
 refine jV Tryz.func25 Tryz.ntmps25 Tryz.results25 ?_
 refine jS (jR ?_)
 refine Ops.m (qH.box rfl) rfl ?_
 rintro _ w1 ⟨rfl, hF2⟩
 have hb2 : Blk w1 w.heap.size 30 ((KeC k SAa sca LAa lca).toArray) := hF2.blk
 have f2 := hF2.frm
 generalize w.heap.size = g2 at hb2 ⊢
 refine Ops.m (qH.box rfl) rfl ?_
 rintro _ w2 ⟨rfl, hF3⟩
 have hb3 : Blk w2 w1.heap.size 30 ((KeC k SAb scb LAb lcb).toArray) := hF3.blk
 have f3 := hF3.frm
 have hb2 := hb2.frm f3 jp
 generalize w1.heap.size = g3 at hb3 ⊢
 have K2 := f2.trans f3 jp
 refine ja rfl (jO (jN (jv2 2 3 ?_)))
 refine jS (jS ?_)
 refine VC.splitR [(2, jI0 g2), (3, jI0 g3)] (Frm [] w2) 48 (.bool (decide (False))) ?_ ?_
 ·
  refine jR (jf rfl zu rfl zc (jl rfl zi (hb2.cells 0 _ rfl) (jf rfl zu rfl zc (jl rfl zi (hb3.cells 0 _ rfl) (jb rfl rfl (Bin.neq _ _) (jM ?_))))))
  refine jk (Run.fieldAddr rfl zu rfl zd jd) ?_
  refine jk (Run.load rfl zj (hb2.cells 1 _ rfl)) ?_
  refine jk (Run.fieldAddr rfl zu rfl zd jd) ?_
  refine jk (Run.load rfl zj (hb3.cells 1 _ rfl)) ?_
  refine jk (Run.neqT rfl rfl) ?_
  refine jF rfl rfl au (jM ?_)
  refine jk (Run.fieldAddr rfl zu rfl zd jd) ?_
  refine jk (Run.load rfl zj (hb2.cells 2 _ rfl)) ?_
  refine jk (Run.fieldAddr rfl zu rfl zd jd) ?_
  refine jk (Run.load rfl zj (hb3.cells 2 _ rfl)) ?_
  refine jk (Run.neqT rfl rfl) ?_
  refine jF rfl rfl au (jM ?_)
  refine jk (Run.fieldAddr rfl zu rfl zc jd) ?_
  refine jk (Run.load rfl zi (hb2.cells 3 _ rfl)) ?_
  refine jk (Run.fieldAddr rfl zu rfl zc jd) ?_
  refine jk (Run.load rfl zi (hb3.cells 3 _ rfl)) ?_
  refine jk (Run.bin rfl rfl (Bin.neq _ _)) ?_
  refine jF rfl rfl au (jM ?_)
  refine jk (Run.fieldAddr rfl zu rfl zbf jd) ?_
  refine jk (Run.load rfl zct (hb2.cells 4 _ rfl)) ?_
  refine jk (Run.fieldAddr rfl zu rfl zbf jd) ?_
  refine jk (Run.load rfl zct (hb3.cells 4 _ rfl)) ?_
  refine Ops.clg rfl au (jE2 Tryz.call24) (pL SAa SAb sca scb k.set w2 (hS1.frm K2 jp).rd (hS2.frm K2 jp).rd hsb) rfl ?_
  rintro _ w3 ⟨rfl, f4⟩
  refine ⟨_, rfl, ?_⟩
  have hb2 := hb2.frm f4 jp
  have hb3 := hb3.frm f4 jp
  refine jk (Run.not rfl) ?_
  refine jF rfl rfl au (jM ?_)
  refine jk (Run.fieldAddr rfl zu rfl zaz jd) ?_
  refine jk (Run.load rfl zcj (hb2.cells 5 _ rfl)) ?_
  refine jk (Run.lenS rfl zah) ?_
  refine jk (Run.fieldAddr rfl zu rfl zaz jd) ?_
  refine jk (Run.load rfl zcj (hb3.cells 5 _ rfl)) ?_
  refine jk (Run.lenS rfl zah) ?_
  refine jk (Run.bin rfl rfl (Bin.neqN _ _)) ?_
  refine jF rfl rfl au (jO ?_)
  refine jN ⟨(js3 (jC jp) rfl rfl), (f4)⟩
 intro Γ wR hΓ hR
 refine jN (VC.sub _ hΓ ?_)
 refine VC.condF rfl (rfl) ?_
 refine jQ (jN (jv2 2 3 ?_))
 refine jS (jS (jR (jz 0 (jO (jN (jB ?_))))))
 refine VC.loop (σ := Nat) (fun s => [(2, jI0 g2), (3, jI0 g3), (5, jI1 s)]) (fun s wr => s ≤ k.l.length ∧ Frm [] w2 wr) (fun s => k.l.length - s) 0 (js3 rfl rfl rfl) ⟨jo, hR⟩ ?_
 rintro i wr ⟨hi, K0⟩
 have hb2 := hb2.frm K0 jp
 have hb3 := hb3.frm K0 jp
 have Kw := K2.trans K0 jp
 refine jS (jS (jR (jm rfl (jf rfl zu rfl zaz (jl rfl zcj (hb2.cells 5 _ rfl) (jL rfl zah (jb rfl rfl (Bin.lssN _ _) (jO (jN (jv4 2 3 5 53 ?_))))))))))
 refine jD rfl (fun hc2 => ?_) fun hc2 => ?_
 ·
  obtain ⟨ad1, rfl, _⟩ := hr1.get hL1.rd hc2
  obtain ⟨ad2, rfl, _⟩ := hr2.get hL2.rd hc2
  have g1 : ∀ W, Frm [] w W → RdK dk W B (ca.getD i []) (k.l.getD i k0) ∧ ∀ j v, (ca.getD i [])[j]? = some v → W.cell? ((ad1.add (i * 6)).add j) = some v := fun W hW => by
   have h1 : eX dk W B ca k.l := ⟨hn1, fun i hi => (hk1 i hi).frm hW jp⟩
   obtain ⟨ad, e, h2⟩ := h1.get (hL1.frm hW jp).rd hc2
   cases e
   exact ⟨h1.2 i hc2, h2⟩
  have g2' : ∀ W, Frm [] w W → RdK dk W B' (cb.getD i []) (k.l.getD i k0) ∧ ∀ j v, (cb.getD i [])[j]? = some v → W.cell? ((ad2.add (i * 6)).add j) = some v := fun W hW => by
   have h1 : eX dk W B' cb k.l := ⟨hn2, fun i hi => (hk2 i hi).frm hW jp⟩
   obtain ⟨ad, e, h2⟩ := h1.get (hL2.frm hW jp).rd hc2
   cases e
   exact ⟨h1.2 i hc2, h2⟩
  have z1 := (g1 _ (Frm.refl _ _)).1.cells.1
  have z2 := (g2' _ (Frm.refl _ _)).1.cells.1
  generalize ca.getD i [] = xa at *
  generalize cb.getD i [] = xb at *
  refine jQ (jN (jv3 2 3 5 ?_))
  refine jS (jB (jS ?_))
  refine VC.held (fun V => Frm [] wr V) jK ?_
  have hS : Frm [] wr wr.drew := (Frm.refl [] wr).drew
  refine jH 0 rfl hS (fun w0 hw0 => Run.fieldAddr rfl zu rfl zaz jd) ?_
  refine jH 1 rfl hS (fun w0 hw0 => Run.load rfl zcj ((hb2.frm hw0 jp).cells 5 _ rfl)) ?_
  refine jh 2 hS ?_
  refine jH 3 rfl hS (fun w0 hw0 => Run.indexS i rfl rfl zah zh hc2) ?_
  refine jH 4 rfl hS (fun w0 hw0 => Run.loadA (cs := xa) rfl zaf zh (g1 _ (Kw.trans hw0 jp)).2 z1) ?_
  refine jH 5 rfl hS (fun w0 hw0 => Run.fieldAddr rfl zu rfl zaz jd) ?_
  refine jH 6 rfl hS (fun w0 hw0 => Run.load rfl zcj ((hb3.frm hw0 jp).cells 5 _ rfl)) ?_
  refine jh 7 hS ?_
  refine jH 8 rfl hS (fun w0 hw0 => Run.indexS i rfl rfl zah zh hc2) ?_
  refine jH 9 rfl hS (fun w0 hw0 => Run.loadA (cs := xb) rfl zaf zh (g2' _ (Kw.trans hw0 jp)).2 z2) ?_
  refine qQ.cl 10 rfl jK (jE2 Tryz.call25) (ih xa xb _ _ B B' (g1 _ Kw.drew).1 (g2' _ Kw.drew).1) trivial rfl rfl ?_
  rintro _ w5 ⟨rfl, f5⟩
  have hS : Frm [] wr w5 := (Frm.refl [] wr).drew.trans f5 jp
  refine ⟨_, rfl, hS, ?_⟩
  refine jH 11 rfl hS (fun w0 hw0 => Run.not rfl) ?_
  refine qQ.done jK ?_
  refine jN (jv4 2 3 5 67 ?_)
  refine VC.condF rfl (rfl) ?_
  refine jQ ?_
  refine qS (jN ?_)
  refine jv3 2 3 5 ?_
  refine jR (jm rfl (jb rfl rfl (Bin.add_i64 _ 1 jo) (ja rfl (jO ?_))))
  refine jN ⟨(i + 1), (js3 rfl rfl rfl), ?_, ?_⟩
  · exact ⟨jo, K0.trans hS jp⟩
  exact jq
 refine jX ?_
 refine qV (qV (qC ?_))
 refine jN ?_
 refine VC.sub [] .nil ?_
 refine jS (jR (ja rfl (jO (jN (jT ?_)))))
 refine qD rfl ?_
 exact ⟨rfl, Kw⟩
theorem sM : ∀ (dk : Nat) (csA csB : List Value) (k : KeyV) (w : World) (B B' : Nat → Prop), RdK dk w B csA k → RdK dk w B' csB k → Calls Tryz.prog 25 #[.agg csA.toArray, .agg csB.toArray] w fun e w' => e = .returned (.bool true) ∧ Frm [] w w'
 | 0, _, _, _, _, _, _, h, _ => h.elim
 | dk + 1, csA, csB, k, w, B, B', hA, hB => qQv dk (sM dk) csA csB k w B B' hA hB
theorem lR (csA csB : Array Value) (c : CmV) (w : World) (hA : bR w csA c) (hB : bR w csB c) : Calls Tryz.prog 12 #[.agg csA, .agg csB] w fun e w' => e = .returned (.bool true) ∧ Frm [] w w' := by
 obtain ⟨FA, fc, SA, sc, IA, ic, rs, dk, BK, kc, TA, tc, e1, hg1, hS1, hr1, hI1, hK1, hT1⟩ := hA
 obtain ⟨FA', fc', SA', sc', IA', ic', rs', dk', BK', kc', TA', tc', e2, hg2, hS2, hr2, hI2, hK2, hT2⟩ := hB
 have z1 := hK1.cells.1
 have z2 := hK2.cells.1
 have hK1 := hK1.le (Nat.le_max_left dk dk')
 have hK2 := hK2.le (Nat.le_max_right dk dk')
 have l1 : rs.length = c.items.length := by rw [← hr1, zbc]
 have l2 : rs'.length = c.items.length := by rw [← hr2, zbc]
 have hK1c := hK1
 have hK2c := hK2
 obtain ⟨dm, hdm⟩ : ∃ d, max dk dk' = d := ⟨_, rfl⟩
 rw [hdm] at hK1 hK2 hK1c hK2c
 rcases dm with _ | dm
 · exact hK1.elim
 obtain ⟨q1, q2, q3, q4, q5, rfl, -⟩ := hK1
 obtain ⟨q6, q7, q8, q9, q10, rfl, -⟩ := hK2
 have b1 := hg1.big
 have b2 := hS1.big
 have b3 := hT1.big
 have b4 := hI1.row.big
 refine jV Tryz.func12 Tryz.ntmps12 Tryz.results12 ?_
 refine jS (jR ?_)
 refine Ops.m (qH.box rfl) rfl ?_
 rintro _ w1 ⟨rfl, hF2⟩
 have hb2 : Blk w1 w.heap.size 34 (csA) := hF2.blk
 have f2 := hF2.frm
 generalize w.heap.size = g2 at hb2 ⊢
 refine Ops.m (qH.box rfl) rfl ?_
 rintro _ w2 ⟨rfl, hF3⟩
 have hb3 : Blk w2 w1.heap.size 34 (csB) := hF3.blk
 have f3 := hF3.frm
 have hb2 := hb2.frm f3 jp
 generalize w1.heap.size = g3 at hb3 ⊢
 have K2 := f2.trans f3 jp
 refine ja rfl (jO (jN (jv2 2 3 ?_)))
 refine jS (jS ?_)
 refine VC.splitR [(2, jI0 g2), (3, jI0 g3)] (Frm [] w2) 70 (.bool (decide (False))) ?_ ?_
 ·
  refine jR (jf rfl ze rfl zd (jl rfl zj (hb2.cells 0 _ (by rw [e1]; rfl)) (jf rfl ze rfl zd (jl rfl zj (hb3.cells 0 _ (by rw [e2]; rfl)) (je (Run.neqT rfl rfl) (jM ?_))))))
  refine jk (Run.fieldAddr rfl ze rfl zd jd) ?_
  refine jk (Run.load rfl zj (hb2.cells 1 _ (by rw [e1]; rfl))) ?_
  refine jk (Run.fieldAddr rfl ze rfl zd jd) ?_
  refine jk (Run.load rfl zj (hb3.cells 1 _ (by rw [e2]; rfl))) ?_
  refine jk (Run.neqT rfl rfl) ?_
  refine jF rfl rfl au (jM ?_)
  refine jk (Run.fieldAddr rfl ze rfl zq jd) ?_
  refine jk (Run.load rfl zaq (hb2.cells 2 _ (by rw [e1]; rfl))) ?_
  refine jk (Run.fieldAddr rfl ze rfl zq jd) ?_
  refine jk (Run.load rfl zaq (hb3.cells 2 _ (by rw [e2]; rfl))) ?_
  refine jk (Run.neqB rfl rfl zan) ?_
  refine jF rfl rfl au (jM ?_)
  refine jk (Run.fieldAddr rfl ze rfl zd jd) ?_
  refine jk (Run.load rfl zj (hb2.cells 3 _ (by rw [e1]; rfl))) ?_
  refine jk (Run.fieldAddr rfl ze rfl zd jd) ?_
  refine jk (Run.load rfl zj (hb3.cells 3 _ (by rw [e2]; rfl))) ?_
  refine jk (Run.neqT rfl rfl) ?_
  refine jF rfl rfl au (jM ?_)
  refine jk (Run.fieldAddr rfl ze rfl zd jd) ?_
  refine jk (Run.load rfl zj (hb2.cells 4 _ (by rw [e1]; rfl))) ?_
  refine jk (Run.fieldAddr rfl ze rfl zd jd) ?_
  refine jk (Run.load rfl zj (hb3.cells 4 _ (by rw [e2]; rfl))) ?_
  refine jk (Run.neqT rfl rfl) ?_
  refine jF rfl rfl au (jM ?_)
  refine jk (Run.fieldAddr rfl ze rfl zai jd) ?_
  refine jk (Run.load rfl zbi (hb2.cells 5 _ (by rw [e1]; rfl))) ?_
  refine jk (Run.fieldAddr rfl ze rfl zai jd) ?_
  refine jk (Run.load rfl zbi (hb3.cells 5 _ (by rw [e2]; rfl))) ?_
  refine Ops.clg rfl au (jE2 Tryz.call23) (pO FA FA' fc fc' c.flags w2 (hg1.frm K2 jp).rd (hg2.frm K2 jp).rd b1) rfl ?_
  rintro _ w3 ⟨rfl, f4⟩
  refine ⟨_, rfl, ?_⟩
  have hb2 := hb2.frm f4 jp
  have hb3 := hb3.frm f4 jp
  refine jk (Run.not rfl) ?_
  refine jF rfl rfl au (jM ?_)
  refine jk (Run.fieldAddr rfl ze rfl zc jd) ?_
  refine jk (Run.load rfl zi (hb2.cells 6 _ (by rw [e1]; rfl))) ?_
  refine jk (Run.fieldAddr rfl ze rfl zc jd) ?_
  refine jk (Run.load rfl zi (hb3.cells 6 _ (by rw [e2]; rfl))) ?_
  refine jk (Run.bin rfl rfl (Bin.neq _ _)) ?_
  refine jF rfl rfl au (jM ?_)
  refine jk (Run.fieldAddr rfl ze rfl zq jd) ?_
  refine jk (Run.load rfl zaq (hb2.cells 7 _ (by rw [e1]; rfl))) ?_
  refine jk (Run.fieldAddr rfl ze rfl zq jd) ?_
  refine jk (Run.load rfl zaq (hb3.cells 7 _ (by rw [e2]; rfl))) ?_
  refine jk (Run.neqB rfl rfl zan) ?_
  refine jF rfl rfl au (jM ?_)
  refine jk (Run.fieldAddr rfl ze rfl zbf jd) ?_
  refine jk (Run.load rfl zct (hb2.cells 8 _ (by rw [e1]; rfl))) ?_
  refine jk (Run.fieldAddr rfl ze rfl zbf jd) ?_
  refine jk (Run.load rfl zct (hb3.cells 8 _ (by rw [e2]; rfl))) ?_
  refine Ops.clg rfl au (jE2 Tryz.call24) (pL SA SA' sc sc' c.set w3 (hS1.frm (K2.trans f4 jp) jp).rd (hS2.frm (K2.trans f4 jp) jp).rd b2) rfl ?_
  rintro _ w4 ⟨rfl, f5⟩
  have f45 := f4.trans f5 jp
  refine ⟨_, rfl, ?_⟩
  have hb2 := hb2.frm f5 jp
  have hb3 := hb3.frm f5 jp
  refine jk (Run.not rfl) ?_
  refine jF rfl rfl au (jO ?_)
  refine jN ⟨(js3 (jC jp) rfl rfl), (f45)⟩
 intro Γ w5 hΓ r5
 refine jN (VC.sub _ hΓ ?_)
 refine VC.condF rfl (rfl) ?_
 refine jQ (jN (jv2 2 3 ?_))
 refine jS (jS ?_)
 refine VC.splitR [(2, jI0 g2), (3, jI0 g3)] (Frm [] w5) 107 (.bool (decide (False))) ?_ ?_
 ·
  refine jR (jf rfl ze rfl zbg ?_)
  have k5 := K2.trans r5 jp
  have hb2 := hb2.frm r5 jp
  have hb3 := hb3.frm r5 jp
  refine je (Run.loadA rfl zdv zbg (hb2.sub 16 [.int .i64 c.sec, .int .i64 c.zone] (by rw [e1]; rfl)) (by first | rfl | (simp; done))) (jf rfl ze rfl zbg (je (Run.loadA rfl zdv zbg (hb3.sub 16 [.int .i64 c.sec, .int .i64 c.zone] (by rw [e2]; rfl)) (by first | rfl | (simp; done))) (je (Run.neqAgg (xs := #[.int .i64 c.sec, .int .i64 c.zone]) (ys := #[.int .i64 c.sec, .int .i64 c.zone]) rfl rfl jK jK jK (qQu _ _ _)) (jM ?_))))
  refine jk (Run.fieldAddr rfl ze rfl zq jd) ?_
  refine jk (Run.load rfl zaq (hb2.cells 18 _ (by rw [e1]; rfl))) ?_
  refine jk (Run.fieldAddr rfl ze rfl zq jd) ?_
  refine jk (Run.load rfl zaq (hb3.cells 18 _ (by rw [e2]; rfl))) ?_
  refine jk (Run.neqB rfl rfl zan) ?_
  refine jF rfl rfl au (jM ?_)
  refine jk (Run.fieldAddr rfl ze rfl zai jd) ?_
  refine jk (Run.load rfl zbi (hb2.cells 19 _ (by rw [e1]; rfl))) ?_
  refine jk (Run.fieldAddr rfl ze rfl zai jd) ?_
  refine jk (Run.load rfl zbi (hb3.cells 19 _ (by rw [e2]; rfl))) ?_
  refine Ops.clg rfl au (jE2 Tryz.call23) (pO TA TA' tc tc' c.attrs w5 (hT1.frm k5 jp).rd (hT2.frm k5 jp).rd b3) rfl ?_
  rintro _ w6 ⟨rfl, f6⟩
  refine ⟨_, rfl, ?_⟩
  have hb2 := hb2.frm f6 jp
  have hb3 := hb3.frm f6 jp
  refine jk (Run.not rfl) ?_
  refine jF rfl rfl au (jM ?_)
  refine jk (Run.fieldAddr rfl ze rfl zh jd) ?_
  refine jk (Run.loadA rfl zaf zh (hb2.sub 10 (KeC c.k q1 q2 q3 q4) (by rw [e1]; rfl)) (by first | rfl | (simp; done))) ?_
  refine jk (Run.fieldAddr rfl ze rfl zh jd) ?_
  refine jk (Run.loadA rfl zaf zh (hb3.sub 10 (KeC c.k q6 q7 q8 q9) (by rw [e2]; rfl)) (by first | rfl | (simp; done))) ?_
  refine Ops.clg rfl au (jE2 Tryz.call25) (sM _ _ _ c.k w6 _ _ (hK1c.frm (k5.trans f6 jp) jp) (hK2c.frm (k5.trans f6 jp) jp)) rfl ?_
  rintro _ w7 ⟨rfl, f7⟩
  have f67 := f6.trans f7 jp
  refine ⟨_, rfl, ?_⟩
  have hb2 := hb2.frm f7 jp
  have hb3 := hb3.frm f7 jp
  refine jk (Run.not rfl) ?_
  refine jF rfl rfl au (jM ?_)
  refine jk (Run.fieldAddr rfl ze rfl zcb jd) ?_
  refine jk (Run.load rfl zdh (hb2.cells 9 _ (by rw [e1]; rfl))) ?_
  refine jk (Run.lenS rfl zbv) ?_
  refine jk (Run.fieldAddr rfl ze rfl zcb jd) ?_
  refine jk (Run.load rfl zdh (hb3.cells 9 _ (by rw [e2]; rfl))) ?_
  refine jk (Run.lenS rfl zbv) ?_
  refine jk (Run.bin rfl rfl (Bin.neqN _ _)) ?_
  refine jF rfl rfl au (jO ?_)
  refine jN ⟨(js3 (jC jp) rfl rfl), (f67)⟩
 intro Γ w8 hΓ r8
 refine jN (VC.sub _ hΓ ?_)
 refine VC.condF rfl (rfl) ?_
 refine jQ (jN (jv2 2 3 ?_))
 refine jS (jS (jR (jz 0 ?_)))
 have k5 := K2.trans r5 jp
 have k8 := k5.trans r8 jp
 have hb2 := hb2.frm (r5.trans r8 jp) jp
 have hb3 := hb3.frm (r5.trans r8 jp) jp
 refine jO (jN (jB ?_))
 refine VC.loop (σ := Nat) (fun s => [(2, jI0 g2), (3, jI0 g3), (5, jI1 s)]) (fun s wr => s ≤ c.items.length ∧ Frm [] w8 wr) (fun s => c.items.length - s) 0 (js3 rfl rfl rfl) ⟨jo, Frm.refl _ _⟩ ?_
 rintro i wr ⟨hi, K0⟩
 have hb2 := hb2.frm K0 jp
 have hb3 := hb3.frm K0 jp
 have kw := k8.trans K0 jp
 refine jS (jS (jR (jm rfl (jf rfl ze rfl zcb (jl rfl zdh (hb2.cells 9 _ (by rw [e1]; rfl)) (jL rfl zbv (jb rfl rfl (Bin.lssN _ _) (jO (jN (jv4 2 3 5 112 ?_))))))))))
 refine jD rfl (fun hc3 => ?_) fun hc3 => ?_
 ·
  obtain ⟨ad1, rfl, m1⟩ := qZh (hI1.frm kw).row.rd (jo : i < rs.length)
  obtain ⟨ad2, rfl, m2⟩ := qZh (hI2.frm kw).row.rd (jo : i < rs'.length)
  have x1 : rs[i].x = c.items[i] := by have := congrArg (fun l => l[i]?) hr1; simpa [hc3, show i < rs.length by omega] using this
  have x2 : rs'[i].x = c.items[i] := by have := congrArg (fun l => l[i]?) hr2; simpa [hc3, show i < rs'.length by omega] using this
  have o1 := (hI1.frm kw).ok rs[i] (zaj _)
  have o2 := (hI2.frm kw).ok rs'[i] (zaj _)
  obtain ⟨ra, hra⟩ : ∃ r, r = rs[i] := ⟨_, rfl⟩
  obtain ⟨rb, hrb⟩ : ∃ r, r = rs'[i] := ⟨_, rfl⟩
  rw [← hra] at m1 x1 o1
  rw [← hrb] at m2 x2 o2
  rw [← x2] at x1
  clear hra hrb x2
  obtain ⟨x, PA1, pc1, NA1, nc1⟩ := ra
  obtain ⟨y, PA2, pc2, NA2, nc2⟩ := rb
  dsimp only at x1
  subst x1
  refine jQ (jN (jv3 2 3 5 ?_))
  refine jS (jB (jS ?_))
  refine VC.held (fun V => Frm [] wr V) jK ?_
  have hS : Frm [] wr wr.drew := (Frm.refl [] wr).drew
  refine jH 0 rfl hS (fun w0 hw0 => Run.fieldAddr rfl ze rfl zcb jd) ?_
  refine jH 1 rfl hS (fun w0 hw0 => Run.load rfl zdh ((hb2.frm hw0 jp).cells 9 _ (by rw [e1]; rfl))) ?_
  refine jh 2 hS ?_
  refine jH 3 rfl hS (fun w0 hw0 => Run.indexS i rfl rfl zbv zar hc3) ?_
  refine jH 4 rfl hS (fun w0 hw0 => Run.loadA (cs := (itC x PA1 pc1 NA1 nc1).toList) rfl zcu zar (m1 _ hw0) rfl) ?_
  refine jH 5 rfl hS (fun w0 hw0 => Run.fieldAddr rfl ze rfl zcb jd) ?_
  refine jH 6 rfl hS (fun w0 hw0 => Run.load rfl zdh ((hb3.frm hw0 jp).cells 9 _ (by rw [e2]; rfl))) ?_
  refine jh 7 hS ?_
  refine jH 8 rfl hS (fun w0 hw0 => Run.indexS i rfl rfl zbv zar hc3) ?_
  refine jH 9 rfl hS (fun w0 hw0 => Run.loadA (cs := (itC x PA2 pc2 NA2 nc2).toList) rfl zcu zar (m2 _ hw0) rfl) ?_
  refine qQ.par (target := #[true, true, true, true, true, true, true, true, true, true, true, true, false, false]) [PT.made 10 6 54 #[.int .i64 0, .string ⟨#[]⟩, .slice none 0 0, .string ⟨#[]⟩, .slice none 0 0, .bool false, .bool false, .int .i64 0, .int .i64 0], PT.made 11 7 54 #[.int .i64 0, .string ⟨#[]⟩, .slice none 0 0, .string ⟨#[]⟩, .slice none 0 0, .bool false, .bool false, .int .i64 0, .int .i64 0]] 2 rfl jK (show List.Nodup ([6, 7] : List Nat) by decide) (show List.Nodup ([10, 11] : List Nat) by decide) (fun t ht => ?_) (fun t ht => ?_) (fun W hW => ?_) (fun t ht => ?_) (fun t ht => ?_) (fun t ht W g hW hD hE => ?_) (fun g W hW hA => ?_)
  ·
   simp only [zab, zag, or_false] at ht
   rcases ht with rfl | rfl
   · rfl
   rfl
  ·
   simp only [zab, zag, or_false] at ht
   rcases ht with rfl | rfl
   · exact fun x hx => absurd hx jp
   exact fun x hx => absurd hx jp
  · exact hS.trans hW jp
  ·
   simp only [zab, zag, or_false] at ht
   rcases ht with rfl | rfl
   · exact PT.made_st
   exact PT.made_st
  ·
   simp only [zab, zag, or_false] at ht
   rcases ht with rfl | rfl
   · exact fun _ _ _ _ _ _ _ h => h
   exact fun _ _ _ _ _ _ _ h => h
  ·
   simp only [zab, zag, or_false] at ht
   rcases ht with rfl | rfl
   · exact PT.made_ok rfl rfl eC
   exact PT.made_ok rfl rfl eC
  have hA6 := hA.1 _ (.head _)
  have hA7 := hA.1 _ (.tail _ (.head _))
  have hA6_7 := hA.2 _ (.head _) _ (.tail _ (.head _)) (show (6 : Nat) ≠ 7 by decide)
  clear hA
  simp only [zay, List.map_nil, List.cons_append, zdo]
  dsimp only at hA6 hA7 hA6_7
  generalize g 6 = q6 at *
  obtain ⟨u6, lo6, hi6⟩ := q6
  generalize g 7 = q7 at *
  obtain ⟨u7, lo7, hi7⟩ := q7
  dsimp only at hA6 hA7 hA6_7 ⊢
  obtain ⟨⟨⟨rfl, hlt6⟩, hb6⟩, hA6⟩ := hA6
  obtain ⟨⟨⟨rfl, hlt7⟩, hb7⟩, hA7⟩ := hA7
  have hS := hS.trans hW jp
  have hzd := (qL.drew wr).frm.size
  have hne67 : lo6 ≠ lo7 := jo
  refine qQ.st 12 rfl jK (qJ.storeA rfl rfl zar hb6 rfl (eG _ _ _ _ _)) trivial rfl ?_
  rintro v1 ⟨hx, fx, sx⟩
  have hb7 := hb7.frm fx (by simp; omega)
  have hS := hS.own fx (by simp; omega)
  refine ⟨hS, ?_⟩
  refine qQ.st 13 rfl jK (qJ.storeA rfl rfl zar hb7 rfl (eG _ _ _ _ _)) trivial rfl ?_
  rintro v2 ⟨hy, fy, sy⟩
  have hx := hx.frm fy (by simp; omega)
  have hS := hS.own fy (by simp; omega)
  refine ⟨hS, ?_⟩
  refine qQ.done jK ?_
  refine jN (jv5 2 3 5 6 7 ?_)
  refine jS ?_
  refine VC.splitR [(2, jI0 g2), (3, jI0 g3), (5, jI1 i)] (Frm [] v2) 172 (.bool (decide (False))) ?_ ?_
  ·
   refine jR (jf rfl zm rfl zc (jl rfl zi (hx.cells 0 _ rfl) (jf rfl zm rfl zc (jl rfl zi (hy.cells 0 _ rfl) (jb rfl rfl (Bin.neq _ _) (jM ?_))))))
   refine jk (Run.fieldAddr rfl zm rfl zd jd) ?_
   refine jk (Run.load rfl zj (hx.cells 1 _ rfl)) ?_
   refine jk (Run.fieldAddr rfl zm rfl zd jd) ?_
   refine jk (Run.load rfl zj (hy.cells 1 _ rfl)) ?_
   refine jk (Run.neqT rfl rfl) ?_
   refine jF rfl rfl au (jM ?_)
   refine jk (Run.fieldAddr rfl zm rfl zx jd) ?_
   refine jk (Run.loadA (cs := (WtC x.w PA1 pc1 NA1 nc1).toList) rfl zbm zx (hx.sub 2 (WtC x.w PA1 pc1 NA1 nc1).toList rfl) rfl) ?_
   refine jk (Run.fieldAddr rfl zm rfl zx jd) ?_
   refine jk (Run.loadA (cs := (WtC x.w PA2 pc2 NA2 nc2).toList) rfl zbm zx (hy.sub 2 (WtC x.w PA2 pc2 NA2 nc2).toList rfl) rfl) ?_
   refine Ops.clg rfl au (jE2 Tryz.call15) (rH x.w x.w PA1 NA1 PA2 NA2 pc1 nc1 pc2 nc2 v2 (o1.frm hS).p.rd (o1.frm hS).n.rd (o2.frm hS).p.rd (o2.frm hS).n.rd o1.p.big o1.n.big) rfl ?_
   rintro _ w9 ⟨rfl, f9⟩
   rw [decide_eq_true (show lW x.w x.w from ⟨rfl, rfl, rfl⟩)]
   refine ⟨_, rfl, ?_⟩
   have hx := hx.frm f9 jp
   have hy := hy.frm f9 jp
   refine jk (Run.not rfl) ?_
   refine jF rfl rfl au (jM ?_)
   refine jk (Run.fieldAddr rfl zm rfl zq jd) ?_
   refine jk (Run.load rfl zaq (hx.cells 5 _ rfl)) ?_
   refine jk (Run.fieldAddr rfl zm rfl zq jd) ?_
   refine jk (Run.load rfl zaq (hy.cells 5 _ rfl)) ?_
   refine jk (Run.neqB rfl rfl zan) ?_
   refine jF rfl rfl au (jM ?_)
   refine jk (Run.fieldAddr rfl zm rfl zq jd) ?_
   refine jk (Run.load rfl zaq (hx.cells 6 _ rfl)) ?_
   refine jk (Run.fieldAddr rfl zm rfl zq jd) ?_
   refine jk (Run.load rfl zaq (hy.cells 6 _ rfl)) ?_
   refine jk (Run.neqB rfl rfl zan) ?_
   refine jF rfl rfl au (jM ?_)
   refine jk (Run.fieldAddr rfl zm rfl zc jd) ?_
   refine jk (Run.load rfl zi (hx.cells 7 _ rfl)) ?_
   refine jk (Run.fieldAddr rfl zm rfl zc jd) ?_
   refine jk (Run.load rfl zi (hy.cells 7 _ rfl)) ?_
   refine jk (Run.bin rfl rfl (Bin.neq _ _)) ?_
   refine jF rfl rfl au (jM ?_)
   refine jk (Run.fieldAddr rfl zm rfl zc jd) ?_
   refine jk (Run.load rfl zi (hx.cells 8 _ rfl)) ?_
   refine jk (Run.fieldAddr rfl zm rfl zc jd) ?_
   refine jk (Run.load rfl zi (hy.cells 8 _ rfl)) ?_
   refine jk (Run.bin rfl rfl (Bin.neq _ _)) ?_
   refine jF rfl rfl au (jO ?_)
   refine jN ⟨(js4 (jC jp) rfl rfl rfl), (f9)⟩
  intro Γ wa hΓ ra
  refine jN (VC.sub _ hΓ ?_)
  refine VC.condF rfl (rfl) ?_
  refine jQ ?_
  refine qS (jN ?_)
  refine jv3 2 3 5 ?_
  refine jR (jm rfl (jb rfl rfl (Bin.add_i64 _ 1 jo) (ja rfl (jO ?_))))
  refine jN ⟨(i + 1), (js3 rfl rfl rfl), ?_, ?_⟩
  · exact ⟨jo, K0.trans (hS.trans ra jp) jp⟩
  exact jq
 refine jX ?_
 refine qV (qV (qC ?_))
 refine jN ?_
 refine VC.sub [] .nil ?_
 refine jS (jR (ja rfl (jO (jN (jT ?_)))))
 refine qD rfl ?_
 exact ⟨rfl, kw⟩
def tur (c : UInt8) : UInt8 := if 97 ≤ c.toNat ∧ c.toNat ≤ 122 then c - 32 else if 65 ≤ c.toNat ∧ c.toNat ≤ 90 then c + 32 else c
theorem nA (c : UInt8) : (tur c).toNat = if 97 ≤ c.toNat ∧ c.toNat ≤ 122 then c.toNat - 32 else if 65 ≤ c.toNat ∧ c.toNat ≤ 90 then c.toNat + 32 else c.toNat := by
 unfold tur
 split
 ·
  rename_i h
  have h32 : (32 : UInt8).toNat = 32 := rfl
  rw [UInt8.toNat_sub_of_le _ _ (by rw [UInt8.le_iff_toNat_le]; omega), h32]
 split
 ·
  rename_i h
  have h32 : (32 : UInt8).toNat = 32 := rfl
  rw [UInt8.toNat_add, h32]
  omega
 rfl
theorem qJf (c : UInt8) : gre (tur c) = gre c := by
 apply UInt8.toNat_inj.1
 rw [kY, kY, nA]
 grind
theorem qX8 (s : Tx) : qT (s.map tur) = qT s := by
 unfold qT
 rw [zcs]
 exact zbx fun c _ => qJf c
def gU (tk : List Tk) : List Tk := tk.set 1 ((tk.getD 1 tk0).1, (tk.getD 1 tk0).2.map tur)
theorem dB (tk : List Tk) : (gU tk).length = tk.length := by simp [gU]
theorem qJg {tk : List Tk} (h : 2 ≤ tk.length) : (TC tk).set 3 (encStr ((tk.getD 1 tk0).2.map tur)) = TC (gU tk) := by
 rcases tk with _ | ⟨a, _ | ⟨b, r⟩⟩
 · simp at h
 · simp at h
 simp [TC, gU, tkC]
theorem qX9 {tk : List Tk} (h : 2 ≤ tk.length) : cE (gU tk) = cE tk ∧ bW (gU tk) = bW tk := by
 have h0 : (gU tk).getD 0 tk0 = tk.getD 0 tk0 := by simp [gU, zf]
 have h1 : (gU tk).getD 1 tk0 = ((tk.getD 1 tk0).1, (tk.getD 1 tk0).2.map tur) := by
  unfold gU
  rw [zf, zcr jo]
  rfl
 refine ⟨qJ4 ⟨dB tk, fun i hi => ?_⟩ h0 (by rw [h1]) (by rw [h1]; exact qX8 _), by unfold bW; rw [dB, h0]⟩
 unfold gU
 rw [zf, zdc jo, ← zf]
theorem qZa {tk : List Tk} {m : Nat} (hl : ∀ x ∈ tk, x.2.length ≤ m) : ∀ x ∈ gU tk, x.2.length ≤ m := fun x hx => by
 rcases List.mem_or_eq_of_mem_set hx with h | rfl
 · exact hl x h
 simp only [zbc]
 by_cases h : 1 < tk.length
 · rw [zf, zb h]; exact hl _ (zaj h)
 rw [zf, zcg jo]; exact zac _
theorem qJh (tk : List Tk) : ∀ x ∈ dG tk, x.2.length ≤ 50000 := fun x hx => by
 obtain ⟨y, _, rfl⟩ := List.mem_map.1 hx
 simp only [zbd]
 omega
theorem qJi (tk : List Tk) : dG (dG tk) = dG tk := by
 unfold dG
 rw [zy (l := (tk.take 120).map _) (by simp; omega), zcs]
 exact zbx fun x _ => by
  show (x.1, (x.2.take 200).take 200) = _
  rw [zy (l := x.2.take 200) (by simp; omega)]
theorem wG {w : World} {F : Option Addr} {n d : Nat} {xs : List Value} (h : Own w 41 2 F n d xs) : d ≤ 9223372036854775807 := by
 rcases h.cases with ⟨_, _, rfl, _⟩ | ⟨_, _, _, _, _, h, _⟩
 · omega
 exact zr h jd
def PM (W : World) (tk : List Tk) (cs : Array Value) (code : Int) : Prop := match cE tk with
 | none => cs = dJ (bW tk) ∧ code = 20
 | some v => code = 0 ∧ bR W cs v
theorem PM.frm {W W' : World} {tk : List Tk} {cs : Array Value} {code : Int} (h : PM W tk cs code) (k : Frm [] W W') : PM W' tk cs code := by
 unfold PM at h ⊢
 generalize cE tk = m at h ⊢
 rcases m with _ | v
 · exact h
 exact ⟨h.1, h.2.frm k⟩
theorem PM.blk {W W' : World} {tk : List Tk} {cs csx : Array Value} {code : Int} {g : Nat} (h : PM W tk cs code) (hb : Blk W g 34 csx) (k : Frm [g] W W') : PM W' tk cs code := by
 unfold PM at h ⊢
 generalize cE tk = m at h ⊢
 rcases m with _ | v
 · exact h
 exact ⟨h.1, h.2.blk hb (.inl rfl) k⟩
theorem bR.tok {W W' : World} {cs csx : Array Value} {c : CmV} {g : Nat} (h : bR W cs c) (hb : Blk W g 41 csx) (k : Frm [g] W W') : bR W' cs c := by
 obtain ⟨FA, fc, SA, sc, IA, ic, rs, d, B, kc, TA, tc, h1, h2, h3, h4, h5, h6, h7⟩ := h
 exact ⟨FA, fc, SA, sc, IA, ic, rs, d, B, kc, TA, tc, h1, h2.one k hb jd, h3.one k hb jd, h4, h5.blk hb k jd jd jd, h6.blk hb k jd jd, h7.one k hb jd⟩
theorem PM.own {W W' : World} {tk : List Tk} {cs : Array Value} {code : Int} {H : Option Addr} {m d : Nat} {xs : List Value} (h : PM W tk cs code) (k : Frm (ob H) W W') (hO : Own W 41 2 H m d xs) : PM W' tk cs code := by
 rcases hO.cases with ⟨rfl, _⟩ | ⟨g, cur, rfl, hb, _⟩
 · exact h.frm k
 unfold PM at h ⊢
 generalize cE tk = m at h ⊢
 rcases m with _ | v
 · exact h
 exact ⟨h.1, h.2.tok hb k⟩
theorem PM.cells {W : World} {tk : List Tk} {cs : Array Value} {code : Int} (h : PM W tk cs code) : cs.size = 20 ∧ ∀ u ∈ cs.toList, u.oneCell' = true := by
 unfold PM at h
 generalize cE tk = m at h
 rcases m with _ | v
 ·
  obtain ⟨rfl, _⟩ := h
  exact ⟨rfl, kS _⟩
 exact h.2.cells
theorem bR.zero (W : World) (tag : Tx) : bR W (dJ tag) { cm0 tag with name := [], uid := false, a := [], b := [] } := bR.plain W tag [] [] [] false
theorem mE (A : Option Addr) (n c : Nat) (tk : List Tk) (w : World) (hR : RdT w A n tk) (hn : n ≤ 121) (hl : ∀ x ∈ tk, x.2.length ≤ 50000) (hA : ∀ x ∈ ob A, x < w.heap.size) (hv : bT w) (htb : Tab w) :
  Calls Tryz.prog 10 #[.slice A n c] w fun e w' => Frm [] w w' ∧ ∃ cs code, e = .returned (.tuple #[.agg cs, .int .i64 code]) ∧ PM w' tk cs code :=
 (zL A n c tk w hR jo hl (fun _ => hA) hv htb).mono fun e w' ⟨hf, cs, code, h1, h2⟩ => ⟨hf, cs, code, h1, h2⟩
theorem qJj {tk : List Tk} (h : tk.length < 2) : cE tk = none := by
 unfold cE
 by_cases h0 : 0 < tk.length ∧ (tk.getD 0 tk0).1 = 0
 ·
  rw [if_pos h0]
  have : qW tk 1 [0] = none := by unfold qW; rw [if_neg jo]
  rw [this]
  rfl
 rw [if_neg h0]
theorem qJk {tk : List Tk} {v : CmV} (h : cE tk = some v) : bW tk = (tk.getD 0 tk0).2 := by
 unfold cE at h
 rcases qR h with ⟨h0, _⟩ | ⟨_, h⟩
 · unfold bW; rw [if_pos h0]
 cases h
theorem rM (A : Option Addr) (n c : Nat) (tk : List Tk) (w : World) (hR : RdT w A n tk) (hn : n ≤ c) (hc : c ≤ 9223372036854775807) (hv : bT w) (htb : Tab w) : Calls Tryz.prog 5 #[.slice A n c] w fun e w' => e = .returned (.bool true) ∧ Frm [] w w' := by
 obtain ⟨T, hT⟩ : ∃ T, T = dG tk := ⟨_, rfl⟩
 have hTl : T.length ≤ 120 := by rw [hT, oU]; omega
 have hTm : ∀ x ∈ T, x.2.length ≤ 50000 := by rw [hT]; exact qJh tk
 have hTT : dG T = T := by rw [hT]; exact qJi tk
 have K := Frm.refl [] w
 refine jV Tryz.func5 Tryz.ntmps5 Tryz.results5 ?_
 refine jS (jR (ja rfl (jO (jN (jv1 0 ?_)))))
 refine jS (jR (jM ?_))
 refine jc (jE1 Tryz.call9) (oB A n c tk w hR hn hc) ?_
 rintro _ w1 ⟨F, d, rfl, hO, hF, k1⟩
 refine ⟨_, rfl, ?_⟩
 rw [← hT] at hO ⊢
 have K := K.trans k1 jp
 refine ja rfl (jO (jN (jv1 0 ?_)))
 refine jS (jS (jR (jm rfl (jL rfl zs (jb rfl rfl (Bin.lssN _ 2) (jO (jN (jv2 0 19 ?_))))))))
 refine jD rfl (fun hc1 => ?_) fun hc1 => ?_
 ·
  refine jS (jR (jM ?_))
  refine jc (jE1 zed) (mE F T.length d T _ ⟨by first | rfl | exact dB T | exact cA, hO.rd⟩ (by first | omega | (simp only [dB, cA]; omega)) hTm hO.lt (hv.frm0 K) (htb.frm K)) ?_
  rintro _ p1 ⟨kp1, cs1, cd1, rfl, hp1⟩
  refine ⟨_, rfl, ?_⟩
  have K := K.trans kp1 jp
  refine jm rfl (jY rfl rfl (jY rfl rfl ?_))
  refine Ops.m (qH.alloc eJ) rfl ?_
  rintro _ a1 ⟨rfl, hA1⟩
  obtain ⟨g1, hg1⟩ : ∃ g, g = p1.heap.size := ⟨_, rfl⟩
  have hb1 := hA1.blk
  have hz1 := K.size
  rw [← hg1] at hb1 ⊢
  have K := K.trans hA1.frm jp
  have hp1 := hp1.frm hA1.frm
  refine Ops.st (qJ.storeA rfl rfl (fun W => by rw [hp1.cells.1]; exact zba W) hb1 (by rw [hp1.cells.1]; rfl) hp1.cells.2) ?_
  rintro s1 ⟨hd1, hs1, hy1⟩
  have K := K.own hs1 (by simp; omega)
  have hp1 := hp1.blk hb1 hs1
  have hc0 := qJj (tk := T) jo
  unfold PM at hp1
  rw [hc0] at hp1
  obtain ⟨rfl, rfl⟩ := hp1
  refine ja rfl (jO (jN (jv2 3 4 ?_)))
  refine jS ?_
  refine VC.splitR [] (Frm [] s1) 2 (.bool (decide (True))) ?_ ?_
  ·
   refine jR ?_
   refine jm rfl (jb rfl rfl (Bin.eqlN _ 20) (jM ?_))
   refine jk (Run.fieldAddr rfl ze rfl zd jd) ?_
   refine jk (Run.load rfl zj (hd1.cell 1)) ?_
   refine jk (Run.eqlT rfl rfl) ?_
   refine jW rfl rfl au (jM ?_)
   refine Ops.clg rfl au (jE0 Tryz.call8) (kL s1 (hv.frm0 K) (htb.frm K)) rfl ?_
   rintro _ u1 ⟨rfl, ku1⟩
   refine ⟨_, rfl, ?_⟩
   refine jW rfl rfl au (ja rfl (jO ?_))
   refine jN ⟨(js1 (jC jp)), (ku1)⟩
  intro Γ wR hΓ hR
  refine jN (VC.sub _ hΓ ?_)
  refine jT ?_
  refine qZ (qD rfl ?_)
  exact ⟨rfl, K.trans hR jp⟩
 have h2 : 2 ≤ T.length := jo
 refine jQ (jN (jv1 0 ?_))
 refine jS (jR (jM ?_))
 refine jc (jE1 Tryz.call9) (oB F T.length d T w1 ⟨rfl, hO.rd⟩ hO.le (wG hO)) ?_
 rintro _ w2 ⟨G, d2, rfl, hO2, hG, k2⟩
 refine ⟨_, rfl, ?_⟩
 rw [hTT] at hO2 ⊢
 have hFG : ∀ x ∈ ob F, x ∉ ob G := fun x hx hy => by have := hO.lt x hx; have := hG x hy; omega
 have hG' : ∀ x ∈ ob G, w.heap.size ≤ x := fun x hx => zr K.size (hG x hx)
 have hO := hO.frm k2 jp
 have K := K.trans k2 jp
 obtain ⟨ad, hGa, hel⟩ := RdT.cell (⟨rfl, hO2.rd⟩ : RdT w2 G T.length T) (jo : 1 < T.length)
 subst hGa
 have hs1 : (T.getD 1 tk0).2.length ≤ 50000 := by rw [zf, zb (jo : 1 < T.length)]; exact hTm _ (zaj _)
 refine ja rfl (jO (jN (jv2 0 5 ?_)))
 refine jS (jR (ja rfl (jO (jN (jS (jS (jR (jz 0 (jO (jN (jB ?_)))))))))))
 refine VC.loop (σ := Nat) (fun s => [(0, .slice F T.length d), (5, .slice (some ad) T.length d2), (6, encStr (((T.getD 1 tk0).2.take s).map tur)), (7, jI1 s)]) (fun s wr => s ≤ (T.getD 1 tk0).2.length ∧ Frm [] w2 wr) (fun s => (T.getD 1 tk0).2.length - s) 0 (js4 rfl rfl rfl rfl) ⟨zac _, Frm.refl _ _⟩ ?_
 rintro i wr ⟨hi, kw⟩
 refine jS (jS (jR (jm rfl (jm rfl (je (Run.indexS 1 rfl rfl zs zw jo) (jf rfl zas rfl zd (jl rfl zj (hel wr kw 1 _ rfl) (je (Run.lenT rfl za) (jb rfl rfl (Bin.lssN _ _) (jO (jN (jv5 0 5 6 7 43 ?_))))))))))))
 refine jD rfl (fun hc2 => ?_) fun hc2 => ?_
 ·
  have hi2 : i < (T.getD 1 tk0).2.length := hc2
  obtain ⟨c0, hc0⟩ : ∃ c0, (T.getD 1 tk0).2[i]? = some c0 := ⟨_, zb hi2⟩
  have hst : ((T.getD 1 tk0).2.take (i + 1)).map tur = ((T.getD 1 tk0).2.take i).map tur ++ [tur c0] := by rw [zbh, hc0]; simp
  have h8 : c0.toNat < 256 := c0.toNat_lt
  refine jQ (jN (jv4 0 5 6 7 ?_))
  refine jS (jB (jS (jR (jm rfl (je (Run.indexS 1 rfl rfl zs zw jo) (jf rfl zas rfl zd (jl rfl zj (hel wr kw 1 _ rfl) (jm rfl (je (Run.indexT _ rfl rfl za hc0) (ja rfl (jO (jN (jv5 0 5 6 7 8 ?_)))))))))))))
  refine jS (jS ?_)
  refine VC.split1 [(0, _), (5, _), (6, _), (7, _), (8, _)] (js5 rfl rfl rfl rfl rfl) 57 (.bool (decide ((97 ≤ c0.toNat) ∧ (c0.toNat ≤ 122)))) ?_ ?_
  ·
   by_cases hs0 : 97 ≤ c0.toNat
   ·
    refine jR (jm rfl (jb rfl rfl (Bin.leqN 97 _) (jM ?_)))
    refine jG ?_
    refine jk (Run.bin rfl rfl (Bin.leqN _ 122)) ?_
    refine jW rfl rfl au (jO ?_)
    refine jN ⟨(js6 (by rw [nU hs0]; rfl) rfl rfl rfl rfl rfl), rfl⟩
   refine jR (jm rfl (jb rfl rfl (Bin.leqN 97 _) (jM ?_)))
   refine jU ?_
   refine jU ?_
   refine jF rfl rfl au (jO ?_)
   refine jN ⟨(js6 (by rw [nB hs0]; rfl) rfl rfl rfl rfl rfl), rfl⟩
  intro Γ hΓ
  refine jN (VC.sub _ hΓ ?_)
  refine VC.meet (σ := Unit) (fun s => [(0, .slice F T.length d), (5, .slice (some ad) T.length d2), (6, encStr (((T.getD 1 tk0).2.take i).map tur)), (7, jI1 i), (8, .int .u8 (((tur c0).toNat : Nat) : Int))]) (fun s wq => wq = wr) ?_ ?_
  ·
   refine jD rfl (fun hc3 => ?_) fun hc3 => ?_
   ·
    refine jR (jm rfl (jb rfl rfl (Bin.sub_u8 _ 32 jo jo) (ja rfl (jO ?_))))
    refine jN ⟨(), (js5 rfl rfl rfl rfl (congrArg (fun k : Nat => some (Value.int .u8 (k : Int))) (show c0.toNat - 32 = (tur c0).toNat by rw [nA]; rw [if_pos hc3]))), ?_⟩
    rfl
   refine jS ?_
   refine VC.split1 [(0, _), (5, _), (6, _), (7, _), (8, _)] (js5 rfl rfl rfl rfl rfl) 65 (.bool (decide ((65 ≤ c0.toNat) ∧ (c0.toNat ≤ 90)))) ?_ ?_
   ·
    by_cases hs0 : 65 ≤ c0.toNat
    ·
     refine jR (jm rfl (jb rfl rfl (Bin.leqN 65 _) (jM ?_)))
     refine jG ?_
     refine jk (Run.bin rfl rfl (Bin.leqN _ 90)) ?_
     refine jW rfl rfl au (jO ?_)
     refine jN ⟨(js6 (by rw [nU hs0]; rfl) rfl rfl rfl rfl rfl), rfl⟩
    refine jR (jm rfl (jb rfl rfl (Bin.leqN 65 _) (jM ?_)))
    refine jU ?_
    refine jU ?_
    refine jF rfl rfl au (jO ?_)
    refine jN ⟨(js6 (by rw [nB hs0]; rfl) rfl rfl rfl rfl rfl), rfl⟩
   intro Γ hΓ
   refine jN (VC.sub _ hΓ ?_)
   refine jD rfl (fun hc4 => ?_) fun hc4 => ?_
   ·
    refine jR (jm rfl (jb rfl rfl (Bin.add_u8 _ 32 jo) (ja rfl (jO ?_))))
    refine jN ⟨(), (js5 rfl rfl rfl rfl (congrArg (fun k : Nat => some (Value.int .u8 (k : Int))) (show c0.toNat + 32 = (tur c0).toNat by rw [nA]; rw [if_neg hc3, if_pos hc4]))), ?_⟩
    rfl
   refine jQ ?_
   refine jN ⟨(), (js5 rfl rfl rfl rfl (congrArg (fun k : Nat => some (Value.int .u8 (k : Int))) (show c0.toNat = (tur c0).toNat by rw [nA]; rw [if_neg hc3, if_neg hc4]))), ?_⟩
   rfl
  rintro _ _ rfl Γ hΓ
  refine jN (VC.sub _ hΓ (jR (jm rfl (jM ?_))))
  refine Ops.m (qH.buildS1 rfl zv zau qKe jd jd rfl rfl) rfl ?_
  rintro _ v3 ⟨rfl, hF3⟩
  have kw := kw.trans hF3.frm jp
  refine je (Run.strOfT rfl zv zal za (show Rd v3 1 _ 1 (U8 [tur c0]) from Rd.of_blk (n := 1) (size := 1) hF3.blk rfl)) (je (Run.addT rfl rfl (by simp; omega)) (ja rfl (jO ?_)))
  refine qS (jN ?_)
  refine jv4 0 5 6 7 ?_
  refine jR (jm rfl (jb rfl rfl (Bin.add_i64 _ 1 jo) (ja rfl (jO ?_))))
  refine jN ⟨(i + 1), (js4 rfl rfl (by rw [hst]; rfl) rfl), ?_, ?_⟩
  · exact ⟨hi2, kw⟩
  exact jq
 refine jX ?_
 refine qV (qV (qC ?_))
 refine jN (jv3 0 5 6 ?_)
 refine jS (jR (jm rfl (jm rfl (je (Run.indexS 1 rfl rfl zs zw jo) ?_))))
 have e : i = (T.getD 1 tk0).2.length := by have : ¬ i < (T.getD 1 tk0).2.length := hc2; omega
 subst e
 have K := K.trans kw jp
 have hO := hO.frm kw jp
 have hO2 := hO2.frm kw jp
 refine jf rfl zas rfl zd ?_
 refine Ops.st (qJ.storeOwn (1 * 2 + 1) (by rw [← Go.Proofs.YtjklfpccmaljjaaGreatDoor.add_add]; rfl) rfl zd hO2 rfl jo rfl) ?_
 rintro w3 ⟨hO2, hf3, hs3⟩
 rw [zbp, qJg h2] at hO2
 have K := K.own hf3 hG'
 have hO := hO.frm hf3 hFG
 refine jO (jN (jv2 0 5 ?_))
 refine jS (jR (jM ?_))
 refine jc (jE1 zed) (mE F T.length d T _ ⟨by first | rfl | exact dB T | exact cA, hO.rd⟩ (by first | omega | (simp only [dB, cA]; omega)) hTm hO.lt (hv.frm0 K) (htb.frm K)) ?_
 rintro _ p1 ⟨kp1, cs1, cd1, rfl, hp1⟩
 refine ⟨_, rfl, ?_⟩
 have K := K.trans kp1 jp
 have hO := hO.frm kp1 jp
 have hO2 := hO2.frm kp1 jp
 refine jm rfl (jY rfl rfl (jY rfl rfl ?_))
 refine Ops.m (qH.alloc eJ) rfl ?_
 rintro _ a1 ⟨rfl, hA1⟩
 obtain ⟨g1, hg1⟩ : ∃ g, g = p1.heap.size := ⟨_, rfl⟩
 have hb1 := hA1.blk
 have hz1 := K.size
 rw [← hg1] at hb1 ⊢
 have K := K.trans hA1.frm jp
 have hp1 := hp1.frm hA1.frm
 have hO := hO.frm hA1.frm jp
 have hO2 := hO2.frm hA1.frm jp
 refine Ops.st (qJ.storeA rfl rfl (fun W => by rw [hp1.cells.1]; exact zba W) hb1 (by rw [hp1.cells.1]; rfl) hp1.cells.2) ?_
 rintro s1 ⟨hd1, hs1, hy1⟩
 have K := K.own hs1 (by simp; omega)
 have hp1 := hp1.blk hb1 hs1
 have l1 := hd1.lt
 have lO := hO.ne_blk hb1 jd
 have lO2 := hO2.ne_blk hb1 jd
 have hO := hO.frm hs1 (fun x hx h => lO (by simp at h; rwa [← h]))
 have hO2 := hO2.frm hs1 (fun x hx h => lO2 (by simp at h; rwa [← h]))
 refine ja rfl (jO (jN (jv4 0 5 9 10 ?_)))
 refine jS (jR (jM ?_))
 refine jc (jE1 zed) (mE (some ad) T.length d2 (gU T) _ ⟨by first | rfl | exact dB T | exact cA, hO2.rd⟩ (by first | omega | (simp only [dB, cA]; omega)) (qZa hTm) hO2.lt (hv.frm0 K) (htb.frm K)) ?_
 rintro _ p2 ⟨kp2, cs2, cd2, rfl, hp2⟩
 refine ⟨_, rfl, ?_⟩
 have K := K.trans kp2 jp
 have hO := hO.frm kp2 jp
 have hd1 := hd1.frm kp2 jp
 have hp1 := hp1.frm kp2
 refine jm rfl (jY rfl rfl (jY rfl rfl ?_))
 refine Ops.m (qH.alloc eJ) rfl ?_
 rintro _ a2 ⟨rfl, hA2⟩
 obtain ⟨g2, hg2⟩ : ∃ g, g = p2.heap.size := ⟨_, rfl⟩
 have hb2 := hA2.blk
 have hz2 := K.size
 rw [← hg2] at hb2 ⊢
 have K := K.trans hA2.frm jp
 have hp2 := hp2.frm hA2.frm
 have hO := hO.frm hA2.frm jp
 have hd1 := hd1.frm hA2.frm jp
 have hp1 := hp1.frm hA2.frm
 refine Ops.st (qJ.storeA rfl rfl (fun W => by rw [hp2.cells.1]; exact zba W) hb2 (by rw [hp2.cells.1]; rfl) hp2.cells.2) ?_
 rintro s2 ⟨hd2, hs2, hy2⟩
 have K := K.own hs2 (by simp; omega)
 have hp2 := hp2.blk hb2 hs2
 have lO := hO.ne_blk hb2 jd
 have hO := hO.frm hs2 (fun x hx h => lO (by simp at h; rwa [← h]))
 have hd1 := hd1.frm hs2 (by have := kp2.size; simp; omega)
 have hp1 := hp1.blk hb2 hs2
 refine ja rfl (jO (jN (jv5 0 9 10 11 12 ?_)))
 refine jS (jR (jM ?_))
 refine jc (jE1 Tryz.call9) (oB F T.length d T s2 ⟨rfl, hO.rd⟩ hO.le (wG hO)) ?_
 rintro _ w5 ⟨H, d3, rfl, hO3, hH, k5⟩
 refine ⟨_, rfl, ?_⟩
 rw [hTT] at hO3 ⊢
 have lF := hO.lt
 have l1 := hd1.lt
 have l2 := hd2.lt
 have hH' : ∀ x ∈ ob H, w.heap.size ≤ x := fun x hx => zr K.size (hH x hx)
 have K := K.trans k5 jp
 have hO := hO.frm k5 jp
 have hd1 := hd1.frm k5 jp
 have hd2 := hd2.frm k5 jp
 have hp1 := hp1.frm k5
 have hp2 := hp2.frm k5
 refine je (Run.build (evs.cons rfl (evs.cons rfl evs.nil)) eK (cO).choose_spec.1 (cO).choose_spec.2 (cells := (tkC (3, [41])).toArray) rfl) ?_
 refine Ops.m (qH.buildS1 rfl zs zw eK jd jd (by simp [Value.cells, tkC]) rfl) rfl ?_
 rintro _ w6 ⟨rfl, hF6⟩
 have hrd : Rd w6 2 (some ⟨w5.heap.size, 0, none⟩) 1 (tkC (3, [41])) := Rd.of_blk (n := 1) (size := 2) hF6.blk rfl
 have hO3 := hO3.frm hF6.frm jp
 have K := K.trans hF6.frm jp
 have hO := hO.frm hF6.frm jp
 have hd1 := hd1.frm hF6.frm jp
 have hd2 := hd2.frm hF6.frm jp
 have hp1 := hp1.frm hF6.frm
 have hp2 := hp2.frm hF6.frm
 refine Ops.m (qH.app rfl rfl zs (sA) rfl jd hO3 hrd (eW _) jo jo) rfl ?_
 rintro _ w7 ⟨H7, d7, rfl, hO7, hf7, hob7⟩
 have K := K.own hf7 hH'
 have hO := hO.frm hf7 (fun x hx h => by have := hH x h; have := lF x hx; omega)
 have hd1 := hd1.frm hf7 (fun h => by have := hH _ h; omega)
 have hd2 := hd2.frm hf7 (fun h => by have := hH _ h; omega)
 have hne6 : w6.heap.size = w5.heap.size + 1 := hF6.size
 have hp1 := hp1.own hf7 hO3
 have hp2 := hp2.own hf7 hO3
 rw [show TC T ++ tkC (3, [41]) = TC (Mo T) from by simp [TC, Mo]] at hO7
 refine jc (jE1 zed) (mE H7 (T.length + 1) d7 (Mo T) _ ⟨by first | rfl | exact dB T | exact cA, hO7.rd⟩ (by first | omega | (simp only [dB, cA]; omega)) (fun x hx => by rcases zee.1 hx with h | h; exact hTm x h; rw [zg] at h; subst h; decide) hO7.lt (hv.frm0 K) (htb.frm K)) ?_
 rintro _ p3 ⟨kp3, cs3, cd3, rfl, hp3⟩
 refine ⟨_, rfl, ?_⟩
 have K := K.trans kp3 jp
 have hO := hO.frm kp3 jp
 have hd1 := hd1.frm kp3 jp
 have hd2 := hd2.frm kp3 jp
 have hp1 := hp1.frm kp3
 have hp2 := hp2.frm kp3
 refine jm rfl (jY rfl rfl (jY rfl rfl ?_))
 refine Ops.m (qH.alloc eJ) rfl ?_
 rintro _ a3 ⟨rfl, hA3⟩
 obtain ⟨g3, hg3⟩ : ∃ g, g = p3.heap.size := ⟨_, rfl⟩
 have hb3 := hA3.blk
 have hz3 := K.size
 rw [← hg3] at hb3 ⊢
 have K := K.trans hA3.frm jp
 have hp3 := hp3.frm hA3.frm
 have hO := hO.frm hA3.frm jp
 have hd1 := hd1.frm hA3.frm jp
 have hd2 := hd2.frm hA3.frm jp
 have hp1 := hp1.frm hA3.frm
 have hp2 := hp2.frm hA3.frm
 refine Ops.st (qJ.storeA rfl rfl (fun W => by rw [hp3.cells.1]; exact zba W) hb3 (by rw [hp3.cells.1]; rfl) hp3.cells.2) ?_
 rintro s3 ⟨hd3, hs3, hy3⟩
 have K := K.own hs3 (by simp; omega)
 have hp3 := hp3.blk hb3 hs3
 have lO := hO.ne_blk hb3 jd
 have hO := hO.frm hs3 (fun x hx h => lO (by simp at h; rwa [← h]))
 have hd1 := hd1.frm hs3 (by have := kp3.size; have := hf7.size; have := hF6.size; have := k5.size; simp; omega)
 have hd2 := hd2.frm hs3 (by have := kp3.size; have := hf7.size; have := hF6.size; have := k5.size; simp; omega)
 have hp1 := hp1.blk hb3 hs3
 have hp2 := hp2.blk hb3 hs3
 have z1 := hp1.cells.1
 have z2 := hp2.cells.1
 have z3 := hp3.cells.1
 obtain ⟨e1, e2⟩ := qX9 h2
 obtain ⟨a0, hA0, he0⟩ := RdT.cell (⟨rfl, hO.rd⟩ : RdT s3 F T.length T) (jo : 0 < T.length)
 subst hA0
 refine ja rfl (jO (jN (jv7 0 9 10 11 12 13 14 ?_)))
 refine jS ?_
 by_cases hby : ∃ v, cE T = some v
 ·
  obtain ⟨v, hv0⟩ := hby
  obtain ⟨e3, e4⟩ := qKb hv0
  unfold PM at hp1 hp2 hp3
  rw [hv0] at hp1
  rw [e1, hv0] at hp2
  rw [e3] at hp3
  obtain ⟨rfl, r1⟩ := hp1
  obtain ⟨rfl, r2⟩ := hp2
  obtain ⟨rfl, rfl⟩ := hp3
  rw [e4, qJk hv0] at hd3
  refine VC.meet (σ := Unit) (fun s => [(2, .bool (decide (True)))]) (fun s wz => Frm [] s3 wz) ?_ ?_
  ·
   refine VC.held (fun W => Frm [] s3 W) jK ?_
   have hS : Frm [] s3 s3.drew := (Frm.refl _ _).drew
   refine jH 0 rfl hS (fun w0 hw0 => Run.loadA (cs := cs1.toList) rfl zcv zba (hd1.frm hw0 jp).cells (by simpa using z1)) ?_
   refine jH 1 rfl hS (fun w0 hw0 => Run.loadA (cs := cs2.toList) rfl zcv zba (hd2.frm hw0 jp).cells (by simpa using z2)) ?_
   refine qQ.cl 2 rfl jK (jE2 Tryz.call12) (lR _ _ v _ (by simpa using r1.frm hS) (by simpa using r2.frm hS)) trivial rfl rfl ?_
   rintro _ u7 ⟨rfl, k7⟩
   have hS := hS.trans k7 jp
   refine ⟨_, rfl, hS, ?_⟩
   refine jh 3 hS ?_
   refine qQ.take 4 rfl jK jK jK hS (fun w0 hw0 => Run.mv rfl) (Up.g rfl (by first | rfl)) rfl rfl ?_
   refine qQ.take 5 rfl jK jK jK hS (fun w0 hw0 => Run.mv rfl) (Up.g rfl (by first | rfl)) rfl rfl ?_
   refine qQ.take 6 rfl jK jK jK hS (fun w0 hw0 => Run.bin rfl rfl (Bin.eqlN _ _)) (Up.g rfl (by first | rfl)) rfl rfl ?_
   refine jH 7 rfl hS (fun w0 hw0 => Run.pickT rfl rfl (by first | rfl)) ?_
   refine jh 8 hS ?_
   refine qQ.take 9 rfl jK jK jK hS (fun w0 hw0 => Run.mv rfl) (Up.g rfl (by first | rfl)) rfl rfl ?_
   refine qQ.take 10 rfl jK jK jK hS (fun w0 hw0 => Run.bin rfl rfl (Bin.neqN _ 0)) (Up.g rfl (by first | rfl)) rfl rfl ?_
   refine qQ.take 11 rfl jK jK jK hS (fun w0 hw0 => Run.mv rfl) (Up.g rfl (by first | rfl)) rfl rfl ?_
   refine qQ.take 12 rfl jK jK jK hS (fun w0 hw0 => Run.mv rfl) (Up.g rfl (by first | rfl)) rfl rfl ?_
   refine qQ.take 13 rfl jK jK jK hS (fun w0 hw0 => Run.bin rfl rfl (Bin.eqlN _ 20)) (Up.g rfl (by first | rfl)) rfl rfl ?_
   refine qQ.take 14 rfl jK jK jK hS (fun w0 hw0 => Run.mv rfl) (Up.g rfl (by first | rfl)) rfl rfl ?_
   refine qQ.take 15 rfl jK jK jK hS (fun w0 hw0 => Run.loadA (cs := (dJ (T.getD 0 tk0).2).toList) rfl zcv zba (hd3.frm hw0 jp).cells rfl) (Up.g rfl (by first | rfl)) rfl rfl ?_
   refine qQ.take 16 rfl jK jK jK hS (fun w0 hw0 => Run.mv rfl) (Up.g rfl (by first | rfl)) rfl rfl ?_
   refine qQ.take 17 rfl jK jK jK hS (fun w0 hw0 => Run.indexS 0 rfl rfl zs zw jo) (Up.g rfl (by first | rfl)) rfl rfl ?_
   refine qQ.take 18 rfl jK jK jK hS (fun w0 hw0 => Run.fieldAddr rfl zas rfl zd jd) (Up.g rfl (by first | rfl)) rfl rfl ?_
   refine qQ.take 19 rfl jK jK jK hS (fun w0 hw0 => Run.load rfl zj (he0 _ hw0 1 _ rfl)) (Up.g rfl (by first | rfl)) rfl rfl ?_
   refine qQ.take 20 rfl jK jK jK hS (fun w0 hw0 => Run.build (evs.cons rfl evs.nil) eJ (eE).choose_spec.1 (eE).choose_spec.2 (cells := dJ (T.getD 0 tk0).2) rfl) (Up.g rfl (by first | rfl)) rfl rfl ?_
   refine qQ.cl 21 rfl jK (jE2 Tryz.call12) (lR _ _ _ _ (by simpa using bR.zero _ (T.getD 0 tk0).2) (bR.zero _ (T.getD 0 tk0).2)) (Up.g rfl (by first | rfl)) rfl rfl ?_
   rintro _ u8 ⟨rfl, k8⟩
   have hS := hS.trans k8 jp
   refine ⟨_, rfl, hS, ?_⟩
   refine qQ.take 22 rfl jK jK jK hS (fun w0 hw0 => Run.pickT rfl rfl (by first | rfl)) (Up.g rfl (by first | rfl)) rfl rfl ?_
   refine qQ.take 23 rfl jK jK jK hS (fun w0 hw0 => Run.pickF rfl rfl (by first | rfl)) (Up.g rfl (by first | rfl)) rfl rfl ?_
   refine jH 24 rfl hS (fun w0 hw0 => Run.pickT rfl rfl (by first | rfl)) ?_
   refine jh 25 hS ?_
   refine qQ.cl 26 rfl jK (jE0 Tryz.call8) (kL _ (hv.frm0 (K.trans hS jp)) (htb.frm (K.trans hS jp))) (Up.g rfl (by first | rfl)) rfl rfl ?_
   rintro _ u9 ⟨rfl, k9⟩
   have hS := hS.trans k9 jp
   refine ⟨_, rfl, hS, ?_⟩
   refine jH 27 rfl hS (fun w0 hw0 => Run.pickT rfl rfl (by first | rfl)) ?_
   refine jH 28 rfl hS (fun w0 hw0 => Run.asg rfl) ?_
   refine qQ.done jK ?_
   refine jN ⟨(), (js1 (jC jp)), ?_⟩
   exact hS
  rintro _ wz hfz Γ hΓ
  refine jN (VC.sub _ hΓ ?_)
  refine jT ?_
  refine qD rfl ?_
  exact ⟨rfl, K.trans hfz jp⟩
 have hn0 : cE T = none := by
  cases h : cE T with
  | none => rfl
  | some v => exact absurd ⟨v, h⟩ hby
 unfold PM at hp1 hp2
 rw [hn0] at hp1
 rw [e1, hn0, e2] at hp2
 obtain ⟨rfl, rfl⟩ := hp1
 obtain ⟨rfl, rfl⟩ := hp2
 refine VC.meet (σ := Unit) (fun s => [(2, .bool (decide (True)))]) (fun s wz => Frm [] s3 wz) ?_ ?_
 ·
  refine VC.held (fun W => Frm [] s3 W) jK ?_
  have hS : Frm [] s3 s3.drew := (Frm.refl _ _).drew
  refine jH 0 rfl hS (fun w0 hw0 => Run.loadA (cs := (dJ (bW T)).toList) rfl zcv zba (hd1.frm hw0 jp).cells rfl) ?_
  refine jH 1 rfl hS (fun w0 hw0 => Run.loadA (cs := (dJ (bW T)).toList) rfl zcv zba (hd2.frm hw0 jp).cells rfl) ?_
  refine qQ.cl 2 rfl jK (jE2 Tryz.call12) (lR _ _ _ _ (by simpa using bR.zero _ (bW T)) (by simpa using bR.zero _ (bW T))) trivial rfl rfl ?_
  rintro _ u7 ⟨rfl, k7⟩
  have hS := hS.trans k7 jp
  refine ⟨_, rfl, hS, ?_⟩
  refine jh 3 hS ?_
  refine qQ.take 4 rfl jK jK jK hS (fun w0 hw0 => Run.mv rfl) (Up.g rfl (by first | rfl)) rfl rfl ?_
  refine qQ.take 5 rfl jK jK jK hS (fun w0 hw0 => Run.mv rfl) (Up.g rfl (by first | rfl)) rfl rfl ?_
  refine qQ.take 6 rfl jK jK jK hS (fun w0 hw0 => Run.bin rfl rfl (Bin.eqlN _ _)) (Up.g rfl (by first | rfl)) rfl rfl ?_
  refine jH 7 rfl hS (fun w0 hw0 => Run.pickT rfl rfl (by first | rfl)) ?_
  refine jh 8 hS ?_
  refine qQ.take 9 rfl jK jK jK hS (fun w0 hw0 => Run.mv rfl) (Up.g rfl (by first | rfl)) rfl rfl ?_
  refine qQ.take 10 rfl jK jK jK hS (fun w0 hw0 => Run.bin rfl rfl (Bin.neqN _ 0)) (Up.g rfl (by first | rfl)) rfl rfl ?_
  refine qQ.take 11 rfl jK jK jK hS (fun w0 hw0 => Run.mv rfl) (Up.g rfl (by first | rfl)) rfl rfl ?_
  refine qQ.skip 12 rfl jK jK jK hS rfl rfl (by first | rfl) rfl rfl ?_
  refine qQ.skip 13 rfl jK jK jK hS rfl rfl (by first | rfl) rfl rfl ?_
  refine qQ.skip 14 rfl jK jK jK hS rfl rfl (by first | rfl) rfl rfl ?_
  refine qQ.skU 15 rfl jK jK jK hS rfl rfl rfl rfl ?_
  refine qQ.skU 16 rfl jK jK jK hS rfl rfl rfl rfl ?_
  refine qQ.skU 17 rfl jK jK jK hS rfl rfl rfl rfl ?_
  refine qQ.skU 18 rfl jK jK jK hS rfl rfl rfl rfl ?_
  refine qQ.skU 19 rfl jK jK jK hS rfl rfl rfl rfl ?_
  refine qQ.skU 20 rfl jK jK jK hS rfl rfl rfl rfl ?_
  refine qQ.skU 21 rfl jK jK jK hS rfl rfl rfl rfl ?_
  refine qQ.skip 22 rfl jK jK jK hS rfl rfl (by first | rfl) rfl rfl ?_
  refine qQ.take 23 rfl jK jK jK hS (fun w0 hw0 => Run.pickT rfl rfl (by first | rfl)) (Up.g rfl (by first | rfl)) rfl rfl ?_
  refine jH 24 rfl hS (fun w0 hw0 => Run.pickT rfl rfl (by first | rfl)) ?_
  refine jh 25 hS ?_
  refine qQ.cl 26 rfl jK (jE0 Tryz.call8) (kL _ (hv.frm0 (K.trans hS jp)) (htb.frm (K.trans hS jp))) (Up.g rfl (by first | rfl)) rfl rfl ?_
  rintro _ u9 ⟨rfl, k9⟩
  have hS := hS.trans k9 jp
  refine ⟨_, rfl, hS, ?_⟩
  refine jH 27 rfl hS (fun w0 hw0 => Run.pickT rfl rfl (by first | rfl)) ?_
  refine jH 28 rfl hS (fun w0 hw0 => Run.asg rfl) ?_
  refine qQ.done jK ?_
  refine jN ⟨(), (js1 (jC jp)), ?_⟩
  exact hS
 rintro _ wz hfz Γ hΓ
 refine jN (VC.sub _ hΓ ?_)
 refine jT ?_
 refine qD rfl ?_
 exact ⟨rfl, K.trans hfz jp⟩
end
end Go.Proofs.YtjklfpccmaljjaaGreatDoor
