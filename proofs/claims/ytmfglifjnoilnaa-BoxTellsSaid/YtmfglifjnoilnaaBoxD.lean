/-
  The walk of box: messages thinned out.
-/
import Derived.Test.YtmfglifjnoilnaaBoxG
namespace Go.Proofs.Ytmfglifjnoilnaa
open Go.RowKit Go.Sort

theorem OwM.set {w w' : World} {A : Option Addr} {d i : Nat} {l : List Mc} {x : Mc} (h : OwM w A d l) (ho : Own w' 45 6 A l.length d (MC (l.set i x))) (k : Frm (ob A) w w') (hx : Own w 9 1 x.A x.m.flags.length x.c (SB x.m.flags)) (hf : x.m.flags.length ≤ 500000 ∧ ∀ q ∈ x.m.flags, q.length ≤ 1000000) : OwM w' A d (l.set i x) := by
  refine ⟨by rw [List.length_set]; exact ho, fun y hy => ?_, fun y hy => ?_⟩
  · rcases List.mem_or_eq_of_mem_set hy with h1 | h1
    · exact (h.fl y h1).frm k ((h.fl y h1).ne_own h.own (by decide))
    · subst h1; exact hx.frm k (hx.ne_own h.own (by decide))
  · rcases List.mem_or_eq_of_mem_set hy with h1 | h1
    · exact h.fit y h1
    · subst h1; exact hf
theorem thin_keep {q : Mc → Bool} {l cur : List Mc} {i j : Nat} (hj : j < l.length) (hlen : cur.length = l.length) (h1 : cur.take i = (l.take j).filter q) (h2 : cur.drop j = l.drop j) (hij : i < j) (hx : q l[j] = true) :
    (cur.set i l[j]).take (i + 1) = (l.take (j + 1)).filter q ∧ (cur.set i l[j]).drop (j + 1) = l.drop (j + 1) := by
  constructor
  · rw [List.take_add_one, List.take_add_one, List.take_set, List.set_eq_of_length_le (by simp; omega), h1, List.filter_append, List.getElem?_set_self (by omega), List.getElem?_eq_getElem hj]
    simp [hx]
  · rw [List.drop_set, if_pos (by omega)]
    have := congrArg (List.drop 1) h2
    simpa [List.drop_drop] using this
theorem thin_skip {q : Mc → Bool} {l cur : List Mc} {i j : Nat} (hj : j < l.length) (h1 : cur.take i = (l.take j).filter q) (h2 : cur.drop j = l.drop j) (hx : q l[j] = false) :
    cur.take i = (l.take (j + 1)).filter q ∧ cur.drop (j + 1) = l.drop (j + 1) := by
  constructor
  · rw [List.take_add_one, List.filter_append, ← h1, List.getElem?_eq_getElem hj]
    simp [hx]
  · have := congrArg (List.drop 1) h2
    simpa [List.drop_drop] using this
theorem thin_get {l cur : List Mc} {j : Nat} (hj : j < l.length) (hj' : j < cur.length) (h2 : cur.drop j = l.drop j) : cur[j] = l[j] := by
  have := congrArg List.head? h2
  simpa [List.head?_drop, List.getElem?_eq_getElem hj, List.getElem?_eq_getElem hj'] using this

set_option maxRecDepth 100000 in
theorem delM_spec (f : FuncId) (us : List Value) (p : MsgP → Bool) (B : Option Addr) (d : Nat) (l : List Mc) (w : World) (hl : OwM w B d l) (hn : l.length ≤ 1000000) (hp : TestM (ob B) w f us p) :
    Calls Try.prog 29 #[.slice B l.length d, .func (.func f) #[] us.toArray] w fun e w' => e = .returned (.slice B (l.filter fun x => !p x.m).length d) ∧ OwM w' B d (l.filter fun x => !p x.m) ∧ Frm (ob B) w w' := by
  refine VC.calls (nt := 42) (res := #[.tmp 4]) Try.func29 rfl Try.ntmps29 Try.results29 rfl ?_
  refine VC.seq ?_
  refine VC.region ?_
  refine Ops.r (Run.asg rfl) rfl ?_
  refine Ops.nil ?_
  refine thenQ_n ?_
  refine VC.sub [(0, _), (1, _)] (.cons rfl (.cons rfl .nil)) ?_
  refine VC.seq ?_
  refine VC.region ?_
  refine Ops.r (Run.mv rfl) rfl ?_
  refine Ops.r (Run.mv rfl) rfl ?_
  refine Ops.cl (Enters.fn (evs.cons rfl (evs.cons rfl evs.nil)) Try.call46) (indexM_spec f us p B d l _ hl.rdm hn (ob B) hp) rfl ?_
  rintro e w1 ⟨hf1, k, hk1, hk2⟩
  obtain ⟨z, rfl, hz⟩ : ∃ z : Int, e = .returned (.int .i64 z) ∧ ((z = -1 ∧ k = l.length) ∨ (z = ((k : Nat) : Int) ∧ ∃ hk : k < l.length, p (l[k]).m = true)) := by
    rcases hk2 with ⟨h1, h2⟩ | ⟨h1, h2, h3⟩
    · exact ⟨_, h2, .inl ⟨rfl, h1⟩⟩
    · exact ⟨_, h3, .inr ⟨rfl, h1, h2⟩⟩
  refine ⟨_, rfl, ?_⟩
  refine Ops.r (Run.asg rfl) rfl ?_
  refine Ops.nil ?_
  refine thenQ_n ?_
  refine VC.sub [(0, _), (1, _), (5, _)] (.cons rfl (.cons rfl (.cons rfl .nil))) ?_
  refine VC.seq ?_
  refine VC.seq ?_
  refine VC.region ?_
  refine Ops.r (Run.mv rfl) rfl ?_
  refine Ops.r (Run.bin rfl rfl (Bin.eql _ (-1))) rfl ?_
  refine Ops.nil ?_
  refine thenQ_n ?_
  refine VC.sub [(0, _), (1, _), (5, _), (12, _)] (.cons rfl (.cons rfl (.cons rfl (.cons rfl .nil)))) ?_
  refine VC.condD rfl (fun hc1 => ?_) (fun hc1 => ?_)
  · skip
    have hkl : k = l.length := by omega
    have hall : l.filter (fun x => !p x.m) = l := List.filter_eq_self.2 fun x hx => by
      obtain ⟨j, hj, rfl⟩ := List.getElem_of_mem hx
      simp [hk1 j hj (by omega)]
    refine VC.seq ?_
    refine VC.region ?_
    refine Ops.r (Run.mv rfl) rfl ?_
    refine Ops.r (Run.asg rfl) rfl ?_
    refine Ops.nil ?_
    refine thenQ_n ?_
    refine VC.sub [(4, _)] (.cons rfl .nil) ?_
    refine VC.ret ?_
    refine thenQ_r (end1 rfl ?_)
    rw [hall]
    exact ⟨rfl, hl.frm hf1, hf1.mono (by simp)⟩
  · skip
    obtain ⟨rfl, hkl, hkp⟩ : z = ((k : Nat) : Int) ∧ ∃ hk : k < l.length, p (l[k]).m = true := by
      rcases hz with ⟨h1, _⟩ | ⟨h1, h2⟩
      · exact absurd h1 hc1
      · exact ⟨h1, h2⟩
    obtain ⟨g, rfl⟩ : ∃ g, B = some ⟨g, 0, none⟩ := by
      rcases hl.own.cases with ⟨_, h0, _⟩ | ⟨g, _, h0, _⟩
      · omega
      · exact ⟨g, h0⟩
    have hob : ob (some (⟨g, 0, none⟩ : Addr)) = [g] := rfl
    have hgw := hl.own.lt g (by simp [ob])
    have hled := hl.own.le
    refine VC.skip ?_
    refine thenQ_n ?_
    refine VC.sub [(0, _), (1, _), (5, _)] (.cons rfl (.cons rfl (.cons rfl .nil))) ?_
    refine VC.seq ?_
    refine VC.seq ?_
    refine VC.region ?_
    refine Ops.r (Run.mv rfl) rfl ?_
    refine Ops.r (Run.bin rfl rfl (Bin.addZ _ 1 (by omega) (by omega))) rfl ?_
    refine Ops.r (Run.asg rfl) rfl ?_
    refine Ops.nil ?_
    refine thenQ_n ?_
    refine VC.sub [(0, _), (1, _), (5, _), (6, _)] (.cons rfl (.cons rfl (.cons rfl (.cons rfl .nil)))) ?_
    refine VC.block ?_
    refine VC.loop (σ := Nat × Nat × List Mc) (fun s => [(0, .slice (some ⟨g, 0, none⟩) l.length d), (1, .func (.func f) #[] us.toArray), (5, .int .i64 ((s.1 : Nat) : Int)), (6, .int .i64 ((s.2.1 : Nat) : Int))]) (fun s wr => s.1 < s.2.1 ∧ s.2.1 ≤ l.length ∧ s.2.2.length = l.length ∧ OwM wr (some ⟨g, 0, none⟩) d s.2.2 ∧ s.2.2.take s.1 = (l.take s.2.1).filter (fun x => !p x.m) ∧ s.2.2.drop s.2.1 = l.drop s.2.1 ∧ Frm [g] w wr) (fun s => l.length - s.2.1) (k, k + 1, l) (.cons rfl (.cons rfl (.cons rfl (.cons rfl .nil)))) ⟨by dsimp only; omega, hkl, rfl, hl.frm hf1, by
      dsimp only
      rw [List.take_add_one, List.filter_append, List.getElem?_eq_getElem hkl]
      rw [List.filter_eq_self.2 (fun x hx => by
        obtain ⟨j, hj, rfl⟩ := List.getElem_of_mem hx
        have hj2 : j < k := by simpa [Nat.min_eq_left (Nat.le_of_lt hkl)] using hj
        simp [hk1 j (by omega) hj2])]
      simp [hkp], rfl, hf1.mono (by simp)⟩ ?_
    rintro ⟨i, j, cur⟩ wr ⟨hij, hjl, hlen, hown, ht1, ht2, hfr⟩
    dsimp only at hij hjl hlen hown ht1 ht2 ⊢
    refine VC.seq ?_
    refine VC.seq ?_
    refine VC.region ?_
    refine Ops.r (Run.mv rfl) rfl ?_
    refine Ops.r (Run.mv rfl) rfl ?_
    refine Ops.r (Run.lenS rfl Try.underlying22) rfl ?_
    refine Ops.r (Run.bin rfl rfl (Bin.lssN _ _)) rfl ?_
    refine Ops.nil ?_
    refine thenQ_n ?_
    refine VC.sub [(0, _), (1, _), (5, _), (6, _), (19, _)] (.cons rfl (.cons rfl (.cons rfl (.cons rfl (.cons rfl .nil))))) ?_
    refine VC.condD rfl (fun hc2 => ?_) (fun hc2 => ?_)
    · skip
      have hjc : j < cur.length := by omega
      obtain ⟨ad, had, hcell⟩ := hown.rdm.elem hjc
      injection had with had
      subst had
      have hxa := hown.rdm.fl (cur[j]) (List.getElem_mem hjc)
      have hxo := hown.fl (cur[j]) (List.getElem_mem hjc)
      have hxf := hown.fit (cur[j]) (List.getElem_mem hjc)
      have hcl := thin_get hc2 hjc ht2
      generalize hx : cur[j] = x at *
      refine VC.skip ?_
      refine thenQ_n ?_
      refine VC.sub [(0, _), (1, _), (5, _), (6, _)] (.cons rfl (.cons rfl (.cons rfl (.cons rfl .nil)))) ?_
      refine VC.seq ?_
      refine VC.block ?_
      refine VC.seq ?_
      refine VC.region ?_
      refine Ops.r (Run.mv rfl) rfl ?_
      refine Ops.r (Run.mv rfl) rfl ?_
      refine Ops.r (Run.indexS j rfl rfl Try.underlying22 Try.sizeOf45 hc2) rfl ?_
      refine Ops.r (Run.loadA rfl Try.isAgg45 Try.sizeOf45 hcell (by first | rfl | (simp; done))) rfl ?_
      refine Ops.m (Does.alloc zero45) rfl ?_
      rintro _ w2 ⟨rfl, hF2⟩
      have hb2 := hF2.blk
      have hf2 := hF2.frm
      have hsz2 : wr.heap.size ≤ wr.heap.size := Nat.le_refl _
      have hfs := hfr.size
      generalize hg2 : wr.heap.size = g2 at hb2 hsz2 hfs ⊢
      refine Ops.st (Acts.storeA rfl rfl Try.sizeOf45 hb2 rfl x.cells_one) ?_
      rintro w3 ⟨hb3, hf3, hs3⟩
      have hfr3 : Frm [] wr w3 := hf2.own hf3 (fun y hy => by simp at hy; omega)
      refine Ops.nil ?_
      refine thenQ_n ?_
      refine VC.sub [(0, _), (1, _), (5, _), (6, _), (7, _)] (.cons rfl (.cons rfl (.cons rfl (.cons rfl (.cons rfl .nil))))) ?_
      refine VC.seq ?_
      refine VC.region ?_
      refine Ops.r (Run.mv rfl) rfl ?_
      refine Ops.r (Run.loadA rfl Try.isAgg45 Try.sizeOf45 (fun j v hj => hb3.cells j v hj) (by first | rfl | (simp; done))) rfl ?_
      refine Ops.cl (Enters.dyn rfl (evs.cons rfl evs.nil) hp.1) (hp.2 _ x (hfr.trans hfr3 (by simp)) (hxa.frm hfr3 (by simp))) rfl ?_
      rintro e w4 ⟨rfl, hf4⟩
      refine ⟨_, rfl, ?_⟩
      have hfr4 := hfr3.trans hf4 (by simp)
      have hown4 := hown.frm hfr4
      have hxo4 := hxo.frm hfr4 (by simp)
      have hb34 := hb3.frm hf4 (by simp)
      refine Ops.r (Run.not rfl) rfl ?_
      refine Ops.nil ?_
      refine thenQ_n ?_
      refine VC.sub [(0, _), (1, _), (5, _), (6, _), (7, _), (29, _)] (.cons rfl (.cons rfl (.cons rfl (.cons rfl (.cons rfl (.cons rfl .nil)))))) ?_
      refine VC.condB rfl (fun hc3 => ?_) (fun hc3 => ?_)
      · skip
        refine VC.seq ?_
        refine VC.region ?_
        refine Ops.r (Run.mv rfl) rfl ?_
        refine Ops.r (Run.mv rfl) rfl ?_
        refine Ops.r (Run.loadA rfl Try.isAgg45 Try.sizeOf45 (fun j v hj => hb34.cells j v hj) (by first | rfl | (simp; done))) rfl ?_
        refine Ops.r (Run.indexS i rfl rfl Try.underlying22 Try.sizeOf45 (by omega)) rfl ?_
        refine Ops.st (Acts.storeOwnA Mc.cells x i rfl rfl Try.sizeOf45 Mc.cells_len rfl hown4.own rfl (by omega) x.cells_one) ?_
        rintro w5 ⟨hown5, hf5, hs5⟩
        have hM5 := hown4.set hown5 hf5 hxo4 hxf
        have hfr5 : Frm [g] w w5 := (hfr.trans hfr4 (by simp)).trans hf5 (by simp [ob])
        refine Ops.nil ?_
        refine thenQ_n ?_
        refine VC.sub [(0, _), (1, _), (5, _), (6, _)] (.cons rfl (.cons rfl (.cons rfl (.cons rfl .nil)))) ?_
        refine VC.region ?_
        refine Ops.r (Run.mv rfl) rfl ?_
        refine Ops.r (Run.bin rfl rfl (Bin.add_i64 _ 1 (by omega))) rfl ?_
        refine Ops.r (Run.asg rfl) rfl ?_
        refine Ops.nil ?_
        refine blockQ_n (thenQ_n ?_)
        refine VC.sub [(0, _), (1, _), (5, _), (6, _)] (.cons rfl (.cons rfl (.cons rfl (.cons rfl .nil)))) ?_
        refine VC.region ?_
        refine Ops.r (Run.mv rfl) rfl ?_
        refine Ops.r (Run.bin rfl rfl (Bin.add_i64 _ 1 (by omega))) rfl ?_
        refine Ops.r (Run.asg rfl) rfl ?_
        refine Ops.nil ?_
        refine thenQ_n ⟨(i + 1, j + 1, cur.set i x), (.cons rfl (.cons rfl (.cons rfl (.cons rfl .nil)))), ?_, ?_⟩
        · skip
          have hq : (fun x : Mc => !p x.m) (l[j]) = true := by rw [← hcl]; simpa using hc3
          have hk := thin_keep (q := fun x => !p x.m) hc2 hlen ht1 ht2 hij hq
          rw [← hcl] at hk
          exact ⟨by dsimp only; omega, hc2, by simpa using hlen, hM5, hk.1, hk.2, hfr5⟩
        · skip
          first | omega | (dsimp only; omega)
      · skip
        refine VC.skip ?_
        refine blockQ_n (thenQ_n ?_)
        refine VC.sub [(0, _), (1, _), (5, _), (6, _)] (.cons rfl (.cons rfl (.cons rfl (.cons rfl .nil)))) ?_
        refine VC.region ?_
        refine Ops.r (Run.mv rfl) rfl ?_
        refine Ops.r (Run.bin rfl rfl (Bin.add_i64 _ 1 (by omega))) rfl ?_
        refine Ops.r (Run.asg rfl) rfl ?_
        refine Ops.nil ?_
        refine thenQ_n ⟨(i, j + 1, cur), (.cons rfl (.cons rfl (.cons rfl (.cons rfl .nil)))), ?_, ?_⟩
        · skip
          have hq : (fun x : Mc => !p x.m) (l[j]) = false := by rw [← hcl]; simpa using hc3
          have hk := thin_skip (q := fun x => !p x.m) hc2 ht1 ht2 hq
          exact ⟨by dsimp only; omega, hc2, hlen, hown4, hk.1, hk.2, hfr.trans hfr4 (by simp)⟩
        · skip
          first | omega | (dsimp only; omega)
    · skip
      refine VC.exit ?_
      refine thenQ_x (thenQ_x (blockQ_x ?_))
      refine thenQ_n ?_
      refine VC.sub [(0, _), (5, _)] (.cons rfl (.cons rfl .nil)) ?_
      refine VC.seq ?_
      refine VC.region ?_
      refine Ops.r (Run.mv rfl) rfl ?_
      refine Ops.r (Run.mv rfl) rfl ?_
      refine Ops.r (Run.sliceS _ _ rfl Try.underlying22 Try.sizeOf45 (evB.some_ rfl) evB.none_ (by omega) (by omega)) rfl ?_
      have hjl2 : j = l.length := by omega
      subst hjl2
      rw [List.take_length] at ht1
      have hli : (l.filter fun x => !p x.m).length = i := by rw [← ht1, List.length_take]; omega
      have hfl : (l.filter fun x => !p x.m).length ≤ l.length := List.length_filter_le _ _
      refine Ops.m0 (Does.clearCut (m := l.length) (size := 6) rfl Try.underlying22 zero45 rfl (by decide) (by have h := hown.own; rw [hlen] at h; exact h) (by omega)) ?_
      rintro _ w6 ⟨hown6, hf6⟩
      have hMC : (MC cur).take (i * 6) = MC (l.filter fun x => !p x.m) := by
        rw [← ht1]
        have e1 : MC cur = MC (cur.take i) ++ MC (cur.drop i) := by rw [← MC_append, List.take_append_drop]
        have e2 : (MC (cur.take i)).length = i * 6 := by rw [MC_len, List.length_take]; congr 1; omega
        rw [e1, List.take_append_of_le_length (by omega), List.take_of_length_le (by omega)]
      rw [hMC] at hown6
      have hM6 : OwM w6 (some ⟨g, 0, none⟩) d (l.filter fun x => !p x.m) := by
        refine ⟨by rw [hli]; exact hown6, fun y hy => ?_, fun y hy => ?_⟩
        · have hyc : y ∈ cur := List.mem_of_mem_take (ht1 ▸ hy)
          exact (hown.fl y hyc).frm hf6 ((hown.fl y hyc).ne_own hown.own (by decide))
        · exact hown.fit y (List.mem_of_mem_take (ht1 ▸ hy))
      refine Ops.nil ?_
      refine thenQ_n ?_
      refine VC.sub [(0, _), (5, _)] (.cons rfl (.cons rfl .nil)) ?_
      refine VC.seq ?_
      refine VC.region ?_
      refine Ops.r (Run.mv rfl) rfl ?_
      refine Ops.r (Run.mv rfl) rfl ?_
      refine Ops.r (Run.sliceS 0 _ rfl Try.underlying22 Try.sizeOf45 evB.none_ (evB.some_ rfl) (by omega) (by omega)) rfl ?_
      refine Ops.r (Run.asg rfl) rfl ?_
      refine Ops.nil ?_
      refine thenQ_n ?_
      refine VC.sub [(4, _)] (.cons rfl .nil) ?_
      refine VC.ret ?_
      refine end1 rfl ?_
      rw [hli]
      refine ⟨?_, hM6, hfr.trans hf6 (by simp [ob])⟩
      rw [cutA0]
      rfl

end Go.Proofs.Ytmfglifjnoilnaa
