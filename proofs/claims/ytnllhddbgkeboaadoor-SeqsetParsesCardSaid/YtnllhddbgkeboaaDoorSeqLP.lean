/-
  'SeqsetParses': whatever text there is has the document's spans, or is refused; any spans' text is the document's, and is parsed as it was.
-/
import Derived.Test.YtnllhddbgkeboaaDoorSeqX
import Derived.Test.YtnllhddbgkeboaaDoorSeqO
namespace Go.Proofs.YtnllhddbgkeboaaDoor
open Go.RowKit Go.Sort

theorem u8_of {n : Nat} (h : n < 10) : (UInt8.ofNat (48 + n)).toNat = 48 + n := by
  rw [UInt8.toNat_ofNat', Nat.mod_eq_of_lt (by omega)]
theorem dec_facts : ∀ n : Nat, (∀ x ∈ Lib.decDigits n, Dig x) ∧ decN 0 (Lib.decDigits n) = n ∧ Lib.decDigits n ≠ [] ∧ (0 < n → (Lib.decDigits n).head? ≠ some 48) := by
  intro n
  induction n using Nat.strongRecOn with
  | ind n ih =>
    by_cases h : n < 10
    · rw [dec_lt h]
      have hu := u8_of h
      refine ⟨?_, ?_, by simp, fun h0 => ?_⟩
      · intro x hx
        simp only [List.mem_singleton] at hx
        subst hx
        exact ⟨by omega, by omega⟩
      · show 10 * 0 + ((UInt8.ofNat (48 + n)).toNat - 48) = n
        omega
      · simp only [List.head?_cons, ne_eq, Option.some.injEq]
        intro h2
        have := congrArg UInt8.toNat h2
        rw [hu] at this
        have h48 : (48 : UInt8).toNat = 48 := rfl
        omega
    · obtain ⟨h1, h2, h3, h4⟩ := ih (n / 10) (by omega)
      have hm : n % 10 < 10 := Nat.mod_lt _ (by decide)
      rw [dec_ge h, dec_lt hm]
      have hu := u8_of hm
      refine ⟨?_, ?_, by simp, fun _ => ?_⟩
      · intro x hx
        rcases List.mem_append.1 hx with hx | hx
        · exact h1 x hx
        · simp only [List.mem_singleton] at hx
          subst hx
          exact ⟨by omega, by omega⟩
      · rw [decN_snoc, h2, hu]
        omega
      · rw [List.head?_append]
        have h5 := h4 (by omega)
        cases hd : (Lib.decDigits (n / 10)).head? with
        | none => exact absurd (List.head?_eq_none_iff.1 hd) h3
        | some y => rw [hd] at h5; simpa using h5
theorem num_sign {n : Int} (h0 : 0 ≤ n) (h : n ≤ 2147483647) : numQ (signQ n) = n := by
  have hl := sign_len h0 h
  unfold signQ at hl ⊢
  by_cases hz : n = 0
  · rw [if_pos hz, hz]; exact numQ_star
  · rw [if_neg hz] at hl ⊢
    have e : Lib.itoa n = Lib.decDigits n.toNat := by unfold Lib.itoa; rw [if_neg (by omega)]
    rw [e] at hl ⊢
    obtain ⟨h1, h2, h3, h4⟩ := dec_facts n.toNat
    have h5 := h4 (by omega)
    have hns : Lib.decDigits n.toNat ≠ [42] := fun hh => by rw [hh] at h1; exact absurd (h1 42 (by simp)) (by decide)
    rw [numQ_of hns (by rintro (hh | hh | hh); exact h3 hh; omega; exact h5 hh), if_pos ⟨h1, by rw [h2]; omega⟩, h2]
    omega
theorem sign_no {n : Int} (h0 : 0 ≤ n) {c : UInt8} (hc : ¬ Dig c) (hc2 : c ≠ 42) : c ∉ signQ n := by
  unfold signQ
  by_cases hz : n = 0
  · rw [if_pos hz]; simpa using hc2
  · rw [if_neg hz]
    have e : Lib.itoa n = Lib.decDigits n.toNat := by unfold Lib.itoa; rw [if_neg (by omega)]
    rw [e]
    exact fun hm => hc ((dec_facts n.toNat).1 c hm)
theorem word_no {x : Sp} (h : ¬ BadT x) : (44 : UInt8) ∉ wordQ x := by
  unfold BadT at h
  unfold wordQ
  rw [List.mem_append]
  rintro (hm | hm)
  · exact sign_no (n := x.1) (by omega) (by decide) (by decide) hm
  · split at hm
    · cases hm
    · rcases List.mem_cons.1 hm with hm | hm
      · exact absurd hm (by decide)
      · exact sign_no (n := x.2) (by omega) (by decide) (by decide) hm
theorem span_word {x : Sp} (h : ¬ BadT x) : spanQ (wordQ x) = x := by
  obtain ⟨a, b⟩ := x
  unfold BadT at h
  dsimp only at h
  have hna : (58 : UInt8) ∉ signQ a := sign_no (by omega) (by decide) (by decide)
  have h1 := num_sign (n := a) (by omega) (by omega)
  have h2 := num_sign (n := b) (by omega) (by omega)
  unfold wordQ
  dsimp only
  by_cases hab : a = b
  · rw [if_pos hab, List.append_nil]
    unfold spanQ
    rw [if_neg hna, (bef_no hna).1, h1, hab]
  · rw [if_neg hab]
    unfold spanQ
    rw [if_pos (by simp), (bef_at hna).1, (bef_at hna).2, h1, h2]
theorem split_join : ∀ {ws : List Tx}, ws ≠ [] → (∀ t ∈ ws, (44 : UInt8) ∉ t) → splitF 44 (Lib.join ws [44]) = ws
  | [], h, _ => absurd rfl h
  | [x], _, h => by
    have e : Lib.join [x] [44] = x := by simp [Lib.join]
    rw [e]
    exact split_no (h x (by simp))
  | x :: y :: r, _, h => by
    have e : Lib.join (x :: y :: r) [44] = x ++ 44 :: Lib.join (y :: r) [44] := by simp [Lib.join]
    rw [e, split_at (h x (by simp)), split_join (by simp) (fun t ht => h t (by simp [ht]))]
theorem round_trip {l : List Sp} (hn : l.length ≤ 64) (hg : ∀ x ∈ l, ¬ BadT x) (h0 : l ≠ []) : parseQ (jnQ l) = l ∧ perr (jnQ l) = 0 := by
  have hs : splitF 44 (jnQ l) = l.map wordQ := by
    unfold jnQ
    exact split_join (by simpa using h0) (fun t ht => by obtain ⟨x, hx, rfl⟩ := List.mem_map.1 ht; exact word_no (hg x hx))
  have hsp : (l.map wordQ).map spanQ = l := by
    rw [List.map_map]
    exact (List.map_congr_left (fun x hx => span_word (hg x hx))).trans (List.map_id l)
  have hok : ParseOk (jnQ l) := by
    unfold ParseOk
    rw [hs]
    refine ⟨fun t ht => ?_, by simpa using hn⟩
    obtain ⟨x, hx, rfl⟩ := List.mem_map.1 ht
    have := hg x hx
    unfold BadT at this
    unfold GoodW
    rw [span_word (hg x hx)]
    omega
  obtain ⟨h1, h2⟩ := parse_good hok
  rw [h1, hs, hsp]
  exact ⟨rfl, h2⟩
theorem tell_back {l : List Sp} (h : tellQ l ≠ []) : parseQ (tellQ l) = l ∧ perr (tellQ l) = 0 ∧ (tellQ l).length ≤ 1408 := by
  by_cases hb : 64 < l.length ∨ ∃ x ∈ l, BadT x
  · exact absurd (tellQ_bad hb) h
  · have hn : l.length ≤ 64 := by have : ¬ 64 < l.length := fun h => hb (.inl h); omega
    have hg : ∀ x ∈ l, ¬ BadT x := fun x hx hbx => hb (.inr ⟨x, hx, hbx⟩)
    rw [tellQ_good hn hg] at h ⊢
    have h0 : l ≠ [] := fun h1 => h (by subst h1; simp [jnQ, Lib.join])
    have h5 := jn_len l hg l.length (Nat.le_refl _)
    rw [List.take_length] at h5
    exact ⟨(round_trip hn hg h0).1, (round_trip hn hg h0).2, by omega⟩
theorem few66_le (l : List Sp) : (few66 l).length ≤ 66 := by unfold few66; simp; omega
theorem parse_len (q : Tx) : (parseQ q).length ≤ 64 := by
  unfold parseQ
  split
  · rename_i h; rw [List.length_map]; exact h.2
  · simp

set_option maxRecDepth 100000 in
theorem parses_walk (q : Tx) (A : Option Addr) (c : Nat) (l : List Sp) (w : World) (ht : Tab w) (hc : l.length ≤ c) (hl : Rd w 2 A l.length (SC l)) :
    Calls Tryd.prog 10 #[encStr q, .slice A l.length c] w fun e w' => e = .returned (.bool true) ∧ Frm [] w w' := by
  refine VC.calls (nt := 64) (res := #[.tmp 4]) Tryd.func10 rfl Tryd.ntmps10 Tryd.results10 rfl ?_
  refine VC.seq ?_
  refine VC.region ?_
  refine Ops.r (Run.asg rfl) rfl ?_
  refine Ops.nil ?_
  refine thenQ_n ?_
  refine VC.sub [(0, _), (1, _)] (.cons rfl (.cons rfl .nil)) ?_
  refine VC.seq ?_
  refine VC.seq ?_
  refine VC.region ?_
  refine Ops.r (Run.mv rfl) rfl ?_
  refine Ops.r (Run.lenT rfl Tryd.underlying9) rfl ?_
  refine Ops.r (Run.bin rfl rfl (Bin.gtrN _ 500)) rfl ?_
  refine Ops.nil ?_
  refine thenQ_n ?_
  refine VC.sub [(0, _), (1, _), (14, _)] (.cons rfl (.cons rfl (.cons rfl .nil))) ?_
  refine VC.meet (σ := Unit) (fun s => [(0, encStr (q.take 500)), (1, .slice A l.length c)]) (fun s wr => w = wr) ?_ ?_
  · skip
    refine VC.condD rfl (fun hc1 => ?_) (fun hc1 => ?_)
    · skip
      refine VC.region ?_
      refine Ops.r (Run.mv rfl) rfl ?_
      refine Ops.r (Run.sliceT 0 500 rfl Tryd.underlying9 evB.none_ (evB.some_ rfl) (by omega) (show 500 ≤ q.length by omega)) rfl ?_
      refine Ops.r (Run.asg rfl) rfl ?_
      refine Ops.nil ?_
      refine thenQ_n ⟨(), (.cons (by rw [List.drop_zero]; rfl) (.cons rfl .nil)), ?_⟩
      rfl
    · skip
      refine VC.skip ?_
      refine thenQ_n ⟨(), (.cons (by rw [List.take_of_length_le (by omega)]; rfl) (.cons rfl .nil)), ?_⟩
      rfl
  · skip
    rintro _ _ rfl Γ hΓ
    have hql : (q.take 500).length ≤ 500 := by simp; omega
    generalize q.take 500 = q1 at *
    refine thenQ_n (VC.sub _ hΓ ?_)
    refine VC.seq ?_
    refine VC.region ?_
    refine Ops.r (Run.mv rfl) rfl ?_
    refine Ops.cl (Enters.fn (evs.cons rfl evs.nil) Tryd.call21) (few25_spec A c l _ hc hl) rfl ?_
    rintro e _ ⟨rfl, A1, c1, rfl, hl1, hc1⟩
    refine ⟨_, rfl, ?_⟩
    have hn1 := few66_le l
    generalize few66 l = l1 at *
    refine Ops.r (Run.asg rfl) rfl ?_
    refine Ops.nil ?_
    refine thenQ_n ?_
    refine VC.sub [(0, _), (1, _)] (.cons rfl (.cons rfl .nil)) ?_
    refine VC.seq ?_
    refine VC.region ?_
    refine Ops.r (Run.mv rfl) rfl ?_
    refine Ops.cl (Enters.fn (evs.cons rfl evs.nil) Tryd.call28) (parse_spec q1 _ (by omega)) rfl ?_
    rintro e w1 ⟨K, A5, d5, rfl, h5, _⟩
    refine ⟨_, rfl, ?_⟩
    refine Ops.r (Run.mv rfl) rfl ?_
    refine Ops.r (Run.extract rfl rfl) rfl ?_
    refine Ops.r (Run.extract rfl rfl) rfl ?_
    refine Ops.r (Run.asg rfl) rfl ?_
    refine Ops.r (Run.asg rfl) rfl ?_
    refine Ops.nil ?_
    refine thenQ_n ?_
    refine VC.sub [(0, _), (1, _), (5, _), (6, _)] (.cons rfl (.cons rfl (.cons rfl (.cons rfl .nil)))) ?_
    refine VC.seq ?_
    refine VC.region ?_
    refine Ops.r (Run.mv rfl) rfl ?_
    refine Ops.cl (Enters.fn (evs.cons rfl evs.nil) Tryd.call29) (rparse_spec q1 _ (by omega)) rfl ?_
    rintro e w2 ⟨hf2, A7, d7, rfl, h7, _⟩
    refine ⟨_, rfl, ?_⟩
    have K := K.trans hf2 (by simp)
    have h5 := h5.frm hf2 (by simp)
    refine Ops.r (Run.mv rfl) rfl ?_
    refine Ops.r (Run.extract rfl rfl) rfl ?_
    refine Ops.r (Run.extract rfl rfl) rfl ?_
    refine Ops.r (Run.asg rfl) rfl ?_
    refine Ops.r (Run.asg rfl) rfl ?_
    refine Ops.nil ?_
    refine thenQ_n ?_
    refine VC.sub [(1, _), (5, _), (6, _), (7, _), (8, _)] (.cons rfl (.cons rfl (.cons rfl (.cons rfl (.cons rfl .nil))))) ?_
    refine VC.seq ?_
    refine VC.region ?_
    refine Ops.r (Run.mv rfl) rfl ?_
    refine Ops.cl (Enters.fn (evs.cons rfl evs.nil) Tryd.call30) (tell_spec A1 c1 l1 _ (ht.frm K) (hl1.frm K (by simp))) rfl ?_
    rintro e w3 ⟨rfl, hf3⟩
    refine ⟨_, rfl, ?_⟩
    have K := K.trans hf3 (by simp)
    have h5 := h5.frm hf3 (by simp)
    have h7 := h7.frm hf3 (by simp)
    have hpl := parse_len q1
    refine Ops.r (Run.asg rfl) rfl ?_
    refine Ops.nil ?_
    refine thenQ_n ?_
    refine VC.sub [(1, _), (5, _), (6, _), (7, _), (8, _), (9, _)] (.cons rfl (.cons rfl (.cons rfl (.cons rfl (.cons rfl (.cons rfl .nil)))))) ?_
    refine VC.seq ?_
    refine VC.seq ?_
    refine VC.region ?_
    refine Ops.r (Run.mv rfl) rfl ?_
    refine Ops.r (Run.mv rfl) rfl ?_
    refine Ops.cl (Enters.fn (evs.cons rfl (evs.cons rfl evs.nil)) Tryd.call31) (spans25_spec A5 A7 d5 d7 _ _ _ h5.rd h7.rd (by omega) (by omega)) rfl ?_
    rintro e w4 ⟨rfl, hf4⟩
    rw [decide_eq_true rfl]
    refine ⟨_, rfl, ?_⟩
    have K := K.trans hf4 (by simp)
    refine Ops.r (Run.not rfl) rfl ?_
    refine Ops.r (Run.mv rfl) rfl ?_
    refine Ops.rg rfl (by first | rfl | assumption | exact decide_eq_true (by assumption) | exact decide_eq_false (by assumption) | decide | (simp; done) | (simp; omega) | (simp [*]; done)) (Run.mv rfl) rfl ?_
    refine Ops.rg rfl (by first | rfl | assumption | exact decide_eq_true (by assumption) | exact decide_eq_false (by assumption) | decide | (simp; done) | (simp; omega) | (simp [*]; done)) (Run.mv rfl) rfl ?_
    refine Ops.rg rfl (by first | rfl | assumption | exact decide_eq_true (by assumption) | exact decide_eq_false (by assumption) | decide | (simp; done) | (simp; omega) | (simp [*]; done)) (Run.bin rfl rfl (Bin.neq _ _)) rfl ?_
    refine Ops.r (Run.pickF rfl rfl (by first | rfl | assumption | exact decide_eq_true (by assumption) | exact decide_eq_false (by assumption) | decide | (simp; done) | (simp; omega) | (simp [*]; done))) rfl ?_
    refine Ops.r (Run.mv rfl) rfl ?_
    refine Ops.rg rfl (by first | rfl | assumption | exact decide_eq_true (by assumption) | exact decide_eq_false (by assumption) | decide | (simp; done) | (simp; omega) | (simp [*]; done)) (Run.mv rfl) rfl ?_
    refine Ops.rg rfl (by first | rfl | assumption | exact decide_eq_true (by assumption) | exact decide_eq_false (by assumption) | decide | (simp; done) | (simp; omega) | (simp [*]; done)) (Run.mv rfl) rfl ?_
    refine Ops.clg rfl (by first | rfl | assumption | exact decide_eq_true (by assumption) | exact decide_eq_false (by assumption) | decide | (simp; done) | (simp; omega) | (simp [*]; done)) (Enters.fn (evs.cons rfl evs.nil) Tryd.call32) (rtell_spec A1 c1 l1 _ (hl1.frm K (by simp)) (by omega)) rfl ?_
    rintro e w5 ⟨rfl, hf5⟩
    refine ⟨_, rfl, ?_⟩
    have K := K.trans hf5 (by simp)
    refine Ops.rg rfl (by first | rfl | assumption | exact decide_eq_true (by assumption) | exact decide_eq_false (by assumption) | decide | (simp; done) | (simp; omega) | (simp [*]; done)) (Run.neqT rfl rfl) rfl ?_
    refine Ops.r (Run.pickF rfl rfl (by first | rfl | assumption | exact decide_eq_true (by assumption) | exact decide_eq_false (by assumption) | decide | (simp; done) | (simp; omega) | (simp [*]; done))) rfl ?_
    refine Ops.nil ?_
    refine thenQ_n ?_
    refine VC.sub [(1, _), (9, _), (45, _)] (.cons rfl (.cons rfl (.cons rfl .nil))) ?_
    refine VC.condF rfl (by simp) ?_
    refine VC.skip ?_
    refine thenQ_n ?_
    refine VC.sub [(1, _), (9, _)] (.cons rfl (.cons rfl .nil)) ?_
    refine VC.seq ?_
    refine VC.seq ?_
    refine VC.region ?_
    refine Ops.r (Run.mv rfl) rfl ?_
    refine Ops.r (Run.eqlT rfl rfl) rfl ?_
    refine Ops.nil ?_
    refine thenQ_n ?_
    refine VC.sub [(1, _), (9, _), (47, _)] (.cons rfl (.cons rfl (.cons rfl .nil))) ?_
    refine VC.condD rfl (fun hc3 => ?_) (fun hc3 => ?_)
    · skip
      refine VC.seq ?_
      refine VC.region ?_
      refine Ops.cl (Enters.fn evs.nil Tryd.call25) (awake25_spec _) rfl ?_
      rintro e w6 ⟨rfl, hf6⟩
      refine ⟨_, rfl, ?_⟩
      have K := K.trans hf6 (by simp)
      refine Ops.r (Run.asg rfl) rfl ?_
      refine Ops.nil ?_
      refine thenQ_n ?_
      refine VC.sub [(4, _)] (.cons rfl .nil) ?_
      refine VC.ret ?_
      refine thenQ_r (end1 rfl ?_)
      exact ⟨rfl, K⟩
    · skip
      obtain ⟨hb1, hb2, hb3⟩ := tell_back (l := l1) hc3
      refine VC.skip ?_
      refine thenQ_n ?_
      refine VC.sub [(1, _), (9, _)] (.cons rfl (.cons rfl .nil)) ?_
      refine VC.seq ?_
      refine VC.region ?_
      refine Ops.r (Run.mv rfl) rfl ?_
      refine Ops.cl (Enters.fn (evs.cons rfl evs.nil) Tryd.call28) (parse_spec (tellQ l1) _ (by omega)) rfl ?_
      rintro e w7 ⟨hf7, A9, d9, rfl, h9, _⟩
      rw [hb1] at h9 ⊢
      rw [hb2]
      refine ⟨_, rfl, ?_⟩
      have K := K.trans hf7 (by simp)
      refine Ops.r (Run.mv rfl) rfl ?_
      refine Ops.r (Run.extract rfl rfl) rfl ?_
      refine Ops.r (Run.extract rfl rfl) rfl ?_
      refine Ops.r (Run.asg rfl) rfl ?_
      refine Ops.r (Run.asg rfl) rfl ?_
      refine Ops.nil ?_
      refine thenQ_n ?_
      refine VC.sub [(1, _), (10, _), (11, _)] (.cons rfl (.cons rfl (.cons rfl .nil))) ?_
      refine VC.seq ?_
      refine VC.region ?_
      refine Ops.r (Run.mv rfl) rfl ?_
      refine Ops.r (Run.mv rfl) rfl ?_
      refine Ops.cl (Enters.fn (evs.cons rfl (evs.cons rfl evs.nil)) Tryd.call31) (spans25_spec A9 A1 d9 c1 _ _ _ h9.rd (hl1.frm K (by simp)) (by omega) (by omega)) rfl ?_
      rintro e w8 ⟨rfl, hf8⟩
      rw [decide_eq_true rfl]
      refine ⟨_, rfl, ?_⟩
      have K := K.trans hf8 (by simp)
      refine Ops.r (Run.mv rfl) rfl ?_
      refine Ops.rg rfl (by first | rfl | assumption | exact decide_eq_true (by assumption) | exact decide_eq_false (by assumption) | decide | (simp; done) | (simp; omega) | (simp [*]; done)) (Run.mv rfl) rfl ?_
      refine Ops.rg rfl (by first | rfl | assumption | exact decide_eq_true (by assumption) | exact decide_eq_false (by assumption) | decide | (simp; done) | (simp; omega) | (simp [*]; done)) (Run.bin rfl rfl (Bin.eql _ 0)) rfl ?_
      refine Ops.r (Run.pickT rfl rfl (by first | rfl | assumption | exact decide_eq_true (by assumption) | exact decide_eq_false (by assumption) | decide | (simp; done) | (simp; omega) | (simp [*]; done))) rfl ?_
      refine Ops.r (Run.mv rfl) rfl ?_
      refine Ops.clg rfl (by first | rfl | assumption | exact decide_eq_true (by assumption) | exact decide_eq_false (by assumption) | decide | (simp; done) | (simp; omega) | (simp [*]; done)) (Enters.fn evs.nil Tryd.call25) (awake25_spec _) rfl ?_
      rintro e w9 ⟨rfl, hf9⟩
      refine ⟨_, rfl, ?_⟩
      have K := K.trans hf9 (by simp)
      refine Ops.r (Run.pickT rfl rfl (by first | rfl | assumption | exact decide_eq_true (by assumption) | exact decide_eq_false (by assumption) | decide | (simp; done) | (simp; omega) | (simp [*]; done))) rfl ?_
      refine Ops.r (Run.asg rfl) rfl ?_
      refine Ops.nil ?_
      refine thenQ_n ?_
      refine VC.sub [(4, _)] (.cons rfl .nil) ?_
      refine VC.ret ?_
      refine end1 rfl ?_
      exact ⟨rfl, K⟩

end Go.Proofs.YtnllhddbgkeboaaDoor
