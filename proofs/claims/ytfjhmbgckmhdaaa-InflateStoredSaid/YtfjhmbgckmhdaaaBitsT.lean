/-
  What Take and Octets answer, whatever is asked; parts of rows.
-/
import Derived.Test.YtfjhmbgckmhdaaaBitsV
namespace Go.Proofs.Ytfjhmbgckmhdaaa
open Go.RowKit

/-- What Take answers. -/
def TakeR (bs : List Nat) (p : Nat) (n : Int) (v e p' : Nat) : Prop :=
  (n < 0 ∨ 32 < n) ∧ v = 0 ∧ e = 1 ∧ p' = p ∨ ∃ m : Nat, n = m ∧ m ≤ 32 ∧ (8 * bs.length - p < m ∧ v = 0 ∧ e = 2 ∧ p' = p ∨ m ≤ 8 * bs.length - p ∧ v = num (((ofB bs).drop p).take m) ∧ e = 0 ∧ p' = p + m)
theorem take_any (g p : Nat) (n : Int) (A : Option Addr) (bs : List Nat) (w : World) (hp : p ≤ 8 * bs.length) (hbs : bs.length ≤ 1000000000) (hB : ∀ b ∈ bs, b < 256) (hR : IsR w g A bs p) :
    Calls Try.prog 45 #[.pointer (some ⟨g, 0, none⟩), .int .i64 n] w fun e w' => ∃ v k p', e = .returned (.tuple #[.int .u64 ((v : Nat) : Int), .int .i64 ((k : Nat) : Int)]) ∧ TakeR bs p n v k p' ∧ p' ≤ 8 * bs.length ∧ IsR w' g A bs p' ∧ Frm [g] w w' := by
  by_cases h1 : n < 0
  · exact (take_neg g n w h1).mono fun e w' ⟨he, hw⟩ => by subst hw; exact ⟨0, 1, p, he, .inl ⟨.inl h1, rfl, rfl, rfl⟩, hp, hR, Frm.refl _ _⟩
  by_cases h2 : 32 < n
  · exact (take_big g n w h2).mono fun e w' ⟨he, hw⟩ => by subst hw; exact ⟨0, 1, p, he, .inl ⟨.inr h2, rfl, rfl, rfl⟩, hp, hR, Frm.refl _ _⟩
  obtain ⟨m, rfl⟩ : ∃ m : Nat, n = m := ⟨n.toNat, by omega⟩
  by_cases h3 : 8 * bs.length - p < m
  · exact (take_short g m p A bs w hp hbs hR (by omega) h3).mono fun e w' ⟨he, hd⟩ => ⟨0, 2, p, he, .inr ⟨m, rfl, by omega, .inl ⟨h3, rfl, rfl, rfl⟩⟩, hp, hR.frm hd.frm (by simp), hd.frm.mono (by simp)⟩
  · exact (take_ok g m p A bs w hp hbs hB hR (by omega) (by omega)).mono fun e w' ⟨he, hR', hf⟩ => ⟨_, 0, p + m, he, .inr ⟨m, rfl, by omega, .inr ⟨by omega, rfl, rfl, rfl⟩⟩, by omega, hR', hf⟩
/-- What Octets answers. -/
def OctR (w' : World) (bs : List Nat) (p : Nat) (n : Int) (B : Option Addr) (nl c e p' : Nat) : Prop :=
  n < 0 ∧ nl = 0 ∧ e = 1 ∧ p' = (p + 7) / 8 * 8 ∨ ∃ m : Nat, n = m ∧ ((8 * bs.length - (p + 7) / 8 * 8) / 8 < m ∧ nl = 0 ∧ e = 2 ∧ p' = (p + 7) / 8 * 8 ∨ m ≤ (8 * bs.length - (p + 7) / 8 * 8) / 8 ∧ nl = m ∧ e = 0 ∧ p' = (p + 7) / 8 * 8 + 8 * m ∧ Own w' 5 1 B m c (NB ((bs.drop ((p + 7) / 8)).take m)))
theorem octets_any (g p : Nat) (n : Int) (A : Option Addr) (bs : List Nat) (w : World) (hp : p ≤ 8 * bs.length) (hbs : bs.length ≤ 1000000000) (hR : IsR w g A bs p) :
    Calls Try.prog 48 #[.pointer (some ⟨g, 0, none⟩), .int .i64 n] w fun e w' => ∃ B nl c k p', e = .returned (.tuple #[.slice B nl c, .int .i64 ((k : Nat) : Int)]) ∧ OctR w' bs p n B nl c k p' ∧ p' ≤ 8 * bs.length ∧ IsR w' g A bs p' ∧ Frm [g] w w' := by
  by_cases h1 : n < 0
  · exact (octets_neg g n p A bs w hp hbs hR h1).mono fun e w' ⟨he, hR', hf⟩ => ⟨none, 0, 0, 1, _, he, .inl ⟨h1, rfl, rfl, rfl⟩, by omega, hR', hf⟩
  obtain ⟨m, rfl⟩ : ∃ m : Nat, n = m := ⟨n.toNat, by omega⟩
  by_cases h3 : (8 * bs.length - (p + 7) / 8 * 8) / 8 < m
  · exact (octets_short g m p A bs w hp hbs hR h3).mono fun e w' ⟨he, hR', hf⟩ => ⟨none, 0, 0, 2, _, he, .inr ⟨m, rfl, .inl ⟨h3, rfl, rfl, rfl⟩⟩, by omega, hR', hf⟩
  · exact (octets_ok g m p A bs w hp hbs hR (by omega)).mono fun e w' ⟨B, c, he, ho, hR', hf, _⟩ => ⟨B, m, c, 0, _, he, .inr ⟨m, rfl, .inr ⟨by omega, rfl, rfl, rfl, ho⟩⟩, by omega, hR', hf⟩
theorem BL_cut (l : List Bool) (p m : Nat) (h : p + m ≤ l.length) {w : World} {A : Option Addr} {c : Nat} (hr : Rd w 1 A l.length (BL l)) (hc : l.length ≤ c) :
    Rd w 1 (cutA A c p 1) ((l.drop p).take m).length (BL ((l.drop p).take m)) := by
  have e := hr.cut (l := p) (r := p + m) (cap := c) (by omega) h hc
  have e1 : ((l.drop p).take m).length = p + m - p := by simp; omega
  have e2 : BL ((l.drop p).take m) = ((BL l).drop (p * 1)).take ((p + m - p) * 1) := by simp [BL, List.map_take, List.map_drop]
  rw [e1, e2]
  exact e
theorem NB_cut (l : List Nat) (p m : Nat) (h : p + m ≤ l.length) {w : World} {A : Option Addr} {c : Nat} (hr : Rd w 1 A l.length (NB l)) (hc : l.length ≤ c) :
    Rd w 1 (cutA A c p 1) ((l.drop p).take m).length (NB ((l.drop p).take m)) := by
  have e := hr.cut (l := p) (r := p + m) (cap := c) (by omega) h hc
  have e1 : ((l.drop p).take m).length = p + m - p := by simp; omega
  have e2 : NB ((l.drop p).take m) = ((NB l).drop (p * 1)).take ((p + m - p) * 1) := by simp [NB, List.map_take, List.map_drop]
  rw [e1, e2]
  exact e

end Go.Proofs.Ytfjhmbgckmhdaaa
