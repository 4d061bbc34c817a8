/-
  The laws of layer 12 about octets cut short and bounds: what Inflate answers, in one form.
-/
import Derived.Test.YtfjhmbgckmhdaaaInfLA
import Derived.Test.YtfjhmbgckmhdaaaInfPT
namespace Go.Proofs.Ytfjhmbgckmhdaaa
open Go.RowKit

/-- What Inflate answers. -/
def IsI (w' : World) (e : Ending) (bs : List Nat) (most : Int) (A : Option Addr) (c : Nat) (o : List Nat) (u k : Nat) : Prop :=
  e = .returned (.tuple #[.slice A o.length c, .int .i64 ((u : Nat) : Int), .int .i64 ((k : Nat) : Int)]) ∧ Rd w' 1 A o.length (NB o) ∧ (∀ x ∈ o, x < 256) ∧ ((k = 0 ∧ inflF bs most = .ok (o, u) ∧ (o.length : Int) ≤ most ∧ u ≤ bs.length) ∨ (o = [] ∧ u = 0 ∧ k ≠ 0 ∧ inflF bs most = .error k))
theorem infl_out (B : Option Addr) (c0 : Nat) (bs : List Nat) (most : Int) (w : World) (hmo : most ≤ 1000000) (hbs : bs.length ≤ 1000000) (hB : ∀ b ∈ bs, b < 256) (hr : Rd w 1 B bs.length (NB bs)) :
    Calls Try.prog 10 #[.slice B bs.length c0, .int .i64 most] w fun e w' => Frm [] w w' ∧ ∃ A c o u k, IsI w' e bs most A c o u k := by
  refine (infl_spec B c0 bs most w hmo hbs hB hr).mono fun e w' ⟨hf, he⟩ => ⟨hf, ?_⟩
  rcases hF : inflF bs most with k | ⟨o, u⟩
  · rw [hF] at he
    exact ⟨none, 0, [], 0, k, he, (Own.nil w' 5 1).rd, by simp, .inr ⟨rfl, rfl, fun h => (inflF_nz bs most).ne (by rw [hF, h]), hF⟩⟩
  · rw [hF] at he
    obtain ⟨A, c, h1, h2, _, h3, h4, h5⟩ := he
    exact ⟨A, c, o, u, 0, h1, h2.rd, h3, .inl ⟨rfl, hF, h4, h5⟩⟩
theorem infl_outn (B : Option Addr) (c0 n : Nat) (bs : List Nat) (most : Int) (w : World) (hn : bs.length = n) (hmo : most ≤ 1000000) (hbs : bs.length ≤ 1000000) (hB : ∀ b ∈ bs, b < 256) (hr : Rd w 1 B bs.length (NB bs)) :
    Calls Try.prog 10 #[.slice B n c0, .int .i64 most] w fun e w' => Frm [] w w' ∧ ∃ A c o u k, IsI w' e bs most A c o u k := by
  subst hn
  exact infl_out B c0 bs most w hmo hbs hB hr
theorem str_rd {w : World} {A : Option Addr} {o : List Nat} (h : Rd w 1 A o.length (NB o)) (hb : ∀ x ∈ o, x < 256) : Rd w 1 A o.length (U8 (o.map UInt8.ofNat)) := by rw [← NB_U8 o hb]; exact h

end Go.Proofs.Ytfjhmbgckmhdaaa
