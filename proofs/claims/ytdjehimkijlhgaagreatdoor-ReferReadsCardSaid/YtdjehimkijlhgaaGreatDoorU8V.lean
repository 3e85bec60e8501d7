/-
  unicode/utf8.ValidString by contract.
-/
import Derived.Test.YtdjehimkijlhgaaGreatDoorU8F
namespace Go.Proofs.YtdjehimkijlhgaaGreatDoor
open Go Go.Vc Go.Lib

section
variable {w : World}

/-- A failing test of a lead byte's row. -/
theorem vld_fail {s : ByteArray} (hs : 0 < s.size) (h : dec (bl s) = (65533, 1)) : vld (bl s) = false :=
  vld_bad (by intro e; have := bl_len s; rw [e] at this; simp at this; omega) (rd0_of_dec h)
theorem vld_next {s : ByteArray} (hs : 0 < s.size) {r k : Nat} (hk : 2 ≤ k) (h : dec (bl s) = (r, k)) : vld (bl s) = vld ((bl s).drop k) ∧ k ≤ s.size := by
  have hne : bl s ≠ [] := by intro e; have := bl_len s; rw [e] at this; simp at this; omega
  have e := rd_of_dec h hk
  have hl := rd_le _ hne
  rw [e, bl_len] at hl
  refine ⟨?_, hl⟩
  rw [vld_step hne (by rw [e]; simp only; omega), e]

theorem or_zero {a b c : Nat} (h : (a ||| b) &&& c = 0) : a &&& c = 0 ∧ b &&& c = 0 := by
  rw [Nat.and_or_distrib_right] at h
  exact Nat.or_eq_zero_iff.1 h
theorem asc_more {l : List UInt8} {a b : Nat} (h1 : ∀ x ∈ l.take a, x.toNat < 128) (h2 : ∀ x ∈ (l.drop a).take b, x.toNat < 128) : ∀ x ∈ l.take (a + b), x.toNat < 128 := by
  intro x hx
  rw [List.take_add, List.mem_append] at hx
  rcases hx with h | h
  · exact h1 x h
  · exact h2 x h
theorem bAnd_u64 {A : Nat} (hA : A < 18446744073709551616) : bAnd .u64 (A : Int) 9259542123273814144 = ((A &&& 9259542123273814144 : Nat) : Int) := u64_and_nat A 9259542123273814144 hA (by decide)
theorem bOr_u64 {A B : Nat} (hA : A < 18446744073709551616) (hB : B < 18446744073709551616) : bOr .u64 (A : Int) (B : Int) = ((A ||| B : Nat) : Int) := u64_or_nat A B hA hB

end

end Go.Proofs.YtdjehimkijlhgaaGreatDoor

