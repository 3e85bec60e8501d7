/-
  What the readings of the arguments of chapter 12's statements say.
-/
import Derived.Test.YtjjmnfpdkgnmoaaLabC
import Derived.Test.YtjjmnfpdkgnmoaaLift
namespace Go.Proofs.Ytjjmnfpdkgnmoaa
open Go Go.Vc
/-- Numbers that came in. -/
structure IV where
  p : Option Addr
  l : Nat
  c : Nat
  xs : List Int
def IV.cells (b : IV) : List Value := [.slice b.p b.l b.c]
structure IV.Ok (b : IV) (w : World) : Prop where
  is : Ints w b.p b.l b.xs
  nil : b.p = none → b.l = 0
  fits : b.l ≤ 17592186043904
  cap : b.l ≤ b.c
  max : b.c ≤ maxLen
  all : ∀ x ∈ b.xs, InI x
section
variable {w : World}
theorem rd_int : Rd Try.prog w T_int (fun n : Int => [.int .i64 n]) InI := Rd.i64 (by kernel_rfl)
theorem rd_sl_uint8 : Rd Try.prog w T_sl_uint8 BV.cells (fun b => b.Ok w) := Rd.bytes (e := T_uint8) (by kernel_rfl) (by kernel_rfl) (by kernel_rfl) (by kernel_rfl)
theorem rd_sl_int : Rd Try.prog w T_sl_int IV.cells (fun b => b.Ok w) :=
  (Rd.slice (e := T_int) (sz := 1) (bytes := 8) (by kernel_rfl) (by kernel_rfl) (by kernel_rfl) rd_int).map (fun s => ⟨s.p, s.l, s.c, s.xs⟩) (fun _ _ => rfl)
    (fun s h => ⟨by have := h.sl; rw [rows_ints] at this; exact this, h.nil, by have := h.fits; simp only; omega, h.cap, h.max, h.all⟩)
end
end Go.Proofs.Ytjjmnfpdkgnmoaa

