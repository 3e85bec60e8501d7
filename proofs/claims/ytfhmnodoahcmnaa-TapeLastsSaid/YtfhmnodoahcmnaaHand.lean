/-
  Slices of slices of bytes that the call itself made.
-/
import Derived.Test.YtfhmnodoahcmnaaBase
import Derived.Test.YtfhmnodoahcmnaaLift
namespace Go.Proofs.Ytfhmnodoahcmnaa
open Go Go.Vc

def HandOk (w : World) (h : BV) : Prop := ∃ c, Row w T_uint8 1 h.p h.l c (bcells h.bs)
theorem HandOk.bytes {w : World} {h : BV} (hh : HandOk w h) : Bytes w h.p h.l h.bs := by obtain ⟨c, hr⟩ := hh; exact hr.bytes
theorem HandOk.chg {w w' : World} {S : Nat → Prop} {h : BV} (hh : HandOk w h) (hc : Chg S w w') (hn : ∀ b, typ w b = some T_uint8 → ¬ S b) : HandOk w' h := by
  obtain ⟨c, hr⟩ := hh; exact ⟨c, hr.chg hc fun a ha => hn _ (hr.typ a ha)⟩
theorem HandOk.chgp {w w' : World} {S : Nat → Prop} {h : BV} (hh : HandOk w h) (hc : Chg S w w') (hn : ∀ a, h.p = some a → ¬ S a.block) : HandOk w' h := by
  obtain ⟨c, hr⟩ := hh; exact ⟨c, hr.chg hc hn⟩
theorem even_BV (L : List BV) : Even BV.cells 1 L := fun _ _ => rfl
theorem slT_sl_u8 : SlT Try.prog T_sl_sl_uint8 T_sl_uint8 1 24 #[.slice none 0 0] := SlT.of (by kernel_rfl) (by kernel_rfl) rfl (by decide)
theorem one1_BV (L : List BV) : one1 (rows BV.cells L) := one1_rows fun x _ => by intro v hv; simp only [BV.cells, List.mem_singleton] at hv; subst hv; rfl

end Go.Proofs.Ytfhmnodoahcmnaa
