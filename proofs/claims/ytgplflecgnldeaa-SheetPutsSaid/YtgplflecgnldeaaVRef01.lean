/- What the conditions of these functions are, reckoned by the reading; printed by program. -/
import Derived.Test.YtgplflecgnldeaaNm
import Derived.KernelRfl
set_option maxRecDepth 100000
set_option linter.unusedVariables false
namespace Go.Proofs.Ytgplflecgnldeaa
open Go Go.Vc

/-- lectern/lecternref01.Same -/
def VC_ref01_Same (a0p : Option Addr) (a0l : Nat) (a0c : Nat) (b1p : Option Addr) (b1l : Nat) (b1c : Nat) (w : World) (J : Bool → World → Prop) : Prop :=
  bytesOf w a0p a0l fun bs6 =>
  bytesOf w b1p b1l fun bs8 =>
  J ((⟨bs6.toArray⟩ : ByteArray).toList == (⟨bs8.toArray⟩ : ByteArray).toList) w
def ann_ref01_Same : Ann := .s (.o) (.s (.o) (.o))
theorem eq_ref01_Same (a0p : Option Addr) (a0l : Nat) (a0c : Nat) (b1p : Option Addr) (b1l : Nat) (b1c : Nat) (w : World) (J : Bool → World → Prop) : vcFun Try.prog Try.f15 ann_ref01_Same [.one .bool] [.slice a0p a0l a0c, .slice b1p b1l b1c] w J = VC_ref01_Same a0p a0l a0c b1p b1l b1c w J := by kernel_rfl
theorem c_ref01_Same {a0p : Option Addr} {a0l : Nat} {a0c : Nat} {b1p : Option Addr} {b1l : Nat} {b1c : Nat} {w : World} {J : Bool → World → Prop} (h : VC_ref01_Same a0p a0l a0c b1p b1l b1c w J) : callJ Try.prog fn_ref01_Same #[.slice a0p a0l a0c, .slice b1p b1l b1c] w [.one .bool] J := vc_calls Try.func15 ann_ref01_Same (Eq.mpr (eq_ref01_Same a0p a0l a0c b1p b1l b1c w J) h)

/-- lectern/lecternref01.Spare -/
def VC_ref01_Spare (b0p : Option Addr) (b0l : Nat) (b0c : Nat) (w : World) (J : Option Addr → Nat → Nat → World → Prop) : Prop :=
  mkS w T_uint8 (zeroC Try.prog T_uint8) 1 1 (0 : Int) (w64 (((b0l : Nat) : Int) + (3 : Int))) fun b6 w1 =>
  appJ Try.prog T_sl_uint8 T_sl_uint8 (.slice (some ⟨b6, 0, none⟩) 0 ((w64 (((b0l : Nat) : Int) + (3 : Int))).toNat)) (.slice b0p b0l b0c) w1 fun q8p q8l q8c w2 =>
  newB w2 (.cells ⟨[.int .u8 (165 : Int)]⟩ T_uint8) fun b9 w3 =>
  appJ Try.prog T_sl_uint8 T_sl_uint8 (.slice q8p q8l q8c) (.slice (some ⟨b9, 0, none⟩) 1 1) w3 fun q10p q10l q10c w4 =>
  slS q10p q10l q10c 1 none (some ((b0l : Nat) : Int)) none fun q13p q13l q13c =>
  J q13p q13l q13c w4
def ann_ref01_Spare : Ann := .s (.o) (.s (.o) (.o))
theorem eq_ref01_Spare (b0p : Option Addr) (b0l : Nat) (b0c : Nat) (w : World) (J : Option Addr → Nat → Nat → World → Prop) : vcFun Try.prog Try.f12 ann_ref01_Spare [.one .slice] [.slice b0p b0l b0c] w J = VC_ref01_Spare b0p b0l b0c w J := by kernel_rfl
theorem c_ref01_Spare {b0p : Option Addr} {b0l : Nat} {b0c : Nat} {w : World} {J : Option Addr → Nat → Nat → World → Prop} (h : VC_ref01_Spare b0p b0l b0c w J) : callJ Try.prog fn_ref01_Spare #[.slice b0p b0l b0c] w [.one .slice] J := vc_calls Try.func12 ann_ref01_Spare (Eq.mpr (eq_ref01_Spare b0p b0l b0c w J) h)

/-- lectern/lecternref01.Kept -/
def VC_ref01_Kept (b0p : Option Addr) (b0l : Nat) (b0c : Nat) (was1p : Option Addr) (was1l : Nat) (was1c : Nat) (w : World) (J : Bool → World → Prop) : Prop :=
  withJ (fun (x4 : Bool) (w1 : World) =>
  J x4 w1) fun J_4 =>
  callJ Try.prog fn_ref01_Same #[.slice b0p b0l b0c, .slice was1p was1l was1c] w [.one .bool] fun (r7 : Bool) (w2 : World) =>
  condB r7 (
  condB (decide (((b0c : Nat) : Int) > ((b0l : Nat) : Int))) (
  slS b0p b0l b0c 1 none (some (w64 (((b0l : Nat) : Int) + (1 : Int)))) none fun q20p q20l q20c =>
  idxA q20p q20l ((b0l : Nat) : Int) fun a23 =>
  ldI .u8 w2 ((a23.add (((b0l : Nat) : Int).toNat * 1))) fun x24 =>
  J_4 (x24 == (165 : Int)) w2) (
  J_4 false w2)) (
  J_4 false w2)
def ann_ref01_Kept : Ann := .s (.o) (.j [(4, .bool)] (.o) (.o))
theorem eq_ref01_Kept (b0p : Option Addr) (b0l : Nat) (b0c : Nat) (was1p : Option Addr) (was1l : Nat) (was1c : Nat) (w : World) (J : Bool → World → Prop) : vcFun Try.prog Try.f16 ann_ref01_Kept [.one .bool] [.slice b0p b0l b0c, .slice was1p was1l was1c] w J = VC_ref01_Kept b0p b0l b0c was1p was1l was1c w J := by kernel_rfl
theorem c_ref01_Kept {b0p : Option Addr} {b0l : Nat} {b0c : Nat} {was1p : Option Addr} {was1l : Nat} {was1c : Nat} {w : World} {J : Bool → World → Prop} (h : VC_ref01_Kept b0p b0l b0c was1p was1l was1c w J) : callJ Try.prog fn_ref01_Kept #[.slice b0p b0l b0c, .slice was1p was1l was1c] w [.one .bool] J := vc_calls Try.func16 ann_ref01_Kept (Eq.mpr (eq_ref01_Kept b0p b0l b0c was1p was1l was1c w J) h)

end Go.Proofs.Ytgplflecgnldeaa
