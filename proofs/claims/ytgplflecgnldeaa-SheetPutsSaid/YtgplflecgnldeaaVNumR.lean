/- What the conditions of these functions are, reckoned by the reading; printed by program. -/
import Derived.Test.YtgplflecgnldeaaNm
import Derived.KernelRfl
set_option maxRecDepth 100000
set_option linter.unusedVariables false
namespace Go.Proofs.Ytgplflecgnldeaa
open Go Go.Vc

/-- lectern/lecternref14.Sum -/
def VC_ref14_Sum (p0p : Option Addr) (p0l : Nat) (p0c : Nat) (w : World) (J : Int → World → Prop) : Prop :=
  ∃ I_3 : Int → Int → World → Nat → Prop, (∃ m : Nat, I_3 (4294967295 : Int) (0 : Int) w m) ∧ ∀ (c3 : Int) (x9 : Int) (w1 : World) (m : Nat), I_3 c3 x9 w1 m → (
  condB (decide (x9 < ((p0l : Nat) : Int))) (
  idxA p0p p0l x9 fun a11 =>
  ldI .u8 w1 ((a11.add (x9.toNat * 1))) fun x12 =>
  ∃ I_3_1 : Int → Int → World → Nat → Prop, (∃ m : Nat, I_3_1 (bXor .u32 c3 (IntKind.u32.wrap x12)) (0 : Int) w1 m) ∧ ∀ (c3_1 : Int) (i6 : Int) (w2 : World) (m_1 : Nat), I_3_1 c3_1 i6 w2 m_1 → (
  condB (decide (i6 < (8 : Int))) (
  withJ (fun (c3_2 : Int) (w3 : World) =>
  ∃ m' : Nat, m' < m_1 ∧ I_3_1 c3_2 (w64 (i6 + (1 : Int))) w3 m') fun J_3 =>
  (2 : Int) ≠ 0 ∧
  condB ((Int.tmod c3_1 (2 : Int)) == (1 : Int)) (
  (2 : Int) ≠ 0 ∧
  J_3 (bXor .u32 (IntKind.u32.wrap (Int.tdiv c3_1 (2 : Int))) (3988292384 : Int)) w2) (
  (2 : Int) ≠ 0 ∧
  J_3 (IntKind.u32.wrap (Int.tdiv c3_1 (2 : Int))) w2)) (
  ∃ m' : Nat, m' < m ∧ I_3 c3_1 (w64 (x9 + (1 : Int))) w2 m'))) (
  J (IntKind.u32.wrap ((4294967295 : Int) - c3)) w1))
def ann_ref14_Sum : Ann := .s (.o) (.s (.o) (.s (.s (.o) (.b (.l [(3, .int .u32), (9, .int .i64)] (.s (.o) (.s (.c (.o) (.o)) (.s (.b (.s (.o) (.s (.o) (.s (.o) (.b (.l [(3, .int .u32), (6, .int .i64)] (.s (.s (.o) (.c (.o) (.o))) (.j [(3, .int .u32)] (.b (.s (.o) (.c (.o) (.o)))) (.o))))))))) (.o))))))) (.s (.o) (.o))))
theorem eq_ref14_Sum (p0p : Option Addr) (p0l : Nat) (p0c : Nat) (w : World) (J : Int → World → Prop) : vcFun Try.prog Try.f49 ann_ref14_Sum [.one (.int .u32)] [.slice p0p p0l p0c] w J = VC_ref14_Sum p0p p0l p0c w J := by kernel_rfl
theorem c_ref14_Sum {p0p : Option Addr} {p0l : Nat} {p0c : Nat} {w : World} {J : Int → World → Prop} (h : VC_ref14_Sum p0p p0l p0c w J) : callJ Try.prog fn_ref14_Sum #[.slice p0p p0l p0c] w [.one (.int .u32)] J := vc_calls Try.func49 ann_ref14_Sum (Eq.mpr (eq_ref14_Sum p0p p0l p0c w J) h)

/-- lectern/lecternref14.Number -/
def VC_ref14_Number (n0 : Int) (wide1 : Int) (w : World) (J : Option Addr → Nat → Nat → World → Prop) : Prop :=
  mkS w T_uint8 (zeroC Try.prog T_uint8) 1 1 wide1 wide1 fun b8 w1 =>
  ∃ I_0 : Int → Int → World → Nat → Prop, (∃ m : Nat, I_0 n0 (w64 (wide1 - (1 : Int))) w1 m) ∧ ∀ (n0 : Int) (i6 : Int) (w2 : World) (m : Nat), I_0 n0 i6 w2 m → (
  condB (decide (i6 ≥ (0 : Int))) (
  (256 : Int) ≠ 0 ∧
  idxA (some ⟨b8, 0, none⟩) (wide1.toNat) i6 fun a20 =>
  stV w2 ((a20.add (i6.toNat * 1))) (.int .u8 (IntKind.u8.wrap (Int.tmod n0 (256 : Int)))) fun w3 =>
  (256 : Int) ≠ 0 ∧
  ∃ m' : Nat, m' < m ∧ I_0 (IntKind.u64.wrap (Int.tdiv n0 (256 : Int))) (w64 (i6 - (1 : Int))) w3 m') (
  J (some ⟨b8, 0, none⟩) (wide1.toNat) (wide1.toNat) w2))
def ann_ref14_Number : Ann := .s (.o) (.s (.o) (.s (.s (.o) (.b (.l [(0, .int .u64), (6, .int .i64)] (.s (.s (.o) (.c (.o) (.o))) (.s (.b (.s (.o) (.o))) (.o)))))) (.s (.o) (.o))))
theorem eq_ref14_Number (n0 : Int) (wide1 : Int) (w : World) (J : Option Addr → Nat → Nat → World → Prop) : vcFun Try.prog Try.f36 ann_ref14_Number [.one .slice] [.int .u64 n0, .int .i64 wide1] w J = VC_ref14_Number n0 wide1 w J := by kernel_rfl
theorem c_ref14_Number {n0 : Int} {wide1 : Int} {w : World} {J : Option Addr → Nat → Nat → World → Prop} (h : VC_ref14_Number n0 wide1 w J) : callJ Try.prog fn_ref14_Number #[.int .u64 n0, .int .i64 wide1] w [.one .slice] J := vc_calls Try.func36 ann_ref14_Number (Eq.mpr (eq_ref14_Number n0 wide1 w J) h)

/-- lectern/lecternref14.Value -/
def VC_ref14_Value (b0p : Option Addr) (b0l : Nat) (b0c : Nat) (w : World) (J : Int → World → Prop) : Prop :=
  ∃ I_3 : Int → Int → World → Nat → Prop, (∃ m : Nat, I_3 (0 : Int) (0 : Int) w m) ∧ ∀ (n3 : Int) (x8 : Int) (w1 : World) (m : Nat), I_3 n3 x8 w1 m → (
  condB (decide (x8 < ((b0l : Nat) : Int))) (
  idxA b0p b0l x8 fun a10 =>
  ldI .u8 w1 ((a10.add (x8.toNat * 1))) fun x11 =>
  ∃ m' : Nat, m' < m ∧ I_3 (w64 ((w64 ((256 : Int) * n3)) + (w64 x11))) (w64 (x8 + (1 : Int))) w1 m') (
  J n3 w1))
def ann_ref14_Value : Ann := .s (.o) (.s (.o) (.s (.s (.o) (.b (.l [(3, .int .i64), (8, .int .i64)] (.s (.o) (.s (.c (.o) (.o)) (.s (.b (.s (.o) (.o))) (.o))))))) (.s (.o) (.o))))
theorem eq_ref14_Value (b0p : Option Addr) (b0l : Nat) (b0c : Nat) (w : World) (J : Int → World → Prop) : vcFun Try.prog Try.f40 ann_ref14_Value [.one (.int .i64)] [.slice b0p b0l b0c] w J = VC_ref14_Value b0p b0l b0c w J := by kernel_rfl
theorem c_ref14_Value {b0p : Option Addr} {b0l : Nat} {b0c : Nat} {w : World} {J : Int → World → Prop} (h : VC_ref14_Value b0p b0l b0c w J) : callJ Try.prog fn_ref14_Value #[.slice b0p b0l b0c] w [.one (.int .i64)] J := vc_calls Try.func40 ann_ref14_Value (Eq.mpr (eq_ref14_Value b0p b0l b0c w J) h)

/-- lectern/lecternref14.Fill -/
def VC_ref14_Fill (b0p : Option Addr) (b0l : Nat) (b0c : Nat) (wide1 : Int) (w : World) (J : Option Addr → Nat → Nat → World → Prop) : Prop :=
  mkS w T_uint8 (zeroC Try.prog T_uint8) 1 1 wide1 wide1 fun b8 w1 =>
  ∃ I_11 : Int → World → Nat → Prop, (∃ m : Nat, I_11 (0 : Int) w1 m) ∧ ∀ (x11 : Int) (w2 : World) (m : Nat), I_11 x11 w2 m → (
  condB (decide (x11 < ((b0l : Nat) : Int))) (
  idxA b0p b0l x11 fun a18 =>
  ldI .u8 w2 ((a18.add (x11.toNat * 1))) fun x19 =>
  idxA (some ⟨b8, 0, none⟩) (wide1.toNat) x11 fun a20 =>
  stV w2 ((a20.add (x11.toNat * 1))) (.int .u8 x19) fun w3 =>
  ∃ m' : Nat, m' < m ∧ I_11 (w64 (x11 + (1 : Int))) w3 m') (
  J (some ⟨b8, 0, none⟩) (wide1.toNat) (wide1.toNat) w2))
def ann_ref14_Fill : Ann := .s (.o) (.s (.o) (.s (.s (.o) (.b (.l [(11, .int .i64)] (.s (.o) (.s (.c (.o) (.o)) (.s (.b (.s (.o) (.o))) (.o))))))) (.s (.o) (.o))))
theorem eq_ref14_Fill (b0p : Option Addr) (b0l : Nat) (b0c : Nat) (wide1 : Int) (w : World) (J : Option Addr → Nat → Nat → World → Prop) : vcFun Try.prog Try.f23 ann_ref14_Fill [.one .slice] [.slice b0p b0l b0c, .int .i64 wide1] w J = VC_ref14_Fill b0p b0l b0c wide1 w J := by kernel_rfl
theorem c_ref14_Fill {b0p : Option Addr} {b0l : Nat} {b0c : Nat} {wide1 : Int} {w : World} {J : Option Addr → Nat → Nat → World → Prop} (h : VC_ref14_Fill b0p b0l b0c wide1 w J) : callJ Try.prog fn_ref14_Fill #[.slice b0p b0l b0c, .int .i64 wide1] w [.one .slice] J := vc_calls Try.func23 ann_ref14_Fill (Eq.mpr (eq_ref14_Fill b0p b0l b0c wide1 w J) h)

end Go.Proofs.Ytgplflecgnldeaa
