/- What the conditions of these functions are, reckoned by the reading; printed by program. -/
import Derived.Test.YtdjehimkijlhgaaDoorNm
import Derived.KernelRfl
set_option maxRecDepth 100000
set_option linter.unusedVariables false
namespace Go.Proofs.YtdjehimkijlhgaaDoor
open Go Go.Vc

/-- (strings.Replacer).buildOnce -/
def VC_strings_Replacer_buildOnce (r0 : Option Addr) (w : World) (J : World → Prop) : Prop :=
  callJ Tryd.prog fn_strings_Replacer_build #[.pointer r0] w [.one .val] fun (r4 : Value) (w1 : World) =>
  nonNil r0 fun a5 =>
  condT (Value.oneCell' r4) (
  stV w1 ((a5.add 3)) r4 fun w2 =>
  nonNil r0 fun a8 =>
  stV w2 ((a8.add 4)) (.slice none 0 0) fun w3 =>
  J w3)
def ann_strings_Replacer_buildOnce : Ann := .s (.o) (.o)
theorem eq_strings_Replacer_buildOnce (r0 : Option Addr) (w : World) (J : World → Prop) : vcFun Tryd.prog Tryd.f78 ann_strings_Replacer_buildOnce [] [.pointer r0] w J = VC_strings_Replacer_buildOnce r0 w J := by kernel_rfl
theorem c_strings_Replacer_buildOnce {r0 : Option Addr} {w : World} {J : World → Prop} (h : VC_strings_Replacer_buildOnce r0 w J) : callJ Tryd.prog fn_strings_Replacer_buildOnce #[.pointer r0] w [] J := vc_calls Tryd.func78 ann_strings_Replacer_buildOnce (Eq.mpr (eq_strings_Replacer_buildOnce r0 w J) h)

/-- strings.NewReplacer -/
def VC_strings_NewReplacer (oldnew0p : Option Addr) (oldnew0l : Nat) (oldnew0c : Nat) (w : World) (J : Option Addr → World → Prop) : Prop :=
  (2 : Int) ≠ 0 ∧
  condB ((Int.tmod ((oldnew0l : Nat) : Int) (2 : Int)) == (1 : Int)) (
  False) (
  appJ Tryd.prog T_sl_string T_sl_string (.slice none 0 0) (.slice oldnew0p oldnew0l oldnew0c) w fun q9p q9l q9c w1 =>
  newB w1 (.cells ⟨[.int .u32 (0 : Int), .int .i32 (0 : Int), .int .u32 (0 : Int), .nilIface, .slice q9p q9l q9c]⟩ T_strings_Replacer) fun b11 w2 =>
  J (some ⟨b11, 0, none⟩) w2)
def ann_strings_NewReplacer : Ann := .s (.o) (.s (.s (.o) (.c (.o) (.o))) (.s (.o) (.o)))
theorem eq_strings_NewReplacer (oldnew0p : Option Addr) (oldnew0l : Nat) (oldnew0c : Nat) (w : World) (J : Option Addr → World → Prop) : vcFun Tryd.prog Tryd.f52 ann_strings_NewReplacer [.one .ptr] [.slice oldnew0p oldnew0l oldnew0c] w J = VC_strings_NewReplacer oldnew0p oldnew0l oldnew0c w J := by kernel_rfl
theorem c_strings_NewReplacer {oldnew0p : Option Addr} {oldnew0l : Nat} {oldnew0c : Nat} {w : World} {J : Option Addr → World → Prop} (h : VC_strings_NewReplacer oldnew0p oldnew0l oldnew0c w J) : callJ Tryd.prog fn_strings_NewReplacer #[.slice oldnew0p oldnew0l oldnew0c] w [.one .ptr] J := vc_calls Tryd.func52 ann_strings_NewReplacer (Eq.mpr (eq_strings_NewReplacer oldnew0p oldnew0l oldnew0c w J) h)

/-- (strings.Replacer).build -/
def VC_strings_Replacer_build (b0 : Option Addr) (w : World) (J : Value → World → Prop) : Prop :=
  nonNil b0 fun a16 =>
  ldS w ((a16.add 4)) fun x18p x18l x18c =>
  withJ (fun (x28 : Bool) (w1 : World) =>
  condB x28 (
  idxA x18p x18l (0 : Int) fun a30 =>
  ldStr w1.drew ((a30.add ((0 : Int).toNat * 1))) fun x31 =>
  idxA x18p x18l (1 : Int) fun a33 =>
  ldStr w1.drew ((a33.add ((1 : Int).toNat * 1))) fun x34 =>
  callJ Tryd.prog fn_strings_makeSingleStringReplacer #[.string x31, .string x34] w1.drew [.one .ptr] fun (r35 : Option Addr) (w2 : World) =>
  J ((.iface T_ptr_strings_singleStringReplacer (.pointer r35))) w2) (
  ∃ I_4 : Bool → Int → World → Nat → Prop, (∃ m : Nat, I_4 true (0 : Int) w1 m) ∧ ∀ (allNewBytes4 : Bool) (i5 : Int) (w3 : World) (m : Nat), I_4 allNewBytes4 i5 w3 m → (
  condB (decide (i5 < ((x18l : Nat) : Int))) (
  withJ (fun (allNewBytes4_1 : Bool) (w4 : World) =>
  ∃ m' : Nat, m' < m ∧ I_4 allNewBytes4_1 (w64 (i5 + (2 : Int))) w4 m') fun J_4 =>
  idxA x18p x18l i5 fun a45 =>
  ldStr w3 ((a45.add (i5.toNat * 1))) fun x46 =>
  condB ((x46.size : Int) != (1 : Int)) (
  callJ Tryd.prog fn_strings_makeGenericReplacer #[.slice x18p x18l x18c] w3 [.one .ptr] fun (r50 : Option Addr) (w5 : World) =>
  J ((.iface T_ptr_strings_genericReplacer (.pointer r50))) w5) (
  idxA x18p x18l (w64 (i5 + (1 : Int))) fun a55 =>
  ldStr w3 ((a55.add ((w64 (i5 + (1 : Int))).toNat * 1))) fun x56 =>
  condB ((x56.size : Int) != (1 : Int)) (
  J_4 false w3) (
  J_4 allNewBytes4 w3))) (
  condB allNewBytes4 (
  newB w3 (.cells (zeroC Tryd.prog T_strings_byteReplacer) T_strings_byteReplacer) fun b6 w6 =>
  stN w6 ⟨b6, 0, none⟩ ⟨[.int .u8 (0 : Int), .int .u8 (0 : Int), .int .u8 (0 : Int), .int .u8 (0 : Int), .int .u8 (0 : Int), .int .u8 (0 : Int), .int .u8 (0 : Int), .int .u8 (0 : Int), .int .u8 (0 : Int), .int .u8 (0 : Int), .int .u8 (0 : Int), .int .u8 (0 : Int), .int .u8 (0 : Int), .int .u8 (0 : Int), .int .u8 (0 : Int), .int .u8 (0 : Int), .int .u8 (0 : Int), .int .u8 (0 : Int), .int .u8 (0 : Int), .int .u8 (0 : Int), .int .u8 (0 : Int), .int .u8 (0 : Int), .int .u8 (0 : Int), .int .u8 (0 : Int), .int .u8 (0 : Int), .int .u8 (0 : Int), .int .u8 (0 : Int), .int .u8 (0 : Int), .int .u8 (0 : Int), .int .u8 (0 : Int), .int .u8 (0 : Int), .int .u8 (0 : Int), .int .u8 (0 : Int), .int .u8 (0 : Int), .int .u8 (0 : Int), .int .u8 (0 : Int), .int .u8 (0 : Int), .int .u8 (0 : Int), .int .u8 (0 : Int), .int .u8 (0 : Int), .int .u8 (0 : Int), .int .u8 (0 : Int), .int .u8 (0 : Int), .int .u8 (0 : Int), .int .u8 (0 : Int), .int .u8 (0 : Int), .int .u8 (0 : Int), .int .u8 (0 : Int), .int .u8 (0 : Int), .int .u8 (0 : Int), .int .u8 (0 : Int), .int .u8 (0 : Int), .int .u8 (0 : Int), .int .u8 (0 : Int), .int .u8 (0 : Int), .int .u8 (0 : Int), .int .u8 (0 : Int), .int .u8 (0 : Int), .int .u8 (0 : Int), .int .u8 (0 : Int), .int .u8 (0 : Int), .int .u8 (0 : Int), .int .u8 (0 : Int), .int .u8 (0 : Int), .int .u8 (0 : Int), .int .u8 (0 : Int), .int .u8 (0 : Int), .int .u8 (0 : Int), .int .u8 (0 : Int), .int .u8 (0 : Int), .int .u8 (0 : Int), .int .u8 (0 : Int), .int .u8 (0 : Int), .int .u8 (0 : Int), .int .u8 (0 : Int), .int .u8 (0 : Int), .int .u8 (0 : Int), .int .u8 (0 : Int), .int .u8 (0 : Int), .int .u8 (0 : Int), .int .u8 (0 : Int), .int .u8 (0 : Int), .int .u8 (0 : Int), .int .u8 (0 : Int), .int .u8 (0 : Int), .int .u8 (0 : Int), .int .u8 (0 : Int), .int .u8 (0 : Int), .int .u8 (0 : Int), .int .u8 (0 : Int), .int .u8 (0 : Int), .int .u8 (0 : Int), .int .u8 (0 : Int), .int .u8 (0 : Int), .int .u8 (0 : Int), .int .u8 (0 : Int), .int .u8 (0 : Int), .int .u8 (0 : Int), .int .u8 (0 : Int), .int .u8 (0 : Int), .int .u8 (0 : Int), .int .u8 (0 : Int), .int .u8 (0 : Int), .int .u8 (0 : Int), .int .u8 (0 : Int), .int .u8 (0 : Int), .int .u8 (0 : Int), .int .u8 (0 : Int), .int .u8 (0 : Int), .int .u8 (0 : Int), .int .u8 (0 : Int), .int .u8 (0 : Int), .int .u8 (0 : Int), .int .u8 (0 : Int), .int .u8 (0 : Int), .int .u8 (0 : Int), .int .u8 (0 : Int), .int .u8 (0 : Int), .int .u8 (0 : Int), .int .u8 (0 : Int), .int .u8 (0 : Int), .int .u8 (0 : Int), .int .u8 (0 : Int), .int .u8 (0 : Int), .int .u8 (0 : Int), .int .u8 (0 : Int), .int .u8 (0 : Int), .int .u8 (0 : Int), .int .u8 (0 : Int), .int .u8 (0 : Int), .int .u8 (0 : Int), .int .u8 (0 : Int), .int .u8 (0 : Int), .int .u8 (0 : Int), .int .u8 (0 : Int), .int .u8 (0 : Int), .int .u8 (0 : Int), .int .u8 (0 : Int), .int .u8 (0 : Int), .int .u8 (0 : Int), .int .u8 (0 : Int), .int .u8 (0 : Int), .int .u8 (0 : Int), .int .u8 (0 : Int), .int .u8 (0 : Int), .int .u8 (0 : Int), .int .u8 (0 : Int), .int .u8 (0 : Int), .int .u8 (0 : Int), .int .u8 (0 : Int), .int .u8 (0 : Int), .int .u8 (0 : Int), .int .u8 (0 : Int), .int .u8 (0 : Int), .int .u8 (0 : Int), .int .u8 (0 : Int), .int .u8 (0 : Int), .int .u8 (0 : Int), .int .u8 (0 : Int), .int .u8 (0 : Int), .int .u8 (0 : Int), .int .u8 (0 : Int), .int .u8 (0 : Int), .int .u8 (0 : Int), .int .u8 (0 : Int), .int .u8 (0 : Int), .int .u8 (0 : Int), .int .u8 (0 : Int), .int .u8 (0 : Int), .int .u8 (0 : Int), .int .u8 (0 : Int), .int .u8 (0 : Int), .int .u8 (0 : Int), .int .u8 (0 : Int), .int .u8 (0 : Int), .int .u8 (0 : Int), .int .u8 (0 : Int), .int .u8 (0 : Int), .int .u8 (0 : Int), .int .u8 (0 : Int), .int .u8 (0 : Int), .int .u8 (0 : Int), .int .u8 (0 : Int), .int .u8 (0 : Int), .int .u8 (0 : Int), .int .u8 (0 : Int), .int .u8 (0 : Int), .int .u8 (0 : Int), .int .u8 (0 : Int), .int .u8 (0 : Int), .int .u8 (0 : Int), .int .u8 (0 : Int), .int .u8 (0 : Int), .int .u8 (0 : Int), .int .u8 (0 : Int), .int .u8 (0 : Int), .int .u8 (0 : Int), .int .u8 (0 : Int), .int .u8 (0 : Int), .int .u8 (0 : Int), .int .u8 (0 : Int), .int .u8 (0 : Int), .int .u8 (0 : Int), .int .u8 (0 : Int), .int .u8 (0 : Int), .int .u8 (0 : Int), .int .u8 (0 : Int), .int .u8 (0 : Int), .int .u8 (0 : Int), .int .u8 (0 : Int), .int .u8 (0 : Int), .int .u8 (0 : Int), .int .u8 (0 : Int), .int .u8 (0 : Int), .int .u8 (0 : Int), .int .u8 (0 : Int), .int .u8 (0 : Int), .int .u8 (0 : Int), .int .u8 (0 : Int), .int .u8 (0 : Int), .int .u8 (0 : Int), .int .u8 (0 : Int), .int .u8 (0 : Int), .int .u8 (0 : Int), .int .u8 (0 : Int), .int .u8 (0 : Int), .int .u8 (0 : Int), .int .u8 (0 : Int), .int .u8 (0 : Int), .int .u8 (0 : Int), .int .u8 (0 : Int), .int .u8 (0 : Int), .int .u8 (0 : Int), .int .u8 (0 : Int), .int .u8 (0 : Int), .int .u8 (0 : Int), .int .u8 (0 : Int), .int .u8 (0 : Int), .int .u8 (0 : Int), .int .u8 (0 : Int), .int .u8 (0 : Int), .int .u8 (0 : Int), .int .u8 (0 : Int), .int .u8 (0 : Int), .int .u8 (0 : Int), .int .u8 (0 : Int), .int .u8 (0 : Int), .int .u8 (0 : Int), .int .u8 (0 : Int), .int .u8 (0 : Int), .int .u8 (0 : Int), .int .u8 (0 : Int), .int .u8 (0 : Int), .int .u8 (0 : Int), .int .u8 (0 : Int), .int .u8 (0 : Int)]⟩ 256 fun w7 =>
  ∃ I_61 : Int → World → Nat → Prop, (∃ m : Nat, I_61 (0 : Int) w7 m) ∧ ∀ (x61 : Int) (w8 : World) (m_1 : Nat), I_61 x61 w8 m_1 → (
  condB (decide (x61 < (256 : Int))) (
  idxA (some ⟨b6, 0, none⟩) 256 x61 fun a67 =>
  stV w8 ((a67.add (x61.toNat * 1))) (.int .u8 (IntKind.u8.wrap x61)) fun w9 =>
  ∃ m' : Nat, m' < m_1 ∧ I_61 (w64 (x61 + (1 : Int))) w9 m') (
  ∃ I_8 : Int → World → Nat → Prop, (∃ m : Nat, I_8 (w64 (((x18l : Nat) : Int) - (2 : Int))) w8 m) ∧ ∀ (i8 : Int) (w10 : World) (m_2 : Nat), I_8 i8 w10 m_2 → (
  condB (decide (i8 ≥ (0 : Int))) (
  idxA x18p x18l i8 fun a78 =>
  ldStr w10 ((a78.add (i8.toNat * 1))) fun x79 =>
  idxStr x79 (0 : Int) fun x80 =>
  idxA x18p x18l (w64 (i8 + (1 : Int))) fun a84 =>
  ldStr w10 ((a84.add ((w64 (i8 + (1 : Int))).toNat * 1))) fun x85 =>
  idxStr x85 (0 : Int) fun x86 =>
  idxA (some ⟨b6, 0, none⟩) 256 x80 fun a89 =>
  stV w10 ((a89.add (x80.toNat * 1))) (.int .u8 x86) fun w11 =>
  ∃ m' : Nat, m' < m_2 ∧ I_8 (w64 (i8 - (2 : Int))) w11 m') (
  J ((.iface T_ptr_strings_byteReplacer (.pointer (some ⟨b6, 0, none⟩)))) w10))))) (
  (2 : Int) ≠ 0 ∧
  mkS w3 T_string (zeroC Tryd.prog T_string) 1 16 (0 : Int) (w64 (Int.tdiv ((x18l : Nat) : Int) (2 : Int))) fun b94 w12 =>
  newB w12 (.cells (zeroC Tryd.prog T_strings_byteStringReplacer) T_strings_byteStringReplacer) fun b11 w13 =>
  stN w13 ⟨b11, 0, none⟩ ⟨[.slice none 0 0, .slice none 0 0, .slice none 0 0, .slice none 0 0, .slice none 0 0, .slice none 0 0, .slice none 0 0, .slice none 0 0, .slice none 0 0, .slice none 0 0, .slice none 0 0, .slice none 0 0, .slice none 0 0, .slice none 0 0, .slice none 0 0, .slice none 0 0, .slice none 0 0, .slice none 0 0, .slice none 0 0, .slice none 0 0, .slice none 0 0, .slice none 0 0, .slice none 0 0, .slice none 0 0, .slice none 0 0, .slice none 0 0, .slice none 0 0, .slice none 0 0, .slice none 0 0, .slice none 0 0, .slice none 0 0, .slice none 0 0, .slice none 0 0, .slice none 0 0, .slice none 0 0, .slice none 0 0, .slice none 0 0, .slice none 0 0, .slice none 0 0, .slice none 0 0, .slice none 0 0, .slice none 0 0, .slice none 0 0, .slice none 0 0, .slice none 0 0, .slice none 0 0, .slice none 0 0, .slice none 0 0, .slice none 0 0, .slice none 0 0, .slice none 0 0, .slice none 0 0, .slice none 0 0, .slice none 0 0, .slice none 0 0, .slice none 0 0, .slice none 0 0, .slice none 0 0, .slice none 0 0, .slice none 0 0, .slice none 0 0, .slice none 0 0, .slice none 0 0, .slice none 0 0, .slice none 0 0, .slice none 0 0, .slice none 0 0, .slice none 0 0, .slice none 0 0, .slice none 0 0, .slice none 0 0, .slice none 0 0, .slice none 0 0, .slice none 0 0, .slice none 0 0, .slice none 0 0, .slice none 0 0, .slice none 0 0, .slice none 0 0, .slice none 0 0, .slice none 0 0, .slice none 0 0, .slice none 0 0, .slice none 0 0, .slice none 0 0, .slice none 0 0, .slice none 0 0, .slice none 0 0, .slice none 0 0, .slice none 0 0, .slice none 0 0, .slice none 0 0, .slice none 0 0, .slice none 0 0, .slice none 0 0, .slice none 0 0, .slice none 0 0, .slice none 0 0, .slice none 0 0, .slice none 0 0, .slice none 0 0, .slice none 0 0, .slice none 0 0, .slice none 0 0, .slice none 0 0, .slice none 0 0, .slice none 0 0, .slice none 0 0, .slice none 0 0, .slice none 0 0, .slice none 0 0, .slice none 0 0, .slice none 0 0, .slice none 0 0, .slice none 0 0, .slice none 0 0, .slice none 0 0, .slice none 0 0, .slice none 0 0, .slice none 0 0, .slice none 0 0, .slice none 0 0, .slice none 0 0, .slice none 0 0, .slice none 0 0, .slice none 0 0, .slice none 0 0, .slice none 0 0, .slice none 0 0, .slice none 0 0, .slice none 0 0, .slice none 0 0, .slice none 0 0, .slice none 0 0, .slice none 0 0, .slice none 0 0, .slice none 0 0, .slice none 0 0, .slice none 0 0, .slice none 0 0, .slice none 0 0, .slice none 0 0, .slice none 0 0, .slice none 0 0, .slice none 0 0, .slice none 0 0, .slice none 0 0, .slice none 0 0, .slice none 0 0, .slice none 0 0, .slice none 0 0, .slice none 0 0, .slice none 0 0, .slice none 0 0, .slice none 0 0, .slice none 0 0, .slice none 0 0, .slice none 0 0, .slice none 0 0, .slice none 0 0, .slice none 0 0, .slice none 0 0, .slice none 0 0, .slice none 0 0, .slice none 0 0, .slice none 0 0, .slice none 0 0, .slice none 0 0, .slice none 0 0, .slice none 0 0, .slice none 0 0, .slice none 0 0, .slice none 0 0, .slice none 0 0, .slice none 0 0, .slice none 0 0, .slice none 0 0, .slice none 0 0, .slice none 0 0, .slice none 0 0, .slice none 0 0, .slice none 0 0, .slice none 0 0, .slice none 0 0, .slice none 0 0, .slice none 0 0, .slice none 0 0, .slice none 0 0, .slice none 0 0, .slice none 0 0, .slice none 0 0, .slice none 0 0, .slice none 0 0, .slice none 0 0, .slice none 0 0, .slice none 0 0, .slice none 0 0, .slice none 0 0, .slice none 0 0, .slice none 0 0, .slice none 0 0, .slice none 0 0, .slice none 0 0, .slice none 0 0, .slice none 0 0, .slice none 0 0, .slice none 0 0, .slice none 0 0, .slice none 0 0, .slice none 0 0, .slice none 0 0, .slice none 0 0, .slice none 0 0, .slice none 0 0, .slice none 0 0, .slice none 0 0, .slice none 0 0, .slice none 0 0, .slice none 0 0, .slice none 0 0, .slice none 0 0, .slice none 0 0, .slice none 0 0, .slice none 0 0, .slice none 0 0, .slice none 0 0, .slice none 0 0, .slice none 0 0, .slice none 0 0, .slice none 0 0, .slice none 0 0, .slice none 0 0, .slice none 0 0, .slice none 0 0, .slice none 0 0, .slice none 0 0, .slice none 0 0, .slice none 0 0, .slice none 0 0, .slice none 0 0, .slice none 0 0, .slice none 0 0, .slice none 0 0, .slice none 0 0, .slice none 0 0, .slice none 0 0, .slice none 0 0, .slice none 0 0, .slice none 0 0, .slice none 0 0, .slice none 0 0, .slice none 0 0, .slice none 0 0, .slice none 0 0, .slice none 0 0, .slice none 0 0, .slice (some ⟨b94, 0, none⟩) 0 ((w64 (Int.tdiv ((x18l : Nat) : Int) (2 : Int))).toNat)]⟩ 257 fun w14 =>
  ∃ I_12 : Int → World → Nat → Prop, (∃ m : Nat, I_12 (w64 (((x18l : Nat) : Int) - (2 : Int))) w14 m) ∧ ∀ (i12 : Int) (w15 : World) (m_3 : Nat), I_12 i12 w15 m_3 → (
  condB (decide (i12 ≥ (0 : Int))) (
  idxA x18p x18l i12 fun a105 =>
  ldStr w15 ((a105.add (i12.toNat * 1))) fun x106 =>
  idxStr x106 (0 : Int) fun x107 =>
  idxA x18p x18l (w64 (i12 + (1 : Int))) fun a111 =>
  ldStr w15 ((a111.add ((w64 (i12 + (1 : Int))).toNat * 1))) fun x112 =>
  withJ (fun (w16 : World) =>
  cvJ Tryd.prog T_string T_sl_uint8 (.string x112) w16 fun q128p q128l q128c w17 =>
  idxA (some ⟨b11, 0, none⟩) 256 x107 fun a130 =>
  stV w17 ((a130.add (x107.toNat * 1))) (.slice q128p q128l q128c) fun w18 =>
  ∃ m' : Nat, m' < m_3 ∧ I_12 (w64 (i12 - (2 : Int))) w18 m') fun J_0 =>
  idxA (some ⟨b11, 0, none⟩) 256 x107 fun a115 =>
  ldS w15 ((a115.add (x107.toNat * 1))) fun x116p x116l x116c =>
  condB x116p.isNone (
  ldS w15 ⟨b11, 256, none⟩ fun x119p x119l x119c =>
  newB w15 (.cells ⟨[.int .u8 x107]⟩ T_uint8) fun b121 w19 =>
  bytesOf w19 (some ⟨b121, 0, none⟩) 1 fun bs122 =>
  newB w19 (.cells ⟨[.string ⟨bs122.toArray⟩]⟩ T_string) fun b123 w20 =>
  appJ Tryd.prog T_sl_string T_sl_string (.slice x119p x119l x119c) (.slice (some ⟨b123, 0, none⟩) 1 1) w20 fun q124p q124l q124c w21 =>
  stV w21 ⟨b11, 256, none⟩ (.slice q124p q124l q124c) fun w22 =>
  J_0 w22) (
  J_0 w15)) (
  J ((.iface T_ptr_strings_byteStringReplacer (.pointer (some ⟨b11, 0, none⟩)))) w15))))))) fun J_28 =>
  condB (((x18l : Nat) : Int) == (2 : Int)) (
  idxA x18p x18l (0 : Int) fun a24 =>
  ldStr w ((a24.add ((0 : Int).toNat * 1))) fun x25 =>
  J_28 (decide ((x25.size : Int) > (1 : Int))) w) (
  J_28 false w)
def ann_strings_Replacer_build : Ann := .s (.o) (.s (.o) (.s (.j [(28, .bool)] (.o) (.c (.s (.d (.take 0 (.take 1 (.take 2 (.take 3 (.take 4 (.take 5 (.eff 6 (.take 7 (.take 8 (.done))) (.none))))))))) (.o)) (.o))) (.s (.o) (.s (.s (.o) (.b (.l [(4, .bool), (5, .int .i64)] (.s (.s (.o) (.c (.o) (.o))) (.j [(4, .bool)] (.b (.s (.s (.o) (.c (.s (.o) (.o)) (.o))) (.s (.o) (.c (.o) (.o))))) (.o)))))) (.s (.s (.o) (.c (.s (.o) (.s (.s (.o) (.b (.l [(61, .int .i64)] (.s (.o) (.s (.c (.o) (.o)) (.s (.b (.s (.o) (.o))) (.o))))))) (.s (.s (.o) (.b (.l [(8, .int .i64)] (.s (.s (.o) (.c (.o) (.o))) (.s (.b (.s (.o) (.s (.o) (.o)))) (.o)))))) (.s (.o) (.o))))) (.o))) (.s (.o) (.s (.s (.o) (.b (.l [(12, .int .i64)] (.s (.s (.o) (.c (.o) (.o))) (.s (.b (.s (.o) (.s (.o) (.j [] (.s (.o) (.c (.o) (.o))) (.o))))) (.o)))))) (.s (.o) (.o)))))))))
theorem eq_strings_Replacer_build (b0 : Option Addr) (w : World) (J : Value → World → Prop) : vcFun Tryd.prog Tryd.f94 ann_strings_Replacer_build [.one .val] [.pointer b0] w J = VC_strings_Replacer_build b0 w J := by kernel_rfl
theorem c_strings_Replacer_build {b0 : Option Addr} {w : World} {J : Value → World → Prop} (h : VC_strings_Replacer_build b0 w J) : callJ Tryd.prog fn_strings_Replacer_build #[.pointer b0] w [.one .val] J := vc_calls Tryd.func94 ann_strings_Replacer_build (Eq.mpr (eq_strings_Replacer_build b0 w J) h)

/-- (strings.byteStringReplacer).Replace -/
def VC_strings_byteStringReplacer_Replace (r0 : Option Addr) (s1 : ByteArray) (w : World) (J : ByteArray → World → Prop) : Prop :=
  withJ (fun (newSize5 : Int) (anyChanges6 : Bool) (w1 : World) =>
  condB (!anyChanges6) (
  J s1 w1) (
  mkS w1 T_uint8 (zeroC Tryd.prog T_uint8) 1 1 newSize5 newSize5 fun b85 w2 =>
  ∃ I_13 : Int → Int → World → Nat → Prop, (∃ m : Nat, I_13 (0 : Int) (0 : Int) w2 m) ∧ ∀ (j13 : Int) (i14 : Int) (w3 : World) (m : Nat), I_13 j13 i14 w3 m → (
  condB (decide (i14 < (s1.size : Int))) (
  withJ (fun (j13_1 : Int) (w4 : World) =>
  ∃ m' : Nat, m' < m ∧ I_13 j13_1 (w64 (i14 + (1 : Int))) w4 m') fun J_13 =>
  idxStr s1 i14 fun x94 =>
  nonNil r0 fun a97 =>
  idxA (some a97) 256 x94 fun a99 =>
  ldS w3 ((a99.add (x94.toNat * 1))) fun x100p x100l x100c =>
  condB (!x100p.isNone) (
  slS (some ⟨b85, 0, none⟩) (newSize5.toNat) (newSize5.toNat) 1 (some j13) none none fun q105p q105l q105c =>
  nonNil r0 fun a108 =>
  idxA (some a108) 256 x94 fun a110 =>
  ldS w3.drew ((a110.add (x94.toNat * 1))) fun x111p x111l x111c =>
  cpyJ Tryd.prog T_sl_uint8 T_sl_uint8 (.slice q105p q105l q105c) (.slice x111p x111l x111c) w3.drew fun x112 w5 =>
  J_13 (w64 (j13 + x112)) w5) (
  idxA (some ⟨b85, 0, none⟩) (newSize5.toNat) j13 fun a117 =>
  stV w3 ((a117.add (j13.toNat * 1))) (.int .u8 x94) fun w6 =>
  J_13 (w64 (j13 + (1 : Int))) w6)) (
  bytesOf w3 (some ⟨b85, 0, none⟩) (newSize5.toNat) fun bs121 =>
  J ⟨bs121.toArray⟩ w3)))) fun J_5 =>
  nonNil r0 fun a19 =>
  ldS w ((a19.add 256)) fun x21p x21l x21c =>
  condB (decide ((w64 (((x21l : Nat) : Int) * (8 : Int))) ≤ (s1.size : Int))) (
  nonNil r0 fun a28 =>
  ldS w ((a28.add 256)) fun x30p x30l x30c =>
  ∃ I_5 : Int → Bool → Int → World → Nat → Prop, (∃ m : Nat, I_5 (s1.size : Int) false (0 : Int) w m) ∧ ∀ (newSize5_1 : Int) (anyChanges6_1 : Bool) (x32 : Int) (w7 : World) (m_1 : Nat), I_5 newSize5_1 anyChanges6_1 x32 w7 m_1 → (
  condB (decide (x32 < ((x30l : Nat) : Int))) (
  withJ (fun (newSize5_2 : Int) (anyChanges6_2 : Bool) (w8 : World) =>
  ∃ m' : Nat, m' < m_1 ∧ I_5 newSize5_2 anyChanges6_2 (w64 (x32 + (1 : Int))) w8 m') fun J_5_1 =>
  idxA x30p x30l x32 fun a34 =>
  ldStr w7 ((a34.add (x32.toNat * 1))) fun x35 =>
  callJ Tryd.prog fn_strings_Count #[.string s1, .string x35] w7 [.one (.int .i64)] fun (r38 : Int) (w9 : World) =>
  condB (r38 != (0 : Int)) (
  idxStr x35 (0 : Int) fun x45 =>
  nonNil r0 fun a46 =>
  idxA (some a46) 256 x45 fun a48 =>
  ldS w9.drew ((a48.add (x45.toNat * 1))) fun x49p x49l x49c =>
  J_5_1 (w64 (newSize5_1 + (w64 (r38 * (w64 (((x49l : Nat) : Int) - (1 : Int))))))) true w9.drew) (
  J_5_1 newSize5_1 anyChanges6_1 w9)) (
  J_5 newSize5_1 anyChanges6_1 w7))) (
  ∃ I_5_1 : Int → Bool → Int → World → Nat → Prop, (∃ m : Nat, I_5_1 (s1.size : Int) false (0 : Int) w m) ∧ ∀ (newSize5_3 : Int) (anyChanges6_3 : Bool) (i10 : Int) (w10 : World) (m_2 : Nat), I_5_1 newSize5_3 anyChanges6_3 i10 w10 m_2 → (
  condB (decide (i10 < (s1.size : Int))) (
  withJ (fun (newSize5_4 : Int) (anyChanges6_4 : Bool) (w11 : World) =>
  ∃ m' : Nat, m' < m_2 ∧ I_5_1 newSize5_4 anyChanges6_4 (w64 (i10 + (1 : Int))) w11 m') fun J_5_2 =>
  idxStr s1 i10 fun x63 =>
  nonNil r0 fun a66 =>
  idxA (some a66) 256 x63 fun a68 =>
  ldS w10 ((a68.add (x63.toNat * 1))) fun x69p x69l x69c =>
  condB (!x69p.isNone) (
  nonNil r0 fun a74 =>
  idxA (some a74) 256 x63 fun a76 =>
  ldS w10 ((a76.add (x63.toNat * 1))) fun x77p x77l x77c =>
  J_5_2 (w64 (newSize5_3 + (w64 (((x77l : Nat) : Int) - (1 : Int))))) true w10) (
  J_5_2 newSize5_3 anyChanges6_3 w10)) (
  J_5 newSize5_3 anyChanges6_3 w10)))
def ann_strings_byteStringReplacer_Replace : Ann := .s (.o) (.s (.o) (.s (.o) (.j [(5, .int .i64), (6, .bool)] (.s (.o) (.c (.s (.o) (.b (.l [(5, .int .i64), (6, .bool), (32, .int .i64)] (.s (.o) (.s (.c (.o) (.o)) (.j [(5, .int .i64), (6, .bool)] (.b (.s (.o) (.s (.o) (.s (.o) (.c (.s (.d (.take 0 (.take 1 (.take 2 (.take 3 (.take 4 (.take 5 (.take 6 (.take 7 (.take 8 (.take 9 (.take 10 (.take 11 (.take 12 (.take 13 (.done)))))))))))))))) (.o)) (.o)))))) (.o))))))) (.s (.o) (.b (.l [(5, .int .i64), (6, .bool), (10, .int .i64)] (.s (.s (.o) (.c (.o) (.o))) (.j [(5, .int .i64), (6, .bool)] (.b (.s (.o) (.s (.o) (.c (.s (.o) (.o)) (.o))))) (.o)))))))) (.s (.s (.o) (.c (.s (.o) (.o)) (.o))) (.s (.o) (.s (.o) (.s (.s (.o) (.b (.l [(13, .int .i64), (14, .int .i64)] (.s (.s (.o) (.c (.o) (.o))) (.j [(13, .int .i64)] (.b (.s (.o) (.s (.o) (.c (.d (.take 0 (.take 1 (.take 2 (.take 3 (.take 4 (.take 5 (.take 6 (.take 7 (.take 8 (.take 9 (.eff 10 (.take 11 (.take 12 (.done))) (.none))))))))))))) (.s (.o) (.o)))))) (.o)))))) (.s (.o) (.o)))))))))
theorem eq_strings_byteStringReplacer_Replace (r0 : Option Addr) (s1 : ByteArray) (w : World) (J : ByteArray → World → Prop) : vcFun Tryd.prog Tryd.f187 ann_strings_byteStringReplacer_Replace [.one .str] [.pointer r0, .string s1] w J = VC_strings_byteStringReplacer_Replace r0 s1 w J := by kernel_rfl
theorem c_strings_byteStringReplacer_Replace {r0 : Option Addr} {s1 : ByteArray} {w : World} {J : ByteArray → World → Prop} (h : VC_strings_byteStringReplacer_Replace r0 s1 w J) : callJ Tryd.prog fn_strings_byteStringReplacer_Replace #[.pointer r0, .string s1] w [.one .str] J := vc_calls Tryd.func187 ann_strings_byteStringReplacer_Replace (Eq.mpr (eq_strings_byteStringReplacer_Replace r0 s1 w J) h)

/-- strings.Count -/
def VC_strings_Count (s0 : ByteArray) (substr1 : ByteArray) (w : World) (J : Int → World → Prop) : Prop :=
  condB ((substr1.size : Int) == (0 : Int)) (
  callJ Tryd.prog fn_unicode_utf8_RuneCountInString #[.string s0] w [.one (.int .i64)] fun (r11 : Int) (w1 : World) =>
  J (w64 (r11 + (1 : Int))) w1) (
  condB ((substr1.size : Int) == (1 : Int)) (
  idxStr substr1 (0 : Int) fun x18 =>
  extJ Tryd.prog fn_internal_bytealg_CountString #[.string s0, .int .u8 x18] w [.one (.int .i64)] fun (r19 : Int) (w2 : World) =>
  J r19 w2) (
  ∃ I_0 : ByteArray → Int → World → Nat → Prop, (∃ m : Nat, I_0 s0 (0 : Int) w m) ∧ ∀ (s0 : ByteArray) (n5 : Int) (w3 : World) (m : Nat), I_0 s0 n5 w3 m → (
  callJ Tryd.prog fn_strings_Index #[.string s0, .string substr1] w3 [.one (.int .i64)] fun (r22 : Int) (w4 : World) =>
  condB (r22 == (-1 : Int)) (
  J n5 w4) (
  slStr s0 (some (w64 (r22 + (substr1.size : Int)))) none fun s33 =>
  ∃ m' : Nat, m' < m ∧ I_0 s33 (w64 (n5 + (1 : Int))) w4 m'))))
def ann_strings_Count : Ann := .s (.o) (.s (.s (.o) (.c (.s (.o) (.o)) (.o))) (.s (.s (.o) (.c (.s (.o) (.o)) (.o))) (.s (.o) (.b (.l [(0, .str), (5, .int .i64)] (.b (.s (.o) (.s (.s (.o) (.c (.s (.o) (.o)) (.o))) (.s (.o) (.o))))))))))
theorem eq_strings_Count (s0 : ByteArray) (substr1 : ByteArray) (w : World) (J : Int → World → Prop) : vcFun Tryd.prog Tryd.f189 ann_strings_Count [.one (.int .i64)] [.string s0, .string substr1] w J = VC_strings_Count s0 substr1 w J := by kernel_rfl
theorem c_strings_Count {s0 : ByteArray} {substr1 : ByteArray} {w : World} {J : Int → World → Prop} (h : VC_strings_Count s0 substr1 w J) : callJ Tryd.prog fn_strings_Count #[.string s0, .string substr1] w [.one (.int .i64)] J := vc_calls Tryd.func189 ann_strings_Count (Eq.mpr (eq_strings_Count s0 substr1 w J) h)

/-- lectern/refer.Text -/
def VC_refer_Text (s0 : ByteArray) (w : World) (J : ByteArray → World → Prop) : Prop :=
  newB w (.cells ⟨[.string ⟨#[38]⟩, .string ⟨#[38, 97, 109, 112, 59]⟩, .string ⟨#[60]⟩, .string ⟨#[38, 108, 116, 59]⟩, .string ⟨#[62]⟩, .string ⟨#[38, 103, 116, 59]⟩, .string ⟨#[13]⟩, .string ⟨#[38, 35, 49, 51, 59]⟩]⟩ T_string) fun b3 w1 =>
  callJ Tryd.prog fn_strings_NewReplacer #[.slice (some ⟨b3, 0, none⟩) 8 8] w1 [.one .ptr] fun (r4 : Option Addr) (w2 : World) =>
  callJ Tryd.prog fn_strings_Replacer_Replace #[.pointer r4, .string s0] w2 [.one .str] fun (r6 : ByteArray) (w3 : World) =>
  J r6 w3
def ann_refer_Text : Ann := .s (.o) (.s (.o) (.o))
theorem eq_refer_Text (s0 : ByteArray) (w : World) (J : ByteArray → World → Prop) : vcFun Tryd.prog Tryd.f25 ann_refer_Text [.one .str] [.string s0] w J = VC_refer_Text s0 w J := by kernel_rfl
theorem c_refer_Text {s0 : ByteArray} {w : World} {J : ByteArray → World → Prop} (h : VC_refer_Text s0 w J) : callJ Tryd.prog fn_refer_Text #[.string s0] w [.one .str] J := vc_calls Tryd.func25 ann_refer_Text (Eq.mpr (eq_refer_Text s0 w J) h)

/-- lectern/refer.Quote -/
def VC_refer_Quote (s0 : ByteArray) (w : World) (J : ByteArray → World → Prop) : Prop :=
  newB w (.cells ⟨[.string ⟨#[38]⟩, .string ⟨#[38, 97, 109, 112, 59]⟩, .string ⟨#[60]⟩, .string ⟨#[38, 108, 116, 59]⟩, .string ⟨#[34]⟩, .string ⟨#[38, 113, 117, 111, 116, 59]⟩, .string ⟨#[9]⟩, .string ⟨#[38, 35, 57, 59]⟩, .string ⟨#[10]⟩, .string ⟨#[38, 35, 49, 48, 59]⟩, .string ⟨#[13]⟩, .string ⟨#[38, 35, 49, 51, 59]⟩]⟩ T_string) fun b3 w1 =>
  callJ Tryd.prog fn_strings_NewReplacer #[.slice (some ⟨b3, 0, none⟩) 12 12] w1 [.one .ptr] fun (r4 : Option Addr) (w2 : World) =>
  callJ Tryd.prog fn_strings_Replacer_Replace #[.pointer r4, .string s0] w2 [.one .str] fun (r6 : ByteArray) (w3 : World) =>
  J r6 w3
def ann_refer_Quote : Ann := .s (.o) (.s (.o) (.o))
theorem eq_refer_Quote (s0 : ByteArray) (w : World) (J : ByteArray → World → Prop) : vcFun Tryd.prog Tryd.f27 ann_refer_Quote [.one .str] [.string s0] w J = VC_refer_Quote s0 w J := by kernel_rfl
theorem c_refer_Quote {s0 : ByteArray} {w : World} {J : ByteArray → World → Prop} (h : VC_refer_Quote s0 w J) : callJ Tryd.prog fn_refer_Quote #[.string s0] w [.one .str] J := vc_calls Tryd.func27 ann_refer_Quote (Eq.mpr (eq_refer_Quote s0 w J) h)

end Go.Proofs.YtdjehimkijlhgaaDoor
