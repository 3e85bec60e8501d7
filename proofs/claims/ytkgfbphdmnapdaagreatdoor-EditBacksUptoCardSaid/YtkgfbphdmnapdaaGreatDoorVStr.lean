/- What the conditions of these functions are, reckoned by the reading; printed by program. -/
import Derived.Test.YtkgfbphdmnapdaaGreatDoorNm
import Derived.KernelRfl
set_option maxRecDepth 100000
set_option linter.unusedVariables false
namespace Go.Proofs.YtkgfbphdmnapdaaGreatDoor
open Go Go.Vc

/-- internal/stringslite.Index -/
def VC_internal_stringslite_Index (s0 : ByteArray) (substr1 : ByteArray) (w : World) (J : Int → World → Prop) : Prop :=
  withJ (fun (x16 : Bool) (w1 : World) =>
  condB x16 (
  J (0 : Int) w1) (
  condB ((substr1.size : Int) == (1 : Int)) (
  idxStr substr1 (0 : Int) fun x29 =>
  callJ Tryz.prog fn_internal_stringslite_IndexByte #[.string s0, .int .u8 x29] w1 [.one (.int .i64)] fun (r30 : Int) (w2 : World) =>
  J r30 w2) (
  condB (decide ((substr1.size : Int) ≥ (s0.size : Int))) (
  J (-1 : Int) w1) (
  withJ (fun (x36 : Bool) (w3 : World) =>
  condB x36 (
  extJ Tryz.prog fn_internal_bytealg_IndexString #[.string s0, .string substr1] w3 [.one (.int .i64)] fun (r47 : Int) (w4 : World) =>
  J r47 w4) (
  idxStr substr1 (0 : Int) fun x49 =>
  idxStr substr1 (1 : Int) fun x51 =>
  ∃ I_8 : Int → Int → World → Nat → Prop, (∃ m : Nat, I_8 (0 : Int) (0 : Int) w3 m) ∧ ∀ (i8 : Int) (fails10 : Int) (w5 : World) (m : Nat), I_8 i8 fails10 w5 m → (
  condB (decide (i8 < (w64 ((w64 ((s0.size : Int) - (substr1.size : Int))) + (1 : Int))))) (
  withJ (fun (i8_1 : Int) (w6 : World) =>
  withJ (fun (x93 : Bool) (w7 : World) =>
  condB x93 (
  J i8_1 w7) (
  withJ (fun (x107 : Bool) (w8 : World) =>
  condB x107 (
  slStr s0 (some (w64 (i8_1 + (1 : Int)))) none fun s110 =>
  extJ Tryz.prog fn_internal_bytealg_IndexString #[.string s110, .string substr1] w8 [.one (.int .i64)] fun (r112 : Int) (w9 : World) =>
  condB (decide (r112 ≥ (0 : Int))) (
  J (w64 (r112 + (w64 (i8_1 + (1 : Int))))) w9) (
  J (-1 : Int) w9)) (
  withJ (fun (x132 : Bool) (w10 : World) =>
  condB x132 (
  slStr s0 (some (w64 (i8_1 + (1 : Int)))) none fun s135 =>
  callJ Tryz.prog fn_internal_bytealg_IndexRabinKarp_string #[.string s135, .string substr1] w10 [.one (.int .i64)] fun (r137 : Int) (w11 : World) =>
  condB (decide (r137 < (0 : Int))) (
  J (-1 : Int) w11) (
  J (w64 ((w64 (i8_1 + (1 : Int))) + r137)) w11)) (
  ∃ m' : Nat, m' < m ∧ I_8 (w64 (i8_1 + (1 : Int))) (w64 (fails10 + (1 : Int))) w10 m')) fun J_132 =>
  ldI .i64 w8 ⟨5, 0, none⟩ fun x119 =>
  condB (decide ((substr1.size : Int) > x119)) (
  0 ≤ (4 : Int) ∧
  condB (decide ((w64 (fails10 + (1 : Int))) ≥ (w64 ((4 : Int) + (shrI .i64 (w64 (i8_1 + (1 : Int))) (4 : Int)))))) (
  J_132 (decide ((w64 (i8_1 + (1 : Int))) < (w64 ((w64 ((s0.size : Int) - (substr1.size : Int))) + (1 : Int))))) w8) (
  J_132 false w8)) (
  J_132 false w8))) fun J_107 =>
  ldI .i64 w7 ⟨5, 0, none⟩ fun x100 =>
  condB (decide ((substr1.size : Int) ≤ x100)) (
  callJ Tryz.prog fn_internal_bytealg_Cutover #[.int .i64 (w64 (i8_1 + (1 : Int)))] w7 [.one (.int .i64)] fun (r105 : Int) (w12 : World) =>
  J_107 (decide ((w64 (fails10 + (1 : Int))) > r105)) w12) (
  J_107 false w7))) fun J_93 =>
  idxStr s0 (w64 (i8_1 + (1 : Int))) fun x81 =>
  condB (x81 == x51) (
  slStr s0 (some i8_1) (some (w64 (i8_1 + (substr1.size : Int)))) fun s90 =>
  J_93 (s90.toList == substr1.toList) w6) (
  J_93 false w6)) fun J_8 =>
  idxStr s0 i8 fun x62 =>
  condB (x62 != x49) (
  slStr s0 (some (w64 (i8 + (1 : Int)))) (some (w64 ((w64 ((s0.size : Int) - (substr1.size : Int))) + (1 : Int)))) fun s69 =>
  callJ Tryz.prog fn_internal_stringslite_IndexByte #[.string s69, .int .u8 x49] w5 [.one (.int .i64)] fun (r71 : Int) (w13 : World) =>
  condB (decide (r71 < (0 : Int))) (
  J (-1 : Int) w13) (
  J_8 (w64 (i8 + (w64 (r71 + (1 : Int))))) w13)) (
  J_8 i8 w5)) (
  J (-1 : Int) w5)))) fun J_36 =>
  ldI .i64 w1 ⟨5, 0, none⟩ fun x38 =>
  condB (decide ((substr1.size : Int) ≤ x38)) (
  J_36 (decide ((s0.size : Int) ≤ (64 : Int))) w1) (
  J_36 false w1))))) fun J_16 =>
  condB ((substr1.size : Int) == (0 : Int)) (
  J_16 true w) (
  J_16 (substr1.toList == s0.toList) w)
def ann_internal_stringslite_Index : Ann := .s (.o) (.s (.o) (.s (.b (.j [(16, .bool)] (.o) (.c (.s (.o) (.o)) (.s (.o) (.c (.s (.o) (.o)) (.s (.o) (.c (.s (.o) (.o)) (.j [(36, .bool)] (.o) (.c (.s (.o) (.o)) (.o)))))))))) (.s (.o) (.s (.o) (.s (.o) (.s (.o) (.s (.o) (.s (.b (.l [(8, .int .i64), (10, .int .i64)] (.s (.s (.o) (.c (.o) (.o))) (.b (.j [(8, .int .i64)] (.s (.o) (.c (.s (.o) (.s (.s (.o) (.c (.s (.o) (.o)) (.o))) (.o))) (.o))) (.s (.j [(93, .bool)] (.o) (.c (.s (.o) (.o)) (.o))) (.s (.o) (.s (.o) (.j [(107, .bool)] (.o) (.c (.s (.o) (.s (.s (.o) (.c (.s (.o) (.o)) (.o))) (.s (.o) (.o)))) (.j [(132, .bool)] (.o) (.c (.s (.o) (.s (.s (.o) (.c (.s (.o) (.o)) (.o))) (.s (.o) (.o)))) (.o))))))))))))) (.s (.o) (.o))))))))))
theorem eq_internal_stringslite_Index (s0 : ByteArray) (substr1 : ByteArray) (w : World) (J : Int → World → Prop) : vcFun Tryz.prog Tryz.f106 ann_internal_stringslite_Index [.one (.int .i64)] [.string s0, .string substr1] w J = VC_internal_stringslite_Index s0 substr1 w J := by kernel_rfl
theorem c_internal_stringslite_Index {s0 : ByteArray} {substr1 : ByteArray} {w : World} {J : Int → World → Prop} (h : VC_internal_stringslite_Index s0 substr1 w J) : callJ Tryz.prog fn_internal_stringslite_Index #[.string s0, .string substr1] w [.one (.int .i64)] J := vc_calls Tryz.func106 ann_internal_stringslite_Index (Eq.mpr (eq_internal_stringslite_Index s0 substr1 w J) h)

/-- internal/stringslite.IndexByte -/
def VC_internal_stringslite_IndexByte (s0 : ByteArray) (c1 : Int) (w : World) (J : Int → World → Prop) : Prop :=
  extJ Tryz.prog fn_internal_bytealg_IndexByteString #[.string s0, .int .u8 c1] w [.one (.int .i64)] fun (r7 : Int) (w1 : World) =>
  J r7 w1
def ann_internal_stringslite_IndexByte : Ann := .s (.o) (.s (.o) (.o))
theorem eq_internal_stringslite_IndexByte (s0 : ByteArray) (c1 : Int) (w : World) (J : Int → World → Prop) : vcFun Tryz.prog Tryz.f114 ann_internal_stringslite_IndexByte [.one (.int .i64)] [.string s0, .int .u8 c1] w J = VC_internal_stringslite_IndexByte s0 c1 w J := by kernel_rfl
theorem c_internal_stringslite_IndexByte {s0 : ByteArray} {c1 : Int} {w : World} {J : Int → World → Prop} (h : VC_internal_stringslite_IndexByte s0 c1 w J) : callJ Tryz.prog fn_internal_stringslite_IndexByte #[.string s0, .int .u8 c1] w [.one (.int .i64)] J := vc_calls Tryz.func114 ann_internal_stringslite_IndexByte (Eq.mpr (eq_internal_stringslite_IndexByte s0 c1 w J) h)

end Go.Proofs.YtkgfbphdmnapdaaGreatDoor
