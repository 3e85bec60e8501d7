/- What the conditions of these functions are, reckoned by the reading; printed by program. -/
import Derived.Test.YtkgfbphdmnapdaaGreatDoorNm
import Derived.KernelRfl
set_option maxRecDepth 100000
set_option linter.unusedVariables false
namespace Go.Proofs.YtkgfbphdmnapdaaGreatDoor
open Go Go.Vc

/-- unicode/utf8.DecodeRune -/
def VC_unicode_utf8_DecodeRune (p0p : Option Addr) (p0l : Nat) (p0c : Nat) (w : World) (J : Int → Int → World → Prop) : Prop :=
  withJ (fun (w1 : World) =>
  callJ Tryz.prog fn_unicode_utf8_decodeRuneSlow #[.slice p0p p0l p0c] w1 [.one (.int .i32), .one (.int .i64)] fun (r19_0 : Int) (r19_1 : Int) (w2 : World) =>
  J r19_0 r19_1 w2) fun J_0 =>
  ∃ I_8 : Int → World → Nat → Prop, (∃ m : Nat, I_8 (0 : Int) w m) ∧ ∀ (x8 : Int) (w3 : World) (m : Nat), I_8 x8 w3 m → (
  condB (decide (x8 < ((p0l : Nat) : Int))) (
  idxA p0p p0l x8 fun a10 =>
  ldI .u8 w3 ((a10.add (x8.toNat * 1))) fun x11 =>
  condB (decide (x11 < (128 : Int))) (
  J (IntKind.i32.wrap x11) (1 : Int) w3) (
  J_0 w3)) (
  J_0 w3))
def ann_unicode_utf8_DecodeRune : Ann := .s (.o) (.j [] (.s (.o) (.b (.l [(8, .int .i64)] (.s (.o) (.s (.c (.o) (.o)) (.s (.b (.s (.o) (.s (.s (.o) (.c (.s (.o) (.o)) (.o))) (.o)))) (.u))))))) (.s (.o) (.o)))
theorem eq_unicode_utf8_DecodeRune (p0p : Option Addr) (p0l : Nat) (p0c : Nat) (w : World) (J : Int → Int → World → Prop) : vcFun Tryz.prog Tryz.f112 ann_unicode_utf8_DecodeRune [.one (.int .i32), .one (.int .i64)] [.slice p0p p0l p0c] w J = VC_unicode_utf8_DecodeRune p0p p0l p0c w J := by kernel_rfl
theorem c_unicode_utf8_DecodeRune {p0p : Option Addr} {p0l : Nat} {p0c : Nat} {w : World} {J : Int → Int → World → Prop} (h : VC_unicode_utf8_DecodeRune p0p p0l p0c w J) : callJ Tryz.prog fn_unicode_utf8_DecodeRune #[.slice p0p p0l p0c] w [.one (.int .i32), .one (.int .i64)] J := vc_calls Tryz.func112 ann_unicode_utf8_DecodeRune (Eq.mpr (eq_unicode_utf8_DecodeRune p0p p0l p0c w J) h)

/-- unicode/utf8.decodeRuneSlow -/
def VC_unicode_utf8_decodeRuneSlow (p0p : Option Addr) (p0l : Nat) (p0c : Nat) (w : World) (J : Int → Int → World → Prop) : Prop :=
  condB (decide (((p0l : Nat) : Int) < (1 : Int))) (
  J (65533 : Int) (0 : Int) w) (
  idxA p0p p0l (0 : Int) fun a18 =>
  ldI .u8 w ((a18.add ((0 : Int).toNat * 1))) fun x19 =>
  idxA (some ⟨0, 0, none⟩) 256 x19 fun a21 =>
  ldI .u8 w ((a21.add (x19.toNat * 1))) fun x22 =>
  condB (decide (x22 ≥ (240 : Int))) (
  0 ≤ (31 : Int) ∧
  0 ≤ (31 : Int) ∧
  idxA p0p p0l (0 : Int) fun a30 =>
  ldI .u8 w ((a30.add ((0 : Int).toNat * 1))) fun x31 =>
  J (bOr .i32 (bAndNot .i32 (IntKind.i32.wrap x31) (shrI .i32 (shlI .i32 (IntKind.i32.wrap x22) (31 : Int)) (31 : Int))) (bAnd .i32 (65533 : Int) (shrI .i32 (shlI .i32 (IntKind.i32.wrap x22) (31 : Int)) (31 : Int)))) (1 : Int) w) (
  0 ≤ (4 : Int) ∧
  idxA (some ⟨1, 0, none⟩) 16 (shrI .u8 x22 (4 : Int)) fun a43 =>
  ldI .u8 w ((a43.add ((shrI .u8 x22 (4 : Int)).toNat * 2))) fun x44_0 =>
  ldI .u8 w (((a43.add ((shrI .u8 x22 (4 : Int)).toNat * 2)).add 1)) fun x44_1 =>
  newB w (.cells (zeroC Tryz.prog T_utf8_acceptRange) T_utf8_acceptRange) fun b9 w1 =>
  stN w1 ⟨b9, 0, none⟩ ⟨[.int .u8 x44_0, .int .u8 x44_1]⟩ 2 fun w2 =>
  condB (decide (((p0l : Nat) : Int) < (w64 (bAnd .u8 x22 (7 : Int))))) (
  J (65533 : Int) (1 : Int) w2) (
  idxA p0p p0l (1 : Int) fun a49 =>
  ldI .u8 w2 ((a49.add ((1 : Int).toNat * 1))) fun x50 =>
  withJ (fun (x60 : Bool) (w3 : World) =>
  condB x60 (
  J (65533 : Int) (1 : Int) w3) (
  condB (decide ((w64 (bAnd .u8 x22 (7 : Int))) ≤ (2 : Int))) (
  0 ≤ (6 : Int) ∧
  J (bOr .i32 (shlI .i32 (IntKind.i32.wrap (bAnd .u8 x19 (31 : Int))) (6 : Int)) (IntKind.i32.wrap (bAnd .u8 x50 (63 : Int)))) (2 : Int) w3) (
  idxA p0p p0l (2 : Int) fun a72 =>
  ldI .u8 w3 ((a72.add ((2 : Int).toNat * 1))) fun x73 =>
  withJ (fun (x79 : Bool) (w4 : World) =>
  condB x79 (
  J (65533 : Int) (1 : Int) w4) (
  condB (decide ((w64 (bAnd .u8 x22 (7 : Int))) ≤ (3 : Int))) (
  0 ≤ (12 : Int) ∧
  0 ≤ (6 : Int) ∧
  J (bOr .i32 (bOr .i32 (shlI .i32 (IntKind.i32.wrap (bAnd .u8 x19 (15 : Int))) (12 : Int)) (shlI .i32 (IntKind.i32.wrap (bAnd .u8 x50 (63 : Int))) (6 : Int))) (IntKind.i32.wrap (bAnd .u8 x73 (63 : Int)))) (3 : Int) w4) (
  idxA p0p p0l (3 : Int) fun a96 =>
  ldI .u8 w4 ((a96.add ((3 : Int).toNat * 1))) fun x97 =>
  withJ (fun (x103 : Bool) (w5 : World) =>
  condB x103 (
  J (65533 : Int) (1 : Int) w5) (
  0 ≤ (18 : Int) ∧
  0 ≤ (12 : Int) ∧
  0 ≤ (6 : Int) ∧
  J (bOr .i32 (bOr .i32 (bOr .i32 (shlI .i32 (IntKind.i32.wrap (bAnd .u8 x19 (7 : Int))) (18 : Int)) (shlI .i32 (IntKind.i32.wrap (bAnd .u8 x50 (63 : Int))) (12 : Int))) (shlI .i32 (IntKind.i32.wrap (bAnd .u8 x73 (63 : Int))) (6 : Int))) (IntKind.i32.wrap (bAnd .u8 x97 (63 : Int)))) (4 : Int) w5)) fun J_103 =>
  condB (decide (x97 < (128 : Int))) (
  J_103 true w4) (
  J_103 (decide ((191 : Int) < x97)) w4)))) fun J_79 =>
  condB (decide (x73 < (128 : Int))) (
  J_79 true w3) (
  J_79 (decide ((191 : Int) < x73)) w3)))) fun J_60 =>
  ldI .u8 w2 ⟨b9, 0, none⟩ fun x53 =>
  condB (decide (x50 < x53)) (
  J_60 true w2) (
  ldI .u8 w2 ⟨b9, 1, none⟩ fun x57 =>
  J_60 (decide (x57 < x50)) w2))))
def ann_unicode_utf8_decodeRuneSlow : Ann := .s (.o) (.s (.o) (.s (.s (.o) (.c (.s (.o) (.o)) (.o))) (.s (.o) (.s (.o) (.s (.s (.o) (.c (.s (.o) (.s (.o) (.o))) (.o))) (.s (.o) (.s (.o) (.s (.s (.o) (.c (.s (.o) (.o)) (.o))) (.s (.o) (.s (.j [(60, .bool)] (.o) (.c (.s (.o) (.o)) (.o))) (.s (.s (.o) (.c (.s (.o) (.o)) (.o))) (.s (.o) (.s (.j [(79, .bool)] (.o) (.c (.s (.o) (.o)) (.o))) (.s (.s (.o) (.c (.s (.o) (.o)) (.o))) (.s (.o) (.s (.j [(103, .bool)] (.o) (.c (.s (.o) (.o)) (.o))) (.s (.o) (.o))))))))))))))))))
theorem eq_unicode_utf8_decodeRuneSlow (p0p : Option Addr) (p0l : Nat) (p0c : Nat) (w : World) (J : Int → Int → World → Prop) : vcFun Tryz.prog Tryz.f120 ann_unicode_utf8_decodeRuneSlow [.one (.int .i32), .one (.int .i64)] [.slice p0p p0l p0c] w J = VC_unicode_utf8_decodeRuneSlow p0p p0l p0c w J := by kernel_rfl
theorem c_unicode_utf8_decodeRuneSlow {p0p : Option Addr} {p0l : Nat} {p0c : Nat} {w : World} {J : Int → Int → World → Prop} (h : VC_unicode_utf8_decodeRuneSlow p0p p0l p0c w J) : callJ Tryz.prog fn_unicode_utf8_decodeRuneSlow #[.slice p0p p0l p0c] w [.one (.int .i32), .one (.int .i64)] J := vc_calls Tryz.func120 ann_unicode_utf8_decodeRuneSlow (Eq.mpr (eq_unicode_utf8_decodeRuneSlow p0p p0l p0c w J) h)

/-- unicode/utf8.word[string] -/
def VC_unicode_utf8_word_string (s0 : ByteArray) (w : World) (J : Int → World → Prop) : Prop :=
  idxStr s0 (0 : Int) fun x22 =>
  idxStr s0 (1 : Int) fun x25 =>
  0 ≤ (8 : Int) ∧
  idxStr s0 (2 : Int) fun x30 =>
  0 ≤ (16 : Int) ∧
  idxStr s0 (3 : Int) fun x35 =>
  0 ≤ (24 : Int) ∧
  idxStr s0 (4 : Int) fun x40 =>
  0 ≤ (32 : Int) ∧
  idxStr s0 (5 : Int) fun x45 =>
  0 ≤ (40 : Int) ∧
  idxStr s0 (6 : Int) fun x50 =>
  0 ≤ (48 : Int) ∧
  idxStr s0 (7 : Int) fun x55 =>
  0 ≤ (56 : Int) ∧
  J (bOr .u64 (bOr .u64 (bOr .u64 (bOr .u64 (bOr .u64 (bOr .u64 (bOr .u64 (IntKind.u64.wrap x22) (shlI .u64 (IntKind.u64.wrap x25) (8 : Int))) (shlI .u64 (IntKind.u64.wrap x30) (16 : Int))) (shlI .u64 (IntKind.u64.wrap x35) (24 : Int))) (shlI .u64 (IntKind.u64.wrap x40) (32 : Int))) (shlI .u64 (IntKind.u64.wrap x45) (40 : Int))) (shlI .u64 (IntKind.u64.wrap x50) (48 : Int))) (shlI .u64 (IntKind.u64.wrap x55) (56 : Int))) w.drew
def ann_unicode_utf8_word_string : Ann := .s (.o) (.s (.c .u (.o)) (.s (.d (.take 0 (.take 1 (.take 2 (.take 3 (.take 4 (.take 5 (.take 6 (.take 7 (.take 8 (.take 9 (.take 10 (.take 11 (.take 12 (.take 13 (.take 14 (.take 15 (.take 16 (.take 17 (.take 18 (.take 19 (.take 20 (.take 21 (.take 22 (.take 23 (.take 24 (.take 25 (.take 26 (.take 27 (.take 28 (.take 29 (.take 30 (.take 31 (.take 32 (.take 33 (.take 34 (.take 35 (.take 36 (.take 37 (.take 38 (.done))))))))))))))))))))))))))))))))))))))))) (.o)))
theorem eq_unicode_utf8_word_string (s0 : ByteArray) (w : World) (J : Int → World → Prop) : vcFun Tryz.prog Tryz.f99 ann_unicode_utf8_word_string [.one (.int .u64)] [.string s0] w J = VC_unicode_utf8_word_string s0 w J := by kernel_rfl
theorem c_unicode_utf8_word_string {s0 : ByteArray} {w : World} {J : Int → World → Prop} (h : VC_unicode_utf8_word_string s0 w J) : callJ Tryz.prog fn_unicode_utf8_word_string #[.string s0] w [.one (.int .u64)] J := vc_calls Tryz.func99 ann_unicode_utf8_word_string (Eq.mpr (eq_unicode_utf8_word_string s0 w J) h)

/-- unicode/utf8.ValidString -/
def VC_unicode_utf8_ValidString (s0 : ByteArray) (w : World) (J : Bool → World → Prop) : Prop :=
  ∃ I_0 : ByteArray → World → Nat → Prop, (∃ m : Nat, I_0 s0 w m) ∧ ∀ (s0 : ByteArray) (w1 : World) (m : Nat), I_0 s0 w1 m → (
  condB (decide ((s0.size : Int) > (0 : Int))) (
  idxStr s0 (0 : Int) fun x11 =>
  condB (decide (x11 < (128 : Int))) (
  slStr s0 (some (1 : Int)) none fun s15 =>
  withJ (fun (s0_1 : ByteArray) (w2 : World) =>
  ∃ m' : Nat, m' < m ∧ I_0 s0_1 w2 m') fun J_0 =>
  withJ (fun (x24 : Bool) (w3 : World) =>
  condB x24 (
  slStr s15 (some (8 : Int)) none fun s26 =>
  withJ (fun (x39 : Bool) (w4 : World) =>
  condB x39 (
  slStr s26 (some (16 : Int)) none fun s41 =>
  ∃ I_0_1 : ByteArray → World → Nat → Prop, (∃ m : Nat, I_0_1 s41 w4 m) ∧ ∀ (s0_2 : ByteArray) (w5 : World) (m_1 : Nat), I_0_1 s0_2 w5 m_1 → (
  withJ (fun (x62 : Bool) (w6 : World) =>
  condB x62 (
  slStr s0_2 (some (32 : Int)) none fun s64 =>
  ∃ m' : Nat, m' < m_1 ∧ I_0_1 s64 w6 m') (
  J_0 s0_2 w6)) fun J_62 =>
  condB (decide ((s0_2.size : Int) > (32 : Int))) (
  slStr s0_2 (some (8 : Int)) none fun s49 =>
  slStr s0_2 (some (16 : Int)) none fun s53 =>
  slStr s0_2 (some (24 : Int)) none fun s56 =>
  callJ Tryz.prog fn_unicode_utf8_word_string #[.string s0_2] w5.drew [.one (.int .u64)] fun (r47 : Int) (w7 : World) =>
  callJ Tryz.prog fn_unicode_utf8_word_string #[.string s49] w7 [.one (.int .u64)] fun (r50 : Int) (w8 : World) =>
  callJ Tryz.prog fn_unicode_utf8_word_string #[.string s53] w8 [.one (.int .u64)] fun (r54 : Int) (w9 : World) =>
  callJ Tryz.prog fn_unicode_utf8_word_string #[.string s56] w9 [.one (.int .u64)] fun (r57 : Int) (w10 : World) =>
  J_62 ((bAnd .u64 (bOr .u64 (bOr .u64 r47 r50) (bOr .u64 r54 r57)) (9259542123273814144 : Int)) == (0 : Int)) w10) (
  J_62 false w5.drew))) (
  J_0 s26 w4)) fun J_39 =>
  condB (decide ((s26.size : Int) > (16 : Int))) (
  slStr s26 (some (8 : Int)) none fun s34 =>
  callJ Tryz.prog fn_unicode_utf8_word_string #[.string s26] w3.drew [.one (.int .u64)] fun (r32 : Int) (w11 : World) =>
  callJ Tryz.prog fn_unicode_utf8_word_string #[.string s34] w11 [.one (.int .u64)] fun (r35 : Int) (w12 : World) =>
  J_39 ((bAnd .u64 (bOr .u64 r32 r35) (9259542123273814144 : Int)) == (0 : Int)) w12) (
  J_39 false w3.drew)) (
  J_0 s15 w3)) fun J_24 =>
  condB (decide ((s15.size : Int) > (8 : Int))) (
  callJ Tryz.prog fn_unicode_utf8_word_string #[.string s15] w1 [.one (.int .u64)] fun (r21 : Int) (w13 : World) =>
  J_24 ((bAnd .u64 r21 (9259542123273814144 : Int)) == (0 : Int)) w13) (
  J_24 false w1)) (
  idxA (some ⟨0, 0, none⟩) 256 x11 fun a66 =>
  ldI .u8 w1 ((a66.add (x11.toNat * 1))) fun x67 =>
  0 ≤ (4 : Int) ∧
  idxA (some ⟨1, 0, none⟩) 16 (shrI .u8 x67 (4 : Int)) fun a73 =>
  ldI .u8 w1 ((a73.add ((shrI .u8 x67 (4 : Int)).toNat * 2))) fun x74_0 =>
  ldI .u8 w1 (((a73.add ((shrI .u8 x67 (4 : Int)).toNat * 2)).add 1)) fun x74_1 =>
  newB w1 (.cells (zeroC Tryz.prog T_utf8_acceptRange) T_utf8_acceptRange) fun b6 w14 =>
  stN w14 ⟨b6, 0, none⟩ ⟨[.int .u8 x74_0, .int .u8 x74_1]⟩ 2 fun w15 =>
  condB ((w64 (bAnd .u8 x67 (7 : Int))) == (2 : Int)) (
  withJ (fun (x94 : Bool) (w16 : World) =>
  condB x94 (
  J false w16) (
  slStr s0 (some (2 : Int)) none fun s96 =>
  ∃ m' : Nat, m' < m ∧ I_0 s96 w16 m')) fun J_94 =>
  condB (decide ((s0.size : Int) < (2 : Int))) (
  J_94 true w15.drew) (
  idxStr s0 (1 : Int) fun x83 =>
  ldI .u8 w15.drew ⟨b6, 0, none⟩ fun x85 =>
  condB (decide (x83 < x85)) (
  J_94 true w15.drew) (
  ldI .u8 w15.drew ⟨b6, 1, none⟩ fun x90 =>
  idxStr s0 (1 : Int) fun x92 =>
  J_94 (decide (x90 < x92)) w15.drew))) (
  condB ((w64 (bAnd .u8 x67 (7 : Int))) == (3 : Int)) (
  withJ (fun (x125 : Bool) (w17 : World) =>
  condB x125 (
  J false w17) (
  slStr s0 (some (3 : Int)) none fun s127 =>
  ∃ m' : Nat, m' < m ∧ I_0 s127 w17 m')) fun J_125 =>
  condB (decide ((s0.size : Int) < (3 : Int))) (
  J_125 true w15.drew) (
  idxStr s0 (1 : Int) fun x104 =>
  ldI .u8 w15.drew ⟨b6, 0, none⟩ fun x106 =>
  condB (decide (x104 < x106)) (
  J_125 true w15.drew) (
  ldI .u8 w15.drew ⟨b6, 1, none⟩ fun x111 =>
  idxStr s0 (1 : Int) fun x113 =>
  condB (decide (x111 < x113)) (
  J_125 true w15.drew) (
  idxStr s0 (2 : Int) fun x118 =>
  condB (decide (x118 < (128 : Int))) (
  J_125 true w15.drew) (
  idxStr s0 (2 : Int) fun x123 =>
  J_125 (decide ((191 : Int) < x123)) w15.drew))))) (
  condB ((w64 (bAnd .u8 x67 (7 : Int))) == (4 : Int)) (
  withJ (fun (x166 : Bool) (w18 : World) =>
  condB x166 (
  J false w18) (
  slStr s0 (some (4 : Int)) none fun s168 =>
  ∃ m' : Nat, m' < m ∧ I_0 s168 w18 m')) fun J_166 =>
  condB (decide ((s0.size : Int) < (4 : Int))) (
  J_166 true w15.drew) (
  idxStr s0 (1 : Int) fun x135 =>
  ldI .u8 w15.drew ⟨b6, 0, none⟩ fun x137 =>
  condB (decide (x135 < x137)) (
  J_166 true w15.drew) (
  ldI .u8 w15.drew ⟨b6, 1, none⟩ fun x142 =>
  idxStr s0 (1 : Int) fun x144 =>
  condB (decide (x142 < x144)) (
  J_166 true w15.drew) (
  idxStr s0 (2 : Int) fun x149 =>
  condB (decide (x149 < (128 : Int))) (
  J_166 true w15.drew) (
  idxStr s0 (2 : Int) fun x154 =>
  condB (decide ((191 : Int) < x154)) (
  J_166 true w15.drew) (
  idxStr s0 (3 : Int) fun x159 =>
  condB (decide (x159 < (128 : Int))) (
  J_166 true w15.drew) (
  idxStr s0 (3 : Int) fun x164 =>
  J_166 (decide ((191 : Int) < x164)) w15.drew))))))) (
  J false w15))))) (
  J true w1))
def ann_unicode_utf8_ValidString : Ann := .s (.o) (.s (.b (.l [(0, .str)] (.s (.s (.o) (.c (.o) (.o))) (.b (.s (.o) (.s (.s (.o) (.c (.s (.o) (.j [(0, .str)] (.j [(24, .bool)] (.o) (.c (.s (.o) (.j [(39, .bool)] (.d (.take 0 (.take 1 (.take 2 (.take 3 (.take 4 (.take 6 (.take 7 (.eff 5 (.eff 8 (.take 9 (.take 10 (.take 11 (.take 12 (.done))))) (.none)) (.none)))))))))) (.c (.s (.o) (.b (.l [(0, .str)] (.s (.j [(62, .bool)] (.d (.take 0 (.take 1 (.take 2 (.take 3 (.take 4 (.take 6 (.take 7 (.take 10 (.take 11 (.take 13 (.take 14 (.eff 5 (.eff 8 (.take 9 (.eff 12 (.eff 15 (.take 16 (.take 17 (.take 18 (.take 19 (.take 20 (.done)))))) (.none)) (.none))) (.none)) (.none)))))))))))))) (.c (.o) (.o))) (.b (.o)))))) (.o)))) (.o))) (.o))) (.o))) (.s (.o) (.s (.o) (.s (.o) (.s (.o) (.b (.s (.o) (.c (.s (.j [(94, .bool)] (.d (.take 0 (.take 1 (.take 2 (.take 3 (.take 4 (.take 5 (.take 6 (.take 7 (.take 8 (.take 9 (.take 10 (.take 11 (.take 12 (.take 13 (.take 14 (.take 15 (.take 16 (.done))))))))))))))))))) (.c (.s (.o) (.o)) (.o))) (.o)) (.s (.o) (.c (.s (.j [(125, .bool)] (.d (.take 0 (.take 1 (.take 2 (.take 3 (.take 4 (.take 5 (.take 6 (.take 7 (.take 8 (.take 9 (.take 10 (.take 11 (.take 12 (.take 13 (.take 14 (.take 15 (.take 16 (.take 17 (.take 18 (.take 19 (.take 20 (.take 21 (.take 22 (.take 23 (.take 24 (.take 25 (.take 26 (.done))))))))))))))))))))))))))))) (.c (.s (.o) (.o)) (.o))) (.o)) (.s (.o) (.c (.s (.j [(166, .bool)] (.d (.take 0 (.take 1 (.take 2 (.take 3 (.take 4 (.take 5 (.take 6 (.take 7 (.take 8 (.take 9 (.take 10 (.take 11 (.take 12 (.take 13 (.take 14 (.take 15 (.take 16 (.take 17 (.take 18 (.take 19 (.take 20 (.take 21 (.take 22 (.take 23 (.take 24 (.take 25 (.take 26 (.take 27 (.take 28 (.take 29 (.take 30 (.take 31 (.take 32 (.take 33 (.take 34 (.take 35 (.take 36 (.done))))))))))))))))))))))))))))))))))))))) (.c (.s (.o) (.o)) (.o))) (.o)) (.s (.o) (.o))))))))))))))))))) (.s (.o) (.o)))
theorem eq_unicode_utf8_ValidString (s0 : ByteArray) (w : World) (J : Bool → World → Prop) : vcFun Tryz.prog Tryz.f78 ann_unicode_utf8_ValidString [.one .bool] [.string s0] w J = VC_unicode_utf8_ValidString s0 w J := by kernel_rfl
theorem c_unicode_utf8_ValidString {s0 : ByteArray} {w : World} {J : Bool → World → Prop} (h : VC_unicode_utf8_ValidString s0 w J) : callJ Tryz.prog fn_unicode_utf8_ValidString #[.string s0] w [.one .bool] J := vc_calls Tryz.func78 ann_unicode_utf8_ValidString (Eq.mpr (eq_unicode_utf8_ValidString s0 w J) h)

end Go.Proofs.YtkgfbphdmnapdaaGreatDoor
