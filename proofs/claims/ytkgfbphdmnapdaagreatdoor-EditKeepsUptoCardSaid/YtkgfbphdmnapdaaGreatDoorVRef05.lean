/- What the conditions of these functions are, reckoned by the reading; printed by program. -/
import Derived.Test.YtkgfbphdmnapdaaGreatDoorNm
import Derived.KernelRfl
set_option maxRecDepth 100000
set_option linter.unusedVariables false
namespace Go.Proofs.YtkgfbphdmnapdaaGreatDoor
open Go Go.Vc

/-- lectern/lecternref05.Twin -/
def VC_ref05_Twin (n0_0 : Int) (n0_1 : ByteArray) (n0_2 : ByteArray) (n0_3p : Option Addr) (n0_3l : Nat) (n0_3c : Nat) (n0_4p : Option Addr) (n0_4l : Nat) (n0_4c : Nat) (n0_5 : ByteArray) (w : World) (J : Int → ByteArray → ByteArray → Option Addr → Nat → Nat → Option Addr → Nat → Nat → ByteArray → World → Prop) : Prop :=
  newB w (.cells ⟨[.int .i64 n0_0, .string n0_1, .string n0_2, .slice n0_3p n0_3l n0_3c, .slice n0_4p n0_4l n0_4c, .string n0_5]⟩ T_api_Node) fun b1 w1 =>
  newB w1 (.cells (zeroC Tryz.prog T_api_Node) T_api_Node) fun b2 w2 =>
  withJ (fun (out3 : Option Addr) (w3 : World) =>
  ldS w3 ⟨b1, 4, none⟩ fun x18p x18l x18c =>
  ∃ I_20 : Int → World → Nat → Prop, (∃ m : Nat, I_20 (0 : Int) w3 m) ∧ ∀ (x20 : Int) (w4 : World) (m : Nat), I_20 x20 w4 m → (
  condB (decide (x20 < ((x18l : Nat) : Int))) (
  idxA x18p x18l x20 fun a22 =>
  ldI .i64 w4 ((a22.add (x20.toNat * 6))) fun x23_0 =>
  ldStr w4 (((a22.add (x20.toNat * 6)).add 1)) fun x23_1 =>
  ldStr w4 (((a22.add (x20.toNat * 6)).add 2)) fun x23_2 =>
  ldS w4 (((a22.add (x20.toNat * 6)).add 3)) fun x23_3p x23_3l x23_3c =>
  ldS w4 (((a22.add (x20.toNat * 6)).add 4)) fun x23_4p x23_4l x23_4c =>
  ldStr w4 (((a22.add (x20.toNat * 6)).add 5)) fun x23_5 =>
  newB w4 (.cells (zeroC Tryz.prog T_api_Node) T_api_Node) fun b5 w5 =>
  stN w5 ⟨b5, 0, none⟩ ⟨[.int .i64 x23_0, .string x23_1, .string x23_2, .slice x23_3p x23_3l x23_3c, .slice x23_4p x23_4l x23_4c, .string x23_5]⟩ 6 fun w6 =>
  nonNil out3 fun a24 =>
  ldS w6.drew ((a24.add 4)) fun x25p x25l x25c =>
  ldI .i64 w6.drew ⟨b5, 0, none⟩ fun x26_0 =>
  ldStr w6.drew ⟨b5, 1, none⟩ fun x26_1 =>
  ldStr w6.drew ⟨b5, 2, none⟩ fun x26_2 =>
  ldS w6.drew ⟨b5, 3, none⟩ fun x26_3p x26_3l x26_3c =>
  ldS w6.drew ⟨b5, 4, none⟩ fun x26_4p x26_4l x26_4c =>
  ldStr w6.drew ⟨b5, 5, none⟩ fun x26_5 =>
  callJ Tryz.prog fn_ref05_Twin #[.agg ⟨[.int .i64 x26_0, .string x26_1, .string x26_2, .slice x26_3p x26_3l x26_3c, .slice x26_4p x26_4l x26_4c, .string x26_5]⟩] w6.drew [.agg [.int .i64, .str, .str, .slice, .slice, .str]] fun (r27_0 : Int) (r27_1 : ByteArray) (r27_2 : ByteArray) (r27_3p : Option Addr) (r27_3l : Nat) (r27_3c : Nat) (r27_4p : Option Addr) (r27_4l : Nat) (r27_4c : Nat) (r27_5 : ByteArray) (w7 : World) =>
  w7.cell? ((a24.add 4)) = some (.slice x25p x25l x25c) ∧
  Array.size (⟨[.int .i64 r27_0, .string r27_1, .string r27_2, .slice r27_3p r27_3l r27_3c, .slice r27_4p r27_4l r27_4c, .string r27_5]⟩ : Array Value) = 6 ∧
  newB w7 (.cells ⟨[.int .i64 r27_0, .string r27_1, .string r27_2, .slice r27_3p r27_3l r27_3c, .slice r27_4p r27_4l r27_4c, .string r27_5]⟩ T_api_Node) fun b28 w8 =>
  w8.cell? ((a24.add 4)) = some (.slice x25p x25l x25c) ∧
  appJ Tryz.prog T_sl_api_Node T_sl_api_Node (.slice x25p x25l x25c) (.slice (some ⟨b28, 0, none⟩) 1 1) w8 fun q29p q29l q29c w9 =>
  nonNil out3 fun a30 =>
  stV w9 ((a30.add 4)) (.slice q29p q29l q29c) fun w10 =>
  ∃ m' : Nat, m' < m ∧ I_20 (w64 (x20 + (1 : Int))) w10 m') (
  nonNil out3 fun a32 =>
  ldI .i64 w4 a32 fun x32_0 =>
  ldStr w4 ((a32.add 1)) fun x32_1 =>
  ldStr w4 ((a32.add 2)) fun x32_2 =>
  ldS w4 ((a32.add 3)) fun x32_3p x32_3l x32_3c =>
  ldS w4 ((a32.add 4)) fun x32_4p x32_4l x32_4c =>
  ldStr w4 ((a32.add 5)) fun x32_5 =>
  stN w4 ⟨b2, 0, none⟩ ⟨[.int .i64 x32_0, .string x32_1, .string x32_2, .slice x32_3p x32_3l x32_3c, .slice x32_4p x32_4l x32_4c, .string x32_5]⟩ 6 fun w11 =>
  ldI .i64 w11 ⟨b2, 0, none⟩ fun r_0 =>
  ldStr w11 ⟨b2, 1, none⟩ fun r_1 =>
  ldStr w11 ⟨b2, 2, none⟩ fun r_2 =>
  ldS w11 ⟨b2, 3, none⟩ fun r_3p r_3l r_3c =>
  ldS w11 ⟨b2, 4, none⟩ fun r_4p r_4l r_4c =>
  ldStr w11 ⟨b2, 5, none⟩ fun r_5 =>
  J r_0 r_1 r_2 r_3p r_3l r_3c r_4p r_4l r_4c r_5 w11))) fun J_3 =>
  ldI .i64 w2.drew ⟨b1, 0, none⟩ fun x7 =>
  ldStr w2.drew ⟨b1, 1, none⟩ fun x9_0 =>
  ldStr w2.drew ⟨b1, 2, none⟩ fun x9_1 =>
  ldStr w2.drew ⟨b1, 5, none⟩ fun x11 =>
  ldS w2.drew ⟨b1, 3, none⟩ fun x14p x14l x14c =>
  (
  newB w2.drew (.cells ⟨[]⟩ T_api_Attr) fun b12 w12 =>
  w12.cell? ⟨b1, 3, none⟩ = some (.slice x14p x14l x14c) ∧
  w12.cell? ⟨b1, 5, none⟩ = some (.string x11) ∧
  cellsAt w12 ⟨b1, 1, none⟩ [.string x9_0, .string x9_1] ∧
  w12.cell? ⟨b1, 0, none⟩ = some (.int .i64 x7) ∧
  (
  appJ Tryz.prog T_sl_api_Attr T_sl_api_Attr (.slice (some ⟨b12, 0, none⟩) 0 0) (.slice x14p x14l x14c) w12 fun q15p q15l q15c w13 =>
  w13.cell? ⟨b1, 5, none⟩ = some (.string x11) ∧
  cellsAt w13 ⟨b1, 1, none⟩ [.string x9_0, .string x9_1] ∧
  w13.cell? ⟨b1, 0, none⟩ = some (.int .i64 x7) ∧
  Array.size (⟨[.string x9_0, .string x9_1]⟩ : Array Value) = 2 ∧
  newB w13 (.cells (zeroC Tryz.prog T_api_Node) T_api_Node) fun b3 w14 =>
  w14.cell? ⟨b1, 3, none⟩ = some (.slice x14p x14l x14c) ∧
  w14.cell? ⟨b1, 5, none⟩ = some (.string x11) ∧
  cellsAt w14 ⟨b1, 1, none⟩ [.string x9_0, .string x9_1] ∧
  w14.cell? ⟨b1, 0, none⟩ = some (.int .i64 x7) ∧
  stN w14 ⟨b3, 0, none⟩ ⟨[.int .i64 x7, .string x9_0, .string x9_1, .slice q15p q15l q15c, .slice none 0 0, .string x11]⟩ 6 fun w15 =>
  J_3 (some ⟨b3, 0, none⟩) w15) ∧ (
  newB w12 (.cells (zeroC Tryz.prog T_api_Node) T_api_Node) fun b3_1 w16 =>
  w16.cell? ⟨b1, 3, none⟩ = some (.slice x14p x14l x14c) ∧
  w16.cell? ⟨b1, 5, none⟩ = some (.string x11) ∧
  cellsAt w16 ⟨b1, 1, none⟩ [.string x9_0, .string x9_1] ∧
  w16.cell? ⟨b1, 0, none⟩ = some (.int .i64 x7) ∧
  appJ Tryz.prog T_sl_api_Attr T_sl_api_Attr (.slice (some ⟨b12, 0, none⟩) 0 0) (.slice x14p x14l x14c) w16 fun q15_1p q15_1l q15_1c w17 =>
  w17.cell? ⟨b1, 5, none⟩ = some (.string x11) ∧
  cellsAt w17 ⟨b1, 1, none⟩ [.string x9_0, .string x9_1] ∧
  w17.cell? ⟨b1, 0, none⟩ = some (.int .i64 x7) ∧
  Array.size (⟨[.string x9_0, .string x9_1]⟩ : Array Value) = 2 ∧
  stN w17 ⟨b3_1, 0, none⟩ ⟨[.int .i64 x7, .string x9_0, .string x9_1, .slice q15_1p q15_1l q15_1c, .slice none 0 0, .string x11]⟩ 6 fun w18 =>
  J_3 (some ⟨b3_1, 0, none⟩) w18)) ∧ (
  newB w2.drew (.cells (zeroC Tryz.prog T_api_Node) T_api_Node) fun b3_2 w19 =>
  w19.cell? ⟨b1, 3, none⟩ = some (.slice x14p x14l x14c) ∧
  w19.cell? ⟨b1, 5, none⟩ = some (.string x11) ∧
  cellsAt w19 ⟨b1, 1, none⟩ [.string x9_0, .string x9_1] ∧
  w19.cell? ⟨b1, 0, none⟩ = some (.int .i64 x7) ∧
  newB w19 (.cells ⟨[]⟩ T_api_Attr) fun b12_1 w20 =>
  w20.cell? ⟨b1, 3, none⟩ = some (.slice x14p x14l x14c) ∧
  w20.cell? ⟨b1, 5, none⟩ = some (.string x11) ∧
  cellsAt w20 ⟨b1, 1, none⟩ [.string x9_0, .string x9_1] ∧
  w20.cell? ⟨b1, 0, none⟩ = some (.int .i64 x7) ∧
  appJ Tryz.prog T_sl_api_Attr T_sl_api_Attr (.slice (some ⟨b12_1, 0, none⟩) 0 0) (.slice x14p x14l x14c) w20 fun q15_2p q15_2l q15_2c w21 =>
  w21.cell? ⟨b1, 5, none⟩ = some (.string x11) ∧
  cellsAt w21 ⟨b1, 1, none⟩ [.string x9_0, .string x9_1] ∧
  w21.cell? ⟨b1, 0, none⟩ = some (.int .i64 x7) ∧
  Array.size (⟨[.string x9_0, .string x9_1]⟩ : Array Value) = 2 ∧
  stN w21 ⟨b3_2, 0, none⟩ ⟨[.int .i64 x7, .string x9_0, .string x9_1, .slice q15_2p q15_2l q15_2c, .slice none 0 0, .string x11]⟩ 6 fun w22 =>
  J_3 (some ⟨b3_2, 0, none⟩) w22)
def ann_ref05_Twin : Ann := .s (.o) (.j [(3, .ptr)] (.d (.take 0 (.take 1 (.take 2 (.take 3 (.take 4 (.take 5 (.take 7 (.take 8 (.eff 6 (.eff 9 (.take 10 (.eff 11 (.eff 12 (.done) (.none)) (.none))) (.eff 11 (.eff 9 (.take 10 (.eff 12 (.done) (.none))) (.none)) (.none))) (.eff 11 (.eff 6 (.eff 9 (.take 10 (.eff 12 (.done) (.none))) (.none)) (.none)) (.none)))))))))))) (.s (.s (.o) (.b (.l [(20, .int .i64)] (.s (.o) (.s (.c (.o) (.o)) (.s (.b (.s (.o) (.d (.take 0 (.take 1 (.take 2 (.eff 3 (.eff 4 (.eff 5 (.take 6 (.eff 7 (.done) (.none))) (.none)) (.none)) (.none)))))))) (.o))))))) (.s (.o) (.o))))
theorem eq_ref05_Twin (n0_0 : Int) (n0_1 : ByteArray) (n0_2 : ByteArray) (n0_3p : Option Addr) (n0_3l : Nat) (n0_3c : Nat) (n0_4p : Option Addr) (n0_4l : Nat) (n0_4c : Nat) (n0_5 : ByteArray) (w : World) (J : Int → ByteArray → ByteArray → Option Addr → Nat → Nat → Option Addr → Nat → Nat → ByteArray → World → Prop) : vcFun Tryz.prog Tryz.f7 ann_ref05_Twin [.agg [.int .i64, .str, .str, .slice, .slice, .str]] [.agg ⟨[.int .i64 n0_0, .string n0_1, .string n0_2, .slice n0_3p n0_3l n0_3c, .slice n0_4p n0_4l n0_4c, .string n0_5]⟩] w J = VC_ref05_Twin n0_0 n0_1 n0_2 n0_3p n0_3l n0_3c n0_4p n0_4l n0_4c n0_5 w J := by kernel_rfl
theorem c_ref05_Twin {n0_0 : Int} {n0_1 : ByteArray} {n0_2 : ByteArray} {n0_3p : Option Addr} {n0_3l : Nat} {n0_3c : Nat} {n0_4p : Option Addr} {n0_4l : Nat} {n0_4c : Nat} {n0_5 : ByteArray} {w : World} {J : Int → ByteArray → ByteArray → Option Addr → Nat → Nat → Option Addr → Nat → Nat → ByteArray → World → Prop} (h : VC_ref05_Twin n0_0 n0_1 n0_2 n0_3p n0_3l n0_3c n0_4p n0_4l n0_4c n0_5 w J) : callJ Tryz.prog fn_ref05_Twin #[.agg ⟨[.int .i64 n0_0, .string n0_1, .string n0_2, .slice n0_3p n0_3l n0_3c, .slice n0_4p n0_4l n0_4c, .string n0_5]⟩] w [.agg [.int .i64, .str, .str, .slice, .slice, .str]] J := vc_calls Tryz.func7 ann_ref05_Twin (Eq.mpr (eq_ref05_Twin n0_0 n0_1 n0_2 n0_3p n0_3l n0_3c n0_4p n0_4l n0_4c n0_5 w J) h)

/-- lectern/lecternref05.Same -/
def VC_ref05_Same (a0_0 : Int) (a0_1 : ByteArray) (a0_2 : ByteArray) (a0_3p : Option Addr) (a0_3l : Nat) (a0_3c : Nat) (a0_4p : Option Addr) (a0_4l : Nat) (a0_4c : Nat) (a0_5 : ByteArray) (b1_0 : Int) (b1_1 : ByteArray) (b1_2 : ByteArray) (b1_3p : Option Addr) (b1_3l : Nat) (b1_3c : Nat) (b1_4p : Option Addr) (b1_4l : Nat) (b1_4c : Nat) (b1_5 : ByteArray) (w : World) (J : Bool → World → Prop) : Prop :=
  newB w (.cells ⟨[.int .i64 a0_0, .string a0_1, .string a0_2, .slice a0_3p a0_3l a0_3c, .slice a0_4p a0_4l a0_4c, .string a0_5]⟩ T_api_Node) fun b2 w1 =>
  newB w1 (.cells ⟨[.int .i64 b1_0, .string b1_1, .string b1_2, .slice b1_3p b1_3l b1_3c, .slice b1_4p b1_4l b1_4c, .string b1_5]⟩ T_api_Node) fun b3 w2 =>
  withJ (fun (x41 : Bool) (w3 : World) =>
  condB x41 (
  J false w3) (
  ldS w3 ⟨b2, 4, none⟩ fun x43p x43l x43c =>
  ∃ I_45 : Int → World → Nat → Prop, (∃ m : Nat, I_45 (0 : Int) w3 m) ∧ ∀ (x45 : Int) (w4 : World) (m : Nat), I_45 x45 w4 m → (
  condB (decide (x45 < ((x43l : Nat) : Int))) (
  ldS w4.drew ⟨b2, 4, none⟩ fun x49p x49l x49c =>
  idxA x49p x49l x45 fun a51 =>
  ldI .i64 w4.drew ((a51.add (x45.toNat * 6))) fun x52_0 =>
  ldStr w4.drew (((a51.add (x45.toNat * 6)).add 1)) fun x52_1 =>
  ldStr w4.drew (((a51.add (x45.toNat * 6)).add 2)) fun x52_2 =>
  ldS w4.drew (((a51.add (x45.toNat * 6)).add 3)) fun x52_3p x52_3l x52_3c =>
  ldS w4.drew (((a51.add (x45.toNat * 6)).add 4)) fun x52_4p x52_4l x52_4c =>
  ldStr w4.drew (((a51.add (x45.toNat * 6)).add 5)) fun x52_5 =>
  ldS w4.drew ⟨b3, 4, none⟩ fun x54p x54l x54c =>
  idxA x54p x54l x45 fun a56 =>
  ldI .i64 w4.drew ((a56.add (x45.toNat * 6))) fun x57_0 =>
  ldStr w4.drew (((a56.add (x45.toNat * 6)).add 1)) fun x57_1 =>
  ldStr w4.drew (((a56.add (x45.toNat * 6)).add 2)) fun x57_2 =>
  ldS w4.drew (((a56.add (x45.toNat * 6)).add 3)) fun x57_3p x57_3l x57_3c =>
  ldS w4.drew (((a56.add (x45.toNat * 6)).add 4)) fun x57_4p x57_4l x57_4c =>
  ldStr w4.drew (((a56.add (x45.toNat * 6)).add 5)) fun x57_5 =>
  callJ Tryz.prog fn_ref05_Same #[.agg ⟨[.int .i64 x52_0, .string x52_1, .string x52_2, .slice x52_3p x52_3l x52_3c, .slice x52_4p x52_4l x52_4c, .string x52_5]⟩, .agg ⟨[.int .i64 x57_0, .string x57_1, .string x57_2, .slice x57_3p x57_3l x57_3c, .slice x57_4p x57_4l x57_4c, .string x57_5]⟩] w4.drew [.one .bool] fun (r58 : Bool) (w5 : World) =>
  condB (!r58) (
  J false w5) (
  ∃ m' : Nat, m' < m ∧ I_45 (w64 (x45 + (1 : Int))) w5 m')) (
  J true w4)))) fun J_41 =>
  ldI .i64 w2 ⟨b2, 0, none⟩ fun x7 =>
  ldI .i64 w2 ⟨b3, 0, none⟩ fun x9 =>
  condB (x7 != x9) (
  J_41 true w2) (
  ldStr w2 ⟨b2, 1, none⟩ fun x13_0 =>
  ldStr w2 ⟨b2, 2, none⟩ fun x13_1 =>
  ldStr w2 ⟨b3, 1, none⟩ fun x15_0 =>
  ldStr w2 ⟨b3, 2, none⟩ fun x15_1 =>
  condB (!((x13_0.toList == x15_0.toList) && ((x13_1.toList == x15_1.toList) && true))) (
  J_41 true w2) (
  ldStr w2 ⟨b2, 5, none⟩ fun x20 =>
  ldStr w2 ⟨b3, 5, none⟩ fun x22 =>
  condB (!(x20.toList == x22.toList)) (
  J_41 true w2) (
  ldS w2 ⟨b2, 3, none⟩ fun x27p x27l x27c =>
  ldS w2 ⟨b3, 3, none⟩ fun x29p x29l x29c =>
  callJ Tryz.prog fn_ref04_SameAttrs #[.slice x27p x27l x27c, .slice x29p x29l x29c] w2 [.one .bool] fun (r30 : Bool) (w6 : World) =>
  condB (!r30) (
  J_41 true w6) (
  ldS w6 ⟨b2, 4, none⟩ fun x35p x35l x35c =>
  ldS w6 ⟨b3, 4, none⟩ fun x38p x38l x38c =>
  J_41 (((x35l : Nat) : Int) != ((x38l : Nat) : Int)) w6))))
def ann_ref05_Same : Ann := .s (.o) (.s (.j [(41, .bool)] (.o) (.c (.s (.o) (.o)) (.o))) (.s (.s (.o) (.b (.l [(45, .int .i64)] (.s (.o) (.s (.c (.o) (.o)) (.s (.b (.s (.o) (.s (.d (.take 0 (.take 1 (.take 2 (.take 3 (.take 4 (.take 5 (.take 6 (.take 7 (.take 8 (.take 9 (.eff 10 (.take 11 (.done)) (.none))))))))))))) (.c (.s (.o) (.o)) (.o))))) (.o))))))) (.s (.o) (.o))))
theorem eq_ref05_Same (a0_0 : Int) (a0_1 : ByteArray) (a0_2 : ByteArray) (a0_3p : Option Addr) (a0_3l : Nat) (a0_3c : Nat) (a0_4p : Option Addr) (a0_4l : Nat) (a0_4c : Nat) (a0_5 : ByteArray) (b1_0 : Int) (b1_1 : ByteArray) (b1_2 : ByteArray) (b1_3p : Option Addr) (b1_3l : Nat) (b1_3c : Nat) (b1_4p : Option Addr) (b1_4l : Nat) (b1_4c : Nat) (b1_5 : ByteArray) (w : World) (J : Bool → World → Prop) : vcFun Tryz.prog Tryz.f11 ann_ref05_Same [.one .bool] [.agg ⟨[.int .i64 a0_0, .string a0_1, .string a0_2, .slice a0_3p a0_3l a0_3c, .slice a0_4p a0_4l a0_4c, .string a0_5]⟩, .agg ⟨[.int .i64 b1_0, .string b1_1, .string b1_2, .slice b1_3p b1_3l b1_3c, .slice b1_4p b1_4l b1_4c, .string b1_5]⟩] w J = VC_ref05_Same a0_0 a0_1 a0_2 a0_3p a0_3l a0_3c a0_4p a0_4l a0_4c a0_5 b1_0 b1_1 b1_2 b1_3p b1_3l b1_3c b1_4p b1_4l b1_4c b1_5 w J := by kernel_rfl
theorem c_ref05_Same {a0_0 : Int} {a0_1 : ByteArray} {a0_2 : ByteArray} {a0_3p : Option Addr} {a0_3l : Nat} {a0_3c : Nat} {a0_4p : Option Addr} {a0_4l : Nat} {a0_4c : Nat} {a0_5 : ByteArray} {b1_0 : Int} {b1_1 : ByteArray} {b1_2 : ByteArray} {b1_3p : Option Addr} {b1_3l : Nat} {b1_3c : Nat} {b1_4p : Option Addr} {b1_4l : Nat} {b1_4c : Nat} {b1_5 : ByteArray} {w : World} {J : Bool → World → Prop} (h : VC_ref05_Same a0_0 a0_1 a0_2 a0_3p a0_3l a0_3c a0_4p a0_4l a0_4c a0_5 b1_0 b1_1 b1_2 b1_3p b1_3l b1_3c b1_4p b1_4l b1_4c b1_5 w J) : callJ Tryz.prog fn_ref05_Same #[.agg ⟨[.int .i64 a0_0, .string a0_1, .string a0_2, .slice a0_3p a0_3l a0_3c, .slice a0_4p a0_4l a0_4c, .string a0_5]⟩, .agg ⟨[.int .i64 b1_0, .string b1_1, .string b1_2, .slice b1_3p b1_3l b1_3c, .slice b1_4p b1_4l b1_4c, .string b1_5]⟩] w [.one .bool] J := vc_calls Tryz.func11 ann_ref05_Same (Eq.mpr (eq_ref05_Same a0_0 a0_1 a0_2 a0_3p a0_3l a0_3c a0_4p a0_4l a0_4c a0_5 b1_0 b1_1 b1_2 b1_3p b1_3l b1_3c b1_4p b1_4l b1_4c b1_5 w J) h)

/-- lectern/lecternref05.Flat -/
def VC_ref05_Flat (n0_0 : Int) (n0_1 : ByteArray) (n0_2 : ByteArray) (n0_3p : Option Addr) (n0_3l : Nat) (n0_3c : Nat) (n0_4p : Option Addr) (n0_4l : Nat) (n0_4c : Nat) (n0_5 : ByteArray) (w : World) (J : Option Addr → Nat → Nat → World → Prop) : Prop :=
  newB w (.cells ⟨[.int .i64 n0_0, .string n0_1, .string n0_2, .slice n0_3p n0_3l n0_3c, .slice n0_4p n0_4l n0_4c, .string n0_5]⟩ T_api_Node) fun b1 w1 =>
  ldI .i64 w1 ⟨b1, 0, none⟩ fun x6_0 =>
  ldStr w1 ⟨b1, 1, none⟩ fun x6_1 =>
  ldStr w1 ⟨b1, 2, none⟩ fun x6_2 =>
  ldS w1 ⟨b1, 3, none⟩ fun x6_3p x6_3l x6_3c =>
  ldS w1 ⟨b1, 4, none⟩ fun x6_4p x6_4l x6_4c =>
  ldStr w1 ⟨b1, 5, none⟩ fun x6_5 =>
  Array.size (⟨[.int .i64 x6_0, .string x6_1, .string x6_2, .slice x6_3p x6_3l x6_3c, .slice x6_4p x6_4l x6_4c, .string x6_5]⟩ : Array Value) = 6 ∧
  newB w1 (.cells ⟨[.int .i64 x6_0, .string x6_1, .string x6_2, .slice x6_3p x6_3l x6_3c, .slice x6_4p x6_4l x6_4c, .string x6_5]⟩ T_api_Node) fun b7 w2 =>
  ldS w2 ⟨b1, 4, none⟩ fun x9p x9l x9c =>
  ∃ I_3 : Option Addr → Nat → Nat → Int → World → Nat → Prop, (∃ m : Nat, I_3 (some ⟨b7, 0, none⟩) 1 1 (0 : Int) w2 m) ∧ ∀ (out3p : Option Addr) (out3l : Nat) (out3c : Nat) (x11 : Int) (w3 : World) (m : Nat), I_3 out3p out3l out3c x11 w3 m → (
  condB (decide (x11 < ((x9l : Nat) : Int))) (
  idxA x9p x9l x11 fun a13 =>
  ldI .i64 w3 ((a13.add (x11.toNat * 6))) fun x14_0 =>
  ldStr w3 (((a13.add (x11.toNat * 6)).add 1)) fun x14_1 =>
  ldStr w3 (((a13.add (x11.toNat * 6)).add 2)) fun x14_2 =>
  ldS w3 (((a13.add (x11.toNat * 6)).add 3)) fun x14_3p x14_3l x14_3c =>
  ldS w3 (((a13.add (x11.toNat * 6)).add 4)) fun x14_4p x14_4l x14_4c =>
  ldStr w3 (((a13.add (x11.toNat * 6)).add 5)) fun x14_5 =>
  newB w3 (.cells (zeroC Tryz.prog T_api_Node) T_api_Node) fun b5 w4 =>
  stN w4 ⟨b5, 0, none⟩ ⟨[.int .i64 x14_0, .string x14_1, .string x14_2, .slice x14_3p x14_3l x14_3c, .slice x14_4p x14_4l x14_4c, .string x14_5]⟩ 6 fun w5 =>
  ldI .i64 w5 ⟨b5, 0, none⟩ fun x16_0 =>
  ldStr w5 ⟨b5, 1, none⟩ fun x16_1 =>
  ldStr w5 ⟨b5, 2, none⟩ fun x16_2 =>
  ldS w5 ⟨b5, 3, none⟩ fun x16_3p x16_3l x16_3c =>
  ldS w5 ⟨b5, 4, none⟩ fun x16_4p x16_4l x16_4c =>
  ldStr w5 ⟨b5, 5, none⟩ fun x16_5 =>
  callJ Tryz.prog fn_ref05_Flat #[.agg ⟨[.int .i64 x16_0, .string x16_1, .string x16_2, .slice x16_3p x16_3l x16_3c, .slice x16_4p x16_4l x16_4c, .string x16_5]⟩] w5 [.one .slice] fun (r17p : Option Addr) (r17l : Nat) (r17c : Nat) (w6 : World) =>
  appJ Tryz.prog T_sl_api_Node T_sl_api_Node (.slice out3p out3l out3c) (.slice r17p r17l r17c) w6 fun q18p q18l q18c w7 =>
  ∃ m' : Nat, m' < m ∧ I_3 q18p q18l q18c (w64 (x11 + (1 : Int))) w7 m') (
  J out3p out3l out3c w3))
def ann_ref05_Flat : Ann := .s (.o) (.s (.o) (.s (.s (.o) (.b (.l [(3, .slice), (11, .int .i64)] (.s (.o) (.s (.c (.o) (.o)) (.s (.b (.s (.o) (.o))) (.o))))))) (.s (.o) (.o))))
theorem eq_ref05_Flat (n0_0 : Int) (n0_1 : ByteArray) (n0_2 : ByteArray) (n0_3p : Option Addr) (n0_3l : Nat) (n0_3c : Nat) (n0_4p : Option Addr) (n0_4l : Nat) (n0_4c : Nat) (n0_5 : ByteArray) (w : World) (J : Option Addr → Nat → Nat → World → Prop) : vcFun Tryz.prog Tryz.f40 ann_ref05_Flat [.one .slice] [.agg ⟨[.int .i64 n0_0, .string n0_1, .string n0_2, .slice n0_3p n0_3l n0_3c, .slice n0_4p n0_4l n0_4c, .string n0_5]⟩] w J = VC_ref05_Flat n0_0 n0_1 n0_2 n0_3p n0_3l n0_3c n0_4p n0_4l n0_4c n0_5 w J := by kernel_rfl
theorem c_ref05_Flat {n0_0 : Int} {n0_1 : ByteArray} {n0_2 : ByteArray} {n0_3p : Option Addr} {n0_3l : Nat} {n0_3c : Nat} {n0_4p : Option Addr} {n0_4l : Nat} {n0_4c : Nat} {n0_5 : ByteArray} {w : World} {J : Option Addr → Nat → Nat → World → Prop} (h : VC_ref05_Flat n0_0 n0_1 n0_2 n0_3p n0_3l n0_3c n0_4p n0_4l n0_4c n0_5 w J) : callJ Tryz.prog fn_ref05_Flat #[.agg ⟨[.int .i64 n0_0, .string n0_1, .string n0_2, .slice n0_3p n0_3l n0_3c, .slice n0_4p n0_4l n0_4c, .string n0_5]⟩] w [.one .slice] J := vc_calls Tryz.func40 ann_ref05_Flat (Eq.mpr (eq_ref05_Flat n0_0 n0_1 n0_2 n0_3p n0_3l n0_3c n0_4p n0_4l n0_4c n0_5 w J) h)

/-- lectern/lecternref05.SameInts -/
def VC_ref05_SameInts (a0p : Option Addr) (a0l : Nat) (a0c : Nat) (b1p : Option Addr) (b1l : Nat) (b1c : Nat) (w : World) (J : Bool → World → Prop) : Prop :=
  condB (((a0l : Nat) : Int) != ((b1l : Nat) : Int)) (
  J false w) (
  ∃ I_13 : Int → World → Nat → Prop, (∃ m : Nat, I_13 (0 : Int) w m) ∧ ∀ (x13 : Int) (w1 : World) (m : Nat), I_13 x13 w1 m → (
  condB (decide (x13 < ((a0l : Nat) : Int))) (
  idxA a0p a0l x13 fun a18 =>
  ldI .i64 w1.drew ((a18.add (x13.toNat * 1))) fun x19 =>
  idxA b1p b1l x13 fun a22 =>
  ldI .i64 w1.drew ((a22.add (x13.toNat * 1))) fun x23 =>
  condB (x19 != x23) (
  J false w1.drew) (
  ∃ m' : Nat, m' < m ∧ I_13 (w64 (x13 + (1 : Int))) w1.drew m')) (
  J true w1)))
def ann_ref05_SameInts : Ann := .s (.o) (.s (.s (.o) (.c (.s (.o) (.o)) (.o))) (.s (.s (.o) (.b (.l [(13, .int .i64)] (.s (.o) (.s (.c (.o) (.o)) (.s (.b (.s (.o) (.s (.d (.take 0 (.take 1 (.take 2 (.take 3 (.take 4 (.take 5 (.take 6 (.take 7 (.take 8 (.done))))))))))) (.c (.s (.o) (.o)) (.o))))) (.o))))))) (.s (.o) (.o))))
theorem eq_ref05_SameInts (a0p : Option Addr) (a0l : Nat) (a0c : Nat) (b1p : Option Addr) (b1l : Nat) (b1c : Nat) (w : World) (J : Bool → World → Prop) : vcFun Tryz.prog Tryz.f12 ann_ref05_SameInts [.one .bool] [.slice a0p a0l a0c, .slice b1p b1l b1c] w J = VC_ref05_SameInts a0p a0l a0c b1p b1l b1c w J := by kernel_rfl
theorem c_ref05_SameInts {a0p : Option Addr} {a0l : Nat} {a0c : Nat} {b1p : Option Addr} {b1l : Nat} {b1c : Nat} {w : World} {J : Bool → World → Prop} (h : VC_ref05_SameInts a0p a0l a0c b1p b1l b1c w J) : callJ Tryz.prog fn_ref05_SameInts #[.slice a0p a0l a0c, .slice b1p b1l b1c] w [.one .bool] J := vc_calls Tryz.func12 ann_ref05_SameInts (Eq.mpr (eq_ref05_SameInts a0p a0l a0c b1p b1l b1c w J) h)

/-- lectern/lecternref05.Check -/
def VC_ref05_Check (d0_0 : Int) (d0_1 : ByteArray) (d0_2 : ByteArray) (d0_3p : Option Addr) (d0_3l : Nat) (d0_3c : Nat) (d0_4p : Option Addr) (d0_4l : Nat) (d0_4c : Nat) (d0_5 : ByteArray) (w : World) (J : Int → World → Prop) : Prop :=
  newB w (.cells ⟨[.int .i64 d0_0, .string d0_1, .string d0_2, .slice d0_3p d0_3l d0_3c, .slice d0_4p d0_4l d0_4c, .string d0_5]⟩ T_api_Node) fun b1 w1 =>
  ldI .i64 w1 ⟨b1, 0, none⟩ fun x12 =>
  condB (x12 != (1 : Int)) (
  J (33 : Int) w1) (
  ldI .i64 w1 ⟨b1, 0, none⟩ fun x14_0 =>
  ldStr w1 ⟨b1, 1, none⟩ fun x14_1 =>
  ldStr w1 ⟨b1, 2, none⟩ fun x14_2 =>
  ldS w1 ⟨b1, 3, none⟩ fun x14_3p x14_3l x14_3c =>
  ldS w1 ⟨b1, 4, none⟩ fun x14_4p x14_4l x14_4c =>
  ldStr w1 ⟨b1, 5, none⟩ fun x14_5 =>
  callJ Tryz.prog fn_ref05_Flat #[.agg ⟨[.int .i64 x14_0, .string x14_1, .string x14_2, .slice x14_3p x14_3l x14_3c, .slice x14_4p x14_4l x14_4c, .string x14_5]⟩] w1 [.one .slice] fun (r15p : Option Addr) (r15l : Nat) (r15c : Nat) (w2 : World) =>
  ldI .i64 w2 ⟨b1, 0, none⟩ fun x16_0 =>
  ldStr w2 ⟨b1, 1, none⟩ fun x16_1 =>
  ldStr w2 ⟨b1, 2, none⟩ fun x16_2 =>
  ldS w2 ⟨b1, 3, none⟩ fun x16_3p x16_3l x16_3c =>
  ldS w2 ⟨b1, 4, none⟩ fun x16_4p x16_4l x16_4c =>
  ldStr w2 ⟨b1, 5, none⟩ fun x16_5 =>
  callJ Tryz.prog fn_ref05_deep #[.agg ⟨[.int .i64 x16_0, .string x16_1, .string x16_2, .slice x16_3p x16_3l x16_3c, .slice x16_4p x16_4l x16_4c, .string x16_5]⟩, .int .i64 (32 : Int)] w2 [.one .bool] fun (r17 : Bool) (w3 : World) =>
  newB w3 (.cells (zeroC Tryz.prog T_7_bool) T_7_bool) fun b4 w4 =>
  stN w4 ⟨b4, 0, none⟩ ⟨[.bool true, .bool (!r17), .bool (decide (((r15l : Nat) : Int) ≤ (2001 : Int))), .bool true, .bool true, .bool true, .bool true]⟩ 7 fun w5 =>
  ∃ I_25 : Int → World → Nat → Prop, (∃ m : Nat, I_25 (0 : Int) w5 m) ∧ ∀ (x25 : Int) (w6 : World) (m : Nat), I_25 x25 w6 m → (
  condB (decide (x25 < ((r15l : Nat) : Int))) (
  withJ (fun (w7 : World) =>
  ∃ m' : Nat, m' < m ∧ I_25 (w64 (x25 + (1 : Int))) w7 m') fun J_0 =>
  idxA r15p r15l x25 fun a27 =>
  ldI .i64 w6 ((a27.add (x25.toNat * 6))) fun x28_0 =>
  ldStr w6 (((a27.add (x25.toNat * 6)).add 1)) fun x28_1 =>
  ldStr w6 (((a27.add (x25.toNat * 6)).add 2)) fun x28_2 =>
  ldS w6 (((a27.add (x25.toNat * 6)).add 3)) fun x28_3p x28_3l x28_3c =>
  ldS w6 (((a27.add (x25.toNat * 6)).add 4)) fun x28_4p x28_4l x28_4c =>
  ldStr w6 (((a27.add (x25.toNat * 6)).add 5)) fun x28_5 =>
  newB w6 (.cells (zeroC Tryz.prog T_api_Node) T_api_Node) fun b7 w8 =>
  stN w8 ⟨b7, 0, none⟩ ⟨[.int .i64 x28_0, .string x28_1, .string x28_2, .slice x28_3p x28_3l x28_3c, .slice x28_4p x28_4l x28_4c, .string x28_5]⟩ 6 fun w9 =>
  withJ (fun (w10 : World) =>
  withJ (fun (w11 : World) =>
  withJ (fun (w12 : World) =>
  withJ (fun (w13 : World) =>
  withJ (fun (w14 : World) =>
  idxA (some ⟨b4, 0, none⟩) 7 (6 : Int) fun a64 =>
  ldB w14 ((a64.add ((6 : Int).toNat * 1))) fun x65 =>
  condB x65 (
  ldI .i64 w14 ⟨b7, 0, none⟩ fun x67_0 =>
  ldStr w14 ⟨b7, 1, none⟩ fun x67_1 =>
  ldStr w14 ⟨b7, 2, none⟩ fun x67_2 =>
  ldS w14 ⟨b7, 3, none⟩ fun x67_3p x67_3l x67_3c =>
  ldS w14 ⟨b7, 4, none⟩ fun x67_4p x67_4l x67_4c =>
  ldStr w14 ⟨b7, 5, none⟩ fun x67_5 =>
  callJ Tryz.prog fn_ref05_text #[.agg ⟨[.int .i64 x67_0, .string x67_1, .string x67_2, .slice x67_3p x67_3l x67_3c, .slice x67_4p x67_4l x67_4c, .string x67_5]⟩] w14 [.one .bool] fun (r68 : Bool) (w15 : World) =>
  idxA (some ⟨b4, 0, none⟩) 7 (6 : Int) fun a70 =>
  stV w15 ((a70.add ((6 : Int).toNat * 1))) (.bool r68) fun w16 =>
  J_0 w16) (
  idxA (some ⟨b4, 0, none⟩) 7 (6 : Int) fun a70_1 =>
  stV w14 ((a70_1.add ((6 : Int).toNat * 1))) (.bool false) fun w17 =>
  J_0 w17)) fun J_0_5 =>
  idxA (some ⟨b4, 0, none⟩) 7 (5 : Int) fun a57 =>
  ldB w13 ((a57.add ((5 : Int).toNat * 1))) fun x58 =>
  condB x58 (
  ldI .i64 w13 ⟨b7, 0, none⟩ fun x60_0 =>
  ldStr w13 ⟨b7, 1, none⟩ fun x60_1 =>
  ldStr w13 ⟨b7, 2, none⟩ fun x60_2 =>
  ldS w13 ⟨b7, 3, none⟩ fun x60_3p x60_3l x60_3c =>
  ldS w13 ⟨b7, 4, none⟩ fun x60_4p x60_4l x60_4c =>
  ldStr w13 ⟨b7, 5, none⟩ fun x60_5 =>
  callJ Tryz.prog fn_ref05_order #[.agg ⟨[.int .i64 x60_0, .string x60_1, .string x60_2, .slice x60_3p x60_3l x60_3c, .slice x60_4p x60_4l x60_4c, .string x60_5]⟩] w13 [.one .bool] fun (r61 : Bool) (w18 : World) =>
  idxA (some ⟨b4, 0, none⟩) 7 (5 : Int) fun a63 =>
  stV w18 ((a63.add ((5 : Int).toNat * 1))) (.bool r61) fun w19 =>
  J_0_5 w19) (
  idxA (some ⟨b4, 0, none⟩) 7 (5 : Int) fun a63_1 =>
  stV w13 ((a63_1.add ((5 : Int).toNat * 1))) (.bool false) fun w20 =>
  J_0_5 w20)) fun J_0_4 =>
  idxA (some ⟨b4, 0, none⟩) 7 (4 : Int) fun a50 =>
  ldB w12 ((a50.add ((4 : Int).toNat * 1))) fun x51 =>
  condB x51 (
  ldI .i64 w12 ⟨b7, 0, none⟩ fun x53_0 =>
  ldStr w12 ⟨b7, 1, none⟩ fun x53_1 =>
  ldStr w12 ⟨b7, 2, none⟩ fun x53_2 =>
  ldS w12 ⟨b7, 3, none⟩ fun x53_3p x53_3l x53_3c =>
  ldS w12 ⟨b7, 4, none⟩ fun x53_4p x53_4l x53_4c =>
  ldStr w12 ⟨b7, 5, none⟩ fun x53_5 =>
  callJ Tryz.prog fn_ref05_chars #[.agg ⟨[.int .i64 x53_0, .string x53_1, .string x53_2, .slice x53_3p x53_3l x53_3c, .slice x53_4p x53_4l x53_4c, .string x53_5]⟩] w12 [.one .bool] fun (r54 : Bool) (w21 : World) =>
  idxA (some ⟨b4, 0, none⟩) 7 (4 : Int) fun a56 =>
  stV w21 ((a56.add ((4 : Int).toNat * 1))) (.bool r54) fun w22 =>
  J_0_4 w22) (
  idxA (some ⟨b4, 0, none⟩) 7 (4 : Int) fun a56_1 =>
  stV w12 ((a56_1.add ((4 : Int).toNat * 1))) (.bool false) fun w23 =>
  J_0_4 w23)) fun J_0_3 =>
  idxA (some ⟨b4, 0, none⟩) 7 (3 : Int) fun a43 =>
  ldB w11 ((a43.add ((3 : Int).toNat * 1))) fun x44 =>
  condB x44 (
  ldI .i64 w11 ⟨b7, 0, none⟩ fun x46_0 =>
  ldStr w11 ⟨b7, 1, none⟩ fun x46_1 =>
  ldStr w11 ⟨b7, 2, none⟩ fun x46_2 =>
  ldS w11 ⟨b7, 3, none⟩ fun x46_3p x46_3l x46_3c =>
  ldS w11 ⟨b7, 4, none⟩ fun x46_4p x46_4l x46_4c =>
  ldStr w11 ⟨b7, 5, none⟩ fun x46_5 =>
  callJ Tryz.prog fn_ref05_name #[.agg ⟨[.int .i64 x46_0, .string x46_1, .string x46_2, .slice x46_3p x46_3l x46_3c, .slice x46_4p x46_4l x46_4c, .string x46_5]⟩] w11 [.one .bool] fun (r47 : Bool) (w24 : World) =>
  idxA (some ⟨b4, 0, none⟩) 7 (3 : Int) fun a49 =>
  stV w24 ((a49.add ((3 : Int).toNat * 1))) (.bool r47) fun w25 =>
  J_0_3 w25) (
  idxA (some ⟨b4, 0, none⟩) 7 (3 : Int) fun a49_1 =>
  stV w11 ((a49_1.add ((3 : Int).toNat * 1))) (.bool false) fun w26 =>
  J_0_3 w26)) fun J_0_2 =>
  idxA (some ⟨b4, 0, none⟩) 7 (2 : Int) fun a36 =>
  ldB w10 ((a36.add ((2 : Int).toNat * 1))) fun x37 =>
  condB x37 (
  ldI .i64 w10 ⟨b7, 0, none⟩ fun x39_0 =>
  ldStr w10 ⟨b7, 1, none⟩ fun x39_1 =>
  ldStr w10 ⟨b7, 2, none⟩ fun x39_2 =>
  ldS w10 ⟨b7, 3, none⟩ fun x39_3p x39_3l x39_3c =>
  ldS w10 ⟨b7, 4, none⟩ fun x39_4p x39_4l x39_4c =>
  ldStr w10 ⟨b7, 5, none⟩ fun x39_5 =>
  callJ Tryz.prog fn_ref05_size #[.agg ⟨[.int .i64 x39_0, .string x39_1, .string x39_2, .slice x39_3p x39_3l x39_3c, .slice x39_4p x39_4l x39_4c, .string x39_5]⟩] w10 [.one .bool] fun (r40 : Bool) (w27 : World) =>
  idxA (some ⟨b4, 0, none⟩) 7 (2 : Int) fun a42 =>
  stV w27 ((a42.add ((2 : Int).toNat * 1))) (.bool r40) fun w28 =>
  J_0_2 w28) (
  idxA (some ⟨b4, 0, none⟩) 7 (2 : Int) fun a42_1 =>
  stV w10 ((a42_1.add ((2 : Int).toNat * 1))) (.bool false) fun w29 =>
  J_0_2 w29)) fun J_0_1 =>
  idxA (some ⟨b4, 0, none⟩) 7 (0 : Int) fun a29 =>
  ldB w9 ((a29.add ((0 : Int).toNat * 1))) fun x30 =>
  condB x30 (
  ldI .i64 w9 ⟨b7, 0, none⟩ fun x32_0 =>
  ldStr w9 ⟨b7, 1, none⟩ fun x32_1 =>
  ldStr w9 ⟨b7, 2, none⟩ fun x32_2 =>
  ldS w9 ⟨b7, 3, none⟩ fun x32_3p x32_3l x32_3c =>
  ldS w9 ⟨b7, 4, none⟩ fun x32_4p x32_4l x32_4c =>
  ldStr w9 ⟨b7, 5, none⟩ fun x32_5 =>
  callJ Tryz.prog fn_ref05_kind #[.agg ⟨[.int .i64 x32_0, .string x32_1, .string x32_2, .slice x32_3p x32_3l x32_3c, .slice x32_4p x32_4l x32_4c, .string x32_5]⟩] w9 [.one .bool] fun (r33 : Bool) (w30 : World) =>
  idxA (some ⟨b4, 0, none⟩) 7 (0 : Int) fun a35 =>
  stV w30 ((a35.add ((0 : Int).toNat * 1))) (.bool r33) fun w31 =>
  J_0_1 w31) (
  idxA (some ⟨b4, 0, none⟩) 7 (0 : Int) fun a35_1 =>
  stV w9 ((a35_1.add ((0 : Int).toNat * 1))) (.bool false) fun w32 =>
  J_0_1 w32)) (
  ldS w6 ⟨b1, 4, none⟩ fun x73p x73l x73c =>
  ∃ I_5 : Int → Int → World → Nat → Prop, (∃ m : Nat, I_5 (0 : Int) (0 : Int) w6 m) ∧ ∀ (roots5 : Int) (x75 : Int) (w33 : World) (m_1 : Nat), I_5 roots5 x75 w33 m_1 → (
  condB (decide (x75 < ((x73l : Nat) : Int))) (
  withJ (fun (roots5_1 : Int) (w34 : World) =>
  ∃ m' : Nat, m' < m_1 ∧ I_5 roots5_1 (w64 (x75 + (1 : Int))) w34 m') fun J_5 =>
  idxA x73p x73l x75 fun a77 =>
  ldI .i64 w33 ((a77.add (x75.toNat * 6))) fun x78_0 =>
  ldStr w33 (((a77.add (x75.toNat * 6)).add 1)) fun x78_1 =>
  ldStr w33 (((a77.add (x75.toNat * 6)).add 2)) fun x78_2 =>
  ldS w33 (((a77.add (x75.toNat * 6)).add 3)) fun x78_3p x78_3l x78_3c =>
  ldS w33 (((a77.add (x75.toNat * 6)).add 4)) fun x78_4p x78_4l x78_4c =>
  ldStr w33 (((a77.add (x75.toNat * 6)).add 5)) fun x78_5 =>
  newB w33 (.cells (zeroC Tryz.prog T_api_Node) T_api_Node) fun b9 w35 =>
  stN w35 ⟨b9, 0, none⟩ ⟨[.int .i64 x78_0, .string x78_1, .string x78_2, .slice x78_3p x78_3l x78_3c, .slice x78_4p x78_4l x78_4c, .string x78_5]⟩ 6 fun w36 =>
  ldI .i64 w36 ⟨b9, 0, none⟩ fun x80 =>
  condB (x80 == (2 : Int)) (
  J_5 (w64 (roots5 + (1 : Int))) w36) (
  J_5 roots5 w36)) (
  ∃ I_85 : Int → World → Nat → Prop, (∃ m : Nat, I_85 (0 : Int) w33 m) ∧ ∀ (x85 : Int) (w37 : World) (m_2 : Nat), I_85 x85 w37 m_2 → (
  condB (decide (x85 < (7 : Int))) (
  idxA (some ⟨b4, 0, none⟩) 7 x85 fun a89 =>
  ldB w37 ((a89.add (x85.toNat * 1))) fun x90 =>
  condB (!x90) (
  idxAggI .i64 ⟨[.int .i64 (33 : Int), .int .i64 (31 : Int), .int .i64 (5 : Int), .int .i64 (24 : Int), .int .i64 (21 : Int), .int .i64 (34 : Int), .int .i64 (32 : Int)]⟩ 7 x85 fun x94 =>
  J x94 w37) (
  ∃ m' : Nat, m' < m_2 ∧ I_85 (w64 (x85 + (1 : Int))) w37 m')) (
  condB (roots5 != (1 : Int)) (
  J (30 : Int) w37) (
  J (0 : Int) w37))))))))
def ann_ref05_Check : Ann := .s (.o) (.s (.s (.o) (.c (.s (.o) (.o)) (.o))) (.s (.o) (.s (.o) (.s (.o) (.s (.s (.o) (.b (.l [(25, .int .i64)] (.s (.o) (.s (.c (.o) (.o)) (.j [] (.b (.s (.o) (.j [] (.o) (.j [] (.o) (.j [] (.o) (.j [] (.o) (.j [] (.o) (.o)))))))) (.o))))))) (.s (.s (.o) (.b (.l [(5, .int .i64), (75, .int .i64)] (.s (.o) (.s (.c (.o) (.o)) (.j [(5, .int .i64)] (.b (.s (.o) (.s (.o) (.c (.o) (.o))))) (.o))))))) (.s (.s (.o) (.b (.l [(85, .int .i64)] (.s (.o) (.s (.c (.o) (.o)) (.s (.b (.s (.o) (.s (.o) (.c (.s (.o) (.o)) (.o))))) (.o))))))) (.s (.s (.o) (.c (.s (.o) (.o)) (.o))) (.s (.o) (.o))))))))))
theorem eq_ref05_Check (d0_0 : Int) (d0_1 : ByteArray) (d0_2 : ByteArray) (d0_3p : Option Addr) (d0_3l : Nat) (d0_3c : Nat) (d0_4p : Option Addr) (d0_4l : Nat) (d0_4c : Nat) (d0_5 : ByteArray) (w : World) (J : Int → World → Prop) : vcFun Tryz.prog Tryz.f21 ann_ref05_Check [.one (.int .i64)] [.agg ⟨[.int .i64 d0_0, .string d0_1, .string d0_2, .slice d0_3p d0_3l d0_3c, .slice d0_4p d0_4l d0_4c, .string d0_5]⟩] w J = VC_ref05_Check d0_0 d0_1 d0_2 d0_3p d0_3l d0_3c d0_4p d0_4l d0_4c d0_5 w J := by kernel_rfl
theorem c_ref05_Check {d0_0 : Int} {d0_1 : ByteArray} {d0_2 : ByteArray} {d0_3p : Option Addr} {d0_3l : Nat} {d0_3c : Nat} {d0_4p : Option Addr} {d0_4l : Nat} {d0_4c : Nat} {d0_5 : ByteArray} {w : World} {J : Int → World → Prop} (h : VC_ref05_Check d0_0 d0_1 d0_2 d0_3p d0_3l d0_3c d0_4p d0_4l d0_4c d0_5 w J) : callJ Tryz.prog fn_ref05_Check #[.agg ⟨[.int .i64 d0_0, .string d0_1, .string d0_2, .slice d0_3p d0_3l d0_3c, .slice d0_4p d0_4l d0_4c, .string d0_5]⟩] w [.one (.int .i64)] J := vc_calls Tryz.func21 ann_ref05_Check (Eq.mpr (eq_ref05_Check d0_0 d0_1 d0_2 d0_3p d0_3l d0_3c d0_4p d0_4l d0_4c d0_5 w J) h)

/-- lectern/lecternref05.deep -/
def VC_ref05_deep (n0_0 : Int) (n0_1 : ByteArray) (n0_2 : ByteArray) (n0_3p : Option Addr) (n0_3l : Nat) (n0_3c : Nat) (n0_4p : Option Addr) (n0_4l : Nat) (n0_4c : Nat) (n0_5 : ByteArray) (left1 : Int) (w : World) (J : Bool → World → Prop) : Prop :=
  newB w (.cells ⟨[.int .i64 n0_0, .string n0_1, .string n0_2, .slice n0_3p n0_3l n0_3c, .slice n0_4p n0_4l n0_4c, .string n0_5]⟩ T_api_Node) fun b2 w1 =>
  withJ (fun (left1 : Int) (w2 : World) =>
  ldS w2 ⟨b2, 4, none⟩ fun x15p x15l x15c =>
  ∃ I_17 : Int → World → Nat → Prop, (∃ m : Nat, I_17 (0 : Int) w2 m) ∧ ∀ (x17 : Int) (w3 : World) (m : Nat), I_17 x17 w3 m → (
  condB (decide (x17 < ((x15l : Nat) : Int))) (
  idxA x15p x15l x17 fun a19 =>
  ldI .i64 w3 ((a19.add (x17.toNat * 6))) fun x20_0 =>
  ldStr w3 (((a19.add (x17.toNat * 6)).add 1)) fun x20_1 =>
  ldStr w3 (((a19.add (x17.toNat * 6)).add 2)) fun x20_2 =>
  ldS w3 (((a19.add (x17.toNat * 6)).add 3)) fun x20_3p x20_3l x20_3c =>
  ldS w3 (((a19.add (x17.toNat * 6)).add 4)) fun x20_4p x20_4l x20_4c =>
  ldStr w3 (((a19.add (x17.toNat * 6)).add 5)) fun x20_5 =>
  newB w3 (.cells (zeroC Tryz.prog T_api_Node) T_api_Node) fun b6 w4 =>
  stN w4 ⟨b6, 0, none⟩ ⟨[.int .i64 x20_0, .string x20_1, .string x20_2, .slice x20_3p x20_3l x20_3c, .slice x20_4p x20_4l x20_4c, .string x20_5]⟩ 6 fun w5 =>
  ldI .i64 w5 ⟨b6, 0, none⟩ fun x21_0 =>
  ldStr w5 ⟨b6, 1, none⟩ fun x21_1 =>
  ldStr w5 ⟨b6, 2, none⟩ fun x21_2 =>
  ldS w5 ⟨b6, 3, none⟩ fun x21_3p x21_3l x21_3c =>
  ldS w5 ⟨b6, 4, none⟩ fun x21_4p x21_4l x21_4c =>
  ldStr w5 ⟨b6, 5, none⟩ fun x21_5 =>
  callJ Tryz.prog fn_ref05_deep #[.agg ⟨[.int .i64 x21_0, .string x21_1, .string x21_2, .slice x21_3p x21_3l x21_3c, .slice x21_4p x21_4l x21_4c, .string x21_5]⟩, .int .i64 left1] w5 [.one .bool] fun (r23 : Bool) (w6 : World) =>
  condB r23 (
  J true w6) (
  ∃ m' : Nat, m' < m ∧ I_17 (w64 (x17 + (1 : Int))) w6 m')) (
  J false w3))) fun J_1 =>
  ldI .i64 w1 ⟨b2, 0, none⟩ fun x8 =>
  condB (x8 == (2 : Int)) (
  condB (decide (left1 < (0 : Int))) (
  J true w1) (
  J_1 (w64 (left1 - (1 : Int))) w1)) (
  J_1 left1 w1)
def ann_ref05_deep : Ann := .s (.o) (.j [(1, .int .i64)] (.s (.o) (.c (.s (.s (.o) (.c (.s (.o) (.o)) (.o))) (.o)) (.o))) (.s (.s (.o) (.b (.l [(17, .int .i64)] (.s (.o) (.s (.c (.o) (.o)) (.s (.b (.s (.o) (.s (.o) (.c (.s (.o) (.o)) (.o))))) (.o))))))) (.s (.o) (.o))))
theorem eq_ref05_deep (n0_0 : Int) (n0_1 : ByteArray) (n0_2 : ByteArray) (n0_3p : Option Addr) (n0_3l : Nat) (n0_3c : Nat) (n0_4p : Option Addr) (n0_4l : Nat) (n0_4c : Nat) (n0_5 : ByteArray) (left1 : Int) (w : World) (J : Bool → World → Prop) : vcFun Tryz.prog Tryz.f41 ann_ref05_deep [.one .bool] [.agg ⟨[.int .i64 n0_0, .string n0_1, .string n0_2, .slice n0_3p n0_3l n0_3c, .slice n0_4p n0_4l n0_4c, .string n0_5]⟩, .int .i64 left1] w J = VC_ref05_deep n0_0 n0_1 n0_2 n0_3p n0_3l n0_3c n0_4p n0_4l n0_4c n0_5 left1 w J := by kernel_rfl
theorem c_ref05_deep {n0_0 : Int} {n0_1 : ByteArray} {n0_2 : ByteArray} {n0_3p : Option Addr} {n0_3l : Nat} {n0_3c : Nat} {n0_4p : Option Addr} {n0_4l : Nat} {n0_4c : Nat} {n0_5 : ByteArray} {left1 : Int} {w : World} {J : Bool → World → Prop} (h : VC_ref05_deep n0_0 n0_1 n0_2 n0_3p n0_3l n0_3c n0_4p n0_4l n0_4c n0_5 left1 w J) : callJ Tryz.prog fn_ref05_deep #[.agg ⟨[.int .i64 n0_0, .string n0_1, .string n0_2, .slice n0_3p n0_3l n0_3c, .slice n0_4p n0_4l n0_4c, .string n0_5]⟩, .int .i64 left1] w [.one .bool] J := vc_calls Tryz.func41 ann_ref05_deep (Eq.mpr (eq_ref05_deep n0_0 n0_1 n0_2 n0_3p n0_3l n0_3c n0_4p n0_4l n0_4c n0_5 left1 w J) h)

/-- lectern/lecternref05.kind -/
def VC_ref05_kind (n0_0 : Int) (n0_1 : ByteArray) (n0_2 : ByteArray) (n0_3p : Option Addr) (n0_3l : Nat) (n0_3c : Nat) (n0_4p : Option Addr) (n0_4l : Nat) (n0_4c : Nat) (n0_5 : ByteArray) (w : World) (J : Bool → World → Prop) : Prop :=
  newB w (.cells ⟨[.int .i64 n0_0, .string n0_1, .string n0_2, .slice n0_3p n0_3l n0_3c, .slice n0_4p n0_4l n0_4c, .string n0_5]⟩ T_api_Node) fun b1 w1 =>
  ldStr w1 ⟨b1, 1, none⟩ fun x8_0 =>
  ldStr w1 ⟨b1, 2, none⟩ fun x8_1 =>
  ldS w1 ⟨b1, 4, none⟩ fun x12p x12l x12c =>
  ∃ I_14 : Int → World → Nat → Prop, (∃ m : Nat, I_14 (0 : Int) w1 m) ∧ ∀ (x14 : Int) (w2 : World) (m : Nat), I_14 x14 w2 m → (
  condB (decide (x14 < ((x12l : Nat) : Int))) (
  idxA x12p x12l x14 fun a16 =>
  ldI .i64 w2 ((a16.add (x14.toNat * 6))) fun x17_0 =>
  ldStr w2 (((a16.add (x14.toNat * 6)).add 1)) fun x17_1 =>
  ldStr w2 (((a16.add (x14.toNat * 6)).add 2)) fun x17_2 =>
  ldS w2 (((a16.add (x14.toNat * 6)).add 3)) fun x17_3p x17_3l x17_3c =>
  ldS w2 (((a16.add (x14.toNat * 6)).add 4)) fun x17_4p x17_4l x17_4c =>
  ldStr w2 (((a16.add (x14.toNat * 6)).add 5)) fun x17_5 =>
  newB w2 (.cells (zeroC Tryz.prog T_api_Node) T_api_Node) fun b5 w3 =>
  stN w3 ⟨b5, 0, none⟩ ⟨[.int .i64 x17_0, .string x17_1, .string x17_2, .slice x17_3p x17_3l x17_3c, .slice x17_4p x17_4l x17_4c, .string x17_5]⟩ 6 fun w4 =>
  withJ (fun (inner6 : Bool) (w5 : World) =>
  withJ (fun (x51 : Bool) (w6 : World) =>
  condB x51 (
  J false w6) (
  ∃ m' : Nat, m' < m ∧ I_14 (w64 (x14 + (1 : Int))) w6 m')) fun J_51 =>
  ldI .i64 w5 ⟨b1, 0, none⟩ fun x32 =>
  condB (x32 == (1 : Int)) (
  condB (!inner6) (
  ldI .i64 w5 ⟨b1, 0, none⟩ fun x40 =>
  condB (x40 == (2 : Int)) (
  condB inner6 (
  J_51 false w5) (
  ldI .i64 w5 ⟨b5, 0, none⟩ fun x46 =>
  J_51 (!(x46 == (3 : Int))) w5)) (
  J_51 true w5)) (
  J_51 false w5)) (
  ldI .i64 w5 ⟨b1, 0, none⟩ fun x40_1 =>
  condB (x40_1 == (2 : Int)) (
  condB inner6 (
  J_51 false w5) (
  ldI .i64 w5 ⟨b5, 0, none⟩ fun x46_1 =>
  J_51 (!(x46_1 == (3 : Int))) w5)) (
  J_51 true w5))) fun J_6 =>
  ldI .i64 w4 ⟨b5, 0, none⟩ fun x19 =>
  condB (x19 == (2 : Int)) (
  J_6 true w4) (
  ldI .i64 w4 ⟨b5, 0, none⟩ fun x23 =>
  condB (x23 == (4 : Int)) (
  J_6 true w4) (
  ldI .i64 w4 ⟨b5, 0, none⟩ fun x28 =>
  J_6 (x28 == (5 : Int)) w4))) (
  ldI .i64 w2 ⟨b1, 0, none⟩ fun x54 =>
  condB (x54 == (1 : Int)) (
  withJ (fun (x2 : Bool) (w7 : World) =>
  J x2 w7) fun J_2 =>
  condB ((x8_0.toList == ByteArray.empty.toList) && ((x8_1.toList == ByteArray.empty.toList) && true)) (
  ldStr w2 ⟨b1, 5, none⟩ fun x60 =>
  condB (x60.toList == (⟨#[]⟩ : ByteArray).toList) (
  ldS w2 ⟨b1, 3, none⟩ fun x65p x65l x65c =>
  J_2 (((x65l : Nat) : Int) == (0 : Int)) w2) (
  J_2 false w2)) (
  J_2 false w2)) (
  condB (x54 == (2 : Int)) (
  ldStr w2 ⟨b1, 5, none⟩ fun x72 =>
  J (x72.toList == (⟨#[]⟩ : ByteArray).toList) w2) (
  withJ (fun (x74 : Bool) (w8 : World) =>
  condB x74 (
  withJ (fun (x2_1 : Bool) (w9 : World) =>
  J x2_1 w9) fun J_2_1 =>
  condB ((x8_0.toList == ByteArray.empty.toList) && ((x8_1.toList == ByteArray.empty.toList) && true)) (
  ldS w8 ⟨b1, 3, none⟩ fun x80p x80l x80c =>
  condB (((x80l : Nat) : Int) == (0 : Int)) (
  ldS w8 ⟨b1, 4, none⟩ fun x86p x86l x86c =>
  J_2_1 (((x86l : Nat) : Int) == (0 : Int)) w8) (
  J_2_1 false w8)) (
  J_2_1 false w8)) (
  condB (x54 == (5 : Int)) (
  withJ (fun (x2_2 : Bool) (w10 : World) =>
  J x2_2 w10) fun J_2_2 =>
  ldStr w8 ⟨b1, 1, none⟩ fun x94 =>
  condB (x94.toList == (⟨#[]⟩ : ByteArray).toList) (
  ldS w8 ⟨b1, 3, none⟩ fun x98p x98l x98c =>
  condB (((x98l : Nat) : Int) == (0 : Int)) (
  ldS w8 ⟨b1, 4, none⟩ fun x104p x104l x104c =>
  J_2_2 (((x104l : Nat) : Int) == (0 : Int)) w8) (
  J_2_2 false w8)) (
  J_2_2 false w8)) (
  J false w8))) fun J_74 =>
  condB (x54 == (3 : Int)) (
  J_74 (x54 == (3 : Int)) w2) (
  J_74 (x54 == (4 : Int)) w2)))))
def ann_ref05_kind : Ann := .s (.o) (.s (.o) (.s (.s (.o) (.b (.l [(14, .int .i64)] (.s (.o) (.s (.c (.o) (.o)) (.s (.b (.s (.o) (.j [(6, .bool)] (.o) (.j [(51, .bool)] (.o) (.c (.s (.o) (.o)) (.o)))))) (.o))))))) (.s (.s (.o) (.b (.s (.o) (.c (.j [(2, .bool)] (.o) (.o)) (.s (.o) (.c (.s (.o) (.o)) (.j [(74, .bool)] (.s (.o) (.c (.o) (.o))) (.c (.j [(2, .bool)] (.o) (.o)) (.s (.o) (.c (.j [(2, .bool)] (.o) (.o)) (.o))))))))))) (.s (.o) (.o)))))
theorem eq_ref05_kind (n0_0 : Int) (n0_1 : ByteArray) (n0_2 : ByteArray) (n0_3p : Option Addr) (n0_3l : Nat) (n0_3c : Nat) (n0_4p : Option Addr) (n0_4l : Nat) (n0_4c : Nat) (n0_5 : ByteArray) (w : World) (J : Bool → World → Prop) : vcFun Tryz.prog Tryz.f42 ann_ref05_kind [.one .bool] [.agg ⟨[.int .i64 n0_0, .string n0_1, .string n0_2, .slice n0_3p n0_3l n0_3c, .slice n0_4p n0_4l n0_4c, .string n0_5]⟩] w J = VC_ref05_kind n0_0 n0_1 n0_2 n0_3p n0_3l n0_3c n0_4p n0_4l n0_4c n0_5 w J := by kernel_rfl
theorem c_ref05_kind {n0_0 : Int} {n0_1 : ByteArray} {n0_2 : ByteArray} {n0_3p : Option Addr} {n0_3l : Nat} {n0_3c : Nat} {n0_4p : Option Addr} {n0_4l : Nat} {n0_4c : Nat} {n0_5 : ByteArray} {w : World} {J : Bool → World → Prop} (h : VC_ref05_kind n0_0 n0_1 n0_2 n0_3p n0_3l n0_3c n0_4p n0_4l n0_4c n0_5 w J) : callJ Tryz.prog fn_ref05_kind #[.agg ⟨[.int .i64 n0_0, .string n0_1, .string n0_2, .slice n0_3p n0_3l n0_3c, .slice n0_4p n0_4l n0_4c, .string n0_5]⟩] w [.one .bool] J := vc_calls Tryz.func42 ann_ref05_kind (Eq.mpr (eq_ref05_kind n0_0 n0_1 n0_2 n0_3p n0_3l n0_3c n0_4p n0_4l n0_4c n0_5 w J) h)

/-- lectern/lecternref05.size -/
def VC_ref05_size (n0_0 : Int) (n0_1 : ByteArray) (n0_2 : ByteArray) (n0_3p : Option Addr) (n0_3l : Nat) (n0_3c : Nat) (n0_4p : Option Addr) (n0_4l : Nat) (n0_4c : Nat) (n0_5 : ByteArray) (w : World) (J : Bool → World → Prop) : Prop :=
  newB w (.cells ⟨[.int .i64 n0_0, .string n0_1, .string n0_2, .slice n0_3p n0_3l n0_3c, .slice n0_4p n0_4l n0_4c, .string n0_5]⟩ T_api_Node) fun b1 w1 =>
  ldS w1 ⟨b1, 3, none⟩ fun x6p x6l x6c =>
  ∃ I_8 : Int → World → Nat → Prop, (∃ m : Nat, I_8 (0 : Int) w1 m) ∧ ∀ (x8 : Int) (w2 : World) (m : Nat), I_8 x8 w2 m → (
  condB (decide (x8 < ((x6l : Nat) : Int))) (
  idxA x6p x6l x8 fun a10 =>
  ldStr w2 ((a10.add (x8.toNat * 3))) fun x11_0 =>
  ldStr w2 (((a10.add (x8.toNat * 3)).add 1)) fun x11_1 =>
  ldStr w2 (((a10.add (x8.toNat * 3)).add 2)) fun x11_2 =>
  newB w2 (.cells (zeroC Tryz.prog T_api_Attr) T_api_Attr) fun b4 w3 =>
  stN w3 ⟨b4, 0, none⟩ ⟨[.string x11_0, .string x11_1, .string x11_2]⟩ 3 fun w4 =>
  ldStr w4 ⟨b4, 2, none⟩ fun x13 =>
  condB (decide ((x13.size : Int) > (8192 : Int))) (
  J false w4) (
  ∃ m' : Nat, m' < m ∧ I_8 (w64 (x8 + (1 : Int))) w4 m')) (
  withJ (fun (x2 : Bool) (w5 : World) =>
  J x2 w5) fun J_2 =>
  ldS w2 ⟨b1, 3, none⟩ fun x18p x18l x18c =>
  condB (decide (((x18l : Nat) : Int) ≤ (64 : Int))) (
  ldStr w2 ⟨b1, 5, none⟩ fun x23 =>
  J_2 (decide ((x23.size : Int) ≤ (8192 : Int))) w2) (
  J_2 false w2)))
def ann_ref05_size : Ann := .s (.o) (.s (.s (.o) (.b (.l [(8, .int .i64)] (.s (.o) (.s (.c (.o) (.o)) (.s (.b (.s (.o) (.s (.o) (.c (.s (.o) (.o)) (.o))))) (.o))))))) (.j [(2, .bool)] (.o) (.o)))
theorem eq_ref05_size (n0_0 : Int) (n0_1 : ByteArray) (n0_2 : ByteArray) (n0_3p : Option Addr) (n0_3l : Nat) (n0_3c : Nat) (n0_4p : Option Addr) (n0_4l : Nat) (n0_4c : Nat) (n0_5 : ByteArray) (w : World) (J : Bool → World → Prop) : vcFun Tryz.prog Tryz.f43 ann_ref05_size [.one .bool] [.agg ⟨[.int .i64 n0_0, .string n0_1, .string n0_2, .slice n0_3p n0_3l n0_3c, .slice n0_4p n0_4l n0_4c, .string n0_5]⟩] w J = VC_ref05_size n0_0 n0_1 n0_2 n0_3p n0_3l n0_3c n0_4p n0_4l n0_4c n0_5 w J := by kernel_rfl
theorem c_ref05_size {n0_0 : Int} {n0_1 : ByteArray} {n0_2 : ByteArray} {n0_3p : Option Addr} {n0_3l : Nat} {n0_3c : Nat} {n0_4p : Option Addr} {n0_4l : Nat} {n0_4c : Nat} {n0_5 : ByteArray} {w : World} {J : Bool → World → Prop} (h : VC_ref05_size n0_0 n0_1 n0_2 n0_3p n0_3l n0_3c n0_4p n0_4l n0_4c n0_5 w J) : callJ Tryz.prog fn_ref05_size #[.agg ⟨[.int .i64 n0_0, .string n0_1, .string n0_2, .slice n0_3p n0_3l n0_3c, .slice n0_4p n0_4l n0_4c, .string n0_5]⟩] w [.one .bool] J := vc_calls Tryz.func43 ann_ref05_size (Eq.mpr (eq_ref05_size n0_0 n0_1 n0_2 n0_3p n0_3l n0_3c n0_4p n0_4l n0_4c n0_5 w J) h)

/-- lectern/lecternref05.name -/
def VC_ref05_name (n0_0 : Int) (n0_1 : ByteArray) (n0_2 : ByteArray) (n0_3p : Option Addr) (n0_3l : Nat) (n0_3c : Nat) (n0_4p : Option Addr) (n0_4l : Nat) (n0_4c : Nat) (n0_5 : ByteArray) (w : World) (J : Bool → World → Prop) : Prop :=
  newB w (.cells ⟨[.int .i64 n0_0, .string n0_1, .string n0_2, .slice n0_3p n0_3l n0_3c, .slice n0_4p n0_4l n0_4c, .string n0_5]⟩ T_api_Node) fun b1 w1 =>
  withJ (fun (x14 : Bool) (w2 : World) =>
  condB x14 (
  J false w2) (
  ldS w2 ⟨b1, 3, none⟩ fun x16p x16l x16c =>
  ∃ I_18 : Int → World → Nat → Prop, (∃ m : Nat, I_18 (0 : Int) w2 m) ∧ ∀ (x18 : Int) (w3 : World) (m : Nat), I_18 x18 w3 m → (
  condB (decide (x18 < ((x16l : Nat) : Int))) (
  idxA x16p x16l x18 fun a20 =>
  ldStr w3 ((a20.add (x18.toNat * 3))) fun x21_0 =>
  ldStr w3 (((a20.add (x18.toNat * 3)).add 1)) fun x21_1 =>
  ldStr w3 (((a20.add (x18.toNat * 3)).add 2)) fun x21_2 =>
  newB w3 (.cells (zeroC Tryz.prog T_api_Attr) T_api_Attr) fun b4 w4 =>
  stN w4 ⟨b4, 0, none⟩ ⟨[.string x21_0, .string x21_1, .string x21_2]⟩ 3 fun w5 =>
  withJ (fun (x37 : Bool) (w6 : World) =>
  condB x37 (
  J false w6) (
  ∃ m' : Nat, m' < m ∧ I_18 (w64 (x18 + (1 : Int))) w6 m')) fun J_37 =>
  ldStr w5 ⟨b4, 0, none⟩ fun x23_0 =>
  ldStr w5 ⟨b4, 1, none⟩ fun x23_1 =>
  callJ Tryz.prog fn_ref05_called #[.agg ⟨[.string x23_0, .string x23_1]⟩] w5 [.one .bool] fun (r24 : Bool) (w7 : World) =>
  condB (!r24) (
  J_37 true w7) (
  ldStr w7 ⟨b4, 0, none⟩ fun x29 =>
  condB (x29.toList == (⟨#[]⟩ : ByteArray).toList) (
  ldStr w7 ⟨b4, 1, none⟩ fun x34 =>
  J_37 (x34.toList == (⟨#[120, 109, 108, 110, 115]⟩ : ByteArray).toList) w7) (
  J_37 false w7))) (
  ldStr w3 ⟨b1, 2, none⟩ fun x41 =>
  withJ (fun (x2 : Bool) (w8 : World) =>
  J x2 w8) fun J_2 =>
  ldI .i64 w3 ⟨b1, 0, none⟩ fun x43 =>
  condB (x43 != (5 : Int)) (
  J_2 true w3) (
  callJ Tryz.prog fn_ref01_Name #[.string x41] w3 [.one .bool] fun (r47 : Bool) (w9 : World) =>
  condB r47 (
  condB ((x41.size : Int) == (3 : Int)) (
  idxStr x41 (0 : Int) fun x54 =>
  condB (x54 == (120 : Int)) (
  idxStr x41 (1 : Int) fun x64 =>
  condB (x64 == (109 : Int)) (
  idxStr x41 (2 : Int) fun x74 =>
  condB (x74 == (108 : Int)) (
  J_2 false w9) (
  idxStr x41 (2 : Int) fun x78 =>
  J_2 (!(x78 == (76 : Int))) w9)) (
  idxStr x41 (1 : Int) fun x68 =>
  condB (x68 == (77 : Int)) (
  idxStr x41 (2 : Int) fun x74_1 =>
  condB (x74_1 == (108 : Int)) (
  J_2 false w9) (
  idxStr x41 (2 : Int) fun x78_1 =>
  J_2 (!(x78_1 == (76 : Int))) w9)) (
  J_2 true w9))) (
  idxStr x41 (0 : Int) fun x58 =>
  condB (x58 == (88 : Int)) (
  idxStr x41 (1 : Int) fun x64_1 =>
  condB (x64_1 == (109 : Int)) (
  idxStr x41 (2 : Int) fun x74_2 =>
  condB (x74_2 == (108 : Int)) (
  J_2 false w9) (
  idxStr x41 (2 : Int) fun x78_2 =>
  J_2 (!(x78_2 == (76 : Int))) w9)) (
  idxStr x41 (1 : Int) fun x68_1 =>
  condB (x68_1 == (77 : Int)) (
  idxStr x41 (2 : Int) fun x74_3 =>
  condB (x74_3 == (108 : Int)) (
  J_2 false w9) (
  idxStr x41 (2 : Int) fun x78_3 =>
  J_2 (!(x78_3 == (76 : Int))) w9)) (
  J_2 true w9))) (
  J_2 true w9))) (
  J_2 true w9)) (
  J_2 false w9)))))) fun J_14 =>
  ldI .i64 w1 ⟨b1, 0, none⟩ fun x7 =>
  condB (x7 == (2 : Int)) (
  ldStr w1 ⟨b1, 1, none⟩ fun x11_0 =>
  ldStr w1 ⟨b1, 2, none⟩ fun x11_1 =>
  callJ Tryz.prog fn_ref05_called #[.agg ⟨[.string x11_0, .string x11_1]⟩] w1 [.one .bool] fun (r12 : Bool) (w10 : World) =>
  J_14 (!r12) w10) (
  J_14 false w1)
def ann_ref05_name : Ann := .s (.o) (.s (.j [(14, .bool)] (.o) (.c (.s (.o) (.o)) (.o))) (.s (.s (.o) (.b (.l [(18, .int .i64)] (.s (.o) (.s (.c (.o) (.o)) (.s (.b (.s (.o) (.j [(37, .bool)] (.o) (.c (.s (.o) (.o)) (.o))))) (.o))))))) (.s (.o) (.j [(2, .bool)] (.o) (.o)))))
theorem eq_ref05_name (n0_0 : Int) (n0_1 : ByteArray) (n0_2 : ByteArray) (n0_3p : Option Addr) (n0_3l : Nat) (n0_3c : Nat) (n0_4p : Option Addr) (n0_4l : Nat) (n0_4c : Nat) (n0_5 : ByteArray) (w : World) (J : Bool → World → Prop) : vcFun Tryz.prog Tryz.f44 ann_ref05_name [.one .bool] [.agg ⟨[.int .i64 n0_0, .string n0_1, .string n0_2, .slice n0_3p n0_3l n0_3c, .slice n0_4p n0_4l n0_4c, .string n0_5]⟩] w J = VC_ref05_name n0_0 n0_1 n0_2 n0_3p n0_3l n0_3c n0_4p n0_4l n0_4c n0_5 w J := by kernel_rfl
theorem c_ref05_name {n0_0 : Int} {n0_1 : ByteArray} {n0_2 : ByteArray} {n0_3p : Option Addr} {n0_3l : Nat} {n0_3c : Nat} {n0_4p : Option Addr} {n0_4l : Nat} {n0_4c : Nat} {n0_5 : ByteArray} {w : World} {J : Bool → World → Prop} (h : VC_ref05_name n0_0 n0_1 n0_2 n0_3p n0_3l n0_3c n0_4p n0_4l n0_4c n0_5 w J) : callJ Tryz.prog fn_ref05_name #[.agg ⟨[.int .i64 n0_0, .string n0_1, .string n0_2, .slice n0_3p n0_3l n0_3c, .slice n0_4p n0_4l n0_4c, .string n0_5]⟩] w [.one .bool] J := vc_calls Tryz.func44 ann_ref05_name (Eq.mpr (eq_ref05_name n0_0 n0_1 n0_2 n0_3p n0_3l n0_3c n0_4p n0_4l n0_4c n0_5 w J) h)

/-- lectern/lecternref05.called -/
def VC_ref05_called (n0_0 : ByteArray) (n0_1 : ByteArray) (w : World) (J : Bool → World → Prop) : Prop :=
  newB w (.cells ⟨[.string n0_0, .string n0_1]⟩ T_api_Name) fun b1 w1 =>
  withJ (fun (x2 : Bool) (w2 : World) =>
  J x2 w2) fun J_2 =>
  ldStr w1 ⟨b1, 1, none⟩ fun x4 =>
  callJ Tryz.prog fn_ref01_Name #[.string x4] w1 [.one .bool] fun (r5 : Bool) (w3 : World) =>
  condB r5 (
  ldStr w3 ⟨b1, 0, none⟩ fun x8 =>
  condB (decide ((x8.size : Int) ≤ (100 : Int))) (
  ldStr w3 ⟨b1, 0, none⟩ fun x14 =>
  callJ Tryz.prog fn_ref05_fine #[.string x14] w3 [.one .bool] fun (r15 : Bool) (w4 : World) =>
  condB r15 (
  ldStr w4 ⟨b1, 0, none⟩ fun x19 =>
  J_2 (!(x19.toList == (⟨#[104, 116, 116, 112, 58, 47, 47, 119, 119, 119, 46, 119, 51, 46, 111, 114, 103, 47, 50, 48, 48, 48, 47, 120, 109, 108, 110, 115, 47]⟩ : ByteArray).toList)) w4) (
  J_2 false w4)) (
  J_2 false w3)) (
  J_2 false w3)
def ann_ref05_called : Ann := .s (.o) (.j [(2, .bool)] (.o) (.o))
theorem eq_ref05_called (n0_0 : ByteArray) (n0_1 : ByteArray) (w : World) (J : Bool → World → Prop) : vcFun Tryz.prog Tryz.f72 ann_ref05_called [.one .bool] [.agg ⟨[.string n0_0, .string n0_1]⟩] w J = VC_ref05_called n0_0 n0_1 w J := by kernel_rfl
theorem c_ref05_called {n0_0 : ByteArray} {n0_1 : ByteArray} {w : World} {J : Bool → World → Prop} (h : VC_ref05_called n0_0 n0_1 w J) : callJ Tryz.prog fn_ref05_called #[.agg ⟨[.string n0_0, .string n0_1]⟩] w [.one .bool] J := vc_calls Tryz.func72 ann_ref05_called (Eq.mpr (eq_ref05_called n0_0 n0_1 w J) h)

/-- lectern/lecternref05.fine -/
def VC_ref05_fine (s0 : ByteArray) (w : World) (J : Bool → World → Prop) : Prop :=
  cvJ Tryz.prog T_string T_sl_uint8 (.string s0) w fun q7p q7l q7c w1 =>
  callJ Tryz.prog fn_ref01_Fault #[.slice q7p q7l q7c] w1 [.one (.int .i64), .one (.int .i64)] fun (r8_0 : Int) (r8_1 : Int) (w2 : World) =>
  J (r8_1 == (0 : Int)) w2
def ann_ref05_fine : Ann := .s (.o) (.s (.o) (.s (.o) (.o)))
theorem eq_ref05_fine (s0 : ByteArray) (w : World) (J : Bool → World → Prop) : vcFun Tryz.prog Tryz.f74 ann_ref05_fine [.one .bool] [.string s0] w J = VC_ref05_fine s0 w J := by kernel_rfl
theorem c_ref05_fine {s0 : ByteArray} {w : World} {J : Bool → World → Prop} (h : VC_ref05_fine s0 w J) : callJ Tryz.prog fn_ref05_fine #[.string s0] w [.one .bool] J := vc_calls Tryz.func74 ann_ref05_fine (Eq.mpr (eq_ref05_fine s0 w J) h)

/-- lectern/lecternref05.chars -/
def VC_ref05_chars (n0_0 : Int) (n0_1 : ByteArray) (n0_2 : ByteArray) (n0_3p : Option Addr) (n0_3l : Nat) (n0_3c : Nat) (n0_4p : Option Addr) (n0_4l : Nat) (n0_4c : Nat) (n0_5 : ByteArray) (w : World) (J : Bool → World → Prop) : Prop :=
  newB w (.cells ⟨[.int .i64 n0_0, .string n0_1, .string n0_2, .slice n0_3p n0_3l n0_3c, .slice n0_4p n0_4l n0_4c, .string n0_5]⟩ T_api_Node) fun b1 w1 =>
  ldS w1 ⟨b1, 3, none⟩ fun x6p x6l x6c =>
  ∃ I_8 : Int → World → Nat → Prop, (∃ m : Nat, I_8 (0 : Int) w1 m) ∧ ∀ (x8 : Int) (w2 : World) (m : Nat), I_8 x8 w2 m → (
  condB (decide (x8 < ((x6l : Nat) : Int))) (
  idxA x6p x6l x8 fun a10 =>
  ldStr w2 ((a10.add (x8.toNat * 3))) fun x11_0 =>
  ldStr w2 (((a10.add (x8.toNat * 3)).add 1)) fun x11_1 =>
  ldStr w2 (((a10.add (x8.toNat * 3)).add 2)) fun x11_2 =>
  newB w2 (.cells (zeroC Tryz.prog T_api_Attr) T_api_Attr) fun b4 w3 =>
  stN w3 ⟨b4, 0, none⟩ ⟨[.string x11_0, .string x11_1, .string x11_2]⟩ 3 fun w4 =>
  ldStr w4 ⟨b4, 2, none⟩ fun x13 =>
  callJ Tryz.prog fn_ref05_fine #[.string x13] w4 [.one .bool] fun (r14 : Bool) (w5 : World) =>
  condB (!r14) (
  J false w5) (
  ∃ m' : Nat, m' < m ∧ I_8 (w64 (x8 + (1 : Int))) w5 m')) (
  ldStr w2 ⟨b1, 5, none⟩ fun x18 =>
  callJ Tryz.prog fn_ref05_fine #[.string x18] w2 [.one .bool] fun (r19 : Bool) (w6 : World) =>
  J r19 w6))
def ann_ref05_chars : Ann := .s (.o) (.s (.s (.o) (.b (.l [(8, .int .i64)] (.s (.o) (.s (.c (.o) (.o)) (.s (.b (.s (.o) (.s (.o) (.c (.s (.o) (.o)) (.o))))) (.o))))))) (.s (.o) (.o)))
theorem eq_ref05_chars (n0_0 : Int) (n0_1 : ByteArray) (n0_2 : ByteArray) (n0_3p : Option Addr) (n0_3l : Nat) (n0_3c : Nat) (n0_4p : Option Addr) (n0_4l : Nat) (n0_4c : Nat) (n0_5 : ByteArray) (w : World) (J : Bool → World → Prop) : vcFun Tryz.prog Tryz.f45 ann_ref05_chars [.one .bool] [.agg ⟨[.int .i64 n0_0, .string n0_1, .string n0_2, .slice n0_3p n0_3l n0_3c, .slice n0_4p n0_4l n0_4c, .string n0_5]⟩] w J = VC_ref05_chars n0_0 n0_1 n0_2 n0_3p n0_3l n0_3c n0_4p n0_4l n0_4c n0_5 w J := by kernel_rfl
theorem c_ref05_chars {n0_0 : Int} {n0_1 : ByteArray} {n0_2 : ByteArray} {n0_3p : Option Addr} {n0_3l : Nat} {n0_3c : Nat} {n0_4p : Option Addr} {n0_4l : Nat} {n0_4c : Nat} {n0_5 : ByteArray} {w : World} {J : Bool → World → Prop} (h : VC_ref05_chars n0_0 n0_1 n0_2 n0_3p n0_3l n0_3c n0_4p n0_4l n0_4c n0_5 w J) : callJ Tryz.prog fn_ref05_chars #[.agg ⟨[.int .i64 n0_0, .string n0_1, .string n0_2, .slice n0_3p n0_3l n0_3c, .slice n0_4p n0_4l n0_4c, .string n0_5]⟩] w [.one .bool] J := vc_calls Tryz.func45 ann_ref05_chars (Eq.mpr (eq_ref05_chars n0_0 n0_1 n0_2 n0_3p n0_3l n0_3c n0_4p n0_4l n0_4c n0_5 w J) h)

/-- lectern/lecternref05.order -/
def VC_ref05_order (n0_0 : Int) (n0_1 : ByteArray) (n0_2 : ByteArray) (n0_3p : Option Addr) (n0_3l : Nat) (n0_3c : Nat) (n0_4p : Option Addr) (n0_4l : Nat) (n0_4c : Nat) (n0_5 : ByteArray) (w : World) (J : Bool → World → Prop) : Prop :=
  newB w (.cells ⟨[.int .i64 n0_0, .string n0_1, .string n0_2, .slice n0_3p n0_3l n0_3c, .slice n0_4p n0_4l n0_4c, .string n0_5]⟩ T_api_Node) fun b1 w1 =>
  ∃ I_3 : Int → World → Nat → Prop, (∃ m : Nat, I_3 (1 : Int) w1 m) ∧ ∀ (i3 : Int) (w2 : World) (m : Nat), I_3 i3 w2 m → (
  ldS w2 ⟨b1, 3, none⟩ fun x6p x6l x6c =>
  condB (decide (i3 < ((x6l : Nat) : Int))) (
  ldS w2.drew ⟨b1, 3, none⟩ fun x12p x12l x12c =>
  idxA x12p x12l (w64 (i3 - (1 : Int))) fun a15 =>
  ldStr w2.drew ((a15.add ((w64 (i3 - (1 : Int))).toNat * 3))) fun x17_0 =>
  ldStr w2.drew (((a15.add ((w64 (i3 - (1 : Int))).toNat * 3)).add 1)) fun x17_1 =>
  ldS w2.drew ⟨b1, 3, none⟩ fun x19p x19l x19c =>
  idxA x19p x19l i3 fun a21 =>
  ldStr w2.drew ((a21.add (i3.toNat * 3))) fun x23_0 =>
  ldStr w2.drew (((a21.add (i3.toNat * 3)).add 1)) fun x23_1 =>
  callJ Tryz.prog fn_ref04_Before #[.agg ⟨[.string x17_0, .string x17_1]⟩, .agg ⟨[.string x23_0, .string x23_1]⟩] w2.drew [.one .bool] fun (r24 : Bool) (w3 : World) =>
  condB (!r24) (
  J false w3) (
  ∃ m' : Nat, m' < m ∧ I_3 (w64 (i3 + (1 : Int))) w3 m')) (
  J true w2))
def ann_ref05_order : Ann := .s (.o) (.s (.s (.o) (.b (.l [(3, .int .i64)] (.s (.s (.o) (.c (.o) (.o))) (.s (.b (.s (.d (.take 0 (.take 1 (.take 2 (.take 3 (.take 4 (.take 5 (.take 6 (.take 7 (.take 8 (.take 9 (.take 10 (.take 11 (.take 12 (.eff 13 (.take 14 (.done)) (.none)))))))))))))))) (.c (.s (.o) (.o)) (.o)))) (.o)))))) (.s (.o) (.o)))
theorem eq_ref05_order (n0_0 : Int) (n0_1 : ByteArray) (n0_2 : ByteArray) (n0_3p : Option Addr) (n0_3l : Nat) (n0_3c : Nat) (n0_4p : Option Addr) (n0_4l : Nat) (n0_4c : Nat) (n0_5 : ByteArray) (w : World) (J : Bool → World → Prop) : vcFun Tryz.prog Tryz.f46 ann_ref05_order [.one .bool] [.agg ⟨[.int .i64 n0_0, .string n0_1, .string n0_2, .slice n0_3p n0_3l n0_3c, .slice n0_4p n0_4l n0_4c, .string n0_5]⟩] w J = VC_ref05_order n0_0 n0_1 n0_2 n0_3p n0_3l n0_3c n0_4p n0_4l n0_4c n0_5 w J := by kernel_rfl
theorem c_ref05_order {n0_0 : Int} {n0_1 : ByteArray} {n0_2 : ByteArray} {n0_3p : Option Addr} {n0_3l : Nat} {n0_3c : Nat} {n0_4p : Option Addr} {n0_4l : Nat} {n0_4c : Nat} {n0_5 : ByteArray} {w : World} {J : Bool → World → Prop} (h : VC_ref05_order n0_0 n0_1 n0_2 n0_3p n0_3l n0_3c n0_4p n0_4l n0_4c n0_5 w J) : callJ Tryz.prog fn_ref05_order #[.agg ⟨[.int .i64 n0_0, .string n0_1, .string n0_2, .slice n0_3p n0_3l n0_3c, .slice n0_4p n0_4l n0_4c, .string n0_5]⟩] w [.one .bool] J := vc_calls Tryz.func46 ann_ref05_order (Eq.mpr (eq_ref05_order n0_0 n0_1 n0_2 n0_3p n0_3l n0_3c n0_4p n0_4l n0_4c n0_5 w J) h)

/-- lectern/lecternref05.text -/
def VC_ref05_text (n0_0 : Int) (n0_1 : ByteArray) (n0_2 : ByteArray) (n0_3p : Option Addr) (n0_3l : Nat) (n0_3c : Nat) (n0_4p : Option Addr) (n0_4l : Nat) (n0_4c : Nat) (n0_5 : ByteArray) (w : World) (J : Bool → World → Prop) : Prop :=
  newB w (.cells ⟨[.int .i64 n0_0, .string n0_1, .string n0_2, .slice n0_3p n0_3l n0_3c, .slice n0_4p n0_4l n0_4c, .string n0_5]⟩ T_api_Node) fun b1 w1 =>
  ∃ I_3 : Int → World → Nat → Prop, (∃ m : Nat, I_3 (1 : Int) w1 m) ∧ ∀ (i3 : Int) (w2 : World) (m : Nat), I_3 i3 w2 m → (
  ldS w2 ⟨b1, 4, none⟩ fun x7p x7l x7c =>
  condB (decide (i3 < ((x7l : Nat) : Int))) (
  withJ (fun (x28 : Bool) (w3 : World) =>
  condB x28 (
  J false w3) (
  ∃ m' : Nat, m' < m ∧ I_3 (w64 (i3 + (1 : Int))) w3 m')) fun J_28 =>
  ldS w2 ⟨b1, 4, none⟩ fun x13p x13l x13c =>
  idxA x13p x13l i3 fun a15 =>
  ldI .i64 w2 ((a15.add (i3.toNat * 6))) fun x17 =>
  condB (x17 == (3 : Int)) (
  ldS w2 ⟨b1, 4, none⟩ fun x21p x21l x21c =>
  idxA x21p x21l (w64 (i3 - (1 : Int))) fun a24 =>
  ldI .i64 w2 ((a24.add ((w64 (i3 - (1 : Int))).toNat * 6))) fun x26 =>
  J_28 (x26 == (3 : Int)) w2) (
  J_28 false w2)) (
  ldStr w2 ⟨b1, 5, none⟩ fun x30 =>
  ldI .i64 w2 ⟨b1, 0, none⟩ fun x32 =>
  condB (x32 == (3 : Int)) (
  J (!(x30.toList == (⟨#[]⟩ : ByteArray).toList)) w2) (
  condB (x32 == (4 : Int)) (
  withJ (fun (x2 : Bool) (w4 : World) =>
  J x2 w4) fun J_2 =>
  callJ Tryz.prog fn_ref05_has #[.string x30, .string ⟨#[45, 45]⟩] w2 [.one .bool] fun (r40 : Bool) (w5 : World) =>
  condB (!r40) (
  callJ Tryz.prog fn_ref05_has #[.string x30, .string ⟨#[13]⟩] w5 [.one .bool] fun (r44 : Bool) (w6 : World) =>
  condB (!r44) (
  condB (x30.toList == (⟨#[]⟩ : ByteArray).toList) (
  J_2 true w6) (
  idxStr x30 (w64 ((x30.size : Int) - (1 : Int))) fun x55 =>
  J_2 (x55 != (45 : Int)) w6)) (
  J_2 false w6)) (
  J_2 false w5)) (
  condB (x32 == (5 : Int)) (
  withJ (fun (x2_1 : Bool) (w7 : World) =>
  J x2_1 w7) fun J_2_1 =>
  callJ Tryz.prog fn_ref05_has #[.string x30, .string ⟨#[63, 62]⟩] w2 [.one .bool] fun (r62 : Bool) (w8 : World) =>
  condB (!r62) (
  callJ Tryz.prog fn_ref05_has #[.string x30, .string ⟨#[13]⟩] w8 [.one .bool] fun (r66 : Bool) (w9 : World) =>
  condB (!r66) (
  condB (x30.toList == (⟨#[]⟩ : ByteArray).toList) (
  J_2_1 true w9) (
  idxStr x30 (0 : Int) fun x74 =>
  condB (x74 != (32 : Int)) (
  idxStr x30 (0 : Int) fun x78 =>
  condB (x78 != (9 : Int)) (
  idxStr x30 (0 : Int) fun x83 =>
  J_2_1 (x83 != (10 : Int)) w9) (
  J_2_1 false w9)) (
  J_2_1 false w9))) (
  J_2_1 false w9)) (
  J_2_1 false w8)) (
  J true w2)))))
def ann_ref05_text : Ann := .s (.o) (.s (.s (.o) (.b (.l [(3, .int .i64)] (.s (.s (.o) (.c (.o) (.o))) (.s (.b (.j [(28, .bool)] (.o) (.c (.s (.o) (.o)) (.o)))) (.o)))))) (.s (.o) (.s (.s (.o) (.b (.s (.o) (.c (.s (.o) (.o)) (.s (.o) (.c (.j [(2, .bool)] (.o) (.o)) (.s (.o) (.c (.j [(2, .bool)] (.o) (.o)) (.o))))))))) (.s (.o) (.o)))))
theorem eq_ref05_text (n0_0 : Int) (n0_1 : ByteArray) (n0_2 : ByteArray) (n0_3p : Option Addr) (n0_3l : Nat) (n0_3c : Nat) (n0_4p : Option Addr) (n0_4l : Nat) (n0_4c : Nat) (n0_5 : ByteArray) (w : World) (J : Bool → World → Prop) : vcFun Tryz.prog Tryz.f47 ann_ref05_text [.one .bool] [.agg ⟨[.int .i64 n0_0, .string n0_1, .string n0_2, .slice n0_3p n0_3l n0_3c, .slice n0_4p n0_4l n0_4c, .string n0_5]⟩] w J = VC_ref05_text n0_0 n0_1 n0_2 n0_3p n0_3l n0_3c n0_4p n0_4l n0_4c n0_5 w J := by kernel_rfl
theorem c_ref05_text {n0_0 : Int} {n0_1 : ByteArray} {n0_2 : ByteArray} {n0_3p : Option Addr} {n0_3l : Nat} {n0_3c : Nat} {n0_4p : Option Addr} {n0_4l : Nat} {n0_4c : Nat} {n0_5 : ByteArray} {w : World} {J : Bool → World → Prop} (h : VC_ref05_text n0_0 n0_1 n0_2 n0_3p n0_3l n0_3c n0_4p n0_4l n0_4c n0_5 w J) : callJ Tryz.prog fn_ref05_text #[.agg ⟨[.int .i64 n0_0, .string n0_1, .string n0_2, .slice n0_3p n0_3l n0_3c, .slice n0_4p n0_4l n0_4c, .string n0_5]⟩] w [.one .bool] J := vc_calls Tryz.func47 ann_ref05_text (Eq.mpr (eq_ref05_text n0_0 n0_1 n0_2 n0_3p n0_3l n0_3c n0_4p n0_4l n0_4c n0_5 w J) h)

/-- lectern/lecternref05.has -/
def VC_ref05_has (s0 : ByteArray) (ww1 : ByteArray) (w : World) (J : Bool → World → Prop) : Prop :=
  ∃ I_5 : Int → World → Nat → Prop, (∃ m : Nat, I_5 (0 : Int) w m) ∧ ∀ (i5 : Int) (w1 : World) (m : Nat), I_5 i5 w1 m → (
  condB (decide ((w64 (i5 + (ww1.size : Int))) ≤ (s0.size : Int))) (
  slStr s0 (some i5) (some (w64 (i5 + (ww1.size : Int)))) fun s21 =>
  condB (s21.toList == ww1.toList) (
  J true w1) (
  ∃ m' : Nat, m' < m ∧ I_5 (w64 (i5 + (1 : Int))) w1 m')) (
  J false w1))
def ann_ref05_has : Ann := .s (.o) (.s (.s (.o) (.b (.l [(5, .int .i64)] (.s (.s (.o) (.c (.o) (.o))) (.s (.b (.s (.o) (.c (.s (.o) (.o)) (.o)))) (.o)))))) (.s (.o) (.o)))
theorem eq_ref05_has (s0 : ByteArray) (ww1 : ByteArray) (w : World) (J : Bool → World → Prop) : vcFun Tryz.prog Tryz.f76 ann_ref05_has [.one .bool] [.string s0, .string ww1] w J = VC_ref05_has s0 ww1 w J := by kernel_rfl
theorem c_ref05_has {s0 : ByteArray} {ww1 : ByteArray} {w : World} {J : Bool → World → Prop} (h : VC_ref05_has s0 ww1 w J) : callJ Tryz.prog fn_ref05_has #[.string s0, .string ww1] w [.one .bool] J := vc_calls Tryz.func76 ann_ref05_has (Eq.mpr (eq_ref05_has s0 ww1 w J) h)

end Go.Proofs.YtkgfbphdmnapdaaGreatDoor
