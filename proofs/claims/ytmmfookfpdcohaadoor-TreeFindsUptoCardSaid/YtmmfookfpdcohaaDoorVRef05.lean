/- What the conditions of these functions are, reckoned by the reading; printed by program. -/
import Derived.Test.YtmmfookfpdcohaaDoorNm
import Derived.KernelRfl
set_option maxRecDepth 100000
set_option linter.unusedVariables false
namespace Go.Proofs.YtmmfookfpdcohaaDoor
open Go Go.Vc

/-- lectern/lecternref05.Twin -/
def VC_ref05_Twin (n0_0 : Int) (n0_1 : ByteArray) (n0_2 : ByteArray) (n0_3p : Option Addr) (n0_3l : Nat) (n0_3c : Nat) (n0_4p : Option Addr) (n0_4l : Nat) (n0_4c : Nat) (n0_5 : ByteArray) (w : World) (J : Int → ByteArray → ByteArray → Option Addr → Nat → Nat → Option Addr → Nat → Nat → ByteArray → World → Prop) : Prop :=
  newB w (.cells ⟨[.int .i64 n0_0, .string n0_1, .string n0_2, .slice n0_3p n0_3l n0_3c, .slice n0_4p n0_4l n0_4c, .string n0_5]⟩ T_api_Node) fun b1 w1 =>
  newB w1 (.cells (zeroC Tryd.prog T_api_Node) T_api_Node) fun b2 w2 =>
  withJ (fun (out3 : Option Addr) (w3 : World) =>
  ldS w3 ⟨b1, 4, none⟩ fun x18p x18l x18c =>
  ∃ I_20 : Int → World → Nat → Prop, (∃ m : Nat, I_20 (0 : Int) w3 m) ∧ ∀ (x20 : Int) (w4 : World) (m : Nat), I_20 x20 w4 m → (
  condB (decide (x20 < ((x18l : Nat) : Int))) (
  idxA x18p x18l x20 fun a22 =>
  ldI .i64 w4 ((a22.add (x20.toNat * 6))) fun x23_0 =>
  ldStr w4 (((a22.add (x20.toNat * 6)).add 1)) fun x23_1 =>
  ldStr w4 (((a22.add (x20.toNat * 6)).add 2)) fun x23_2 =>
  ldS w4 (((a22.add (x20.toNat * 6)).add 3)) fun x23_3p x23_3l x23_3c =>
  ldS w4 (((a22.add (x20.toNat * 6)).add 4)) fun x23_4p x23_4l x23_4c =>
  ldStr w4 (((a22.add (x20.toNat * 6)).add 5)) fun x23_5 =>
  newB w4 (.cells (zeroC Tryd.prog T_api_Node) T_api_Node) fun b5 w5 =>
  stN w5 ⟨b5, 0, none⟩ ⟨[.int .i64 x23_0, .string x23_1, .string x23_2, .slice x23_3p x23_3l x23_3c, .slice x23_4p x23_4l x23_4c, .string x23_5]⟩ 6 fun w6 =>
  nonNil out3 fun a24 =>
  ldS w6.drew ((a24.add 4)) fun x25p x25l x25c =>
  ldI .i64 w6.drew ⟨b5, 0, none⟩ fun x26_0 =>
  ldStr w6.drew ⟨b5, 1, none⟩ fun x26_1 =>
  ldStr w6.drew ⟨b5, 2, none⟩ fun x26_2 =>
  ldS w6.drew ⟨b5, 3, none⟩ fun x26_3p x26_3l x26_3c =>
  ldS w6.drew ⟨b5, 4, none⟩ fun x26_4p x26_4l x26_4c =>
  ldStr w6.drew ⟨b5, 5, none⟩ fun x26_5 =>
  callJ Tryd.prog fn_ref05_Twin #[.agg ⟨[.int .i64 x26_0, .string x26_1, .string x26_2, .slice x26_3p x26_3l x26_3c, .slice x26_4p x26_4l x26_4c, .string x26_5]⟩] w6.drew [.agg [.int .i64, .str, .str, .slice, .slice, .str]] fun (r27_0 : Int) (r27_1 : ByteArray) (r27_2 : ByteArray) (r27_3p : Option Addr) (r27_3l : Nat) (r27_3c : Nat) (r27_4p : Option Addr) (r27_4l : Nat) (r27_4c : Nat) (r27_5 : ByteArray) (w7 : World) =>
  w7.cell? ((a24.add 4)) = some (.slice x25p x25l x25c) ∧
  Array.size (⟨[.int .i64 r27_0, .string r27_1, .string r27_2, .slice r27_3p r27_3l r27_3c, .slice r27_4p r27_4l r27_4c, .string r27_5]⟩ : Array Value) = 6 ∧
  newB w7 (.cells ⟨[.int .i64 r27_0, .string r27_1, .string r27_2, .slice r27_3p r27_3l r27_3c, .slice r27_4p r27_4l r27_4c, .string r27_5]⟩ T_api_Node) fun b28 w8 =>
  w8.cell? ((a24.add 4)) = some (.slice x25p x25l x25c) ∧
  appJ Tryd.prog T_sl_api_Node T_sl_api_Node (.slice x25p x25l x25c) (.slice (some ⟨b28, 0, none⟩) 1 1) w8 fun q29p q29l q29c w9 =>
  nonNil out3 fun a30 =>
  stV w9 ((a30.add 4)) (.slice q29p q29l q29c) fun w10 =>
  ∃ m' : Nat, m' < m ∧ I_20 (w64 (x20 + (1 : Int))) w10 m') (
  nonNil out3 fun a32 =>
  ldI .i64 w4 a32 fun x32_0 =>
  ldStr w4 ((a32.add 1)) fun x32_1 =>
  ldStr w4 ((a32.add 2)) fun x32_2 =>
  ldS w4 ((a32.add 3)) fun x32_3p x32_3l x32_3c =>
  ldS w4 ((a32.add 4)) fun x32_4p x32_4l x32_4c =>
  ldStr w4 ((a32.add 5)) fun x32_5 =>
  stN w4 ⟨b2, 0, none⟩ ⟨[.int .i64 x32_0, .string x32_1, .string x32_2, .slice x32_3p x32_3l x32_3c, .slice x32_4p x32_4l x32_4c, .string x32_5]⟩ 6 fun w11 =>
  ldI .i64 w11 ⟨b2, 0, none⟩ fun r_0 =>
  ldStr w11 ⟨b2, 1, none⟩ fun r_1 =>
  ldStr w11 ⟨b2, 2, none⟩ fun r_2 =>
  ldS w11 ⟨b2, 3, none⟩ fun r_3p r_3l r_3c =>
  ldS w11 ⟨b2, 4, none⟩ fun r_4p r_4l r_4c =>
  ldStr w11 ⟨b2, 5, none⟩ fun r_5 =>
  J r_0 r_1 r_2 r_3p r_3l r_3c r_4p r_4l r_4c r_5 w11))) fun J_3 =>
  ldI .i64 w2.drew ⟨b1, 0, none⟩ fun x7 =>
  ldStr w2.drew ⟨b1, 1, none⟩ fun x9_0 =>
  ldStr w2.drew ⟨b1, 2, none⟩ fun x9_1 =>
  ldStr w2.drew ⟨b1, 5, none⟩ fun x11 =>
  ldS w2.drew ⟨b1, 3, none⟩ fun x14p x14l x14c =>
  (
  newB w2.drew (.cells ⟨[]⟩ T_api_Attr) fun b12 w12 =>
  w12.cell? ⟨b1, 3, none⟩ = some (.slice x14p x14l x14c) ∧
  w12.cell? ⟨b1, 5, none⟩ = some (.string x11) ∧
  cellsAt w12 ⟨b1, 1, none⟩ [.string x9_0, .string x9_1] ∧
  w12.cell? ⟨b1, 0, none⟩ = some (.int .i64 x7) ∧
  (
  appJ Tryd.prog T_sl_api_Attr T_sl_api_Attr (.slice (some ⟨b12, 0, none⟩) 0 0) (.slice x14p x14l x14c) w12 fun q15p q15l q15c w13 =>
  w13.cell? ⟨b1, 5, none⟩ = some (.string x11) ∧
  cellsAt w13 ⟨b1, 1, none⟩ [.string x9_0, .string x9_1] ∧
  w13.cell? ⟨b1, 0, none⟩ = some (.int .i64 x7) ∧
  Array.size (⟨[.string x9_0, .string x9_1]⟩ : Array Value) = 2 ∧
  newB w13 (.cells (zeroC Tryd.prog T_api_Node) T_api_Node) fun b3 w14 =>
  w14.cell? ⟨b1, 3, none⟩ = some (.slice x14p x14l x14c) ∧
  w14.cell? ⟨b1, 5, none⟩ = some (.string x11) ∧
  cellsAt w14 ⟨b1, 1, none⟩ [.string x9_0, .string x9_1] ∧
  w14.cell? ⟨b1, 0, none⟩ = some (.int .i64 x7) ∧
  stN w14 ⟨b3, 0, none⟩ ⟨[.int .i64 x7, .string x9_0, .string x9_1, .slice q15p q15l q15c, .slice none 0 0, .string x11]⟩ 6 fun w15 =>
  J_3 (some ⟨b3, 0, none⟩) w15) ∧ (
  newB w12 (.cells (zeroC Tryd.prog T_api_Node) T_api_Node) fun b3_1 w16 =>
  w16.cell? ⟨b1, 3, none⟩ = some (.slice x14p x14l x14c) ∧
  w16.cell? ⟨b1, 5, none⟩ = some (.string x11) ∧
  cellsAt w16 ⟨b1, 1, none⟩ [.string x9_0, .string x9_1] ∧
  w16.cell? ⟨b1, 0, none⟩ = some (.int .i64 x7) ∧
  appJ Tryd.prog T_sl_api_Attr T_sl_api_Attr (.slice (some ⟨b12, 0, none⟩) 0 0) (.slice x14p x14l x14c) w16 fun q15_1p q15_1l q15_1c w17 =>
  w17.cell? ⟨b1, 5, none⟩ = some (.string x11) ∧
  cellsAt w17 ⟨b1, 1, none⟩ [.string x9_0, .string x9_1] ∧
  w17.cell? ⟨b1, 0, none⟩ = some (.int .i64 x7) ∧
  Array.size (⟨[.string x9_0, .string x9_1]⟩ : Array Value) = 2 ∧
  stN w17 ⟨b3_1, 0, none⟩ ⟨[.int .i64 x7, .string x9_0, .string x9_1, .slice q15_1p q15_1l q15_1c, .slice none 0 0, .string x11]⟩ 6 fun w18 =>
  J_3 (some ⟨b3_1, 0, none⟩) w18)) ∧ (
  newB w2.drew (.cells (zeroC Tryd.prog T_api_Node) T_api_Node) fun b3_2 w19 =>
  w19.cell? ⟨b1, 3, none⟩ = some (.slice x14p x14l x14c) ∧
  w19.cell? ⟨b1, 5, none⟩ = some (.string x11) ∧
  cellsAt w19 ⟨b1, 1, none⟩ [.string x9_0, .string x9_1] ∧
  w19.cell? ⟨b1, 0, none⟩ = some (.int .i64 x7) ∧
  newB w19 (.cells ⟨[]⟩ T_api_Attr) fun b12_1 w20 =>
  w20.cell? ⟨b1, 3, none⟩ = some (.slice x14p x14l x14c) ∧
  w20.cell? ⟨b1, 5, none⟩ = some (.string x11) ∧
  cellsAt w20 ⟨b1, 1, none⟩ [.string x9_0, .string x9_1] ∧
  w20.cell? ⟨b1, 0, none⟩ = some (.int .i64 x7) ∧
  appJ Tryd.prog T_sl_api_Attr T_sl_api_Attr (.slice (some ⟨b12_1, 0, none⟩) 0 0) (.slice x14p x14l x14c) w20 fun q15_2p q15_2l q15_2c w21 =>
  w21.cell? ⟨b1, 5, none⟩ = some (.string x11) ∧
  cellsAt w21 ⟨b1, 1, none⟩ [.string x9_0, .string x9_1] ∧
  w21.cell? ⟨b1, 0, none⟩ = some (.int .i64 x7) ∧
  Array.size (⟨[.string x9_0, .string x9_1]⟩ : Array Value) = 2 ∧
  stN w21 ⟨b3_2, 0, none⟩ ⟨[.int .i64 x7, .string x9_0, .string x9_1, .slice q15_2p q15_2l q15_2c, .slice none 0 0, .string x11]⟩ 6 fun w22 =>
  J_3 (some ⟨b3_2, 0, none⟩) w22)
def ann_ref05_Twin : Ann := .s (.o) (.j [(3, .ptr)] (.d (.take 0 (.take 1 (.take 2 (.take 3 (.take 4 (.take 5 (.take 7 (.take 8 (.eff 6 (.eff 9 (.take 10 (.eff 11 (.eff 12 (.done) (.none)) (.none))) (.eff 11 (.eff 9 (.take 10 (.eff 12 (.done) (.none))) (.none)) (.none))) (.eff 11 (.eff 6 (.eff 9 (.take 10 (.eff 12 (.done) (.none))) (.none)) (.none)) (.none)))))))))))) (.s (.s (.o) (.b (.l [(20, .int .i64)] (.s (.o) (.s (.c (.o) (.o)) (.s (.b (.s (.o) (.d (.take 0 (.take 1 (.take 2 (.eff 3 (.eff 4 (.eff 5 (.take 6 (.eff 7 (.done) (.none))) (.none)) (.none)) (.none)))))))) (.o))))))) (.s (.o) (.o))))
theorem eq_ref05_Twin (n0_0 : Int) (n0_1 : ByteArray) (n0_2 : ByteArray) (n0_3p : Option Addr) (n0_3l : Nat) (n0_3c : Nat) (n0_4p : Option Addr) (n0_4l : Nat) (n0_4c : Nat) (n0_5 : ByteArray) (w : World) (J : Int → ByteArray → ByteArray → Option Addr → Nat → Nat → Option Addr → Nat → Nat → ByteArray → World → Prop) : vcFun Tryd.prog Tryd.f15 ann_ref05_Twin [.agg [.int .i64, .str, .str, .slice, .slice, .str]] [.agg ⟨[.int .i64 n0_0, .string n0_1, .string n0_2, .slice n0_3p n0_3l n0_3c, .slice n0_4p n0_4l n0_4c, .string n0_5]⟩] w J = VC_ref05_Twin n0_0 n0_1 n0_2 n0_3p n0_3l n0_3c n0_4p n0_4l n0_4c n0_5 w J := by kernel_rfl
theorem c_ref05_Twin {n0_0 : Int} {n0_1 : ByteArray} {n0_2 : ByteArray} {n0_3p : Option Addr} {n0_3l : Nat} {n0_3c : Nat} {n0_4p : Option Addr} {n0_4l : Nat} {n0_4c : Nat} {n0_5 : ByteArray} {w : World} {J : Int → ByteArray → ByteArray → Option Addr → Nat → Nat → Option Addr → Nat → Nat → ByteArray → World → Prop} (h : VC_ref05_Twin n0_0 n0_1 n0_2 n0_3p n0_3l n0_3c n0_4p n0_4l n0_4c n0_5 w J) : callJ Tryd.prog fn_ref05_Twin #[.agg ⟨[.int .i64 n0_0, .string n0_1, .string n0_2, .slice n0_3p n0_3l n0_3c, .slice n0_4p n0_4l n0_4c, .string n0_5]⟩] w [.agg [.int .i64, .str, .str, .slice, .slice, .str]] J := vc_calls Tryd.func15 ann_ref05_Twin (Eq.mpr (eq_ref05_Twin n0_0 n0_1 n0_2 n0_3p n0_3l n0_3c n0_4p n0_4l n0_4c n0_5 w J) h)

/-- lectern/lecternref05.At -/
def VC_ref05_At (n0_0 : Int) (n0_1 : ByteArray) (n0_2 : ByteArray) (n0_3p : Option Addr) (n0_3l : Nat) (n0_3c : Nat) (n0_4p : Option Addr) (n0_4l : Nat) (n0_4c : Nat) (n0_5 : ByteArray) (path1p : Option Addr) (path1l : Nat) (path1c : Nat) (w : World) (J : Int → ByteArray → ByteArray → Option Addr → Nat → Nat → Option Addr → Nat → Nat → ByteArray → Bool → World → Prop) : Prop :=
  newB w (.cells ⟨[.int .i64 n0_0, .string n0_1, .string n0_2, .slice n0_3p n0_3l n0_3c, .slice n0_4p n0_4l n0_4c, .string n0_5]⟩ T_api_Node) fun b2 w1 =>
  newB w1 (.cells (zeroC Tryd.prog T_api_Node) T_api_Node) fun b4 w2 =>
  ∃ I_10 : Int → World → Nat → Prop, (∃ m : Nat, I_10 (0 : Int) w2 m) ∧ ∀ (x10 : Int) (w3 : World) (m : Nat), I_10 x10 w3 m → (
  condB (decide (x10 < ((path1l : Nat) : Int))) (
  idxA path1p path1l x10 fun a12 =>
  ldI .i64 w3 ((a12.add (x10.toNat * 1))) fun x13 =>
  withJ (fun (x22 : Bool) (w4 : World) =>
  condB x22 (
  stN w4 ⟨b4, 0, none⟩ ⟨[.int .i64 (0 : Int), .string ByteArray.empty, .string ByteArray.empty, .slice none 0 0, .slice none 0 0, .string ByteArray.empty]⟩ 6 fun w5 =>
  ldI .i64 w5 ⟨b4, 0, none⟩ fun r_0 =>
  ldStr w5 ⟨b4, 1, none⟩ fun r_1 =>
  ldStr w5 ⟨b4, 2, none⟩ fun r_2 =>
  ldS w5 ⟨b4, 3, none⟩ fun r_3p r_3l r_3c =>
  ldS w5 ⟨b4, 4, none⟩ fun r_4p r_4l r_4c =>
  ldStr w5 ⟨b4, 5, none⟩ fun r_5 =>
  J r_0 r_1 r_2 r_3p r_3l r_3c r_4p r_4l r_4c r_5 false w5) (
  ldS w4 ⟨b2, 4, none⟩ fun x25p x25l x25c =>
  idxA x25p x25l x13 fun a27 =>
  ldI .i64 w4 ((a27.add (x13.toNat * 6))) fun x28_0 =>
  ldStr w4 (((a27.add (x13.toNat * 6)).add 1)) fun x28_1 =>
  ldStr w4 (((a27.add (x13.toNat * 6)).add 2)) fun x28_2 =>
  ldS w4 (((a27.add (x13.toNat * 6)).add 3)) fun x28_3p x28_3l x28_3c =>
  ldS w4 (((a27.add (x13.toNat * 6)).add 4)) fun x28_4p x28_4l x28_4c =>
  ldStr w4 (((a27.add (x13.toNat * 6)).add 5)) fun x28_5 =>
  stN w4 ⟨b2, 0, none⟩ ⟨[.int .i64 x28_0, .string x28_1, .string x28_2, .slice x28_3p x28_3l x28_3c, .slice x28_4p x28_4l x28_4c, .string x28_5]⟩ 6 fun w6 =>
  ∃ m' : Nat, m' < m ∧ I_10 (w64 (x10 + (1 : Int))) w6 m')) fun J_22 =>
  condB (decide (x13 < (0 : Int))) (
  J_22 true w3) (
  ldS w3 ⟨b2, 4, none⟩ fun x19p x19l x19c =>
  J_22 (decide (x13 ≥ ((x19l : Nat) : Int))) w3)) (
  ldI .i64 w3 ⟨b2, 0, none⟩ fun x30_0 =>
  ldStr w3 ⟨b2, 1, none⟩ fun x30_1 =>
  ldStr w3 ⟨b2, 2, none⟩ fun x30_2 =>
  ldS w3 ⟨b2, 3, none⟩ fun x30_3p x30_3l x30_3c =>
  ldS w3 ⟨b2, 4, none⟩ fun x30_4p x30_4l x30_4c =>
  ldStr w3 ⟨b2, 5, none⟩ fun x30_5 =>
  stN w3 ⟨b4, 0, none⟩ ⟨[.int .i64 x30_0, .string x30_1, .string x30_2, .slice x30_3p x30_3l x30_3c, .slice x30_4p x30_4l x30_4c, .string x30_5]⟩ 6 fun w7 =>
  ldI .i64 w7 ⟨b4, 0, none⟩ fun r_0_1 =>
  ldStr w7 ⟨b4, 1, none⟩ fun r_1_1 =>
  ldStr w7 ⟨b4, 2, none⟩ fun r_2_1 =>
  ldS w7 ⟨b4, 3, none⟩ fun r_3_1p r_3_1l r_3_1c =>
  ldS w7 ⟨b4, 4, none⟩ fun r_4_1p r_4_1l r_4_1c =>
  ldStr w7 ⟨b4, 5, none⟩ fun r_5_1 =>
  J r_0_1 r_1_1 r_2_1 r_3_1p r_3_1l r_3_1c r_4_1p r_4_1l r_4_1c r_5_1 true w7))
def ann_ref05_At : Ann := .s (.o) (.s (.s (.o) (.b (.l [(10, .int .i64)] (.s (.o) (.s (.c (.o) (.o)) (.s (.b (.s (.o) (.s (.j [(22, .bool)] (.o) (.c (.s (.o) (.o)) (.o))) (.o)))) (.o))))))) (.s (.o) (.o)))
theorem eq_ref05_At (n0_0 : Int) (n0_1 : ByteArray) (n0_2 : ByteArray) (n0_3p : Option Addr) (n0_3l : Nat) (n0_3c : Nat) (n0_4p : Option Addr) (n0_4l : Nat) (n0_4c : Nat) (n0_5 : ByteArray) (path1p : Option Addr) (path1l : Nat) (path1c : Nat) (w : World) (J : Int → ByteArray → ByteArray → Option Addr → Nat → Nat → Option Addr → Nat → Nat → ByteArray → Bool → World → Prop) : vcFun Tryd.prog Tryd.f17 ann_ref05_At [.agg [.int .i64, .str, .str, .slice, .slice, .str], .one .bool] [.agg ⟨[.int .i64 n0_0, .string n0_1, .string n0_2, .slice n0_3p n0_3l n0_3c, .slice n0_4p n0_4l n0_4c, .string n0_5]⟩, .slice path1p path1l path1c] w J = VC_ref05_At n0_0 n0_1 n0_2 n0_3p n0_3l n0_3c n0_4p n0_4l n0_4c n0_5 path1p path1l path1c w J := by kernel_rfl
theorem c_ref05_At {n0_0 : Int} {n0_1 : ByteArray} {n0_2 : ByteArray} {n0_3p : Option Addr} {n0_3l : Nat} {n0_3c : Nat} {n0_4p : Option Addr} {n0_4l : Nat} {n0_4c : Nat} {n0_5 : ByteArray} {path1p : Option Addr} {path1l : Nat} {path1c : Nat} {w : World} {J : Int → ByteArray → ByteArray → Option Addr → Nat → Nat → Option Addr → Nat → Nat → ByteArray → Bool → World → Prop} (h : VC_ref05_At n0_0 n0_1 n0_2 n0_3p n0_3l n0_3c n0_4p n0_4l n0_4c n0_5 path1p path1l path1c w J) : callJ Tryd.prog fn_ref05_At #[.agg ⟨[.int .i64 n0_0, .string n0_1, .string n0_2, .slice n0_3p n0_3l n0_3c, .slice n0_4p n0_4l n0_4c, .string n0_5]⟩, .slice path1p path1l path1c] w [.agg [.int .i64, .str, .str, .slice, .slice, .str], .one .bool] J := vc_calls Tryd.func17 ann_ref05_At (Eq.mpr (eq_ref05_At n0_0 n0_1 n0_2 n0_3p n0_3l n0_3c n0_4p n0_4l n0_4c n0_5 path1p path1l path1c w J) h)

/-- lectern/lecternref05.Same -/
def VC_ref05_Same (a0_0 : Int) (a0_1 : ByteArray) (a0_2 : ByteArray) (a0_3p : Option Addr) (a0_3l : Nat) (a0_3c : Nat) (a0_4p : Option Addr) (a0_4l : Nat) (a0_4c : Nat) (a0_5 : ByteArray) (b1_0 : Int) (b1_1 : ByteArray) (b1_2 : ByteArray) (b1_3p : Option Addr) (b1_3l : Nat) (b1_3c : Nat) (b1_4p : Option Addr) (b1_4l : Nat) (b1_4c : Nat) (b1_5 : ByteArray) (w : World) (J : Bool → World → Prop) : Prop :=
  newB w (.cells ⟨[.int .i64 a0_0, .string a0_1, .string a0_2, .slice a0_3p a0_3l a0_3c, .slice a0_4p a0_4l a0_4c, .string a0_5]⟩ T_api_Node) fun b2 w1 =>
  newB w1 (.cells ⟨[.int .i64 b1_0, .string b1_1, .string b1_2, .slice b1_3p b1_3l b1_3c, .slice b1_4p b1_4l b1_4c, .string b1_5]⟩ T_api_Node) fun b3 w2 =>
  withJ (fun (x41 : Bool) (w3 : World) =>
  condB x41 (
  J false w3) (
  ldS w3 ⟨b2, 4, none⟩ fun x43p x43l x43c =>
  ∃ I_45 : Int → World → Nat → Prop, (∃ m : Nat, I_45 (0 : Int) w3 m) ∧ ∀ (x45 : Int) (w4 : World) (m : Nat), I_45 x45 w4 m → (
  condB (decide (x45 < ((x43l : Nat) : Int))) (
  ldS w4.drew ⟨b2, 4, none⟩ fun x49p x49l x49c =>
  idxA x49p x49l x45 fun a51 =>
  ldI .i64 w4.drew ((a51.add (x45.toNat * 6))) fun x52_0 =>
  ldStr w4.drew (((a51.add (x45.toNat * 6)).add 1)) fun x52_1 =>
  ldStr w4.drew (((a51.add (x45.toNat * 6)).add 2)) fun x52_2 =>
  ldS w4.drew (((a51.add (x45.toNat * 6)).add 3)) fun x52_3p x52_3l x52_3c =>
  ldS w4.drew (((a51.add (x45.toNat * 6)).add 4)) fun x52_4p x52_4l x52_4c =>
  ldStr w4.drew (((a51.add (x45.toNat * 6)).add 5)) fun x52_5 =>
  ldS w4.drew ⟨b3, 4, none⟩ fun x54p x54l x54c =>
  idxA x54p x54l x45 fun a56 =>
  ldI .i64 w4.drew ((a56.add (x45.toNat * 6))) fun x57_0 =>
  ldStr w4.drew (((a56.add (x45.toNat * 6)).add 1)) fun x57_1 =>
  ldStr w4.drew (((a56.add (x45.toNat * 6)).add 2)) fun x57_2 =>
  ldS w4.drew (((a56.add (x45.toNat * 6)).add 3)) fun x57_3p x57_3l x57_3c =>
  ldS w4.drew (((a56.add (x45.toNat * 6)).add 4)) fun x57_4p x57_4l x57_4c =>
  ldStr w4.drew (((a56.add (x45.toNat * 6)).add 5)) fun x57_5 =>
  callJ Tryd.prog fn_ref05_Same #[.agg ⟨[.int .i64 x52_0, .string x52_1, .string x52_2, .slice x52_3p x52_3l x52_3c, .slice x52_4p x52_4l x52_4c, .string x52_5]⟩, .agg ⟨[.int .i64 x57_0, .string x57_1, .string x57_2, .slice x57_3p x57_3l x57_3c, .slice x57_4p x57_4l x57_4c, .string x57_5]⟩] w4.drew [.one .bool] fun (r58 : Bool) (w5 : World) =>
  condB (!r58) (
  J false w5) (
  ∃ m' : Nat, m' < m ∧ I_45 (w64 (x45 + (1 : Int))) w5 m')) (
  J true w4)))) fun J_41 =>
  ldI .i64 w2 ⟨b2, 0, none⟩ fun x7 =>
  ldI .i64 w2 ⟨b3, 0, none⟩ fun x9 =>
  condB (x7 != x9) (
  J_41 true w2) (
  ldStr w2 ⟨b2, 1, none⟩ fun x13_0 =>
  ldStr w2 ⟨b2, 2, none⟩ fun x13_1 =>
  ldStr w2 ⟨b3, 1, none⟩ fun x15_0 =>
  ldStr w2 ⟨b3, 2, none⟩ fun x15_1 =>
  condB (!((x13_0.toList == x15_0.toList) && ((x13_1.toList == x15_1.toList) && true))) (
  J_41 true w2) (
  ldStr w2 ⟨b2, 5, none⟩ fun x20 =>
  ldStr w2 ⟨b3, 5, none⟩ fun x22 =>
  condB (!(x20.toList == x22.toList)) (
  J_41 true w2) (
  ldS w2 ⟨b2, 3, none⟩ fun x27p x27l x27c =>
  ldS w2 ⟨b3, 3, none⟩ fun x29p x29l x29c =>
  callJ Tryd.prog fn_ref04_SameAttrs #[.slice x27p x27l x27c, .slice x29p x29l x29c] w2 [.one .bool] fun (r30 : Bool) (w6 : World) =>
  condB (!r30) (
  J_41 true w6) (
  ldS w6 ⟨b2, 4, none⟩ fun x35p x35l x35c =>
  ldS w6 ⟨b3, 4, none⟩ fun x38p x38l x38c =>
  J_41 (((x35l : Nat) : Int) != ((x38l : Nat) : Int)) w6))))
def ann_ref05_Same : Ann := .s (.o) (.s (.j [(41, .bool)] (.o) (.c (.s (.o) (.o)) (.o))) (.s (.s (.o) (.b (.l [(45, .int .i64)] (.s (.o) (.s (.c (.o) (.o)) (.s (.b (.s (.o) (.s (.d (.take 0 (.take 1 (.take 2 (.take 3 (.take 4 (.take 5 (.take 6 (.take 7 (.take 8 (.take 9 (.eff 10 (.take 11 (.done)) (.none))))))))))))) (.c (.s (.o) (.o)) (.o))))) (.o))))))) (.s (.o) (.o))))
theorem eq_ref05_Same (a0_0 : Int) (a0_1 : ByteArray) (a0_2 : ByteArray) (a0_3p : Option Addr) (a0_3l : Nat) (a0_3c : Nat) (a0_4p : Option Addr) (a0_4l : Nat) (a0_4c : Nat) (a0_5 : ByteArray) (b1_0 : Int) (b1_1 : ByteArray) (b1_2 : ByteArray) (b1_3p : Option Addr) (b1_3l : Nat) (b1_3c : Nat) (b1_4p : Option Addr) (b1_4l : Nat) (b1_4c : Nat) (b1_5 : ByteArray) (w : World) (J : Bool → World → Prop) : vcFun Tryd.prog Tryd.f18 ann_ref05_Same [.one .bool] [.agg ⟨[.int .i64 a0_0, .string a0_1, .string a0_2, .slice a0_3p a0_3l a0_3c, .slice a0_4p a0_4l a0_4c, .string a0_5]⟩, .agg ⟨[.int .i64 b1_0, .string b1_1, .string b1_2, .slice b1_3p b1_3l b1_3c, .slice b1_4p b1_4l b1_4c, .string b1_5]⟩] w J = VC_ref05_Same a0_0 a0_1 a0_2 a0_3p a0_3l a0_3c a0_4p a0_4l a0_4c a0_5 b1_0 b1_1 b1_2 b1_3p b1_3l b1_3c b1_4p b1_4l b1_4c b1_5 w J := by kernel_rfl
theorem c_ref05_Same {a0_0 : Int} {a0_1 : ByteArray} {a0_2 : ByteArray} {a0_3p : Option Addr} {a0_3l : Nat} {a0_3c : Nat} {a0_4p : Option Addr} {a0_4l : Nat} {a0_4c : Nat} {a0_5 : ByteArray} {b1_0 : Int} {b1_1 : ByteArray} {b1_2 : ByteArray} {b1_3p : Option Addr} {b1_3l : Nat} {b1_3c : Nat} {b1_4p : Option Addr} {b1_4l : Nat} {b1_4c : Nat} {b1_5 : ByteArray} {w : World} {J : Bool → World → Prop} (h : VC_ref05_Same a0_0 a0_1 a0_2 a0_3p a0_3l a0_3c a0_4p a0_4l a0_4c a0_5 b1_0 b1_1 b1_2 b1_3p b1_3l b1_3c b1_4p b1_4l b1_4c b1_5 w J) : callJ Tryd.prog fn_ref05_Same #[.agg ⟨[.int .i64 a0_0, .string a0_1, .string a0_2, .slice a0_3p a0_3l a0_3c, .slice a0_4p a0_4l a0_4c, .string a0_5]⟩, .agg ⟨[.int .i64 b1_0, .string b1_1, .string b1_2, .slice b1_3p b1_3l b1_3c, .slice b1_4p b1_4l b1_4c, .string b1_5]⟩] w [.one .bool] J := vc_calls Tryd.func18 ann_ref05_Same (Eq.mpr (eq_ref05_Same a0_0 a0_1 a0_2 a0_3p a0_3l a0_3c a0_4p a0_4l a0_4c a0_5 b1_0 b1_1 b1_2 b1_3p b1_3l b1_3c b1_4p b1_4l b1_4c b1_5 w J) h)

end Go.Proofs.YtmmfookfpdcohaaDoor
