/- What the conditions of these functions are, reckoned by the reading; printed by program. -/
import Derived.Test.YtjjmnfpdkgnmoaaNm
import Derived.KernelRfl
set_option maxRecDepth 100000
set_option linter.unusedVariables false
namespace Go.Proofs.Ytjjmnfpdkgnmoaa
open Go Go.Vc

/-- lectern/lecternlaw12.awake -/
def VC_law12_awake  (w : World) (J : Bool → World → Prop) : Prop :=
  newB w (.cells ⟨[.int .i64 (1 : Int)]⟩ T_int) fun b8 w1 =>
  callJ Try.prog fn_label_Bytes #[.slice (some ⟨b8, 0, none⟩) 1 1] w1 [.one .slice, .one (.int .i64)] fun (r9_0p : Option Addr) (r9_0l : Nat) (r9_0c : Nat) (r9_1 : Int) (w2 : World) =>
  newB w2 (.cells ⟨[.int .u8 (192 : Int)]⟩ T_uint8) fun b13 w3 =>
  callJ Try.prog fn_label_Read #[.slice (some ⟨b13, 0, none⟩) 1 1] w3 [.one .slice, .one (.int .i64)] fun (r14_0p : Option Addr) (r14_0l : Nat) (r14_0c : Nat) (r14_1 : Int) (w4 : World) =>
  newB w4 (.cells ⟨[.int .i64 (1 : Int)]⟩ T_int) fun b18 w5 =>
  newB w5 (.cells ⟨[.int .i64 (3 : Int)]⟩ T_int) fun b19 w6 =>
  callJ Try.prog fn_label_Between #[.slice none 0 0, .slice (some ⟨b18, 0, none⟩) 1 1, .slice (some ⟨b19, 0, none⟩) 1 1] w6 [.one .slice, .one (.int .i64)] fun (r20_0p : Option Addr) (r20_0l : Nat) (r20_0c : Nat) (r20_1 : Int) (w7 : World) =>
  withJ (fun (x0 : Bool) (w8 : World) =>
  J x0 w8) fun J_0 =>
  condB (r9_1 == (0 : Int)) (
  condB (r14_1 == (0 : Int)) (
  condB (r20_1 == (0 : Int)) (
  condB (((r9_0l : Nat) : Int) == (1 : Int)) (
  idxA r9_0p r9_0l (0 : Int) fun a40 =>
  ldI .u8 w7 ((a40.add ((0 : Int).toNat * 1))) fun x41 =>
  condB (x41 == (192 : Int)) (
  condB (((r14_0l : Nat) : Int) == (1 : Int)) (
  idxA r14_0p r14_0l (0 : Int) fun a51 =>
  ldI .i64 w7 ((a51.add ((0 : Int).toNat * 1))) fun x52 =>
  condB (x52 == (1 : Int)) (
  newB w7 (.cells ⟨[.int .i64 (2 : Int), .int .i64 (1 : Int)]⟩ T_int) fun b57 w9 =>
  callJ Try.prog fn_ref05_SameInts #[.slice r20_0p r20_0l r20_0c, .slice (some ⟨b57, 0, none⟩) 2 2] w9 [.one .bool] fun (r58 : Bool) (w10 : World) =>
  condB r58 (
  newB w10 (.cells ⟨[.int .i64 (3 : Int), .int .i64 (2 : Int), .int .i64 (1 : Int)]⟩ T_int) fun b61 w11 =>
  callJ Try.prog fn_label_Level #[.slice (some ⟨b61, 0, none⟩) 3 3] w11 [.one (.int .i64)] fun (r62 : Int) (w12 : World) =>
  J_0 (r62 == (2 : Int)) w12) (
  J_0 false w10)) (
  J_0 false w7)) (
  J_0 false w7)) (
  J_0 false w7)) (
  J_0 false w7)) (
  J_0 false w7)) (
  J_0 false w7)) (
  J_0 false w7)
def ann_law12_awake : Ann := .s (.o) (.s (.o) (.s (.o) (.s (.o) (.j [(0, .bool)] (.o) (.o)))))
theorem eq_law12_awake  (w : World) (J : Bool → World → Prop) : vcFun Try.prog Try.f11 ann_law12_awake [.one .bool] [] w J = VC_law12_awake  w J := by kernel_rfl
theorem c_law12_awake {w : World} {J : Bool → World → Prop} (h : VC_law12_awake  w J) : callJ Try.prog fn_law12_awake #[] w [.one .bool] J := vc_calls Try.func11 ann_law12_awake (Eq.mpr (eq_law12_awake  w J) h)

/-- lectern/lecternlaw12.order -/
def VC_law12_order (a0p : Option Addr) (a0l : Nat) (a0c : Nat) (b1p : Option Addr) (b1l : Nat) (b1c : Nat) (w : World) (J : Int → World → Prop) : Prop :=
  bytesOf w a0p a0l fun bs6 =>
  bytesOf w b1p b1l fun bs8 =>
  condB (Op.bytesLess (⟨bs6.toArray⟩ : ByteArray).toList (⟨bs8.toArray⟩ : ByteArray).toList) (
  J (-1 : Int) w) (
  bytesOf w a0p a0l fun bs11 =>
  bytesOf w b1p b1l fun bs13 =>
  condB (!((Op.bytesLess (⟨bs11.toArray⟩ : ByteArray).toList (⟨bs13.toArray⟩ : ByteArray).toList) || ((⟨bs11.toArray⟩ : ByteArray).toList == (⟨bs13.toArray⟩ : ByteArray).toList))) (
  J (1 : Int) w) (
  J (0 : Int) w))
def ann_law12_order : Ann := .s (.o) (.s (.s (.o) (.c (.s (.o) (.o)) (.o))) (.s (.s (.o) (.c (.s (.o) (.o)) (.o))) (.s (.o) (.o))))
theorem eq_law12_order (a0p : Option Addr) (a0l : Nat) (a0c : Nat) (b1p : Option Addr) (b1l : Nat) (b1c : Nat) (w : World) (J : Int → World → Prop) : vcFun Try.prog Try.f22 ann_law12_order [.one (.int .i64)] [.slice a0p a0l a0c, .slice b1p b1l b1c] w J = VC_law12_order a0p a0l a0c b1p b1l b1c w J := by kernel_rfl
theorem c_law12_order {a0p : Option Addr} {a0l : Nat} {a0c : Nat} {b1p : Option Addr} {b1l : Nat} {b1c : Nat} {w : World} {J : Int → World → Prop} (h : VC_law12_order a0p a0l a0c b1p b1l b1c w J) : callJ Try.prog fn_law12_order #[.slice a0p a0l a0c, .slice b1p b1l b1c] w [.one (.int .i64)] J := vc_calls Try.func22 ann_law12_order (Eq.mpr (eq_law12_order a0p a0l a0c b1p b1l b1c w J) h)

/-- lectern/lecternlaw12.LabelBytes -/
def VC_law12_LabelBytes (l0p : Option Addr) (l0l : Nat) (l0c : Nat) (b1p : Option Addr) (b1l : Nat) (b1c : Nat) (w : World) (J : Bool → World → Prop) : Prop :=
  callJ Try.prog fn_law12_awake #[] w [.one .bool] fun (r13 : Bool) (w1 : World) =>
  condB (!r13) (
  J false w1) (
  callJ Try.prog fn_label_Bytes #[.slice l0p l0l l0c] w1 [.one .slice, .one (.int .i64)] fun (r17_0p : Option Addr) (r17_0l : Nat) (r17_0c : Nat) (r17_1 : Int) (w2 : World) =>
  callJ Try.prog fn_ref12_Bytes #[.slice l0p l0l l0c] w2 [.one .slice, .one (.int .i64)] fun (r22_0p : Option Addr) (r22_0l : Nat) (r22_0c : Nat) (r22_1 : Int) (w3 : World) =>
  callJ Try.prog fn_label_Read #[.slice b1p b1l b1c] w3 [.one .slice, .one (.int .i64)] fun (r27_0p : Option Addr) (r27_0l : Nat) (r27_0c : Nat) (r27_1 : Int) (w4 : World) =>
  callJ Try.prog fn_ref12_Read #[.slice b1p b1l b1c] w4 [.one .slice, .one .bool] fun (r32_0p : Option Addr) (r32_0l : Nat) (r32_0c : Nat) (r32_1 : Bool) (w5 : World) =>
  withJ (fun (x49 : Bool) (w6 : World) =>
  condB x49 (
  J false w6) (
  condB (!r32_1) (
  withJ (fun (x4 : Bool) (w7 : World) =>
  J x4 w7) fun J_4 =>
  condB (r27_1 == (11 : Int)) (
  J_4 (((r27_0l : Nat) : Int) == (0 : Int)) w6) (
  J_4 false w6)) (
  withJ (fun (x4_1 : Bool) (w8 : World) =>
  J x4_1 w8) fun J_4_1 =>
  condB (r27_1 == (0 : Int)) (
  callJ Try.prog fn_ref05_SameInts #[.slice r27_0p r27_0l r27_0c, .slice r32_0p r32_0l r32_0c] w6 [.one .bool] fun (r64 : Bool) (w9 : World) =>
  J_4_1 r64 w9) (
  J_4_1 false w6)))) fun J_49 =>
  condB (r17_1 != r22_1) (
  J_49 true w5) (
  callJ Try.prog fn_ref01_Same #[.slice r17_0p r17_0l r17_0c, .slice r22_0p r22_0l r22_0c] w5 [.one .bool] fun (r41 : Bool) (w10 : World) =>
  condB (!r41) (
  J_49 true w10) (
  callJ Try.prog fn_label_Check #[.slice l0p l0l l0c] w10 [.one (.int .i64)] fun (r46 : Int) (w11 : World) =>
  J_49 (r46 != r22_1) w11)))
def ann_law12_LabelBytes : Ann := .s (.o) (.s (.s (.o) (.c (.s (.o) (.o)) (.o))) (.s (.o) (.s (.o) (.s (.o) (.s (.o) (.s (.j [(49, .bool)] (.o) (.c (.s (.o) (.o)) (.o))) (.s (.s (.o) (.c (.j [(4, .bool)] (.o) (.o)) (.o))) (.j [(4, .bool)] (.o) (.o)))))))))
theorem eq_law12_LabelBytes (l0p : Option Addr) (l0l : Nat) (l0c : Nat) (b1p : Option Addr) (b1l : Nat) (b1c : Nat) (w : World) (J : Bool → World → Prop) : vcFun Try.prog Try.f3 ann_law12_LabelBytes [.one .bool] [.slice l0p l0l l0c, .slice b1p b1l b1c] w J = VC_law12_LabelBytes l0p l0l l0c b1p b1l b1c w J := by kernel_rfl
theorem c_law12_LabelBytes {l0p : Option Addr} {l0l : Nat} {l0c : Nat} {b1p : Option Addr} {b1l : Nat} {b1c : Nat} {w : World} {J : Bool → World → Prop} (h : VC_law12_LabelBytes l0p l0l l0c b1p b1l b1c w J) : callJ Try.prog fn_law12_LabelBytes #[.slice l0p l0l l0c, .slice b1p b1l b1c] w [.one .bool] J := vc_calls Try.func3 ann_law12_LabelBytes (Eq.mpr (eq_law12_LabelBytes l0p l0l l0c b1p b1l b1c w J) h)

/-- lectern/lecternlaw12.LabelBack -/
def VC_law12_LabelBack (l0p : Option Addr) (l0l : Nat) (l0c : Nat) (b1p : Option Addr) (b1l : Nat) (b1c : Nat) (w : World) (J : Bool → World → Prop) : Prop :=
  callJ Try.prog fn_law12_awake #[] w [.one .bool] fun (r11 : Bool) (w1 : World) =>
  condB (!r11) (
  J false w1) (
  callJ Try.prog fn_label_Bytes #[.slice l0p l0l l0c] w1 [.one .slice, .one (.int .i64)] fun (r15_0p : Option Addr) (r15_0l : Nat) (r15_0c : Nat) (r15_1 : Int) (w2 : World) =>
  withJ (fun (w3 : World) =>
  callJ Try.prog fn_label_Read #[.slice b1p b1l b1c] w3 [.one .slice, .one (.int .i64)] fun (r40_0p : Option Addr) (r40_0l : Nat) (r40_0c : Nat) (r40_1 : Int) (w4 : World) =>
  condB (r40_1 != (0 : Int)) (
  J (((r40_0l : Nat) : Int) == (0 : Int)) w4) (
  callJ Try.prog fn_label_Bytes #[.slice r40_0p r40_0l r40_0c] w4 [.one .slice, .one (.int .i64)] fun (r50_0p : Option Addr) (r50_0l : Nat) (r50_0c : Nat) (r50_1 : Int) (w5 : World) =>
  withJ (fun (x4 : Bool) (w6 : World) =>
  J x4 w6) fun J_4 =>
  condB (r50_1 == (0 : Int)) (
  callJ Try.prog fn_ref01_Same #[.slice r50_0p r50_0l r50_0c, .slice b1p b1l b1c] w5 [.one .bool] fun (r58 : Bool) (w7 : World) =>
  J_4 r58 w7) (
  J_4 false w5))) fun J_0 =>
  condB (r15_1 == (0 : Int)) (
  callJ Try.prog fn_label_Read #[.slice r15_0p r15_0l r15_0c] w2 [.one .slice, .one (.int .i64)] fun (r22_0p : Option Addr) (r22_0l : Nat) (r22_0c : Nat) (r22_1 : Int) (w8 : World) =>
  withJ (fun (x37 : Bool) (w9 : World) =>
  condB x37 (
  J false w9) (
  J_0 w9)) fun J_37 =>
  condB (r22_1 != (0 : Int)) (
  J_37 true w8) (
  callJ Try.prog fn_ref05_SameInts #[.slice r22_0p r22_0l r22_0c, .slice l0p l0l l0c] w8 [.one .bool] fun (r30 : Bool) (w10 : World) =>
  condB (!r30) (
  J_37 true w10) (
  J_37 (decide (((r15_0l : Nat) : Int) > (120 : Int))) w10))) (
  J_0 w2))
def ann_law12_LabelBack : Ann := .s (.o) (.s (.s (.o) (.c (.s (.o) (.o)) (.o))) (.s (.o) (.j [] (.s (.o) (.c (.s (.o) (.j [(37, .bool)] (.o) (.c (.s (.o) (.o)) (.o)))) (.o))) (.s (.o) (.s (.s (.o) (.c (.s (.o) (.o)) (.o))) (.s (.o) (.j [(4, .bool)] (.o) (.o))))))))
theorem eq_law12_LabelBack (l0p : Option Addr) (l0l : Nat) (l0c : Nat) (b1p : Option Addr) (b1l : Nat) (b1c : Nat) (w : World) (J : Bool → World → Prop) : vcFun Try.prog Try.f4 ann_law12_LabelBack [.one .bool] [.slice l0p l0l l0c, .slice b1p b1l b1c] w J = VC_law12_LabelBack l0p l0l l0c b1p b1l b1c w J := by kernel_rfl
theorem c_law12_LabelBack {l0p : Option Addr} {l0l : Nat} {l0c : Nat} {b1p : Option Addr} {b1l : Nat} {b1c : Nat} {w : World} {J : Bool → World → Prop} (h : VC_law12_LabelBack l0p l0l l0c b1p b1l b1c w J) : callJ Try.prog fn_law12_LabelBack #[.slice l0p l0l l0c, .slice b1p b1l b1c] w [.one .bool] J := vc_calls Try.func4 ann_law12_LabelBack (Eq.mpr (eq_law12_LabelBack l0p l0l l0c b1p b1l b1c w J) h)

/-- lectern/lecternlaw12.LabelBetween -/
def VC_law12_LabelBetween (up0p : Option Addr) (up0l : Nat) (up0c : Nat) (l1p : Option Addr) (l1l : Nat) (l1c : Nat) (r2p : Option Addr) (r2l : Nat) (r2c : Nat) (w : World) (J : Bool → World → Prop) : Prop :=
  callJ Try.prog fn_law12_awake #[] w [.one .bool] fun (r13 : Bool) (w1 : World) =>
  condB (!r13) (
  J false w1) (
  newB w1 (.cells ⟨[]⟩ T_int) fun b15 w2 =>
  appJ Try.prog T_sl_int T_sl_int (.slice (some ⟨b15, 0, none⟩) 0 0) (.slice up0p up0l up0c) w2 fun q17p q17l q17c w3 =>
  newB w3 (.cells ⟨[.int .i64 (77 : Int)]⟩ T_int) fun b18 w4 =>
  appJ Try.prog T_sl_int T_sl_int (.slice q17p q17l q17c) (.slice (some ⟨b18, 0, none⟩) 1 1) w4 fun q19p q19l q19c w5 =>
  slS q19p q19l q19c 1 none (some ((up0l : Nat) : Int)) none fun q22p q22l q22c =>
  callJ Try.prog fn_label_Between #[.slice q22p q22l q22c, .slice l1p l1l l1c, .slice r2p r2l r2c] w5 [.one .slice, .one (.int .i64)] fun (r27_0p : Option Addr) (r27_0l : Nat) (r27_0c : Nat) (r27_1 : Int) (w6 : World) =>
  callJ Try.prog fn_ref12_Between #[.slice up0p up0l up0c, .slice l1p l1l l1c, .slice r2p r2l r2c] w6 [.one .slice, .one (.int .i64)] fun (r34_0p : Option Addr) (r34_0l : Nat) (r34_0c : Nat) (r34_1 : Int) (w7 : World) =>
  withJ (fun (x57 : Bool) (w8 : World) =>
  condB x57 (
  J false w8) (
  ∃ I_60 : Int → World → Nat → Prop, (∃ m : Nat, I_60 (0 : Int) w8 m) ∧ ∀ (x60 : Int) (w9 : World) (m : Nat), I_60 x60 w9 m → (
  condB (decide (x60 < ((r27_0l : Nat) : Int))) (
  idxA r27_0p r27_0l x60 fun a65 =>
  stV w9 ((a65.add (x60.toNat * 1))) (.int .i64 (6 : Int)) fun w10 =>
  ∃ m' : Nat, m' < m ∧ I_60 (w64 (x60 + (1 : Int))) w10 m') (
  callJ Try.prog fn_ref05_SameInts #[.slice q22p q22l q22c, .slice up0p up0l up0c] w9 [.one .bool] fun (r69 : Bool) (w11 : World) =>
  J r69 w11)))) fun J_57 =>
  condB (r27_1 != r34_1) (
  J_57 true w7) (
  callJ Try.prog fn_ref05_SameInts #[.slice r27_0p r27_0l r27_0c, .slice r34_0p r34_0l r34_0c] w7 [.one .bool] fun (r43 : Bool) (w12 : World) =>
  condB (!r43) (
  J_57 true w12) (
  slS q22p q22l q22c 1 none (some (w64 (((up0l : Nat) : Int) + (1 : Int)))) none fun q51p q51l q51c =>
  idxA q51p q51l ((up0l : Nat) : Int) fun a54 =>
  ldI .i64 w12 ((a54.add (((up0l : Nat) : Int).toNat * 1))) fun x55 =>
  J_57 (x55 != (77 : Int)) w12)))
def ann_law12_LabelBetween : Ann := .s (.o) (.s (.s (.o) (.c (.s (.o) (.o)) (.o))) (.s (.o) (.s (.o) (.s (.o) (.s (.j [(57, .bool)] (.o) (.c (.s (.o) (.o)) (.o))) (.s (.s (.o) (.b (.l [(60, .int .i64)] (.s (.o) (.s (.c (.o) (.o)) (.s (.b (.s (.o) (.o))) (.o))))))) (.s (.o) (.o))))))))
theorem eq_law12_LabelBetween (up0p : Option Addr) (up0l : Nat) (up0c : Nat) (l1p : Option Addr) (l1l : Nat) (l1c : Nat) (r2p : Option Addr) (r2l : Nat) (r2c : Nat) (w : World) (J : Bool → World → Prop) : vcFun Try.prog Try.f5 ann_law12_LabelBetween [.one .bool] [.slice up0p up0l up0c, .slice l1p l1l l1c, .slice r2p r2l r2c] w J = VC_law12_LabelBetween up0p up0l up0c l1p l1l l1c r2p r2l r2c w J := by kernel_rfl
theorem c_law12_LabelBetween {up0p : Option Addr} {up0l : Nat} {up0c : Nat} {l1p : Option Addr} {l1l : Nat} {l1c : Nat} {r2p : Option Addr} {r2l : Nat} {r2c : Nat} {w : World} {J : Bool → World → Prop} (h : VC_law12_LabelBetween up0p up0l up0c l1p l1l l1c r2p r2l r2c w J) : callJ Try.prog fn_law12_LabelBetween #[.slice up0p up0l up0c, .slice l1p l1l l1c, .slice r2p r2l r2c] w [.one .bool] J := vc_calls Try.func5 ann_law12_LabelBetween (Eq.mpr (eq_law12_LabelBetween up0p up0l up0c l1p l1l l1c r2p r2l r2c w J) h)

/-- lectern/lecternlaw12.LabelInserts -/
def VC_law12_LabelInserts (up0p : Option Addr) (up0l : Nat) (up0c : Nat) (places1p : Option Addr) (places1l : Nat) (places1c : Nat) (w : World) (J : Bool → World → Prop) : Prop :=
  callJ Try.prog fn_law12_awake #[] w [.one .bool] fun (r18 : Bool) (w1 : World) =>
  condB (!r18) (
  J false w1) (
  callJ Try.prog fn_label_Check #[.slice up0p up0l up0c] w1 [.one (.int .i64)] fun (r21 : Int) (w2 : World) =>
  condB (r21 != (0 : Int)) (
  J true w2) (
  withJ (fun (kids5p : Option Addr) (kids5l : Nat) (kids5c : Nat) (w3 : World) =>
  ∃ I_13 : Option Addr → Nat → Nat → Int → World → Nat → Prop, (∃ m : Nat, I_13 none 0 0 (0 : Int) w3 m) ∧ ∀ (last13p : Option Addr) (last13l : Nat) (last13c : Nat) (x81 : Int) (w4 : World) (m : Nat), I_13 last13p last13l last13c x81 w4 m → (
  condB (decide (x81 < ((kids5l : Nat) : Int))) (
  idxA kids5p kids5l x81 fun a84 =>
  ldS w4 ((a84.add (x81.toNat * 1))) fun x85p x85l x85c =>
  callJ Try.prog fn_label_Bytes #[.slice x85p x85l x85c] w4 [.one .slice, .one (.int .i64)] fun (r88_0p : Option Addr) (r88_0l : Nat) (r88_0c : Nat) (r88_1 : Int) (w5 : World) =>
  withJ (fun (x110 : Bool) (w6 : World) =>
  condB x110 (
  J false w6) (
  ∃ m' : Nat, m' < m ∧ I_13 r88_0p r88_0l r88_0c (w64 (x81 + (1 : Int))) w6 m')) fun J_110 =>
  condB (r88_1 != (0 : Int)) (
  J_110 true w5) (
  condB (decide (x81 > (0 : Int))) (
  bytesOf w5 last13p last13l fun bs98 =>
  bytesOf w5 r88_0p r88_0l fun bs100 =>
  condB (!(Op.bytesLess (⟨bs98.toArray⟩ : ByteArray).toList (⟨bs100.toArray⟩ : ByteArray).toList)) (
  J_110 true w5) (
  callJ Try.prog fn_label_Up #[.slice x85p x85l x85c] w5 [.one .slice] fun (r106p : Option Addr) (r106l : Nat) (r106c : Nat) (w7 : World) =>
  callJ Try.prog fn_ref05_SameInts #[.slice r106p r106l r106c, .slice up0p up0l up0c] w7 [.one .bool] fun (r108 : Bool) (w8 : World) =>
  J_110 (!r108) w8)) (
  callJ Try.prog fn_label_Up #[.slice x85p x85l x85c] w5 [.one .slice] fun (r106_1p : Option Addr) (r106_1l : Nat) (r106_1c : Nat) (w9 : World) =>
  callJ Try.prog fn_ref05_SameInts #[.slice r106_1p r106_1l r106_1c, .slice up0p up0l up0c] w9 [.one .bool] fun (r108_1 : Bool) (w10 : World) =>
  J_110 (!r108_1) w10))) (
  withJ (fun (x4 : Bool) (w11 : World) =>
  J x4 w11) fun J_4 =>
  condB (decide (((kids5l : Nat) : Int) > (0 : Int))) (
  J_4 true w4) (
  condB (((places1l : Nat) : Int) == (0 : Int)) (
  J_4 true w4) (
  J_4 (decide (((up0l : Nat) : Int) > (0 : Int))) w4))))) fun J_5 =>
  ∃ I_5 : Option Addr → Nat → Nat → Int → World → Nat → Prop, (∃ m : Nat, I_5 none 0 0 (0 : Int) w2 m) ∧ ∀ (kids5_1p : Option Addr) (kids5_1l : Nat) (kids5_1c : Nat) (x25 : Int) (w12 : World) (m_1 : Nat), I_5 kids5_1p kids5_1l kids5_1c x25 w12 m_1 → (
  condB (decide (x25 < ((places1l : Nat) : Int))) (
  withJ (fun (kids5_2p : Option Addr) (kids5_2l : Nat) (kids5_2c : Nat) (w13 : World) =>
  ∃ m' : Nat, m' < m_1 ∧ I_5 kids5_2p kids5_2l kids5_2c (w64 (x25 + (1 : Int))) w13 m') fun J_5_1 =>
  idxA places1p places1l x25 fun a28 =>
  ldI .i64 w12 ((a28.add (x25.toNat * 1))) fun x29 =>
  condB (decide (x25 ≥ (120 : Int))) (
  J_5 kids5_1p kids5_1l kids5_1c w12) (
  (IntKind.u64.wrap (w64 (((kids5_1l : Nat) : Int) + (1 : Int)))) ≠ 0 ∧
  withJ (fun (l9p : Option Addr) (l9l : Nat) (l9c : Nat) (w14 : World) =>
  withJ (fun (r10p : Option Addr) (r10l : Nat) (r10c : Nat) (w15 : World) =>
  callJ Try.prog fn_label_Between #[.slice up0p up0l up0c, .slice l9p l9l l9c, .slice r10p r10l r10c] w15 [.one .slice, .one (.int .i64)] fun (r59_0p : Option Addr) (r59_0l : Nat) (r59_0c : Nat) (r59_1 : Int) (w16 : World) =>
  condB (r59_1 != (0 : Int)) (
  condB (r59_1 != (5 : Int)) (
  J false w16) (
  J_5_1 kids5_1p kids5_1l kids5_1c w16)) (
  slS kids5_1p kids5_1l kids5_1c 1 none (some (w64 (Int.tmod (IntKind.u64.wrap x29) (IntKind.u64.wrap (w64 (((kids5_1l : Nat) : Int) + (1 : Int))))))) none fun q69p q69l q69c =>
  slS kids5_1p kids5_1l kids5_1c 1 (some (w64 (Int.tmod (IntKind.u64.wrap x29) (IntKind.u64.wrap (w64 (((kids5_1l : Nat) : Int) + (1 : Int))))))) none none fun q76p q76l q76c =>
  (
  newB w16.drew (.cells ⟨[]⟩ T_sl_int) fun b66 w17 =>
  (
  appJ Try.prog T_sl_sl_int T_sl_sl_int (.slice (some ⟨b66, 0, none⟩) 0 0) (.slice q69p q69l q69c) w17 fun q70p q70l q70c w18 =>
  newB w18 (.cells ⟨[.slice r59_0p r59_0l r59_0c]⟩ T_sl_int) fun b72 w19 =>
  appJ Try.prog T_sl_sl_int T_sl_sl_int (.slice q70p q70l q70c) (.slice (some ⟨b72, 0, none⟩) 1 1) w19 fun q73p q73l q73c w20 =>
  appJ Try.prog T_sl_sl_int T_sl_sl_int (.slice q73p q73l q73c) (.slice q76p q76l q76c) w20 fun q77p q77l q77c w21 =>
  J_5_1 q77p q77l q77c w21) ∧ (
  newB w17 (.cells ⟨[.slice r59_0p r59_0l r59_0c]⟩ T_sl_int) fun b72_1 w22 =>
  appJ Try.prog T_sl_sl_int T_sl_sl_int (.slice (some ⟨b66, 0, none⟩) 0 0) (.slice q69p q69l q69c) w22 fun q70_1p q70_1l q70_1c w23 =>
  appJ Try.prog T_sl_sl_int T_sl_sl_int (.slice q70_1p q70_1l q70_1c) (.slice (some ⟨b72_1, 0, none⟩) 1 1) w23 fun q73_1p q73_1l q73_1c w24 =>
  appJ Try.prog T_sl_sl_int T_sl_sl_int (.slice q73_1p q73_1l q73_1c) (.slice q76p q76l q76c) w24 fun q77_1p q77_1l q77_1c w25 =>
  J_5_1 q77_1p q77_1l q77_1c w25)) ∧ (
  newB w16.drew (.cells ⟨[.slice r59_0p r59_0l r59_0c]⟩ T_sl_int) fun b72_2 w26 =>
  newB w26 (.cells ⟨[]⟩ T_sl_int) fun b66_1 w27 =>
  appJ Try.prog T_sl_sl_int T_sl_sl_int (.slice (some ⟨b66_1, 0, none⟩) 0 0) (.slice q69p q69l q69c) w27 fun q70_2p q70_2l q70_2c w28 =>
  appJ Try.prog T_sl_sl_int T_sl_sl_int (.slice q70_2p q70_2l q70_2c) (.slice (some ⟨b72_2, 0, none⟩) 1 1) w28 fun q73_2p q73_2l q73_2c w29 =>
  appJ Try.prog T_sl_sl_int T_sl_sl_int (.slice q73_2p q73_2l q73_2c) (.slice q76p q76l q76c) w29 fun q77_2p q77_2l q77_2c w30 =>
  J_5_1 q77_2p q77_2l q77_2c w30))) fun J_10 =>
  condB (decide ((w64 (Int.tmod (IntKind.u64.wrap x29) (IntKind.u64.wrap (w64 (((kids5_1l : Nat) : Int) + (1 : Int)))))) < ((kids5_1l : Nat) : Int))) (
  idxA kids5_1p kids5_1l (w64 (Int.tmod (IntKind.u64.wrap x29) (IntKind.u64.wrap (w64 (((kids5_1l : Nat) : Int) + (1 : Int)))))) fun a53 =>
  ldS w14 ((a53.add ((w64 (Int.tmod (IntKind.u64.wrap x29) (IntKind.u64.wrap (w64 (((kids5_1l : Nat) : Int) + (1 : Int)))))).toNat * 1))) fun x54p x54l x54c =>
  J_10 x54p x54l x54c w14) (
  J_10 none 0 0 w14)) fun J_9 =>
  condB (decide ((w64 (Int.tmod (IntKind.u64.wrap x29) (IntKind.u64.wrap (w64 (((kids5_1l : Nat) : Int) + (1 : Int)))))) > (0 : Int))) (
  idxA kids5_1p kids5_1l (w64 ((w64 (Int.tmod (IntKind.u64.wrap x29) (IntKind.u64.wrap (w64 (((kids5_1l : Nat) : Int) + (1 : Int)))))) - (1 : Int))) fun a45 =>
  ldS w12 ((a45.add ((w64 ((w64 (Int.tmod (IntKind.u64.wrap x29) (IntKind.u64.wrap (w64 (((kids5_1l : Nat) : Int) + (1 : Int)))))) - (1 : Int))).toNat * 1))) fun x46p x46l x46c =>
  J_9 x46p x46l x46c w12) (
  J_9 none 0 0 w12))) (
  J_5 kids5_1p kids5_1l kids5_1c w12))))
def ann_law12_LabelInserts : Ann := .s (.o) (.s (.s (.o) (.c (.s (.o) (.o)) (.o))) (.s (.s (.o) (.c (.s (.o) (.o)) (.o))) (.s (.o) (.j [(5, .slice)] (.s (.o) (.b (.l [(5, .slice), (25, .int .i64)] (.s (.o) (.s (.c (.o) (.o)) (.j [(5, .slice)] (.b (.s (.o) (.s (.s (.o) (.c (.o) (.o))) (.s (.o) (.s (.o) (.j [(9, .slice)] (.s (.o) (.c (.o) (.o))) (.j [(10, .slice)] (.s (.o) (.c (.o) (.o))) (.s (.o) (.s (.s (.o) (.c (.s (.s (.o) (.c (.s (.o) (.o)) (.o))) (.o)) (.o))) (.d (.take 1 (.take 2 (.take 3 (.take 5 (.take 8 (.take 9 (.take 10 (.eff 0 (.eff 4 (.eff 6 (.eff 7 (.eff 11 (.take 12 (.done)) (.none)) (.none)) (.none)) (.eff 6 (.eff 4 (.eff 7 (.eff 11 (.take 12 (.done)) (.none)) (.none)) (.none)) (.none))) (.eff 6 (.eff 0 (.eff 4 (.eff 7 (.eff 11 (.take 12 (.done)) (.none)) (.none)) (.none)) (.none)) (.none)))))))))))))))))))) (.o))))))) (.s (.o) (.s (.s (.o) (.b (.l [(13, .slice), (81, .int .i64)] (.s (.o) (.s (.c (.o) (.o)) (.s (.b (.s (.o) (.s (.o) (.s (.j [(110, .bool)] (.o) (.c (.s (.o) (.o)) (.o))) (.o))))) (.o))))))) (.j [(4, .bool)] (.o) (.o))))))))
theorem eq_law12_LabelInserts (up0p : Option Addr) (up0l : Nat) (up0c : Nat) (places1p : Option Addr) (places1l : Nat) (places1c : Nat) (w : World) (J : Bool → World → Prop) : vcFun Try.prog Try.f6 ann_law12_LabelInserts [.one .bool] [.slice up0p up0l up0c, .slice places1p places1l places1c] w J = VC_law12_LabelInserts up0p up0l up0c places1p places1l places1c w J := by kernel_rfl
theorem c_law12_LabelInserts {up0p : Option Addr} {up0l : Nat} {up0c : Nat} {places1p : Option Addr} {places1l : Nat} {places1c : Nat} {w : World} {J : Bool → World → Prop} (h : VC_law12_LabelInserts up0p up0l up0c places1p places1l places1c w J) : callJ Try.prog fn_law12_LabelInserts #[.slice up0p up0l up0c, .slice places1p places1l places1c] w [.one .bool] J := vc_calls Try.func6 ann_law12_LabelInserts (Eq.mpr (eq_law12_LabelInserts up0p up0l up0c places1p places1l places1c w J) h)

/-- lectern/lecternlaw12.LabelRows -/
def VC_law12_LabelRows (up0p : Option Addr) (up0l : Nat) (up0c : Nat) (n1 : Int) (w : World) (J : Bool → World → Prop) : Prop :=
  callJ Try.prog fn_law12_awake #[] w [.one .bool] fun (r16 : Bool) (w1 : World) =>
  condB (!r16) (
  J false w1) (
  callJ Try.prog fn_label_Bytes #[.slice up0p up0l up0c] w1 [.one .slice, .one (.int .i64)] fun (r20_0p : Option Addr) (r20_0l : Nat) (r20_0c : Nat) (r20_1 : Int) (w2 : World) =>
  withJ (fun (x29 : Bool) (w3 : World) =>
  condB x29 (
  J true w3) (
  (500 : Int) ≠ 0 ∧
  ∃ I_7 : Option Addr → Nat → Nat → Option Addr → Nat → Nat → Int → World → Nat → Prop, (∃ m : Nat, I_7 none 0 0 none 0 0 (0 : Int) w3 m) ∧ ∀ (l7p : Option Addr) (l7l : Nat) (l7c : Nat) (r8p : Option Addr) (r8l : Nat) (r8c : Nat) (x34 : Int) (w4 : World) (m : Nat), I_7 l7p l7l l7c r8p r8l r8c x34 w4 m → (
  condB (decide (x34 < (w64 (Int.tmod (IntKind.u64.wrap n1) (500 : Int))))) (
  callJ Try.prog fn_label_Between #[.slice up0p up0l up0c, .slice l7p l7l l7c, .slice none 0 0] w4 [.one .slice, .one (.int .i64)] fun (r40_0p : Option Addr) (r40_0l : Nat) (r40_0c : Nat) (r40_1 : Int) (w5 : World) =>
  callJ Try.prog fn_label_Between #[.slice up0p up0l up0c, .slice none 0 0, .slice r8p r8l r8c] w5 [.one .slice, .one (.int .i64)] fun (r46_0p : Option Addr) (r46_0l : Nat) (r46_0c : Nat) (r46_1 : Int) (w6 : World) =>
  withJ (fun (x92 : Bool) (w7 : World) =>
  condB x92 (
  J false w7) (
  callJ Try.prog fn_label_Bytes #[.slice r40_0p r40_0l r40_0c] w7 [.one .slice, .one (.int .i64)] fun (r95_0p : Option Addr) (r95_0l : Nat) (r95_0c : Nat) (r95_1 : Int) (w8 : World) =>
  condB (decide (((r95_0l : Nat) : Int) > (w64 (((r20_0l : Nat) : Int) + (4 : Int))))) (
  J false w8) (
  ∃ m' : Nat, m' < m ∧ I_7 r40_0p r40_0l r40_0c r46_0p r46_0l r46_0c (w64 (x34 + (1 : Int))) w8 m'))) fun J_92 =>
  condB (r40_1 != (0 : Int)) (
  J_92 true w6) (
  condB (r46_1 != (0 : Int)) (
  J_92 true w6) (
  condB (((r40_0l : Nat) : Int) != (w64 (((up0l : Nat) : Int) + (1 : Int)))) (
  J_92 true w6) (
  idxA r40_0p r40_0l ((up0l : Nat) : Int) fun a67 =>
  ldI .i64 w6 ((a67.add (((up0l : Nat) : Int).toNat * 1))) fun x68 =>
  condB (x68 != (w64 ((1 : Int) + (w64 ((2 : Int) * x34))))) (
  J_92 true w6) (
  condB (((r46_0l : Nat) : Int) != (w64 (((up0l : Nat) : Int) + (1 : Int)))) (
  J_92 true w6) (
  idxA r46_0p r46_0l ((up0l : Nat) : Int) fun a86 =>
  ldI .i64 w6 ((a86.add (((up0l : Nat) : Int).toNat * 1))) fun x87 =>
  J_92 (x87 != (w64 ((1 : Int) - (w64 ((2 : Int) * x34))))) w6)))))) (
  J true w4)))) fun J_29 =>
  condB (r20_1 != (0 : Int)) (
  J_29 true w2) (
  J_29 (decide (((r20_0l : Nat) : Int) > (116 : Int))) w2))
def ann_law12_LabelRows : Ann := .s (.o) (.s (.s (.o) (.c (.s (.o) (.o)) (.o))) (.s (.o) (.s (.j [(29, .bool)] (.o) (.c (.s (.o) (.o)) (.o))) (.s (.o) (.s (.s (.o) (.b (.l [(7, .slice), (8, .slice), (34, .int .i64)] (.s (.o) (.s (.c (.o) (.o)) (.s (.b (.s (.o) (.s (.o) (.s (.o) (.s (.j [(92, .bool)] (.o) (.c (.s (.o) (.o)) (.o))) (.s (.o) (.s (.s (.o) (.c (.s (.o) (.o)) (.o))) (.o)))))))) (.o))))))) (.s (.o) (.o)))))))
theorem eq_law12_LabelRows (up0p : Option Addr) (up0l : Nat) (up0c : Nat) (n1 : Int) (w : World) (J : Bool → World → Prop) : vcFun Try.prog Try.f7 ann_law12_LabelRows [.one .bool] [.slice up0p up0l up0c, .int .i64 n1] w J = VC_law12_LabelRows up0p up0l up0c n1 w J := by kernel_rfl
theorem c_law12_LabelRows {up0p : Option Addr} {up0l : Nat} {up0c : Nat} {n1 : Int} {w : World} {J : Bool → World → Prop} (h : VC_law12_LabelRows up0p up0l up0c n1 w J) : callJ Try.prog fn_law12_LabelRows #[.slice up0p up0l up0c, .int .i64 n1] w [.one .bool] J := vc_calls Try.func7 ann_law12_LabelRows (Eq.mpr (eq_law12_LabelRows up0p up0l up0c n1 w J) h)

/-- lectern/lecternlaw12.LabelOrders -/
def VC_law12_LabelOrders (a0p : Option Addr) (a0l : Nat) (a0c : Nat) (b1p : Option Addr) (b1l : Nat) (b1c : Nat) (c2p : Option Addr) (c2l : Nat) (c2c : Nat) (w : World) (J : Bool → World → Prop) : Prop :=
  callJ Try.prog fn_law12_awake #[] w [.one .bool] fun (r11 : Bool) (w1 : World) =>
  condB (!r11) (
  J false w1) (
  callJ Try.prog fn_label_Bytes #[.slice a0p a0l a0c] w1 [.one .slice, .one (.int .i64)] fun (r15_0p : Option Addr) (r15_0l : Nat) (r15_0c : Nat) (r15_1 : Int) (w2 : World) =>
  callJ Try.prog fn_label_Bytes #[.slice b1p b1l b1c] w2 [.one .slice, .one (.int .i64)] fun (r20_0p : Option Addr) (r20_0l : Nat) (r20_0c : Nat) (r20_1 : Int) (w3 : World) =>
  withJ (fun (x28 : Bool) (w4 : World) =>
  condB x28 (
  J true w4) (
  withJ (fun (x58 : Bool) (w5 : World) =>
  condB x58 (
  J false w5) (
  withJ (fun (x6 : Bool) (w6 : World) =>
  J x6 w6) fun J_6 =>
  callJ Try.prog fn_label_Above #[.slice a0p a0l a0c, .slice b1p b1l b1c] w5 [.one .bool] fun (r61 : Bool) (w7 : World) =>
  condB r61 (
  callJ Try.prog fn_label_Compare #[.slice a0p a0l a0c, .slice c2p c2l c2c] w7 [.one (.int .i64)] fun (r65 : Int) (w8 : World) =>
  condB (decide (r65 < (0 : Int))) (
  callJ Try.prog fn_label_Above #[.slice a0p a0l a0c, .slice c2p c2l c2c] w8 [.one .bool] fun (r71 : Bool) (w9 : World) =>
  condB (!r71) (
  callJ Try.prog fn_label_Compare #[.slice b1p b1l b1c, .slice c2p c2l c2c] w9 [.one (.int .i64)] fun (r77 : Int) (w10 : World) =>
  J_6 (!(decide (r77 ≥ (0 : Int)))) w10) (
  J_6 true w9)) (
  J_6 true w8)) (
  J_6 true w7))) fun J_58 =>
  callJ Try.prog fn_law12_order #[.slice r15_0p r15_0l r15_0c, .slice r20_0p r20_0l r20_0c] w4 [.one (.int .i64)] fun (r31 : Int) (w11 : World) =>
  callJ Try.prog fn_label_Compare #[.slice a0p a0l a0c, .slice b1p b1l b1c] w11 [.one (.int .i64)] fun (r34 : Int) (w12 : World) =>
  condB (r31 != r34) (
  J_58 true w12) (
  callJ Try.prog fn_label_Compare #[.slice a0p a0l a0c, .slice b1p b1l b1c] w12 [.one (.int .i64)] fun (r39 : Int) (w13 : World) =>
  condB (r39 == (0 : Int)) (
  callJ Try.prog fn_ref05_SameInts #[.slice a0p a0l a0c, .slice b1p b1l b1c] w13 [.one .bool] fun (r44 : Bool) (w14 : World) =>
  condB (!r44) (
  J_58 true w14) (
  callJ Try.prog fn_label_Above #[.slice a0p a0l a0c, .slice b1p b1l b1c] w14 [.one .bool] fun (r51 : Bool) (w15 : World) =>
  condB r51 (
  callJ Try.prog fn_label_Compare #[.slice a0p a0l a0c, .slice b1p b1l b1c] w15 [.one (.int .i64)] fun (r55 : Int) (w16 : World) =>
  J_58 (r55 != (-1 : Int)) w16) (
  J_58 false w15))) (
  callJ Try.prog fn_label_Above #[.slice a0p a0l a0c, .slice b1p b1l b1c] w13 [.one .bool] fun (r51_1 : Bool) (w17 : World) =>
  condB r51_1 (
  callJ Try.prog fn_label_Compare #[.slice a0p a0l a0c, .slice b1p b1l b1c] w17 [.one (.int .i64)] fun (r55_1 : Int) (w18 : World) =>
  J_58 (r55_1 != (-1 : Int)) w18) (
  J_58 false w17))))) fun J_28 =>
  condB (r15_1 != (0 : Int)) (
  J_28 true w3) (
  J_28 (r20_1 != (0 : Int)) w3))
def ann_law12_LabelOrders : Ann := .s (.o) (.s (.s (.o) (.c (.s (.o) (.o)) (.o))) (.s (.o) (.s (.o) (.s (.j [(28, .bool)] (.o) (.c (.s (.o) (.o)) (.o))) (.s (.j [(58, .bool)] (.o) (.c (.s (.o) (.o)) (.o))) (.j [(6, .bool)] (.o) (.o)))))))
theorem eq_law12_LabelOrders (a0p : Option Addr) (a0l : Nat) (a0c : Nat) (b1p : Option Addr) (b1l : Nat) (b1c : Nat) (c2p : Option Addr) (c2l : Nat) (c2c : Nat) (w : World) (J : Bool → World → Prop) : vcFun Try.prog Try.f8 ann_law12_LabelOrders [.one .bool] [.slice a0p a0l a0c, .slice b1p b1l b1c, .slice c2p c2l c2c] w J = VC_law12_LabelOrders a0p a0l a0c b1p b1l b1c c2p c2l c2c w J := by kernel_rfl
theorem c_law12_LabelOrders {a0p : Option Addr} {a0l : Nat} {a0c : Nat} {b1p : Option Addr} {b1l : Nat} {b1c : Nat} {c2p : Option Addr} {c2l : Nat} {c2c : Nat} {w : World} {J : Bool → World → Prop} (h : VC_law12_LabelOrders a0p a0l a0c b1p b1l b1c c2p c2l c2c w J) : callJ Try.prog fn_law12_LabelOrders #[.slice a0p a0l a0c, .slice b1p b1l b1c, .slice c2p c2l c2c] w [.one .bool] J := vc_calls Try.func8 ann_law12_LabelOrders (Eq.mpr (eq_law12_LabelOrders a0p a0l a0c b1p b1l b1c c2p c2l c2c w J) h)

/-- lectern/lecternlaw12.LabelStands -/
def VC_law12_LabelStands (a0p : Option Addr) (a0l : Nat) (a0c : Nat) (b1p : Option Addr) (b1l : Nat) (b1c : Nat) (w : World) (J : Bool → World → Prop) : Prop :=
  callJ Try.prog fn_law12_awake #[] w [.one .bool] fun (r8 : Bool) (w1 : World) =>
  condB (!r8) (
  J false w1) (
  newB w1 (.cells ⟨[]⟩ T_int) fun b10 w2 =>
  appJ Try.prog T_sl_int T_sl_int (.slice (some ⟨b10, 0, none⟩) 0 0) (.slice a0p a0l a0c) w2 fun q12p q12l q12c w3 =>
  callJ Try.prog fn_label_Up #[.slice a0p a0l a0c] w3 [.one .slice] fun (r14p : Option Addr) (r14l : Nat) (r14c : Nat) (w4 : World) =>
  withJ (fun (x44 : Bool) (w5 : World) =>
  condB x44 (
  J false w5) (
  newB w5 (.cells ⟨[.int .i64 (9 : Int), .int .i64 (9 : Int)]⟩ T_int) fun b46 w6 =>
  appJ Try.prog T_sl_int T_sl_int (.slice r14p r14l r14c) (.slice (some ⟨b46, 0, none⟩) 2 2) w6 fun q47p q47l q47c w7 =>
  ∃ I_50 : Int → World → Nat → Prop, (∃ m : Nat, I_50 (0 : Int) w7 m) ∧ ∀ (x50 : Int) (w8 : World) (m : Nat), I_50 x50 w8 m → (
  condB (decide (x50 < ((q47l : Nat) : Int))) (
  idxA q47p q47l x50 fun a55 =>
  stV w8 ((a55.add (x50.toNat * 1))) (.int .i64 (8 : Int)) fun w9 =>
  ∃ m' : Nat, m' < m ∧ I_50 (w64 (x50 + (1 : Int))) w9 m') (
  callJ Try.prog fn_ref05_SameInts #[.slice a0p a0l a0c, .slice q12p q12l q12c] w8 [.one .bool] fun (r59 : Bool) (w10 : World) =>
  J r59 w10)))) fun J_44 =>
  callJ Try.prog fn_label_Compare #[.slice a0p a0l a0c, .slice b1p b1l b1c] w4 [.one (.int .i64)] fun (r17 : Int) (w11 : World) =>
  callJ Try.prog fn_ref12_Compare #[.slice a0p a0l a0c, .slice b1p b1l b1c] w11 [.one (.int .i64)] fun (r20 : Int) (w12 : World) =>
  condB (r17 != r20) (
  J_44 true w12) (
  callJ Try.prog fn_label_Level #[.slice a0p a0l a0c] w12 [.one (.int .i64)] fun (r24 : Int) (w13 : World) =>
  callJ Try.prog fn_ref12_Level #[.slice a0p a0l a0c] w13 [.one (.int .i64)] fun (r26 : Int) (w14 : World) =>
  condB (r24 != r26) (
  J_44 true w14) (
  callJ Try.prog fn_ref12_Up #[.slice a0p a0l a0c] w14 [.one .slice] fun (r32p : Option Addr) (r32l : Nat) (r32c : Nat) (w15 : World) =>
  callJ Try.prog fn_ref05_SameInts #[.slice r14p r14l r14c, .slice r32p r32l r32c] w15 [.one .bool] fun (r33 : Bool) (w16 : World) =>
  condB (!r33) (
  J_44 true w16) (
  callJ Try.prog fn_label_Above #[.slice a0p a0l a0c, .slice b1p b1l b1c] w16 [.one .bool] fun (r39 : Bool) (w17 : World) =>
  callJ Try.prog fn_ref12_Above #[.slice a0p a0l a0c, .slice b1p b1l b1c] w17 [.one .bool] fun (r42 : Bool) (w18 : World) =>
  J_44 (!(r39 == r42)) w18))))
def ann_law12_LabelStands : Ann := .s (.o) (.s (.s (.o) (.c (.s (.o) (.o)) (.o))) (.s (.o) (.s (.o) (.s (.j [(44, .bool)] (.o) (.c (.s (.o) (.o)) (.o))) (.s (.o) (.s (.s (.o) (.b (.l [(50, .int .i64)] (.s (.o) (.s (.c (.o) (.o)) (.s (.b (.s (.o) (.o))) (.o))))))) (.s (.o) (.o))))))))
theorem eq_law12_LabelStands (a0p : Option Addr) (a0l : Nat) (a0c : Nat) (b1p : Option Addr) (b1l : Nat) (b1c : Nat) (w : World) (J : Bool → World → Prop) : vcFun Try.prog Try.f9 ann_law12_LabelStands [.one .bool] [.slice a0p a0l a0c, .slice b1p b1l b1c] w J = VC_law12_LabelStands a0p a0l a0c b1p b1l b1c w J := by kernel_rfl
theorem c_law12_LabelStands {a0p : Option Addr} {a0l : Nat} {a0c : Nat} {b1p : Option Addr} {b1l : Nat} {b1c : Nat} {w : World} {J : Bool → World → Prop} (h : VC_law12_LabelStands a0p a0l a0c b1p b1l b1c w J) : callJ Try.prog fn_law12_LabelStands #[.slice a0p a0l a0c, .slice b1p b1l b1c] w [.one .bool] J := vc_calls Try.func9 ann_law12_LabelStands (Eq.mpr (eq_law12_LabelStands a0p a0l a0c b1p b1l b1c w J) h)

/-- lectern/lecternlaw12.LabelAmid -/
def VC_law12_LabelAmid (up0p : Option Addr) (up0l : Nat) (up0c : Nat) (l1p : Option Addr) (l1l : Nat) (l1c : Nat) (r2p : Option Addr) (r2l : Nat) (r2c : Nat) (w : World) (J : Bool → World → Prop) : Prop :=
  callJ Try.prog fn_law12_awake #[] w [.one .bool] fun (r9 : Bool) (w1 : World) =>
  condB (!r9) (
  J false w1) (
  callJ Try.prog fn_label_Between #[.slice up0p up0l up0c, .slice l1p l1l l1c, .slice r2p r2l r2c] w1 [.one .slice, .one (.int .i64)] fun (r15_0p : Option Addr) (r15_0l : Nat) (r15_0c : Nat) (r15_1 : Int) (w2 : World) =>
  condB (r15_1 != (0 : Int)) (
  withJ (fun (x6 : Bool) (w3 : World) =>
  J x6 w3) fun J_6 =>
  condB (((r15_0l : Nat) : Int) == (0 : Int)) (
  condB (r15_1 == (1 : Int)) (
  J_6 true w2) (
  J_6 (r15_1 == (5 : Int)) w2)) (
  J_6 false w2)) (
  withJ (fun (x54 : Bool) (w4 : World) =>
  condB x54 (
  J false w4) (
  withJ (fun (x6_1 : Bool) (w5 : World) =>
  J x6_1 w5) fun J_6_1 =>
  condB (((l1l : Nat) : Int) == (0 : Int)) (
  condB (((r2l : Nat) : Int) == (0 : Int)) (
  J_6_1 true w4) (
  callJ Try.prog fn_label_Compare #[.slice r15_0p r15_0l r15_0c, .slice r2p r2l r2c] w4 [.one (.int .i64)] fun (r71 : Int) (w6 : World) =>
  J_6_1 (decide (r71 < (0 : Int))) w6)) (
  callJ Try.prog fn_label_Compare #[.slice l1p l1l l1c, .slice r15_0p r15_0l r15_0c] w4 [.one (.int .i64)] fun (r61 : Int) (w7 : World) =>
  condB (decide (r61 < (0 : Int))) (
  condB (((r2l : Nat) : Int) == (0 : Int)) (
  J_6_1 true w7) (
  callJ Try.prog fn_label_Compare #[.slice r15_0p r15_0l r15_0c, .slice r2p r2l r2c] w7 [.one (.int .i64)] fun (r71_1 : Int) (w8 : World) =>
  J_6_1 (decide (r71_1 < (0 : Int))) w8)) (
  J_6_1 false w7)))) fun J_54 =>
  callJ Try.prog fn_label_Up #[.slice r15_0p r15_0l r15_0c] w2 [.one .slice] fun (r32p : Option Addr) (r32l : Nat) (r32c : Nat) (w9 : World) =>
  callJ Try.prog fn_ref05_SameInts #[.slice r32p r32l r32c, .slice up0p up0l up0c] w9 [.one .bool] fun (r34 : Bool) (w10 : World) =>
  condB (!r34) (
  J_54 true w10) (
  callJ Try.prog fn_label_Level #[.slice r15_0p r15_0l r15_0c] w10 [.one (.int .i64)] fun (r38 : Int) (w11 : World) =>
  callJ Try.prog fn_label_Level #[.slice up0p up0l up0c] w11 [.one (.int .i64)] fun (r40 : Int) (w12 : World) =>
  condB (r38 != (w64 (r40 + (1 : Int)))) (
  J_54 true w12) (
  callJ Try.prog fn_label_Check #[.slice r15_0p r15_0l r15_0c] w12 [.one (.int .i64)] fun (r46 : Int) (w13 : World) =>
  condB (r46 != (0 : Int)) (
  J_54 true w13) (
  callJ Try.prog fn_label_Above #[.slice up0p up0l up0c, .slice r15_0p r15_0l r15_0c] w13 [.one .bool] fun (r52 : Bool) (w14 : World) =>
  J_54 (!r52) w14)))))
def ann_law12_LabelAmid : Ann := .s (.o) (.s (.s (.o) (.c (.s (.o) (.o)) (.o))) (.s (.o) (.s (.s (.o) (.c (.j [(6, .bool)] (.o) (.o)) (.o))) (.s (.j [(54, .bool)] (.o) (.c (.s (.o) (.o)) (.o))) (.j [(6, .bool)] (.o) (.o))))))
theorem eq_law12_LabelAmid (up0p : Option Addr) (up0l : Nat) (up0c : Nat) (l1p : Option Addr) (l1l : Nat) (l1c : Nat) (r2p : Option Addr) (r2l : Nat) (r2c : Nat) (w : World) (J : Bool → World → Prop) : vcFun Try.prog Try.f10 ann_law12_LabelAmid [.one .bool] [.slice up0p up0l up0c, .slice l1p l1l l1c, .slice r2p r2l r2c] w J = VC_law12_LabelAmid up0p up0l up0c l1p l1l l1c r2p r2l r2c w J := by kernel_rfl
theorem c_law12_LabelAmid {up0p : Option Addr} {up0l : Nat} {up0c : Nat} {l1p : Option Addr} {l1l : Nat} {l1c : Nat} {r2p : Option Addr} {r2l : Nat} {r2c : Nat} {w : World} {J : Bool → World → Prop} (h : VC_law12_LabelAmid up0p up0l up0c l1p l1l l1c r2p r2l r2c w J) : callJ Try.prog fn_law12_LabelAmid #[.slice up0p up0l up0c, .slice l1p l1l l1c, .slice r2p r2l r2c] w [.one .bool] J := vc_calls Try.func10 ann_law12_LabelAmid (Eq.mpr (eq_law12_LabelAmid up0p up0l up0c l1p l1l l1c r2p r2l r2c w J) h)

end Go.Proofs.Ytjjmnfpdkgnmoaa
