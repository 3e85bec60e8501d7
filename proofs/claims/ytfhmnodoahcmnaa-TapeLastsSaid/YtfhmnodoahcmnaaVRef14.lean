/- What the conditions of these functions are, reckoned by the reading; printed by program. -/
import Derived.Test.YtfhmnodoahcmnaaNm
import Derived.KernelRfl
set_option maxRecDepth 100000
set_option linter.unusedVariables false
namespace Go.Proofs.Ytfhmnodoahcmnaa
open Go Go.Vc

/-- lectern/lecternref14.Sum -/
def VC_ref14_Sum (p0p : Option Addr) (p0l : Nat) (p0c : Nat) (w : World) (J : Int → World → Prop) : Prop :=
  ∃ I_3 : Int → Int → World → Nat → Prop, (∃ m : Nat, I_3 (4294967295 : Int) (0 : Int) w m) ∧ ∀ (c3 : Int) (x9 : Int) (w1 : World) (m : Nat), I_3 c3 x9 w1 m → (
  condB (decide (x9 < ((p0l : Nat) : Int))) (
  idxA p0p p0l x9 fun a11 =>
  ldI .u8 w1 ((a11.add (x9.toNat * 1))) fun x12 =>
  ∃ I_3_1 : Int → Int → World → Nat → Prop, (∃ m : Nat, I_3_1 (bXor .u32 c3 (IntKind.u32.wrap x12)) (0 : Int) w1 m) ∧ ∀ (c3_1 : Int) (i6 : Int) (w2 : World) (m_1 : Nat), I_3_1 c3_1 i6 w2 m_1 → (
  condB (decide (i6 < (8 : Int))) (
  withJ (fun (c3_2 : Int) (w3 : World) =>
  ∃ m' : Nat, m' < m_1 ∧ I_3_1 c3_2 (w64 (i6 + (1 : Int))) w3 m') fun J_3 =>
  (2 : Int) ≠ 0 ∧
  condB ((Int.tmod c3_1 (2 : Int)) == (1 : Int)) (
  (2 : Int) ≠ 0 ∧
  J_3 (bXor .u32 (IntKind.u32.wrap (Int.tdiv c3_1 (2 : Int))) (3988292384 : Int)) w2) (
  (2 : Int) ≠ 0 ∧
  J_3 (IntKind.u32.wrap (Int.tdiv c3_1 (2 : Int))) w2)) (
  ∃ m' : Nat, m' < m ∧ I_3 c3_1 (w64 (x9 + (1 : Int))) w2 m'))) (
  J (IntKind.u32.wrap ((4294967295 : Int) - c3)) w1))
def ann_ref14_Sum : Ann := .s (.o) (.s (.o) (.s (.s (.o) (.b (.l [(3, .int .u32), (9, .int .i64)] (.s (.o) (.s (.c (.o) (.o)) (.s (.b (.s (.o) (.s (.o) (.s (.o) (.b (.l [(3, .int .u32), (6, .int .i64)] (.s (.s (.o) (.c (.o) (.o))) (.j [(3, .int .u32)] (.b (.s (.o) (.c (.o) (.o)))) (.o))))))))) (.o))))))) (.s (.o) (.o))))
theorem eq_ref14_Sum (p0p : Option Addr) (p0l : Nat) (p0c : Nat) (w : World) (J : Int → World → Prop) : vcFun Try.prog Try.f33 ann_ref14_Sum [.one (.int .u32)] [.slice p0p p0l p0c] w J = VC_ref14_Sum p0p p0l p0c w J := by kernel_rfl
theorem c_ref14_Sum {p0p : Option Addr} {p0l : Nat} {p0c : Nat} {w : World} {J : Int → World → Prop} (h : VC_ref14_Sum p0p p0l p0c w J) : callJ Try.prog fn_ref14_Sum #[.slice p0p p0l p0c] w [.one (.int .u32)] J := vc_calls Try.func33 ann_ref14_Sum (Eq.mpr (eq_ref14_Sum p0p p0l p0c w J) h)

/-- lectern/lecternref14.Number -/
def VC_ref14_Number (n0 : Int) (wide1 : Int) (w : World) (J : Option Addr → Nat → Nat → World → Prop) : Prop :=
  mkS w T_uint8 (zeroC Try.prog T_uint8) 1 1 wide1 wide1 fun b8 w1 =>
  ∃ I_0 : Int → Int → World → Nat → Prop, (∃ m : Nat, I_0 n0 (w64 (wide1 - (1 : Int))) w1 m) ∧ ∀ (n0 : Int) (i6 : Int) (w2 : World) (m : Nat), I_0 n0 i6 w2 m → (
  condB (decide (i6 ≥ (0 : Int))) (
  (256 : Int) ≠ 0 ∧
  idxA (some ⟨b8, 0, none⟩) (wide1.toNat) i6 fun a20 =>
  stV w2 ((a20.add (i6.toNat * 1))) (.int .u8 (IntKind.u8.wrap (Int.tmod n0 (256 : Int)))) fun w3 =>
  (256 : Int) ≠ 0 ∧
  ∃ m' : Nat, m' < m ∧ I_0 (IntKind.u64.wrap (Int.tdiv n0 (256 : Int))) (w64 (i6 - (1 : Int))) w3 m') (
  J (some ⟨b8, 0, none⟩) (wide1.toNat) (wide1.toNat) w2))
def ann_ref14_Number : Ann := .s (.o) (.s (.o) (.s (.s (.o) (.b (.l [(0, .int .u64), (6, .int .i64)] (.s (.s (.o) (.c (.o) (.o))) (.s (.b (.s (.o) (.o))) (.o)))))) (.s (.o) (.o))))
theorem eq_ref14_Number (n0 : Int) (wide1 : Int) (w : World) (J : Option Addr → Nat → Nat → World → Prop) : vcFun Try.prog Try.f63 ann_ref14_Number [.one .slice] [.int .u64 n0, .int .i64 wide1] w J = VC_ref14_Number n0 wide1 w J := by kernel_rfl
theorem c_ref14_Number {n0 : Int} {wide1 : Int} {w : World} {J : Option Addr → Nat → Nat → World → Prop} (h : VC_ref14_Number n0 wide1 w J) : callJ Try.prog fn_ref14_Number #[.int .u64 n0, .int .i64 wide1] w [.one .slice] J := vc_calls Try.func63 ann_ref14_Number (Eq.mpr (eq_ref14_Number n0 wide1 w J) h)

/-- lectern/lecternref14.Value -/
def VC_ref14_Value (b0p : Option Addr) (b0l : Nat) (b0c : Nat) (w : World) (J : Int → World → Prop) : Prop :=
  ∃ I_3 : Int → Int → World → Nat → Prop, (∃ m : Nat, I_3 (0 : Int) (0 : Int) w m) ∧ ∀ (n3 : Int) (x8 : Int) (w1 : World) (m : Nat), I_3 n3 x8 w1 m → (
  condB (decide (x8 < ((b0l : Nat) : Int))) (
  idxA b0p b0l x8 fun a10 =>
  ldI .u8 w1 ((a10.add (x8.toNat * 1))) fun x11 =>
  ∃ m' : Nat, m' < m ∧ I_3 (w64 ((w64 ((256 : Int) * n3)) + (w64 x11))) (w64 (x8 + (1 : Int))) w1 m') (
  J n3 w1))
def ann_ref14_Value : Ann := .s (.o) (.s (.o) (.s (.s (.o) (.b (.l [(3, .int .i64), (8, .int .i64)] (.s (.o) (.s (.c (.o) (.o)) (.s (.b (.s (.o) (.o))) (.o))))))) (.s (.o) (.o))))
theorem eq_ref14_Value (b0p : Option Addr) (b0l : Nat) (b0c : Nat) (w : World) (J : Int → World → Prop) : vcFun Try.prog Try.f44 ann_ref14_Value [.one (.int .i64)] [.slice b0p b0l b0c] w J = VC_ref14_Value b0p b0l b0c w J := by kernel_rfl
theorem c_ref14_Value {b0p : Option Addr} {b0l : Nat} {b0c : Nat} {w : World} {J : Int → World → Prop} (h : VC_ref14_Value b0p b0l b0c w J) : callJ Try.prog fn_ref14_Value #[.slice b0p b0l b0c] w [.one (.int .i64)] J := vc_calls Try.func44 ann_ref14_Value (Eq.mpr (eq_ref14_Value b0p b0l b0c w J) h)

/-- lectern/lecternref14.Fill -/
def VC_ref14_Fill (b0p : Option Addr) (b0l : Nat) (b0c : Nat) (wide1 : Int) (w : World) (J : Option Addr → Nat → Nat → World → Prop) : Prop :=
  mkS w T_uint8 (zeroC Try.prog T_uint8) 1 1 wide1 wide1 fun b8 w1 =>
  ∃ I_11 : Int → World → Nat → Prop, (∃ m : Nat, I_11 (0 : Int) w1 m) ∧ ∀ (x11 : Int) (w2 : World) (m : Nat), I_11 x11 w2 m → (
  condB (decide (x11 < ((b0l : Nat) : Int))) (
  idxA b0p b0l x11 fun a18 =>
  ldI .u8 w2 ((a18.add (x11.toNat * 1))) fun x19 =>
  idxA (some ⟨b8, 0, none⟩) (wide1.toNat) x11 fun a20 =>
  stV w2 ((a20.add (x11.toNat * 1))) (.int .u8 x19) fun w3 =>
  ∃ m' : Nat, m' < m ∧ I_11 (w64 (x11 + (1 : Int))) w3 m') (
  J (some ⟨b8, 0, none⟩) (wide1.toNat) (wide1.toNat) w2))
def ann_ref14_Fill : Ann := .s (.o) (.s (.o) (.s (.s (.o) (.b (.l [(11, .int .i64)] (.s (.o) (.s (.c (.o) (.o)) (.s (.b (.s (.o) (.o))) (.o))))))) (.s (.o) (.o))))
theorem eq_ref14_Fill (b0p : Option Addr) (b0l : Nat) (b0c : Nat) (wide1 : Int) (w : World) (J : Option Addr → Nat → Nat → World → Prop) : vcFun Try.prog Try.f62 ann_ref14_Fill [.one .slice] [.slice b0p b0l b0c, .int .i64 wide1] w J = VC_ref14_Fill b0p b0l b0c wide1 w J := by kernel_rfl
theorem c_ref14_Fill {b0p : Option Addr} {b0l : Nat} {b0c : Nat} {wide1 : Int} {w : World} {J : Option Addr → Nat → Nat → World → Prop} (h : VC_ref14_Fill b0p b0l b0c wide1 w J) : callJ Try.prog fn_ref14_Fill #[.slice b0p b0l b0c, .int .i64 wide1] w [.one .slice] J := vc_calls Try.func62 ann_ref14_Fill (Eq.mpr (eq_ref14_Fill b0p b0l b0c wide1 w J) h)

/-- lectern/lecternref14.Sectors -/
def VC_ref14_Sectors (n0 : Int) (w : World) (J : Int → World → Prop) : Prop :=
  ∃ I_3 : Int → World → Nat → Prop, (∃ m : Nat, I_3 (1 : Int) w m) ∧ ∀ (k3 : Int) (w1 : World) (m : Nat), I_3 k3 w1 m → (
  condB (decide ((w64 ((48 : Int) * k3)) < n0)) (
  ∃ m' : Nat, m' < m ∧ I_3 (w64 (k3 + (1 : Int))) w1 m') (
  J k3 w1))
def ann_ref14_Sectors : Ann := .s (.o) (.s (.o) (.s (.b (.l [(3, .int .i64)] (.s (.s (.o) (.c (.o) (.o))) (.b (.o))))) (.s (.o) (.o))))
theorem eq_ref14_Sectors (n0 : Int) (w : World) (J : Int → World → Prop) : vcFun Try.prog Try.f46 ann_ref14_Sectors [.one (.int .i64)] [.int .i64 n0] w J = VC_ref14_Sectors n0 w J := by kernel_rfl
theorem c_ref14_Sectors {n0 : Int} {w : World} {J : Int → World → Prop} (h : VC_ref14_Sectors n0 w J) : callJ Try.prog fn_ref14_Sectors #[.int .i64 n0] w [.one (.int .i64)] J := vc_calls Try.func46 ann_ref14_Sectors (Eq.mpr (eq_ref14_Sectors n0 w J) h)

/-- lectern/lecternref14.Group -/
def VC_ref14_Group (gen0 : Int) (place1 : Int) (group2 : Int) (p3p : Option Addr) (p3l : Nat) (p3c : Nat) (w : World) (J : Option Addr → Nat → Nat → World → Prop) : Prop :=
  newB w (.cells ⟨[]⟩ T_sl_uint8) fun b14 w1 =>
  callJ Try.prog fn_ref14_Sectors #[.int .i64 ((p3l : Nat) : Int)] w1 [.one (.int .i64)] fun (r17 : Int) (w2 : World) =>
  ∃ I_9 : Option Addr → Nat → Nat → Int → World → Nat → Prop, (∃ m : Nat, I_9 (some ⟨b14, 0, none⟩) 0 0 (0 : Int) w2 m) ∧ ∀ (out9p : Option Addr) (out9l : Nat) (out9c : Nat) (i11 : Int) (w3 : World) (m : Nat), I_9 out9p out9l out9c i11 w3 m → (
  condB (decide (i11 < r17)) (
  slS p3p p3l p3c 1 (some (w64 ((48 : Int) * i11))) (some (if (w64 ((w64 ((48 : Int) * i11)) + (48 : Int))) < ((p3l : Nat) : Int) then (w64 ((w64 ((48 : Int) * i11)) + (48 : Int))) else ((p3l : Nat) : Int))) none fun q32p q32l q32c =>
  callJ Try.prog fn_ref14_Number #[.int .u64 (IntKind.u64.wrap gen0), .int .i64 (4 : Int)] w3 [.one .slice] fun (r35p : Option Addr) (r35l : Nat) (r35c : Nat) (w4 : World) =>
  callJ Try.prog fn_ref14_Number #[.int .u64 (IntKind.u64.wrap (w64 (place1 + i11))), .int .i64 (2 : Int)] w4 [.one .slice] fun (r41p : Option Addr) (r41l : Nat) (r41c : Nat) (w5 : World) =>
  appJ Try.prog T_sl_uint8 T_sl_uint8 (.slice r35p r35l r35c) (.slice r41p r41l r41c) w5 fun q42p q42l q42c w6 =>
  callJ Try.prog fn_ref14_Number #[.int .u64 (IntKind.u64.wrap group2), .int .i64 (2 : Int)] w6 [.one .slice] fun (r46p : Option Addr) (r46l : Nat) (r46c : Nat) (w7 : World) =>
  appJ Try.prog T_sl_uint8 T_sl_uint8 (.slice q42p q42l q42c) (.slice r46p r46l r46c) w7 fun q47p q47l q47c w8 =>
  callJ Try.prog fn_ref14_Number #[.int .u64 (IntKind.u64.wrap (w64 ((w64 (r17 - (1 : Int))) - i11))), .int .i64 (2 : Int)] w8 [.one .slice] fun (r54p : Option Addr) (r54l : Nat) (r54c : Nat) (w9 : World) =>
  appJ Try.prog T_sl_uint8 T_sl_uint8 (.slice q47p q47l q47c) (.slice r54p r54l r54c) w9 fun q55p q55l q55c w10 =>
  callJ Try.prog fn_ref14_Number #[.int .u64 (IntKind.u64.wrap ((q32l : Nat) : Int)), .int .i64 (2 : Int)] w10 [.one .slice] fun (r60p : Option Addr) (r60l : Nat) (r60c : Nat) (w11 : World) =>
  appJ Try.prog T_sl_uint8 T_sl_uint8 (.slice q55p q55l q55c) (.slice r60p r60l r60c) w11 fun q61p q61l q61c w12 =>
  callJ Try.prog fn_ref14_Fill #[.slice q32p q32l q32c, .int .i64 (48 : Int)] w12 [.one .slice] fun (r64p : Option Addr) (r64l : Nat) (r64c : Nat) (w13 : World) =>
  appJ Try.prog T_sl_uint8 T_sl_uint8 (.slice q61p q61l q61c) (.slice r64p r64l r64c) w13 fun q65p q65l q65c w14 =>
  callJ Try.prog fn_ref14_Sum #[.slice q65p q65l q65c] w14 [.one (.int .u32)] fun (r68 : Int) (w15 : World) =>
  callJ Try.prog fn_ref14_Number #[.int .u64 (IntKind.u64.wrap r68), .int .i64 (4 : Int)] w15 [.one .slice] fun (r70p : Option Addr) (r70l : Nat) (r70c : Nat) (w16 : World) =>
  appJ Try.prog T_sl_uint8 T_sl_uint8 (.slice r70p r70l r70c) (.slice q65p q65l q65c) w16 fun q72p q72l q72c w17 =>
  newB w17 (.cells ⟨[.slice q72p q72l q72c]⟩ T_sl_uint8) fun b73 w18 =>
  appJ Try.prog T_sl_sl_uint8 T_sl_sl_uint8 (.slice out9p out9l out9c) (.slice (some ⟨b73, 0, none⟩) 1 1) w18 fun q74p q74l q74c w19 =>
  ∃ m' : Nat, m' < m ∧ I_9 q74p q74l q74c (w64 (i11 + (1 : Int))) w19 m') (
  J out9p out9l out9c w3))
def ann_ref14_Group : Ann := .s (.o) (.s (.o) (.s (.o) (.s (.s (.o) (.b (.l [(9, .slice), (11, .int .i64)] (.s (.s (.o) (.c (.o) (.o))) (.s (.b (.s (.o) (.s (.o) (.s (.o) (.s (.o) (.s (.o) (.s (.o) (.s (.o) (.o))))))))) (.o)))))) (.s (.o) (.o)))))
theorem eq_ref14_Group (gen0 : Int) (place1 : Int) (group2 : Int) (p3p : Option Addr) (p3l : Nat) (p3c : Nat) (w : World) (J : Option Addr → Nat → Nat → World → Prop) : vcFun Try.prog Try.f47 ann_ref14_Group [.one .slice] [.int .i64 gen0, .int .i64 place1, .int .i64 group2, .slice p3p p3l p3c] w J = VC_ref14_Group gen0 place1 group2 p3p p3l p3c w J := by kernel_rfl
theorem c_ref14_Group {gen0 : Int} {place1 : Int} {group2 : Int} {p3p : Option Addr} {p3l : Nat} {p3c : Nat} {w : World} {J : Option Addr → Nat → Nat → World → Prop} (h : VC_ref14_Group gen0 place1 group2 p3p p3l p3c w J) : callJ Try.prog fn_ref14_Group #[.int .i64 gen0, .int .i64 place1, .int .i64 group2, .slice p3p p3l p3c] w [.one .slice] J := vc_calls Try.func47 ann_ref14_Group (Eq.mpr (eq_ref14_Group gen0 place1 group2 p3p p3l p3c w J) h)

/-- lectern/lecternref14.Groups -/
def VC_ref14_Groups (s0p : Option Addr) (s0l : Nat) (s0c : Nat) (gen1 : Int) (w : World) (J : Option Addr → Nat → Nat → Int → World → Prop) : Prop :=
  newB w (.cells ⟨[]⟩ T_sl_uint8) fun b14 w1 =>
  withJ (fun (out6p : Option Addr) (out6l : Nat) (out6c : Nat) (place7 : Int) (w2 : World) =>
  J out6p out6l out6c place7 w2) fun J_6 =>
  ∃ I_6 : Option Addr → Nat → Nat → Int → World → Nat → Prop, (∃ m : Nat, I_6 (some ⟨b14, 0, none⟩) 0 0 (0 : Int) w1 m) ∧ ∀ (out6_1p : Option Addr) (out6_1l : Nat) (out6_1c : Nat) (place7_1 : Int) (w3 : World) (m : Nat), I_6 out6_1p out6_1l out6_1c place7_1 w3 m → (
  condB (decide (place7_1 < ((s0l : Nat) : Int))) (
  idxA s0p s0l place7_1 fun a21 =>
  ldS w3 ((a21.add (place7_1.toNat * 1))) fun x22p x22l x22c =>
  slS x22p x22l x22c 1 (some (12 : Int)) (some (14 : Int)) none fun q23p q23l q23c =>
  callJ Try.prog fn_ref14_Value #[.slice q23p q23l q23c] w3 [.one (.int .i64)] fun (r24 : Int) (w4 : World) =>
  withJ (fun (x43 : Bool) (w5 : World) =>
  condB x43 (
  J_6 out6_1p out6_1l out6_1c place7_1 w5) (
  newB w5 (.cells ⟨[]⟩ T_uint8) fun b44 w6 =>
  ∃ I_9 : Option Addr → Nat → Nat → Int → World → Nat → Prop, (∃ m : Nat, I_9 (some ⟨b44, 0, none⟩) 0 0 (0 : Int) w6 m) ∧ ∀ (p9p : Option Addr) (p9l : Nat) (p9c : Nat) (i10 : Int) (w7 : World) (m_1 : Nat), I_9 p9p p9l p9c i10 w7 m_1 → (
  condB (decide (i10 < (w64 ((1 : Int) + r24)))) (
  idxA s0p s0l (w64 (place7_1 + i10)) fun a55 =>
  ldS w7.drew ((a55.add ((w64 (place7_1 + i10)).toNat * 1))) fun x56p x56l x56c =>
  idxA s0p s0l (w64 (place7_1 + i10)) fun a61 =>
  ldS w7.drew ((a61.add ((w64 (place7_1 + i10)).toNat * 1))) fun x62p x62l x62c =>
  slS x62p x62l x62c 1 (some (14 : Int)) (some (16 : Int)) none fun q63p q63l q63c =>
  callJ Try.prog fn_ref14_Value #[.slice q63p q63l q63c] w7.drew [.one (.int .i64)] fun (r64 : Int) (w8 : World) =>
  w8.cell? ((a55.add ((w64 (place7_1 + i10)).toNat * 1))) = some (.slice x56p x56l x56c) ∧
  slS x56p x56l x56c 1 (some (16 : Int)) (some (w64 ((16 : Int) + (if r64 < (48 : Int) then r64 else (48 : Int))))) none fun q67p q67l q67c =>
  appJ Try.prog T_sl_uint8 T_sl_uint8 (.slice p9p p9l p9c) (.slice q67p q67l q67c) w8 fun q68p q68l q68c w9 =>
  ∃ m' : Nat, m' < m_1 ∧ I_9 q68p q68l q68c (w64 (i10 + (1 : Int))) w9 m') (
  callJ Try.prog fn_ref14_Sectors #[.int .i64 ((p9l : Nat) : Int)] w7 [.one (.int .i64)] fun (r71 : Int) (w10 : World) =>
  withJ (fun (same11 : Bool) (w11 : World) =>
  condB (!same11) (
  J_6 out6_1p out6_1l out6_1c place7_1 w11) (
  newB w11 (.cells ⟨[.slice p9p p9l p9c]⟩ T_sl_uint8) fun b105 w12 =>
  appJ Try.prog T_sl_sl_uint8 T_sl_sl_uint8 (.slice out6_1p out6_1l out6_1c) (.slice (some ⟨b105, 0, none⟩) 1 1) w12 fun q106p q106l q106c w13 =>
  ∃ m' : Nat, m' < m ∧ I_6 q106p q106l q106c (w64 (place7_1 + (w64 ((1 : Int) + r24)))) w13 m')) fun J_11 =>
  condB (r71 == (w64 ((1 : Int) + r24))) (
  callJ Try.prog fn_ref14_Group #[.int .i64 gen1, .int .i64 place7_1, .int .i64 ((out6_1l : Nat) : Int), .slice p9p p9l p9c] w10 [.one .slice] fun (r80p : Option Addr) (r80l : Nat) (r80c : Nat) (w14 : World) =>
  ∃ I_11 : Bool → Int → World → Nat → Prop, (∃ m : Nat, I_11 (r71 == (w64 ((1 : Int) + r24))) (0 : Int) w14 m) ∧ ∀ (same11_1 : Bool) (x82 : Int) (w15 : World) (m_2 : Nat), I_11 same11_1 x82 w15 m_2 → (
  condB (decide (x82 < ((r80l : Nat) : Int))) (
  withJ (fun (same11_2 : Bool) (w16 : World) =>
  ∃ m' : Nat, m' < m_2 ∧ I_11 same11_2 (w64 (x82 + (1 : Int))) w16 m') fun J_11_1 =>
  idxA r80p r80l x82 fun a85 =>
  ldS w15 ((a85.add (x82.toNat * 1))) fun x86p x86l x86c =>
  condB same11_1 (
  bytesOf w15.drew x86p x86l fun bs90 =>
  idxA s0p s0l (w64 (place7_1 + x82)) fun a95 =>
  ldS w15.drew ((a95.add ((w64 (place7_1 + x82)).toNat * 1))) fun x96p x96l x96c =>
  bytesOf w15.drew x96p x96l fun bs97 =>
  J_11_1 ((⟨bs90.toArray⟩ : ByteArray).toList == (⟨bs97.toArray⟩ : ByteArray).toList) w15.drew) (
  J_11_1 false w15.drew)) (
  J_11 same11_1 w15))) (
  J_11 (r71 == (w64 ((1 : Int) + r24))) w10))))) fun J_43 =>
  condB (decide ((w64 (place7_1 + (w64 ((1 : Int) + r24)))) > ((s0l : Nat) : Int))) (
  J_43 true w4) (
  idxA s0p s0l (w64 ((w64 (place7_1 + (w64 ((1 : Int) + r24)))) - (1 : Int))) fun a38 =>
  ldS w4 ((a38.add ((w64 ((w64 (place7_1 + (w64 ((1 : Int) + r24)))) - (1 : Int))).toNat * 1))) fun x39p x39l x39c =>
  slS x39p x39l x39c 1 (some (14 : Int)) (some (16 : Int)) none fun q40p q40l q40c =>
  callJ Try.prog fn_ref14_Value #[.slice q40p q40l q40c] w4 [.one (.int .i64)] fun (r41 : Int) (w17 : World) =>
  J_43 (decide (r41 > (48 : Int))) w17)) (
  J_6 out6_1p out6_1l out6_1c place7_1 w3))
def ann_ref14_Groups : Ann := .s (.o) (.s (.o) (.s (.o) (.j [(6, .slice), (7, .int .i64)] (.b (.l [(6, .slice), (7, .int .i64)] (.s (.s (.o) (.c (.o) (.o))) (.b (.s (.o) (.s (.j [(43, .bool)] (.o) (.c (.o) (.o))) (.s (.o) (.s (.s (.o) (.b (.l [(9, .slice), (10, .int .i64)] (.s (.s (.o) (.c (.o) (.o))) (.s (.b (.d (.take 0 (.take 1 (.take 2 (.take 3 (.take 4 (.take 5 (.take 6 (.take 7 (.take 8 (.take 9 (.take 10 (.take 11 (.take 12 (.take 13 (.eff 14 (.take 15 (.take 16 (.take 17 (.eff 18 (.take 19 (.done)) (.none))))) (.none)))))))))))))))))) (.o)))))) (.s (.o) (.j [(11, .bool)] (.s (.o) (.c (.s (.o) (.b (.l [(11, .bool), (82, .int .i64)] (.s (.o) (.s (.c (.o) (.o)) (.j [(11, .bool)] (.b (.s (.o) (.d (.take 0 (.take 1 (.take 2 (.take 3 (.take 4 (.take 5 (.take 6 (.take 7 (.take 8 (.take 9 (.take 10 (.take 11 (.take 12 (.take 13 (.done)))))))))))))))))) (.o))))))) (.o))) (.s (.s (.o) (.c (.o) (.o))) (.s (.o) (.o))))))))))))) (.s (.o) (.o)))))
theorem eq_ref14_Groups (s0p : Option Addr) (s0l : Nat) (s0c : Nat) (gen1 : Int) (w : World) (J : Option Addr → Nat → Nat → Int → World → Prop) : vcFun Try.prog Try.f39 ann_ref14_Groups [.one .slice, .one (.int .i64)] [.slice s0p s0l s0c, .int .i64 gen1] w J = VC_ref14_Groups s0p s0l s0c gen1 w J := by kernel_rfl
theorem c_ref14_Groups {s0p : Option Addr} {s0l : Nat} {s0c : Nat} {gen1 : Int} {w : World} {J : Option Addr → Nat → Nat → Int → World → Prop} (h : VC_ref14_Groups s0p s0l s0c gen1 w J) : callJ Try.prog fn_ref14_Groups #[.slice s0p s0l s0c, .int .i64 gen1] w [.one .slice, .one (.int .i64)] J := vc_calls Try.func39 ann_ref14_Groups (Eq.mpr (eq_ref14_Groups s0p s0l s0c gen1 w J) h)

end Go.Proofs.Ytfhmnodoahcmnaa
