/- What the conditions of these functions are, reckoned by the reading; printed by program. -/
import Derived.Test.YtdjehimkijlhgaaDoorNm
import Derived.KernelRfl
set_option maxRecDepth 100000
set_option linter.unusedVariables false
namespace Go.Proofs.YtdjehimkijlhgaaDoor
open Go Go.Vc

/-- slices.SortStableFunc[[]lectern/api.Attr,lectern/api.Attr] -/
def VC_slices_SortStableFunc_sl_api_Attr_api_Attr_f1_58 (x0p : Option Addr) (x0l : Nat) (x0c : Nat) (w : World) (J : World → Prop) : Prop :=
  callJ Tryd.prog fn_slices_stableCmpFunc_api_Attr #[.slice x0p x0l x0c, .int .i64 ((x0l : Nat) : Int), .func (.func 58) #[] #[]] w [] fun (w1 : World) =>
  J w1
def ann_slices_SortStableFunc_sl_api_Attr_api_Attr_f1_58 : Ann := .o
theorem eq_slices_SortStableFunc_sl_api_Attr_api_Attr_f1_58 (x0p : Option Addr) (x0l : Nat) (x0c : Nat) (w : World) (J : World → Prop) : vcFun Tryd.prog Tryd.f57 ann_slices_SortStableFunc_sl_api_Attr_api_Attr_f1_58 [] [.slice x0p x0l x0c, .func (.func 58) #[] #[]] w J = VC_slices_SortStableFunc_sl_api_Attr_api_Attr_f1_58 x0p x0l x0c w J := by kernel_rfl
theorem c_slices_SortStableFunc_sl_api_Attr_api_Attr_f1_58 {x0p : Option Addr} {x0l : Nat} {x0c : Nat} {w : World} {J : World → Prop} (h : VC_slices_SortStableFunc_sl_api_Attr_api_Attr_f1_58 x0p x0l x0c w J) : callJ Tryd.prog fn_slices_SortStableFunc_sl_api_Attr_api_Attr #[.slice x0p x0l x0c, .func (.func 58) #[] #[]] w [] J := vc_calls Tryd.func57 ann_slices_SortStableFunc_sl_api_Attr_api_Attr_f1_58 (Eq.mpr (eq_slices_SortStableFunc_sl_api_Attr_api_Attr_f1_58 x0p x0l x0c w J) h)

/-- slices.stableCmpFunc[lectern/api.Attr] -/
def VC_slices_stableCmpFunc_api_Attr_f2_58 (data0p : Option Addr) (data0l : Nat) (data0c : Nat) (n1 : Int) (w : World) (J : World → Prop) : Prop :=
  ∃ I_7 : Int → Int → World → Nat → Prop, (∃ m : Nat, I_7 (0 : Int) (20 : Int) w m) ∧ ∀ (a7 : Int) (b8 : Int) (w1 : World) (m : Nat), I_7 a7 b8 w1 m → (
  condB (decide (b8 ≤ n1)) (
  callJ Tryd.prog fn_slices_insertionSortCmpFunc_api_Attr #[.slice data0p data0l data0c, .int .i64 a7, .int .i64 b8, .func (.func 58) #[] #[]] w1 [] fun (w2 : World) =>
  ∃ m' : Nat, m' < m ∧ I_7 b8 (w64 (b8 + (20 : Int))) w2 m') (
  callJ Tryd.prog fn_slices_insertionSortCmpFunc_api_Attr #[.slice data0p data0l data0c, .int .i64 a7, .int .i64 n1, .func (.func 58) #[] #[]] w1 [] fun (w3 : World) =>
  ∃ I_6 : Int → World → Nat → Prop, (∃ m : Nat, I_6 (20 : Int) w3 m) ∧ ∀ (blockSize6 : Int) (w4 : World) (m_1 : Nat), I_6 blockSize6 w4 m_1 → (
  condB (decide (blockSize6 < n1)) (
  ∃ I_7_1 : Int → Int → World → Nat → Prop, (∃ m : Nat, I_7_1 (0 : Int) (w64 ((2 : Int) * blockSize6)) w4 m) ∧ ∀ (a7_1 : Int) (b8_1 : Int) (w5 : World) (m_2 : Nat), I_7_1 a7_1 b8_1 w5 m_2 → (
  condB (decide (b8_1 ≤ n1)) (
  callJ Tryd.prog fn_slices_symMergeCmpFunc_api_Attr #[.slice data0p data0l data0c, .int .i64 a7_1, .int .i64 (w64 (a7_1 + blockSize6)), .int .i64 b8_1, .func (.func 58) #[] #[]] w5 [] fun (w6 : World) =>
  ∃ m' : Nat, m' < m_2 ∧ I_7_1 b8_1 (w64 (b8_1 + (w64 ((2 : Int) * blockSize6)))) w6 m') (
  withJ (fun (w7 : World) =>
  ∃ m' : Nat, m' < m_1 ∧ I_6 (w64 (blockSize6 * (2 : Int))) w7 m') fun J_0 =>
  condB (decide ((w64 (a7_1 + blockSize6)) < n1)) (
  callJ Tryd.prog fn_slices_symMergeCmpFunc_api_Attr #[.slice data0p data0l data0c, .int .i64 a7_1, .int .i64 (w64 (a7_1 + blockSize6)), .int .i64 n1, .func (.func 58) #[] #[]] w5 [] fun (w8 : World) =>
  J_0 w8) (
  J_0 w5)))) (
  J w4))))
def ann_slices_stableCmpFunc_api_Attr_f2_58 : Ann := .s (.o) (.s (.o) (.s (.b (.l [(7, .int .i64), (8, .int .i64)] (.s (.s (.o) (.c (.o) (.o))) (.b (.s (.o) (.s (.o) (.o))))))) (.s (.o) (.b (.l [(6, .int .i64)] (.s (.s (.o) (.c (.o) (.o))) (.b (.s (.o) (.s (.b (.l [(7, .int .i64), (8, .int .i64)] (.s (.s (.o) (.c (.o) (.o))) (.b (.s (.o) (.s (.o) (.o))))))) (.j [] (.s (.o) (.s (.o) (.c (.o) (.o)))) (.o)))))))))))
theorem eq_slices_stableCmpFunc_api_Attr_f2_58 (data0p : Option Addr) (data0l : Nat) (data0c : Nat) (n1 : Int) (w : World) (J : World → Prop) : vcFun Tryd.prog Tryd.f80 ann_slices_stableCmpFunc_api_Attr_f2_58 [] [.slice data0p data0l data0c, .int .i64 n1, .func (.func 58) #[] #[]] w J = VC_slices_stableCmpFunc_api_Attr_f2_58 data0p data0l data0c n1 w J := by kernel_rfl
theorem c_slices_stableCmpFunc_api_Attr_f2_58 {data0p : Option Addr} {data0l : Nat} {data0c : Nat} {n1 : Int} {w : World} {J : World → Prop} (h : VC_slices_stableCmpFunc_api_Attr_f2_58 data0p data0l data0c n1 w J) : callJ Tryd.prog fn_slices_stableCmpFunc_api_Attr #[.slice data0p data0l data0c, .int .i64 n1, .func (.func 58) #[] #[]] w [] J := vc_calls Tryd.func80 ann_slices_stableCmpFunc_api_Attr_f2_58 (Eq.mpr (eq_slices_stableCmpFunc_api_Attr_f2_58 data0p data0l data0c n1 w J) h)

/-- slices.insertionSortCmpFunc[lectern/api.Attr] -/
def VC_slices_insertionSortCmpFunc_api_Attr_f3_58 (data0p : Option Addr) (data0l : Nat) (data0c : Nat) (a1 : Int) (b2 : Int) (w : World) (J : World → Prop) : Prop :=
  ∃ I_8 : Int → World → Nat → Prop, (∃ m : Nat, I_8 (w64 (a1 + (1 : Int))) w m) ∧ ∀ (i8 : Int) (w1 : World) (m : Nat), I_8 i8 w1 m → (
  condB (decide (i8 < b2)) (
  ∃ I_9 : Int → World → Nat → Prop, (∃ m : Nat, I_9 i8 w1 m) ∧ ∀ (j9 : Int) (w2 : World) (m_1 : Nat), I_9 j9 w2 m_1 → (
  withJ (fun (x34 : Bool) (w3 : World) =>
  condB x34 (
  idxA data0p data0l (w64 (j9 - (1 : Int))) fun a45 =>
  ldStr w3.drew ((a45.add ((w64 (j9 - (1 : Int))).toNat * 3))) fun x46_0 =>
  ldStr w3.drew (((a45.add ((w64 (j9 - (1 : Int))).toNat * 3)).add 1)) fun x46_1 =>
  ldStr w3.drew (((a45.add ((w64 (j9 - (1 : Int))).toNat * 3)).add 2)) fun x46_2 =>
  idxA data0p data0l j9 fun a49 =>
  ldStr w3.drew ((a49.add (j9.toNat * 3))) fun x50_0 =>
  ldStr w3.drew (((a49.add (j9.toNat * 3)).add 1)) fun x50_1 =>
  ldStr w3.drew (((a49.add (j9.toNat * 3)).add 2)) fun x50_2 =>
  idxA data0p data0l j9 fun a51 =>
  stN w3.drew ((a51.add (j9.toNat * 3))) ⟨[.string x46_0, .string x46_1, .string x46_2]⟩ 3 fun w4 =>
  idxA data0p data0l (w64 (j9 - (1 : Int))) fun a52 =>
  stN w4 ((a52.add ((w64 (j9 - (1 : Int))).toNat * 3))) ⟨[.string x50_0, .string x50_1, .string x50_2]⟩ 3 fun w5 =>
  ∃ m' : Nat, m' < m_1 ∧ I_9 (w64 (j9 - (1 : Int))) w5 m') (
  ∃ m' : Nat, m' < m ∧ I_8 (w64 (i8 + (1 : Int))) w3 m')) fun J_34 =>
  condB (decide (j9 > a1)) (
  idxA data0p data0l j9 fun a25 =>
  ldStr w2.drew ((a25.add (j9.toNat * 3))) fun x26_0 =>
  ldStr w2.drew (((a25.add (j9.toNat * 3)).add 1)) fun x26_1 =>
  ldStr w2.drew (((a25.add (j9.toNat * 3)).add 2)) fun x26_2 =>
  idxA data0p data0l (w64 (j9 - (1 : Int))) fun a30 =>
  ldStr w2.drew ((a30.add ((w64 (j9 - (1 : Int))).toNat * 3))) fun x31_0 =>
  ldStr w2.drew (((a30.add ((w64 (j9 - (1 : Int))).toNat * 3)).add 1)) fun x31_1 =>
  ldStr w2.drew (((a30.add ((w64 (j9 - (1 : Int))).toNat * 3)).add 2)) fun x31_2 =>
  callJ Tryd.prog fn_scope_Scope_Attrs_1 #[.agg ⟨[.string x26_0, .string x26_1, .string x26_2]⟩, .agg ⟨[.string x31_0, .string x31_1, .string x31_2]⟩] w2.drew [.one (.int .i64)] fun (r32 : Int) (w6 : World) =>
  J_34 (decide (r32 < (0 : Int))) w6) (
  J_34 false w2.drew))) (
  J w1))
def ann_slices_insertionSortCmpFunc_api_Attr_f3_58 : Ann := .s (.o) (.b (.l [(8, .int .i64)] (.s (.s (.o) (.c (.o) (.o))) (.s (.b (.s (.o) (.b (.l [(9, .int .i64)] (.s (.j [(34, .bool)] (.d (.take 0 (.take 1 (.take 2 (.take 3 (.take 4 (.take 5 (.take 6 (.take 7 (.take 8 (.take 9 (.take 10 (.take 11 (.take 12 (.take 13 (.eff 14 (.take 15 (.take 16 (.done))) (.none))))))))))))))))) (.c (.o) (.o))) (.s (.b (.d (.take 0 (.take 1 (.take 2 (.take 3 (.take 4 (.take 5 (.take 6 (.take 7 (.take 8 (.take 9 (.take 10 (.take 11 (.take 12 (.take 13 (.take 14 (.eff 15 (.take 16 (.eff 17 (.done) (.none))) (.none))))))))))))))))))) (.o))))))) (.o)))))
theorem eq_slices_insertionSortCmpFunc_api_Attr_f3_58 (data0p : Option Addr) (data0l : Nat) (data0c : Nat) (a1 : Int) (b2 : Int) (w : World) (J : World → Prop) : vcFun Tryd.prog Tryd.f96 ann_slices_insertionSortCmpFunc_api_Attr_f3_58 [] [.slice data0p data0l data0c, .int .i64 a1, .int .i64 b2, .func (.func 58) #[] #[]] w J = VC_slices_insertionSortCmpFunc_api_Attr_f3_58 data0p data0l data0c a1 b2 w J := by kernel_rfl
theorem c_slices_insertionSortCmpFunc_api_Attr_f3_58 {data0p : Option Addr} {data0l : Nat} {data0c : Nat} {a1 : Int} {b2 : Int} {w : World} {J : World → Prop} (h : VC_slices_insertionSortCmpFunc_api_Attr_f3_58 data0p data0l data0c a1 b2 w J) : callJ Tryd.prog fn_slices_insertionSortCmpFunc_api_Attr #[.slice data0p data0l data0c, .int .i64 a1, .int .i64 b2, .func (.func 58) #[] #[]] w [] J := vc_calls Tryd.func96 ann_slices_insertionSortCmpFunc_api_Attr_f3_58 (Eq.mpr (eq_slices_insertionSortCmpFunc_api_Attr_f3_58 data0p data0l data0c a1 b2 w J) h)

/-- slices.symMergeCmpFunc[lectern/api.Attr] -/
def VC_slices_symMergeCmpFunc_api_Attr_f4_58 (data0p : Option Addr) (data0l : Nat) (data0c : Nat) (a1 : Int) (m2 : Int) (b3 : Int) (w : World) (J : World → Prop) : Prop :=
  condB ((w64 (m2 - a1)) == (1 : Int)) (
  ∃ I_10 : Int → Int → World → Nat → Prop, (∃ m : Nat, I_10 m2 b3 w m) ∧ ∀ (i10 : Int) (j11 : Int) (w1 : World) (m : Nat), I_10 i10 j11 w1 m → (
  condB (decide (i10 < j11)) (
  0 ≤ (1 : Int) ∧
  idxA data0p data0l (w64 (shrI .u64 (IntKind.u64.wrap (w64 (i10 + j11))) (1 : Int))) fun a43 =>
  ldStr w1.drew ((a43.add ((w64 (shrI .u64 (IntKind.u64.wrap (w64 (i10 + j11))) (1 : Int))).toNat * 3))) fun x44_0 =>
  ldStr w1.drew (((a43.add ((w64 (shrI .u64 (IntKind.u64.wrap (w64 (i10 + j11))) (1 : Int))).toNat * 3)).add 1)) fun x44_1 =>
  ldStr w1.drew (((a43.add ((w64 (shrI .u64 (IntKind.u64.wrap (w64 (i10 + j11))) (1 : Int))).toNat * 3)).add 2)) fun x44_2 =>
  idxA data0p data0l a1 fun a47 =>
  ldStr w1.drew ((a47.add (a1.toNat * 3))) fun x48_0 =>
  ldStr w1.drew (((a47.add (a1.toNat * 3)).add 1)) fun x48_1 =>
  ldStr w1.drew (((a47.add (a1.toNat * 3)).add 2)) fun x48_2 =>
  callJ Tryd.prog fn_scope_Scope_Attrs_1 #[.agg ⟨[.string x44_0, .string x44_1, .string x44_2]⟩, .agg ⟨[.string x48_0, .string x48_1, .string x48_2]⟩] w1.drew [.one (.int .i64)] fun (r49 : Int) (w2 : World) =>
  condB (decide (r49 < (0 : Int))) (
  ∃ m' : Nat, m' < m ∧ I_10 (w64 ((w64 (shrI .u64 (IntKind.u64.wrap (w64 (i10 + j11))) (1 : Int))) + (1 : Int))) j11 w2 m') (
  ∃ m' : Nat, m' < m ∧ I_10 i10 (w64 (shrI .u64 (IntKind.u64.wrap (w64 (i10 + j11))) (1 : Int))) w2 m')) (
  ∃ I_13 : Int → World → Nat → Prop, (∃ m : Nat, I_13 a1 w1 m) ∧ ∀ (k13 : Int) (w3 : World) (m_1 : Nat), I_13 k13 w3 m_1 → (
  condB (decide (k13 < (w64 (i10 - (1 : Int))))) (
  idxA data0p data0l (w64 (k13 + (1 : Int))) fun a69 =>
  ldStr w3.drew ((a69.add ((w64 (k13 + (1 : Int))).toNat * 3))) fun x70_0 =>
  ldStr w3.drew (((a69.add ((w64 (k13 + (1 : Int))).toNat * 3)).add 1)) fun x70_1 =>
  ldStr w3.drew (((a69.add ((w64 (k13 + (1 : Int))).toNat * 3)).add 2)) fun x70_2 =>
  idxA data0p data0l k13 fun a73 =>
  ldStr w3.drew ((a73.add (k13.toNat * 3))) fun x74_0 =>
  ldStr w3.drew (((a73.add (k13.toNat * 3)).add 1)) fun x74_1 =>
  ldStr w3.drew (((a73.add (k13.toNat * 3)).add 2)) fun x74_2 =>
  idxA data0p data0l k13 fun a75 =>
  stN w3.drew ((a75.add (k13.toNat * 3))) ⟨[.string x70_0, .string x70_1, .string x70_2]⟩ 3 fun w4 =>
  idxA data0p data0l (w64 (k13 + (1 : Int))) fun a76 =>
  stN w4 ((a76.add ((w64 (k13 + (1 : Int))).toNat * 3))) ⟨[.string x74_0, .string x74_1, .string x74_2]⟩ 3 fun w5 =>
  ∃ m' : Nat, m' < m_1 ∧ I_13 (w64 (k13 + (1 : Int))) w5 m') (
  J w3))))) (
  condB ((w64 (b3 - m2)) == (1 : Int)) (
  ∃ I_14 : Int → Int → World → Nat → Prop, (∃ m : Nat, I_14 a1 m2 w m) ∧ ∀ (i14 : Int) (j15 : Int) (w6 : World) (m_2 : Nat), I_14 i14 j15 w6 m_2 → (
  condB (decide (i14 < j15)) (
  0 ≤ (1 : Int) ∧
  idxA data0p data0l m2 fun a95 =>
  ldStr w6.drew ((a95.add (m2.toNat * 3))) fun x96_0 =>
  ldStr w6.drew (((a95.add (m2.toNat * 3)).add 1)) fun x96_1 =>
  ldStr w6.drew (((a95.add (m2.toNat * 3)).add 2)) fun x96_2 =>
  idxA data0p data0l (w64 (shrI .u64 (IntKind.u64.wrap (w64 (i14 + j15))) (1 : Int))) fun a99 =>
  ldStr w6.drew ((a99.add ((w64 (shrI .u64 (IntKind.u64.wrap (w64 (i14 + j15))) (1 : Int))).toNat * 3))) fun x100_0 =>
  ldStr w6.drew (((a99.add ((w64 (shrI .u64 (IntKind.u64.wrap (w64 (i14 + j15))) (1 : Int))).toNat * 3)).add 1)) fun x100_1 =>
  ldStr w6.drew (((a99.add ((w64 (shrI .u64 (IntKind.u64.wrap (w64 (i14 + j15))) (1 : Int))).toNat * 3)).add 2)) fun x100_2 =>
  callJ Tryd.prog fn_scope_Scope_Attrs_1 #[.agg ⟨[.string x96_0, .string x96_1, .string x96_2]⟩, .agg ⟨[.string x100_0, .string x100_1, .string x100_2]⟩] w6.drew [.one (.int .i64)] fun (r101 : Int) (w7 : World) =>
  condB (!(decide (r101 < (0 : Int)))) (
  ∃ m' : Nat, m' < m_2 ∧ I_14 (w64 ((w64 (shrI .u64 (IntKind.u64.wrap (w64 (i14 + j15))) (1 : Int))) + (1 : Int))) j15 w7 m') (
  ∃ m' : Nat, m' < m_2 ∧ I_14 i14 (w64 (shrI .u64 (IntKind.u64.wrap (w64 (i14 + j15))) (1 : Int))) w7 m')) (
  ∃ I_17 : Int → World → Nat → Prop, (∃ m : Nat, I_17 m2 w6 m) ∧ ∀ (k17 : Int) (w8 : World) (m_3 : Nat), I_17 k17 w8 m_3 → (
  condB (decide (k17 > i14)) (
  idxA data0p data0l (w64 (k17 - (1 : Int))) fun a121 =>
  ldStr w8.drew ((a121.add ((w64 (k17 - (1 : Int))).toNat * 3))) fun x122_0 =>
  ldStr w8.drew (((a121.add ((w64 (k17 - (1 : Int))).toNat * 3)).add 1)) fun x122_1 =>
  ldStr w8.drew (((a121.add ((w64 (k17 - (1 : Int))).toNat * 3)).add 2)) fun x122_2 =>
  idxA data0p data0l k17 fun a125 =>
  ldStr w8.drew ((a125.add (k17.toNat * 3))) fun x126_0 =>
  ldStr w8.drew (((a125.add (k17.toNat * 3)).add 1)) fun x126_1 =>
  ldStr w8.drew (((a125.add (k17.toNat * 3)).add 2)) fun x126_2 =>
  idxA data0p data0l k17 fun a127 =>
  stN w8.drew ((a127.add (k17.toNat * 3))) ⟨[.string x122_0, .string x122_1, .string x122_2]⟩ 3 fun w9 =>
  idxA data0p data0l (w64 (k17 - (1 : Int))) fun a128 =>
  stN w9 ((a128.add ((w64 (k17 - (1 : Int))).toNat * 3))) ⟨[.string x126_0, .string x126_1, .string x126_2]⟩ 3 fun w10 =>
  ∃ m' : Nat, m' < m_3 ∧ I_17 (w64 (k17 - (1 : Int))) w10 m') (
  J w8))))) (
  0 ≤ (1 : Int) ∧
  withJ (fun (start20 : Int) (r21 : Int) (w11 : World) =>
  ∃ I_20 : Int → Int → World → Nat → Prop, (∃ m : Nat, I_20 start20 r21 w11 m) ∧ ∀ (start20_1 : Int) (r21_1 : Int) (w12 : World) (m_4 : Nat), I_20 start20_1 r21_1 w12 m_4 → (
  condB (decide (start20_1 < r21_1)) (
  0 ≤ (1 : Int) ∧
  idxA data0p data0l (w64 ((w64 ((w64 ((w64 (shrI .u64 (IntKind.u64.wrap (w64 (a1 + b3))) (1 : Int))) + m2)) - (1 : Int))) - (w64 (shrI .u64 (IntKind.u64.wrap (w64 (start20_1 + r21_1))) (1 : Int))))) fun a163 =>
  ldStr w12.drew ((a163.add ((w64 ((w64 ((w64 ((w64 (shrI .u64 (IntKind.u64.wrap (w64 (a1 + b3))) (1 : Int))) + m2)) - (1 : Int))) - (w64 (shrI .u64 (IntKind.u64.wrap (w64 (start20_1 + r21_1))) (1 : Int))))).toNat * 3))) fun x164_0 =>
  ldStr w12.drew (((a163.add ((w64 ((w64 ((w64 ((w64 (shrI .u64 (IntKind.u64.wrap (w64 (a1 + b3))) (1 : Int))) + m2)) - (1 : Int))) - (w64 (shrI .u64 (IntKind.u64.wrap (w64 (start20_1 + r21_1))) (1 : Int))))).toNat * 3)).add 1)) fun x164_1 =>
  ldStr w12.drew (((a163.add ((w64 ((w64 ((w64 ((w64 (shrI .u64 (IntKind.u64.wrap (w64 (a1 + b3))) (1 : Int))) + m2)) - (1 : Int))) - (w64 (shrI .u64 (IntKind.u64.wrap (w64 (start20_1 + r21_1))) (1 : Int))))).toNat * 3)).add 2)) fun x164_2 =>
  idxA data0p data0l (w64 (shrI .u64 (IntKind.u64.wrap (w64 (start20_1 + r21_1))) (1 : Int))) fun a167 =>
  ldStr w12.drew ((a167.add ((w64 (shrI .u64 (IntKind.u64.wrap (w64 (start20_1 + r21_1))) (1 : Int))).toNat * 3))) fun x168_0 =>
  ldStr w12.drew (((a167.add ((w64 (shrI .u64 (IntKind.u64.wrap (w64 (start20_1 + r21_1))) (1 : Int))).toNat * 3)).add 1)) fun x168_1 =>
  ldStr w12.drew (((a167.add ((w64 (shrI .u64 (IntKind.u64.wrap (w64 (start20_1 + r21_1))) (1 : Int))).toNat * 3)).add 2)) fun x168_2 =>
  callJ Tryd.prog fn_scope_Scope_Attrs_1 #[.agg ⟨[.string x164_0, .string x164_1, .string x164_2]⟩, .agg ⟨[.string x168_0, .string x168_1, .string x168_2]⟩] w12.drew [.one (.int .i64)] fun (r169 : Int) (w13 : World) =>
  condB (!(decide (r169 < (0 : Int)))) (
  ∃ m' : Nat, m' < m_4 ∧ I_20 (w64 ((w64 (shrI .u64 (IntKind.u64.wrap (w64 (start20_1 + r21_1))) (1 : Int))) + (1 : Int))) r21_1 w13 m') (
  ∃ m' : Nat, m' < m_4 ∧ I_20 start20_1 (w64 (shrI .u64 (IntKind.u64.wrap (w64 (start20_1 + r21_1))) (1 : Int))) w13 m')) (
  withJ (fun (w14 : World) =>
  withJ (fun (w15 : World) =>
  withJ (fun (x213 : Bool) (w16 : World) =>
  condB x213 (
  callJ Tryd.prog fn_slices_symMergeCmpFunc_api_Attr #[.slice data0p data0l data0c, .int .i64 (w64 (shrI .u64 (IntKind.u64.wrap (w64 (a1 + b3))) (1 : Int))), .int .i64 (w64 ((w64 ((w64 (shrI .u64 (IntKind.u64.wrap (w64 (a1 + b3))) (1 : Int))) + m2)) - start20_1)), .int .i64 b3, .func (.func 58) #[] #[]] w16 [] fun (w17 : World) =>
  J w17) (
  J w16)) fun J_213 =>
  condB (decide ((w64 (shrI .u64 (IntKind.u64.wrap (w64 (a1 + b3))) (1 : Int))) < (w64 ((w64 ((w64 (shrI .u64 (IntKind.u64.wrap (w64 (a1 + b3))) (1 : Int))) + m2)) - start20_1)))) (
  J_213 (decide ((w64 ((w64 ((w64 (shrI .u64 (IntKind.u64.wrap (w64 (a1 + b3))) (1 : Int))) + m2)) - start20_1)) < b3)) w15) (
  J_213 false w15)) fun J_0_1 =>
  withJ (fun (x199 : Bool) (w18 : World) =>
  condB x199 (
  callJ Tryd.prog fn_slices_symMergeCmpFunc_api_Attr #[.slice data0p data0l data0c, .int .i64 a1, .int .i64 start20_1, .int .i64 (w64 (shrI .u64 (IntKind.u64.wrap (w64 (a1 + b3))) (1 : Int))), .func (.func 58) #[] #[]] w18 [] fun (w19 : World) =>
  J_0_1 w19) (
  J_0_1 w18)) fun J_199 =>
  condB (decide (a1 < start20_1)) (
  J_199 (decide (start20_1 < (w64 (shrI .u64 (IntKind.u64.wrap (w64 (a1 + b3))) (1 : Int))))) w14) (
  J_199 false w14)) fun J_0 =>
  withJ (fun (x185 : Bool) (w20 : World) =>
  condB x185 (
  callJ Tryd.prog fn_slices_rotateCmpFunc_api_Attr #[.slice data0p data0l data0c, .int .i64 start20_1, .int .i64 m2, .int .i64 (w64 ((w64 ((w64 (shrI .u64 (IntKind.u64.wrap (w64 (a1 + b3))) (1 : Int))) + m2)) - start20_1)), .func (.func 58) #[] #[]] w20 [] fun (w21 : World) =>
  J_0 w21) (
  J_0 w20)) fun J_185 =>
  condB (decide (start20_1 < m2)) (
  J_185 (decide (m2 < (w64 ((w64 ((w64 (shrI .u64 (IntKind.u64.wrap (w64 (a1 + b3))) (1 : Int))) + m2)) - start20_1)))) w12) (
  J_185 false w12)))) fun J_20 =>
  condB (decide (m2 > (w64 (shrI .u64 (IntKind.u64.wrap (w64 (a1 + b3))) (1 : Int))))) (
  J_20 (w64 ((w64 ((w64 (shrI .u64 (IntKind.u64.wrap (w64 (a1 + b3))) (1 : Int))) + m2)) - b3)) (w64 (shrI .u64 (IntKind.u64.wrap (w64 (a1 + b3))) (1 : Int))) w) (
  J_20 a1 m2 w)))
def ann_slices_symMergeCmpFunc_api_Attr_f4_58 : Ann := .s (.s (.o) (.c (.s (.o) (.s (.o) (.s (.b (.l [(10, .int .i64), (11, .int .i64)] (.s (.s (.o) (.c (.o) (.o))) (.b (.s (.o) (.s (.d (.take 0 (.take 1 (.take 2 (.take 3 (.take 4 (.take 5 (.take 6 (.take 7 (.take 8 (.eff 9 (.take 10 (.done)) (.none)))))))))))) (.c (.o) (.o)))))))) (.s (.s (.o) (.b (.l [(13, .int .i64)] (.s (.s (.o) (.c (.o) (.o))) (.s (.b (.d (.take 0 (.take 1 (.take 2 (.take 3 (.take 4 (.take 5 (.take 6 (.take 7 (.take 8 (.take 9 (.take 10 (.take 11 (.take 12 (.take 13 (.take 14 (.eff 15 (.take 16 (.eff 17 (.done) (.none))) (.none))))))))))))))))))) (.o)))))) (.o))))) (.o))) (.s (.s (.o) (.c (.s (.o) (.s (.o) (.s (.b (.l [(14, .int .i64), (15, .int .i64)] (.s (.s (.o) (.c (.o) (.o))) (.b (.s (.o) (.s (.d (.take 0 (.take 1 (.take 2 (.take 3 (.take 4 (.take 5 (.take 6 (.take 7 (.take 8 (.eff 9 (.take 10 (.take 11 (.done))) (.none)))))))))))) (.c (.o) (.o)))))))) (.s (.s (.o) (.b (.l [(17, .int .i64)] (.s (.s (.o) (.c (.o) (.o))) (.s (.b (.d (.take 0 (.take 1 (.take 2 (.take 3 (.take 4 (.take 5 (.take 6 (.take 7 (.take 8 (.take 9 (.take 10 (.take 11 (.take 12 (.take 13 (.take 14 (.eff 15 (.take 16 (.eff 17 (.done) (.none))) (.none))))))))))))))))))) (.o)))))) (.o))))) (.o))) (.s (.o) (.s (.o) (.s (.o) (.j [(20, .int .i64), (21, .int .i64)] (.s (.o) (.c (.s (.o) (.o)) (.s (.o) (.o)))) (.s (.o) (.s (.b (.l [(20, .int .i64), (21, .int .i64)] (.s (.s (.o) (.c (.o) (.o))) (.b (.s (.o) (.s (.d (.take 0 (.take 1 (.take 2 (.take 3 (.take 4 (.take 5 (.take 6 (.take 7 (.take 8 (.take 9 (.take 10 (.eff 11 (.take 12 (.take 13 (.done))) (.none)))))))))))))) (.c (.o) (.o)))))))) (.s (.o) (.j [] (.j [(185, .bool)] (.o) (.c (.o) (.o))) (.j [] (.j [(199, .bool)] (.o) (.c (.o) (.o))) (.j [(213, .bool)] (.o) (.c (.o) (.o)))))))))))))
theorem eq_slices_symMergeCmpFunc_api_Attr_f4_58 (data0p : Option Addr) (data0l : Nat) (data0c : Nat) (a1 : Int) (m2 : Int) (b3 : Int) (w : World) (J : World → Prop) : vcFun Tryd.prog Tryd.f97 ann_slices_symMergeCmpFunc_api_Attr_f4_58 [] [.slice data0p data0l data0c, .int .i64 a1, .int .i64 m2, .int .i64 b3, .func (.func 58) #[] #[]] w J = VC_slices_symMergeCmpFunc_api_Attr_f4_58 data0p data0l data0c a1 m2 b3 w J := by kernel_rfl
theorem c_slices_symMergeCmpFunc_api_Attr_f4_58 {data0p : Option Addr} {data0l : Nat} {data0c : Nat} {a1 : Int} {m2 : Int} {b3 : Int} {w : World} {J : World → Prop} (h : VC_slices_symMergeCmpFunc_api_Attr_f4_58 data0p data0l data0c a1 m2 b3 w J) : callJ Tryd.prog fn_slices_symMergeCmpFunc_api_Attr #[.slice data0p data0l data0c, .int .i64 a1, .int .i64 m2, .int .i64 b3, .func (.func 58) #[] #[]] w [] J := vc_calls Tryd.func97 ann_slices_symMergeCmpFunc_api_Attr_f4_58 (Eq.mpr (eq_slices_symMergeCmpFunc_api_Attr_f4_58 data0p data0l data0c a1 m2 b3 w J) h)

/-- slices.rotateCmpFunc[lectern/api.Attr] -/
def VC_slices_rotateCmpFunc_api_Attr_f4_58 (data0p : Option Addr) (data0l : Nat) (data0c : Nat) (a1 : Int) (m2 : Int) (b3 : Int) (w : World) (J : World → Prop) : Prop :=
  ∃ I_10 : Int → Int → World → Nat → Prop, (∃ m : Nat, I_10 (w64 (m2 - a1)) (w64 (b3 - m2)) w m) ∧ ∀ (i10 : Int) (j11 : Int) (w1 : World) (m : Nat), I_10 i10 j11 w1 m → (
  condB (i10 != j11) (
  condB (decide (i10 > j11)) (
  callJ Tryd.prog fn_slices_swapRangeCmpFunc_api_Attr #[.slice data0p data0l data0c, .int .i64 (w64 (m2 - i10)), .int .i64 m2, .int .i64 j11, .func (.func 58) #[] #[]] w1 [] fun (w2 : World) =>
  ∃ m' : Nat, m' < m ∧ I_10 (w64 (i10 - j11)) j11 w2 m') (
  callJ Tryd.prog fn_slices_swapRangeCmpFunc_api_Attr #[.slice data0p data0l data0c, .int .i64 (w64 (m2 - i10)), .int .i64 (w64 ((w64 (m2 + j11)) - i10)), .int .i64 i10, .func (.func 58) #[] #[]] w1 [] fun (w3 : World) =>
  ∃ m' : Nat, m' < m ∧ I_10 i10 (w64 (j11 - i10)) w3 m')) (
  callJ Tryd.prog fn_slices_swapRangeCmpFunc_api_Attr #[.slice data0p data0l data0c, .int .i64 (w64 (m2 - i10)), .int .i64 m2, .int .i64 i10, .func (.func 58) #[] #[]] w1 [] fun (w4 : World) =>
  J w4))
def ann_slices_rotateCmpFunc_api_Attr_f4_58 : Ann := .s (.o) (.s (.o) (.s (.b (.l [(10, .int .i64), (11, .int .i64)] (.s (.s (.o) (.c (.o) (.o))) (.b (.s (.o) (.c (.s (.o) (.o)) (.s (.o) (.o)))))))) (.o)))
theorem eq_slices_rotateCmpFunc_api_Attr_f4_58 (data0p : Option Addr) (data0l : Nat) (data0c : Nat) (a1 : Int) (m2 : Int) (b3 : Int) (w : World) (J : World → Prop) : vcFun Tryd.prog Tryd.f118 ann_slices_rotateCmpFunc_api_Attr_f4_58 [] [.slice data0p data0l data0c, .int .i64 a1, .int .i64 m2, .int .i64 b3, .func (.func 58) #[] #[]] w J = VC_slices_rotateCmpFunc_api_Attr_f4_58 data0p data0l data0c a1 m2 b3 w J := by kernel_rfl
theorem c_slices_rotateCmpFunc_api_Attr_f4_58 {data0p : Option Addr} {data0l : Nat} {data0c : Nat} {a1 : Int} {m2 : Int} {b3 : Int} {w : World} {J : World → Prop} (h : VC_slices_rotateCmpFunc_api_Attr_f4_58 data0p data0l data0c a1 m2 b3 w J) : callJ Tryd.prog fn_slices_rotateCmpFunc_api_Attr #[.slice data0p data0l data0c, .int .i64 a1, .int .i64 m2, .int .i64 b3, .func (.func 58) #[] #[]] w [] J := vc_calls Tryd.func118 ann_slices_rotateCmpFunc_api_Attr_f4_58 (Eq.mpr (eq_slices_rotateCmpFunc_api_Attr_f4_58 data0p data0l data0c a1 m2 b3 w J) h)

/-- slices.swapRangeCmpFunc[lectern/api.Attr] -/
def VC_slices_swapRangeCmpFunc_api_Attr_f4_58 (data0p : Option Addr) (data0l : Nat) (data0c : Nat) (a1 : Int) (b2 : Int) (n3 : Int) (w : World) (J : World → Prop) : Prop :=
  ∃ I_10 : Int → World → Nat → Prop, (∃ m : Nat, I_10 (0 : Int) w m) ∧ ∀ (i10 : Int) (w1 : World) (m : Nat), I_10 i10 w1 m → (
  condB (decide (i10 < n3)) (
  idxA data0p data0l (w64 (b2 + i10)) fun a28 =>
  ldStr w1.drew ((a28.add ((w64 (b2 + i10)).toNat * 3))) fun x29_0 =>
  ldStr w1.drew (((a28.add ((w64 (b2 + i10)).toNat * 3)).add 1)) fun x29_1 =>
  ldStr w1.drew (((a28.add ((w64 (b2 + i10)).toNat * 3)).add 2)) fun x29_2 =>
  idxA data0p data0l (w64 (a1 + i10)) fun a34 =>
  ldStr w1.drew ((a34.add ((w64 (a1 + i10)).toNat * 3))) fun x35_0 =>
  ldStr w1.drew (((a34.add ((w64 (a1 + i10)).toNat * 3)).add 1)) fun x35_1 =>
  ldStr w1.drew (((a34.add ((w64 (a1 + i10)).toNat * 3)).add 2)) fun x35_2 =>
  idxA data0p data0l (w64 (a1 + i10)) fun a36 =>
  stN w1.drew ((a36.add ((w64 (a1 + i10)).toNat * 3))) ⟨[.string x29_0, .string x29_1, .string x29_2]⟩ 3 fun w2 =>
  idxA data0p data0l (w64 (b2 + i10)) fun a37 =>
  stN w2 ((a37.add ((w64 (b2 + i10)).toNat * 3))) ⟨[.string x35_0, .string x35_1, .string x35_2]⟩ 3 fun w3 =>
  ∃ m' : Nat, m' < m ∧ I_10 (w64 (i10 + (1 : Int))) w3 m') (
  J w1))
def ann_slices_swapRangeCmpFunc_api_Attr_f4_58 : Ann := .s (.o) (.b (.l [(10, .int .i64)] (.s (.s (.o) (.c (.o) (.o))) (.s (.b (.d (.take 0 (.take 1 (.take 2 (.take 3 (.take 4 (.take 5 (.take 6 (.take 7 (.take 8 (.take 9 (.take 10 (.take 11 (.take 12 (.take 13 (.take 14 (.take 15 (.take 16 (.take 17 (.take 18 (.take 19 (.take 20 (.eff 21 (.take 22 (.eff 23 (.done) (.none))) (.none))))))))))))))))))))))))) (.o)))))
theorem eq_slices_swapRangeCmpFunc_api_Attr_f4_58 (data0p : Option Addr) (data0l : Nat) (data0c : Nat) (a1 : Int) (b2 : Int) (n3 : Int) (w : World) (J : World → Prop) : vcFun Tryd.prog Tryd.f134 ann_slices_swapRangeCmpFunc_api_Attr_f4_58 [] [.slice data0p data0l data0c, .int .i64 a1, .int .i64 b2, .int .i64 n3, .func (.func 58) #[] #[]] w J = VC_slices_swapRangeCmpFunc_api_Attr_f4_58 data0p data0l data0c a1 b2 n3 w J := by kernel_rfl
theorem c_slices_swapRangeCmpFunc_api_Attr_f4_58 {data0p : Option Addr} {data0l : Nat} {data0c : Nat} {a1 : Int} {b2 : Int} {n3 : Int} {w : World} {J : World → Prop} (h : VC_slices_swapRangeCmpFunc_api_Attr_f4_58 data0p data0l data0c a1 b2 n3 w J) : callJ Tryd.prog fn_slices_swapRangeCmpFunc_api_Attr #[.slice data0p data0l data0c, .int .i64 a1, .int .i64 b2, .int .i64 n3, .func (.func 58) #[] #[]] w [] J := vc_calls Tryd.func134 ann_slices_swapRangeCmpFunc_api_Attr_f4_58 (Eq.mpr (eq_slices_swapRangeCmpFunc_api_Attr_f4_58 data0p data0l data0c a1 b2 n3 w J) h)

/-- cmp.Compare[string] -/
def VC_cmp_Compare_string (x0 : ByteArray) (y1 : ByteArray) (w : World) (J : Int → World → Prop) : Prop :=
  callJ Tryd.prog fn_cmp_isNaN_string #[.string x0] w [.one .bool] fun (r8 : Bool) (w1 : World) =>
  callJ Tryd.prog fn_cmp_isNaN_string #[.string y1] w1 [.one .bool] fun (r10 : Bool) (w2 : World) =>
  condB r8 (
  condB r10 (
  J (0 : Int) w2) (
  J (-1 : Int) w2)) (
  condB r10 (
  J (1 : Int) w2) (
  condB (Op.bytesLess x0.toList y1.toList) (
  J (-1 : Int) w2) (
  condB (!((Op.bytesLess x0.toList y1.toList) || (x0.toList == y1.toList))) (
  J (1 : Int) w2) (
  J (0 : Int) w2))))
def ann_cmp_Compare_string : Ann := .s (.o) (.s (.o) (.s (.o) (.s (.s (.o) (.c (.s (.s (.o) (.c (.s (.o) (.o)) (.o))) (.s (.o) (.o))) (.o))) (.s (.s (.o) (.c (.s (.o) (.o)) (.o))) (.s (.s (.o) (.c (.s (.o) (.o)) (.o))) (.s (.s (.o) (.c (.s (.o) (.o)) (.o))) (.s (.o) (.o))))))))
theorem eq_cmp_Compare_string (x0 : ByteArray) (y1 : ByteArray) (w : World) (J : Int → World → Prop) : vcFun Tryd.prog Tryd.f60 ann_cmp_Compare_string [.one (.int .i64)] [.string x0, .string y1] w J = VC_cmp_Compare_string x0 y1 w J := by kernel_rfl
theorem c_cmp_Compare_string {x0 : ByteArray} {y1 : ByteArray} {w : World} {J : Int → World → Prop} (h : VC_cmp_Compare_string x0 y1 w J) : callJ Tryd.prog fn_cmp_Compare_string #[.string x0, .string y1] w [.one (.int .i64)] J := vc_calls Tryd.func60 ann_cmp_Compare_string (Eq.mpr (eq_cmp_Compare_string x0 y1 w J) h)

/-- cmp.isNaN[string] -/
def VC_cmp_isNaN_string (x0 : ByteArray) (w : World) (J : Bool → World → Prop) : Prop :=
  J (!(x0.toList == x0.toList)) w
def ann_cmp_isNaN_string : Ann := .s (.o) (.s (.o) (.o))
theorem eq_cmp_isNaN_string (x0 : ByteArray) (w : World) (J : Bool → World → Prop) : vcFun Tryd.prog Tryd.f81 ann_cmp_isNaN_string [.one .bool] [.string x0] w J = VC_cmp_isNaN_string x0 w J := by kernel_rfl
theorem c_cmp_isNaN_string {x0 : ByteArray} {w : World} {J : Bool → World → Prop} (h : VC_cmp_isNaN_string x0 w J) : callJ Tryd.prog fn_cmp_isNaN_string #[.string x0] w [.one .bool] J := vc_calls Tryd.func81 ann_cmp_isNaN_string (Eq.mpr (eq_cmp_isNaN_string x0 w J) h)

/-- cmp.Or[int] -/
def VC_cmp_Or_int (vals0p : Option Addr) (vals0l : Nat) (vals0c : Nat) (w : World) (J : Int → World → Prop) : Prop :=
  ∃ I_8 : Int → World → Nat → Prop, (∃ m : Nat, I_8 (0 : Int) w m) ∧ ∀ (x8 : Int) (w1 : World) (m : Nat), I_8 x8 w1 m → (
  condB (decide (x8 < ((vals0l : Nat) : Int))) (
  idxA vals0p vals0l x8 fun a10 =>
  ldI .i64 w1 ((a10.add (x8.toNat * 1))) fun x11 =>
  condB (x11 != (0 : Int)) (
  J x11 w1) (
  ∃ m' : Nat, m' < m ∧ I_8 (w64 (x8 + (1 : Int))) w1 m')) (
  J (0 : Int) w1))
def ann_cmp_Or_int : Ann := .s (.o) (.s (.o) (.s (.s (.o) (.b (.l [(8, .int .i64)] (.s (.o) (.s (.c (.o) (.o)) (.s (.b (.s (.o) (.s (.o) (.c (.s (.o) (.o)) (.o))))) (.o))))))) (.s (.o) (.o))))
theorem eq_cmp_Or_int (vals0p : Option Addr) (vals0l : Nat) (vals0c : Nat) (w : World) (J : Int → World → Prop) : vcFun Tryd.prog Tryd.f59 ann_cmp_Or_int [.one (.int .i64)] [.slice vals0p vals0l vals0c] w J = VC_cmp_Or_int vals0p vals0l vals0c w J := by kernel_rfl
theorem c_cmp_Or_int {vals0p : Option Addr} {vals0l : Nat} {vals0c : Nat} {w : World} {J : Int → World → Prop} (h : VC_cmp_Or_int vals0p vals0l vals0c w J) : callJ Tryd.prog fn_cmp_Or_int #[.slice vals0p vals0l vals0c] w [.one (.int .i64)] J := vc_calls Tryd.func59 ann_cmp_Or_int (Eq.mpr (eq_cmp_Or_int vals0p vals0l vals0c w J) h)

end Go.Proofs.YtdjehimkijlhgaaDoor
