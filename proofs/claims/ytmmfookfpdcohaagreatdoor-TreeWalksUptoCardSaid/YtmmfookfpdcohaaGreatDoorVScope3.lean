/- What the conditions of these functions are, reckoned by the reading; printed by program. -/
import Derived.Test.YtmmfookfpdcohaaGreatDoorNm
import Derived.KernelRfl
set_option maxRecDepth 100000
set_option linter.unusedVariables false
namespace Go.Proofs.YtmmfookfpdcohaaGreatDoor
open Go Go.Vc

/-- slices.insertionSortOrdered[string] -/
def VC_slices_insertionSortOrdered_string (data0p : Option Addr) (data0l : Nat) (data0c : Nat) (a1 : Int) (b2 : Int) (w : World) (J : World → Prop) : Prop :=
  ∃ I_6 : Int → World → Nat → Prop, (∃ m : Nat, I_6 (w64 (a1 + (1 : Int))) w m) ∧ ∀ (i6 : Int) (w1 : World) (m : Nat), I_6 i6 w1 m → (
  condB (decide (i6 < b2)) (
  ∃ I_7 : Int → World → Nat → Prop, (∃ m : Nat, I_7 i6 w1 m) ∧ ∀ (j7 : Int) (w2 : World) (m_1 : Nat), I_7 j7 w2 m_1 → (
  withJ (fun (x30 : Bool) (w3 : World) =>
  condB x30 (
  idxA data0p data0l (w64 (j7 - (1 : Int))) fun a41 =>
  ldStr w3.drew ((a41.add ((w64 (j7 - (1 : Int))).toNat * 1))) fun x42 =>
  idxA data0p data0l j7 fun a45 =>
  ldStr w3.drew ((a45.add (j7.toNat * 1))) fun x46 =>
  idxA data0p data0l j7 fun a47 =>
  stV w3.drew ((a47.add (j7.toNat * 1))) (.string x42) fun w4 =>
  idxA data0p data0l (w64 (j7 - (1 : Int))) fun a48 =>
  stV w4 ((a48.add ((w64 (j7 - (1 : Int))).toNat * 1))) (.string x46) fun w5 =>
  ∃ m' : Nat, m' < m_1 ∧ I_7 (w64 (j7 - (1 : Int))) w5 m') (
  ∃ m' : Nat, m' < m ∧ I_6 (w64 (i6 + (1 : Int))) w3 m')) fun J_30 =>
  condB (decide (j7 > a1)) (
  idxA data0p data0l j7 fun a22 =>
  ldStr w2.drew ((a22.add (j7.toNat * 1))) fun x23 =>
  idxA data0p data0l (w64 (j7 - (1 : Int))) fun a27 =>
  ldStr w2.drew ((a27.add ((w64 (j7 - (1 : Int))).toNat * 1))) fun x28 =>
  callJ Tryz.prog fn_cmp_Less_string #[.string x23, .string x28] w2.drew [.one .bool] fun (r29 : Bool) (w6 : World) =>
  J_30 r29 w6) (
  J_30 false w2.drew))) (
  J w1))
def ann_slices_insertionSortOrdered_string : Ann := .s (.o) (.b (.l [(6, .int .i64)] (.s (.s (.o) (.c (.o) (.o))) (.s (.b (.s (.o) (.b (.l [(7, .int .i64)] (.s (.j [(30, .bool)] (.d (.take 0 (.take 1 (.take 2 (.take 3 (.take 4 (.take 5 (.take 6 (.take 7 (.take 8 (.take 9 (.take 10 (.take 11 (.take 12 (.eff 13 (.take 14 (.done)) (.none)))))))))))))))) (.c (.o) (.o))) (.s (.b (.d (.take 0 (.take 1 (.take 2 (.take 3 (.take 4 (.take 5 (.take 6 (.take 7 (.take 8 (.take 9 (.take 10 (.take 11 (.take 12 (.take 13 (.take 14 (.eff 15 (.take 16 (.eff 17 (.done) (.none))) (.none))))))))))))))))))) (.o))))))) (.o)))))
theorem eq_slices_insertionSortOrdered_string (data0p : Option Addr) (data0l : Nat) (data0c : Nat) (a1 : Int) (b2 : Int) (w : World) (J : World → Prop) : vcFun Tryz.prog Tryz.f93 ann_slices_insertionSortOrdered_string [] [.slice data0p data0l data0c, .int .i64 a1, .int .i64 b2] w J = VC_slices_insertionSortOrdered_string data0p data0l data0c a1 b2 w J := by kernel_rfl
theorem c_slices_insertionSortOrdered_string {data0p : Option Addr} {data0l : Nat} {data0c : Nat} {a1 : Int} {b2 : Int} {w : World} {J : World → Prop} (h : VC_slices_insertionSortOrdered_string data0p data0l data0c a1 b2 w J) : callJ Tryz.prog fn_slices_insertionSortOrdered_string #[.slice data0p data0l data0c, .int .i64 a1, .int .i64 b2] w [] J := vc_calls Tryz.func93 ann_slices_insertionSortOrdered_string (Eq.mpr (eq_slices_insertionSortOrdered_string data0p data0l data0c a1 b2 w J) h)

/-- slices.pdqsortOrdered[string] -/
def VC_slices_pdqsortOrdered_string (data0p : Option Addr) (data0l : Nat) (data0c : Nat) (a1 : Int) (b2 : Int) (limit3 : Int) (w : World) (J : World → Prop) : Prop :=
  ∃ I_1 : Int → Int → Int → Bool → Bool → World → Nat → Prop, (∃ m : Nat, I_1 a1 b2 limit3 true true w m) ∧ ∀ (a1 : Int) (b2 : Int) (limit3 : Int) (wasBalanced8 : Bool) (wasPartitioned9 : Bool) (w1 : World) (m : Nat), I_1 a1 b2 limit3 wasBalanced8 wasPartitioned9 w1 m → (
  condB (decide ((w64 (b2 - a1)) ≤ (12 : Int))) (
  callJ Tryz.prog fn_slices_insertionSortOrdered_string #[.slice data0p data0l data0c, .int .i64 a1, .int .i64 b2] w1 [] fun (w2 : World) =>
  J w2) (
  condB (limit3 == (0 : Int)) (
  callJ Tryz.prog fn_slices_heapSortOrdered_string #[.slice data0p data0l data0c, .int .i64 a1, .int .i64 b2] w1 [] fun (w3 : World) =>
  J w3) (
  withJ (fun (limit3_1 : Int) (w4 : World) =>
  callJ Tryz.prog fn_slices_choosePivotOrdered_string #[.slice data0p data0l data0c, .int .i64 a1, .int .i64 b2] w4 [.one (.int .i64), .one (.int .i64)] fun (r46_0 : Int) (r46_1 : Int) (w5 : World) =>
  withJ (fun (pivot11 : Int) (hint12 : Int) (w6 : World) =>
  withJ (fun (w7 : World) =>
  withJ (fun (x87 : Bool) (w8 : World) =>
  condB x87 (
  callJ Tryz.prog fn_slices_partitionEqualOrdered_string #[.slice data0p data0l data0c, .int .i64 a1, .int .i64 b2, .int .i64 pivot11] w8 [.one (.int .i64)] fun (r92 : Int) (w9 : World) =>
  ∃ m' : Nat, m' < m ∧ I_1 r92 b2 limit3_1 wasBalanced8 wasPartitioned9 w9 m') (
  callJ Tryz.prog fn_slices_partitionOrdered_string #[.slice data0p data0l data0c, .int .i64 a1, .int .i64 b2, .int .i64 pivot11] w8 [.one (.int .i64), .one .bool] fun (r99_0 : Int) (r99_1 : Bool) (w10 : World) =>
  (8 : Int) ≠ 0 ∧
  condB (decide ((w64 (r99_0 - a1)) < (w64 (b2 - r99_0)))) (
  callJ Tryz.prog fn_slices_pdqsortOrdered_string #[.slice data0p data0l data0c, .int .i64 a1, .int .i64 r99_0, .int .i64 limit3_1] w10 [] fun (w11 : World) =>
  ∃ m' : Nat, m' < m ∧ I_1 (w64 (r99_0 + (1 : Int))) b2 limit3_1 (decide ((w64 (r99_0 - a1)) ≥ (w64 (Int.tdiv (w64 (b2 - a1)) (8 : Int))))) r99_1 w11 m') (
  callJ Tryz.prog fn_slices_pdqsortOrdered_string #[.slice data0p data0l data0c, .int .i64 (w64 (r99_0 + (1 : Int))), .int .i64 b2, .int .i64 limit3_1] w10 [] fun (w12 : World) =>
  ∃ m' : Nat, m' < m ∧ I_1 a1 r99_0 limit3_1 (decide ((w64 (b2 - r99_0)) ≥ (w64 (Int.tdiv (w64 (b2 - a1)) (8 : Int))))) r99_1 w12 m'))) fun J_87 =>
  condB (decide (a1 > (0 : Int))) (
  idxA data0p data0l (w64 (a1 - (1 : Int))) fun a79 =>
  ldStr w7.drew ((a79.add ((w64 (a1 - (1 : Int))).toNat * 1))) fun x80 =>
  idxA data0p data0l pivot11 fun a83 =>
  ldStr w7.drew ((a83.add (pivot11.toNat * 1))) fun x84 =>
  callJ Tryz.prog fn_cmp_Less_string #[.string x80, .string x84] w7.drew [.one .bool] fun (r85 : Bool) (w13 : World) =>
  J_87 (!r85) w13) (
  J_87 false w7.drew)) fun J_0 =>
  withJ (fun (x68 : Bool) (w14 : World) =>
  condB x68 (
  callJ Tryz.prog fn_slices_partialInsertionSortOrdered_string #[.slice data0p data0l data0c, .int .i64 a1, .int .i64 b2] w14 [.one .bool] fun (r72 : Bool) (w15 : World) =>
  condB r72 (
  J w15) (
  J_0 w15)) (
  J_0 w14)) fun J_68 =>
  condB wasBalanced8 (
  condB wasPartitioned9 (
  J_68 (hint12 == (1 : Int)) w6) (
  J_68 false w6)) (
  J_68 false w6)) fun J_11 =>
  condB (r46_1 == (2 : Int)) (
  callJ Tryz.prog fn_slices_reverseRangeOrdered_string #[.slice data0p data0l data0c, .int .i64 a1, .int .i64 b2] w5 [] fun (w16 : World) =>
  J_11 (w64 ((w64 (b2 - (1 : Int))) - (w64 (r46_0 - a1)))) (1 : Int) w16) (
  J_11 r46_0 r46_1 w5)) fun J_3 =>
  condB (!wasBalanced8) (
  callJ Tryz.prog fn_slices_breakPatternsOrdered_string #[.slice data0p data0l data0c, .int .i64 a1, .int .i64 b2] w1 [] fun (w17 : World) =>
  J_3 (w64 (limit3 - (1 : Int))) w17) (
  J_3 limit3 w1))))
def ann_slices_pdqsortOrdered_string : Ann := .s (.o) (.s (.o) (.b (.l [(1, .int .i64), (2, .int .i64), (3, .int .i64), (8, .bool), (9, .bool)] (.b (.s (.o) (.s (.s (.o) (.c (.s (.o) (.o)) (.o))) (.s (.s (.o) (.c (.s (.o) (.o)) (.o))) (.j [(3, .int .i64)] (.s (.o) (.c (.s (.o) (.o)) (.o))) (.s (.o) (.j [(11, .int .i64), (12, .int .i64)] (.s (.o) (.c (.s (.o) (.s (.o) (.o))) (.o))) (.j [] (.j [(68, .bool)] (.o) (.c (.s (.o) (.c (.o) (.o))) (.o))) (.s (.j [(87, .bool)] (.d (.take 0 (.take 1 (.take 2 (.take 3 (.take 4 (.take 5 (.take 6 (.take 7 (.take 8 (.take 9 (.take 10 (.take 11 (.eff 12 (.take 13 (.take 14 (.done))) (.none))))))))))))))) (.c (.s (.o) (.s (.o) (.o))) (.o))) (.s (.o) (.s (.o) (.s (.o) (.s (.o) (.s (.o) (.c (.s (.o) (.s (.o) (.o))) (.s (.o) (.s (.o) (.o)))))))))))))))))))))
theorem eq_slices_pdqsortOrdered_string (data0p : Option Addr) (data0l : Nat) (data0c : Nat) (a1 : Int) (b2 : Int) (limit3 : Int) (w : World) (J : World → Prop) : vcFun Tryz.prog Tryz.f72 ann_slices_pdqsortOrdered_string [] [.slice data0p data0l data0c, .int .i64 a1, .int .i64 b2, .int .i64 limit3] w J = VC_slices_pdqsortOrdered_string data0p data0l data0c a1 b2 limit3 w J := by kernel_rfl
theorem c_slices_pdqsortOrdered_string {data0p : Option Addr} {data0l : Nat} {data0c : Nat} {a1 : Int} {b2 : Int} {limit3 : Int} {w : World} {J : World → Prop} (h : VC_slices_pdqsortOrdered_string data0p data0l data0c a1 b2 limit3 w J) : callJ Tryz.prog fn_slices_pdqsortOrdered_string #[.slice data0p data0l data0c, .int .i64 a1, .int .i64 b2, .int .i64 limit3] w [] J := vc_calls Tryz.func72 ann_slices_pdqsortOrdered_string (Eq.mpr (eq_slices_pdqsortOrdered_string data0p data0l data0c a1 b2 limit3 w J) h)

/-- math/bits.Len -/
def VC_math_bits_Len (x0 : Int) (w : World) (J : Int → World → Prop) : Prop :=
  callJ Tryz.prog fn_math_bits_Len64 #[.int .u64 x0] w [.one (.int .i64)] fun (r7 : Int) (w1 : World) =>
  J r7 w1
def ann_math_bits_Len : Ann := .s (.o) (.s (.c .u (.o)) (.s (.o) (.o)))
theorem eq_math_bits_Len (x0 : Int) (w : World) (J : Int → World → Prop) : vcFun Tryz.prog Tryz.f73 ann_math_bits_Len [.one (.int .i64)] [.int .u64 x0] w J = VC_math_bits_Len x0 w J := by kernel_rfl
theorem c_math_bits_Len {x0 : Int} {w : World} {J : Int → World → Prop} (h : VC_math_bits_Len x0 w J) : callJ Tryz.prog fn_math_bits_Len #[.int .u64 x0] w [.one (.int .i64)] J := vc_calls Tryz.func73 ann_math_bits_Len (Eq.mpr (eq_math_bits_Len x0 w J) h)

/-- math/bits.Len64 -/
def VC_math_bits_Len64 (x0 : Int) (w : World) (J : Int → World → Prop) : Prop :=
  withJ (fun (x0 : Int) (n2 : Int) (w1 : World) =>
  withJ (fun (x0_1 : Int) (n2_1 : Int) (w2 : World) =>
  withJ (fun (x0_2 : Int) (n2_2 : Int) (w3 : World) =>
  idxStr ⟨#[0, 1, 2, 2, 3, 3, 3, 3, 4, 4, 4, 4, 4, 4, 4, 4, 5, 5, 5, 5, 5, 5, 5, 5, 5, 5, 5, 5, 5, 5, 5, 5, 6, 6, 6, 6, 6, 6, 6, 6, 6, 6, 6, 6, 6, 6, 6, 6, 6, 6, 6, 6, 6, 6, 6, 6, 6, 6, 6, 6, 6, 6, 6, 6, 7, 7, 7, 7, 7, 7, 7, 7, 7, 7, 7, 7, 7, 7, 7, 7, 7, 7, 7, 7, 7, 7, 7, 7, 7, 7, 7, 7, 7, 7, 7, 7, 7, 7, 7, 7, 7, 7, 7, 7, 7, 7, 7, 7, 7, 7, 7, 7, 7, 7, 7, 7, 7, 7, 7, 7, 7, 7, 7, 7, 7, 7, 7, 7, 8, 8, 8, 8, 8, 8, 8, 8, 8, 8, 8, 8, 8, 8, 8, 8, 8, 8, 8, 8, 8, 8, 8, 8, 8, 8, 8, 8, 8, 8, 8, 8, 8, 8, 8, 8, 8, 8, 8, 8, 8, 8, 8, 8, 8, 8, 8, 8, 8, 8, 8, 8, 8, 8, 8, 8, 8, 8, 8, 8, 8, 8, 8, 8, 8, 8, 8, 8, 8, 8, 8, 8, 8, 8, 8, 8, 8, 8, 8, 8, 8, 8, 8, 8, 8, 8, 8, 8, 8, 8, 8, 8, 8, 8, 8, 8, 8, 8, 8, 8, 8, 8, 8, 8, 8, 8, 8, 8, 8, 8, 8, 8, 8, 8, 8, 8, 8, 8, 8, 8, 8, 8, 8, 8, 8, 8, 8, 8]⟩ (IntKind.u8.wrap x0_2) fun x22 =>
  J (w64 (n2_2 + (w64 x22))) w3) fun J_0_2 =>
  condB (decide (x0_1 ≥ (256 : Int))) (
  0 ≤ (8 : Int) ∧
  J_0_2 (shrI .u64 x0_1 (8 : Int)) (w64 (n2_1 + (8 : Int))) w2) (
  J_0_2 x0_1 n2_1 w2)) fun J_0_1 =>
  condB (decide (x0 ≥ (65536 : Int))) (
  0 ≤ (16 : Int) ∧
  J_0_1 (shrI .u64 x0 (16 : Int)) (w64 (n2 + (16 : Int))) w1) (
  J_0_1 x0 n2 w1)) fun J_0 =>
  condB (decide (x0 ≥ (4294967296 : Int))) (
  0 ≤ (32 : Int) ∧
  J_0 (shrI .u64 x0 (32 : Int)) (32 : Int) w) (
  J_0 x0 (0 : Int) w)
def ann_math_bits_Len64 : Ann := .s (.o) (.j [(0, .int .u64), (2, .int .i64)] (.s (.o) (.c (.s (.o) (.o)) (.o))) (.j [(0, .int .u64), (2, .int .i64)] (.s (.o) (.c (.s (.o) (.o)) (.o))) (.j [(0, .int .u64), (2, .int .i64)] (.s (.o) (.c (.s (.o) (.o)) (.o))) (.s (.o) (.o)))))
theorem eq_math_bits_Len64 (x0 : Int) (w : World) (J : Int → World → Prop) : vcFun Tryz.prog Tryz.f103 ann_math_bits_Len64 [.one (.int .i64)] [.int .u64 x0] w J = VC_math_bits_Len64 x0 w J := by kernel_rfl
theorem c_math_bits_Len64 {x0 : Int} {w : World} {J : Int → World → Prop} (h : VC_math_bits_Len64 x0 w J) : callJ Tryz.prog fn_math_bits_Len64 #[.int .u64 x0] w [.one (.int .i64)] J := vc_calls Tryz.func103 ann_math_bits_Len64 (Eq.mpr (eq_math_bits_Len64 x0 w J) h)

end Go.Proofs.YtmmfookfpdcohaaGreatDoor
