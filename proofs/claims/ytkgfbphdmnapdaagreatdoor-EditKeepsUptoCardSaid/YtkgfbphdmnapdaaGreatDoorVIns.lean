/- What the conditions of these functions are, reckoned by the reading; printed by program. -/
import Derived.Test.YtkgfbphdmnapdaaGreatDoorNm
import Derived.KernelRfl
set_option maxRecDepth 100000
set_option linter.unusedVariables false
namespace Go.Proofs.YtkgfbphdmnapdaaGreatDoor
open Go Go.Vc

/-- slices.Insert[[]lectern/api.Node,lectern/api.Node] -/
def VC_slices_Insert_sl_api_Node_api_Node (s0p : Option Addr) (s0l : Nat) (s0c : Nat) (i1 : Int) (v2p : Option Addr) (v2l : Nat) (v2c : Nat) (w : World) (J : Option Addr → Nat → Nat → World → Prop) : Prop :=
  slS s0p s0l s0c 6 (some i1) none none fun q12p q12l q12c =>
  condB (((v2l : Nat) : Int) == (0 : Int)) (
  J s0p s0l s0c w) (
  condB (i1 == ((s0l : Nat) : Int)) (
  appJ Tryz.prog T_sl_api_Node T_sl_api_Node (.slice s0p s0l s0c) (.slice v2p v2l v2c) w fun q25p q25l q25c w1 =>
  J q25p q25l q25c w1) (
  condB (decide ((w64 (((s0l : Nat) : Int) + ((v2l : Nat) : Int))) > ((s0c : Nat) : Int))) (
  slS s0p s0l s0c 6 none (some i1) none fun q34p q34l q34c =>
  appJ Tryz.prog T_sl_api_Node T_int (.slice q34p q34l q34c) (.int .i64 (w64 ((w64 (((s0l : Nat) : Int) + ((v2l : Nat) : Int))) - i1))) w fun q40p q40l q40c w2 =>
  slS q40p q40l q40c 6 (some i1) none none fun q43p q43l q43c =>
  cpyJ Tryz.prog T_sl_api_Node T_sl_api_Node (.slice q43p q43l q43c) (.slice v2p v2l v2c) w2 fun x45 w3 =>
  slS q40p q40l q40c 6 (some (w64 (i1 + ((v2l : Nat) : Int)))) none none fun q50p q50l q50c =>
  slS s0p s0l s0c 6 (some i1) none none fun q53p q53l q53c =>
  cpyJ Tryz.prog T_sl_api_Node T_sl_api_Node (.slice q50p q50l q50c) (.slice q53p q53l q53c) w3.drew fun x54 w4 =>
  J q40p q40l q40c w4) (
  slS s0p s0l s0c 6 none (some (w64 (((s0l : Nat) : Int) + ((v2l : Nat) : Int)))) none fun q60p q60l q60c =>
  slS q60p q60l q60c 6 (some (w64 (i1 + ((v2l : Nat) : Int)))) none none fun q66p q66l q66c =>
  extJ Tryz.prog fn_slices_overlaps_api_Node #[.slice v2p v2l v2c, .slice q66p q66l q66c] w [.one .bool] fun (r67 : Bool) (w5 : World) =>
  condB (!r67) (
  slS q60p q60l q60c 6 (some (w64 (i1 + ((v2l : Nat) : Int)))) none none fun q73p q73l q73c =>
  slS q60p q60l q60c 6 (some i1) none none fun q76p q76l q76c =>
  cpyJ Tryz.prog T_sl_api_Node T_sl_api_Node (.slice q73p q73l q73c) (.slice q76p q76l q76c) w5.drew fun x77 w6 =>
  slS q60p q60l q60c 6 (some i1) none none fun q80p q80l q80c =>
  cpyJ Tryz.prog T_sl_api_Node T_sl_api_Node (.slice q80p q80l q80c) (.slice v2p v2l v2c) w6 fun x82 w7 =>
  J q60p q60l q60c w7) (
  slS q60p q60l q60c 6 (some ((s0l : Nat) : Int)) none none fun q86p q86l q86c =>
  cpyJ Tryz.prog T_sl_api_Node T_sl_api_Node (.slice q86p q86l q86c) (.slice v2p v2l v2c) w5 fun x88 w8 =>
  slS q60p q60l q60c 6 (some i1) none none fun q91p q91l q91c =>
  callJ Tryz.prog fn_slices_rotateRight_api_Node #[.slice q91p q91l q91c, .int .i64 ((v2l : Nat) : Int)] w8 [] fun (w9 : World) =>
  J q60p q60l q60c w9))))
def ann_slices_Insert_sl_api_Node_api_Node : Ann := .s (.o) (.s (.o) (.s (.o) (.s (.s (.o) (.c (.s (.o) (.o)) (.o))) (.s (.o) (.s (.s (.o) (.c (.s (.o) (.o)) (.o))) (.s (.s (.o) (.c (.s (.o) (.s (.o) (.s (.d (.take 0 (.take 1 (.take 2 (.take 3 (.take 4 (.take 5 (.take 6 (.take 7 (.eff 8 (.done) (.none))))))))))) (.s (.o) (.o))))) (.o))) (.s (.o) (.s (.s (.o) (.c (.s (.d (.take 0 (.take 1 (.take 2 (.take 3 (.take 4 (.take 5 (.take 6 (.take 7 (.eff 8 (.done) (.none))))))))))) (.s (.o) (.s (.o) (.o)))) (.o))) (.s (.o) (.s (.o) (.s (.o) (.o))))))))))))
theorem eq_slices_Insert_sl_api_Node_api_Node (s0p : Option Addr) (s0l : Nat) (s0c : Nat) (i1 : Int) (v2p : Option Addr) (v2l : Nat) (v2c : Nat) (w : World) (J : Option Addr → Nat → Nat → World → Prop) : vcFun Tryz.prog Tryz.f37 ann_slices_Insert_sl_api_Node_api_Node [.one .slice] [.slice s0p s0l s0c, .int .i64 i1, .slice v2p v2l v2c] w J = VC_slices_Insert_sl_api_Node_api_Node s0p s0l s0c i1 v2p v2l v2c w J := by kernel_rfl
theorem c_slices_Insert_sl_api_Node_api_Node {s0p : Option Addr} {s0l : Nat} {s0c : Nat} {i1 : Int} {v2p : Option Addr} {v2l : Nat} {v2c : Nat} {w : World} {J : Option Addr → Nat → Nat → World → Prop} (h : VC_slices_Insert_sl_api_Node_api_Node s0p s0l s0c i1 v2p v2l v2c w J) : callJ Tryz.prog fn_slices_Insert_sl_api_Node_api_Node #[.slice s0p s0l s0c, .int .i64 i1, .slice v2p v2l v2c] w [.one .slice] J := vc_calls Tryz.func37 ann_slices_Insert_sl_api_Node_api_Node (Eq.mpr (eq_slices_Insert_sl_api_Node_api_Node s0p s0l s0c i1 v2p v2l v2c w J) h)

/-- slices.Delete[[]lectern/api.Node,lectern/api.Node] -/
def VC_slices_Delete_sl_api_Node_api_Node (s0p : Option Addr) (s0l : Nat) (s0c : Nat) (i1 : Int) (j2 : Int) (w : World) (J : Option Addr → Nat → Nat → World → Prop) : Prop :=
  slS s0p s0l s0c 6 (some i1) (some j2) (some ((s0l : Nat) : Int)) fun q13p q13l q13c =>
  condB (i1 == j2) (
  J s0p s0l s0c w) (
  slS s0p s0l s0c 6 none (some i1) none fun q22p q22l q22c =>
  slS s0p s0l s0c 6 (some j2) none none fun q25p q25l q25c =>
  appJ Tryz.prog T_sl_api_Node T_sl_api_Node (.slice q22p q22l q22c) (.slice q25p q25l q25c) w.drew fun q26p q26l q26c w1 =>
  slS q26p q26l q26c 6 (some ((q26l : Nat) : Int)) (some ((s0l : Nat) : Int)) none fun q31p q31l q31c =>
  clrJ Tryz.prog T_sl_api_Node (.slice q31p q31l q31c) w1 fun w2 =>
  J q26p q26l q26c w2)
def ann_slices_Delete_sl_api_Node_api_Node : Ann := .s (.o) (.s (.o) (.s (.s (.o) (.c (.s (.o) (.o)) (.o))) (.s (.o) (.s (.d (.take 0 (.take 1 (.take 2 (.take 3 (.take 4 (.take 5 (.eff 6 (.take 7 (.done)) (.none))))))))) (.s (.o) (.s (.o) (.o)))))))
theorem eq_slices_Delete_sl_api_Node_api_Node (s0p : Option Addr) (s0l : Nat) (s0c : Nat) (i1 : Int) (j2 : Int) (w : World) (J : Option Addr → Nat → Nat → World → Prop) : vcFun Tryz.prog Tryz.f38 ann_slices_Delete_sl_api_Node_api_Node [.one .slice] [.slice s0p s0l s0c, .int .i64 i1, .int .i64 j2] w J = VC_slices_Delete_sl_api_Node_api_Node s0p s0l s0c i1 j2 w J := by kernel_rfl
theorem c_slices_Delete_sl_api_Node_api_Node {s0p : Option Addr} {s0l : Nat} {s0c : Nat} {i1 : Int} {j2 : Int} {w : World} {J : Option Addr → Nat → Nat → World → Prop} (h : VC_slices_Delete_sl_api_Node_api_Node s0p s0l s0c i1 j2 w J) : callJ Tryz.prog fn_slices_Delete_sl_api_Node_api_Node #[.slice s0p s0l s0c, .int .i64 i1, .int .i64 j2] w [.one .slice] J := vc_calls Tryz.func38 ann_slices_Delete_sl_api_Node_api_Node (Eq.mpr (eq_slices_Delete_sl_api_Node_api_Node s0p s0l s0c i1 j2 w J) h)

/-- slices.Insert[[]lectern/api.Attr,lectern/api.Attr] -/
def VC_slices_Insert_sl_api_Attr_api_Attr (s0p : Option Addr) (s0l : Nat) (s0c : Nat) (i1 : Int) (v2p : Option Addr) (v2l : Nat) (v2c : Nat) (w : World) (J : Option Addr → Nat → Nat → World → Prop) : Prop :=
  slS s0p s0l s0c 3 (some i1) none none fun q12p q12l q12c =>
  condB (((v2l : Nat) : Int) == (0 : Int)) (
  J s0p s0l s0c w) (
  condB (i1 == ((s0l : Nat) : Int)) (
  appJ Tryz.prog T_sl_api_Attr T_sl_api_Attr (.slice s0p s0l s0c) (.slice v2p v2l v2c) w fun q25p q25l q25c w1 =>
  J q25p q25l q25c w1) (
  condB (decide ((w64 (((s0l : Nat) : Int) + ((v2l : Nat) : Int))) > ((s0c : Nat) : Int))) (
  slS s0p s0l s0c 3 none (some i1) none fun q34p q34l q34c =>
  appJ Tryz.prog T_sl_api_Attr T_int (.slice q34p q34l q34c) (.int .i64 (w64 ((w64 (((s0l : Nat) : Int) + ((v2l : Nat) : Int))) - i1))) w fun q40p q40l q40c w2 =>
  slS q40p q40l q40c 3 (some i1) none none fun q43p q43l q43c =>
  cpyJ Tryz.prog T_sl_api_Attr T_sl_api_Attr (.slice q43p q43l q43c) (.slice v2p v2l v2c) w2 fun x45 w3 =>
  slS q40p q40l q40c 3 (some (w64 (i1 + ((v2l : Nat) : Int)))) none none fun q50p q50l q50c =>
  slS s0p s0l s0c 3 (some i1) none none fun q53p q53l q53c =>
  cpyJ Tryz.prog T_sl_api_Attr T_sl_api_Attr (.slice q50p q50l q50c) (.slice q53p q53l q53c) w3.drew fun x54 w4 =>
  J q40p q40l q40c w4) (
  slS s0p s0l s0c 3 none (some (w64 (((s0l : Nat) : Int) + ((v2l : Nat) : Int)))) none fun q60p q60l q60c =>
  slS q60p q60l q60c 3 (some (w64 (i1 + ((v2l : Nat) : Int)))) none none fun q66p q66l q66c =>
  extJ Tryz.prog fn_slices_overlaps_api_Attr #[.slice v2p v2l v2c, .slice q66p q66l q66c] w [.one .bool] fun (r67 : Bool) (w5 : World) =>
  condB (!r67) (
  slS q60p q60l q60c 3 (some (w64 (i1 + ((v2l : Nat) : Int)))) none none fun q73p q73l q73c =>
  slS q60p q60l q60c 3 (some i1) none none fun q76p q76l q76c =>
  cpyJ Tryz.prog T_sl_api_Attr T_sl_api_Attr (.slice q73p q73l q73c) (.slice q76p q76l q76c) w5.drew fun x77 w6 =>
  slS q60p q60l q60c 3 (some i1) none none fun q80p q80l q80c =>
  cpyJ Tryz.prog T_sl_api_Attr T_sl_api_Attr (.slice q80p q80l q80c) (.slice v2p v2l v2c) w6 fun x82 w7 =>
  J q60p q60l q60c w7) (
  slS q60p q60l q60c 3 (some ((s0l : Nat) : Int)) none none fun q86p q86l q86c =>
  cpyJ Tryz.prog T_sl_api_Attr T_sl_api_Attr (.slice q86p q86l q86c) (.slice v2p v2l v2c) w5 fun x88 w8 =>
  slS q60p q60l q60c 3 (some i1) none none fun q91p q91l q91c =>
  callJ Tryz.prog fn_slices_rotateRight_api_Attr #[.slice q91p q91l q91c, .int .i64 ((v2l : Nat) : Int)] w8 [] fun (w9 : World) =>
  J q60p q60l q60c w9))))
def ann_slices_Insert_sl_api_Attr_api_Attr : Ann := .s (.o) (.s (.o) (.s (.o) (.s (.s (.o) (.c (.s (.o) (.o)) (.o))) (.s (.o) (.s (.s (.o) (.c (.s (.o) (.o)) (.o))) (.s (.s (.o) (.c (.s (.o) (.s (.o) (.s (.d (.take 0 (.take 1 (.take 2 (.take 3 (.take 4 (.take 5 (.take 6 (.take 7 (.eff 8 (.done) (.none))))))))))) (.s (.o) (.o))))) (.o))) (.s (.o) (.s (.s (.o) (.c (.s (.d (.take 0 (.take 1 (.take 2 (.take 3 (.take 4 (.take 5 (.take 6 (.take 7 (.eff 8 (.done) (.none))))))))))) (.s (.o) (.s (.o) (.o)))) (.o))) (.s (.o) (.s (.o) (.s (.o) (.o))))))))))))
theorem eq_slices_Insert_sl_api_Attr_api_Attr (s0p : Option Addr) (s0l : Nat) (s0c : Nat) (i1 : Int) (v2p : Option Addr) (v2l : Nat) (v2c : Nat) (w : World) (J : Option Addr → Nat → Nat → World → Prop) : vcFun Tryz.prog Tryz.f70 ann_slices_Insert_sl_api_Attr_api_Attr [.one .slice] [.slice s0p s0l s0c, .int .i64 i1, .slice v2p v2l v2c] w J = VC_slices_Insert_sl_api_Attr_api_Attr s0p s0l s0c i1 v2p v2l v2c w J := by kernel_rfl
theorem c_slices_Insert_sl_api_Attr_api_Attr {s0p : Option Addr} {s0l : Nat} {s0c : Nat} {i1 : Int} {v2p : Option Addr} {v2l : Nat} {v2c : Nat} {w : World} {J : Option Addr → Nat → Nat → World → Prop} (h : VC_slices_Insert_sl_api_Attr_api_Attr s0p s0l s0c i1 v2p v2l v2c w J) : callJ Tryz.prog fn_slices_Insert_sl_api_Attr_api_Attr #[.slice s0p s0l s0c, .int .i64 i1, .slice v2p v2l v2c] w [.one .slice] J := vc_calls Tryz.func70 ann_slices_Insert_sl_api_Attr_api_Attr (Eq.mpr (eq_slices_Insert_sl_api_Attr_api_Attr s0p s0l s0c i1 v2p v2l v2c w J) h)

/-- slices.Delete[[]lectern/api.Attr,lectern/api.Attr] -/
def VC_slices_Delete_sl_api_Attr_api_Attr (s0p : Option Addr) (s0l : Nat) (s0c : Nat) (i1 : Int) (j2 : Int) (w : World) (J : Option Addr → Nat → Nat → World → Prop) : Prop :=
  slS s0p s0l s0c 3 (some i1) (some j2) (some ((s0l : Nat) : Int)) fun q13p q13l q13c =>
  condB (i1 == j2) (
  J s0p s0l s0c w) (
  slS s0p s0l s0c 3 none (some i1) none fun q22p q22l q22c =>
  slS s0p s0l s0c 3 (some j2) none none fun q25p q25l q25c =>
  appJ Tryz.prog T_sl_api_Attr T_sl_api_Attr (.slice q22p q22l q22c) (.slice q25p q25l q25c) w.drew fun q26p q26l q26c w1 =>
  slS q26p q26l q26c 3 (some ((q26l : Nat) : Int)) (some ((s0l : Nat) : Int)) none fun q31p q31l q31c =>
  clrJ Tryz.prog T_sl_api_Attr (.slice q31p q31l q31c) w1 fun w2 =>
  J q26p q26l q26c w2)
def ann_slices_Delete_sl_api_Attr_api_Attr : Ann := .s (.o) (.s (.o) (.s (.s (.o) (.c (.s (.o) (.o)) (.o))) (.s (.o) (.s (.d (.take 0 (.take 1 (.take 2 (.take 3 (.take 4 (.take 5 (.eff 6 (.take 7 (.done)) (.none))))))))) (.s (.o) (.s (.o) (.o)))))))
theorem eq_slices_Delete_sl_api_Attr_api_Attr (s0p : Option Addr) (s0l : Nat) (s0c : Nat) (i1 : Int) (j2 : Int) (w : World) (J : Option Addr → Nat → Nat → World → Prop) : vcFun Tryz.prog Tryz.f71 ann_slices_Delete_sl_api_Attr_api_Attr [.one .slice] [.slice s0p s0l s0c, .int .i64 i1, .int .i64 j2] w J = VC_slices_Delete_sl_api_Attr_api_Attr s0p s0l s0c i1 j2 w J := by kernel_rfl
theorem c_slices_Delete_sl_api_Attr_api_Attr {s0p : Option Addr} {s0l : Nat} {s0c : Nat} {i1 : Int} {j2 : Int} {w : World} {J : Option Addr → Nat → Nat → World → Prop} (h : VC_slices_Delete_sl_api_Attr_api_Attr s0p s0l s0c i1 j2 w J) : callJ Tryz.prog fn_slices_Delete_sl_api_Attr_api_Attr #[.slice s0p s0l s0c, .int .i64 i1, .int .i64 j2] w [.one .slice] J := vc_calls Tryz.func71 ann_slices_Delete_sl_api_Attr_api_Attr (Eq.mpr (eq_slices_Delete_sl_api_Attr_api_Attr s0p s0l s0c i1 j2 w J) h)

/-- slices.BinarySearchFunc[[]lectern/api.Attr,lectern/api.Attr,lectern/api.Name] -/
def VC_slices_BinarySearchFunc_sl_api_Attr_api_Attr_api_Name_f2_69 (x0p : Option Addr) (x0l : Nat) (x0c : Nat) (target1_0 : ByteArray) (target1_1 : ByteArray) (w : World) (J : Int → Bool → World → Prop) : Prop :=
  newB w (.cells ⟨[.string target1_0, .string target1_1]⟩ T_api_Name) fun b4 w1 =>
  ∃ I_9 : Int → Int → World → Nat → Prop, (∃ m : Nat, I_9 (0 : Int) ((x0l : Nat) : Int) w1 m) ∧ ∀ (i9 : Int) (j10 : Int) (w2 : World) (m : Nat), I_9 i9 j10 w2 m → (
  condB (decide (i9 < j10)) (
  0 ≤ (1 : Int) ∧
  idxA x0p x0l (w64 (shrI .u64 (IntKind.u64.wrap (w64 (i9 + j10))) (1 : Int))) fun a27 =>
  ldStr w2.drew ((a27.add ((w64 (shrI .u64 (IntKind.u64.wrap (w64 (i9 + j10))) (1 : Int))).toNat * 3))) fun x28_0 =>
  ldStr w2.drew (((a27.add ((w64 (shrI .u64 (IntKind.u64.wrap (w64 (i9 + j10))) (1 : Int))).toNat * 3)).add 1)) fun x28_1 =>
  ldStr w2.drew (((a27.add ((w64 (shrI .u64 (IntKind.u64.wrap (w64 (i9 + j10))) (1 : Int))).toNat * 3)).add 2)) fun x28_2 =>
  ldStr w2.drew ⟨b4, 0, none⟩ fun x29_0 =>
  ldStr w2.drew ⟨b4, 1, none⟩ fun x29_1 =>
  callJ Tryz.prog fn_edit_attr_1 #[.agg ⟨[.string x28_0, .string x28_1, .string x28_2]⟩, .agg ⟨[.string x29_0, .string x29_1]⟩] w2.drew [.one (.int .i64)] fun (r30 : Int) (w3 : World) =>
  condB (decide (r30 < (0 : Int))) (
  ∃ m' : Nat, m' < m ∧ I_9 (w64 ((w64 (shrI .u64 (IntKind.u64.wrap (w64 (i9 + j10))) (1 : Int))) + (1 : Int))) j10 w3 m') (
  ∃ m' : Nat, m' < m ∧ I_9 i9 (w64 (shrI .u64 (IntKind.u64.wrap (w64 (i9 + j10))) (1 : Int))) w3 m')) (
  withJ (fun (x6 : Int) (x7 : Bool) (w4 : World) =>
  J x6 x7 w4) fun J_6 =>
  condB (decide (i9 < ((x0l : Nat) : Int))) (
  idxA x0p x0l i9 fun a43 =>
  ldStr w2.drew ((a43.add (i9.toNat * 3))) fun x44_0 =>
  ldStr w2.drew (((a43.add (i9.toNat * 3)).add 1)) fun x44_1 =>
  ldStr w2.drew (((a43.add (i9.toNat * 3)).add 2)) fun x44_2 =>
  ldStr w2.drew ⟨b4, 0, none⟩ fun x45_0 =>
  ldStr w2.drew ⟨b4, 1, none⟩ fun x45_1 =>
  callJ Tryz.prog fn_edit_attr_1 #[.agg ⟨[.string x44_0, .string x44_1, .string x44_2]⟩, .agg ⟨[.string x45_0, .string x45_1]⟩] w2.drew [.one (.int .i64)] fun (r46 : Int) (w5 : World) =>
  J_6 i9 (r46 == (0 : Int)) w5) (
  J_6 i9 false w2.drew)))
def ann_slices_BinarySearchFunc_sl_api_Attr_api_Attr_api_Name_f2_69 : Ann := .s (.o) (.s (.o) (.s (.o) (.s (.b (.l [(9, .int .i64), (10, .int .i64)] (.s (.s (.o) (.c (.o) (.o))) (.b (.s (.o) (.s (.d (.take 0 (.take 1 (.take 2 (.take 3 (.take 4 (.take 5 (.eff 6 (.take 7 (.done)) (.none))))))))) (.c (.o) (.o)))))))) (.j [(6, .int .i64), (7, .bool)] (.d (.take 0 (.take 1 (.take 2 (.take 3 (.take 4 (.take 5 (.take 6 (.take 7 (.take 8 (.take 9 (.take 10 (.eff 11 (.take 12 (.take 13 (.take 14 (.take 15 (.done))))) (.none)))))))))))))) (.o)))))
theorem eq_slices_BinarySearchFunc_sl_api_Attr_api_Attr_api_Name_f2_69 (x0p : Option Addr) (x0l : Nat) (x0c : Nat) (target1_0 : ByteArray) (target1_1 : ByteArray) (w : World) (J : Int → Bool → World → Prop) : vcFun Tryz.prog Tryz.f68 ann_slices_BinarySearchFunc_sl_api_Attr_api_Attr_api_Name_f2_69 [.one (.int .i64), .one .bool] [.slice x0p x0l x0c, .agg ⟨[.string target1_0, .string target1_1]⟩, .func (.func 69) #[] #[]] w J = VC_slices_BinarySearchFunc_sl_api_Attr_api_Attr_api_Name_f2_69 x0p x0l x0c target1_0 target1_1 w J := by kernel_rfl
theorem c_slices_BinarySearchFunc_sl_api_Attr_api_Attr_api_Name_f2_69 {x0p : Option Addr} {x0l : Nat} {x0c : Nat} {target1_0 : ByteArray} {target1_1 : ByteArray} {w : World} {J : Int → Bool → World → Prop} (h : VC_slices_BinarySearchFunc_sl_api_Attr_api_Attr_api_Name_f2_69 x0p x0l x0c target1_0 target1_1 w J) : callJ Tryz.prog fn_slices_BinarySearchFunc_sl_api_Attr_api_Attr_api_Name #[.slice x0p x0l x0c, .agg ⟨[.string target1_0, .string target1_1]⟩, .func (.func 69) #[] #[]] w [.one (.int .i64), .one .bool] J := vc_calls Tryz.func68 ann_slices_BinarySearchFunc_sl_api_Attr_api_Attr_api_Name_f2_69 (Eq.mpr (eq_slices_BinarySearchFunc_sl_api_Attr_api_Attr_api_Name_f2_69 x0p x0l x0c target1_0 target1_1 w J) h)

/-- lectern/edit.attr$1 -/
def VC_edit_attr_1 (a0_0 : ByteArray) (a0_1 : ByteArray) (a0_2 : ByteArray) (m1_0 : ByteArray) (m1_1 : ByteArray) (w : World) (J : Int → World → Prop) : Prop :=
  newB w (.cells ⟨[.string a0_0, .string a0_1, .string a0_2]⟩ T_api_Attr) fun b2 w1 =>
  newB w1 (.cells ⟨[.string m1_0, .string m1_1]⟩ T_api_Name) fun b3 w2 =>
  ldStr w2 ⟨b2, 0, none⟩ fun x6_0 =>
  ldStr w2 ⟨b2, 1, none⟩ fun x6_1 =>
  ldStr w2 ⟨b3, 0, none⟩ fun x7_0 =>
  ldStr w2 ⟨b3, 1, none⟩ fun x7_1 =>
  callJ Tryz.prog fn_tree_Order #[.agg ⟨[.string x6_0, .string x6_1]⟩, .agg ⟨[.string x7_0, .string x7_1]⟩] w2 [.one (.int .i64)] fun (r8 : Int) (w3 : World) =>
  J r8 w3
def ann_edit_attr_1 : Ann := .s (.o) (.s (.o) (.o))
theorem eq_edit_attr_1 (a0_0 : ByteArray) (a0_1 : ByteArray) (a0_2 : ByteArray) (m1_0 : ByteArray) (m1_1 : ByteArray) (w : World) (J : Int → World → Prop) : vcFun Tryz.prog Tryz.f69 ann_edit_attr_1 [.one (.int .i64)] [.agg ⟨[.string a0_0, .string a0_1, .string a0_2]⟩, .agg ⟨[.string m1_0, .string m1_1]⟩] w J = VC_edit_attr_1 a0_0 a0_1 a0_2 m1_0 m1_1 w J := by kernel_rfl
theorem c_edit_attr_1 {a0_0 : ByteArray} {a0_1 : ByteArray} {a0_2 : ByteArray} {m1_0 : ByteArray} {m1_1 : ByteArray} {w : World} {J : Int → World → Prop} (h : VC_edit_attr_1 a0_0 a0_1 a0_2 m1_0 m1_1 w J) : callJ Tryz.prog fn_edit_attr_1 #[.agg ⟨[.string a0_0, .string a0_1, .string a0_2]⟩, .agg ⟨[.string m1_0, .string m1_1]⟩] w [.one (.int .i64)] J := vc_calls Tryz.func69 ann_edit_attr_1 (Eq.mpr (eq_edit_attr_1 a0_0 a0_1 a0_2 m1_0 m1_1 w J) h)

end Go.Proofs.YtkgfbphdmnapdaaGreatDoor
