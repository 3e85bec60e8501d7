/- What the conditions of these functions are, reckoned by the reading; printed by program. -/
import Derived.Test.YtkgfbphdmnapdaaDoorNm
import Derived.KernelRfl
set_option maxRecDepth 100000
set_option linter.unusedVariables false
namespace Go.Proofs.YtkgfbphdmnapdaaDoor
open Go Go.Vc

/-- lectern/lecternref05.Same -/
def VC_ref05_Same (a0_0 : Int) (a0_1 : ByteArray) (a0_2 : ByteArray) (a0_3p : Option Addr) (a0_3l : Nat) (a0_3c : Nat) (a0_4p : Option Addr) (a0_4l : Nat) (a0_4c : Nat) (a0_5 : ByteArray) (b1_0 : Int) (b1_1 : ByteArray) (b1_2 : ByteArray) (b1_3p : Option Addr) (b1_3l : Nat) (b1_3c : Nat) (b1_4p : Option Addr) (b1_4l : Nat) (b1_4c : Nat) (b1_5 : ByteArray) (w : World) (J : Bool → World → Prop) : Prop :=
  newB w (.cells ⟨[.int .i64 a0_0, .string a0_1, .string a0_2, .slice a0_3p a0_3l a0_3c, .slice a0_4p a0_4l a0_4c, .string a0_5]⟩ T_api_Node) fun b2 w1 =>
  newB w1 (.cells ⟨[.int .i64 b1_0, .string b1_1, .string b1_2, .slice b1_3p b1_3l b1_3c, .slice b1_4p b1_4l b1_4c, .string b1_5]⟩ T_api_Node) fun b3 w2 =>
  withJ (fun (x41 : Bool) (w3 : World) =>
  condB x41 (
  J false w3) (
  ldS w3 ⟨b2, 4, none⟩ fun x43p x43l x43c =>
  ∃ I_45 : Int → World → Nat → Prop, (∃ m : Nat, I_45 (0 : Int) w3 m) ∧ ∀ (x45 : Int) (w4 : World) (m : Nat), I_45 x45 w4 m → (
  condB (decide (x45 < ((x43l : Nat) : Int))) (
  ldS w4.drew ⟨b2, 4, none⟩ fun x49p x49l x49c =>
  idxA x49p x49l x45 fun a51 =>
  ldI .i64 w4.drew ((a51.add (x45.toNat * 6))) fun x52_0 =>
  ldStr w4.drew (((a51.add (x45.toNat * 6)).add 1)) fun x52_1 =>
  ldStr w4.drew (((a51.add (x45.toNat * 6)).add 2)) fun x52_2 =>
  ldS w4.drew (((a51.add (x45.toNat * 6)).add 3)) fun x52_3p x52_3l x52_3c =>
  ldS w4.drew (((a51.add (x45.toNat * 6)).add 4)) fun x52_4p x52_4l x52_4c =>
  ldStr w4.drew (((a51.add (x45.toNat * 6)).add 5)) fun x52_5 =>
  ldS w4.drew ⟨b3, 4, none⟩ fun x54p x54l x54c =>
  idxA x54p x54l x45 fun a56 =>
  ldI .i64 w4.drew ((a56.add (x45.toNat * 6))) fun x57_0 =>
  ldStr w4.drew (((a56.add (x45.toNat * 6)).add 1)) fun x57_1 =>
  ldStr w4.drew (((a56.add (x45.toNat * 6)).add 2)) fun x57_2 =>
  ldS w4.drew (((a56.add (x45.toNat * 6)).add 3)) fun x57_3p x57_3l x57_3c =>
  ldS w4.drew (((a56.add (x45.toNat * 6)).add 4)) fun x57_4p x57_4l x57_4c =>
  ldStr w4.drew (((a56.add (x45.toNat * 6)).add 5)) fun x57_5 =>
  callJ Tryd.prog fn_ref05_Same #[.agg ⟨[.int .i64 x52_0, .string x52_1, .string x52_2, .slice x52_3p x52_3l x52_3c, .slice x52_4p x52_4l x52_4c, .string x52_5]⟩, .agg ⟨[.int .i64 x57_0, .string x57_1, .string x57_2, .slice x57_3p x57_3l x57_3c, .slice x57_4p x57_4l x57_4c, .string x57_5]⟩] w4.drew [.one .bool] fun (r58 : Bool) (w5 : World) =>
  condB (!r58) (
  J false w5) (
  ∃ m' : Nat, m' < m ∧ I_45 (w64 (x45 + (1 : Int))) w5 m')) (
  J true w4)))) fun J_41 =>
  ldI .i64 w2 ⟨b2, 0, none⟩ fun x7 =>
  ldI .i64 w2 ⟨b3, 0, none⟩ fun x9 =>
  condB (x7 != x9) (
  J_41 true w2) (
  ldStr w2 ⟨b2, 1, none⟩ fun x13_0 =>
  ldStr w2 ⟨b2, 2, none⟩ fun x13_1 =>
  ldStr w2 ⟨b3, 1, none⟩ fun x15_0 =>
  ldStr w2 ⟨b3, 2, none⟩ fun x15_1 =>
  condB (!((x13_0.toList == x15_0.toList) && ((x13_1.toList == x15_1.toList) && true))) (
  J_41 true w2) (
  ldStr w2 ⟨b2, 5, none⟩ fun x20 =>
  ldStr w2 ⟨b3, 5, none⟩ fun x22 =>
  condB (!(x20.toList == x22.toList)) (
  J_41 true w2) (
  ldS w2 ⟨b2, 3, none⟩ fun x27p x27l x27c =>
  ldS w2 ⟨b3, 3, none⟩ fun x29p x29l x29c =>
  callJ Tryd.prog fn_ref04_SameAttrs #[.slice x27p x27l x27c, .slice x29p x29l x29c] w2 [.one .bool] fun (r30 : Bool) (w6 : World) =>
  condB (!r30) (
  J_41 true w6) (
  ldS w6 ⟨b2, 4, none⟩ fun x35p x35l x35c =>
  ldS w6 ⟨b3, 4, none⟩ fun x38p x38l x38c =>
  J_41 (((x35l : Nat) : Int) != ((x38l : Nat) : Int)) w6))))
def ann_ref05_Same : Ann := .s (.o) (.s (.j [(41, .bool)] (.o) (.c (.s (.o) (.o)) (.o))) (.s (.s (.o) (.b (.l [(45, .int .i64)] (.s (.o) (.s (.c (.o) (.o)) (.s (.b (.s (.o) (.s (.d (.take 0 (.take 1 (.take 2 (.take 3 (.take 4 (.take 5 (.take 6 (.take 7 (.take 8 (.take 9 (.eff 10 (.take 11 (.done)) (.none))))))))))))) (.c (.s (.o) (.o)) (.o))))) (.o))))))) (.s (.o) (.o))))
theorem eq_ref05_Same (a0_0 : Int) (a0_1 : ByteArray) (a0_2 : ByteArray) (a0_3p : Option Addr) (a0_3l : Nat) (a0_3c : Nat) (a0_4p : Option Addr) (a0_4l : Nat) (a0_4c : Nat) (a0_5 : ByteArray) (b1_0 : Int) (b1_1 : ByteArray) (b1_2 : ByteArray) (b1_3p : Option Addr) (b1_3l : Nat) (b1_3c : Nat) (b1_4p : Option Addr) (b1_4l : Nat) (b1_4c : Nat) (b1_5 : ByteArray) (w : World) (J : Bool → World → Prop) : vcFun Tryd.prog Tryd.f10 ann_ref05_Same [.one .bool] [.agg ⟨[.int .i64 a0_0, .string a0_1, .string a0_2, .slice a0_3p a0_3l a0_3c, .slice a0_4p a0_4l a0_4c, .string a0_5]⟩, .agg ⟨[.int .i64 b1_0, .string b1_1, .string b1_2, .slice b1_3p b1_3l b1_3c, .slice b1_4p b1_4l b1_4c, .string b1_5]⟩] w J = VC_ref05_Same a0_0 a0_1 a0_2 a0_3p a0_3l a0_3c a0_4p a0_4l a0_4c a0_5 b1_0 b1_1 b1_2 b1_3p b1_3l b1_3c b1_4p b1_4l b1_4c b1_5 w J := by kernel_rfl
theorem c_ref05_Same {a0_0 : Int} {a0_1 : ByteArray} {a0_2 : ByteArray} {a0_3p : Option Addr} {a0_3l : Nat} {a0_3c : Nat} {a0_4p : Option Addr} {a0_4l : Nat} {a0_4c : Nat} {a0_5 : ByteArray} {b1_0 : Int} {b1_1 : ByteArray} {b1_2 : ByteArray} {b1_3p : Option Addr} {b1_3l : Nat} {b1_3c : Nat} {b1_4p : Option Addr} {b1_4l : Nat} {b1_4c : Nat} {b1_5 : ByteArray} {w : World} {J : Bool → World → Prop} (h : VC_ref05_Same a0_0 a0_1 a0_2 a0_3p a0_3l a0_3c a0_4p a0_4l a0_4c a0_5 b1_0 b1_1 b1_2 b1_3p b1_3l b1_3c b1_4p b1_4l b1_4c b1_5 w J) : callJ Tryd.prog fn_ref05_Same #[.agg ⟨[.int .i64 a0_0, .string a0_1, .string a0_2, .slice a0_3p a0_3l a0_3c, .slice a0_4p a0_4l a0_4c, .string a0_5]⟩, .agg ⟨[.int .i64 b1_0, .string b1_1, .string b1_2, .slice b1_3p b1_3l b1_3c, .slice b1_4p b1_4l b1_4c, .string b1_5]⟩] w [.one .bool] J := vc_calls Tryd.func10 ann_ref05_Same (Eq.mpr (eq_ref05_Same a0_0 a0_1 a0_2 a0_3p a0_3l a0_3c a0_4p a0_4l a0_4c a0_5 b1_0 b1_1 b1_2 b1_3p b1_3l b1_3c b1_4p b1_4l b1_4c b1_5 w J) h)

/-- lectern/lecternref05.SameInts -/
def VC_ref05_SameInts (a0p : Option Addr) (a0l : Nat) (a0c : Nat) (b1p : Option Addr) (b1l : Nat) (b1c : Nat) (w : World) (J : Bool → World → Prop) : Prop :=
  condB (((a0l : Nat) : Int) != ((b1l : Nat) : Int)) (
  J false w) (
  ∃ I_13 : Int → World → Nat → Prop, (∃ m : Nat, I_13 (0 : Int) w m) ∧ ∀ (x13 : Int) (w1 : World) (m : Nat), I_13 x13 w1 m → (
  condB (decide (x13 < ((a0l : Nat) : Int))) (
  idxA a0p a0l x13 fun a18 =>
  ldI .i64 w1.drew ((a18.add (x13.toNat * 1))) fun x19 =>
  idxA b1p b1l x13 fun a22 =>
  ldI .i64 w1.drew ((a22.add (x13.toNat * 1))) fun x23 =>
  condB (x19 != x23) (
  J false w1.drew) (
  ∃ m' : Nat, m' < m ∧ I_13 (w64 (x13 + (1 : Int))) w1.drew m')) (
  J true w1)))
def ann_ref05_SameInts : Ann := .s (.o) (.s (.s (.o) (.c (.s (.o) (.o)) (.o))) (.s (.s (.o) (.b (.l [(13, .int .i64)] (.s (.o) (.s (.c (.o) (.o)) (.s (.b (.s (.o) (.s (.d (.take 0 (.take 1 (.take 2 (.take 3 (.take 4 (.take 5 (.take 6 (.take 7 (.take 8 (.done))))))))))) (.c (.s (.o) (.o)) (.o))))) (.o))))))) (.s (.o) (.o))))
theorem eq_ref05_SameInts (a0p : Option Addr) (a0l : Nat) (a0c : Nat) (b1p : Option Addr) (b1l : Nat) (b1c : Nat) (w : World) (J : Bool → World → Prop) : vcFun Tryd.prog Tryd.f14 ann_ref05_SameInts [.one .bool] [.slice a0p a0l a0c, .slice b1p b1l b1c] w J = VC_ref05_SameInts a0p a0l a0c b1p b1l b1c w J := by kernel_rfl
theorem c_ref05_SameInts {a0p : Option Addr} {a0l : Nat} {a0c : Nat} {b1p : Option Addr} {b1l : Nat} {b1c : Nat} {w : World} {J : Bool → World → Prop} (h : VC_ref05_SameInts a0p a0l a0c b1p b1l b1c w J) : callJ Tryd.prog fn_ref05_SameInts #[.slice a0p a0l a0c, .slice b1p b1l b1c] w [.one .bool] J := vc_calls Tryd.func14 ann_ref05_SameInts (Eq.mpr (eq_ref05_SameInts a0p a0l a0c b1p b1l b1c w J) h)

end Go.Proofs.YtkgfbphdmnapdaaDoor
