/- What the conditions of these functions are, reckoned by the reading; printed by program. -/
import Derived.Test.YtkgfbphdmnapdaaGreatDoorNm
import Derived.KernelRfl
set_option maxRecDepth 100000
set_option linter.unusedVariables false
namespace Go.Proofs.YtkgfbphdmnapdaaGreatDoor
open Go Go.Vc

/-- lectern/lecternref04.SameAttrs -/
def VC_ref04_SameAttrs (a0p : Option Addr) (a0l : Nat) (a0c : Nat) (b1p : Option Addr) (b1l : Nat) (b1c : Nat) (w : World) (J : Bool → World → Prop) : Prop :=
  condB (((a0l : Nat) : Int) != ((b1l : Nat) : Int)) (
  J false w) (
  ∃ I_13 : Int → World → Nat → Prop, (∃ m : Nat, I_13 (0 : Int) w m) ∧ ∀ (x13 : Int) (w1 : World) (m : Nat), I_13 x13 w1 m → (
  condB (decide (x13 < ((a0l : Nat) : Int))) (
  idxA a0p a0l x13 fun a18 =>
  ldStr w1.drew ((a18.add (x13.toNat * 3))) fun x19_0 =>
  ldStr w1.drew (((a18.add (x13.toNat * 3)).add 1)) fun x19_1 =>
  ldStr w1.drew (((a18.add (x13.toNat * 3)).add 2)) fun x19_2 =>
  idxA b1p b1l x13 fun a22 =>
  ldStr w1.drew ((a22.add (x13.toNat * 3))) fun x23_0 =>
  ldStr w1.drew (((a22.add (x13.toNat * 3)).add 1)) fun x23_1 =>
  ldStr w1.drew (((a22.add (x13.toNat * 3)).add 2)) fun x23_2 =>
  condB (!(((x19_0.toList == x23_0.toList) && ((x19_1.toList == x23_1.toList) && true)) && ((x19_2.toList == x23_2.toList) && true))) (
  J false w1.drew) (
  ∃ m' : Nat, m' < m ∧ I_13 (w64 (x13 + (1 : Int))) w1.drew m')) (
  J true w1)))
def ann_ref04_SameAttrs : Ann := .s (.o) (.s (.s (.o) (.c (.s (.o) (.o)) (.o))) (.s (.s (.o) (.b (.l [(13, .int .i64)] (.s (.o) (.s (.c (.o) (.o)) (.s (.b (.s (.o) (.s (.d (.take 0 (.take 1 (.take 2 (.take 3 (.take 4 (.take 5 (.take 6 (.take 7 (.take 8 (.done))))))))))) (.c (.s (.o) (.o)) (.o))))) (.o))))))) (.s (.o) (.o))))
theorem eq_ref04_SameAttrs (a0p : Option Addr) (a0l : Nat) (a0c : Nat) (b1p : Option Addr) (b1l : Nat) (b1c : Nat) (w : World) (J : Bool → World → Prop) : vcFun Tryz.prog Tryz.f23 ann_ref04_SameAttrs [.one .bool] [.slice a0p a0l a0c, .slice b1p b1l b1c] w J = VC_ref04_SameAttrs a0p a0l a0c b1p b1l b1c w J := by kernel_rfl
theorem c_ref04_SameAttrs {a0p : Option Addr} {a0l : Nat} {a0c : Nat} {b1p : Option Addr} {b1l : Nat} {b1c : Nat} {w : World} {J : Bool → World → Prop} (h : VC_ref04_SameAttrs a0p a0l a0c b1p b1l b1c w J) : callJ Tryz.prog fn_ref04_SameAttrs #[.slice a0p a0l a0c, .slice b1p b1l b1c] w [.one .bool] J := vc_calls Tryz.func23 ann_ref04_SameAttrs (Eq.mpr (eq_ref04_SameAttrs a0p a0l a0c b1p b1l b1c w J) h)

/-- lectern/lecternref04.Before -/
def VC_ref04_Before (a0_0 : ByteArray) (a0_1 : ByteArray) (b1_0 : ByteArray) (b1_1 : ByteArray) (w : World) (J : Bool → World → Prop) : Prop :=
  newB w (.cells ⟨[.string a0_0, .string a0_1]⟩ T_api_Name) fun b2 w1 =>
  newB w1 (.cells ⟨[.string b1_0, .string b1_1]⟩ T_api_Name) fun b3 w2 =>
  withJ (fun (x4 : Bool) (w3 : World) =>
  J x4 w3) fun J_4 =>
  ldStr w2 ⟨b2, 0, none⟩ fun x6 =>
  ldStr w2 ⟨b3, 0, none⟩ fun x8 =>
  condB (Op.bytesLess x6.toList x8.toList) (
  J_4 true w2) (
  ldStr w2 ⟨b2, 0, none⟩ fun x12 =>
  ldStr w2 ⟨b3, 0, none⟩ fun x14 =>
  condB (x12.toList == x14.toList) (
  ldStr w2 ⟨b2, 1, none⟩ fun x18 =>
  ldStr w2 ⟨b3, 1, none⟩ fun x20 =>
  J_4 (Op.bytesLess x18.toList x20.toList) w2) (
  J_4 false w2))
def ann_ref04_Before : Ann := .s (.o) (.j [(4, .bool)] (.o) (.o))
theorem eq_ref04_Before (a0_0 : ByteArray) (a0_1 : ByteArray) (b1_0 : ByteArray) (b1_1 : ByteArray) (w : World) (J : Bool → World → Prop) : vcFun Tryz.prog Tryz.f75 ann_ref04_Before [.one .bool] [.agg ⟨[.string a0_0, .string a0_1]⟩, .agg ⟨[.string b1_0, .string b1_1]⟩] w J = VC_ref04_Before a0_0 a0_1 b1_0 b1_1 w J := by kernel_rfl
theorem c_ref04_Before {a0_0 : ByteArray} {a0_1 : ByteArray} {b1_0 : ByteArray} {b1_1 : ByteArray} {w : World} {J : Bool → World → Prop} (h : VC_ref04_Before a0_0 a0_1 b1_0 b1_1 w J) : callJ Tryz.prog fn_ref04_Before #[.agg ⟨[.string a0_0, .string a0_1]⟩, .agg ⟨[.string b1_0, .string b1_1]⟩] w [.one .bool] J := vc_calls Tryz.func75 ann_ref04_Before (Eq.mpr (eq_ref04_Before a0_0 a0_1 b1_0 b1_1 w J) h)

end Go.Proofs.YtkgfbphdmnapdaaGreatDoor
