/- What the conditions of these functions are, reckoned by the reading; printed by program. -/
import Derived.Test.YtgplflecgnldeaaNm
import Derived.KernelRfl
set_option maxRecDepth 100000
set_option linter.unusedVariables false
namespace Go.Proofs.Ytgplflecgnldeaa
open Go Go.Vc

/-- bytes.Count -/
def VC_bytes_Count (s0p : Option Addr) (s0l : Nat) (s0c : Nat) (sep1p : Option Addr) (sep1l : Nat) (sep1c : Nat) (w : World) (J : Int → World → Prop) : Prop :=
  condB (((sep1l : Nat) : Int) == (0 : Int)) (
  callJ Try.prog fn_unicode_utf8_RuneCount #[.slice s0p s0l s0c] w [.one (.int .i64)] fun (r11 : Int) (w1 : World) =>
  J (w64 (r11 + (1 : Int))) w1) (
  condB (((sep1l : Nat) : Int) == (1 : Int)) (
  idxA sep1p sep1l (0 : Int) fun a18 =>
  ldI .u8 w ((a18.add ((0 : Int).toNat * 1))) fun x19 =>
  extJ Try.prog fn_internal_bytealg_Count #[.slice s0p s0l s0c, .int .u8 x19] w [.one (.int .i64)] fun (r20 : Int) (w2 : World) =>
  J r20 w2) (
  ∃ I_0 : Option Addr → Nat → Nat → Int → World → Nat → Prop, (∃ m : Nat, I_0 s0p s0l s0c (0 : Int) w m) ∧ ∀ (s0p : Option Addr) (s0l : Nat) (s0c : Nat) (n5 : Int) (w3 : World) (m : Nat), I_0 s0p s0l s0c n5 w3 m → (
  callJ Try.prog fn_bytes_Index #[.slice s0p s0l s0c, .slice sep1p sep1l sep1c] w3 [.one (.int .i64)] fun (r23 : Int) (w4 : World) =>
  condB (r23 == (-1 : Int)) (
  J n5 w4) (
  slS s0p s0l s0c 1 (some (w64 (r23 + ((sep1l : Nat) : Int)))) none none fun q34p q34l q34c =>
  ∃ m' : Nat, m' < m ∧ I_0 q34p q34l q34c (w64 (n5 + (1 : Int))) w4 m'))))
def ann_bytes_Count : Ann := .s (.o) (.s (.s (.o) (.c (.s (.o) (.o)) (.o))) (.s (.s (.o) (.c (.s (.o) (.o)) (.o))) (.s (.o) (.b (.l [(0, .slice), (5, .int .i64)] (.b (.s (.o) (.s (.s (.o) (.c (.s (.o) (.o)) (.o))) (.s (.o) (.o))))))))))
theorem eq_bytes_Count (s0p : Option Addr) (s0l : Nat) (s0c : Nat) (sep1p : Option Addr) (sep1l : Nat) (sep1c : Nat) (w : World) (J : Int → World → Prop) : vcFun Try.prog Try.f42 ann_bytes_Count [.one (.int .i64)] [.slice s0p s0l s0c, .slice sep1p sep1l sep1c] w J = VC_bytes_Count s0p s0l s0c sep1p sep1l sep1c w J := by kernel_rfl
theorem c_bytes_Count {s0p : Option Addr} {s0l : Nat} {s0c : Nat} {sep1p : Option Addr} {sep1l : Nat} {sep1c : Nat} {w : World} {J : Int → World → Prop} (h : VC_bytes_Count s0p s0l s0c sep1p sep1l sep1c w J) : callJ Try.prog fn_bytes_Count #[.slice s0p s0l s0c, .slice sep1p sep1l sep1c] w [.one (.int .i64)] J := vc_calls Try.func42 ann_bytes_Count (Eq.mpr (eq_bytes_Count s0p s0l s0c sep1p sep1l sep1c w J) h)

/-- bytes.Clone -/
def VC_bytes_Clone (b0p : Option Addr) (b0l : Nat) (b0c : Nat) (w : World) (J : Option Addr → Nat → Nat → World → Prop) : Prop :=
  condB b0p.isNone (
  J none 0 0 w) (
  newB w (.cells ⟨[]⟩ T_uint8) fun b5 w1 =>
  appJ Try.prog T_sl_uint8 T_sl_uint8 (.slice (some ⟨b5, 0, none⟩) 0 0) (.slice b0p b0l b0c) w1 fun q7p q7l q7c w2 =>
  J q7p q7l q7c w2)
def ann_bytes_Clone : Ann := .s (.o) (.s (.s (.o) (.c (.s (.o) (.o)) (.o))) (.s (.o) (.o)))
theorem eq_bytes_Clone (b0p : Option Addr) (b0l : Nat) (b0c : Nat) (w : World) (J : Option Addr → Nat → Nat → World → Prop) : vcFun Try.prog Try.f43 ann_bytes_Clone [.one .slice] [.slice b0p b0l b0c] w J = VC_bytes_Clone b0p b0l b0c w J := by kernel_rfl
theorem c_bytes_Clone {b0p : Option Addr} {b0l : Nat} {b0c : Nat} {w : World} {J : Option Addr → Nat → Nat → World → Prop} (h : VC_bytes_Clone b0p b0l b0c w J) : callJ Try.prog fn_bytes_Clone #[.slice b0p b0l b0c] w [.one .slice] J := vc_calls Try.func43 ann_bytes_Clone (Eq.mpr (eq_bytes_Clone b0p b0l b0c w J) h)

end Go.Proofs.Ytgplflecgnldeaa
