/- What the conditions of these functions are, reckoned by the reading; printed by program. -/
import Derived.Test.YtgplflecgnldeaaNm
import Derived.KernelRfl
set_option maxRecDepth 100000
set_option linter.unusedVariables false
namespace Go.Proofs.Ytgplflecgnldeaa
open Go Go.Vc

/-- lectern/num.Put -/
def VC_num_Put (b0p : Option Addr) (b0l : Nat) (b0c : Nat) (n1 : Int) (wide2 : Int) (w : World) (J : Option Addr → Nat → Nat → World → Prop) : Prop :=
  ∃ I_0 : Option Addr → Nat → Nat → Int → World → Nat → Prop, (∃ m : Nat, I_0 b0p b0l b0c (w64 (wide2 - (1 : Int))) w m) ∧ ∀ (b0p : Option Addr) (b0l : Nat) (b0c : Nat) (i7 : Int) (w1 : World) (m : Nat), I_0 b0p b0l b0c i7 w1 m → (
  condB (decide (i7 ≥ (0 : Int))) (
  0 ≤ (w64 ((8 : Int) * i7)) ∧
  newB w1 (.cells ⟨[.int .u8 (IntKind.u8.wrap (shrI .u64 n1 (w64 ((8 : Int) * i7))))]⟩ T_uint8) fun b20 w2 =>
  appJ Try.prog T_sl_uint8 T_sl_uint8 (.slice b0p b0l b0c) (.slice (some ⟨b20, 0, none⟩) 1 1) w2 fun q21p q21l q21c w3 =>
  ∃ m' : Nat, m' < m ∧ I_0 q21p q21l q21c (w64 (i7 - (1 : Int))) w3 m') (
  J b0p b0l b0c w1))
def ann_num_Put : Ann := .s (.o) (.s (.s (.o) (.b (.l [(0, .slice), (7, .int .i64)] (.s (.s (.o) (.c (.o) (.o))) (.s (.b (.o)) (.o)))))) (.s (.o) (.o)))
theorem eq_num_Put (b0p : Option Addr) (b0l : Nat) (b0c : Nat) (n1 : Int) (wide2 : Int) (w : World) (J : Option Addr → Nat → Nat → World → Prop) : vcFun Try.prog Try.f34 ann_num_Put [.one .slice] [.slice b0p b0l b0c, .int .u64 n1, .int .i64 wide2] w J = VC_num_Put b0p b0l b0c n1 wide2 w J := by kernel_rfl
theorem c_num_Put {b0p : Option Addr} {b0l : Nat} {b0c : Nat} {n1 : Int} {wide2 : Int} {w : World} {J : Option Addr → Nat → Nat → World → Prop} (h : VC_num_Put b0p b0l b0c n1 wide2 w J) : callJ Try.prog fn_num_Put #[.slice b0p b0l b0c, .int .u64 n1, .int .i64 wide2] w [.one .slice] J := vc_calls Try.func34 ann_num_Put (Eq.mpr (eq_num_Put b0p b0l b0c n1 wide2 w J) h)

/-- lectern/num.Of -/
def VC_num_Of (b0p : Option Addr) (b0l : Nat) (b0c : Nat) (wide1 : Int) (w : World) (J : Int → World → Prop) : Prop :=
  slS b0p b0l b0c 1 none (some wide1) none fun q10p q10l q10c =>
  ∃ I_5 : Int → Int → World → Nat → Prop, (∃ m : Nat, I_5 (0 : Int) (0 : Int) w m) ∧ ∀ (n5 : Int) (x12 : Int) (w1 : World) (m : Nat), I_5 n5 x12 w1 m → (
  condB (decide (x12 < ((q10l : Nat) : Int))) (
  idxA q10p q10l x12 fun a14 =>
  ldI .u8 w1 ((a14.add (x12.toNat * 1))) fun x15 =>
  0 ≤ (8 : Int) ∧
  ∃ m' : Nat, m' < m ∧ I_5 (bOr .u64 (shlI .u64 n5 (8 : Int)) (IntKind.u64.wrap x15)) (w64 (x12 + (1 : Int))) w1 m') (
  J n5 w1))
def ann_num_Of : Ann := .s (.o) (.s (.o) (.s (.s (.o) (.b (.l [(5, .int .u64), (12, .int .i64)] (.s (.o) (.s (.c (.o) (.o)) (.s (.b (.s (.o) (.o))) (.o))))))) (.s (.o) (.o))))
theorem eq_num_Of (b0p : Option Addr) (b0l : Nat) (b0c : Nat) (wide1 : Int) (w : World) (J : Int → World → Prop) : vcFun Try.prog Try.f38 ann_num_Of [.one (.int .u64)] [.slice b0p b0l b0c, .int .i64 wide1] w J = VC_num_Of b0p b0l b0c wide1 w J := by kernel_rfl
theorem c_num_Of {b0p : Option Addr} {b0l : Nat} {b0c : Nat} {wide1 : Int} {w : World} {J : Int → World → Prop} (h : VC_num_Of b0p b0l b0c wide1 w J) : callJ Try.prog fn_num_Of #[.slice b0p b0l b0c, .int .i64 wide1] w [.one (.int .u64)] J := vc_calls Try.func38 ann_num_Of (Eq.mpr (eq_num_Of b0p b0l b0c wide1 w J) h)

/-- lectern/tape.Sum -/
def VC_tape_Sum (p0p : Option Addr) (p0l : Nat) (p0c : Nat) (w : World) (J : Int → World → Prop) : Prop :=
  ∃ I_3 : Int → Int → World → Nat → Prop, (∃ m : Nat, I_3 (4294967295 : Int) (0 : Int) w m) ∧ ∀ (c3 : Int) (x9 : Int) (w1 : World) (m : Nat), I_3 c3 x9 w1 m → (
  condB (decide (x9 < ((p0l : Nat) : Int))) (
  idxA p0p p0l x9 fun a11 =>
  ldI .u8 w1 ((a11.add (x9.toNat * 1))) fun x12 =>
  ∃ I_3_1 : Int → Int → World → Nat → Prop, (∃ m : Nat, I_3_1 (bXor .u32 c3 (IntKind.u32.wrap x12)) (0 : Int) w1 m) ∧ ∀ (c3_1 : Int) (x17 : Int) (w2 : World) (m_1 : Nat), I_3_1 c3_1 x17 w2 m_1 → (
  condB (decide (x17 < (8 : Int))) (
  withJ (fun (c3_2 : Int) (w3 : World) =>
  ∃ m' : Nat, m' < m_1 ∧ I_3_1 c3_2 (w64 (x17 + (1 : Int))) w3 m') fun J_3 =>
  0 ≤ (1 : Int) ∧
  condB ((bAnd .u32 c3_1 (1 : Int)) == (1 : Int)) (
  J_3 (bXor .u32 (shrI .u32 c3_1 (1 : Int)) (3988292384 : Int)) w2) (
  J_3 (shrI .u32 c3_1 (1 : Int)) w2)) (
  ∃ m' : Nat, m' < m ∧ I_3 c3_1 (w64 (x9 + (1 : Int))) w2 m'))) (
  J (bNot .u32 c3) w1))
def ann_tape_Sum : Ann := .s (.o) (.s (.o) (.s (.s (.o) (.b (.l [(3, .int .u32), (9, .int .i64)] (.s (.o) (.s (.c (.o) (.o)) (.s (.b (.s (.o) (.s (.o) (.s (.o) (.b (.l [(3, .int .u32), (17, .int .i64)] (.s (.o) (.s (.c (.o) (.o)) (.j [(3, .int .u32)] (.b (.s (.o) (.s (.o) (.s (.o) (.c (.o) (.o)))))) (.o)))))))))) (.o))))))) (.s (.o) (.o))))
theorem eq_tape_Sum (p0p : Option Addr) (p0l : Nat) (p0c : Nat) (w : World) (J : Int → World → Prop) : vcFun Try.prog Try.f35 ann_tape_Sum [.one (.int .u32)] [.slice p0p p0l p0c] w J = VC_tape_Sum p0p p0l p0c w J := by kernel_rfl
theorem c_tape_Sum {p0p : Option Addr} {p0l : Nat} {p0c : Nat} {w : World} {J : Int → World → Prop} (h : VC_tape_Sum p0p p0l p0c w J) : callJ Try.prog fn_tape_Sum #[.slice p0p p0l p0c] w [.one (.int .u32)] J := vc_calls Try.func35 ann_tape_Sum (Eq.mpr (eq_tape_Sum p0p p0l p0c w J) h)

/-- bytes.Equal -/
def VC_bytes_Equal (a0p : Option Addr) (a0l : Nat) (a0c : Nat) (b1p : Option Addr) (b1l : Nat) (b1c : Nat) (w : World) (J : Bool → World → Prop) : Prop :=
  bytesOf w a0p a0l fun bs6 =>
  bytesOf w b1p b1l fun bs8 =>
  J ((⟨bs6.toArray⟩ : ByteArray).toList == (⟨bs8.toArray⟩ : ByteArray).toList) w
def ann_bytes_Equal : Ann := .s (.o) (.s (.o) (.o))
theorem eq_bytes_Equal (a0p : Option Addr) (a0l : Nat) (a0c : Nat) (b1p : Option Addr) (b1l : Nat) (b1c : Nat) (w : World) (J : Bool → World → Prop) : vcFun Try.prog Try.f39 ann_bytes_Equal [.one .bool] [.slice a0p a0l a0c, .slice b1p b1l b1c] w J = VC_bytes_Equal a0p a0l a0c b1p b1l b1c w J := by kernel_rfl
theorem c_bytes_Equal {a0p : Option Addr} {a0l : Nat} {a0c : Nat} {b1p : Option Addr} {b1l : Nat} {b1c : Nat} {w : World} {J : Bool → World → Prop} (h : VC_bytes_Equal a0p a0l a0c b1p b1l b1c w J) : callJ Try.prog fn_bytes_Equal #[.slice a0p a0l a0c, .slice b1p b1l b1c] w [.one .bool] J := vc_calls Try.func39 ann_bytes_Equal (Eq.mpr (eq_bytes_Equal a0p a0l a0c b1p b1l b1c w J) h)

end Go.Proofs.Ytgplflecgnldeaa
